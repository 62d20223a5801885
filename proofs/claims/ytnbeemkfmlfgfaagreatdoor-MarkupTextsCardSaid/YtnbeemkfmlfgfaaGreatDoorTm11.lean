/- Part 11 of 48 of a proof. No condition. -/
import Derived.Test.YtnbeemkfmlfgfaaGreatDoorTm8
set_option maxRecDepth 100000
set_option maxHeartbeats 400000
namespace Go.Proofs.YtnbeemkfmlfgfaaGreatDoor
namespace U
abbrev Bytes:=List UInt8
abbrev aA:=List (Bytes×Bytes)
inductive E where
 |mk (name:Bytes) (attrs:aA) (kids:List E) (text:Bytes)
namespace E
def name:E→Bytes|mk n _ _ _=>n
def attrs:E→aA|mk _ a _ _=>a
def kids:E→List E|mk _ _ k _=>k
def text:E→Bytes|mk _ _ _ t=>t
end E
theorem E.eta(e:E):e=.mk e.name e.attrs e.kids e.text:=by cases e;rfl
mutual
def count:E→Nat
 |.mk _ _ ks _=>1+aj ks
def aj:List E→Nat
 |[]=>0
 |n::ns=>count n+aj ns
end
mutual
def depth:E→Nat
 |.mk _ _ ks _=>aP ks+1
def aP:List E→Nat
 |[]=>0
 |n::ns=>max (depth n) (aP ns)
end
theorem gQ(n:E):0<count n:=by cases n;rw[count];omega
theorem aI(n:E):count n=1+aj n.kids:=by cases n;rw[count];rfl
theorem mP(n:E):depth n=aP n.kids+1:=by cases n;rw[depth];rfl
theorem oo(l:List E)(i:Nat)(h:i<l.length):aj (l.take (i+1))=aj (l.take i)+count l[i]:=by
 induction l generalizing i with
 |nil=>simp at h
 |cons x l ih=>
  cases i with
  |zero=>simp[aj]
  |succ i=>
   simp only[List.take_succ_cons,aj,List.getElem_cons_succ];rw[ih i (by simpa using h)];omega
theorem Cj(l m:List E):aj (l++m)=aj l+aj m:=by
 induction l with
 |nil=>simp[aj]
 |cons x l ih=>rw[List.cons_append,aj,aj,ih];omega
theorem vZ(l m:List E):aP (l++m)=max (aP l) (aP m):=by
 induction l with
 |nil=>simp[aP]
 |cons x l ih=>rw[List.cons_append,aP,aP,ih];omega
theorem xJ(l:List E)(i:Nat)(h:i<l.length):aP (l.take (i+1))=max (aP (l.take i)) (depth l[i]):=by
 rw[List.take_add_one,List.getElem?_eq_getElem h,vZ];simp[aP]
theorem kV(l:List E)(i:Nat):aj (l.take i)≤aj l:=by
 induction l generalizing i with
 |nil=>simp[aj]
 |cons x l ih=>
  cases i with
  |zero=>simp[aj]
  |succ i=>simp only[List.take_succ_cons,aj];have:=ih i;omega
theorem dm{l:List E}{n:E}(h:n∈l):count n≤aj l:=by
 induction l with
 |nil=>cases h
 |cons x l ih=>
  rw[aj]
  rcases List.mem_cons.1 h with rfl|h
  ·omega
  ·have:=ih h;omega
theorem Vh{l:List E}{n:E}(h:n∈l):depth n≤aP l:=by
 induction l with
 |nil=>cases h
 |cons x l ih=>
  rw[aP]
  rcases List.mem_cons.1 h with rfl|h
  ·omega
  ·have:=ih h;omega
theorem gL(l:List E):l.length≤aj l:=by
 induction l with
 |nil=>simp[aj]
 |cons x l ih=>rw[aj];have:=gQ x;simp;omega
theorem E.ind{p:E→Prop}(h:∀n,(∀m∈n.kids,p m)→p n)(n:E):p n:=by
 have:∀k n,count n≤k→p n:=by
  intro k
  induction k with
  |zero=>intro n hn;have:=gQ n;omega
  |succ k ih=>
   intro n hn;refine h n fun m hm=>ih m ?_
   have:=dm hm;have:=aI n;omega
 exact this _ n (Nat.le_refl _)
def letter(b:UInt8):Bool:=(decide (97≤b)&&decide (b≤122))||(decide (65≤b)&&decide (b≤90))
def inner(b:UInt8):Bool:=letter b||(decide (48≤b)&&decide (b≤57))||b==45
def aK(b:UInt8):Bool:=decide (32≤b)&&decide (b≤126)
def eG:Bytes→Bool
 |[]=>false
 |b::s=>letter b&&s.all inner
def bG(s:Bytes):Bool:=s.all aK&&decide (s.length≤200)
def dQ(a:aA):Bool:=a.all (fun x=>eG x.1&&bG x.2)&&decide (a.map (·.1)).Nodup
def pM(e:E):Bool:=eG e.name&&bG e.text&&(e.text.isEmpty||e.kids.isEmpty)&&decide (e.attrs.length≤8)&&dQ e.attrs
mutual
def proper:E→Bool
 |.mk n a ks t=>pM (.mk n a ks t)&&jI ks
def jI:List E→Bool
 |[]=>true
 |x::xs=>proper x&&jI xs
end
def valid(e:E):Bool:=proper e&&decide (count e≤3000)&&decide (depth e≤64)
theorem mX(e:E):proper e=(pM e&&jI e.kids):=by cases e;rw[proper];rfl
theorem kZ(l:List E):jI l=l.all proper:=by
 induction l with
 |nil=>rw[jI];rfl
 |cons x l ih=>rw[jI,ih,List.all_cons]
mutual
def eqE:E→E→Bool
 |.mk n a ks t,.mk n' a' ks' t'=>n==n'&&a==a'&&t==t'&&qI ks ks'
def qI:List E→List E→Bool
 |[],[]=>true
 |n::ns,m::ms=>eqE n m&&qI ns ms
 |_,_=>false
end
end U
namespace Xp
open U (E aA Bytes letter inner aK)
inductive Rs(α:Type) where
 |ok (x:α) (l:Bytes) (c:Nat)
 |bad (l:Bytes)
def white(b:UInt8):Bool:=b==32||b==9||b==10||b==13
def aL(b:UInt8)(c:Nat):Bytes→Rs Unit
 |[]=>.bad []
 |x::l=>if x=b then .ok () l c else .bad (x::l)
def jy(c:Nat):Bytes→Rs Bytes
 |[]=>.bad []
 |x::l=>if letter x then .ok ((x::l).takeWhile inner) ((x::l).dropWhile inner) c else .bad (x::l)
def bI:List (Bytes×UInt8):=[([38,97,109,112,59],38),([38,108,116,59],60),([38,103,116,59],62),([38,113,117,111,116,59],34)]
def pre(s t:Bytes):Bool:=t.take s.length==s
def bn(c:Nat):Bytes→Bytes→Rs UInt8
 |_,[]=>.bad []
 |p,b::l=>match bI.find? (fun x=>x.1==p++[b])with
  |some x=>.ok x.2 l c
  |none=>if bI.any (fun x=>pre (p++[b]) x.1)then bn c (p++[b]) l else .bad (b::l)
def gZ(n c:Nat):Bytes→Rs UInt8
 |[]=>.bad []
 |b::l=>if 200≤n∨b=60∨aK b=false then .bad (b::l)else if b=38 then bn c [] (b::l)else .ok b l c
def bY(q:UInt8)(c:Nat):Nat→Bytes→Bytes→Rs Bytes
 |0,_,l=>.bad l
 |f+1,acc,l=>match l with
  |[]=>.bad []
  |b::l'=>if b=q then .ok acc (b::l') c else match gZ acc.length c (b::l')with
   |.bad l2=>.bad l2
   |.ok x l2 _=>bY q c f (acc++[x]) l2
def gH(aB:aA)(c:Nat)(l:Bytes):Rs (Bytes×Bytes):=match jy c l with
 |.bad l1=>.bad l1
 |.ok nm l1 _=>match l1 with
  |[]=>.bad []
  |b::l2=>if b≠61∨aB.any (fun x=>x.1==nm)=true then .bad (b::l2)else match aL 34 c l2 with
   |.bad l3=>.bad l3
   |.ok _ l3 _=>match bY 34 c (l3.length+1) [] l3 with
    |.bad l4=>.bad l4
    |.ok v l4 _=>.ok (nm,v) (l4.drop 1) c
def iK(c:Nat):Nat→aA→Bytes→Rs (aA×Bool)
 |0,_,l=>.bad l
 |f+1,aB,l=>match l.dropWhile white with
  |[]=>.bad []
  |b::l2=>if b=47 then(match aL 62 c l2 with
    |.bad l3=>.bad l3
    |.ok _ l3 _=>.ok (aB,true) l3 c)
   else if b=62 then .ok (aB,false) l2 c
   else if(b::l2).length<l.length∧letter b=true∧aB.length<8 then(match gH aB c (b::l2)with
    |.bad l3=>.bad l3
    |.ok a l3 _=>iK c f (aB++[a]) l3)
   else .bad (b::l2)
def iX(c:Nat):Bytes→Bytes→Rs Unit
 |[],l=>.ok () l c
 |b::s,l=>match aL b c l with
  |.bad l1=>.bad l1
  |.ok _ l1 _=>iX c s l1
def fe(nm:Bytes)(c:Nat)(l:Bytes):Rs Unit:=match aL 47 c l with
 |.bad l1=>.bad l1
 |.ok _ l1 _=>match iX c nm l1 with
  |.bad l2=>.bad l2
  |.ok _ l2 _=>aL 62 c (l2.dropWhile white)
def fG(el:Bytes→Nat→Rs E):Nat→List E→Bytes→Nat→Rs (List E)
 |0,_,l,_=>.bad l
 |f+1,ks,l,c=>match l with
  |[]=>.bad []
  |b::l'=>if b=47 then .ok ks (b::l') c else match el (b::l') c with
   |.bad l1=>.bad l1
   |.ok e l1 c1=>match l1.dropWhile white with
    |[]=>.bad []
    |b2::l3=>if b2=60 then fG el f (ks++[e]) l3 c1 else .bad (b2::l3)
def bH(gap:Bytes):Bool:=gap.all (fun b=>b==32)&&decide (gap.length≤200)
def aD(el:Bytes→Nat→Rs E)(nm:Bytes)(l:Bytes)(c:Nat):Rs (List E×Bytes):=match l.dropWhile white with
 |[]=>.bad []
 |b::l2=>
  if b=60 then(match fG el (l2.length+1) [] l2 c with
   |.bad l3=>.bad l3
   |.ok ks l3 c3=>match fe nm c3 l3 with
    |.bad l4=>.bad l4
    |.ok _ l4 _=>.ok (ks,if bH (l.takeWhile white)&&ks.isEmpty then l.takeWhile white else []) l4 c3)
  else if bH (l.takeWhile white)=false then .bad (b::l2)
  else match bY 60 c ((b::l2).length+1) (l.takeWhile white) (b::l2)with
   |.bad l3=>.bad l3
   |.ok t l3 _=>match fe nm c (l3.drop 1)with
    |.bad l4=>.bad l4
    |.ok _ l4 _=>.ok ([],t) l4 c
def au:Nat→Bytes→Nat→Rs E
 |0,l,_=>.bad l
 |n+1,l,c=>match l with
  |[]=>.bad []
  |b::l'=>if letter b=false∨3000≤c then .bad (b::l')else match iK (c+1) 9 [] ((b::l').dropWhile inner)with
   |.bad l1=>.bad l1
   |.ok (aB,true) l1 _=>.ok (.mk ((b::l').takeWhile inner) aB [] []) l1 (c+1)
   |.ok (aB,false) l1 _=>match aD (au n) ((b::l').takeWhile inner) l1 (c+1)with
    |.bad l2=>.bad l2
    |.ok (ks,t) l2 c2=>.ok (.mk ((b::l').takeWhile inner) aB ks t) l2 c2
def dV(l:Bytes):Rs E:=match aL 60 0 (l.dropWhile white)with
 |.bad l1=>.bad l1
 |.ok _ l1 _=>match au 64 l1 0 with
  |.bad l2=>.bad l2
  |.ok e l2 c2=>match l2.dropWhile white with
   |[]=>.ok e [] c2
   |b::l3=>.bad (b::l3)
def uB:E:=.mk [] [] [] []
def dP(T:Bytes):E×Int×Int:=match dV T with
 |.ok e _ _=>(e,0,0)
 |.bad l=>(uB,(T.length:Int)-l.length,3)
def aX(l' l:Bytes):Prop:=∃p,l=p++l'
theorem aX.refl(l:Bytes):aX l l:=⟨[],rfl⟩
theorem aX.trans{a b c:Bytes}(h:aX a b)(h':aX b c):aX a c:=by
 obtain⟨p,rfl⟩:=h;obtain⟨q,rfl⟩:=h';exact⟨q++p,by rw[List.append_assoc]⟩
theorem aX.cons{a:Bytes}(b:UInt8):aX a (b::a):=⟨[b],rfl⟩
theorem aX.dropWhile(p:UInt8→Bool)(l:Bytes):aX (l.dropWhile p) l:=⟨l.takeWhile p,(List.takeWhile_append_dropWhile ..).symm⟩
theorem aX.len{a b:Bytes}(h:aX a b):a.length≤b.length:=by
 obtain⟨p,rfl⟩:=h;rw[List.length_append];omega
theorem aX.drop(n:Nat)(l:Bytes):aX (l.drop n) l:=⟨l.take n,(List.take_append_drop n l).symm⟩
def Rs.left{α:Type}:Rs α→Bytes
 |.ok _ l _=>l
 |.bad l=>l
theorem lg(b:UInt8)(c:Nat)(l:Bytes):aX (aL b c l).left l:=by
 cases l with
 |nil=>exact aX.refl _
 |cons x l=>
  show aX (if x=b then _ else _:Rs Unit).left _;split
  ·exact aX.cons _
  ·exact aX.refl _
theorem Sw(c:Nat)(l:Bytes):aX (jy c l).left l:=by
 cases l with
 |nil=>exact aX.refl _
 |cons x l=>
  show aX (if letter x then _ else _:Rs Bytes).left _;split
  ·exact aX.dropWhile _ _
  ·exact aX.refl _
theorem wh(c:Nat):∀(l p:Bytes),aX (bn c p l).left l
 |[],p=>by rw[bn];exact aX.refl _
 |b::l,p=>by
  rw[bn];split
  ·exact aX.cons _
  ·split
   ·exact(wh c l _).trans (aX.cons _)
   ·exact aX.refl _
theorem Sy(n c:Nat)(l:Bytes):aX (gZ n c l).left l:=by
 cases l with
 |nil=>exact aX.refl _
 |cons b l=>
  show aX (if _ then _ else if _ then _ else _:Rs UInt8).left _;split
  ·exact aX.refl _
  ·split
   ·exact wh c _ _
   ·exact aX.cons _
theorem Ck(q:UInt8)(c:Nat):∀(f:Nat) (acc l:Bytes),aX (bY q c f acc l).left l
 |0,_,l=>by rw[bY];exact aX.refl _
 |f+1,acc,[]=>by rw[bY];exact aX.refl _
 |f+1,acc,b::l=>by
  rw[bY];have h:=Sy acc.length c (b::l);split
  ·exact aX.refl _
  ·cases hc:gZ acc.length c (b::l)with
   |bad l2=>rw[hc]at h;exact h
   |ok x l2 c2=>rw[hc]at h;exact(Ck q c f _ l2).trans h
theorem Sz(aB:aA)(c:Nat)(l:Bytes):aX (gH aB c l).left l:=by
 unfold gH;have h:=Sw c l;cases hn:jy c l with
 |bad l1=>rw[hn]at h;exact h
 |ok nm l1 _=>
  rw[hn]at h;cases l1 with
  |nil=>exact h
  |cons b l2=>
   dsimp only
   split
   ·exact h
   ·have h2:=lg 34 c l2
    cases he:aL 34 c l2 with
    |bad l3=>rw[he]at h2;exact(h2.trans (aX.cons _)).trans h
    |ok u l3 _=>
     rw[he]at h2;have h3:=Ck 34 c (l3.length+1) [] l3
     dsimp only
     cases ht:bY 34 c (l3.length+1) [] l3 with
     |bad l4=>rw[ht]at h3;exact((h3.trans h2).trans (aX.cons _)).trans h
     |ok v l4 _=>rw[ht]at h3;exact((((aX.drop 1 l4).trans h3).trans h2).trans (aX.cons _)).trans h
theorem F7(c:Nat):∀(f:Nat) (aB:aA) (l:Bytes),aX (iK c f aB l).left l
 |0,_,l=>by rw[iK];exact aX.refl _
 |f+1,aB,l=>by
  rw[iK];have h:=aX.dropWhile white l;cases hd:l.dropWhile white with
  |nil=>rw[hd]at h;exact h
  |cons b l2=>
   rw[hd]at h
   dsimp only
   split
   ·have h2:=lg 62 c l2
    cases he:aL 62 c l2 with
    |bad l3=>rw[he]at h2;exact(h2.trans (aX.cons _)).trans h
    |ok u l3 _=>rw[he]at h2;exact(h2.trans (aX.cons _)).trans h
   ·split
    ·exact(aX.cons _).trans h
    ·split
     ·have h2:=Sz aB c (b::l2)
      cases ha:gH aB c (b::l2)with
      |bad l3=>rw[ha]at h2;exact h2.trans h
      |ok a l3 _=>rw[ha]at h2;exact((F7 c f _ l3).trans h2).trans h
     ·exact h
theorem KM(c:Nat):∀(s l:Bytes),aX (iX c s l).left l
 |[],l=>by rw[iX];exact aX.refl _
 |b::s,l=>by
  rw[iX];have h:=lg b c l;cases he:aL b c l with
  |bad l1=>rw[he]at h;exact h
  |ok u l1 _=>rw[he]at h;exact(KM c s l1).trans h
theorem KN(nm:Bytes)(c:Nat)(l:Bytes):aX (fe nm c l).left l:=by
 unfold fe;have h:=lg 47 c l;cases he:aL 47 c l with
 |bad l1=>rw[he]at h;exact h
 |ok u l1 _=>
  rw[he]at h;have h2:=KM c nm l1
  dsimp only
  cases hl:iX c nm l1 with
  |bad l2=>rw[hl]at h2;exact h2.trans h
  |ok v l2 _=>rw[hl]at h2;exact(((lg 62 c _).trans (aX.dropWhile white l2)).trans h2).trans h
theorem IB(el:Bytes→Nat→Rs E)(hel:∀l c,aX (el l c).left l):∀(f:Nat) (ks:List E) (l:Bytes) (c:Nat),aX (fG el f ks l c).left l
 |0,_,l,_=>by rw[fG];exact aX.refl _
 |f+1,ks,[],c=>by rw[fG];exact aX.refl _
 |f+1,ks,b::l,c=>by
  rw[fG];have h:=hel (b::l) c;split
  ·exact aX.refl _
  ·cases he:el (b::l) c with
   |bad l1=>rw[he]at h;exact h
   |ok e l1 c1=>
    rw[he]at h;have h2:=aX.dropWhile white l1
    dsimp only
    cases hd:l1.dropWhile white with
    |nil=>rw[hd]at h2;exact h2.trans h
    |cons b2 l3=>
     rw[hd]at h2
     dsimp only
     split
     ·exact(((IB el hel f _ l3 c1).trans (aX.cons _)).trans h2).trans h
     ·exact h2.trans h
theorem Mi(el:Bytes→Nat→Rs E)(hel:∀l c,aX (el l c).left l)(nm l:Bytes)(c:Nat):aX (aD el nm l c).left l:=by
 unfold aD;have h:=aX.dropWhile white l;cases hd:l.dropWhile white with
 |nil=>rw[hd]at h;exact h
 |cons b l2=>
  rw[hd]at h
  dsimp only
  split
  ·have h2:=IB el hel (l2.length+1) [] l2 c
   cases hk:fG el (l2.length+1) [] l2 c with
   |bad l3=>rw[hk]at h2;exact(h2.trans (aX.cons _)).trans h
   |ok ks l3 c3=>
    rw[hk]at h2;have h3:=KN nm c3 l3
    dsimp only
    cases he:fe nm c3 l3 with
    |bad l4=>rw[he]at h3;exact((h3.trans h2).trans (aX.cons _)).trans h
    |ok u l4 _=>rw[he]at h3;exact((h3.trans h2).trans (aX.cons _)).trans h
  ·split
   ·exact h
   ·have h2:=Ck 60 c ((b::l2).length+1) (l.takeWhile white) (b::l2)
    cases ht:bY 60 c ((b::l2).length+1) (l.takeWhile white) (b::l2)with
    |bad l3=>rw[ht]at h2;exact h2.trans h
    |ok t l3 _=>
     rw[ht]at h2;have h3:=KN nm c (l3.drop 1)
     dsimp only
     cases he:fe nm c (l3.drop 1)with
     |bad l4=>rw[he]at h3;exact((h3.trans (aX.drop 1 l3)).trans h2).trans h
     |ok u l4 _=>rw[he]at h3;exact((h3.trans (aX.drop 1 l3)).trans h2).trans h
theorem jQ:∀(n:Nat) (l:Bytes) (c:Nat),aX (au n l c).left l
 |0,l,_=>by rw[au];exact aX.refl _
 |n+1,[],c=>by rw[au];exact aX.refl _
 |n+1,b::l,c=>by
  rw[au];have h:=(F7 (c+1) 9 [] ((b::l).dropWhile inner)).trans (aX.dropWhile inner (b::l));split
  ·exact aX.refl _
  ·cases ha:iK (c+1) 9 [] ((b::l).dropWhile inner)with
   |bad l1=>rw[ha]at h;exact h
   |ok p l1 _=>
    rw[ha]at h;obtain⟨aB,z⟩:=p;cases z with
    |true=>exact h
    |false=>
     have h2:=Mi (au n) (jQ n) ((b::l).takeWhile inner) l1 (c+1)
     dsimp only
     cases hc:aD (au n) ((b::l).takeWhile inner) l1 (c+1)with
     |bad l2=>rw[hc]at h2;exact h2.trans h
     |ok q l2 c2=>rw[hc]at h2;exact h2.trans h
end Xp
namespace U
open Tr (Nd)
def bJ:Bytes:=[109,97,116,104]
def pO:Bytes:=[109,105]
def qC:Bytes:=[109,111]
def vL:Bytes:=[109,110]
def lF:Bytes:=[109,116,101,120,116]
def ah:Bytes:=[109,114,111,119]
def iL:Bytes:=[109,102,114,97,99]
def dK:Bytes:=[109,115,113,114,116]
def fo:Bytes:=[109,114,111,111,116]
def jo:Bytes:=[109,115,117,98]
def jq:Bytes:=[109,115,117,112]
def eF:Bytes:=[109,115,117,98,115,117,112]
def bF:Bytes:=[109,111,118,101,114]
def cK:Bytes:=[97,99,99,101,110,116]
def aT:Bytes:=[109,102,101,110,99,101,100]
def fK:Bytes:=[111,112,101,110]
def dM:Bytes:=[99,108,111,115,101]
def aU:Bytes:=[109,116,97,98,108,101]
def bM:Bytes:=[109,116,114]
def aJ:Bytes:=[109,116,100]
def grid{α:Type}(c:Nat)(l:List α):List (List α):=(List.range ((l.length+c-1)/c)).map fun r=>(l.drop (r*c)).take c
theorem uY{α:Type}(c:Nat)(hc:0<c)(l:List α)(i r:Nat)(h:r*c+c≤i):((l.take i).drop (r*c)).take c=(l.drop (r*c)).take c:=by
 rw[List.drop_take,List.take_take,Nat.min_eq_left (by omega)]
theorem zw(c k:Nat)(hc:0<c):(k*c+c-1)/c=k:=by
 rw[show k*c+c-1=c*k+(c-1) by rw[Nat.mul_comm];omega,Nat.mul_add_div hc,Nat.div_eq_of_lt (by omega)];omega
theorem FD(c k j:Nat)(hc:0<c)(hj:0<j)(hjc:j≤c):(k*c+j+c-1)/c=k+1:=by
 rw[show k*c+j+c-1=c*(k+1)+(j-1) by rw[Nat.mul_comm c,Nat.add_mul];omega,Nat.mul_add_div hc,Nat.div_eq_of_lt (by omega)]
theorem GY{α:Type}(c:Nat)(hc:0<c):grid c ([]:List α)=[]:=by
 unfold grid;rw[show(List.length ([]:List α)+c-1)/c=0 from Nat.div_eq_of_lt (by simp;omega)];rfl
theorem Y3{α:Type}(c:Nat)(hc:0<c)(l:List α)(k:Nat)(h:k*c+c≤l.length):grid c (l.take (k*c+c))=grid c (l.take (k*c))++[(l.drop (k*c)).take c]:=by
 unfold grid;rw[List.length_take,List.length_take,Nat.min_eq_left h,Nat.min_eq_left (by omega),zw c k hc,FD c k c hc hc (Nat.le_refl _),List.range_succ,List.map_append]
 congr 1
 ·refine List.map_congr_left fun r hr=>?_
  have hr:=List.mem_range.1 hr;have h1:r*c+c≤k*c:=by rw[←Nat.succ_mul];exact Nat.mul_le_mul_right _ hr
  rw[uY c hc l _ r (by omega),uY c hc l _ r h1]
 ·rw[List.map_singleton,uY c hc l _ k (Nat.le_refl _)]
theorem Y4{α:Type}(c:Nat)(hc:0<c)(l:List α)(k:Nat)(h:k*c<l.length):grid c (l.take (k*c+1))=grid c (l.take (k*c))++[[l[k*c]]]:=by
 unfold grid;rw[List.length_take,List.length_take,Nat.min_eq_left (by omega),Nat.min_eq_left (by omega),zw c k hc,FD c k 1 hc (by omega) hc,List.range_succ,List.map_append]
 congr 1
 ·refine List.map_congr_left fun r hr=>?_
  have hr:=List.mem_range.1 hr;have h1:r*c+c≤k*c:=by rw[←Nat.succ_mul];exact Nat.mul_le_mul_right _ hr
  rw[uY c hc l _ r (by omega),uY c hc l _ r h1]
 ·rw[List.map_singleton,List.drop_take,show k*c+1-k*c=1 by omega,List.take_take,Nat.min_eq_right (by omega),List.drop_eq_getElem_cons h]
  rfl
theorem Vi{α:Type}(c:Nat)(hc:0<c)(l:List α)(k j:Nat)(hj:0<j)(hjc:j<c)(h:k*c+j<l.length):
  ∃L r,grid c (l.take (k*c+j))=L++[r]∧grid c (l.take (k*c+j+1))=L++[r++[l[k*c+j]]]∧r.length=j:=by
 refine⟨(List.range k).map fun r=>(l.drop (r*c)).take c,(l.drop (k*c)).take j,?_,?_,?_⟩
 ·unfold grid
  rw[List.length_take,Nat.min_eq_left (by omega),FD c k j hc hj (by omega),List.range_succ,List.map_append]
  congr 1
  ·refine List.map_congr_left fun r hr=>?_
   have hr:=List.mem_range.1 hr;have h1:r*c+c≤k*c:=by rw[←Nat.succ_mul];exact Nat.mul_le_mul_right _ hr
   rw[uY c hc l _ r (by omega)]
  ·rw[List.map_singleton,List.drop_take,List.take_take,show min c (k*c+j-k*c)=j by omega]
 ·unfold grid
  rw[List.length_take,Nat.min_eq_left (by omega),show k*c+j+1=k*c+(j+1) by omega,FD c k (j+1) hc (by omega) (by omega),List.range_succ,List.map_append]
  congr 1
  ·refine List.map_congr_left fun r hr=>?_
   have hr:=List.mem_range.1 hr;have h1:r*c+c≤k*c:=by rw[←Nat.succ_mul];exact Nat.mul_le_mul_right _ hr
   rw[uY c hc l _ r (by omega)]
  ·rw[List.map_singleton,List.drop_take,List.take_take,show min c (k*c+(j+1)-k*c)=j+1 by omega,List.take_add_one,List.getElem?_drop,List.getElem?_eq_getElem h]
   rfl
 ·rw[List.length_take,List.length_drop];omega
def az(n:Bytes)(l:List E):E:=.mk n [] l []
def iR:Bytes→Bool
 |[]=>false
 |b::_=>letter b
def BG(k:Int)(t:Bytes)(c:Int)(ss:List (List E)):E:=
 if k=2 then .mk (if iR t then pO else qC) [] [] t
 else if k=3 then .mk vL [] [] t
 else if k=4 then .mk lF [] [] t
 else if k=6 then(match ss with
  |[]::r=>.mk dK [] (r.map (az ah)) []
  |a::b::_=>.mk fo [] [az ah b,az ah a] []
  |_=>.mk [] [] [] [])
 else if k=10 then .mk bF [(cK,t)] (ss.map (az ah)) []
 else if k=11 then .mk aT [(fK,t.take 1),(dM,t.drop 1)] (ss.map (az ah)) []
 else if k=12 then .mk aU [] ((grid c.toNat (ss.map (az aJ))).map (az bM)) []
 else .mk (if k=5 then iL else if k=7 then jo else if k=8 then jq else eF) [] (ss.map (az ah)) []
mutual
def dH:Nd→E
 |.mk k t c ks=>BG k t c (lQ ks)
def cz:List Nd→List E
 |[]=>[]
 |n::ns=>dH n::cz ns
def lQ:List Nd→List (List E)
 |[]=>[]
 |.mk _ _ _ ks::ns=>cz ks::lQ ns
end
def nJ(n:Nd):E:=az bJ (cz n.kids)
theorem jD(n:Nd):dH n=BG n.kind n.text n.ai (lQ n.kids):=by cases n;rw[dH];rfl
theorem ze(l:List Nd):cz l=l.map dH:=by
 induction l with
 |nil=>rw[cz];rfl
 |cons x l ih=>rw[cz,ih];rfl
theorem fQ(l:List Nd):lQ l=l.map fun n=>cz n.kids:=by
 induction l with
 |nil=>rw[lQ];rfl
 |cons x l ih=>cases x;rw[lQ,ih];rfl
end U
section
open Go.RowKit
theorem Y5:∀n:Fin 256,bits BinOp.or IntKind.u8 (n.1:Int) 32=((n.1|||32:Nat):Int):=by decide+kernel
theorem QN(b:UInt8):bits BinOp.or IntKind.u8 (b.toNat:Int) 32=((b.toNat|||32:Nat):Int):=Y5 ⟨b.toNat,b.toNat_lt⟩
theorem Vj:∀n:Fin 256,(decide ((97:Int)≤((n.1|||32:Nat):Int))&&decide (((n.1|||32:Nat):Int)≤(122:Int)))=U.letter (UInt8.ofNat n.1):=by decide+kernel
theorem adk(b:UInt8):(decide ((97:Int)≤((b.toNat|||32:Nat):Int))&&decide (((b.toNat|||32:Nat):Int)≤(122:Int)))=U.letter b:=by
 have:=Vj ⟨b.toNat,b.toNat_lt⟩;simpa using this
theorem Cm{s:ByteArray}{b:UInt8}{r:List UInt8}(hs:s.data.toList=b::r):s.toList.isEmpty=false∧∃h:0<s.size,s[0]=b:=by
 have hl:s.data.toList.length=s.size:=by simp
 have hsz:0<s.size:=by rw[←hl,hs];simp
 refine⟨?_,hsz,?_⟩
 ·rw[ByteArray.toList_eq,hs];rfl
 ·have:s.data.toList[0]'(by rw[hs];simp)=b:=by simp[hs]
  rw[←this];simp
  rfl
theorem AZ(s:ByteArray)(w:World):Calls Tryz.prog 129 #[.string s] w fun e w'=>e=.returned (.bool (U.iR s.data.toList))∧w'=w:=by
 cases hs:s.data.toList with
 |nil=>
  have e0:s.toList.isEmpty=true:=by rw[ByteArray.toList_eq,hs];rfl
  clear hs;go_enter Tryz.func129,Tryz.ntmps129;go_wp2
  go_ret;exact⟨rfl,rfl⟩
 |cons b r=>
  obtain⟨e0,hsz,hb⟩:=Cm hs;clear hs;have hx:bits BinOp.or IntKind.u8 ((s[0]'hsz).toNat:Int) 32=((b.toNat|||32:Nat):Int):=by rw[hb];exact QN b
  clear hb;have hl:=adk b;show Calls _ _ _ _ fun e w'=>e=.returned (.bool (U.letter b))∧w'=w
  rw[←hl];clear hl;cases h1:decide ((97:Int)≤((b.toNat|||32:Nat):Int))with
  |false=>
   have Nf:decide (97≤b.toNat|||32)=false:=by have hx:=h1;simp only[decide_eq_false_iff_not]at hx⊢;omega
   go_enter Tryz.func129,Tryz.ntmps129;go_wp2
   go_ret;exact⟨rfl,rfl⟩
  |true=>
   have Nf:decide (97≤b.toNat|||32)=true:=by have hx:=h1;simp only[decide_eq_true_eq]at hx⊢;omega
   cases h2:decide (((b.toNat|||32:Nat):Int)≤(122:Int))with
   |false=>
    have BF:decide (b.toNat|||32≤122)=false:=by have hx:=h2;simp only[decide_eq_false_iff_not]at hx⊢;omega
    go_enter Tryz.func129,Tryz.ntmps129;go_wp2
    go_ret;exact⟨rfl,rfl⟩
   |true=>
    have BF:decide (b.toNat|||32≤122)=true:=by have hx:=h2;simp only[decide_eq_true_eq]at hx⊢;omega
    go_enter Tryz.func129,Tryz.ntmps129;go_wp2
    go_ret;exact⟨rfl,rfl⟩
def Cn(s:List UInt8):Bool:=decide (1<s.length)||(s.length==1&&U.iR s)
theorem zx(s:ByteArray)(w:World):Calls Tryz.prog 118 #[.string s] w fun e w'=>e=.returned (.bool (Cn s.data.toList))∧w'=w:=by
 have hl:s.data.toList.length=s.size:=by simp
 unfold Cn;rw[hl]
 by_cases c1:1<s.size
 ·have d1:decide ((1:Int)<(s.size:Int))=true:=dT (by omega)
  have dG:decide (1<s.size)=true:=dT c1;rw[dG];go_enter Tryz.func118,Tryz.ntmps118;go_wp2
  go_ret;exact⟨rfl,rfl⟩
 ·have d1:decide ((1:Int)<(s.size:Int))=false:=dF (by omega)
  have dG:decide (1<s.size)=false:=dF c1;rw[dG];cases hs:s.data.toList with
  |nil=>
   have hz:s.size=0:=by rw[←hl,hs];rfl
   have d2:((s.size:Int)==(1:Int))=false:=by rw[hz];rfl
   have Ea:(s.size==1)=false:=by rw[hz];rfl
   rw[Ea];clear hs hl hz;go_enter Tryz.func118,Tryz.ntmps118;go_wp2
   go_ret;exact⟨rfl,rfl⟩
  |cons b r=>
   obtain⟨_,hsz,hb⟩:=Cm hs;have hz:s.size=1:=by omega
   have d2:((s.size:Int)==(1:Int))=true:=by rw[hz];rfl
   have Ea:(s.size==1)=true:=by rw[hz];rfl
   rw[Ea];clear hs hl hz;have HB:=I hb;have HL:=I (fun w=>AX (s[0]'hsz) w);clear hb;go_enter Tryz.func118,Tryz.ntmps118;go_wp2_with fail
   refine(HL.J _).mono ?_;rintro _ w' ⟨rfl,hw⟩;subst hw;go_wp2
   go_ret;exact⟨Yn (by rw[HB.J];rfl),rfl⟩
theorem Vk:∀n:Fin 256,U.inner (UInt8.ofNat n.1)=(U.letter (UInt8.ofNat n.1)||(decide ((48:Int)≤(n.1:Int))&&decide ((n.1:Int)≤(57:Int)))||((n.1:Int)==(45:Int))):=by decide+kernel
theorem nP(b:UInt8):U.inner b=(U.letter b||(decide ((48:Int)≤(b.toNat:Int))&&decide ((b.toNat:Int)≤(57:Int)))||((b.toNat:Int)==(45:Int))):=by
 have:=Vk ⟨b.toNat,b.toNat_lt⟩;simpa using this
theorem Y6:∀n:Fin 256,U.aK (UInt8.ofNat n.1)=(decide ((32:Int)≤(n.1:Int))&&decide ((n.1:Int)≤(126:Int))):=by decide+kernel
theorem J7(b:UInt8):U.aK b=(decide ((32:Int)≤(b.toNat:Int))&&decide ((b.toNat:Int)≤(126:Int))):=by
 have:=Y6 ⟨b.toNat,b.toNat_lt⟩;simpa using this
theorem jv(b:UInt8)(w:World):Calls Tryz.prog 165 #[.int .u8 (b.toNat:Int)] w fun e w'=>e=.returned (.bool (U.letter b))∧w'=w:=by
 have hx:=QN b;rw[←adk b];cases h1:decide ((97:Int)≤((b.toNat|||32:Nat):Int))with
 |false=>
  have Nf:decide (97≤b.toNat|||32)=false:=by have hx:=h1;simp only[decide_eq_false_iff_not]at hx⊢;omega
  go_enter Tryz.func165,Tryz.ntmps165;go_wp2
  go_ret;exact⟨rfl,rfl⟩
 |true=>
  have Nf:decide (97≤b.toNat|||32)=true:=by have hx:=h1;simp only[decide_eq_true_eq]at hx⊢;omega
  cases h2:decide (((b.toNat|||32:Nat):Int)≤(122:Int))with
  |false=>
   have BF:decide (b.toNat|||32≤122)=false:=by have hx:=h2;simp only[decide_eq_false_iff_not]at hx⊢;omega
   go_enter Tryz.func165,Tryz.ntmps165;go_wp2
   go_ret;exact⟨rfl,rfl⟩
  |true=>
   have BF:decide (b.toNat|||32≤122)=true:=by have hx:=h2;simp only[decide_eq_true_eq]at hx⊢;omega
   go_enter Tryz.func165,Tryz.ntmps165;go_wp2
   go_ret;exact⟨rfl,rfl⟩
theorem zy(b:UInt8)(w:World):Calls Tryz.prog 179 #[.int .u8 (b.toNat:Int)] w fun e w'=>e=.returned (.bool (U.inner b))∧w'=w:=by
 go_enter Tryz.func179,Tryz.ntmps179;go_wp2_with fail
 refine Calls.mono (jv b _) ?_;rintro _ KH ⟨rfl,kz⟩;replace kz:=kz.symm;subst kz;cases h1:(U.letter b)with
 |false=>
  cases h2:decide ((48:Int)≤(b.toNat:Int))with
  |false=>
   have BF:decide (48≤b.toNat)=false:=by have hx:=h2;simp only[decide_eq_false_iff_not]at hx⊢;omega
   cases h3:((b.toNat:Int)==(45:Int))with
   |false=>
    have xU:((b.toNat:Int) !=(45:Int))=true:=by rw[bne,h3];rfl
    go_wp2
    go_ret;exact⟨af _ _ (by rw[nP];simp only[*]<;>rfl),rfl⟩
   |true=>
    have xU:((b.toNat:Int) !=(45:Int))=false:=by rw[bne,h3];rfl
    go_wp2
    go_ret;exact⟨af _ _ (by rw[nP];simp only[*]<;>rfl),rfl⟩
  |true=>
   have BF:decide (48≤b.toNat)=true:=by have hx:=h2;simp only[decide_eq_true_eq]at hx⊢;omega
   cases h4:decide ((b.toNat:Int)≤(57:Int))with
   |false=>
    have UL:decide (b.toNat≤57)=false:=by have hx:=h4;simp only[decide_eq_false_iff_not]at hx⊢;omega
    cases h5:((b.toNat:Int)==(45:Int))with
    |false=>
     have U4:((b.toNat:Int) !=(45:Int))=true:=by rw[bne,h5];rfl
     go_wp2
     go_ret;exact⟨af _ _ (by rw[nP];simp only[*]<;>rfl),rfl⟩
    |true=>
     have U4:((b.toNat:Int) !=(45:Int))=false:=by rw[bne,h5];rfl
     go_wp2
     go_ret;exact⟨af _ _ (by rw[nP];simp only[*]<;>rfl),rfl⟩
   |true=>
    have UL:decide (b.toNat≤57)=true:=by have hx:=h4;simp only[decide_eq_true_eq]at hx⊢;omega
    go_wp2
    go_ret;exact⟨af _ _ (by rw[nP];simp only[*]<;>rfl),rfl⟩
 |true=>
  go_wp2
  go_ret;exact⟨af _ _ (by rw[nP];simp only[*]<;>rfl),rfl⟩
theorem rZ(b:UInt8)(w:World):Calls Tryz.prog 180 #[.int .u8 (b.toNat:Int)] w fun e w'=>e=.returned (.bool (U.aK b))∧w'=w:=by
 go_enter Tryz.func180,Tryz.ntmps180;cases h6:decide ((32:Int)≤(b.toNat:Int))with
 |false=>
  have h6n:decide (32≤b.toNat)=false:=by have hx:=h6;simp only[decide_eq_false_iff_not]at hx⊢;omega
  go_wp2
  go_ret;exact⟨af _ _ (by rw[J7];simp only[*]<;>rfl),rfl⟩
 |true=>
  have h6n:decide (32≤b.toNat)=true:=by have hx:=h6;simp only[decide_eq_true_eq]at hx⊢;omega
  cases h7:decide ((b.toNat:Int)≤(126:Int))with
  |false=>
   have MV:decide (b.toNat≤126)=false:=by have hx:=h7;simp only[decide_eq_false_iff_not]at hx⊢;omega
   go_wp2
   go_ret;exact⟨af _ _ (by rw[J7];simp only[*]<;>rfl),rfl⟩
  |true=>
   have MV:decide (b.toNat≤126)=true:=by have hx:=h7;simp only[decide_eq_true_eq]at hx⊢;omega
   go_wp2
   go_ret;exact⟨af _ _ (by rw[J7];simp only[*]<;>rfl),rfl⟩
theorem IC(s:ByteArray)(w:World)(hm:s.size≤9223372036854775807):Calls Tryz.prog 134 #[.string s] w fun e w'=>e=.returned (.bool (U.bG s.data.toList))∧w'=w:=by
 go_enter Tryz.func134,Tryz.ntmps134;go_wp2
 go_loopw [3] (fun i wr=>∃j:Nat,i=.int .i64 j∧j≤s.size∧Hd ((s.data.toList.take j).all U.aK=true)∧wr=w) (fun i _=>s.size-(intOf i).toNat)
 case atStart=>exact⟨0,rfl,Nat.zero_le _,by simp[Hd],rfl⟩
 case round=>
  obtain⟨j,rfl,hj,HA,rfl⟩:=hrel
  by_cases c1:j<s.size
  ·have d1:decide ((j:Int)<(s.size:Int))=true:=by simp;omega
   have d1':(j:Int)<(s.size:Int):=by omega
   obtain⟨b,hb⟩:∃b,s[j]'c1=b:=⟨_,rfl⟩;have hst:=oq s.data.toList j (by simpa using c1) U.aK;have hno:=uG s.data.toList j (by simpa using c1) U.aK;have hbl:s.data.toList[j]'(by simpa using c1)=b:=hb;rw[hbl]at hst hno;have HS:=I hst;have HN:=I hno;clear hst hno hbl;go_wp2_with fail
   refine Calls.mono (rZ b _) ?_;rintro _ Va ⟨rfl,oN⟩;replace oN:=oN.symm;subst oN;cases h8:(U.aK b)with
   |false=>
    go_wp2
    go_ret;exact⟨af _ _ (by unfold U.bG;rw[HN.J (by assumption)];rfl),rfl⟩
   |true=>
    go_wp2
    go_roundw
    case rel=>exact⟨j+1,by go_num,c1,by unfold Hd;rw[HS.J,HA.J];simp_all,trivial⟩
    case measure=>simp[intOf];omega
  ·have d1:decide ((j:Int)<(s.size:Int))=false:=by simp;omega
   go_wp2
   go_ret;exact⟨af _ _ (by unfold U.bG;rw[lD s U.aK j hj c1 HA.J];rw[show s.data.toList.length=s.size by simp,Bool.eq_iff_iff];simp;omega),rfl⟩
theorem KO(s:List UInt8)(h:s.all U.inner=false):U.eG s=false:=by
 cases s with
 |nil=>rfl
 |cons b r=>
  rw[List.all_cons]at h;show(U.letter b&&r.all U.inner)=false;cases hl:U.letter b with
  |false=>rfl
  |true=>
   have:U.inner b=true:=by unfold U.inner;rw[hl];rfl
   rw[this,Bool.true_and]at h;rw[h];rfl
theorem sG(b:UInt8)(h:U.letter b=true):U.inner b=true:=by unfold U.inner;rw[h];rfl
theorem KP(s:List UInt8)(h:s.all U.inner=true):U.eG s=U.iR s:=by
 cases s with
 |nil=>rfl
 |cons b r=>
  rw[List.all_cons,Bool.and_eq_true]at h;show(U.letter b&&r.all U.inner)=U.letter b;rw[h.2,Bool.and_true]
theorem KQ(s:ByteArray)(w:World)(hm:s.size≤9223372036854775807):Calls Tryz.prog 133 #[.string s] w fun e w'=>e=.returned (.bool (U.eG s.data.toList))∧w'=w:=by
 go_enter Tryz.func133,Tryz.ntmps133;go_wp2
 go_loopw [3] (fun i wr=>∃j:Nat,i=.int .i64 j∧j≤s.size∧Hd ((s.data.toList.take j).all U.inner=true)∧wr=w) (fun i _=>s.size-(intOf i).toNat)
 case atStart=>exact⟨0,rfl,Nat.zero_le _,by simp[Hd],rfl⟩
 case round=>
  obtain⟨j,rfl,hj,HA,rfl⟩:=hrel
  by_cases c1:j<s.size
  ·have d1:decide ((j:Int)<(s.size:Int))=true:=by simp;omega
   have d1':(j:Int)<(s.size:Int):=by omega
   obtain⟨b,hb⟩:∃b,s[j]'c1=b:=⟨_,rfl⟩;have hst:=oq s.data.toList j (by simpa using c1) U.inner;have hno:=uG s.data.toList j (by simpa using c1) U.inner;have hbl:s.data.toList[j]'(by simpa using c1)=b:=hb;rw[hbl]at hst hno;have HS:=I hst;have HN:=I hno;clear hst hno hbl;go_wp2_with fail
   refine Calls.mono (zy b _) ?_;rintro _ w3q ⟨rfl,q8⟩;replace q8:=q8.symm;subst q8;cases h9:(U.inner b)with
   |false=>
    go_wp2
    go_ret;exact⟨af _ _ (by rw[KO _ (HN.J (by assumption))]),rfl⟩
   |true=>
    go_wp2
    go_roundw
    case rel=>exact⟨j+1,by go_num,c1,by unfold Hd;rw[HS.J,HA.J];simp_all,trivial⟩
    case measure=>simp[intOf];omega
  ·have d1:decide ((j:Int)<(s.size:Int))=false:=by simp;omega
   have GZ:=I (KP _ (lD s U.inner j hj c1 HA.J));cases hs:s.data.toList with
   |nil=>
    have e0:s.toList.isEmpty=true:=by rw[ByteArray.toList_eq,hs];rfl
    have SA:=I (show U.eG s.data.toList=false from by rw[GZ.J,hs];rfl);clear hs;go_wp2
    go_ret;exact⟨af _ _ SA.J.symm,rfl⟩
   |cons b r=>
    obtain⟨e0,hsz,hb⟩:=Cm hs;have SA:=I (show U.eG s.data.toList=U.letter b from by rw[GZ.J,hs];rfl);clear hs;go_wp2_with fail
    refine(jv b _).mono ?_;rintro _ w1 ⟨rfl,hw1⟩;replace hw1:=hw1.symm;subst hw1;go_wp2
    go_ret;exact⟨af _ _ SA.J.symm,rfl⟩
end
end Go.Proofs.YtnbeemkfmlfgfaaGreatDoor
