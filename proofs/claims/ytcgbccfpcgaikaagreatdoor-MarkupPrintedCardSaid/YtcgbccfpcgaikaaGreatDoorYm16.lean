/- Part 16 of 46 of a proof. No condition. -/
import Derived.Test.YtcgbccfpcgaikaaGreatDoorYm9
set_option maxRecDepth 100000
set_option maxHeartbeats 400000
namespace Go.Proofs.YtcgbccfpcgaikaaGreatDoor
namespace U
abbrev Bytes:=List UInt8
abbrev aJ:=List (Bytes×Bytes)
inductive E where
 |mk (name:Bytes) (attrs:aJ) (kids:List E) (text:Bytes)
namespace E
def name:E→Bytes|mk n _ _ _=>n
def attrs:E→aJ|mk _ a _ _=>a
def kids:E→List E|mk _ _ k _=>k
def text:E→Bytes|mk _ _ _ t=>t
end E
theorem E.eta(e:E):e=.mk e.name e.attrs e.kids e.text:=by cases e;rfl
mutual
def count:E→Nat
 |.mk _ _ ks _=>1+az ks
def az:List E→Nat
 |[]=>0
 |n::ns=>count n+az ns
end
mutual
def depth:E→Nat
 |.mk _ _ ks _=>aX ks+1
def aX:List E→Nat
 |[]=>0
 |n::ns=>max (depth n) (aX ns)
end
theorem bX(n:E):0<count n:=by cases n;rw[count];omega
theorem NJ(n:E):0<depth n:=by cases n;rw[depth];omega
theorem aN(n:E):count n=1+az n.kids:=by cases n;rw[count];rfl
theorem oN(n:E):depth n=aX n.kids+1:=by cases n;rw[depth];rfl
theorem uA(l:List E)(i:Nat)(h:i<l.length):az (l.take (i+1))=az (l.take i)+count l[i]:=by
 induction l generalizing i with
 |nil=>simp at h
 |cons x l ih=>
  cases i with
  |zero=>simp[az]
  |succ i=>
   simp only[List.take_succ_cons,az,List.getElem_cons_succ];rw[ih i (by simpa using h)];omega
theorem Xe(l m:List E):az (l++m)=az l+az m:=by
 induction l with
 |nil=>simp[az]
 |cons x l ih=>rw[List.cons_append,az,az,ih];omega
theorem EY(l m:List E):aX (l++m)=max (aX l) (aX m):=by
 induction l with
 |nil=>simp[aX]
 |cons x l ih=>rw[List.cons_append,aX,aX,ih];omega
theorem Dy(l:List E)(i:Nat)(h:i<l.length):aX (l.take (i+1))=max (aX (l.take i)) (depth l[i]):=by
 rw[List.take_add_one,List.getElem?_eq_getElem h,EY];simp[aX]
theorem qy(l:List E)(i:Nat):az (l.take i)≤az l:=by
 induction l generalizing i with
 |nil=>simp[az]
 |cons x l ih=>
  cases i with
  |zero=>simp[az]
  |succ i=>simp only[List.take_succ_cons,az];have:=ih i;omega
theorem cB{l:List E}{n:E}(h:n∈l):count n≤az l:=by
 induction l with
 |nil=>cases h
 |cons x l ih=>
  rw[az]
  rcases List.mem_cons.1 h with rfl|h
  ·omega
  ·have:=ih h;omega
theorem ZE{l:List E}{n:E}(h:n∈l):depth n≤aX l:=by
 induction l with
 |nil=>cases h
 |cons x l ih=>
  rw[aX]
  rcases List.mem_cons.1 h with rfl|h
  ·omega
  ·have:=ih h;omega
theorem jF(l:List E):l.length≤az l:=by
 induction l with
 |nil=>simp[az]
 |cons x l ih=>rw[az];have:=bX x;simp;omega
theorem E.ind{p:E→Prop}(h:∀n,(∀m∈n.kids,p m)→p n)(n:E):p n:=by
 have:∀k n,count n≤k→p n:=by
  intro k
  induction k with
  |zero=>intro n hn;have:=bX n;omega
  |succ k ih=>
   intro n hn;refine h n fun m hm=>ih m ?_
   have:=cB hm;have:=aN n;omega
 exact this _ n (Nat.le_refl _)
def letter(b:UInt8):Bool:=(decide (97≤b)&&decide (b≤122))||(decide (65≤b)&&decide (b≤90))
def inner(b:UInt8):Bool:=letter b||(decide (48≤b)&&decide (b≤57))||b==45
def aU(b:UInt8):Bool:=decide (32≤b)&&decide (b≤126)
def jH:Bytes→Bool
 |[]=>false
 |b::s=>letter b&&s.all inner
def fu(s:Bytes):Bool:=s.all aU&&decide (s.length≤200)
def jY(a:aJ):Bool:=a.all (fun x=>jH x.1&&fu x.2)&&decide (a.map (·.1)).Nodup
def qF(e:E):Bool:=jH e.name&&fu e.text&&(e.text.isEmpty||e.kids.isEmpty)&&decide (e.attrs.length≤8)&&jY e.attrs
mutual
def proper:E→Bool
 |.mk n a ks t=>qF (.mk n a ks t)&&uE ks
def uE:List E→Bool
 |[]=>true
 |x::xs=>proper x&&uE xs
end
def valid(e:E):Bool:=proper e&&decide (count e≤3000)&&decide (depth e≤64)
theorem sD(e:E):proper e=(qF e&&uE e.kids):=by cases e;rw[proper];rfl
theorem o8(l:List E):uE l=l.all proper:=by
 induction l with
 |nil=>rw[uE];rfl
 |cons x l ih=>rw[uE,ih,List.all_cons]
mutual
def eqE:E→E→Bool
 |.mk n a ks t,.mk n' a' ks' t'=>n==n'&&a==a'&&t==t'&&rY ks ks'
def rY:List E→List E→Bool
 |[],[]=>true
 |n::ns,m::ms=>eqE n m&&rY ns ms
 |_,_=>false
end
end U
namespace Xp
open U (E aJ Bytes letter inner aU)
inductive Rs(α:Type) where
 |ok (x:α) (l:Bytes) (c:Nat)
 |bad (l:Bytes)
def ZF{α:Type}(r:Rs α):Prop:=∃x l c,r=.ok x l c
theorem sF{α:Type}{r:Rs α}{l:Bytes}{P:Prop}(h:ZF r)(e:r=.bad l):P:=by
 obtain⟨x,l',c,h⟩:=h;rw[e]at h;cases h
def white(b:UInt8):Bool:=b==32||b==9||b==10||b==13
def bB(b:UInt8)(c:Nat):Bytes→Rs Unit
 |[]=>.bad []
 |x::l=>if x=b then .ok () l c else .bad (x::l)
def nM(c:Nat):Bytes→Rs Bytes
 |[]=>.bad []
 |x::l=>if letter x then .ok ((x::l).takeWhile inner) ((x::l).dropWhile inner) c else .bad (x::l)
def cO:List (Bytes×UInt8):=[([38,97,109,112,59],38),([38,108,116,59],60),([38,103,116,59],62),([38,113,117,111,116,59],34)]
def pre(s t:Bytes):Bool:=t.take s.length==s
def eT(c:Nat):Bytes→Bytes→Rs UInt8
 |_,[]=>.bad []
 |p,b::l=>match cO.find? (fun x=>x.1==p++[b])with
  |some x=>.ok x.2 l c
  |none=>if cO.any (fun x=>pre (p++[b]) x.1)then eT c (p++[b]) l else .bad (b::l)
def jk(n c:Nat):Bytes→Rs UInt8
 |[]=>.bad []
 |b::l=>if 200≤n∨b=60∨aU b=false then .bad (b::l)else if b=38 then eT c [] (b::l)else .ok b l c
def jl(q:UInt8)(c:Nat):Nat→Bytes→Bytes→Rs Bytes
 |0,_,l=>.bad l
 |f+1,acc,l=>match l with
  |[]=>.bad []
  |b::l'=>if b=q then .ok acc (b::l') c else match jk acc.length c (b::l')with
   |.bad l2=>.bad l2
   |.ok x l2 _=>jl q c f (acc++[x]) l2
def gM(aM:aJ)(c:Nat)(l:Bytes):Rs (Bytes×Bytes):=match nM c l with
 |.bad l1=>.bad l1
 |.ok nm l1 _=>match l1 with
  |[]=>.bad []
  |b::l2=>if b≠61∨aM.any (fun x=>x.1==nm)=true then .bad (b::l2)else match bB 34 c l2 with
   |.bad l3=>.bad l3
   |.ok _ l3 _=>match jl 34 c (l3.length+1) [] l3 with
    |.bad l4=>.bad l4
    |.ok v l4 _=>.ok (nm,v) (l4.drop 1) c
def nQ(c:Nat):Nat→aJ→Bytes→Rs (aJ×Bool)
 |0,_,l=>.bad l
 |f+1,aM,l=>match l.dropWhile white with
  |[]=>.bad []
  |b::l2=>if b=47 then(match bB 62 c l2 with
    |.bad l3=>.bad l3
    |.ok _ l3 _=>.ok (aM,true) l3 c)
   else if b=62 then .ok (aM,false) l2 c
   else if(b::l2).length<l.length∧letter b=true∧aM.length<8 then(match gM aM c (b::l2)with
    |.bad l3=>.bad l3
    |.ok a l3 _=>nQ c f (aM++[a]) l3)
   else .bad (b::l2)
def wW(c:Nat):Bytes→Bytes→Rs Unit
 |[],l=>.ok () l c
 |b::s,l=>match bB b c l with
  |.bad l1=>.bad l1
  |.ok _ l1 _=>wW c s l1
def iQ(nm:Bytes)(c:Nat)(l:Bytes):Rs Unit:=match bB 47 c l with
 |.bad l1=>.bad l1
 |.ok _ l1 _=>match wW c nm l1 with
  |.bad l2=>.bad l2
  |.ok _ l2 _=>bB 62 c (l2.dropWhile white)
def jZ(el:Bytes→Nat→Rs E):Nat→List E→Bytes→Nat→Rs (List E)
 |0,_,l,_=>.bad l
 |f+1,ks,l,c=>match l with
  |[]=>.bad []
  |b::l'=>if b=47 then .ok ks (b::l') c else match el (b::l') c with
   |.bad l1=>.bad l1
   |.ok e l1 c1=>match l1.dropWhile white with
    |[]=>.bad []
    |b2::l3=>if b2=60 then jZ el f (ks++[e]) l3 c1 else .bad (b2::l3)
def j4(gap:Bytes):Bool:=gap.all (fun b=>b==32)&&decide (gap.length≤200)
def dh(el:Bytes→Nat→Rs E)(nm:Bytes)(l:Bytes)(c:Nat):Rs (List E×Bytes):=match l.dropWhile white with
 |[]=>.bad []
 |b::l2=>
  if j4 (l.takeWhile white)=false then .bad (b::l2)
  else if b=60 then(match jZ el (l2.length+1) [] l2 c with
   |.bad l3=>.bad l3
   |.ok ks l3 c3=>match iQ nm c3 l3 with
    |.bad l4=>.bad l4
    |.ok _ l4 _=>.ok (ks,if j4 (l.takeWhile white)&&ks.isEmpty then l.takeWhile white else []) l4 c3)
  else match jl 60 c ((b::l2).length+1) (l.takeWhile white) (b::l2)with
   |.bad l3=>.bad l3
   |.ok t l3 _=>match iQ nm c (l3.drop 1)with
    |.bad l4=>.bad l4
    |.ok _ l4 _=>.ok ([],t) l4 c
def aR:Nat→Bytes→Nat→Rs E
 |0,l,_=>.bad l
 |n+1,l,c=>match l with
  |[]=>.bad []
  |b::l'=>if letter b=false∨3000≤c then .bad (b::l')else match nQ (c+1) 9 [] ((b::l').dropWhile inner)with
   |.bad l1=>.bad l1
   |.ok (aM,true) l1 _=>.ok (.mk ((b::l').takeWhile inner) aM [] []) l1 (c+1)
   |.ok (aM,false) l1 _=>match dh (aR n) ((b::l').takeWhile inner) l1 (c+1)with
    |.bad l2=>.bad l2
    |.ok (ks,t) l2 c2=>.ok (.mk ((b::l').takeWhile inner) aM ks t) l2 c2
def kz(l:Bytes):Rs E:=match bB 60 0 (l.dropWhile white)with
 |.bad l1=>.bad l1
 |.ok _ l1 _=>match aR 64 l1 0 with
  |.bad l2=>.bad l2
  |.ok e l2 c2=>match l2.dropWhile white with
   |[]=>.ok e [] c2
   |b::l3=>.bad (b::l3)
def ab5:E:=.mk [] [] [] []
def ZG(T:Bytes):E×Int×Int:=match kz T with
 |.ok e _ _=>(e,0,0)
 |.bad l=>(ab5,(T.length:Int)-l.length,3)
def bQ(l' l:Bytes):Prop:=∃p,l=p++l'
theorem bQ.refl(l:Bytes):bQ l l:=⟨[],rfl⟩
theorem bQ.trans{a b c:Bytes}(h:bQ a b)(h':bQ b c):bQ a c:=by
 obtain⟨p,rfl⟩:=h;obtain⟨q,rfl⟩:=h';exact⟨q++p,by rw[List.append_assoc]⟩
theorem bQ.cons{a:Bytes}(b:UInt8):bQ a (b::a):=⟨[b],rfl⟩
theorem bQ.dropWhile(p:UInt8→Bool)(l:Bytes):bQ (l.dropWhile p) l:=⟨l.takeWhile p,(List.takeWhile_append_dropWhile ..).symm⟩
theorem bQ.len{a b:Bytes}(h:bQ a b):a.length≤b.length:=by
 obtain⟨p,rfl⟩:=h;rw[List.length_append];omega
theorem bQ.drop(n:Nat)(l:Bytes):bQ (l.drop n) l:=⟨l.take n,(List.take_append_drop n l).symm⟩
def Rs.left{α:Type}:Rs α→Bytes
 |.ok _ l _=>l
 |.bad l=>l
theorem pW(b:UInt8)(c:Nat)(l:Bytes):bQ (bB b c l).left l:=by
 cases l with
 |nil=>exact bQ.refl _
 |cons x l=>
  show bQ (if x=b then _ else _:Rs Unit).left _;split
  ·exact bQ.cons _
  ·exact bQ.refl _
theorem Xf(c:Nat)(l:Bytes):bQ (nM c l).left l:=by
 cases l with
 |nil=>exact bQ.refl _
 |cons x l=>
  show bQ (if letter x then _ else _:Rs Bytes).left _;split
  ·exact bQ.dropWhile _ _
  ·exact bQ.refl _
theorem LB(c:Nat):∀(l p:Bytes),bQ (eT c p l).left l
 |[],p=>by rw[eT];exact bQ.refl _
 |b::l,p=>by
  rw[eT];split
  ·exact bQ.cons _
  ·split
   ·exact(LB c l _).trans (bQ.cons _)
   ·exact bQ.refl _
theorem Xg(n c:Nat)(l:Bytes):bQ (jk n c l).left l:=by
 cases l with
 |nil=>exact bQ.refl _
 |cons b l=>
  show bQ (if _ then _ else if _ then _ else _:Rs UInt8).left _;split
  ·exact bQ.refl _
  ·split
   ·exact LB c _ _
   ·exact bQ.cons _
theorem EZ(q:UInt8)(c:Nat):∀(f:Nat) (acc l:Bytes),bQ (jl q c f acc l).left l
 |0,_,l=>by rw[jl];exact bQ.refl _
 |f+1,acc,[]=>by rw[jl];exact bQ.refl _
 |f+1,acc,b::l=>by
  rw[jl];have h:=Xg acc.length c (b::l);split
  ·exact bQ.refl _
  ·cases hc:jk acc.length c (b::l)with
   |bad l2=>rw[hc]at h;exact h
   |ok x l2 c2=>rw[hc]at h;exact(EZ q c f _ l2).trans h
theorem Xh(aM:aJ)(c:Nat)(l:Bytes):bQ (gM aM c l).left l:=by
 unfold gM;have h:=Xf c l;cases hn:nM c l with
 |bad l1=>rw[hn]at h;exact h
 |ok nm l1 _=>
  rw[hn]at h;cases l1 with
  |nil=>exact h
  |cons b l2=>
   dsimp only
   split
   ·exact h
   ·have h2:=pW 34 c l2
    cases he:bB 34 c l2 with
    |bad l3=>rw[he]at h2;exact(h2.trans (bQ.cons _)).trans h
    |ok u l3 _=>
     rw[he]at h2;have h3:=EZ 34 c (l3.length+1) [] l3
     dsimp only
     cases ht:jl 34 c (l3.length+1) [] l3 with
     |bad l4=>rw[ht]at h3;exact((h3.trans h2).trans (bQ.cons _)).trans h
     |ok v l4 _=>rw[ht]at h3;exact((((bQ.drop 1 l4).trans h3).trans h2).trans (bQ.cons _)).trans h
theorem JK(c:Nat):∀(f:Nat) (aM:aJ) (l:Bytes),bQ (nQ c f aM l).left l
 |0,_,l=>by rw[nQ];exact bQ.refl _
 |f+1,aM,l=>by
  rw[nQ];have h:=bQ.dropWhile white l;cases hd:l.dropWhile white with
  |nil=>rw[hd]at h;exact h
  |cons b l2=>
   rw[hd]at h
   dsimp only
   split
   ·have h2:=pW 62 c l2
    cases he:bB 62 c l2 with
    |bad l3=>rw[he]at h2;exact(h2.trans (bQ.cons _)).trans h
    |ok u l3 _=>rw[he]at h2;exact(h2.trans (bQ.cons _)).trans h
   ·split
    ·exact(bQ.cons _).trans h
    ·split
     ·have h2:=Xh aM c (b::l2)
      cases ha:gM aM c (b::l2)with
      |bad l3=>rw[ha]at h2;exact h2.trans h
      |ok a l3 _=>rw[ha]at h2;exact((JK c f _ l3).trans h2).trans h
     ·exact h
theorem Ob(c:Nat):∀(s l:Bytes),bQ (wW c s l).left l
 |[],l=>by rw[wW];exact bQ.refl _
 |b::s,l=>by
  rw[wW];have h:=pW b c l;cases he:bB b c l with
  |bad l1=>rw[he]at h;exact h
  |ok u l1 _=>rw[he]at h;exact(Ob c s l1).trans h
theorem Oc(nm:Bytes)(c:Nat)(l:Bytes):bQ (iQ nm c l).left l:=by
 unfold iQ;have h:=pW 47 c l;cases he:bB 47 c l with
 |bad l1=>rw[he]at h;exact h
 |ok u l1 _=>
  rw[he]at h;have h2:=Ob c nm l1
  dsimp only
  cases hl:wW c nm l1 with
  |bad l2=>rw[hl]at h2;exact h2.trans h
  |ok v l2 _=>rw[hl]at h2;exact(((pW 62 c _).trans (bQ.dropWhile white l2)).trans h2).trans h
theorem LC(el:Bytes→Nat→Rs E)(hel:∀l c,bQ (el l c).left l):∀(f:Nat) (ks:List E) (l:Bytes) (c:Nat),bQ (jZ el f ks l c).left l
 |0,_,l,_=>by rw[jZ];exact bQ.refl _
 |f+1,ks,[],c=>by rw[jZ];exact bQ.refl _
 |f+1,ks,b::l,c=>by
  rw[jZ];have h:=hel (b::l) c;split
  ·exact bQ.refl _
  ·cases he:el (b::l) c with
   |bad l1=>rw[he]at h;exact h
   |ok e l1 c1=>
    rw[he]at h;have h2:=bQ.dropWhile white l1
    dsimp only
    cases hd:l1.dropWhile white with
    |nil=>rw[hd]at h2;exact h2.trans h
    |cons b2 l3=>
     rw[hd]at h2
     dsimp only
     split
     ·exact(((LC el hel f _ l3 c1).trans (bQ.cons _)).trans h2).trans h
     ·exact h2.trans h
theorem Pm(el:Bytes→Nat→Rs E)(hel:∀l c,bQ (el l c).left l)(nm l:Bytes)(c:Nat):bQ (dh el nm l c).left l:=by
 unfold dh;have h:=bQ.dropWhile white l;cases hd:l.dropWhile white with
 |nil=>rw[hd]at h;exact h
 |cons b l2=>
  rw[hd]at h
  dsimp only
  split
  ·exact h
  ·split
   ·have h2:=LC el hel (l2.length+1) [] l2 c
    cases hk:jZ el (l2.length+1) [] l2 c with
    |bad l3=>rw[hk]at h2;exact(h2.trans (bQ.cons _)).trans h
    |ok ks l3 c3=>
     rw[hk]at h2;have h3:=Oc nm c3 l3
     dsimp only
     cases he:iQ nm c3 l3 with
     |bad l4=>rw[he]at h3;exact((h3.trans h2).trans (bQ.cons _)).trans h
     |ok u l4 _=>rw[he]at h3;exact((h3.trans h2).trans (bQ.cons _)).trans h
   ·have h2:=EZ 60 c ((b::l2).length+1) (l.takeWhile white) (b::l2)
    cases ht:jl 60 c ((b::l2).length+1) (l.takeWhile white) (b::l2)with
    |bad l3=>rw[ht]at h2;exact h2.trans h
    |ok t l3 _=>
     rw[ht]at h2;have h3:=Oc nm c (l3.drop 1)
     dsimp only
     cases he:iQ nm c (l3.drop 1)with
     |bad l4=>rw[he]at h3;exact((h3.trans (bQ.drop 1 l3)).trans h2).trans h
     |ok u l4 _=>rw[he]at h3;exact((h3.trans (bQ.drop 1 l3)).trans h2).trans h
theorem wR:∀(n:Nat) (l:Bytes) (c:Nat),bQ (aR n l c).left l
 |0,l,_=>by rw[aR];exact bQ.refl _
 |n+1,[],c=>by rw[aR];exact bQ.refl _
 |n+1,b::l,c=>by
  rw[aR];have h:=(JK (c+1) 9 [] ((b::l).dropWhile inner)).trans (bQ.dropWhile inner (b::l));split
  ·exact bQ.refl _
  ·cases ha:nQ (c+1) 9 [] ((b::l).dropWhile inner)with
   |bad l1=>rw[ha]at h;exact h
   |ok p l1 _=>
    rw[ha]at h;obtain⟨aM,z⟩:=p;cases z with
    |true=>exact h
    |false=>
     have h2:=Pm (aR n) (wR n) ((b::l).takeWhile inner) l1 (c+1)
     dsimp only
     cases hc:dh (aR n) ((b::l).takeWhile inner) l1 (c+1)with
     |bad l2=>rw[hc]at h2;exact h2.trans h
     |ok q l2 c2=>rw[hc]at h2;exact h2.trans h
end Xp
namespace U
open Tr (Nd)
def gU:Bytes:=[109,97,116,104]
def yt:Bytes:=[109,105]
def yu:Bytes:=[109,111]
def CU:Bytes:=[109,110]
def qG:Bytes:=[109,116,101,120,116]
def aj:Bytes:=[109,114,111,119]
def lq:Bytes:=[109,102,114,97,99]
def fV:Bytes:=[109,115,113,114,116]
def fZ:Bytes:=[109,114,111,111,116]
def mW:Bytes:=[109,115,117,98]
def mX:Bytes:=[109,115,117,112]
def gN:Bytes:=[109,115,117,98,115,117,112]
def bI:Bytes:=[109,111,118,101,114]
def ji:Bytes:=[97,99,99,101,110,116]
def aV:Bytes:=[109,102,101,110,99,101,100]
def qH:Bytes:=[111,112,101,110]
def nR:Bytes:=[99,108,111,115,101]
def bE:Bytes:=[109,116,97,98,108,101]
def dU:Bytes:=[109,116,114]
def bq:Bytes:=[109,116,100]
def grid{α:Type}(c:Nat)(l:List α):List (List α):=(List.range ((l.length+c-1)/c)).map fun r=>(l.drop (r*c)).take c
theorem E5{α:Type}(c:Nat)(hc:0<c)(l:List α)(i r:Nat)(h:r*c+c≤i):((l.take i).drop (r*c)).take c=(l.drop (r*c)).take c:=by
 rw[List.drop_take,List.take_take,Nat.min_eq_left (by omega)]
theorem Ki(c k:Nat)(hc:0<c):(k*c+c-1)/c=k:=by
 rw[show k*c+c-1=c*k+(c-1) by rw[Nat.mul_comm];omega,Nat.mul_add_div hc,Nat.div_eq_of_lt (by omega)];omega
theorem M7(c k j:Nat)(hc:0<c)(hj:0<j)(hjc:j≤c):(k*c+j+c-1)/c=k+1:=by
 rw[show k*c+j+c-1=c*(k+1)+(j-1) by rw[Nat.mul_comm c,Nat.add_mul];omega,Nat.mul_add_div hc,Nat.div_eq_of_lt (by omega)]
theorem Q9{α:Type}(c:Nat)(hc:0<c):grid c ([]:List α)=[]:=by
 unfold grid;rw[show(List.length ([]:List α)+c-1)/c=0 from Nat.div_eq_of_lt (by simp;omega)];rfl
theorem ab6{α:Type}(c:Nat)(hc:0<c)(l:List α)(k:Nat)(h:k*c<l.length):grid c (l.take (k*c+1))=grid c (l.take (k*c))++[[l[k*c]]]:=by
 unfold grid;rw[List.length_take,List.length_take,Nat.min_eq_left (by omega),Nat.min_eq_left (by omega),Ki c k hc,M7 c k 1 hc (by omega) hc,List.range_succ,List.map_append]
 congr 1
 ·refine List.map_congr_left fun r hr=>?_
  have hr:=List.mem_range.1 hr;have h1:r*c+c≤k*c:=by rw[←Nat.succ_mul];exact Nat.mul_le_mul_right _ hr
  rw[E5 c hc l _ r (by omega),E5 c hc l _ r h1]
 ·rw[List.map_singleton,List.drop_take,show k*c+1-k*c=1 by omega,List.take_take,Nat.min_eq_right (by omega),List.drop_eq_getElem_cons h]
  rfl
theorem ZH{α:Type}(c:Nat)(hc:0<c)(l:List α)(k j:Nat)(hj:0<j)(hjc:j<c)(h:k*c+j<l.length):
  ∃L r,grid c (l.take (k*c+j))=L++[r]∧grid c (l.take (k*c+j+1))=L++[r++[l[k*c+j]]]∧r.length=j:=by
 refine⟨(List.range k).map fun r=>(l.drop (r*c)).take c,(l.drop (k*c)).take j,?_,?_,?_⟩
 ·unfold grid
  rw[List.length_take,Nat.min_eq_left (by omega),M7 c k j hc hj (by omega),List.range_succ,List.map_append]
  congr 1
  ·refine List.map_congr_left fun r hr=>?_
   have hr:=List.mem_range.1 hr;have h1:r*c+c≤k*c:=by rw[←Nat.succ_mul];exact Nat.mul_le_mul_right _ hr
   rw[E5 c hc l _ r (by omega)]
  ·rw[List.map_singleton,List.drop_take,List.take_take,show min c (k*c+j-k*c)=j by omega]
 ·unfold grid
  rw[List.length_take,Nat.min_eq_left (by omega),show k*c+j+1=k*c+(j+1) by omega,M7 c k (j+1) hc (by omega) (by omega),List.range_succ,List.map_append]
  congr 1
  ·refine List.map_congr_left fun r hr=>?_
   have hr:=List.mem_range.1 hr;have h1:r*c+c≤k*c:=by rw[←Nat.succ_mul];exact Nat.mul_le_mul_right _ hr
   rw[E5 c hc l _ r (by omega)]
  ·rw[List.map_singleton,List.drop_take,List.take_take,show min c (k*c+(j+1)-k*c)=j+1 by omega,List.take_add_one,List.getElem?_drop,List.getElem?_eq_getElem h]
   rfl
 ·rw[List.length_take,List.length_drop];omega
def ax(n:Bytes)(l:List E):E:=.mk n [] l []
def qX:Bytes→Bool
 |[]=>false
 |b::_=>letter b
def FY(k:Int)(t:Bytes)(c:Int)(ss:List (List E)):E:=
 if k=2 then .mk (if qX t then yt else yu) [] [] t
 else if k=3 then .mk CU [] [] t
 else if k=4 then .mk qG [] [] t
 else if k=6 then(match ss with
  |[]::r=>.mk fV [] (r.map (ax aj)) []
  |a::b::_=>.mk fZ [] [ax aj b,ax aj a] []
  |_=>.mk [] [] [] [])
 else if k=10 then .mk bI [(ji,t)] (ss.map (ax aj)) []
 else if k=11 then .mk aV [(qH,t.take 1),(nR,t.drop 1)] (ss.map (ax aj)) []
 else if k=12 then .mk bE [] ((grid c.toNat (ss.map (ax bq))).map (ax dU)) []
 else .mk (if k=5 then lq else if k=7 then mW else if k=8 then mX else gN) [] (ss.map (ax aj)) []
mutual
def iX:Nd→E
 |.mk k t c ks=>FY k t c (nS ks)
def eU:List Nd→List E
 |[]=>[]
 |n::ns=>iX n::eU ns
def nS:List Nd→List (List E)
 |[]=>[]
 |.mk _ _ _ ks::ns=>eU ks::nS ns
end
def nT(n:Nd):E:=ax gU (eU n.kids)
theorem qI(n:Nd):iX n=FY n.kind n.text n.ah (nS n.kids):=by cases n;rw[iX];rfl
theorem zb(l:List Nd):eU l=l.map iX:=by
 induction l with
 |nil=>rw[eU];rfl
 |cons x l ih=>rw[eU,ih];rfl
theorem iM(l:List Nd):nS l=l.map fun n=>eU n.kids:=by
 induction l with
 |nil=>rw[nS];rfl
 |cons x l ih=>cases x;rw[nS,ih];rfl
end U
section
open Go.RowKit
theorem ab7:∀n:Fin 256,bits BinOp.or IntKind.u8 (n.1:Int) 32=((n.1|||32:Nat):Int):=by decide+kernel
theorem Vv(b:UInt8):bits BinOp.or IntKind.u8 (b.toNat:Int) 32=((b.toNat|||32:Nat):Int):=ab7 ⟨b.toNat,b.toNat_lt⟩
theorem ZI:∀n:Fin 256,(decide ((97:Int)≤((n.1|||32:Nat):Int))&&decide (((n.1|||32:Nat):Int)≤(122:Int)))=U.letter (UInt8.ofNat n.1):=by decide+kernel
theorem afJ(b:UInt8):(decide ((97:Int)≤((b.toNat|||32:Nat):Int))&&decide (((b.toNat|||32:Nat):Int)≤(122:Int)))=U.letter b:=by
 have:=ZI ⟨b.toNat,b.toNat_lt⟩;simpa using this
theorem LD{s:ByteArray}{b:UInt8}{r:List UInt8}(hs:s.data.toList=b::r):s.toList.isEmpty=false∧∃h:0<s.size,s[0]=b:=by
 have hl:s.data.toList.length=s.size:=by simp
 have hsz:0<s.size:=by rw[←hl,hs];simp
 refine⟨?_,hsz,?_⟩
 ·rw[ByteArray.toList_eq,hs];rfl
 ·have:s.data.toList[0]'(by rw[hs];simp)=b:=by simp[hs]
  rw[←this];simp
  rfl
theorem Dz(s:ByteArray)(w:World):Calls Tryz.prog 111 #[.string s] w fun e w'=>e=.returned (.bool (U.qX s.data.toList))∧w'=w:=by
 cases hs:s.data.toList with
 |nil=>
  have e0:s.toList.isEmpty=true:=by rw[ByteArray.toList_eq,hs];rfl
  clear hs;go_enter Tryz.func111,Tryz.ntmps111;go_wp2
  go_ret;exact⟨rfl,rfl⟩
 |cons b r=>
  obtain⟨e0,hsz,hb⟩:=LD hs;clear hs;have hx:bits BinOp.or IntKind.u8 ((s[0]'hsz).toNat:Int) 32=((b.toNat|||32:Nat):Int):=by rw[hb];exact Vv b
  clear hb;have hl:=afJ b;show Calls _ _ _ _ fun e w'=>e=.returned (.bool (U.letter b))∧w'=w
  rw[←hl];clear hl;cases h1:decide ((97:Int)≤((b.toNat|||32:Nat):Int))with
  |false=>
   have Zl:decide (97≤b.toNat|||32)=false:=by have hx:=h1;simp only[decide_eq_false_iff_not]at hx⊢;omega
   go_enter Tryz.func111,Tryz.ntmps111;go_wp2
   go_ret;exact⟨rfl,rfl⟩
  |true=>
   have Zl:decide (97≤b.toNat|||32)=true:=by have hx:=h1;simp only[decide_eq_true_eq]at hx⊢;omega
   cases h2:decide (((b.toNat|||32:Nat):Int)≤(122:Int))with
   |false=>
    have GH:decide (b.toNat|||32≤122)=false:=by have hx:=h2;simp only[decide_eq_false_iff_not]at hx⊢;omega
    go_enter Tryz.func111,Tryz.ntmps111;go_wp2
    go_ret;exact⟨rfl,rfl⟩
   |true=>
    have GH:decide (b.toNat|||32≤122)=true:=by have hx:=h2;simp only[decide_eq_true_eq]at hx⊢;omega
    go_enter Tryz.func111,Tryz.ntmps111;go_wp2
    go_ret;exact⟨rfl,rfl⟩
theorem ZJ:∀n:Fin 256,U.inner (UInt8.ofNat n.1)=(U.letter (UInt8.ofNat n.1)||(decide ((48:Int)≤(n.1:Int))&&decide ((n.1:Int)≤(57:Int)))||((n.1:Int)==(45:Int))):=by decide+kernel
theorem ze(b:UInt8):U.inner b=(U.letter b||(decide ((48:Int)≤(b.toNat:Int))&&decide ((b.toNat:Int)≤(57:Int)))||((b.toNat:Int)==(45:Int))):=by
 have:=ZJ ⟨b.toNat,b.toNat_lt⟩;simpa using this
theorem ab8:∀n:Fin 256,U.aU (UInt8.ofNat n.1)=(decide ((32:Int)≤(n.1:Int))&&decide ((n.1:Int)≤(126:Int))):=by decide+kernel
theorem M8(b:UInt8):U.aU b=(decide ((32:Int)≤(b.toNat:Int))&&decide ((b.toNat:Int)≤(126:Int))):=by
 have:=ab8 ⟨b.toNat,b.toNat_lt⟩;simpa using this
theorem pX(b:UInt8)(w:World):Calls Tryz.prog 121 #[.int .u8 (b.toNat:Int)] w fun e w'=>e=.returned (.bool (U.letter b))∧w'=w:=by
 have hx:=Vv b;rw[←afJ b];cases h1:decide ((97:Int)≤((b.toNat|||32:Nat):Int))with
 |false=>
  have Zl:decide (97≤b.toNat|||32)=false:=by have hx:=h1;simp only[decide_eq_false_iff_not]at hx⊢;omega
  go_enter Tryz.func121,Tryz.ntmps121;go_wp2
  go_ret;exact⟨rfl,rfl⟩
 |true=>
  have Zl:decide (97≤b.toNat|||32)=true:=by have hx:=h1;simp only[decide_eq_true_eq]at hx⊢;omega
  cases h2:decide (((b.toNat|||32:Nat):Int)≤(122:Int))with
  |false=>
   have GH:decide (b.toNat|||32≤122)=false:=by have hx:=h2;simp only[decide_eq_false_iff_not]at hx⊢;omega
   go_enter Tryz.func121,Tryz.ntmps121;go_wp2
   go_ret;exact⟨rfl,rfl⟩
  |true=>
   have GH:decide (b.toNat|||32≤122)=true:=by have hx:=h2;simp only[decide_eq_true_eq]at hx⊢;omega
   go_enter Tryz.func121,Tryz.ntmps121;go_wp2
   go_ret;exact⟨rfl,rfl⟩
theorem BS(b:UInt8)(w:World):Calls Tryz.prog 143 #[.int .u8 (b.toNat:Int)] w fun e w'=>e=.returned (.bool (U.inner b))∧w'=w:=by
 go_enter Tryz.func143,Tryz.ntmps143;go_wp2_with fail
 refine Calls.mono (pX b _) ?_;rintro _ Zm ⟨rfl,pM⟩;replace pM:=pM.symm;subst pM;cases h1:(U.letter b)with
 |false=>
  cases h2:decide ((48:Int)≤(b.toNat:Int))with
  |false=>
   have GH:decide (48≤b.toNat)=false:=by have hx:=h2;simp only[decide_eq_false_iff_not]at hx⊢;omega
   cases h3:((b.toNat:Int)==(45:Int))with
   |false=>
    have D5:((b.toNat:Int) !=(45:Int))=true:=by rw[bne,h3];rfl
    go_wp2
    go_ret;exact⟨ai _ _ (by rw[ze];simp only[*]<;>rfl),rfl⟩
   |true=>
    have D5:((b.toNat:Int) !=(45:Int))=false:=by rw[bne,h3];rfl
    go_wp2
    go_ret;exact⟨ai _ _ (by rw[ze];simp only[*]<;>rfl),rfl⟩
  |true=>
   have GH:decide (48≤b.toNat)=true:=by have hx:=h2;simp only[decide_eq_true_eq]at hx⊢;omega
   cases h4:decide ((b.toNat:Int)≤(57:Int))with
   |false=>
    have h4n:decide (b.toNat≤57)=false:=by have hx:=h4;simp only[decide_eq_false_iff_not]at hx⊢;omega
    cases h5:((b.toNat:Int)==(45:Int))with
    |false=>
     have Zf:((b.toNat:Int) !=(45:Int))=true:=by rw[bne,h5];rfl
     go_wp2
     go_ret;exact⟨ai _ _ (by rw[ze];simp only[*]<;>rfl),rfl⟩
    |true=>
     have Zf:((b.toNat:Int) !=(45:Int))=false:=by rw[bne,h5];rfl
     go_wp2
     go_ret;exact⟨ai _ _ (by rw[ze];simp only[*]<;>rfl),rfl⟩
   |true=>
    have h4n:decide (b.toNat≤57)=true:=by have hx:=h4;simp only[decide_eq_true_eq]at hx⊢;omega
    go_wp2
    go_ret;exact⟨ai _ _ (by rw[ze];simp only[*]<;>rfl),rfl⟩
 |true=>
  go_wp2
  go_ret;exact⟨ai _ _ (by rw[ze];simp only[*]<;>rfl),rfl⟩
theorem uO(b:UInt8)(w:World):Calls Tryz.prog 144 #[.int .u8 (b.toNat:Int)] w fun e w'=>e=.returned (.bool (U.aU b))∧w'=w:=by
 go_enter Tryz.func144,Tryz.ntmps144;cases h6:decide ((32:Int)≤(b.toNat:Int))with
 |false=>
  have h6n:decide (32≤b.toNat)=false:=by have hx:=h6;simp only[decide_eq_false_iff_not]at hx⊢;omega
  go_wp2
  go_ret;exact⟨ai _ _ (by rw[M8];simp only[*]<;>rfl),rfl⟩
 |true=>
  have h6n:decide (32≤b.toNat)=true:=by have hx:=h6;simp only[decide_eq_true_eq]at hx⊢;omega
  cases h7:decide ((b.toNat:Int)≤(126:Int))with
  |false=>
   have Qu:decide (b.toNat≤126)=false:=by have hx:=h7;simp only[decide_eq_false_iff_not]at hx⊢;omega
   go_wp2
   go_ret;exact⟨ai _ _ (by rw[M8];simp only[*]<;>rfl),rfl⟩
  |true=>
   have Qu:decide (b.toNat≤126)=true:=by have hx:=h7;simp only[decide_eq_true_eq]at hx⊢;omega
   go_wp2
   go_ret;exact⟨ai _ _ (by rw[M8];simp only[*]<;>rfl),rfl⟩
theorem LF(s:ByteArray)(w:World)(hm:s.size≤9223372036854775807):Calls Tryz.prog 116 #[.string s] w fun e w'=>e=.returned (.bool (U.fu s.data.toList))∧w'=w:=by
 go_enter Tryz.func116,Tryz.ntmps116;go_wp2
 go_loopw [3] (fun i wr=>∃j:Nat,i=.int .i64 j∧j≤s.size∧Hd ((s.data.toList.take j).all U.aU=true)∧wr=w) (fun i _=>s.size-(intOf i).toNat)
 case atStart=>exact⟨0,rfl,Nat.zero_le _,by simp[Hd],rfl⟩
 case round=>
  obtain⟨j,rfl,hj,HA,rfl⟩:=hrel
  by_cases c1:j<s.size
  ·have d1:decide ((j:Int)<(s.size:Int))=true:=by simp;omega
   have d1':(j:Int)<(s.size:Int):=by omega
   obtain⟨b,hb⟩:∃b,s[j]'c1=b:=⟨_,rfl⟩;have hst:=sw s.data.toList j (by simpa using c1) U.aU;have hno:=zT s.data.toList j (by simpa using c1) U.aU;have hbl:s.data.toList[j]'(by simpa using c1)=b:=hb;rw[hbl]at hst hno;have HS:=hid hst;have HN:=hid hno;clear hst hno hbl;go_wp2_with fail
   refine Calls.mono (uO b _) ?_;rintro _ w2q ⟨rfl,sU⟩;replace sU:=sU.symm;subst sU;cases h8:(U.aU b)with
   |false=>
    go_wp2
    go_ret;exact⟨ai _ _ (by unfold U.fu;rw[HN.out (by assumption)];rfl),rfl⟩
   |true=>
    go_wp2
    go_roundw
    case rel=>exact⟨j+1,by go_num,c1,by unfold Hd;rw[HS.out,HA.out];simp_all,trivial⟩
    case measure=>simp[intOf];omega
  ·have d1:decide ((j:Int)<(s.size:Int))=false:=by simp;omega
   go_wp2
   go_ret;exact⟨ai _ _ (by unfold U.fu;rw[nD s U.aU j hj c1 HA.out];rw[show s.data.toList.length=s.size by simp,Bool.eq_iff_iff];simp;omega),rfl⟩
theorem ZK(s:List UInt8)(h:s.all U.inner=false):U.jH s=false:=by
 cases s with
 |nil=>rfl
 |cons b r=>
  rw[List.all_cons]at h;show(U.letter b&&r.all U.inner)=false;cases hl:U.letter b with
  |false=>rfl
  |true=>
   have:U.inner b=true:=by unfold U.inner;rw[hl];rfl
   rw[this,Bool.true_and]at h;rw[h];rfl
theorem GY(b:UInt8)(h:U.letter b=true):U.inner b=true:=by unfold U.inner;rw[h];rfl
theorem ZL(s:List UInt8)(h:s.all U.inner=true):U.jH s=U.qX s:=by
 cases s with
 |nil=>rfl
 |cons b r=>
  rw[List.all_cons,Bool.and_eq_true]at h;show(U.letter b&&r.all U.inner)=U.letter b;rw[h.2,Bool.and_true]
theorem Od(s:ByteArray)(w:World)(hm:s.size≤9223372036854775807):Calls Tryz.prog 115 #[.string s] w fun e w'=>e=.returned (.bool (U.jH s.data.toList))∧w'=w:=by
 go_enter Tryz.func115,Tryz.ntmps115;go_wp2
 go_loopw [3] (fun i wr=>∃j:Nat,i=.int .i64 j∧j≤s.size∧Hd ((s.data.toList.take j).all U.inner=true)∧wr=w) (fun i _=>s.size-(intOf i).toNat)
 case atStart=>exact⟨0,rfl,Nat.zero_le _,by simp[Hd],rfl⟩
 case round=>
  obtain⟨j,rfl,hj,HA,rfl⟩:=hrel
  by_cases c1:j<s.size
  ·have d1:decide ((j:Int)<(s.size:Int))=true:=by simp;omega
   have d1':(j:Int)<(s.size:Int):=by omega
   obtain⟨b,hb⟩:∃b,s[j]'c1=b:=⟨_,rfl⟩;have hst:=sw s.data.toList j (by simpa using c1) U.inner;have hno:=zT s.data.toList j (by simpa using c1) U.inner;have hbl:s.data.toList[j]'(by simpa using c1)=b:=hb;rw[hbl]at hst hno;have HS:=hid hst;have HN:=hid hno;clear hst hno hbl;go_wp2_with fail
   refine Calls.mono (BS b _) ?_;rintro _ w3q ⟨rfl,BJ⟩;replace BJ:=BJ.symm;subst BJ;cases h9:(U.inner b)with
   |false=>
    go_wp2
    go_ret;exact⟨ai _ _ (by rw[ZK _ (HN.out (by assumption))]),rfl⟩
   |true=>
    go_wp2
    go_roundw
    case rel=>exact⟨j+1,by go_num,c1,by unfold Hd;rw[HS.out,HA.out];simp_all,trivial⟩
    case measure=>simp[intOf];omega
  ·have d1:decide ((j:Int)<(s.size:Int))=false:=by simp;omega
   have Ra:=hid (ZL _ (nD s U.inner j hj c1 HA.out));cases hs:s.data.toList with
   |nil=>
    have e0:s.toList.isEmpty=true:=by rw[ByteArray.toList_eq,hs];rfl
    have Xi:=hid (show U.jH s.data.toList=false from by rw[Ra.out,hs];rfl);clear hs;go_wp2
    go_ret;exact⟨ai _ _ Xi.out.symm,rfl⟩
   |cons b r=>
    obtain⟨e0,hsz,hb⟩:=LD hs;have Xi:=hid (show U.jH s.data.toList=U.letter b from by rw[Ra.out,hs];rfl);clear hs;go_wp2_with fail
    refine(pX b _).mono ?_;rintro _ w1 ⟨rfl,hw1⟩;replace hw1:=hw1.symm;subst hw1;go_wp2
    go_ret;exact⟨ai _ _ Xi.out.symm,rfl⟩
end
section
open Go.ChangeShapes Go.WideShapes Go.ChangeAt Go.RowKit
open U (E aJ)
theorem E8:(Tryz.prog.info? 55).map (fun i=>(i.zero,i.size,i.bytes))=some (some (.agg Z),4,80):=by kernel_rfl
theorem ab9:(Tryz.prog.info? 125).map (fun i=>(i.zero,i.size,i.bytes))=some (some (.agg #[.string ⟨#[]⟩,.string ⟨#[]⟩]),2,32):=by kernel_rfl
def gJ(W:World)(ats:aJ)(v:Value):Prop:=∃A cap,v=.slice A ats.length cap∧(ats.length≤maxLen∧ats.length≤cap)∧(∀x∈ats,x.1.length≤maxLen∧x.2.length≤maxLen)∧
 (ats=[]∨∃g o,A=some ⟨g,o,none⟩∧g<W.heap.size∧∀i (hi:i<ats.length),W.cell? ⟨g,o+i*2,none⟩=some (.string ⟨ats[i].1.toArray⟩)∧W.cell? ⟨g,o+i*2+1,none⟩=some (.string ⟨ats[i].2.toArray⟩))
theorem gJ.nil(W:World)(A:Option Addr)(cap:Nat):gJ W [] (.slice A 0 cap):=⟨A,cap,rfl,⟨Nat.zero_le _,Nat.zero_le _⟩,(fun _ h=>by cases h),.inl rfl⟩
theorem gJ.fresh{W W':World}{ats:aJ}{v:Value}(h:gJ W ats v)(hf:ag W W'):gJ W' ats v:=by
 obtain⟨A,cap,h1,h2,h3,h4⟩:=h;refine⟨A,cap,h1,h2,h3,h4.imp id ?_⟩;rintro⟨g,o,hA,hg,hc⟩;exact⟨g,o,hA,Nat.lt_of_lt_of_le hg hf.size,fun i hi=>⟨hf.cell (hc i hi).1 (fun h=>h),hf.cell (hc i hi).2 (fun h=>h)⟩⟩
theorem gJ.slice{W:World}{ats:aJ}{v:Value}(h:gJ W ats v):∃A cap,v=.slice A ats.length cap:=by
 obtain⟨A,cap,h1,_⟩:=h;exact⟨A,cap,h1⟩
theorem gJ.get{W:World}{ats:aJ}{A:Option Addr}{len cap:Nat}(h:gJ W ats (.slice A len cap))(i:Nat)(hi:i<ats.length):
  ∃g o,A=some ⟨g,o,none⟩∧g<W.heap.size∧W.cell? ⟨g,o+i*2,none⟩=some (.string ⟨ats[i].1.toArray⟩)∧W.cell? ⟨g,o+i*2+1,none⟩=some (.string ⟨ats[i].2.toArray⟩)∧ats[i].1.length≤maxLen∧ats[i].2.length≤maxLen:=by
 obtain⟨A',cap',h1,h2,h3,h4⟩:=h;cases h1
 rcases h4 with h4|⟨g,o,hA,hg,hc⟩
 ·rw[h4]at hi;simp at hi
 ·exact⟨g,o,hA,hg,(hc i hi).1,(hc i hi).2,h3 _ (List.getElem_mem hi)⟩
inductive gK(W:World):List E→Value→Prop
 |nil (A:Option Addr) (cap:Nat):gK W [] (.slice A 0 cap)
 |row (g o cap:Nat) (es:List E) (al sl:Nat→Value) (hg:g<W.heap.size) (hl:es.length≤maxLen) (ht:∀i (hi:i<es.length),es[i].name.length≤maxLen∧es[i].text.length≤maxLen)
   (h0:∀i (hi:i<es.length),W.cell? ⟨g,o+i*4,none⟩=some (.string ⟨es[i].name.toArray⟩))
   (h1:∀i,i<es.length→W.cell? ⟨g,o+i*4+1,none⟩=some (al i))
   (h2:∀i,i<es.length→W.cell? ⟨g,o+i*4+2,none⟩=some (sl i))
   (h3:∀i (hi:i<es.length),W.cell? ⟨g,o+i*4+3,none⟩=some (.string ⟨es[i].text.toArray⟩))
   (ha:∀i (hi:i<es.length),gJ W es[i].attrs (al i)) (hk:∀i (hi:i<es.length),gK W es[i].kids (sl i)):gK W es (.slice (some ⟨g,o,none⟩) es.length cap)
theorem gK.fresh{W W':World}{es:List E}{v:Value}(h:gK W es v)(hf:ag W W'):gK W' es v:=by
 induction h with
 |nil A cap=>exact .nil A cap
 |row g o cap es al sl hg hl ht h0 h1 h2 h3 ha hk ih=>
  exact .row g o cap es al sl (Nat.lt_of_lt_of_le hg hf.size) hl ht (fun i hi=>hf.cell (h0 i hi) (fun h=>h)) (fun i hi=>hf.cell (h1 i hi) (fun h=>h)) (fun i hi=>hf.cell (h2 i hi) (fun h=>h)) (fun i hi=>hf.cell (h3 i hi) (fun h=>h)) (fun i hi=>(ha i hi).fresh hf) ih
theorem gK.slice{W:World}{es:List E}{v:Value}(h:gK W es v):∃A cap,v=.slice A es.length cap:=by
 cases h with
 |nil A cap=>exact⟨A,cap,rfl⟩
 |row g o cap=>exact⟨_,cap,rfl⟩
theorem gK.len{W:World}{es:List E}{v:Value}(h:gK W es v):es.length≤maxLen:=by
 cases h with
 |nil A cap=>exact Nat.zero_le _
 |row g o cap _ al sl hg hl=>exact hl
def jd(W:World)(e:E)(va vk:Value):Prop:=gJ W e.attrs va∧gK W e.kids vk∧e.name.length≤maxLen∧e.text.length≤maxLen
abbrev ev(e:E)(va vk:Value):Value:=.agg #[.string ⟨e.name.toArray⟩,va,vk,.string ⟨e.text.toArray⟩]
theorem jd.fresh{W W':World}{e:E}{va vk:Value}(h:jd W e va vk)(hf:ag W W'):jd W' e va vk:=⟨h.1.fresh hf,h.2.1.fresh hf,h.2.2⟩
theorem gK.get{W:World}{es:List E}{A:Option Addr}{len cap:Nat}(h:gK W es (.slice A len cap))(i:Nat)(hi:i<es.length):
  ∃g o va vk,A=some ⟨g,o,none⟩∧g<W.heap.size∧W.cell? ⟨g,o+i*4,none⟩=some (.string ⟨es[i].name.toArray⟩)∧W.cell? ⟨g,o+i*4+1,none⟩=some va∧W.cell? ⟨g,o+i*4+2,none⟩=some vk∧
   W.cell? ⟨g,o+i*4+3,none⟩=some (.string ⟨es[i].text.toArray⟩)∧jd W es[i] va vk:=by
 generalize hv:Value.slice A len cap=v at h;cases h with
 |nil A cap=>simp at hi
 |row g o cap _ al sl hg hl ht h0 h1 h2 h3 ha hk=>
  cases hv;exact⟨g,o,al i,sl i,rfl,hg,h0 i hi,h1 i hi,h2 i hi,h3 i hi,ha i hi,hk i hi,ht i hi⟩
section
variable {H:Type} {enc:TypeId×Value→H}
end
end
end Go.Proofs.YtcgbccfpcgaikaaGreatDoor
