/- Part 11 of 41 of a proof. No condition. -/
import Derived.Test.YtabjglnjjdcfmaaGreatDoorWe7
set_option maxRecDepth 100000
set_option maxHeartbeats 1000000
namespace Go.Proofs.YtabjglnjjdcfmaaGreatDoor
open _root_.List renaming take_succ_cons->avF,cons_append->au',take_add_one->avq,getElem?_eq_getElem->ave,all_cons->au9,length_append->auZ,range->awj,drop_take->aw3,take_take->awE,length_take->avj,range_succ->aw6,map_append->avx,map_congr_left->av1,map_singleton->aw7,getElem_mem->avS
open _root_.Nat renaming min_eq_left->awP,mul_comm->awy,div_eq_of_lt->aw4,zero_le->au1,lt_of_lt_of_le->avc,le_trans->au2,zero_add->au8
open _root_.Go.Proofs.Tryz
namespace U
abbrev QJ:=List UInt8
abbrev aJ:=List (QJ×QJ)
inductive E where
 |mk (name:QJ) (Zn:aJ) (Qx:List E) (QG:QJ)
namespace E
def name:E->QJ|mk n _ _ _=>n
def Zn:E->aJ|mk _ a _ _=>a
def Qx:E->List E|mk _ _ k _=>k
def QG:E->QJ|mk _ _ _ t=>t
end E
theorem E.eta(e:E):e=.mk e.name e.Zn e.Qx e.QG:=by cases e;rfl
mutual
def count:E->Nat
 |.mk _ _ ks _=>1+az ks
def az:List E->Nat
 |[]=>0
 |n::ns=>count n+az ns
end
mutual
def depth:E->Nat
 |.mk _ _ ks _=>aX ks+1
def aX:List E->Nat
 |[]=>0
 |n::ns=>max (depth n) (aX ns)
end
theorem bX(n:E):0<count n:=by cases n;rw[count];omega
theorem NJ(n:E):0<depth n:=by cases n;rw[depth];omega
theorem aN(n:E):count n=1+az n.Qx:=by cases n;rw[count];rfl
theorem oN(n:E):depth n=aX n.Qx+1:=by cases n;rw[depth];rfl
theorem uA(l:List E)(i:Nat)(h:i<l.length):az (l.take (i+1))=az (l.take i)+count l[i]:=by
 induction l generalizing i with
 |nil=>simp at h
 |cons x l ih=>
  cases i with
  |zero=>simp[az]
  |succ i=>
   simp only[avF,az,List.getElem_cons_succ];rw[ih i (by simpa using h)];omega
theorem Xe(l m:List E):az (l++m)=az l+az m:=by
 induction l with
 |nil=>simp[az]
 |cons x l ih=>rw[au',az,az,ih];omega
theorem EY(l m:List E):aX (l++m)=max (aX l) (aX m):=by
 induction l with
 |nil=>simp[aX]
 |cons x l ih=>rw[au',aX,aX,ih];omega
theorem Dy(l:List E)(i:Nat)(h:i<l.length):aX (l.take (i+1))=max (aX (l.take i)) (depth l[i]):=by
 rw[avq,ave h,EY];simp[aX]
theorem qy(l:List E)(i:Nat):az (l.take i)<=az l:=by
 induction l generalizing i with
 |nil=>simp[az]
 |cons x l ih=>
  cases i with
  |zero=>simp[az]
  |succ i=>simp only[avF,az];have:=ih i;omega
theorem cB{l:List E}{n:E}(h:n∈l):count n<=az l:=by
 induction l with
 |nil=>cases h
 |cons x l ih=>
  rw[az]
  rcases List.mem_cons.1 h with rfl|h
  .omega
  .have:=ih h;omega
theorem ZE{l:List E}{n:E}(h:n∈l):depth n<=aX l:=by
 induction l with
 |nil=>cases h
 |cons x l ih=>
  rw[aX]
  rcases List.mem_cons.1 h with rfl|h
  .omega
  .have:=ih h;omega
theorem jF(l:List E):l.length<=az l:=by
 induction l with
 |nil=>simp[az]
 |cons x l ih=>rw[az];have:=bX x;simp;omega
theorem E.ind{p:E->Prop}(h:∀n,(∀m∈n.Qx,p m)->p n)(n:E):p n:=by
 have:∀k n,count n<=k->p n:=by
  intro k
  induction k with
  |zero=>intro n hn;have:=bX n;omega
  |succ k ih=>
   intro n hn;refine h n λm hm=>ih m ?_
   have:=cB hm;have:=aN n;omega
 exact this _ n PD
def D8(b:UInt8):Bool:=(decide (97<=b)&&decide (b<=122))||(decide (65<=b)&&decide (b<=90))
def inner(b:UInt8):Bool:=D8 b||(decide (48<=b)&&decide (b<=57))||b==45
def aU(b:UInt8):Bool:=decide (32<=b)&&decide (b<=126)
def jH:QJ->Bool
 |[]=>false
 |b::s=>D8 b&&s.all inner
def fu(s:QJ):Bool:=s.all aU&&decide (s.length<=200)
def jY(a:aJ):Bool:=a.all (λx=>jH x.1&&fu x.2)&&decide (a.map (·.1)).Nodup
def qF(e:E):Bool:=jH e.name&&fu e.QG&&(e.QG.isEmpty||e.Qx.isEmpty)&&decide (e.Zn.length<=8)&&jY e.Zn
mutual
def proper:E->Bool
 |.mk n a ks t=>qF (.mk n a ks t)&&uE ks
def uE:List E->Bool
 |[]=>true
 |x::xs=>proper x&&uE xs
end
def valid(e:E):Bool:=proper e&&decide (count e<=3000)&&decide (depth e<=64)
theorem sD(e:E):proper e=(qF e&&uE e.Qx):=by cases e;rw[proper];rfl
theorem o8(l:List E):uE l=l.all proper:=by
 induction l with
 |nil=>rw[uE];rfl
 |cons x l ih=>rw[uE,ih,au9]
mutual
def eqE:E->E->Bool
 |.mk n a ks t,.mk n' a' ks' t'=>n==n'&&a==a'&&t==t'&&rY ks ks'
def rY:List E->List E->Bool
 |[],[]=>true
 |n::ns,m::ms=>eqE n m&&rY ns ms
 |_,_=>false
end
end U
namespace Xp
open U (E aJ QJ D8 inner aU)
inductive Rs(α:Type) where
 |ok (x:α) (l:QJ) (c:Nat)
 |bad (l:QJ)
def ZF{α:Type}(r:Rs α):Prop:=∃x l c,r=.ok x l c
theorem sF{α:Type}{r:Rs α}{l:QJ}{P:Prop}(h:ZF r)(e:r=.bad l):P:=by
 obtain⟨x,l',c,h⟩:=h;rw[e]at h;cases h
def Dq(b:UInt8):Bool:=b==32||b==9||b==10||b==13
def bB(b:UInt8)(c:Nat):QJ->Rs Unit
 |[]=>.bad []
 |x::l=>if x=b then .ok () l c else .bad (x::l)
def nM(c:Nat):QJ->Rs QJ
 |[]=>.bad []
 |x::l=>if D8 x then .ok ((x::l).takeWhile inner) ((x::l).dropWhile inner) c else .bad (x::l)
def cO:List (QJ×UInt8):=[([38,97,109,112,59],38),([38,108,116,59],60),([38,103,116,59],62),([38,113,117,111,116,59],34)]
def pre(s t:QJ):Bool:=t.take s.length==s
def eT(c:Nat):QJ->QJ->Rs UInt8
 |_,[]=>.bad []
 |p,b::l=>match cO.find? (λx=>x.1==p++[b])with
  |some x=>.ok x.2 l c
  |none=>if cO.any (λx=>pre (p++[b]) x.1)then eT c (p++[b]) l else .bad (b::l)
def jk(n c:Nat):QJ->Rs UInt8
 |[]=>.bad []
 |b::l=>if 200<=n\/b=60\/aU b=false then .bad (b::l)else if b=38 then eT c [] (b::l)else .ok b l c
def jl(q:UInt8)(c:Nat):Nat->QJ->QJ->Rs QJ
 |0,_,l=>.bad l
 |f+1,acc,l=>match l with
  |[]=>.bad []
  |b::l'=>if b=q then .ok acc (b::l') c else match jk acc.length c (b::l')with
   |.bad l2=>.bad l2
   |.ok x l2 _=>jl q c f (acc++[x]) l2
def gM(aM:aJ)(c:Nat)(l:QJ):Rs (QJ×QJ):=match nM c l with
 |.bad l1=>.bad l1
 |.ok nm l1 _=>match l1 with
  |[]=>.bad []
  |b::l2=>if b≠61\/aM.any (λx=>x.1==nm)=true then .bad (b::l2)else match bB 34 c l2 with
   |.bad l3=>.bad l3
   |.ok _ l3 _=>match jl 34 c (l3.length+1) [] l3 with
    |.bad l4=>.bad l4
    |.ok v l4 _=>.ok (nm,v) (l4.drop 1) c
def nQ(c:Nat):Nat->aJ->QJ->Rs (aJ×Bool)
 |0,_,l=>.bad l
 |f+1,aM,l=>match l.dropWhile Dq with
  |[]=>.bad []
  |b::l2=>if b=47 then(match bB 62 c l2 with
    |.bad l3=>.bad l3
    |.ok _ l3 _=>.ok (aM,true) l3 c)
   else if b=62 then .ok (aM,false) l2 c
   else if(b::l2).length<l.length/\D8 b=true/\aM.length<8 then(match gM aM c (b::l2)with
    |.bad l3=>.bad l3
    |.ok a l3 _=>nQ c f (aM++[a]) l3)
   else .bad (b::l2)
def wW(c:Nat):QJ->QJ->Rs Unit
 |[],l=>.ok () l c
 |b::s,l=>match bB b c l with
  |.bad l1=>.bad l1
  |.ok _ l1 _=>wW c s l1
def iQ(nm:QJ)(c:Nat)(l:QJ):Rs Unit:=match bB 47 c l with
 |.bad l1=>.bad l1
 |.ok _ l1 _=>match wW c nm l1 with
  |.bad l2=>.bad l2
  |.ok _ l2 _=>bB 62 c (l2.dropWhile Dq)
def jZ(el:QJ->Nat->Rs E):Nat->List E->QJ->Nat->Rs (List E)
 |0,_,l,_=>.bad l
 |f+1,ks,l,c=>match l with
  |[]=>.bad []
  |b::l'=>if b=47 then .ok ks (b::l') c else match el (b::l') c with
   |.bad l1=>.bad l1
   |.ok e l1 c1=>match l1.dropWhile Dq with
    |[]=>.bad []
    |b2::l3=>if b2=60 then jZ el f (ks++[e]) l3 c1 else .bad (b2::l3)
def j4(NH:QJ):Bool:=NH.all (λb=>b==32)&&decide (NH.length<=200)
def dh(el:QJ->Nat->Rs E)(nm:QJ)(l:QJ)(c:Nat):Rs (List E×QJ):=match l.dropWhile Dq with
 |[]=>.bad []
 |b::l2=>
  if j4 (l.takeWhile Dq)=false then .bad (b::l2)
  else if b=60 then(match jZ el (l2.length+1) [] l2 c with
   |.bad l3=>.bad l3
   |.ok ks l3 c3=>match iQ nm c3 l3 with
    |.bad l4=>.bad l4
    |.ok _ l4 _=>.ok (ks,if j4 (l.takeWhile Dq)&&ks.isEmpty then l.takeWhile Dq else []) l4 c3)
  else match jl 60 c ((b::l2).length+1) (l.takeWhile Dq) (b::l2)with
   |.bad l3=>.bad l3
   |.ok t l3 _=>match iQ nm c (l3.drop 1)with
    |.bad l4=>.bad l4
    |.ok _ l4 _=>.ok ([],t) l4 c
def aR:Nat->QJ->Nat->Rs E
 |0,l,_=>.bad l
 |n+1,l,c=>match l with
  |[]=>.bad []
  |b::l'=>if D8 b=false\/3000<=c then .bad (b::l')else match nQ (c+1) 9 [] ((b::l').dropWhile inner)with
   |.bad l1=>.bad l1
   |.ok (aM,true) l1 _=>.ok (.mk ((b::l').takeWhile inner) aM [] []) l1 (c+1)
   |.ok (aM,false) l1 _=>match dh (aR n) ((b::l').takeWhile inner) l1 (c+1)with
    |.bad l2=>.bad l2
    |.ok (ks,t) l2 c2=>.ok (.mk ((b::l').takeWhile inner) aM ks t) l2 c2
def kz(l:QJ):Rs E:=match bB 60 0 (l.dropWhile Dq)with
 |.bad l1=>.bad l1
 |.ok _ l1 _=>match aR 64 l1 0 with
  |.bad l2=>.bad l2
  |.ok e l2 c2=>match l2.dropWhile Dq with
   |[]=>.ok e [] c2
   |b::l3=>.bad (b::l3)
def ab5:E:=.mk [] [] [] []
def ZG(T:QJ):E×Int×Int:=match kz T with
 |.ok e _ _=>(e,0,0)
 |.bad l=>(ab5,(T.length:Int)-l.length,3)
def bQ(l' l:QJ):Prop:=∃p,l=p++l'
theorem bQ.refl(l:QJ):bQ l l:=⟨[],rfl⟩
theorem bQ.trans{a b c:QJ}(h:bQ a b)(h':bQ b c):bQ a c:=by
 obtain⟨p,rfl⟩:=h;obtain⟨q,rfl⟩:=h';exact⟨q++p,by rw[List.append_assoc]⟩
theorem bQ.cons{a:QJ}(b:UInt8):bQ a (b::a):=⟨[b],rfl⟩
theorem bQ.dropWhile(p:UInt8->Bool)(l:QJ):bQ (l.dropWhile p) l:=⟨l.takeWhile p,(List.takeWhile_append_dropWhile ..).symm⟩
theorem bQ.len{a b:QJ}(h:bQ a b):a.length<=b.length:=by
 obtain⟨p,rfl⟩:=h;rw[auZ];omega
theorem bQ.drop(n:Nat)(l:QJ):bQ (l.drop n) l:=⟨l.take n,(List.take_append_drop n l).symm⟩
def Rs.left{α:Type}:Rs α->QJ
 |.ok _ l _=>l
 |.bad l=>l
theorem pW(b:UInt8)(c:Nat)(l:QJ):bQ (bB b c l).left l:=by
 cases l with
 |nil=>exact bQ.refl _
 |cons x l=>
  show bQ (if x=b then _ else _:Rs Unit).left _;split
  .exact bQ.cons _
  .exact bQ.refl _
theorem Xf(c:Nat)(l:QJ):bQ (nM c l).left l:=by
 cases l with
 |nil=>exact bQ.refl _
 |cons x l=>
  show bQ (if D8 x then _ else _:Rs QJ).left _;split
  .exact bQ.dropWhile _ _
  .exact bQ.refl _
theorem LB(c:Nat):∀(l p:QJ),bQ (eT c p l).left l
 |[],p=>by rw[eT];exact bQ.refl _
 |b::l,p=>by
  rw[eT];split
  .exact bQ.cons _
  .split
   .exact(LB c l _).trans arD
   .exact bQ.refl _
theorem Xg(n c:Nat)(l:QJ):bQ (jk n c l).left l:=by
 cases l with
 |nil=>exact bQ.refl _
 |cons b l=>
  show bQ (if _ then _ else if _ then _ else _:Rs UInt8).left _;split
  .exact bQ.refl _
  .split
   .exact LB c _ _
   .exact bQ.cons _
theorem EZ(q:UInt8)(c:Nat):∀(f:Nat) (acc l:QJ),bQ (jl q c f acc l).left l
 |0,_,l=>by rw[jl];exact bQ.refl _
 |f+1,acc,[]=>by rw[jl];exact bQ.refl _
 |f+1,acc,b::l=>by
  rw[jl];have h:=Xg acc.length c (b::l);split
  .exact bQ.refl _
  .cases hc:jk acc.length c (b::l)with
   |bad l2=>rw[hc]at h;exact h
   |ok x l2 c2=>rw[hc]at h;exact(EZ q c f _ l2).trans h
theorem Xh(aM:aJ)(c:Nat)(l:QJ):bQ (gM aM c l).left l:=by
 unfold gM;have h:=Xf c l;cases hn:nM c l with
 |bad l1=>rw[hn]at h;exact h
 |ok nm l1 _=>
  rw[hn]at h;cases l1 with
  |nil=>exact h
  |cons b l2=>
   dsimp only
   split
   .exact h
   .have h2:=pW 34 c l2
    cases he:bB 34 c l2 with
    |bad l3=>rw[he]at h2;exact(h2.trans arD).trans h
    |ok u l3 _=>
     rw[he]at h2;have h3:=EZ 34 c (l3.length+1) [] l3
     dsimp only
     cases ht:jl 34 c (l3.length+1) [] l3 with
     |bad l4=>rw[ht]at h3;exact((h3.trans h2).trans arD).trans h
     |ok v l4 _=>rw[ht]at h3;exact((((bQ.drop 1 l4).trans h3).trans h2).trans arD).trans h
theorem JK(c:Nat):∀(f:Nat) (aM:aJ) (l:QJ),bQ (nQ c f aM l).left l
 |0,_,l=>by rw[nQ];exact bQ.refl _
 |f+1,aM,l=>by
  rw[nQ];have h:=bQ.dropWhile Dq l;cases hd:l.dropWhile Dq with
  |nil=>rw[hd]at h;exact h
  |cons b l2=>
   rw[hd]at h
   dsimp only
   split
   .have h2:=pW 62 c l2
    cases he:bB 62 c l2 with
    |bad l3=>rw[he]at h2;exact(h2.trans arD).trans h
    |ok u l3 _=>rw[he]at h2;exact(h2.trans arD).trans h
   .split
    .exact(bQ.cons _).trans h
    .split
     .have h2:=Xh aM c (b::l2)
      cases ha:gM aM c (b::l2)with
      |bad l3=>rw[ha]at h2;exact h2.trans h
      |ok a l3 _=>rw[ha]at h2;exact((JK c f _ l3).trans h2).trans h
     .exact h
theorem Ob(c:Nat):∀(s l:QJ),bQ (wW c s l).left l
 |[],l=>by rw[wW];exact bQ.refl _
 |b::s,l=>by
  rw[wW];have h:=pW b c l;cases he:bB b c l with
  |bad l1=>rw[he]at h;exact h
  |ok u l1 _=>rw[he]at h;exact(Ob c s l1).trans h
theorem Oc(nm:QJ)(c:Nat)(l:QJ):bQ (iQ nm c l).left l:=by
 unfold iQ;have h:=pW 47 c l;cases he:bB 47 c l with
 |bad l1=>rw[he]at h;exact h
 |ok u l1 _=>
  rw[he]at h;have h2:=Ob c nm l1
  dsimp only
  cases hl:wW c nm l1 with
  |bad l2=>rw[hl]at h2;exact h2.trans h
  |ok v l2 _=>rw[hl]at h2;exact(((pW 62 c _).trans (bQ.dropWhile Dq l2)).trans h2).trans h
theorem LC(el:QJ->Nat->Rs E)(ac:∀l c,bQ (el l c).left l):∀(f:Nat) (ks:List E) (l:QJ) (c:Nat),bQ (jZ el f ks l c).left l
 |0,_,l,_=>by rw[jZ];exact bQ.refl _
 |f+1,ks,[],c=>by rw[jZ];exact bQ.refl _
 |f+1,ks,b::l,c=>by
  rw[jZ];have h:=ac (b::l) c;split
  .exact bQ.refl _
  .cases he:el (b::l) c with
   |bad l1=>rw[he]at h;exact h
   |ok e l1 c1=>
    rw[he]at h;have h2:=bQ.dropWhile Dq l1
    dsimp only
    cases hd:l1.dropWhile Dq with
    |nil=>rw[hd]at h2;exact h2.trans h
    |cons b2 l3=>
     rw[hd]at h2
     dsimp only
     split
     .exact(((LC el ac f _ l3 c1).trans arD).trans h2).trans h
     .exact h2.trans h
theorem Pm(el:QJ->Nat->Rs E)(ac:∀l c,bQ (el l c).left l)(nm l:QJ)(c:Nat):bQ (dh el nm l c).left l:=by
 unfold dh;have h:=bQ.dropWhile Dq l;cases hd:l.dropWhile Dq with
 |nil=>rw[hd]at h;exact h
 |cons b l2=>
  rw[hd]at h
  dsimp only
  split
  .exact h
  .split
   .have h2:=LC el ac (l2.length+1) [] l2 c
    cases hk:jZ el (l2.length+1) [] l2 c with
    |bad l3=>rw[hk]at h2;exact(h2.trans arD).trans h
    |ok ks l3 c3=>
     rw[hk]at h2;have h3:=Oc nm c3 l3
     dsimp only
     cases he:iQ nm c3 l3 with
     |bad l4=>rw[he]at h3;exact((h3.trans h2).trans arD).trans h
     |ok u l4 _=>rw[he]at h3;exact((h3.trans h2).trans arD).trans h
   .have h2:=EZ 60 c ((b::l2).length+1) (l.takeWhile Dq) (b::l2)
    cases ht:jl 60 c ((b::l2).length+1) (l.takeWhile Dq) (b::l2)with
    |bad l3=>rw[ht]at h2;exact h2.trans h
    |ok t l3 _=>
     rw[ht]at h2;have h3:=Oc nm c (l3.drop 1)
     dsimp only
     cases he:iQ nm c (l3.drop 1)with
     |bad l4=>rw[he]at h3;exact((h3.trans (bQ.drop 1 l3)).trans h2).trans h
     |ok u l4 _=>rw[he]at h3;exact((h3.trans (bQ.drop 1 l3)).trans h2).trans h
theorem wR:∀(n:Nat) (l:QJ) (c:Nat),bQ (aR n l c).left l
 |0,l,_=>by rw[aR];exact bQ.refl _
 |n+1,[],c=>by rw[aR];exact bQ.refl _
 |n+1,b::l,c=>by
  rw[aR];have h:=(JK (c+1) 9 [] ((b::l).dropWhile inner)).trans (bQ.dropWhile inner (b::l));split
  .exact bQ.refl _
  .cases ha:nQ (c+1) 9 [] ((b::l).dropWhile inner)with
   |bad l1=>rw[ha]at h;exact h
   |ok p l1 _=>
    rw[ha]at h;obtain⟨aM,z⟩:=p;cases z with
    |true=>exact h
    |false=>
     have h2:=Pm (aR n) (wR n) ((b::l).takeWhile inner) l1 (c+1)
     dsimp only
     cases hc:dh (aR n) ((b::l).takeWhile inner) l1 (c+1)with
     |bad l2=>rw[hc]at h2;exact h2.trans h
     |ok q l2 c2=>rw[hc]at h2;exact h2.trans h
end Xp
namespace U
open Tr (Nd)
def gU:QJ:=[109,97,116,104]
def yt:QJ:=[109,105]
def yu:QJ:=[109,111]
def CU:QJ:=[109,110]
def qG:QJ:=[109,116,101,120,116]
def aj:QJ:=[109,114,111,119]
def lq:QJ:=[109,102,114,97,99]
def fV:QJ:=[109,115,113,114,116]
def fZ:QJ:=[109,114,111,111,116]
def mW:QJ:=[109,115,117,98]
def mX:QJ:=[109,115,117,112]
def gN:QJ:=[109,115,117,98,115,117,112]
def bI:QJ:=[109,111,118,101,114]
def ji:QJ:=[97,99,99,101,110,116]
def aV:QJ:=[109,102,101,110,99,101,100]
def qH:QJ:=[111,112,101,110]
def nR:QJ:=[99,108,111,115,101]
def bE:QJ:=[109,116,97,98,108,101]
def dU:QJ:=[109,116,114]
def bq:QJ:=[109,116,100]
def GL{α:Type}(c:Nat)(l:List α):List (List α):=(awj ((l.length+c-1)/c)).map λr=>(l.drop (r*c)).take c
theorem E5{α:Type}(c:Nat)(hc:0<c)(l:List α)(i r:Nat)(h:r*c+c<=i):((l.take i).drop (r*c)).take c=(l.drop (r*c)).take c:=by
 rw[aw3,awE,awP (by omega)]
theorem Ki(c k:Nat)(hc:0<c):(k*c+c-1)/c=k:=by
 rw[show k*c+c-1=c*k+(c-1) by rw[awy];omega,Nat.mul_add_div hc,aw4 (by omega)];omega
theorem M7(c k j:Nat)(hc:0<c)(hj:0<j)(ak:j<=c):(k*c+j+c-1)/c=k+1:=by
 rw[show k*c+j+c-1=c*(k+1)+(j-1) by rw[awy c,Nat.add_mul];omega,Nat.mul_add_div hc,aw4 (by omega)]
theorem Q9{α:Type}(c:Nat)(hc:0<c):GL c ([]:List α)=[]:=by
 unfold GL;rw[show(List.length ([]:List α)+c-1)/c=0 from aw4 (by simp;omega)];rfl
theorem ab6{α:Type}(c:Nat)(hc:0<c)(l:List α)(k:Nat)(h:k*c<l.length):GL c (l.take (k*c+1))=GL c (l.take (k*c))++[[l[k*c]]]:=by
 unfold GL;rw[avj,avj,awP (by omega),awP (by omega),Ki c k hc,M7 c k 1 hc (by omega) hc,aw6,avx]
 congr 1
 .refine av1 λr hr=>?_
  have hr:=List.mem_range.1 hr;have h1:r*c+c<=k*c:=aqs
  rw[E5 c hc l _ r (by omega),E5 c hc l _ r h1]
 .rw[aw7,aw3,show k*c+1-k*c=1 by omega,awE,Nat.min_eq_right (by omega),List.drop_eq_getElem_cons h]
  rfl
theorem ZH{α:Type}(c:Nat)(hc:0<c)(l:List α)(k j:Nat)(hj:0<j)(ak:j<c)(h:k*c+j<l.length):
  ∃L r,GL c (l.take (k*c+j))=L++[r]/\GL c (l.take (k*c+j+1))=L++[r++[l[k*c+j]]]/\r.length=j:=by
 refine⟨(awj k).map λr=>(l.drop (r*c)).take c,(l.drop (k*c)).take j,?_,?_,?_⟩
 .unfold GL
  rw[avj,awP (by omega),M7 c k j hc hj (by omega),aw6,avx]
  congr 1
  .refine av1 λr hr=>?_
   have hr:=List.mem_range.1 hr;have h1:r*c+c<=k*c:=aqs
   rw[E5 c hc l _ r (by omega)]
  .rw[aw7,aw3,awE,show min c (k*c+j-k*c)=j by omega]
 .unfold GL
  rw[avj,awP (by omega),show k*c+j+1=k*c+(j+1) by omega,M7 c k (j+1) hc (by omega) (by omega),aw6,avx]
  congr 1
  .refine av1 λr hr=>?_
   have hr:=List.mem_range.1 hr;have h1:r*c+c<=k*c:=aqs
   rw[E5 c hc l _ r (by omega)]
  .rw[aw7,aw3,awE,show min c (k*c+(j+1)-k*c)=j+1 by omega,avq,List.getElem?_drop,ave h]
   rfl
 .rw[avj,List.length_drop];omega
def ax(n:QJ)(l:List E):E:=.mk n [] l []
def qX:QJ->Bool
 |[]=>false
 |b::_=>D8 b
def FY(k:Int)(t:QJ)(c:Int)(ss:List (List E)):E:=
 if k=2 then .mk (if qX t then yt else yu) [] [] t
 else if k=3 then .mk CU [] [] t
 else if k=4 then .mk qG [] [] t
 else if k=6 then(match ss with
  |[]::r=>.mk fV [] (r.map (ax aj)) []
  |a::b::_=>.mk fZ [] [ax aj b,ax aj a] []
  |_=>.mk [] [] [] [])
 else if k=10 then .mk bI [(ji,t)] (ss.map (ax aj)) []
 else if k=11 then .mk aV [(qH,t.take 1),(nR,t.drop 1)] (ss.map (ax aj)) []
 else if k=12 then .mk bE [] ((GL c.toNat (ss.map (ax bq))).map (ax dU)) []
 else .mk (if k=5 then lq else if k=7 then mW else if k=8 then mX else gN) [] (ss.map (ax aj)) []
mutual
def iX:Nd->E
 |.mk k t c ks=>FY k t c (nS ks)
def eU:List Nd->List E
 |[]=>[]
 |n::ns=>iX n::eU ns
def nS:List Nd->List (List E)
 |[]=>[]
 |.mk _ _ _ ks::ns=>eU ks::nS ns
end
def nT(n:Nd):E:=ax gU (eU n.Qx)
theorem qI(n:Nd):iX n=FY n.QI n.QG n.ah (nS n.Qx):=by cases n;rw[iX];rfl
theorem zb(l:List Nd):eU l=l.map iX:=by
 induction l with
 |nil=>rw[eU];rfl
 |cons x l ih=>rw[eU,ih];rfl
theorem iM(l:List Nd):nS l=l.map λn=>eU n.Qx:=by
 induction l with
 |nil=>rw[nS];rfl
 |cons x l ih=>cases x;rw[nS,ih];rfl
end U
section
open Go.RowKit
theorem ab7:∀n:Fin 256,bits BinOp.or IntKind.u8 (n.1:Int) 32=((n.1|||32:Nat):Int):=I_
theorem Vv(b:UInt8):bits BinOp.or IntKind.u8 (b.toNat:Int) 32=((b.toNat|||32:Nat):Int):=ab7 ⟨b.toNat,b.toNat_lt⟩
theorem ZI:∀n:Fin 256,(decide ((97:Int)<=((n.1|||32:Nat):Int))&&decide (((n.1|||32:Nat):Int)<=(122:Int)))=U.D8 (UInt8.ofNat n.1):=I_
theorem afJ(b:UInt8):(decide ((97:Int)<=((b.toNat|||32:Nat):Int))&&decide (((b.toNat|||32:Nat):Int)<=(122:Int)))=U.D8 b:=by
 have:=ZI ⟨b.toNat,b.toNat_lt⟩;exact ah7
theorem LD{s:Y_}{b:UInt8}{r:List UInt8}(hs:s.data.toList=b::r):s.toList.isEmpty=false/\∃h:0<s.size,s[0]=b:=by
 have hl:s.data.toList.length=s.size:=P9
 have hsz:0<s.size:=by rw[<-hl,hs];simp
 refine⟨?_,hsz,?_⟩
 .rw[ByteArray.toList_eq,hs];rfl
 .have:s.data.toList[0]'(by rw[hs];simp)=b:=by simp[hs]
  rw[<-this];simp
  rfl
theorem Dz(s:Y_)(w:W_):C_ 102 #[.string s] w λe w'=>e=.returned (.bool (U.qX s.data.toList))/\w'=w:=by
 cases hs:s.data.toList with
 |nil=>
  have e0:s.toList.isEmpty=true:=by rw[ByteArray.toList_eq,hs];rfl
  clear hs;go_enter func102,ntmps102;go_wp2
  exact asw
 |cons b r=>
  obtain⟨e0,hsz,hb⟩:=LD hs;clear hs;have hx:bits BinOp.or IntKind.u8 ((s[0]'hsz).toNat:Int) 32=((b.toNat|||32:Nat):Int):=by rw[hb];exact Vv b
  clear hb;have hl:=afJ b;show Calls _ _ _ _ λe w'=>e=.returned (.bool (U.D8 b))/\w'=w
  rw[<-hl];clear hl;cases h1:decide ((97:Int)<=((b.toNat|||32:Nat):Int))with
  |false=>
   have Zl:decide (97<=b.toNat|||32)=false:=asM
   go_enter func102,ntmps102;go_wp2
   exact asw
  |true=>
   have Zl:decide (97<=b.toNat|||32)=true:=atn
   cases h2:decide (((b.toNat|||32:Nat):Int)<=(122:Int))with
   |false=>
    have GH:decide (b.toNat|||32<=122)=false:=akO
    go_enter func102,ntmps102;go_wp2
    exact asw
   |true=>
    have GH:decide (b.toNat|||32<=122)=true:=apb
    go_enter func102,ntmps102;go_wp2
    exact asw
theorem ZJ:∀n:Fin 256,U.inner (UInt8.ofNat n.1)=(U.D8 (UInt8.ofNat n.1)||(decide ((48:Int)<=(n.1:Int))&&decide ((n.1:Int)<=(57:Int)))||((n.1:Int)==(45:Int))):=I_
theorem ze(b:UInt8):U.inner b=(U.D8 b||(decide ((48:Int)<=(b.toNat:Int))&&decide ((b.toNat:Int)<=(57:Int)))||((b.toNat:Int)==(45:Int))):=by
 have:=ZJ ⟨b.toNat,b.toNat_lt⟩;exact ah7
theorem ab8:∀n:Fin 256,U.aU (UInt8.ofNat n.1)=(decide ((32:Int)<=(n.1:Int))&&decide ((n.1:Int)<=(126:Int))):=I_
theorem M8(b:UInt8):U.aU b=(decide ((32:Int)<=(b.toNat:Int))&&decide ((b.toNat:Int)<=(126:Int))):=by
 have:=ab8 ⟨b.toNat,b.toNat_lt⟩;exact ah7
theorem pX(b:UInt8)(w:W_):C_ 112 #[.int .u8 (b.toNat:Int)] w λe w'=>e=.returned (.bool (U.D8 b))/\w'=w:=by
 have hx:=Vv b;rw[<-afJ b];cases h1:decide ((97:Int)<=((b.toNat|||32:Nat):Int))with
 |false=>
  have Zl:decide (97<=b.toNat|||32)=false:=asM
  go_enter func112,ntmps112;go_wp2
  exact asw
 |true=>
  have Zl:decide (97<=b.toNat|||32)=true:=atn
  cases h2:decide (((b.toNat|||32:Nat):Int)<=(122:Int))with
  |false=>
   have GH:decide (b.toNat|||32<=122)=false:=akO
   go_enter func112,ntmps112;go_wp2
   exact asw
  |true=>
   have GH:decide (b.toNat|||32<=122)=true:=apb
   go_enter func112,ntmps112;go_wp2
   exact asw
theorem BS(b:UInt8)(w:W_):C_ 134 #[.int .u8 (b.toNat:Int)] w λe w'=>e=.returned (.bool (U.inner b))/\w'=w:=by
 go_enter func134,ntmps134;go_wp2_with fail
 refine Calls.mono (pX b _) ?_;rintro _ Zm ⟨rfl,pM⟩;replace pM:=pM.symm;subst pM;cases h1:(U.D8 b)with
 |false=>
  cases h2:decide ((48:Int)<=(b.toNat:Int))with
  |false=>
   have GH:decide (48<=b.toNat)=false:=akO
   cases h3:((b.toNat:Int)==(45:Int))with
   |false=>
    have D5:((b.toNat:Int) !=(45:Int))=true:=ani
    go_wp2
    exact anw
   |true=>
    have D5:((b.toNat:Int) !=(45:Int))=false:=ani
    go_wp2
    exact anw
  |true=>
   have GH:decide (48<=b.toNat)=true:=apb
   cases h4:decide ((b.toNat:Int)<=(57:Int))with
   |false=>
    have aa:decide (b.toNat<=57)=false:=asJ
    cases h5:((b.toNat:Int)==(45:Int))with
    |false=>
     have Zf:((b.toNat:Int) !=(45:Int))=true:=atP
     go_wp2
     exact anw
    |true=>
     have Zf:((b.toNat:Int) !=(45:Int))=false:=atP
     go_wp2
     exact anw
   |true=>
    have aa:decide (b.toNat<=57)=true:=ati
    go_wp2
    exact anw
 |true=>
  go_wp2
  exact anw
theorem uO(b:UInt8)(w:W_):C_ 135 #[.int .u8 (b.toNat:Int)] w λe w'=>e=.returned (.bool (U.aU b))/\w'=w:=by
 go_enter func135,ntmps135;cases h6:decide ((32:Int)<=(b.toNat:Int))with
 |false=>
  have h6n:decide (32<=b.toNat)=false:=by have hx:=h6;simp only[decide_eq_false_iff_not]at hx|-;omega
  go_wp2
  exact auK
 |true=>
  have h6n:decide (32<=b.toNat)=true:=by have hx:=h6;simp only[decide_eq_true_eq]at hx|-;omega
  cases h7:decide ((b.toNat:Int)<=(126:Int))with
  |false=>
   have Qu:decide (b.toNat<=126)=false:=asK
   go_wp2
   exact auK
  |true=>
   have Qu:decide (b.toNat<=126)=true:=atj
   go_wp2
   exact auK
theorem LF(s:Y_)(w:W_)(hm:s.size<=9223372036854775807):C_ 107 #[.string s] w λe w'=>e=.returned (.bool (U.fu s.data.toList))/\w'=w:=by
 go_enter func107,ntmps107;go_wp2
 go_loopw [3] (λi wr=>∃j:Nat,i=V j/\j<=s.size/\Hd ((s.data.toList.take j).all U.aU=true)/\wr=w) (λi _=>s.size-(intOf i).toNat)
 case atStart=>exact⟨0,rfl,au1 _,by simp[Hd],rfl⟩
 case round=>
  obtain⟨j,rfl,hj,HA,rfl⟩:=hrel
  by_cases c1:j<s.size
  .have d1:decide ((j:Int)<(s.size:Int))=true:=by simp;omega
   have aE:(j:Int)<(s.size:Int):=Zo
   obtain⟨b,hb⟩:∃b,s[j]'c1=b:=⟨_,rfl⟩;have hst:=sw s.data.toList j r_ U.aU;have hno:=zT s.data.toList j r_ U.aU;have hbl:s.data.toList[j]' r_=b:=hb;rw[hbl]at hst hno;have HS:=I hst;have HN:=I hno;clear hst hno hbl;go_wp2_with fail
   refine Calls.mono (uO b _) ?_;rintro _ w2q ⟨rfl,sU⟩;replace sU:=sU.symm;subst sU;cases h8:(U.aU b)with
   |false=>
    go_wp2
    go_ret;exact⟨ai _ _ (by unfold U.fu;rw[HN.out (by assumption)];rfl),rfl⟩
   |true=>
    go_wp2
    go_roundw
    case rel=>exact⟨j+1,by go_num,c1,by unfold Hd;rw[HS.out,HA.out];simp_all,trivial⟩
    case measure=>simp[intOf];omega
  .have d1:decide ((j:Int)<(s.size:Int))=false:=by simp;omega
   go_wp2
   go_ret;exact⟨ai _ _ (by unfold U.fu;rw[nD s U.aU j hj c1 HA.out];rw[show s.data.toList.length=s.size by simp,Bool.eq_iff_iff];simp;omega),rfl⟩
theorem ZK(s:List UInt8)(h:s.all U.inner=false):U.jH s=false:=by
 cases s with
 |nil=>rfl
 |cons b r=>
  rw[au9]at h;show(U.D8 b&&r.all U.inner)=false;cases hl:U.D8 b with
  |false=>rfl
  |true=>
   have:U.inner b=true:=by unfold U.inner;rw[hl];rfl
   rw[this,Bool.true_and]at h;rw[h];rfl
theorem GY(b:UInt8)(h:U.D8 b=true):U.inner b=true:=by unfold U.inner;rw[h];rfl
theorem ZL(s:List UInt8)(h:s.all U.inner=true):U.jH s=U.qX s:=by
 cases s with
 |nil=>rfl
 |cons b r=>
  rw[au9,Bool.and_eq_true]at h;show(U.D8 b&&r.all U.inner)=U.D8 b;rw[h.2,Bool.and_true]
theorem Od(s:Y_)(w:W_)(hm:s.size<=9223372036854775807):C_ 106 #[.string s] w λe w'=>e=.returned (.bool (U.jH s.data.toList))/\w'=w:=by
 go_enter func106,ntmps106;go_wp2
 go_loopw [3] (λi wr=>∃j:Nat,i=V j/\j<=s.size/\Hd ((s.data.toList.take j).all U.inner=true)/\wr=w) (λi _=>s.size-(intOf i).toNat)
 case atStart=>exact⟨0,rfl,au1 _,by simp[Hd],rfl⟩
 case round=>
  obtain⟨j,rfl,hj,HA,rfl⟩:=hrel
  by_cases c1:j<s.size
  .have d1:decide ((j:Int)<(s.size:Int))=true:=by simp;omega
   have aE:(j:Int)<(s.size:Int):=Zo
   obtain⟨b,hb⟩:∃b,s[j]'c1=b:=⟨_,rfl⟩;have hst:=sw s.data.toList j r_ U.inner;have hno:=zT s.data.toList j r_ U.inner;have hbl:s.data.toList[j]' r_=b:=hb;rw[hbl]at hst hno;have HS:=I hst;have HN:=I hno;clear hst hno hbl;go_wp2_with fail
   refine Calls.mono (BS b _) ?_;rintro _ w3q ⟨rfl,BJ⟩;replace BJ:=BJ.symm;subst BJ;cases h9:(U.inner b)with
   |false=>
    go_wp2
    go_ret;exact⟨ai _ _ (by rw[ZK _ (HN.out atE)]),rfl⟩
   |true=>
    go_wp2
    go_roundw
    case rel=>exact⟨j+1,by go_num,c1,by unfold Hd;rw[HS.out,HA.out];simp_all,trivial⟩
    case measure=>simp[intOf];omega
  .have d1:decide ((j:Int)<(s.size:Int))=false:=by simp;omega
   have Ra:=I (ZL _ (nD s U.inner j hj c1 HA));cases hs:s.data.toList with
   |nil=>
    have e0:s.toList.isEmpty=true:=by rw[ByteArray.toList_eq,hs];rfl
    have Xi:=I (show U.jH s.data.toList=false from by rw[Ra.out,hs];rfl);clear hs;go_wp2
    go_ret;exact⟨ai _ _ Xi.symm,rfl⟩
   |cons b r=>
    obtain⟨e0,hsz,hb⟩:=LD hs;have Xi:=I (show U.jH s.data.toList=U.D8 b from by rw[Ra.out,hs];rfl);clear hs;go_wp2_with fail
    refine(pX b _).mono ?_;rintro _ w1 ⟨rfl,aa⟩;replace aa:=aa.symm;subst aa;go_wp2
    go_ret;exact⟨ai _ _ Xi.symm,rfl⟩
end
section
open Go.ChangeShapes Go.WideShapes Go.ChangeAt Go.RowKit
open U (E aJ)
theorem E8:(Tryz.prog.info? 62).map (λi=>(i.zero,i.size,i.bytes))=some (some (.agg Z),4,80):=Pg
theorem ab9:(Tryz.prog.info? 142).map (λi=>(i.zero,i.size,i.bytes))=some (some (.agg #[E_,E_]),2,32):=Pg
def gJ(W:W_)(Gg:aJ)(v:Value):Prop:=∃A cap,v=.slice A Gg.length cap/\(Gg.length<=maxLen/\Gg.length<=cap)/\(∀x∈Gg,x.1.length<=maxLen/\x.2.length<=maxLen)/\
 (Gg=[]\/∃g o,A=A_ g o/\g<W.heap.size/\∀i (hi:i<Gg.length),W.cell? (B_ g (o+i*2))=some (S_ Gg[i].1)/\W.cell? (B_ g (o+i*2+1))=some (S_ Gg[i].2))
theorem gJ.nil(W:W_)(A:Option Addr)(cap:Nat):gJ W [] (.slice A 0 cap):=⟨A,cap,rfl,⟨au1 _,au1 _⟩,aub,.inl rfl⟩
theorem gJ.QH{W W':W_}{Gg:aJ}{v:Value}(h:gJ W Gg v)(hf:ag W W'):gJ W' Gg v:=by
 obtain⟨A,cap,h1,h2,h3,h4⟩:=h;refine⟨A,cap,h1,h2,h3,h4.imp id ?_⟩;rintro⟨g,o,hA,hg,hc⟩;exact⟨g,o,hA,avc hg hf.size,λi hi=>⟨hf.cell (hc i hi).1 PR,hf.cell (hc i hi).2 PR⟩⟩
theorem gJ.slice{W:W_}{Gg:aJ}{v:Value}(h:gJ W Gg v):∃A cap,v=.slice A Gg.length cap:=by
 obtain⟨A,cap,h1,_⟩:=h;exact⟨A,cap,h1⟩
theorem gJ.get{W:W_}{Gg:aJ}{A:Option Addr}{len cap:Nat}(h:gJ W Gg (.slice A len cap))(i:Nat)(hi:i<Gg.length):
  ∃g o,A=A_ g o/\g<W.heap.size/\W.cell? (B_ g (o+i*2))=some (S_ Gg[i].1)/\W.cell? (B_ g (o+i*2+1))=some (S_ Gg[i].2)/\Gg[i].1.length<=maxLen/\Gg[i].2.length<=maxLen:=by
 obtain⟨A',cap',h1,h2,h3,h4⟩:=h;cases h1
 rcases h4 with h4|⟨g,o,hA,hg,hc⟩
 .rw[h4]at hi;simp at hi
 .exact⟨g,o,hA,hg,(hc i hi).1,(hc i hi).2,h3 _ (avS hi)⟩
inductive gK(W:W_):List E->Value->Prop
 |nil (A:Option Addr) (cap:Nat):gK W [] (.slice A 0 cap)
 |row (g o cap:Nat) (es:List E) (al sl:Nat->Value) (hg:g<W.heap.size) (hl:es.length<=maxLen) (ht:∀i (hi:i<es.length),es[i].name.length<=maxLen/\es[i].QG.length<=maxLen)
   (h0:∀i (hi:i<es.length),W.cell? (B_ g (o+i*4))=some (S_ es[i].name))
   (h1:∀i,i<es.length->W.cell? (B_ g (o+i*4+1))=some (al i))
   (h2:∀i,i<es.length->W.cell? (B_ g (o+i*4+2))=some (sl i))
   (h3:∀i (hi:i<es.length),W.cell? (B_ g (o+i*4+3))=some (S_ es[i].QG))
   (ha:∀i (hi:i<es.length),gJ W es[i].Zn (al i)) (hk:∀i (hi:i<es.length),gK W es[i].Qx (sl i)):gK W es (.slice (A_ g o) es.length cap)
theorem gK.QH{W W':W_}{es:List E}{v:Value}(h:gK W es v)(hf:ag W W'):gK W' es v:=by
 induction h with
 |nil A cap=>exact .nil A cap
 |row g o cap es al sl hg hl ht h0 h1 h2 h3 ha hk ih=>
  exact .row g o cap es al sl (avc hg hf.size) hl ht (λi hi=>hf.cell (h0 i hi) PR) (λi hi=>hf.cell (h1 i hi) PR) (λi hi=>hf.cell (h2 i hi) PR) (λi hi=>hf.cell (h3 i hi) PR) (λi hi=>(ha i hi).QH hf) ih
theorem gK.slice{W:W_}{es:List E}{v:Value}(h:gK W es v):∃A cap,v=.slice A es.length cap:=by
 cases h with
 |nil A cap=>exact⟨A,cap,rfl⟩
 |row g o cap=>exact⟨_,cap,rfl⟩
theorem gK.len{W:W_}{es:List E}{v:Value}(h:gK W es v):es.length<=maxLen:=by
 cases h with
 |nil A cap=>exact au1 _
 |row g o cap _ al sl hg hl=>exact hl
def jd(W:W_)(e:E)(va vk:Value):Prop:=gJ W e.Zn va/\gK W e.Qx vk/\e.name.length<=maxLen/\e.QG.length<=maxLen
abbrev ev(e:E)(va vk:Value):Value:=.agg #[S_ e.name,va,vk,S_ e.QG]
theorem jd.QH{W W':W_}{e:E}{va vk:Value}(h:jd W e va vk)(hf:ag W W'):jd W' e va vk:=⟨h.1.QH hf,h.2.1.QH hf,h.2.2⟩
theorem gK.get{W:W_}{es:List E}{A:Option Addr}{len cap:Nat}(h:gK W es (.slice A len cap))(i:Nat)(hi:i<es.length):
  ∃g o va vk,A=A_ g o/\g<W.heap.size/\W.cell? (B_ g (o+i*4))=some (S_ es[i].name)/\W.cell? (B_ g (o+i*4+1))=some va/\W.cell? (B_ g (o+i*4+2))=some vk/\
   W.cell? (B_ g (o+i*4+3))=some (S_ es[i].QG)/\jd W es[i] va vk:=by
 generalize hv:Value.slice A len cap=v at h;cases h with
 |nil A cap=>simp at hi
 |row g o cap _ al sl hg hl ht h0 h1 h2 h3 ha hk=>
  cases hv;exact⟨g,o,al i,sl i,rfl,hg,h0 i hi,h1 i hi,h2 i hi,h3 i hi,ha i hi,hk i hi,ht i hi⟩
section
variable {H:Type} {enc:TypeId×Value→H}
end
end
section
open Go.RowKit
open U (E aJ)
def dz(S:Nat->Prop)(w:W_)(P:W_->Prop):Prop:=∀W',Touch S w W'->P W'
theorem dz.now{S:Nat->Prop}{w:W_}{P:W_->Prop}(h:dz S w P):P w:=h w afD
theorem Touch.join{S S1 S2:Nat->Prop}{a b c:W_}(h:Touch S1 a b)(k:Touch S2 b c)(h1:∀i,i<a.heap.size->S1 i->S i)(h2:∀i,i<a.heap.size->S2 i->S i):Touch S a c:=
 ⟨k.os.trans h.os,k.tape.trans h.tape,k.output.trans h.output,au2 h.size k.size,λi hi hn=>
  (k.block i atH (λhs=>hn (h2 i hi hs))).trans (h.block i hi (λhs=>hn (h1 i hi hs)))⟩
theorem dz.step{S S1 S2:Nat->Prop}{w w1:W_}{P:W_->Prop}(h:dz S w P)(ht:Touch S1 w w1)(h1:∀i,i<w.heap.size->S1 i->S i)(h2:∀i,i<w.heap.size->S2 i->S i):dz S2 w1 P:=
 λW' hW=>h W' (ht.join hW h1 h2)
theorem dz.QH{S:Nat->Prop}{w w1:W_}{P:W_->Prop}(h:dz S w P)(ht:ag w w1):dz S w1 P:=h.step ht (λ_ _ h=>h.elim) anI
theorem dz.mono{S S':Nat->Prop}{w:W_}{P:W_->Prop}(h:dz S w P)(hS:∀i,i<w.heap.size->S' i->S i):dz S' w P:=h.step (M (λ_=>False) w) (λ_ _ h=>h.elim) hS
theorem dz.imp{S:Nat->Prop}{w:W_}{P Q:W_->Prop}(h:dz S w P)(hPQ:∀W,P W->Q W):dz S w Q:=λW hW=>hPQ W (h W hW)
theorem dz.and{S:Nat->Prop}{w:W_}{P Q:W_->Prop}(h:dz S w P)(h':dz S w Q):dz S w λW=>P W/\Q W:=λW hW=>⟨h W hW,h' W hW⟩
def Made(w w':W_)(P:W_->Prop):Prop:=ag w w'/\dz (λk=>k<w.heap.size) w' P
def kC(W:W_):List E->List Value->Prop
 |[],cs=>cs=[]
 |e::es,cs=>∃va vk ds,cs=S_ e.name::va::vk::S_ e.QG::ds/\jd W e va vk/\kC W es ds
theorem kC.append{W:W_}:∀{es fs:List E} {cs ds:List Value},kC W es cs->kC W fs ds->kC W (es++fs) (cs++ds)
 |[],_,cs,_,h,h'=>by rw[show cs=[]from h];exact h'
 |_::_,_,_,_,⟨va,vk,cs,h,hr,hd⟩,h'=>⟨va,vk,cs++_,by rw[h];rfl,hr,hd.append h'⟩
theorem kC.one{W:W_}{e:E}{va vk:Value}(h:jd W e va vk):kC W [e] [S_ e.name,va,vk,S_ e.QG]:=⟨va,vk,[],rfl,h,rfl⟩
theorem kC.get{W:W_}:∀{es:List E} {cs:List Value},kC W es cs->∀i (hi:i<es.length),∃va vk,cs[i*4]?=some (S_ es[i].name)/\cs[i*4+1]?=some va/\cs[i*4+2]?=some vk/\cs[i*4+3]?=some (S_ es[i].QG)/\jd W es[i] va vk
 |[],_,_,i,hi=>by simp at hi
 |e::es,cs,⟨va,vk,ds,h,hr,hd⟩,i,hi=>by
  subst h;cases i with
  |zero=>exact⟨va,vk,rfl,rfl,rfl,rfl,hr⟩
  |succ i=>
   obtain⟨a,k,g0,g1,g2,g3,g4⟩:=hd.get i am5;refine⟨a,k,?_,?_,?_,?_,g4⟩
   .rw[show(i+1)*4=i*4+4 by omega];exact g0
   .rw[show(i+1)*4+1=i*4+1+4 by omega];exact g1
   .rw[show(i+1)*4+2=i*4+2+4 by omega];exact g2
   .rw[show(i+1)*4+3=i*4+3+4 by omega];exact g3
theorem kC.rep{W:W_}{es:List E}{cs:List Value}{g cap:Nat}(h:kC W es cs)(hg:g<W.heap.size)(hl:es.length<=maxLen)(hc:∀j u,cs[j]?=some u->W.cell? (B_ g j)=some u):gK W es (.slice (A_ g 0) es.length cap):=by
 refine gK.row g 0 cap es (λi=>(cs[i*4+1]?).getD (.bool false)) (λi=>(cs[i*4+2]?).getD (.bool false)) hg hl ?_ ?_ ?_ ?_ ?_ ?_ ?_
 all_goals (intro i hi;obtain⟨va,vk,g0,g1,g2,g3,g4⟩:=h.get i hi)
 .exact g4.2.2
 .rw[au8];exact hc _ _ g0
 .rw[au8,g1];exact hc _ _ g1
 .rw[au8,g2];exact hc _ _ g2
 .rw[au8];exact hc _ _ g3
 .rw[g1];exact g4.1
 .rw[g2];exact g4.2.1
theorem kC.own{W:W_}{es:List E}{cs:List Value}{B t:Nat}{v:Value}(h:kC W es cs)(ho:W.ownsRow B t 4 v es.length cs):gK W es v:=by
 rcases ho.2 with⟨rfl,h0⟩|⟨g,cap,cur,rfl,hB,hb,h1,h2,_⟩
 .rw[List.length_eq_zero_iff.1 h0]
  exact .nil _ _
 .exact h.rep (ho.lt g rfl).2 (au2 h1 h2) λj u hu=>by
   have:=ho.cells (g:=g) rfl j u hu;rw[Addr.add_mid,au8]at this;exact this
theorem mK{W:W_}{B e size n:Nat}{v:Value}{xs:List Value}(h:W.ownsRow B e size v n xs):∃A c,v=.slice A n c:=by
 rcases h.2 with⟨h1,h2⟩|⟨g,cap,cur,h1,_⟩
 .exact aiq
 .exact asI
def fQ(B:Nat)(w:W_)(es:List E)(v:Value):Prop:=B<=w.heap.size/\∃cs,w.ownsRow B 62 4 v es.length cs/\dz (λk=>v.ownBlock=some k\/k<B) w λW=>kC W es cs
theorem fQ.nil{B:Nat}{w:W_}(hB:B<=w.heap.size):fQ B w [] (N_):=⟨hB,[],World.ownsRow_nil _ _ _ _,λ_ _=>rfl⟩
theorem fQ.pY{B:Nat}{w:W_}{es:List E}{v:Value}(h:fQ B w es v):∀k,v.ownBlock=some k->B<=k/\k<w.heap.size:=λk hk=>by
 obtain⟨_,cs,h1,_⟩:=h;exact h1.lt k hk
theorem fQ.slice{B:Nat}{w:W_}{es:List E}{v:Value}(h:fQ B w es v):∃A cap,v=.slice A es.length cap:=by
 obtain⟨_,cs,h1,_⟩:=h;exact mK h1
theorem fQ.mv{B:Nat}{w w1:W_}{es:List E}{v:Value}{S:Nat->Prop}(h:fQ B w es v)(ht:Touch S w w1)(hS:∀k,S k->k<w.heap.size->k<B):fQ B w1 es v:=by
 exact yg
theorem fQ.QH{B:Nat}{w w1:W_}{es:List E}{v:Value}(h:fQ B w es v)(ht:ag w w1):fQ B w1 es v:=h.mv ht λ_ h=>h.elim
theorem fQ.rep{B:Nat}{w:W_}{es:List E}{v:Value}(h:fQ B w es v):gK w es v:=by
 obtain⟨_,cs,h1,h2⟩:=h;exact h2.now.own h1
theorem fQ.done{B:Nat}{w:W_}{es:List E}{v:Value}(h:fQ B w es v):dz (λk=>k<B) w λW=>gK W es v:=λ_ hW=>(h.mv hW λ_ h _=>h).rep
theorem gK.oneCell{W:W_}{es:List E}{v:Value}(h:gK W es v):v.oneCell'=true:=by
 exact auf
theorem gJ.oneCell{W:W_}{Gg:aJ}{v:Value}(h:gJ W Gg v):v.oneCell'=true:=by
 exact auf
section
variable {w:World} {ops:Array Oper} {rest:List Oper} {o:Oper} {a:Act} {Q:Exit→Act→World→Prop}
theorem zY(hgd:o.guard=none)(s x:Operand)
  (ho:o.op=.call {callee:=.builtin .append,args:=#[s,x],argTypes:=#[60,60]})
  {B n g:Nat} {es:List E} {v:Value} (h:fQ B w es v) (hn:es.length=n) (hs:a.eval s=v) (e:E) {va vk:Value} (hb:af w g 62 #[S_ e.name,va,vk,S_ e.QG]) (hx:a.eval x=.slice (A_ g 0) 1 1)
  (w0:Nat) (hB:B<=w0) (hown:∀k,v.ownBlock=some k->k<w0) (FZ:dz (λk=>k<w0) w λW=>jd W e va vk) (hlen:n<2^40)
  (hK:∀A cp w',fQ B w' (es++[e]) (.slice A (n+1) cp)->Touch (λk=>v.ownBlock=some k) w w'->((Value.slice A (n+1) cp).ownBlock=v.ownBlock\/(Value.slice A (n+1) cp).ownBlock=some w.heap.size)->wpList Tryz.prog ops Q rest (a.put o.dst (.slice A (n+1) cp)) w'):wpList Tryz.prog ops Q (o::rest) a w:=by
 subst hn;obtain⟨ac,cs,h1,h2⟩:=h;obtain⟨i,hi,hz0,hz1,hz2⟩:=info_parts E8;have hv:=FZ.now
 have h3:∀u∈[Value.string ⟨e.name.toArray⟩,va,vk,S_ e.QG],u.oneCell'=true:=by
  intro u hu;simp only[List.mem_cons,List.not_mem_nil,or_false]at hu
  rcases hu with rfl|rfl|rfl|rfl
  .rfl
  .exact hv.1.oneCell
  .exact hv.2.1.oneCell
  .rfl
 refine iL _ hgd s x 60 ho B 62 i _ 4 80 underlying60 hi hz0 hz1 hz2 rfl Pf v es.length cs hs h1 _ 1 _ hx asR h3 vG Zo ac λv' w' ho' hgr hv'=>?_
 obtain⟨A,cp,rfl⟩:=mK ho';have ht:Touch (λk=>v.ownBlock=some k) w w':=Touch.grown afD hgr λk hk=>.inl hk
 refine hK A cp w' ⟨au2 ac hgr.size,_,by rw[auZ];exact ho',?_⟩ ht hv'
 have hS:∀i,i<w.heap.size->((Value.slice A (es.length+1) cp).ownBlock=some i\/i<B)->(v.ownBlock=some i\/i<B):=λi hi hs=>by
  rcases hs with hs|hs
  .rcases hv' with h6|h6<;>rw[h6]at hs
   .exact .inl hs
   .cases hs;omega
  .exact .inr hs
 refine((h2.step ht asy hS).and (FZ.step ht (λi hi hs=>hown i hs) λi hi hs=>?_)).imp λW ⟨h6,h7⟩=>h6.append (kC.one h7)
 rcases hS i hi hs with h6|h6
 .exact hown i h6
 .omega
end
theorem ko(a b:List UInt8)(p:Bool)(h:(a==b)=p):((⟨a.toArray⟩:Y_)==(⟨b.toArray⟩:Y_))=p:=by
 rw[bS,<-h]
theorem ZM(x nm:List UInt8)(y:Y_)(p:Nat)(w:W_)(hp:w.cell? (B_ p 0)=some (S_ nm)):
  C_ 137 #[.agg #[S_ x,.string y],.pointer (A_ p 0)] w λe w'=>e=.returned (.bool (x==nm))/\ag w w':=by
 have hlt:=bL hp;go_enter func137,ntmps137;go_wp2
 exact auG
theorem Rb{α:Type}(l:List α)(j:Nat)(h:j<l.length)(p:α->Bool):(l.take (j+1)).any p=((l.take j).any p||p l[j]):=by
 rw[avq,ave h,List.any_append];simp only[Option.toList_some,List.any_cons,List.any_nil,Bool.or_false]
theorem Xj(Gg:aJ)(nm:List UInt8)(p:Nat)(va:Value)(w:W_)(ha:gJ w Gg va)(hp:w.cell? (B_ p 0)=some (S_ nm)):
  C_ 148 #[va,.func (.func 137) #[] #[.pointer (A_ p 0)]] w λe w'=>∃k:Int,e=.returned (V k)/\decide (0<=k)=Gg.any (λx=>x.1==nm)/\ag w w':=by
 have aQ:Gg.length<=maxLen:=by obtain⟨_,_,_,h,_⟩:=ha;exact h.1
 unfold maxLen at aQ;obtain⟨A,ca,rfl⟩:=ha.slice;have HA:=I ha;have HP:=I hp;clear ha hp;go_enter func148,ntmps148;go_wp2
 go_loopw [8] (λi wr=>∃j:Nat,i=V j/\j<=Gg.length/\Hd ((Gg.take j).any (λx=>x.1==nm)=false)/\Hd (ag w wr)) (λi _=>Gg.length-(intOf i).toNat)
 case atStart=>exact⟨0,rfl,au1 _,by simp[Hd],M _ _⟩
 case round=>
  obtain⟨j,rfl,hj,HT,HF⟩:=hrel
  by_cases c1:j<Gg.length
  .have d1:decide ((j:Int)<(Gg.length:Int))=true:=dT Zo
   have aE:(j:Int)<(Gg.length:Int):=Zo
   obtain⟨g,o,rfl,hg,m0,m1,_,_⟩:=HA.get j c1;have e0:=HF.cell m0 PR;have f0:=HF.cell m1 PR;clear m0 m1;have HS:=I (Rb Gg j c1 (λx=>x.1==nm));have Rc:=I (show(Gg[j].1==nm)=true->Gg.any (λx=>x.1==nm)=true from λh=>List.any_eq_true.2 ⟨Gg[j],avS c1,h⟩);generalize Gg[j]=x at*;go_wp2_with fail
   refine(ZM x.1 nm _ p _ (HF.cell HP λh=>h)).mono ?_;rintro _ w1 ⟨rfl,hf⟩;have aK:=I aq8;clear hf;cases h4:x.1==nm with
   |true=>
    have ap:=I (Rc h4);clear h4;go_wp2
    go_ret;exact⟨_,rfl,by rw[ap.out];exact dT Zo,aK⟩
   |false=>
    have aq:=I (show(Gg.take (j+1)).any (λx=>x.1==nm)=false by rw[HS.out,HT.out,h4];rfl);clear h4;go_wp2
    go_roundw
    case rel=>exact⟨j+1,by go_num,c1,aq,aK⟩
    case measure=>simp[intOf];omega
  .have d1:decide ((j:Int)<(Gg.length:Int))=false:=dF Zo
   obtain rfl:j=Gg.length:=Zo
   go_wp2
   go_ret;refine⟨_,rfl,?_,HF⟩;have:=HT.out;rw[List.take_length]at this;rw[this];rfl
theorem Pn(Gg:aJ)(nm:List UInt8)(p:Nat)(va:Value)(w:W_)(ha:gJ w Gg va)(hp:w.cell? (B_ p 0)=some (S_ nm)):
  C_ 136 #[va,.func (.func 137) #[] #[.pointer (A_ p 0)]] w λe w'=>e=.returned (.bool (Gg.any (λx=>x.1==nm)))/\ag w w':=by
 obtain⟨A,ca,rfl⟩:=ha.slice;have HA:=I ha;have HP:=I hp;clear ha hp;go_enter func136,ntmps136;go_wp2_with fail
 refine(Xj Gg nm p _ _ HA HP).mono ?_;rintro _ w1 ⟨k,rfl,hk,hf⟩;have HF:=I hf;have HK:=I hk;clear hf hk;go_wp2
 go_ret;exact⟨ai _ _ HK,HF⟩
theorem Kj(Gg:aJ)(nm:List UInt8)(va:Value)(w:W_)(ha:gJ w Gg va):
  C_ 108 #[va,S_ nm] w λe w'=>e=.returned (.bool (Gg.any (λx=>x.1==nm)))/\ag w w':=by
 obtain⟨A,ca,rfl⟩:=ha.slice;have HA:=I ha;clear ha;go_enter func108,ntmps108;go_wp2_with fail
 refine(Pn Gg nm w.heap.size _ _ (by exact HA.QH aF) (by exact(af.new _ _ _).cell 0)).mono ?_;rintro _ w1 ⟨rfl,hf⟩;have HF:=I (show ag w w1 from qV hf);clear hf;go_wp2
 exact asY
end
end Go.Proofs.YtabjglnjjdcfmaaGreatDoor
