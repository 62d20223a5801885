/- Part 1 of 41 of a proof. No condition. -/
namespace Go.Proofs.YtabjglnjjdcfmaaGreatDoor
open _root_.Nat renaming lt_or_ge->avE,le_refl->au3,sub_self->awi,add_zero->avk
open _root_.List renaming drop_eq_getElem_cons->avt,takeWhile_cons->av2,length_cons->au0,drop_eq_nil_of_le->avU,length_drop->avM,drop_succ_cons->awh,drop_zero->avX,take_succ_cons->avF,nil_append->avn,all_cons->au9,cons_append->au',getElem?_append_right->avY,getElem?_cons_zero->avo,all_append->awl,getElem?_cons_succ->avG,length_nil->ava,length_append->auZ
open _root_.Bool renaming and_eq_true->auY
set_option maxRecDepth 100000
namespace Lx
abbrev QJ:=List UInt8
def cls(c:Nat):Nat:=
 if c=32\/c=9\/c=10 then 1
 else if 48<=c/\c<=57 then 2
 else if(97<=c/\c<=122)\/(65<=c/\c<=90)then 3
 else if c∈[43,45,42,47,61,60,62,44,59,58,33,124,39,63,126,64]then 4
 else if c∈[123,125,40,41,91,93,94,95,38]then 5
 else 0
def dG(k:Nat)(b:UInt8):Bool:=cls b.toNat==k
def dI(k:Nat)(l:QJ):Nat:=(l.takeWhile (dG k)).length
def xP(k:Nat)(l:QJ)(i:Nat):Bool:=match l[i]? with|some b=>dG k b|none=>false
def cz(l:QJ)(i:Nat):Int:=match l[i]? with|some b=>(cls b.toNat:Int)|none=>-1
theorem Ja(l:QJ)(i:Nat)(h:i<l.length):cz l i=(cls l[i].toNat:Int):=by simp[cz,List.getElem?_eq_getElem h]
theorem MI(l:QJ)(i:Nat)(h:l.length<=i):cz l i=-1:=by simp[cz,List.getElem?_eq_none h]
def mO(c:Int)(l:QJ)(k:Nat):Nat:=((l.drop k).takeWhile λb=>(cls b.toNat:Int)==c).length
theorem P8(c:Int)(l:QJ)(k:Nat)(hc:0<=c)(h:cz l k=c):k<l.length/\k+1+mO c l (k+1)=k+mO c l k:=by
 rcases avE k l.length with hk|hk
 .refine⟨hk,?_⟩
  rw[Ja l k hk]at h;unfold mO;rw[avt hk,av2];simp only[h,BEq.rfl,↓reduceIte,au0];omega
 .rw[MI l k hk]at h;omega
theorem aeh(c:Int)(l:QJ)(k:Nat)(h:cz l k≠c):mO c l k=0:=by
 unfold mO
 rcases avE k l.length with hk|hk
 .rw[avt hk,av2]
  rw[Ja l k hk]at h;simp[h]
 .rw[avU hk];rfl
theorem vM(c:Int)(l:QJ)(k:Nat):mO c l k<=l.length-k:=by
 unfold mO;have:=(List.takeWhile_sublist (λb:UInt8=>(cls b.toNat:Int)==c) (l:=l.drop k)).length_le
 rwa [avM]at this
structure Tok where
 QI:Nat
 QG:QJ
 deriving DecidableEq
inductive jT where
 |ok (t:Tok) (n:Nat)
 |err (at_ e:Nat)
 deriving DecidableEq
def lim(most:Nat)(t:Tok)(n:Nat):jT:=if most<t.QG.length then .err 0 6 else .ok t n
def lH(r:QJ):Nat:=
 if r[dI 2 r]?=some 46/\xP 2 r (dI 2 r+1)=true then dI 2 r+1+dI 2 (r.drop (dI 2 r+1))else dI 2 r
def number(r:QJ):jT:=lim 20 ⟨2,r.take (lH r)⟩ (lH r)
def quo:QJ->QJ->Nat->jT
 |[],_,_=>.err 0 12
 |c::q,acc,i=>
  if c=34 then lim 200 ⟨3,acc⟩ (i+1)
  else if c<32\/126<c then .err i 3
  else if c=92 then
   match q with
   |[]=>.err i 3
   |d::q'=>if d=34\/d=92 then quo q' (acc++[d]) (i+2)else .err i 3
  else quo q (acc++[c]) (i+1)
def kF(b:UInt8):Bool:=[40,41,91,93,123,125,60,62,47,124,46].contains b
def ry(r:QJ)(i:Nat):Bool:=match r[i]? with|some b=>kF b|none=>false
def name(r:QJ):jT:=
 let n:=dI 3 (r.drop 1)
 if(r.drop 1).take n≠[102,101,110,99,101]then lim 16 ⟨4,(r.drop 1).take n⟩ (1+n)
 else if ry r (1+n)=true/\ry r (2+n)=true then .ok ⟨5,(r.drop (1+n)).take 2⟩ (3+n)
 else .err 0 3
def K9(q:QJ):Bool:=match q with|d::_=>decide (49<=d/\d<=52)|[]=>false
def next(r:QJ):jT:=
 match r with
 |[]=>.err 0 3
 |c::q=>
  if dG 2 c then number r
  else if dG 5 c then .ok ⟨7,[c]⟩ 1
  else if c=34 then quo q [] 1
  else if c=92/\q.head?=some 92 then .ok ⟨8,[92,92]⟩ 2
  else if c=92/\xP 3 q 0=true then name r
  else if c=35/\K9 q=true then .ok ⟨6,q.take 1⟩ 2
  else if dG 3 c\/dG 4 c then .ok ⟨1,[c]⟩ 1
  else .err 0 3
theorem aei(l acc:QJ)(j i:Nat)(h:l.length<=j):quo (l.drop j) acc i=.err 0 12:=by rw[avU h];rfl
theorem BA(l acc:QJ)(j i:Nat)(h:j<l.length):quo (l.drop j) acc i=
  if l[j]=34 then lim 200 ⟨3,acc⟩ (i+1)
  else if l[j]<32\/126<l[j]then .err i 3
  else if l[j]=92 then
   match l.drop (j+1)with
   |[]=>.err i 3
   |d::q'=>if d=34\/d=92 then quo q' (acc++[d]) (i+2)else .err i 3
  else quo (l.drop (j+1)) (acc++[l[j]]) (i+1):=by
 rw[avt h];rw[quo.eq_def]
theorem aej(l acc:QJ)(j i:Nat)(h:j<l.length)(hc:l[j]=92)(h1:j+1<l.length):quo (l.drop j) acc i=
  if l[j+1]=34\/l[j+1]=92 then quo (l.drop (j+2)) (acc++[l[j+1]]) (i+2)else .err i 3:=by
 rw[BA l acc j i h,hc,if_neg (by decide),if_neg (by decide),if_pos rfl,avt h1]
theorem TN(l acc:QJ)(j i:Nat)(h:j<l.length)(hc:l[j]=92)(h1:l.length<=j+1):quo (l.drop j) acc i=.err i 3:=by
 rw[BA l acc j i h,hc,if_neg (by decide),if_neg (by decide),if_pos rfl,avU h1]
theorem YF(l acc:QJ)(j i:Nat)(h:j<l.length)(h1:l[j]≠34)(h2:¬(l[j]<32\/126<l[j]))(h3:l[j]≠92):quo (l.drop j) acc i=quo (l.drop (j+1)) (acc++[l[j]]) (i+1):=by
 rw[BA l acc j i h,if_neg h1,if_neg h2,if_neg h3]
structure aB where
 QI:Nat
 QG:QJ
 from_:Nat
 eF:Nat
 deriving DecidableEq
def skip(l:QJ)(a:Nat):Nat:=a+mO 1 l a
def lI(l:QJ):Nat->Nat->List aB×Option (Nat×Nat)
 |0,_=>([],none)
 |fuel+1,a=>
  if l.length<=skip l a then([],none)
  else match next (l.drop (skip l a))with
   |.err i e=>([],some (skip l a+i,e))
   |.ok t n=>(⟨t.QI,t.QG,skip l a,skip l a+n⟩::(lI l fuel (skip l a+n)).1,(lI l fuel (skip l a+n)).2)
theorem Gh{most:Nat}{t t':Tok}{n n':Nat}(h:lim most t n=.ok t' n'):t'=t/\n'=n:=by
 unfold lim at h;split at h
 .cases h
 .injection h with h1 h2;exact⟨h1.symm,h2.symm⟩
theorem MJ:∀(q acc:QJ) (i:Nat) (t:Tok) (n:Nat),quo q acc i=.ok t n->i<n/\n<=i+q.length
 |[],_,_,_,_,h=>by rw[quo.eq_def]at h;cases h
 |[c],acc,i,t,n,h=>by
  rw[quo.eq_def]at h;simp only at h;split at h
  .have:=(Gh h).2;simp;omega
  .split at h
   .cases h
   .split at h
    .cases h
    .rw[quo.eq_def]at h;cases h
 |c::d::q,acc,i,t,n,h=>by
  rw[quo.eq_def]at h;simp only at h;split at h
  .have:=(Gh h).2;simp;omega
  .split at h
   .cases h
   .split at h
    .split at h
     .have:=MJ q _ _ _ _ h;simp;omega
     .cases h
    .have:=MJ (d::q) _ _ _ _ h;simp at this|-;omega
theorem Gi(k:Nat)(l:QJ):dI k l<=l.length:=(List.takeWhile_sublist _).length_le
theorem YG(r:QJ):lH r<=r.length:=by
 unfold lH;split
 .rename_i h
  have h1:=Gi 2 (r.drop (dI 2 r+1));rw[avM]at h1;have h2:=h.1;have h3:dI 2 r<r.length:=(List.getElem?_eq_some_iff.1 h2).1;omega
 .exact Gi 2 r
theorem EJ(r:QJ)(t:Tok)(n:Nat)(h:next r=.ok t n):0<n/\n<=r.length:=by
 unfold next at h;split at h
 .cases h
 .rename_i c q
  split at h
  .rename_i hc
   obtain⟨_,rfl⟩:=Gh h;refine⟨?_,YG _⟩;have:0<dI 2 (c::q):=by unfold dI;rw[av2,if_pos hc];simp
   unfold lH;split<;>omega
  .split at h
   .cases h;simp
   .split at h
    .have:=MJ _ _ _ _ _ h;simp;omega
    .split at h
     .rename_i hc
      cases h;cases q with
      |nil=>cases hc.2
      |cons=>simp
     .split at h
      .unfold name at h
       simp only at h;have hr:=Gi 3 ((c::q).drop 1);simp only[awh,avX]at hr;split at h
       .obtain⟨_,rfl⟩:=Gh h
        simp only[awh,avX,au0];omega
       .split at h
        .rename_i hd
         injection h with _ h2
         subst h2;have hx:=hd.2;unfold ry at hx;split at hx
         .rename_i b hb
          have:=(List.getElem?_eq_some_iff.1 hb).1;simp only[awh,avX,au0]at*;omega
         .cases hx
        .cases h
      .split at h
       .rename_i hc
        cases h;cases q with
        |nil=>cases hc.2
        |cons=>simp
       .split at h
        .cases h;simp
        .cases h
theorem aek(l:QJ)(a:Nat)(h:a<=l.length):a<=skip l a/\skip l a<=l.length:=by
 have:=vM 1 l a;unfold skip;omega
theorem La(l:QJ):∀(f g a:Nat),l.length<a+f->l.length<a+g->lI l f a=lI l g a
 |0,g,a,hf,hg=>by
  cases g with
  |zero=>rfl
  |succ g=>rw[lI,lI,if_pos (by unfold skip;omega)]
 |f+1,0,a,hf,hg=>by rw[lI,lI,if_pos (by unfold skip;omega)]
 |f+1,g+1,a,hf,hg=>by
  rw[lI,lI];split
  .rfl
  .rename_i hl
   cases hn:next (l.drop (skip l a))with
   |err i e=>rfl
   |ok t n=>
    have hp:=(EJ _ _ _ hn).1;have:skip l a+n=skip l a+n:=rfl;simp only
    rw[La l f g (skip l a+n) (by unfold skip;omega) (by unfold skip;omega)]
def jr(l:QJ):List aB×Option (Nat×Nat):=lI l (l.length+1) 0
def lexFrom(l:QJ)(a:Nat):List aB×Option (Nat×Nat):=lI l (l.length+1) a
theorem TP(l:QJ)(a:Nat)(h:l.length<=skip l a):lexFrom l a=([],none):=by unfold lexFrom;rw[lI,if_pos h]
theorem TQ(l:QJ)(a i e:Nat)(h:skip l a<l.length)(hn:next (l.drop (skip l a))=.err i e):lexFrom l a=([],some (skip l a+i,e)):=by
 unfold lexFrom;rw[lI,if_neg (by omega),hn]
theorem VW(l:QJ)(a n:Nat)(t:Tok)(h:skip l a<l.length)(hn:next (l.drop (skip l a))=.ok t n):
  lexFrom l a=(⟨t.QI,t.QG,skip l a,skip l a+n⟩::(lexFrom l (skip l a+n)).1,(lexFrom l (skip l a+n)).2):=by
 have hp:=(EJ _ _ _ hn).1;unfold lexFrom
 conv=>lhs;rw[lI,if_neg (by omega),hn]
 simp only
 rw[La l l.length (l.length+1) (skip l a+n) (by unfold skip;omega) (by omega)]
theorem Jb{most:Nat}{t:Tok}{n i e:Nat}(h:lim most t n=.err i e):e≠0:=by
 unfold lim at h;split at h
 .cases h;decide
 .cases h
theorem MK:∀(q acc:QJ) (i a e:Nat),quo q acc i=.err a e->e≠0
 |[],_,_,_,_,h=>by rw[quo.eq_def]at h;cases h;decide
 |[c],acc,i,a,e,h=>by
  rw[quo.eq_def]at h;simp only at h;split at h
  .exact Jb h
  .split at h
   .cases h;decide
   .split at h
    .cases h;decide
    .rw[quo.eq_def]at h;cases h;decide
 |c::d::q,acc,i,a,e,h=>by
  rw[quo.eq_def]at h;simp only at h;split at h
  .exact Jb h
  .split at h
   .cases h;decide
   .split at h
    .split at h
     .exact MK q _ _ _ _ h
     .cases h;decide
    .exact MK (d::q) _ _ _ _ h
theorem abo(r:QJ)(i e:Nat)(h:next r=.err i e):e≠0:=by
 unfold next at h;split at h
 .cases h;decide
 .split at h
  .exact Jb h
  .split at h
   .cases h
   .split at h
    .exact MK _ _ _ _ _ h
    .split at h
     .cases h
     .split at h
      .unfold name at h
       simp only at h;split at h
       .exact Jb h
       .split at h
        .cases h
        .cases h;decide
      .split at h
       .cases h
       .split at h
        .cases h
        .cases h;decide
theorem NI(l:QJ):∀(f a p e:Nat),(lI l f a).2=some (p,e)->e≠0
 |0,_,_,_,h=>by cases h
 |f+1,a,p,e,h=>by
  rw[lI]at h;split at h
  .cases h
  .cases hn:next (l.drop (skip l a))with
   |err i er=>
    rw[hn]at h;simp only[Option.some.injEq,Prod.mk.injEq]at h;obtain⟨_,rfl⟩:=h;exact abo _ _ _ hn
   |ok t n=>
    rw[hn]at h;exact NI l f _ p e h
end Lx
namespace Tr
abbrev QJ:=List UInt8
inductive Nd where
 |mk (QI:Int) (QG:QJ) (ah:Int) (Qx:List Nd)
namespace Nd
def QI:Nd->Int|mk k _ _ _=>k
def QG:Nd->QJ|mk _ t _ _=>t
def ah:Nd->Int|mk _ _ c _=>c
def Qx:Nd->List Nd|mk _ _ _ ks=>ks
end Nd
theorem Nd.eta(n:Nd):n=.mk n.QI n.QG n.ah n.Qx:=by cases n;rfl
mutual
def count:Nd->Nat
 |.mk _ _ _ ks=>1+az ks
def az:List Nd->Nat
 |[]=>0
 |n::ns=>count n+az ns
end
mutual
def depth:Nd->Nat
 |.mk _ _ _ ks=>aX ks+1
def aX:List Nd->Nat
 |[]=>0
 |n::ns=>max (depth n) (aX ns)
end
theorem bX(n:Nd):0<count n:=by cases n;rw[count];omega
theorem NJ(n:Nd):0<depth n:=by cases n;rw[depth];omega
theorem aN(n:Nd):count n=1+az n.Qx:=by cases n;rw[count];rfl
theorem oN(n:Nd):depth n=aX n.Qx+1:=by cases n;rw[depth];rfl
theorem uA(l:List Nd)(i:Nat)(h:i<l.length):az (l.take (i+1))=az (l.take i)+count l[i]:=by
 induction l generalizing i with
 |nil=>simp at h
 |cons x l ih=>
  cases i with
  |zero=>simp[az]
  |succ i=>
   simp only[avF,az,List.getElem_cons_succ];rw[ih i (by simpa using h)];omega
theorem qy(l:List Nd)(i:Nat):az (l.take i)<=az l:=by
 induction l generalizing i with
 |nil=>simp[az]
 |cons x l ih=>
  cases i with
  |zero=>simp[az]
  |succ i=>simp only[avF,az];have:=ih i;omega
theorem cB{l:List Nd}{n:Nd}(h:n∈l):count n<=az l:=by
 induction l with
 |nil=>cases h
 |cons x l ih=>
  rw[az]
  rcases List.mem_cons.1 h with rfl|h
  .omega
  .have:=ih h;omega
theorem jF(l:List Nd):l.length<=az l:=by
 induction l with
 |nil=>simp[az]
 |cons x l ih=>rw[az];have:=bX x;simp;omega
theorem Nd.ind{p:Nd->Prop}(h:∀n,(∀m∈n.Qx,p m)->p n)(n:Nd):p n:=by
 have:∀k n,count n<=k->p n:=by
  intro k
  induction k with
  |zero=>intro n hn;have:=bX n;omega
  |succ k ih=>
   intro n hn;refine h n λm hm=>ih m ?_
   have:=cB hm;have:=aN n;omega
 exact this _ n (au3 _)
def D8(b:UInt8):Bool:=(decide (97<=b)&&decide (b<=122))||(decide (65<=b)&&decide (b<=90))
def digit(b:UInt8):Bool:=decide (48<=b)&&decide (b<=57)
def signs:QJ:=[43,45,42,47,61,60,62,44,59,58,33,124,39,63,126,64]
def rz:QJ:=[40,41,91,93,123,125,124,60,62,47,46]
def GK:List QJ:=[[102,114,97,99],[114,111,111,116],[109,97,116,114,105,120],[102,101,110,99,101]]
def eu:List QJ:=[[104,97,116],[98,97,114],[118,101,99],[100,111,116],[116,105,108,100,101],[99,104,101,99,107]]
def character(b:UInt8):Bool:=D8 b||signs.contains b
def symbol(s:QJ):Bool:=
 match s with
 |[c]=>character c
 |s=>s.all D8&&decide (2<=s.length)&&decide (s.length<=16)&&!GK.contains s&&!eu.contains s
def isNum(s:QJ):Bool:=
 decide (s.length<=20)&&decide (s≠[])&&
 (s.all digit||match s.dropWhile (·≠46)with|_::b=>decide (s.takeWhile (·≠46)≠[])&&(s.takeWhile (·≠46)).all digit&&decide (b≠[])&&b.all digit|[]=>false)
def aU(s:QJ):Bool:=s.all λb=>decide (32<=b)&&decide (b<=126)
def fence(s:QJ):Bool:=match s with|[a,b]=>rz.contains a&&rz.contains b|_=>false
def dR(k:Int)(s:QJ):Bool:=
 if k=2 then symbol s else if k=3 then isNum s else if k=4 then decide (s.length<=200)&&aU s
 else if k=10 then eu.contains s else if k=11 then fence s else s.isEmpty
def bM(k c:Int)(n:Nat):Bool:=
 if k=12 then decide (1<=c)&&decide (c<=16)&&decide (1<=n)&&decide (n<=256)&&decide ((n:Int)%c=0)
 else if c≠0 then false
 else if k=1 then decide (n<=200)
 else if k=2\/k=3\/k=4 then decide (n=0)
 else if k=5\/k=6\/k=7\/k=8 then decide (n=2)
 else if k=9 then decide (n=3)
 else if k=10\/k=11 then decide (n=1)
 else false
mutual
def form:Nd->Bool
 |.mk k t c ks=>dR k t&&bM k c ks.length&&iV (k==1) ks
def iV:Bool->List Nd->Bool
 |_,[]=>true
 |r,n::ns=>((n.QI==1) !=r)&&form n&&iV r ns
end
def valid(n:Nd):Bool:=(n.QI==1)&&form n&&decide (count n<=1000)&&decide (depth n<=24)
mutual
def Gj:Nd->Nd->Bool
 |.mk k t c ks,.mk k' t' c' ks'=>(k==k')&&(t==t')&&(c==c')&&rY ks ks'
def rY:List Nd->List Nd->Bool
 |[],[]=>true
 |n::ns,m::ms=>Gj n m&&rY ns ms
 |_,_=>false
end
theorem Vf:∀(l m:List Nd),l.length≠m.length->rY l m=false
 |[],[],h=>absurd rfl h
 |x::l,y::m,h=>by rw[rY,Vf l m (by simpa using h),Bool.and_false]
 |[],_::_,_=>by simp[rY]
 |_::_,[],_=>by simp[rY]
theorem kG(n:Nd):form n=(dR n.QI n.QG&&bM n.QI n.ah n.Qx.length&&iV (n.QI==1) n.Qx):=by
 cases n;rw[form];rfl
theorem YH(n m:Nd):Gj n m=((n.QI==m.QI)&&(n.QG==m.QG)&&(n.ah==m.ah)&&rY n.Qx m.Qx):=by
 cases n;cases m;rw[Gj];rfl
theorem ael(n:Nd):∀m,Gj n m=true↔n=m:=by
 induction n using Nd.ind with
 |h n ih=>
  intro m
  have hL:∀(l l':List Nd),(∀x∈l,∀y,Gj x y=true↔x=y)->(rY l l'=true↔l=l'):=by
   intro l
   induction l with
   |nil=>
    intro l' _;cases l' with
    |nil=>simp[rY]
    |cons y l'=>simp[rY]
   |cons x l ih2=>
    intro l' h;cases l' with
    |nil=>simp[rY]
    |cons y l'=>
     rw[rY,auY,h x (by simp) y,ih2 l' (λz hz=>h z (by simp[hz]))];simp
  rw[YH,auY,auY,auY,hL n.Qx m.Qx ih,beq_iff_eq,beq_iff_eq,beq_iff_eq,Nd.eta n,Nd.eta m];simp[Nd.QI,Nd.QG,Nd.ah,Nd.Qx,and_assoc]
end Tr
namespace Lx
def iH(b:UInt8):QJ:=if b=34\/b=92 then [92,b]else [b]
def esc(l:QJ):QJ:=l.flatMap iH
def zO(l:QJ):QJ:=34::(esc l++[34])
def gB(k:Int)(t:QJ):QJ:=
 if k=3 then zO t else if k=4 then 92::t else if k=5 then [92,102,101,110,99,101]++t else if k=6 then 35::t else t
theorem aem(l:QJ):(esc l).length<=2*l.length:=by
 induction l with
 |nil=>simp[esc]
 |cons b l ih=>
  have:(iH b).length<=2:=by unfold iH;split<;>simp
  simp[esc]at ih|-;omega
theorem J5(l:QJ)(b:UInt8):esc (l++[b])=esc l++iH b:=by simp[esc]
end Lx
namespace Lx
theorem VX(k:Int)(t:QJ):t.length<=(gB k t).length:=by
 have he:∀l:QJ,l.length<=(esc l).length:=λl=>by
  induction l with
  |nil=>simp
  |cons b l ih=>
   have:1<=(iH b).length:=by unfold iH;split<;>simp
   simp[esc]at ih|-;omega
 unfold gB;have:=he t
 repeat' split
 .simp[zO];omega
 .simp
 .simp;omega
 .simp
 .exact au3 _
theorem Lc{most:Nat}{t t':Tok}{n n':Nat}(h:lim most t n=.ok t' n'):t=t'/\n=n':=by
 obtain⟨h1,h2⟩:=Gh h;exact⟨h1.symm,h2.symm⟩
theorem amC(l:QJ):∀(f a:Nat),a<=l.length->(lI l f a).1.length+a<=l.length
 |0,a,h1=>by simpa[lI]using h1
 |f+1,a,h1=>by
  obtain⟨s1,s2⟩:=aek l a h1;rw[lI];split
  .simpa using h1
  .cases hn:next (l.drop (skip l a))with
   |err i e=>simpa using h1
   |ok t n=>
    obtain⟨n1,n2⟩:=EJ _ _ _ hn;rw[avM]at n2;have:=amC l f (skip l a+n) (by omega);simp only[au0];omega
theorem amq(l:QJ):(jr l).1.length<=l.length:=amC l _ 0 (Nat.zero_le _)
end Lx
namespace Lx
def kR(t:Tok):Prop:=
 (t.QI=1/\∃c,t.QG=[c]/\(dG 3 c=true\/dG 4 c=true))\/
 (t.QI=2/\t.QG.length<=20/\∃ds,ds≠[]/\ds.all (dG 2)=true/\(t.QG=ds\/∃es,es≠[]/\es.all (dG 2)=true/\t.QG=ds++46::es))\/
 (t.QI=3/\t.QG.length<=200/\t.QG.all (λb=>decide (32<=b/\b<=126))=true)\/
 (t.QI=4/\t.QG.length<=16/\t.QG≠[]/\t.QG.all (dG 3)=true/\t.QG≠[102,101,110,99,101])\/
 (t.QI=5/\∃a b,t.QG=[a,b]/\kF a=true/\kF b=true)\/
 (t.QI=6/\∃d,t.QG=[d]/\49<=d/\d<=52)\/
 (t.QI=7/\∃c,t.QG=[c]/\dG 5 c=true)\/
 (t.QI=8/\t.QG=[92,92])
def spell(t:Tok):QJ:=gB t.QI t.QG
def join(a b:Tok):Bool:=(a.QI==2&&b.QI==2)||(a.QI==4&&b.QI==1&&(match b.QG with|[]=>false|c::_=>dG 3 c))
def xu(k:Nat)(q:QJ):Prop:=∀c,q.head?=some c->dG k c=false
def DW(t:Tok)(q:QJ):Prop:=(t.QI=2->xu 2 q/\q.head?≠some 46)/\(t.QI=4->xu 3 q)
theorem vN(k:Nat)(x y:QJ)(hx:x.all (dG k)=true)(hy:xu k y):dI k (x++y)=x.length:=by
 unfold dI
 induction x with
 |nil=>
  cases y with
  |nil=>rfl
  |cons c y=>rw[avn,av2,hy c rfl];rfl
 |cons c x ih=>
  simp only[au9,auY]at hx;rw[au',av2,if_pos hx.1,au0,ih hx.2,au0]
theorem BB(k:Nat)(r:QJ):∃y,r=r.take (dI k r)++y/\(r.take (dI k r)).all (dG k)=true/\xu k y/\y=r.drop (dI k r):=by
 unfold dI
 induction r with
 |nil=>exact⟨[],rfl,rfl,(λc h=>nomatch h),rfl⟩
 |cons c r ih=>
  rw[av2];cases hc:dG k c with
  |true=>
   obtain⟨y,h1,h2,h3,h4⟩:=ih;refine⟨y,?_,?_,h3,?_⟩
   .simp only[if_true,au0,avF,au'];rw[<-h1]
   .simp only[if_true,au0,avF,au9,hc,h2];rfl
   .simpa using h4
  |false=>exact⟨c::r,rfl,rfl,λd h=>by cases h;exact hc,rfl⟩
theorem VY(k:Nat)(x y:QJ):xP k (x++y) x.length=(match y with|[]=>false|c::_=>dG k c):=by
 unfold xP;rw[avY (au3 _),awi];cases y<;>rfl
theorem Qa(ds q:QJ)(h:ds.all (dG 2)=true)(hq:xu 2 q)(aa:q.head?≠some 46):lH (ds++q)=ds.length:=by
 unfold lH;rw[vN 2 ds q h hq,if_neg];rintro⟨h1,_⟩;rw[avY (au3 _),awi]at h1;exact aa (by rw[<-h1];cases q<;>rfl)
theorem Qb(ds es q:QJ)(h:ds.all (dG 2)=true)(he:es.all (dG 2)=true)(hn:es≠[])(hq:xu 2 q):lH ((ds++46::es)++q)=(ds++46::es).length:=by
 have e1:(ds++46::es)++q=ds++(46::(es++q)):=by simp
 have hr:dI 2 (ds++(46::(es++q)))=ds.length:=vN 2 ds _ h (λc hc=>by cases hc;rfl);unfold lH;rw[e1,hr,if_pos]
 .have:(ds++(46::(es++q))).drop (ds.length+1)=es++q:=by
   simp[List.drop_append]
  rw[this,vN 2 es q he hq];simp;omega
 .constructor
  .rw[avY (au3 _),awi];rfl
  .cases es with
   |nil=>exact absurd rfl hn
   |cons e es=>
    have e2:ds++(46::(e::es++q))=(ds++[46])++(e::(es++q)):=by simp
    have:=VY 2 (ds++[46]) (e::(es++q));rw[e2,show ds.length+1=(ds++[46]).length by simp,this];simp only[au9,auY]at he;exact he.1
theorem YI(r:QJ)(t:Tok)(n:Nat)(h0:xP 2 r 0=true)(h:number r=.ok t n):kR t:=by
 unfold number at h;obtain⟨h1,h2⟩:=Lc h
 have hl:t.QG.length<=20:=by
  unfold lim at h;split at h
  .cases h
  .rw[<-h1];simp only at*;omega
 subst h1 h2;refine .inr (.inl ⟨rfl,hl,?_⟩);simp only
 obtain⟨y,e1,e2,e3,e4⟩:=BB 2 r
 have hne:r.take (dI 2 r)≠[]:=by
  intro h;rw[h,avn]at e1;unfold xP at h0;cases r with
  |nil=>cases h0
  |cons c r=>
   subst e1;have:=e3 c rfl;simp only[avo]at h0;rw[h0]at this;cases this
 refine⟨_,hne,e2,?_⟩;unfold lH;split
 .rename_i hc
  obtain⟨c1,c2⟩:=hc;obtain⟨y',f1,f2,f3,f4⟩:=BB 2 (r.drop (dI 2 r+1))
  right
  refine⟨_,?_,f2,?_⟩
  .intro h
   rw[h,avn]at f1;unfold xP at c2;rw[<-avk (dI 2 r+1),<-List.getElem?_drop,f1]at c2;cases y' with
   |nil=>cases c2
   |cons c y'=>
    have:=f3 c rfl;simp only[avo]at c2;rw[c2]at this;cases this
  .rw[show dI 2 r+1+dI 2 (r.drop (dI 2 r+1))=dI 2 r+(1+dI 2 (r.drop (dI 2 r+1))) by omega,List.take_add]
   congr 1
   have hlt:=(List.getElem?_eq_some_iff.1 c1);obtain⟨hlt,hv⟩:=hlt;rw[avt hlt,hv,Nat.add_comm 1,avF]
 .exact .inl rfl
theorem Qc:∀(q acc:QJ) (i:Nat) (t:Tok) (n:Nat),quo q acc i=.ok t n->acc.all (λb=>decide (32<=b/\b<=126))=true->t.QI=3/\t.QG.length<=200/\t.QG.all (λb=>decide (32<=b/\b<=126))=true
 |[],acc,i,t,n,h,_=>by simp[quo]at h
 |c::q,acc,i,t,n,h,ha=>by
  unfold quo at h;split at h
  .obtain⟨h1,h2⟩:=Lc h
   have hl:t.QG.length<=200:=by
    unfold lim at h;split at h
    .cases h
    .rw[<-h1];simp only at*;omega
   subst h1;exact⟨rfl,hl,ha⟩
  .split at h
   .cases h
   .rename_i hc
    have aw:32<=c/\c<=126:=by
     constructor
     .exact UInt8.not_lt.1 (λh=>hc (.inl h))
     .exact UInt8.not_lt.1 (λh=>hc (.inr h))
    split at h
    .cases q with
     |nil=>simp at h
     |cons d q'=>
      simp only at h;split at h
      .rename_i hd
       refine Qc q' _ _ t n h ?_;rw[awl,ha]
       rcases hd with rfl|rfl<;>rfl
      .cases h
    .refine Qc q _ _ t n h ?_
     rw[awl,ha];simp[aw]
theorem VZ(r:QJ)(t:Tok)(n:Nat)(h:next r=.ok t n):kR t:=by
 cases r with
 |nil=>simp[next]at h
 |cons c q=>
  rw[next]at h;split at h
  .rename_i hc
   exact YI (c::q) t n (show xP 2 (c::q) 0=true from hc) h
  .split at h
   .rename_i hc
    cases h;exact .inr (.inr (.inr (.inr (.inr (.inr (.inl ⟨rfl,c,rfl,hc⟩))))))
   .split at h
    .exact .inr (.inr (.inl (Qc q [] 1 t n h rfl)))
    .split at h
     .cases h
      exact .inr (.inr (.inr (.inr (.inr (.inr (.inr ⟨rfl,rfl⟩))))))
     .split at h
      .rename_i hc
       obtain⟨hc,hl⟩:=hc;unfold name at h;simp only[awh,avX]at h;obtain⟨y,e1,e2,e3,e4⟩:=BB 3 q;split at h
       .rename_i hf
        have hlen:t.QG.length<=16:=by
         obtain⟨h1,h2⟩:=Lc h;unfold lim at h;split at h
         .cases h
         .rw[<-h1];simp only at*;omega
        obtain⟨h1,h2⟩:=Lc h;subst h1;refine .inr (.inr (.inr (.inl ⟨rfl,hlen,?_,e2,hf⟩)));intro h;simp only at h;rw[h,avn]at e1;subst e1;cases q with
        |nil=>cases hl
        |cons c' q=>
         have:=e3 c' rfl;unfold xP at hl;simp only[avo]at hl;rw[hl]at this;cases this
       .split at h
        .rename_i hd
         cases h;obtain⟨d1,d2⟩:=hd;refine .inr (.inr (.inr (.inr (.inl ⟨rfl,?_⟩))));simp only
         unfold ry at d1 d2;rw[show 1+dI 3 q=dI 3 q+1 by omega,avG]at d1;rw[show 2+dI 3 q=(dI 3 q+1)+1 by omega,avG]at d2;rw[show 1+dI 3 q=dI 3 q+1 by omega,awh];generalize dI 3 q=m at*;split at d1
         .rename_i a ha
          split at d2
          .rename_i b hb
           refine⟨a,b,?_,d1,d2⟩;obtain⟨ha1,ha2⟩:=List.getElem?_eq_some_iff.1 ha;obtain⟨hb1,hb2⟩:=List.getElem?_eq_some_iff.1 hb;rw[avt ha1,avt hb1,ha2,hb2];rfl
          .cases d2
         .cases d1
        .cases h
      .split at h
       .rename_i hc
        obtain⟨h1,h2⟩:=hc;cases h;cases q with
        |nil=>cases h2
        |cons d q=>
         exact .inr (.inr (.inr (.inr (.inr (.inl ⟨rfl,d,rfl,by simpa[K9]using h2⟩)))))
       .split at h
        .rename_i hc
         cases h;exact .inl ⟨rfl,c,rfl,hc⟩
        .cases h
end Lx
namespace Lx
theorem Qd{most:Nat}{t:Tok}{n:Nat}(h:t.QG.length<=most):lim most t n=.ok t n:=by
 unfold lim;rw[if_neg (by omega)]
theorem xQ(p:UInt8->Prop)[DecidablePred p](h:∀n:Fin 256,p (UInt8.ofNat n.1))(c:UInt8):p c:=by
 have:=h ⟨c.toNat,c.toNat_lt⟩;simpa using this
theorem O3(c:UInt8):dG 2 c=true->dG 5 c=false/\dG 3 c=false/\dG 1 c=false/\dG 4 c=false/\c≠34/\c≠92/\c≠35/\c≠46:=by
 revert c;exact λc=>xQ (λc=>dG 2 c=true->dG 5 c=false/\dG 3 c=false/\dG 1 c=false/\dG 4 c=false/\c≠34/\c≠92/\c≠35/\c≠46) (by decide+kernel) c
theorem Dw(c:UInt8):(dG 3 c=true\/dG 4 c=true)->dG 2 c=false/\dG 5 c=false/\dG 1 c=false/\c≠34/\c≠92/\c≠35/\c≠46:=
 xQ (λc=>(dG 3 c=true\/dG 4 c=true)->dG 2 c=false/\dG 5 c=false/\dG 1 c=false/\c≠34/\c≠92/\c≠35/\c≠46) (by decide+kernel) c
theorem Gl(c:UInt8):dG 5 c=true->dG 2 c=false/\dG 3 c=false/\dG 1 c=false/\c≠34/\c≠92/\c≠35/\c≠46:=
 xQ (λc=>dG 5 c=true->dG 2 c=false/\dG 3 c=false/\dG 1 c=false/\c≠34/\c≠92/\c≠35/\c≠46) (by decide+kernel) c
theorem TS(c:UInt8):kF c=true->dG 3 c=false:=
 xQ (λc=>kF c=true->dG 3 c=false) (by decide+kernel) c
theorem O4(c:UInt8):dG 1 c=true->dG 2 c=false/\dG 3 c=false/\c≠46:=
 xQ (λc=>dG 1 c=true->dG 2 c=false/\dG 3 c=false/\c≠46) (by decide+kernel) c
theorem Jz:∀(x q acc:QJ) (i:Nat),x.all (λb=>decide (32<=b/\b<=126))=true->(acc++x).length<=200->quo (esc x++34::q) acc i=.ok ⟨3,acc++x⟩ (i+(esc x).length+1)
 |[],q,acc,i,_,hl=>by
  simp only[esc,List.flatMap_nil,avn,List.append_nil,ava,avk]at*;rw[quo.eq_def];simp only
  rw[if_pos trivial];exact Qd (t:=⟨3,acc⟩) hl
 |c::x,q,acc,i,hx,hl=>by
  simp only[au9,auY,decide_eq_true_eq]at hx;obtain⟨⟨h1,h2⟩,hx⟩:=hx;have aa:acc++c::x=(acc++[c])++x:=by simp
  have ih:=λj=>Jz x q (acc++[c]) j hx (by rw[<-aa];exact hl)
  have he:esc (c::x)=iH c++esc x:=rfl;rw[he,aa];unfold iH
  by_cases hc:c=34\/c=92
  .rw[if_pos hc]
   simp only[au',avn];rw[quo.eq_def];simp only
   rw[if_neg (by decide),if_neg (by decide),if_pos trivial];rw[if_pos hc,ih];simp only[au0]
   congr 1;omega
  .rw[if_neg hc]
   simp only[au',avn];rw[quo.eq_def];simp only
   rw[if_neg (λh=>hc (.inl h)),if_neg (λh=>h.elim (UInt8.not_lt.2 h1) (UInt8.not_lt.2 h2)),if_neg (λh=>hc (.inr h)),ih];simp only[au0]
   congr 1;omega
theorem YJ{t:Tok}{q:QJ}(ds:QJ)(h:ds.all (dG 2)=true)(ht:t.QG=ds\/∃es,es≠[]/\es.all (dG 2)=true/\t.QG=ds++46::es)(hq:xu 2 q)(aa:q.head?≠some 46):
  lH (t.QG++q)=t.QG.length:=by
 rcases ht with e|⟨es,e1,e2,e3⟩
 .rw[e];exact Qa ds q h hq aa
 .rw[e3];exact Qb ds es q h e2 e1 hq
theorem Qe(x q:QJ):(x++q).take x.length=x:=by simp
theorem afe(t:Tok)(q:QJ)(ht:kR t)(hq:DW t q):next (spell t++q)=.ok t (spell t).length:=by
 obtain⟨k,x⟩:=t
 rcases ht with⟨h1,c,h2,h3⟩|⟨h1,h2,ds,h3,h4,h5⟩|⟨h1,h2,h3⟩|⟨h1,h2,h3,h4,h5⟩|⟨h1,a,b,h2,h3,h4⟩|⟨h1,d,h2,h3,h4⟩|⟨h1,c,h2,h3⟩|⟨h1,h2⟩
 .simp only at h1 h2;subst h1 h2
  obtain⟨n1,n2,n3,n4,n5,n6,n7⟩:=Dw c h3;show next ([c]++q)=_;rw[au',next,if_neg (by rw[n1];decide),if_neg (by rw[n2];decide),if_neg n4,if_neg (λh=>n5 h.1),if_neg (λh=>n5 h.1),if_neg (λh=>n6 h.1),if_pos h3];rfl
 .simp only at h1 h2 h5;subst h1
  have hx:∃c y,x=c::y/\dG 2 c=true:=by
   cases ds with
   |nil=>exact absurd rfl h3
   |cons c ds=>
    simp only[au9,auY]at h4
    rcases h5 with rfl|⟨es,_,_,rfl⟩
    .exact⟨c,ds,rfl,h4.1⟩
    .exact⟨c,_,rfl,h4.1⟩
  obtain⟨q1,q2⟩:=hq.1 rfl;have hn:lH (x++q)=x.length:=YJ (t:=⟨2,x⟩) ds h4 h5 q1 q2;show next (x++q)=_;obtain⟨c,y,rfl,hc⟩:=hx;rw[au',next,if_pos hc,<-au'];unfold number;rw[hn,Qe,Qd (by exact h2)];rfl
 .simp only at h1 h2 h3;subst h1
  show next (zO x++q)=_;unfold zO;rw[au',next,if_neg (by decide),if_neg (by decide),if_pos rfl,List.append_assoc];have:=Jz x q [] 1 h3 h2;simp only[avn]at this;rw[List.singleton_append,this];show jT.ok _ _=jT.ok _ (zO x).length;unfold zO;simp only[au0,auZ,ava]
  congr 1;omega
 .simp only at h1 h2 h3 h4 h5;subst h1
  have hr:dI 3 (x++q)=x.length:=vN 3 x q h4 (hq.2 rfl)
  have hh:xP 3 (x++q) 0=true:=by
   cases x with
   |nil=>exact absurd rfl h3
   |cons c y=>
    simp only[au9,auY]at h4;exact h4.1
  have h92:(x++q).head?≠some 92:=by
   cases x with
   |nil=>exact absurd rfl h3
   |cons c y=>
    simp only[au9,auY]at h4;intro h;have:c=92:=by simpa using h
    exact(Dw c (.inl h4.1)).2.2.2.2.1 this
  show next ((92::x)++q)=_;rw[au',next,if_neg (by decide),if_neg (by decide),if_neg (by decide),if_neg (λh=>h92 h.2),if_pos ⟨rfl,hh⟩];unfold name;simp only[awh,avX];rw[hr,Qe,if_pos h5,Qd (by exact h2)];show jT.ok _ _=jT.ok _ (92::x).length;rw[au0,Nat.add_comm]
 .simp only at h1 h2;subst h1 h2
  have hr:dI 3 ([102,101,110,99,101]++(a::b::q))=5:=vN 3 [102,101,110,99,101] _ (by decide) (λc hc=>by cases hc;exact TS a h3);show next (92::([102,101,110,99,101]++(a::b::q)))=_;rw[next,if_neg (by decide),if_neg (by decide),if_neg (by decide),if_neg (λh=>absurd h.2 (by simp)),if_pos ⟨rfl,rfl⟩];unfold name;simp only[awh,avX];rw[hr,if_neg (by simp),if_pos]
  .rfl
  .exact⟨h3,h4⟩
 .simp only at h1 h2;subst h1 h2
  show next (35::d::q)=_;rw[next,if_neg (by decide),if_neg (by decide),if_neg (by decide),if_neg (λh=>absurd h.1 (by decide)),if_neg (λh=>absurd h.1 (by decide)),if_pos ⟨rfl,by simp[K9,h3,h4]⟩];rfl
 .simp only at h1 h2;subst h1 h2
  obtain⟨n1,_⟩:=Gl c h3;show next (c::q)=_;rw[next,if_neg (by rw[n1];decide),if_pos h3];rfl
 .simp only at h1 h2;subst h1 h2
  show next (92::92::q)=_;rw[next,if_neg (by decide),if_neg (by decide),if_neg (by decide),if_pos ⟨rfl,rfl⟩];rfl
theorem EK(t:Tok)(ht:kR t):∃c y,spell t=c::y/\dG 1 c=false/\c≠46/\(dG 2 c=true->t.QI=2)/\(dG 3 c=true->t.QI=1/\∃z,t.QG=c::z)/\(t.QI=2->dG 2 c=true):=by
 obtain⟨k,x⟩:=t
 rcases ht with⟨h1,c,h2,h3⟩|⟨h1,h2,ds,h3,h4,h5⟩|⟨h1,h2,h3⟩|⟨h1,h2,h3,h4,h5⟩|⟨h1,a,b,h2,h3,h4⟩|⟨h1,d,h2,h3,h4⟩|⟨h1,c,h2,h3⟩|⟨h1,h2⟩
 .simp only at h1 h2;subst h1 h2
  obtain⟨n1,n2,n3,n4,n5,n6,n7⟩:=Dw c h3;exact⟨c,[],rfl,n3,n7,λh=>(by rw[n1]at h;cases h),λh=>⟨rfl,[],rfl⟩,(λh=>by cases h)⟩
 .simp only at h1 h2 h5;subst h1
  have hx:∃c y,x=c::y/\dG 2 c=true:=by
   cases ds with
   |nil=>exact absurd rfl h3
   |cons c ds=>
    simp only[au9,auY]at h4
    rcases h5 with rfl|⟨es,_,_,rfl⟩
    .exact⟨c,ds,rfl,h4.1⟩
    .exact⟨c,_,rfl,h4.1⟩
  obtain⟨c,y,rfl,hc⟩:=hx;obtain⟨n1,n2,n3,n4,n5,n6,n7,n8⟩:=O3 c hc;exact⟨c,y,rfl,n3,n8,λ_=>rfl,λh=>(by rw[n2]at h;cases h),λ_=>hc⟩
 .simp only at h1;subst h1
  exact⟨34,_,rfl,rfl,by decide,(λh=>by cases h),(λh=>by cases h),(λh=>by cases h)⟩
 .simp only at h1;subst h1
  exact⟨92,_,rfl,rfl,by decide,(λh=>by cases h),(λh=>by cases h),(λh=>by cases h)⟩
 .simp only at h1;subst h1
  exact⟨92,_,rfl,rfl,by decide,(λh=>by cases h),(λh=>by cases h),(λh=>by cases h)⟩
 .simp only at h1;subst h1
  exact⟨35,_,rfl,rfl,by decide,(λh=>by cases h),(λh=>by cases h),(λh=>by cases h)⟩
 .simp only at h1 h2;subst h1 h2
  obtain⟨n1,n2,n3,n4,n5,n6,n7⟩:=Gl c h3;exact⟨c,[],rfl,n3,n7,λh=>(by rw[n1]at h;cases h),λh=>(by rw[n2]at h;cases h),(λh=>by cases h)⟩
 .simp only at h1 h2;subst h1 h2
  exact⟨92,_,rfl,rfl,by decide,(λh=>by cases h),(λh=>by cases h),(λh=>by cases h)⟩
theorem TT(a b:Tok)(hb:kR b)(hj:join a b=false)(q:QJ):DW a (spell b++q):=by
 obtain⟨c,y,e,n1,n2,n3,n4,n5⟩:=EK b hb;rw[e,au'];unfold join at hj;simp only[Bool.or_eq_false_iff,Bool.and_eq_false_iff]at hj;constructor
 .intro hk
  refine⟨λd hd=>?_,λh=>n2 (by simpa using h)⟩;cases hd;cases h2:dG 2 c with
  |false=>rfl
  |true=>
   rcases hj.1 with h|h
   .rw[hk]at h;cases h
   .rw[n3 h2]at h;cases h
 .intro hk d hd
  cases hd;cases h3:dG 3 c with
  |false=>rfl
  |true=>
   obtain⟨m1,z,m2⟩:=n4 h3
   rcases hj.2 with(h|h)|h
   .rw[hk]at h;cases h
   .rw[m1]at h;cases h
   .rw[m2]at h;simp only at h;rw[h3]at h;cases h
theorem O5(a:Tok)(c:UInt8)(q:QJ)(hc:dG 1 c=true):DW a (c::q):=by
 obtain⟨n1,n2,n3⟩:=O4 c hc;exact⟨λ_=>⟨λd hd=>by cases hd;exact n1,λh=>n3 (by simpa using h)⟩,λ_ d hd=>by cases hd;exact n2⟩
theorem TU(a:Tok):DW a []:=⟨λ_=>⟨(λc h=>nomatch h),by simp⟩,λ_=>(λc h=>nomatch h)⟩
end Lx
namespace Lx
def flat:List (QJ×Tok)->QJ
 |[]=>[]
 |(s,t)::l=>s++(spell t++flat l)
def placed:Nat->List (QJ×Tok)->List aB
 |_,[]=>[]
 |a,(s,t)::l=>⟨t.QI,t.QG,a+s.length,a+s.length+(spell t).length⟩::placed (a+s.length+(spell t).length) l
def DX:Option Tok->List (QJ×Tok)->Prop
 |_,[]=>True
 |o,(s,t)::l=>s.all (dG 1)=true/\kR t/\(s=[]->∀a,o=some a->join a t=false)/\DX (some t) l
theorem abp(l:QJ)(k:Nat):mO 1 l k=dI 1 (l.drop k):=by
 unfold mO dI
 have hp:(λb:UInt8=>(cls b.toNat:Int)==1)=dG 1:=by
  funext b
  unfold dG;rw[Bool.eq_iff_iff,beq_iff_eq,beq_iff_eq];omega
 rw[hp]
theorem NK(t:Tok)(ht:kR t):0<(spell t).length:=by
 obtain⟨c,y,e,_⟩:=EK t ht;rw[e];simp
theorem Qf(t:Tok):∀(W:List (QJ×Tok)),DX (some t) W->DW t (flat W)
 |[],_=>TU t
 |(s,b)::l,⟨h1,h2,h3,_⟩=>by
  cases s with
  |nil=>exact TT t b h2 (h3 rfl t rfl) _
  |cons c s=>
   simp only[au9,auY]at h1;exact O5 t c _ h1.1
theorem Ld(l:QJ):∀(W:List (QJ×Tok)) (o:Option Tok) (p:QJ) (f:Nat),l=p++flat W->W.length<f->DX o W->lI l f p.length=(placed p.length W,none)
 |[],o,p,f,hl,hf,_=>by
  cases f with
  |zero=>cases hf
  |succ f=>
   rw[lI,if_pos]
   .rfl
   .rw[hl];unfold skip flat;simp
 |(s,t)::W,o,p,f,hl,hf,⟨h1,h2,h3,h4⟩=>by
  cases f with
  |zero=>cases hf
  |succ f=>
   have hd:l.drop p.length=s++(spell t++flat W):=by rw[hl];simp[flat]
   have hsk:skip l p.length=p.length+s.length:=by
    unfold skip;rw[abp,hd,vN 1 s _ h1];obtain⟨c,y,e,n1,_⟩:=EK t h2;rw[e];intro d hd';cases hd';exact n1
   have hl2:l=(p++s)++(spell t++flat W):=by rw[hl];simp[flat]
   have ai:l=(p++s++spell t)++flat W:=by rw[hl];simp[flat]
   have hsp:=NK t h2
   have hnx:next (l.drop (p.length+s.length))=.ok t (spell t).length:=by
    have:l.drop (p.length+s.length)=spell t++flat W:=by
     rw[hl2,<-auZ,List.drop_left]
    rw[this];exact afe t _ h2 (Qf t W h4)
   have ih:=Ld l W (some t) (p++s++spell t) f ai (by simpa using hf) h4;rw[lI,hsk,if_neg]
   .rw[hnx]
    simp only
    have e3:(p++s++spell t).length=p.length+s.length+(spell t).length:=by simp[Nat.add_assoc]
    rw[e3]at ih;rw[ih];rfl
   .rw[hl2];simp;omega
theorem Qg:∀(W:List (QJ×Tok)) (o:Option Tok),DX o W->W.length<=(flat W).length
 |[],_,_=>au3 _
 |(s,t)::W,o,⟨_,h2,_,h4⟩=>by
  have:=Qg W (some t) h4;have:=NK t h2;simp[flat];omega
theorem TV(W:List (QJ×Tok))(h:DX none W):jr (flat W)=(placed 0 W,none):=
 Ld (flat W) W none [] _ rfl (by have:=Qg W none h;omega) h
def tok(t:aB):Tok:=⟨t.QI,t.QG⟩
theorem Dx:∀(W:List (QJ×Tok)) (a:Nat),(placed a W).map tok=W.map (·.2)
 |[],_=>rfl
 |(s,t)::W,a=>by simp only[placed,List.map_cons,Dx W];rfl
theorem Qh(l:QJ):∀(f a:Nat),∀t∈(lI l f a).1,kR (tok t)
 |0,a,t,ht=>by simp[lI]at ht
 |f+1,a,t,ht=>by
  rw[lI]at ht;split at ht
  .cases ht
  .cases hn:next (l.drop (skip l a))with
   |err i e=>rw[hn]at ht;cases ht
   |ok t' n=>
    rw[hn]at ht
    rcases List.mem_cons.1 ht with rfl|h
    .exact VZ _ _ _ hn
    .exact Qh l f _ t h
end Lx
namespace Tr
open Lx (Tok)
def aI(b:UInt8):Tok:=⟨7,[b]⟩
def name(s:QJ):Tok:=⟨4,s⟩
def oO:QJ:=[102,114,97,99]
def mU:QJ:=[114,111,111,116]
def bY:QJ:=[109,97,116,114,105,120]
def leaf(n:Nd):Bool:=(n.QI==2)||(n.QI==3)||(n.QI==4)
def gY(n:Nd):Bool:=(n.QI==7)||(n.QI==8)||(n.QI==9)
mutual
def bT:Nd->List Tok
 |.mk k t c ks=>
  if k=2 then [if t.length=1 then⟨1,t⟩else⟨4,t⟩]
  else if k=3 then [⟨2,t⟩]
  else if k=4 then [⟨3,t⟩]
  else match ks with
   |[a]=>
    if k=10 then name t::dD a
    else if k=11 then(if t=[40,41]\/t=[91,93]then aI (t.headD 0)::(bC a.Qx++[aI (t.getLastD 0)])else⟨5,t⟩::dD a)
    else if k=12 then name bY::aI 123::(bF c 0 [a]++[aI 125])
    else []
   |[a,b]=>
    if k=5 then name oO::(dD a++dD b)
    else if k=6 then name mU::((if a.Qx=[]then []else aI 91::(bC a.Qx++[aI 93]))++dD b)
    else if k=7 then gG a++aI 95::dD b
    else if k=8 then gG a++aI 94::dD b
    else if k=12 then name bY::aI 123::(bF c 0 [a,b]++[aI 125])
    else []
   |[a,b,d]=>
    if k=9 then gG a++aI 95::(dD b++aI 94::dD d)
    else if k=12 then name bY::aI 123::(bF c 0 [a,b,d]++[aI 125])
    else []
   |ks=>if k=12 then name bY::aI 123::(bF c 0 ks++[aI 125])else []
 termination_by n=>2*count n
 decreasing_by all_goals (simp only[aN,az,Nd.Qx];omega)
def dD:Nd->List Tok
 |.mk _ _ _ ks=>match ks with
  |[x]=>if leaf x then bT x else aI 123::(bC [x]++[aI 125])
  |ks=>aI 123::(bC ks++[aI 125])
 termination_by n=>2*count n+1
 decreasing_by all_goals (simp only[aN,az,Nd.Qx];omega)
def gG:Nd->List Tok
 |.mk _ _ _ ks=>match ks with
  |[x]=>if gY x then aI 123::(bC [x]++[aI 125])else bT x
  |ks=>aI 123::(bC ks++[aI 125])
 termination_by n=>2*count n+1
 decreasing_by all_goals (simp only[aN,az,Nd.Qx];omega)
def bC:List Nd->List Tok
 |[]=>[]
 |n::ns=>bT n++bC ns
 termination_by ns=>2*az ns+1
 decreasing_by all_goals (simp only[aN,az,Nd.Qx];omega)
def bF(c:Int):Nat->List Nd->List Tok
 |_,[]=>[]
 |i,n::ns=>(if i=0 then []else if(i:Int)%c=0 then [⟨8,[92,92]⟩]else [aI 38])++(bC n.Qx++bF c (i+1) ns)
 termination_by _ ns=>2*az ns+1
 decreasing_by all_goals (simp only[aN,az,Nd.Qx];omega)
end
end Tr
namespace Np
open Lx (aB)
open Tr (Nd oO mU bY)
inductive R(α:Type) where
 |ok (a:α) (r:List aB)
 |err (i e:Nat)
 |out
def R.bind{α β:Type}(x:R α)(k:α->List aB->R β):R β:=
 match x with
 |.ok a r=>k a r
 |.err i e=>.err i e
 |.out=>.out
def R.map{α β:Type}(x:R α)(k:α->β):R β:=x.bind λa r=>.ok (k a) r
def place(en:Nat):List aB->Nat
 |[]=>en
 |t::_=>t.from_
def dx(b:UInt8):List aB->Bool
 |[]=>false
 |t::_=>(t.QI==7)&&(t.QG==[b])
def refuse{α:Type}(en:Nat)(l:List aB):R α:=.err (place en l) 3
def fO(t:aB):Option Nd:=
 if t.QI=1 then some (.mk 2 t.QG 0 [])
 else if t.QI=2 then some (.mk 3 t.QG 0 [])
 else if t.QI=3 then some (.mk 4 t.QG 0 [])
 else none
def CG(l:List Nd):Nd:=.mk 1 [] 0 l
def tH(t:List UInt8):Bool:=Tr.eu.contains t
def special(t:List UInt8):Bool:=(t==oO)||(t==mU)||(t==bY)||tH t
def j5:List aB->Bool
 |[]=>false
 |t::_=>t.QI==8
def xh(b c n:Nat):Nat:=if b=0 then n else c
def stops(l:List aB):Bool:=j5 l||dx 41 l||dx 93 l||dx 125 l||dx 38 l
def scripts(group:Bool)(en:Nat)(base:List Nd)(sub sup:Option Nd)(l:List aB):R (List Nd):=
 match sub,sup with
 |some a,some b=>.ok [.mk 9 [] 0 [CG base,a,b]] l
 |none,some b=>.ok [.mk 8 [] 0 [CG base,b]] l
 |some a,none=>.ok [.mk 7 [] 0 [CG base,a]] l
 |none,none=>if group then refuse en l else .ok base l
def plainName(t:aB)(r:List aB):R (List Nd):=if t.QG.length=1 then .err t.from_ 11 else .ok [.mk 2 t.QG 0 []] r
mutual
def cZ(en:Nat):Nat->List Nat->List aB->R (List Nd)
 |0,_,_=>.out
 |f+1,op,l=>
  if l.isEmpty/\op≠[]then .err (op.getLastD 0) 12
  else if l.isEmpty\/stops l=true then .ok [] l
  else(eP en f op l).bind λmore r=>(cZ en f op r).map λQS=>more++QS
def kE(en:Nat):Nat->UInt8->List Nat->List aB->R (List Nd)
 |0,_,_,_=>.out
 |f+1,b,op,l=>(cZ en f (op++[place en l]) l.tail).bind λQS r=>if dx b r then .ok QS r.tail else refuse en r
def eB(en:Nat):Nat->UInt8->List Nat->List aB->R (Option Nd)
 |0,_,_,_=>.out
 |f+1,b,op,l=>if dx b l then(pArg en f op l.tail).map some else .ok none l
def eP(en:Nat):Nat->List Nat->List aB->R (List Nd)
 |0,_,_=>.out
 |f+1,op,l=>(dA en f op l).bind λbase r=>(eB en f 95 op r).bind λsub r=>(eB en f 94 op r).bind λsup r=>
  if sup.isSome&&sub.isNone then(eB en f 95 op r).bind λsub r=>scripts (dx 123 l) en base sub sup r
  else scripts (dx 123 l) en base sub sup r
def dA(en:Nat):Nat->List Nat->List aB->R (List Nd)
 |0,_,_=>.out
 |f+1,op,l=>
  match l with
  |[]=>refuse en l
  |t::r=>
   match fO t with
   |some x=>.ok [x] r
   |none=>
    if t.QI=4 then fD en f op t r
    else if t.QI=5 then(bV en f 1 op r).map λks=>[.mk 11 t.QG 0 ks]
    else if dx 40 l then(kE en f 41 op l).map λQS=>[.mk 11 [40,41] 0 [CG QS]]
    else if dx 91 l then(kE en f 93 op l).map λQS=>[.mk 11 [91,93] 0 [CG QS]]
    else if dx 123 l then kE en f 125 op l
    else refuse en l
def bV(en:Nat):Nat->Nat->List Nat->List aB->R (List Nd)
 |0,_,_,_=>.out
 |_+1,0,_,l=>.ok [] l
 |f+1,n+1,op,l=>(pArg en f op l).bind λa r=>(bV en f n op r).map λks=>a::ks
def fD(en:Nat):Nat->List Nat->aB->List aB->R (List Nd)
 |0,_,_,_=>.out
 |f+1,op,t,r=>
  if t.QG=oO then(bV en f 2 op r).map λks=>[.mk 5 [] 0 ks]
  else if t.QG=mU then
   if dx 91 r then(kE en f 93 op r).bind λd r'=>(bV en f 1 op r').map λks=>[.mk 6 [] 0 (CG d::ks)]
   else(bV en f 1 op r).map λks=>[.mk 6 [] 0 (CG []::ks)]
  else if t.QG=bY then
   if dx 123 r then(di en f (op++[place en r]) [] 0 0 r.tail).map λp=>[.mk 12 [] p.2 p.1]else refuse en r
  else if tH t.QG then(bV en f 1 op r).map λks=>[.mk 10 t.QG 0 ks]
  else plainName t r
def di(en:Nat):Nat->List Nat->List Nd->Nat->Nat->List aB->R (List Nd×Nat)
 |0,_,_,_,_,_=>.out
 |f+1,op,ks,b,c,l=>(cZ en f op l).bind λQS r=>
  if dx 38 r then di en f op (ks++[CG QS]) b c r.tail
  else if j5 r=false/\dx 125 r=false then refuse en r
  else if ks.length+1-b≠(xh b c (ks.length+1))then .err (place en r) 3
  else if j5 r=false then .ok (ks++[CG QS],xh b c (ks.length+1)) r.tail
  else di en f op (ks++[CG QS]) (ks.length+1) (xh b c (ks.length+1)) r.tail
def pArg(en:Nat):Nat->List Nat->List aB->R Nd
 |0,_,_=>.out
 |f+1,op,l=>
  match l with
  |[]=>refuse en l
  |t::r=>
   match fO t with
   |some x=>.ok (CG [x]) r
   |none=>
    if dx 123 l then(kE en f 125 op l).map CG
    else if t.QI=4/\special t.QG=false then(plainName t r).map CG
    else refuse en l
end
def yI(en:Nat)(l:List aB):R (List Nd):=
 (cZ en (8*l.length+8) [] l).bind λQS r=>if r.isEmpty then .ok QS r else refuse en r
end Np
namespace Np
open Lx (aB)
open Tr (Nd)
def Al(l l':List aB):Prop:=l.map Lx.tok=l'.map Lx.tok
def rH{α:Type}(x y:R α):Prop:=
 match x,y with
 |.ok a r,.ok a' r'=>a=a'/\Al r r'
 |.err _ e,.err _ e'=>e=e'
 |.out,.out=>True
 |_,_=>False
theorem Al.nil{l':List aB}(h:Al [] l'):l'=[]:=by
 cases l' with
 |nil=>rfl
 |cons t r=>cases h
theorem Al.cons{t:aB}{r l':List aB}(h:Al (t::r) l'):∃t' r',l'=t'::r'/\t.QI=t'.QI/\t.QG=t'.QG/\Al r r':=by
 cases l' with
 |nil=>cases h
 |cons t' r'=>
  have h1:=List.cons.inj (show Lx.tok t::r.map Lx.tok=Lx.tok t'::r'.map Lx.tok from h);exact⟨t',r',rfl,congrArg Lx.Tok.QI h1.1,congrArg Lx.Tok.QG h1.1,h1.2⟩
theorem Al.tail{l l':List aB}(h:Al l l'):Al l.tail l'.tail:=by
 cases l with
 |nil=>rw[h.nil];rfl
 |cons t r=>obtain⟨t',r',rfl,_,_,h⟩:=h.cons;exact h
theorem Al.dx{l l':List aB}(h:Al l l')(b:UInt8):dx b l=dx b l':=by
 cases l with
 |nil=>rw[h.nil]
 |cons t r=>obtain⟨t',r',rfl,h1,h2,h⟩:=h.cons;simp only[Np.dx,h1,h2]
theorem Al.j5{l l':List aB}(h:Al l l'):j5 l=j5 l':=by
 cases l with
 |nil=>rw[h.nil]
 |cons t r=>obtain⟨t',r',rfl,h1,h2,h⟩:=h.cons;simp only[Np.j5,h1]
theorem Al.isEmpty{l l':List aB}(h:Al l l'):l.isEmpty=l'.isEmpty:=by
 cases l with
 |nil=>rw[h.nil]
 |cons t r=>obtain⟨t',r',rfl,h1,h2,h⟩:=h.cons;rfl
theorem Al.stops{l l':List aB}(h:Al l l'):stops l=stops l':=by
 unfold Np.stops;rw[h.j5,h.dx,h.dx,h.dx,h.dx]
theorem OL{t t':aB}(h1:t.QI=t'.QI)(h2:t.QG=t'.QG):fO t=fO t':=by
 unfold fO;rw[h1,h2]
structure Alike(en en' f:Nat):Prop where
 row:∀op op' l l',Al l l'->(op=[]↔op'=[])->rH (cZ en f op l) (cZ en' f op' l')
 within:∀b op op' l l',Al l l'->rH (kE en f b op l) (kE en' f b op' l')
 arg:∀op op' l l',Al l l'->rH (pArg en f op l) (pArg en' f op' l')
 args:∀n op op' l l',Al l l'->rH (bV en f n op l) (bV en' f n op' l')
 script:∀b op op' l l',Al l l'->rH (eB en f b op l) (eB en' f b op' l')
 item:∀op op' l l',Al l l'->rH (eP en f op l) (eP en' f op' l')
 R3:∀op op' l l',Al l l'->rH (dA en f op l) (dA en' f op' l')
 name:∀op op' t t' r r',t.QG=t'.QG->Al r r'->rH (fD en f op t r) (fD en' f op' t' r')
 cells:∀op op' ks b c l l',Al l l'->(op=[]↔op'=[])->rH (di en f op ks b c l) (di en' f op' ks b c l')
end Np
namespace Tr
open Lx (Tok)
def row(ks:List Nd):Nd:=.mk 1 [] 0 ks
def expect(t:Tok):List Tok->Option (List Tok)
 |x::r=>if x=t then some r else none
 |[]=>none
def pF(x:Tok):Bool:=(x.QI==1)||(x.QI==2)||(x.QI==3)||(x.QI==4)||(x.QI==5)||(x.QI==7&&(x.QG==[40]||x.QG==[91]||x.QG==[123]))
def starts:List Tok->Bool
 |x::_=>pF x
 |[]=>false
def ends(c:Int)(n:Nat):List Bool:=(List.range n).map λ(i:Nat)=>decide (((i:Int)+1)%c=0)
def Gm(t:QJ):Bool:=!(t.length==1)&&!(t==oO)&&!(t==mU)&&!(t==bY)&&!(eu.contains t)
def pE:List Tok->Bool
 |x::_=>decide (x=aI 123)
 |[]=>false
def rA:List (Nd×Bool)->Int
 |[]=>0
 |(_,b)::l=>if b then 1 else 1+rA l
mutual
def pArg:Nat->List Tok->Option (Nd×List Tok)
 |f+1,x::r=>
  if x.QI=1\/(x.QI=4/\Gm x.QG=true)then some (row [.mk 2 x.QG 0 []],r)
  else if x.QI=2 then some (row [.mk 3 x.QG 0 []],r)
  else if x.QI=3 then some (row [.mk 4 x.QG 0 []],r)
  else if x=aI 123 then(cZ f r).bind λp=>(expect (aI 125) p.2).map λr'=>(row p.1,r')
  else none
 |_,_=>none
def jX:Nat->List Tok->Option (List Nd×List Tok)
 |f+1,x::r=>
  if x.QI=1 then some ([.mk 2 x.QG 0 []],r)
  else if x.QI=2 then some ([.mk 3 x.QG 0 []],r)
  else if x.QI=3 then some ([.mk 4 x.QG 0 []],r)
  else if x.QI=5 then(pArg f r).map λp=>([.mk 11 x.QG 0 [p.1]],p.2)
  else if x.QI=4 then
   if x.QG=oO then(pArg f r).bind λp=>(pArg f p.2).map λq=>([.mk 5 [] 0 [p.1,q.1]],q.2)
   else if x.QG=mU then
    match expect (aI 91) r with
    |some r1=>(cZ f r1).bind λp=>(expect (aI 93) p.2).bind λr2=>(pArg f r2).map λq=>([.mk 6 [] 0 [row p.1,q.1]],q.2)
    |none=>(pArg f r).map λq=>([.mk 6 [] 0 [row [],q.1]],q.2)
   else if x.QG=bY then(expect (aI 123) r).bind λr1=>(di f r1).bind λp=>(expect (aI 125) p.2).bind λr2=>if p.1.map (·.2)=ends (rA p.1) p.1.length then some ([.mk 12 [] (rA p.1) (p.1.map (·.1))],r2)else none
   else if eu.contains x.QG then(pArg f r).map λp=>([.mk 10 x.QG 0 [p.1]],p.2)
   else if x.QG.length=1 then none else some ([.mk 2 x.QG 0 []],r)
  else if x=aI 40 then(cZ f r).bind λp=>(expect (aI 41) p.2).map λr'=>([.mk 11 [40,41] 0 [row p.1]],r')
  else if x=aI 91 then(cZ f r).bind λp=>(expect (aI 93) p.2).map λr'=>([.mk 11 [91,93] 0 [row p.1]],r')
  else if x=aI 123 then(cZ f r).bind λp=>(expect (aI 125) p.2).map λr'=>(p.1,r')
  else none
 |_,_=>none
def eP:Nat->List Tok->Option (Nd×List Tok)
 |f+1,ts=>(jX f ts).bind λp=>
  match expect (aI 95) p.2 with
  |some r1=>(pArg f r1).bind λq=>
   match expect (aI 94) q.2 with
   |some r2=>(pArg f r2).map λs=>(.mk 9 [] 0 [row p.1,q.1,s.1],s.2)
   |none=>some (.mk 7 [] 0 [row p.1,q.1],q.2)
  |none=>
   match expect (aI 94) p.2 with
   |some r1=>(pArg f r1).map λq=>(.mk 8 [] 0 [row p.1,q.1],q.2)
   |none=>match p.1 with
    |[u]=>if pE ts then none else some (u,p.2)
    |_=>none
 |0,_=>none
def cZ:Nat->List Tok->Option (List Nd×List Tok)
 |f+1,ts=>if starts ts then(eP f ts).bind λp=>(cZ f p.2).map λq=>(p.1::q.1,q.2)else some ([],ts)
 |0,_=>none
def di:Nat->List Tok->Option (List (Nd×Bool)×List Tok)
 |f+1,ts=>(cZ f ts).bind λp=>
  match expect (aI 38) p.2 with
  |some r=>(di f r).map λq=>((row p.1,false)::q.1,q.2)
  |none=>
   match expect ⟨8,[92,92]⟩ p.2 with
   |some r=>(di f r).map λq=>((row p.1,true)::q.1,q.2)
   |none=>some ([(row p.1,true)],p.2)
 |0,_=>none
end
def yZ(r:List Tok):Prop:=expect (aI 95) r=none/\expect (aI 94) r=none
def stop(r:List Tok):Prop:=starts r=false/\yZ r
theorem jC(t:Tok)(r:List Tok):expect t (t::r)=some r:=by simp[expect]
theorem jP(t x:Tok)(r:List Tok)(h:x≠t):expect t (x::r)=none:=by simp[expect,h]
def Ev(p:Nat->Prop):Prop:=∃F,∀f,F<=f->p f
theorem Ev.of{p:Nat->Prop}(h:∀f,p f):Ev p:=⟨0,λf _=>h f⟩
theorem Ev.and{p q:Nat->Prop}(h:Ev p)(k:Ev q):Ev λf=>p f/\q f:=by
 obtain⟨F,h⟩:=h;obtain⟨G,k⟩:=k;exact⟨max F G,λf hf=>⟨h f (by omega),k f (by omega)⟩⟩
theorem Ev.mono{p q:Nat->Prop}(h:Ev p)(k:∀f,p f->q f):Ev q:=by
 obtain⟨F,h⟩:=h;exact⟨F,λf hf=>k f (h f hf)⟩
theorem Ev.succ{p:Nat->Prop}(h:Ev λf=>p (f+1)):Ev p:=by
 obtain⟨F,h⟩:=h;refine⟨F+1,λf hf=>?_⟩;obtain⟨g,rfl⟩:∃g,f=g+1:=⟨f-1,by omega⟩;exact h g (by omega)
theorem wF(a:Nd)(h1:a.QI=1)(h2:form a=true):a=row a.Qx:=by
 rw[kG,auY,auY]at h2;obtain⟨⟨h3,h4⟩,_⟩:=h2;rw[h1]at h3 h4
 have h5:a.QG=[]:=by
  unfold dR at h3;simpa using h3
 have h6:a.ah=0:=by
  unfold bM at h4;rw[if_neg (by decide)]at h4;split at h4
  .cases h4
  .rename_i hc;simpa using hc
 have:=Nd.eta a;rw[h1,h5,h6]at this;exact this
end Tr
end Go.Proofs.YtabjglnjjdcfmaaGreatDoor
