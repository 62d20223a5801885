/- Part 1 of 46 of a proof. No condition. -/
namespace Go.Proofs.YtcgbccfpcgaikaaGreatDoor
set_option maxRecDepth 100000
namespace Lx
abbrev Bytes:=List UInt8
def cls(c:Nat):Nat:=
 if c=32∨c=9∨c=10 then 1
 else if 48≤c∧c≤57 then 2
 else if(97≤c∧c≤122)∨(65≤c∧c≤90)then 3
 else if c∈[43,45,42,47,61,60,62,44,59,58,33,124,39,63,126,64]then 4
 else if c∈[123,125,40,41,91,93,94,95,38]then 5
 else 0
def dG(k:Nat)(b:UInt8):Bool:=cls b.toNat==k
def dI(k:Nat)(l:Bytes):Nat:=(l.takeWhile (dG k)).length
def xP(k:Nat)(l:Bytes)(i:Nat):Bool:=match l[i]? with|some b=>dG k b|none=>false
def cz(l:Bytes)(i:Nat):Int:=match l[i]? with|some b=>(cls b.toNat:Int)|none=>-1
theorem Ja(l:Bytes)(i:Nat)(h:i<l.length):cz l i=(cls l[i].toNat:Int):=by simp[cz,List.getElem?_eq_getElem h]
theorem MI(l:Bytes)(i:Nat)(h:l.length≤i):cz l i=-1:=by simp[cz,List.getElem?_eq_none h]
def mO(c:Int)(l:Bytes)(k:Nat):Nat:=((l.drop k).takeWhile fun b=>(cls b.toNat:Int)==c).length
theorem P8(c:Int)(l:Bytes)(k:Nat)(hc:0≤c)(h:cz l k=c):k<l.length∧k+1+mO c l (k+1)=k+mO c l k:=by
 rcases Nat.lt_or_ge k l.length with hk|hk
 ·refine⟨hk,?_⟩
  rw[Ja l k hk]at h;unfold mO;rw[List.drop_eq_getElem_cons hk,List.takeWhile_cons];simp only[h,BEq.rfl,↓reduceIte,List.length_cons];omega
 ·rw[MI l k hk]at h;omega
theorem aeh(c:Int)(l:Bytes)(k:Nat)(h:cz l k≠c):mO c l k=0:=by
 unfold mO
 rcases Nat.lt_or_ge k l.length with hk|hk
 ·rw[List.drop_eq_getElem_cons hk,List.takeWhile_cons]
  rw[Ja l k hk]at h;simp[h]
 ·rw[List.drop_eq_nil_of_le hk];rfl
theorem vM(c:Int)(l:Bytes)(k:Nat):mO c l k≤l.length-k:=by
 unfold mO;have:=(List.takeWhile_sublist (fun b:UInt8=>(cls b.toNat:Int)==c) (l:=l.drop k)).length_le
 rwa [List.length_drop]at this
structure Tok where
 kind:Nat
 text:Bytes
 deriving DecidableEq
inductive jT where
 |ok (t:Tok) (n:Nat)
 |err (at_ e:Nat)
 deriving DecidableEq
def lim(most:Nat)(t:Tok)(n:Nat):jT:=if most<t.text.length then .err 0 6 else .ok t n
def lH(r:Bytes):Nat:=
 if r[dI 2 r]?=some 46∧xP 2 r (dI 2 r+1)=true then dI 2 r+1+dI 2 (r.drop (dI 2 r+1))else dI 2 r
def number(r:Bytes):jT:=lim 20 ⟨2,r.take (lH r)⟩ (lH r)
def quo:Bytes→Bytes→Nat→jT
 |[],_,_=>.err 0 12
 |c::q,acc,i=>
  if c=34 then lim 200 ⟨3,acc⟩ (i+1)
  else if c<32∨126<c then .err i 3
  else if c=92 then
   match q with
   |[]=>.err i 3
   |d::q'=>if d=34∨d=92 then quo q' (acc++[d]) (i+2)else .err i 3
  else quo q (acc++[c]) (i+1)
def kF(b:UInt8):Bool:=[40,41,91,93,123,125,60,62,47,124,46].contains b
def ry(r:Bytes)(i:Nat):Bool:=match r[i]? with|some b=>kF b|none=>false
def name(r:Bytes):jT:=
 let n:=dI 3 (r.drop 1)
 if(r.drop 1).take n≠[102,101,110,99,101]then lim 16 ⟨4,(r.drop 1).take n⟩ (1+n)
 else if ry r (1+n)=true∧ry r (2+n)=true then .ok ⟨5,(r.drop (1+n)).take 2⟩ (3+n)
 else .err 0 3
def K9(q:Bytes):Bool:=match q with|d::_=>decide (49≤d∧d≤52)|[]=>false
def next(r:Bytes):jT:=
 match r with
 |[]=>.err 0 3
 |c::q=>
  if dG 2 c then number r
  else if dG 5 c then .ok ⟨7,[c]⟩ 1
  else if c=34 then quo q [] 1
  else if c=92∧q.head?=some 92 then .ok ⟨8,[92,92]⟩ 2
  else if c=92∧xP 3 q 0=true then name r
  else if c=35∧K9 q=true then .ok ⟨6,q.take 1⟩ 2
  else if dG 3 c∨dG 4 c then .ok ⟨1,[c]⟩ 1
  else .err 0 3
theorem aei(l acc:Bytes)(j i:Nat)(h:l.length≤j):quo (l.drop j) acc i=.err 0 12:=by rw[List.drop_eq_nil_of_le h];rfl
theorem BA(l acc:Bytes)(j i:Nat)(h:j<l.length):quo (l.drop j) acc i=
  if l[j]=34 then lim 200 ⟨3,acc⟩ (i+1)
  else if l[j]<32∨126<l[j]then .err i 3
  else if l[j]=92 then
   match l.drop (j+1)with
   |[]=>.err i 3
   |d::q'=>if d=34∨d=92 then quo q' (acc++[d]) (i+2)else .err i 3
  else quo (l.drop (j+1)) (acc++[l[j]]) (i+1):=by
 rw[List.drop_eq_getElem_cons h];rw[quo.eq_def]
theorem aej(l acc:Bytes)(j i:Nat)(h:j<l.length)(hc:l[j]=92)(h1:j+1<l.length):quo (l.drop j) acc i=
  if l[j+1]=34∨l[j+1]=92 then quo (l.drop (j+2)) (acc++[l[j+1]]) (i+2)else .err i 3:=by
 rw[BA l acc j i h,hc,if_neg (by decide),if_neg (by decide),if_pos rfl,List.drop_eq_getElem_cons h1]
theorem TN(l acc:Bytes)(j i:Nat)(h:j<l.length)(hc:l[j]=92)(h1:l.length≤j+1):quo (l.drop j) acc i=.err i 3:=by
 rw[BA l acc j i h,hc,if_neg (by decide),if_neg (by decide),if_pos rfl,List.drop_eq_nil_of_le h1]
theorem YF(l acc:Bytes)(j i:Nat)(h:j<l.length)(h1:l[j]≠34)(h2:¬(l[j]<32∨126<l[j]))(h3:l[j]≠92):quo (l.drop j) acc i=quo (l.drop (j+1)) (acc++[l[j]]) (i+1):=by
 rw[BA l acc j i h,if_neg h1,if_neg h2,if_neg h3]
structure aB where
 kind:Nat
 text:Bytes
 from_:Nat
 eF:Nat
 deriving DecidableEq
def skip(l:Bytes)(a:Nat):Nat:=a+mO 1 l a
def lI(l:Bytes):Nat→Nat→List aB×Option (Nat×Nat)
 |0,_=>([],none)
 |fuel+1,a=>
  if l.length≤skip l a then([],none)
  else match next (l.drop (skip l a))with
   |.err i e=>([],some (skip l a+i,e))
   |.ok t n=>(⟨t.kind,t.text,skip l a,skip l a+n⟩::(lI l fuel (skip l a+n)).1,(lI l fuel (skip l a+n)).2)
theorem Gh{most:Nat}{t t':Tok}{n n':Nat}(h:lim most t n=.ok t' n'):t'=t∧n'=n:=by
 unfold lim at h;split at h
 ·cases h
 ·injection h with h1 h2;exact⟨h1.symm,h2.symm⟩
theorem MJ:∀(q acc:Bytes) (i:Nat) (t:Tok) (n:Nat),quo q acc i=.ok t n→i<n∧n≤i+q.length
 |[],_,_,_,_,h=>by rw[quo.eq_def]at h;cases h
 |[c],acc,i,t,n,h=>by
  rw[quo.eq_def]at h;simp only at h;split at h
  ·have:=(Gh h).2;simp;omega
  ·split at h
   ·cases h
   ·split at h
    ·cases h
    ·rw[quo.eq_def]at h;cases h
 |c::d::q,acc,i,t,n,h=>by
  rw[quo.eq_def]at h;simp only at h;split at h
  ·have:=(Gh h).2;simp;omega
  ·split at h
   ·cases h
   ·split at h
    ·split at h
     ·have:=MJ q _ _ _ _ h;simp;omega
     ·cases h
    ·have:=MJ (d::q) _ _ _ _ h;simp at this⊢;omega
theorem Gi(k:Nat)(l:Bytes):dI k l≤l.length:=(List.takeWhile_sublist _).length_le
theorem YG(r:Bytes):lH r≤r.length:=by
 unfold lH;split
 ·rename_i h
  have h1:=Gi 2 (r.drop (dI 2 r+1));rw[List.length_drop]at h1;have h2:=h.1;have h3:dI 2 r<r.length:=(List.getElem?_eq_some_iff.1 h2).1;omega
 ·exact Gi 2 r
theorem EJ(r:Bytes)(t:Tok)(n:Nat)(h:next r=.ok t n):0<n∧n≤r.length:=by
 unfold next at h;split at h
 ·cases h
 ·rename_i c q
  split at h
  ·rename_i hc
   obtain⟨_,rfl⟩:=Gh h;refine⟨?_,YG _⟩;have:0<dI 2 (c::q):=by unfold dI;rw[List.takeWhile_cons,if_pos hc];simp
   unfold lH;split<;>omega
  ·split at h
   ·cases h;simp
   ·split at h
    ·have:=MJ _ _ _ _ _ h;simp;omega
    ·split at h
     ·rename_i hc
      cases h;cases q with
      |nil=>cases hc.2
      |cons=>simp
     ·split at h
      ·unfold name at h
       simp only at h;have hr:=Gi 3 ((c::q).drop 1);simp only[List.drop_succ_cons,List.drop_zero]at hr;split at h
       ·obtain⟨_,rfl⟩:=Gh h
        simp only[List.drop_succ_cons,List.drop_zero,List.length_cons];omega
       ·split at h
        ·rename_i hd
         injection h with _ h2
         subst h2;have hx:=hd.2;unfold ry at hx;split at hx
         ·rename_i b hb
          have:=(List.getElem?_eq_some_iff.1 hb).1;simp only[List.drop_succ_cons,List.drop_zero,List.length_cons]at*;omega
         ·cases hx
        ·cases h
      ·split at h
       ·rename_i hc
        cases h;cases q with
        |nil=>cases hc.2
        |cons=>simp
       ·split at h
        ·cases h;simp
        ·cases h
theorem aek(l:Bytes)(a:Nat)(h:a≤l.length):a≤skip l a∧skip l a≤l.length:=by
 have:=vM 1 l a;unfold skip;omega
theorem La(l:Bytes):∀(f g a:Nat),l.length<a+f→l.length<a+g→lI l f a=lI l g a
 |0,g,a,hf,hg=>by
  cases g with
  |zero=>rfl
  |succ g=>rw[lI,lI,if_pos (by unfold skip;omega)]
 |f+1,0,a,hf,hg=>by rw[lI,lI,if_pos (by unfold skip;omega)]
 |f+1,g+1,a,hf,hg=>by
  rw[lI,lI];split
  ·rfl
  ·rename_i hl
   cases hn:next (l.drop (skip l a))with
   |err i e=>rfl
   |ok t n=>
    have hp:=(EJ _ _ _ hn).1;have:skip l a+n=skip l a+n:=rfl;simp only
    rw[La l f g (skip l a+n) (by unfold skip;omega) (by unfold skip;omega)]
def jr(l:Bytes):List aB×Option (Nat×Nat):=lI l (l.length+1) 0
def lexFrom(l:Bytes)(a:Nat):List aB×Option (Nat×Nat):=lI l (l.length+1) a
theorem TP(l:Bytes)(a:Nat)(h:l.length≤skip l a):lexFrom l a=([],none):=by unfold lexFrom;rw[lI,if_pos h]
theorem TQ(l:Bytes)(a i e:Nat)(h:skip l a<l.length)(hn:next (l.drop (skip l a))=.err i e):lexFrom l a=([],some (skip l a+i,e)):=by
 unfold lexFrom;rw[lI,if_neg (by omega),hn]
theorem VW(l:Bytes)(a n:Nat)(t:Tok)(h:skip l a<l.length)(hn:next (l.drop (skip l a))=.ok t n):
  lexFrom l a=(⟨t.kind,t.text,skip l a,skip l a+n⟩::(lexFrom l (skip l a+n)).1,(lexFrom l (skip l a+n)).2):=by
 have hp:=(EJ _ _ _ hn).1;unfold lexFrom
 conv=>lhs;rw[lI,if_neg (by omega),hn]
 simp only
 rw[La l l.length (l.length+1) (skip l a+n) (by unfold skip;omega) (by omega)]
theorem Jb{most:Nat}{t:Tok}{n i e:Nat}(h:lim most t n=.err i e):e≠0:=by
 unfold lim at h;split at h
 ·cases h;decide
 ·cases h
theorem MK:∀(q acc:Bytes) (i a e:Nat),quo q acc i=.err a e→e≠0
 |[],_,_,_,_,h=>by rw[quo.eq_def]at h;cases h;decide
 |[c],acc,i,a,e,h=>by
  rw[quo.eq_def]at h;simp only at h;split at h
  ·exact Jb h
  ·split at h
   ·cases h;decide
   ·split at h
    ·cases h;decide
    ·rw[quo.eq_def]at h;cases h;decide
 |c::d::q,acc,i,a,e,h=>by
  rw[quo.eq_def]at h;simp only at h;split at h
  ·exact Jb h
  ·split at h
   ·cases h;decide
   ·split at h
    ·split at h
     ·exact MK q _ _ _ _ h
     ·cases h;decide
    ·exact MK (d::q) _ _ _ _ h
theorem abo(r:Bytes)(i e:Nat)(h:next r=.err i e):e≠0:=by
 unfold next at h;split at h
 ·cases h;decide
 ·split at h
  ·exact Jb h
  ·split at h
   ·cases h
   ·split at h
    ·exact MK _ _ _ _ _ h
    ·split at h
     ·cases h
     ·split at h
      ·unfold name at h
       simp only at h;split at h
       ·exact Jb h
       ·split at h
        ·cases h
        ·cases h;decide
      ·split at h
       ·cases h
       ·split at h
        ·cases h
        ·cases h;decide
theorem NI(l:Bytes):∀(f a p e:Nat),(lI l f a).2=some (p,e)→e≠0
 |0,_,_,_,h=>by cases h
 |f+1,a,p,e,h=>by
  rw[lI]at h;split at h
  ·cases h
  ·cases hn:next (l.drop (skip l a))with
   |err i er=>
    rw[hn]at h;simp only[Option.some.injEq,Prod.mk.injEq]at h;obtain⟨_,rfl⟩:=h;exact abo _ _ _ hn
   |ok t n=>
    rw[hn]at h;exact NI l f _ p e h
end Lx
namespace Tr
abbrev Bytes:=List UInt8
inductive Nd where
 |mk (kind:Int) (text:Bytes) (ah:Int) (kids:List Nd)
namespace Nd
def kind:Nd→Int|mk k _ _ _=>k
def text:Nd→Bytes|mk _ t _ _=>t
def ah:Nd→Int|mk _ _ c _=>c
def kids:Nd→List Nd|mk _ _ _ ks=>ks
end Nd
theorem Nd.eta(n:Nd):n=.mk n.kind n.text n.ah n.kids:=by cases n;rfl
mutual
def count:Nd→Nat
 |.mk _ _ _ ks=>1+az ks
def az:List Nd→Nat
 |[]=>0
 |n::ns=>count n+az ns
end
mutual
def depth:Nd→Nat
 |.mk _ _ _ ks=>aX ks+1
def aX:List Nd→Nat
 |[]=>0
 |n::ns=>max (depth n) (aX ns)
end
theorem bX(n:Nd):0<count n:=by cases n;rw[count];omega
theorem NJ(n:Nd):0<depth n:=by cases n;rw[depth];omega
theorem aN(n:Nd):count n=1+az n.kids:=by cases n;rw[count];rfl
theorem oN(n:Nd):depth n=aX n.kids+1:=by cases n;rw[depth];rfl
theorem uA(l:List Nd)(i:Nat)(h:i<l.length):az (l.take (i+1))=az (l.take i)+count l[i]:=by
 induction l generalizing i with
 |nil=>simp at h
 |cons x l ih=>
  cases i with
  |zero=>simp[az]
  |succ i=>
   simp only[List.take_succ_cons,az,List.getElem_cons_succ];rw[ih i (by simpa using h)];omega
theorem qy(l:List Nd)(i:Nat):az (l.take i)≤az l:=by
 induction l generalizing i with
 |nil=>simp[az]
 |cons x l ih=>
  cases i with
  |zero=>simp[az]
  |succ i=>simp only[List.take_succ_cons,az];have:=ih i;omega
theorem cB{l:List Nd}{n:Nd}(h:n∈l):count n≤az l:=by
 induction l with
 |nil=>cases h
 |cons x l ih=>
  rw[az]
  rcases List.mem_cons.1 h with rfl|h
  ·omega
  ·have:=ih h;omega
theorem jF(l:List Nd):l.length≤az l:=by
 induction l with
 |nil=>simp[az]
 |cons x l ih=>rw[az];have:=bX x;simp;omega
theorem Nd.ind{p:Nd→Prop}(h:∀n,(∀m∈n.kids,p m)→p n)(n:Nd):p n:=by
 have:∀k n,count n≤k→p n:=by
  intro k
  induction k with
  |zero=>intro n hn;have:=bX n;omega
  |succ k ih=>
   intro n hn;refine h n fun m hm=>ih m ?_
   have:=cB hm;have:=aN n;omega
 exact this _ n (Nat.le_refl _)
def letter(b:UInt8):Bool:=(decide (97≤b)&&decide (b≤122))||(decide (65≤b)&&decide (b≤90))
def digit(b:UInt8):Bool:=decide (48≤b)&&decide (b≤57)
def signs:Bytes:=[43,45,42,47,61,60,62,44,59,58,33,124,39,63,126,64]
def rz:Bytes:=[40,41,91,93,123,125,124,60,62,47,46]
def keywords:List Bytes:=[[102,114,97,99],[114,111,111,116],[109,97,116,114,105,120],[102,101,110,99,101]]
def eu:List Bytes:=[[104,97,116],[98,97,114],[118,101,99],[100,111,116],[116,105,108,100,101],[99,104,101,99,107]]
def character(b:UInt8):Bool:=letter b||signs.contains b
def symbol(s:Bytes):Bool:=
 match s with
 |[c]=>character c
 |s=>s.all letter&&decide (2≤s.length)&&decide (s.length≤16)&&!keywords.contains s&&!eu.contains s
def isNum(s:Bytes):Bool:=
 decide (s.length≤20)&&decide (s≠[])&&
 (s.all digit||match s.dropWhile (·≠46)with|_::b=>decide (s.takeWhile (·≠46)≠[])&&(s.takeWhile (·≠46)).all digit&&decide (b≠[])&&b.all digit|[]=>false)
def aU(s:Bytes):Bool:=s.all fun b=>decide (32≤b)&&decide (b≤126)
def fence(s:Bytes):Bool:=match s with|[a,b]=>rz.contains a&&rz.contains b|_=>false
def dR(k:Int)(s:Bytes):Bool:=
 if k=2 then symbol s else if k=3 then isNum s else if k=4 then decide (s.length≤200)&&aU s
 else if k=10 then eu.contains s else if k=11 then fence s else s.isEmpty
def bM(k c:Int)(n:Nat):Bool:=
 if k=12 then decide (1≤c)&&decide (c≤16)&&decide (1≤n)&&decide (n≤256)&&decide ((n:Int)%c=0)
 else if c≠0 then false
 else if k=1 then decide (n≤200)
 else if k=2∨k=3∨k=4 then decide (n=0)
 else if k=5∨k=6∨k=7∨k=8 then decide (n=2)
 else if k=9 then decide (n=3)
 else if k=10∨k=11 then decide (n=1)
 else false
mutual
def form:Nd→Bool
 |.mk k t c ks=>dR k t&&bM k c ks.length&&iV (k==1) ks
def iV:Bool→List Nd→Bool
 |_,[]=>true
 |r,n::ns=>((n.kind==1) !=r)&&form n&&iV r ns
end
def valid(n:Nd):Bool:=(n.kind==1)&&form n&&decide (count n≤1000)&&decide (depth n≤24)
mutual
def Gj:Nd→Nd→Bool
 |.mk k t c ks,.mk k' t' c' ks'=>(k==k')&&(t==t')&&(c==c')&&rY ks ks'
def rY:List Nd→List Nd→Bool
 |[],[]=>true
 |n::ns,m::ms=>Gj n m&&rY ns ms
 |_,_=>false
end
theorem Vf:∀(l m:List Nd),l.length≠m.length→rY l m=false
 |[],[],h=>absurd rfl h
 |x::l,y::m,h=>by rw[rY,Vf l m (by simpa using h),Bool.and_false]
 |[],_::_,_=>by simp[rY]
 |_::_,[],_=>by simp[rY]
theorem kG(n:Nd):form n=(dR n.kind n.text&&bM n.kind n.ah n.kids.length&&iV (n.kind==1) n.kids):=by
 cases n;rw[form];rfl
theorem Lb(r:Bool):∀(l:List Nd) (i:Nat) (h:i<l.length),iV r (l.take (i+1))=(iV r (l.take i)&&(((l[i].kind==1) !=r)&&form l[i]))
 |[],i,h=>by simp at h
 |x::l,0,h=>by simp[iV]
 |x::l,i+1,h=>by
  simp only[List.take_succ_cons,iV,List.getElem_cons_succ];rw[Lb r l i (by simpa using h)];simp only[Bool.and_assoc]
theorem P9(r:Bool):∀(l:List Nd) (i:Nat) (h:i<l.length),(((l[i].kind==1) !=r)&&form l[i])=false→iV r l=false
 |[],i,h,_=>by simp at h
 |x::l,0,h,hn=>by simp only[List.getElem_cons_zero]at hn;rw[iV,hn,Bool.false_and]
 |x::l,i+1,h,hn=>by
  simp only[List.getElem_cons_succ]at hn;rw[iV,P9 r l i (by simpa using h) hn,Bool.and_false]
theorem YH(n m:Nd):Gj n m=((n.kind==m.kind)&&(n.text==m.text)&&(n.ah==m.ah)&&rY n.kids m.kids):=by
 cases n;cases m;rw[Gj];rfl
theorem ael(n:Nd):∀m,Gj n m=true↔n=m:=by
 induction n using Nd.ind with
 |h n ih=>
  intro m
  have hL:∀(l l':List Nd),(∀x∈l,∀y,Gj x y=true↔x=y)→(rY l l'=true↔l=l'):=by
   intro l
   induction l with
   |nil=>
    intro l' _;cases l' with
    |nil=>simp[rY]
    |cons y l'=>simp[rY]
   |cons x l ih2=>
    intro l' h;cases l' with
    |nil=>simp[rY]
    |cons y l'=>
     rw[rY,Bool.and_eq_true,h x (by simp) y,ih2 l' (fun z hz=>h z (by simp[hz]))];simp
  rw[YH,Bool.and_eq_true,Bool.and_eq_true,Bool.and_eq_true,hL n.kids m.kids ih,beq_iff_eq,beq_iff_eq,beq_iff_eq,Nd.eta n,Nd.eta m];simp[Nd.kind,Nd.text,Nd.ah,Nd.kids,and_assoc]
end Tr
namespace Lx
def iH(b:UInt8):Bytes:=if b=34∨b=92 then [92,b]else [b]
def esc(l:Bytes):Bytes:=l.flatMap iH
def zO(l:Bytes):Bytes:=34::(esc l++[34])
def gB(k:Int)(t:Bytes):Bytes:=
 if k=3 then zO t else if k=4 then 92::t else if k=5 then [92,102,101,110,99,101]++t else if k=6 then 35::t else t
theorem aem(l:Bytes):(esc l).length≤2*l.length:=by
 induction l with
 |nil=>simp[esc]
 |cons b l ih=>
  have:(iH b).length≤2:=by unfold iH;split<;>simp
  simp[esc]at ih⊢;omega
theorem J5(l:Bytes)(b:UInt8):esc (l++[b])=esc l++iH b:=by simp[esc]
end Lx
namespace Lx
theorem VX(k:Int)(t:Bytes):t.length≤(gB k t).length:=by
 have he:∀l:Bytes,l.length≤(esc l).length:=fun l=>by
  induction l with
  |nil=>simp
  |cons b l ih=>
   have:1≤(iH b).length:=by unfold iH;split<;>simp
   simp[esc]at ih⊢;omega
 unfold gB;have:=he t
 repeat' split
 ·simp[zO];omega
 ·simp
 ·simp;omega
 ·simp
 ·exact Nat.le_refl _
theorem Lc{most:Nat}{t t':Tok}{n n':Nat}(h:lim most t n=.ok t' n'):t=t'∧n=n':=by
 obtain⟨h1,h2⟩:=Gh h;exact⟨h1.symm,h2.symm⟩
end Lx
namespace Lx
def kR(t:Tok):Prop:=
 (t.kind=1∧∃c,t.text=[c]∧(dG 3 c=true∨dG 4 c=true))∨
 (t.kind=2∧t.text.length≤20∧∃ds,ds≠[]∧ds.all (dG 2)=true∧(t.text=ds∨∃es,es≠[]∧es.all (dG 2)=true∧t.text=ds++46::es))∨
 (t.kind=3∧t.text.length≤200∧t.text.all (fun b=>decide (32≤b∧b≤126))=true)∨
 (t.kind=4∧t.text.length≤16∧t.text≠[]∧t.text.all (dG 3)=true∧t.text≠[102,101,110,99,101])∨
 (t.kind=5∧∃a b,t.text=[a,b]∧kF a=true∧kF b=true)∨
 (t.kind=6∧∃d,t.text=[d]∧49≤d∧d≤52)∨
 (t.kind=7∧∃c,t.text=[c]∧dG 5 c=true)∨
 (t.kind=8∧t.text=[92,92])
def spell(t:Tok):Bytes:=gB t.kind t.text
def join(a b:Tok):Bool:=(a.kind==2&&b.kind==2)||(a.kind==4&&b.kind==1&&(match b.text with|[]=>false|c::_=>dG 3 c))
def xu(k:Nat)(q:Bytes):Prop:=∀c,q.head?=some c→dG k c=false
def DW(t:Tok)(q:Bytes):Prop:=(t.kind=2→xu 2 q∧q.head?≠some 46)∧(t.kind=4→xu 3 q)
theorem vN(k:Nat)(x y:Bytes)(hx:x.all (dG k)=true)(hy:xu k y):dI k (x++y)=x.length:=by
 unfold dI
 induction x with
 |nil=>
  cases y with
  |nil=>rfl
  |cons c y=>rw[List.nil_append,List.takeWhile_cons,hy c rfl];rfl
 |cons c x ih=>
  simp only[List.all_cons,Bool.and_eq_true]at hx;rw[List.cons_append,List.takeWhile_cons,if_pos hx.1,List.length_cons,ih hx.2,List.length_cons]
theorem BB(k:Nat)(r:Bytes):∃y,r=r.take (dI k r)++y∧(r.take (dI k r)).all (dG k)=true∧xu k y∧y=r.drop (dI k r):=by
 unfold dI
 induction r with
 |nil=>exact⟨[],rfl,rfl,(fun c h=>nomatch h),rfl⟩
 |cons c r ih=>
  rw[List.takeWhile_cons];cases hc:dG k c with
  |true=>
   obtain⟨y,h1,h2,h3,h4⟩:=ih;refine⟨y,?_,?_,h3,?_⟩
   ·simp only[if_true,List.length_cons,List.take_succ_cons,List.cons_append];rw[←h1]
   ·simp only[if_true,List.length_cons,List.take_succ_cons,List.all_cons,hc,h2];rfl
   ·simpa using h4
  |false=>exact⟨c::r,rfl,rfl,fun d h=>by cases h;exact hc,rfl⟩
theorem VY(k:Nat)(x y:Bytes):xP k (x++y) x.length=(match y with|[]=>false|c::_=>dG k c):=by
 unfold xP;rw[List.getElem?_append_right (Nat.le_refl _),Nat.sub_self];cases y<;>rfl
theorem Qa(ds q:Bytes)(h:ds.all (dG 2)=true)(hq:xu 2 q)(h46:q.head?≠some 46):lH (ds++q)=ds.length:=by
 unfold lH;rw[vN 2 ds q h hq,if_neg];rintro⟨h1,_⟩;rw[List.getElem?_append_right (Nat.le_refl _),Nat.sub_self]at h1;exact h46 (by rw[←h1];cases q<;>rfl)
theorem Qb(ds es q:Bytes)(h:ds.all (dG 2)=true)(he:es.all (dG 2)=true)(hn:es≠[])(hq:xu 2 q):lH ((ds++46::es)++q)=(ds++46::es).length:=by
 have e1:(ds++46::es)++q=ds++(46::(es++q)):=by simp
 have hr:dI 2 (ds++(46::(es++q)))=ds.length:=vN 2 ds _ h (fun c hc=>by cases hc;rfl);unfold lH;rw[e1,hr,if_pos]
 ·have:(ds++(46::(es++q))).drop (ds.length+1)=es++q:=by
   simp[List.drop_append]
  rw[this,vN 2 es q he hq];simp;omega
 ·constructor
  ·rw[List.getElem?_append_right (Nat.le_refl _),Nat.sub_self];rfl
  ·cases es with
   |nil=>exact absurd rfl hn
   |cons e es=>
    have e2:ds++(46::(e::es++q))=(ds++[46])++(e::(es++q)):=by simp
    have:=VY 2 (ds++[46]) (e::(es++q));rw[e2,show ds.length+1=(ds++[46]).length by simp,this];simp only[List.all_cons,Bool.and_eq_true]at he;exact he.1
theorem YI(r:Bytes)(t:Tok)(n:Nat)(h0:xP 2 r 0=true)(h:number r=.ok t n):kR t:=by
 unfold number at h;obtain⟨h1,h2⟩:=Lc h
 have hl:t.text.length≤20:=by
  unfold lim at h;split at h
  ·cases h
  ·rw[←h1];simp only at*;omega
 subst h1 h2;refine .inr (.inl ⟨rfl,hl,?_⟩);simp only
 obtain⟨y,e1,e2,e3,e4⟩:=BB 2 r
 have hne:r.take (dI 2 r)≠[]:=by
  intro h;rw[h,List.nil_append]at e1;unfold xP at h0;cases r with
  |nil=>cases h0
  |cons c r=>
   subst e1;have:=e3 c rfl;simp only[List.getElem?_cons_zero]at h0;rw[h0]at this;cases this
 refine⟨_,hne,e2,?_⟩;unfold lH;split
 ·rename_i hc
  obtain⟨c1,c2⟩:=hc;obtain⟨y',f1,f2,f3,f4⟩:=BB 2 (r.drop (dI 2 r+1))
  right
  refine⟨_,?_,f2,?_⟩
  ·intro h
   rw[h,List.nil_append]at f1;unfold xP at c2;rw[←Nat.add_zero (dI 2 r+1),←List.getElem?_drop,f1]at c2;cases y' with
   |nil=>cases c2
   |cons c y'=>
    have:=f3 c rfl;simp only[List.getElem?_cons_zero]at c2;rw[c2]at this;cases this
  ·rw[show dI 2 r+1+dI 2 (r.drop (dI 2 r+1))=dI 2 r+(1+dI 2 (r.drop (dI 2 r+1))) by omega,List.take_add]
   congr 1
   have hlt:=(List.getElem?_eq_some_iff.1 c1);obtain⟨hlt,hv⟩:=hlt;rw[List.drop_eq_getElem_cons hlt,hv,Nat.add_comm 1,List.take_succ_cons]
 ·exact .inl rfl
theorem Qc:∀(q acc:Bytes) (i:Nat) (t:Tok) (n:Nat),quo q acc i=.ok t n→acc.all (fun b=>decide (32≤b∧b≤126))=true→t.kind=3∧t.text.length≤200∧t.text.all (fun b=>decide (32≤b∧b≤126))=true
 |[],acc,i,t,n,h,_=>by simp[quo]at h
 |c::q,acc,i,t,n,h,ha=>by
  unfold quo at h;split at h
  ·obtain⟨h1,h2⟩:=Lc h
   have hl:t.text.length≤200:=by
    unfold lim at h;split at h
    ·cases h
    ·rw[←h1];simp only at*;omega
   subst h1;exact⟨rfl,hl,ha⟩
  ·split at h
   ·cases h
   ·rename_i hc
    have hcp:32≤c∧c≤126:=by
     constructor
     ·exact UInt8.not_lt.1 (fun h=>hc (.inl h))
     ·exact UInt8.not_lt.1 (fun h=>hc (.inr h))
    split at h
    ·cases q with
     |nil=>simp at h
     |cons d q'=>
      simp only at h;split at h
      ·rename_i hd
       refine Qc q' _ _ t n h ?_;rw[List.all_append,ha]
       rcases hd with rfl|rfl<;>rfl
      ·cases h
    ·refine Qc q _ _ t n h ?_
     rw[List.all_append,ha];simp[hcp]
theorem VZ(r:Bytes)(t:Tok)(n:Nat)(h:next r=.ok t n):kR t:=by
 cases r with
 |nil=>simp[next]at h
 |cons c q=>
  rw[next]at h;split at h
  ·rename_i hc
   exact YI (c::q) t n (show xP 2 (c::q) 0=true from hc) h
  ·split at h
   ·rename_i hc
    cases h;exact .inr (.inr (.inr (.inr (.inr (.inr (.inl ⟨rfl,c,rfl,hc⟩))))))
   ·split at h
    ·exact .inr (.inr (.inl (Qc q [] 1 t n h rfl)))
    ·split at h
     ·cases h
      exact .inr (.inr (.inr (.inr (.inr (.inr (.inr ⟨rfl,rfl⟩))))))
     ·split at h
      ·rename_i hc
       obtain⟨hc,hl⟩:=hc;unfold name at h;simp only[List.drop_succ_cons,List.drop_zero]at h;obtain⟨y,e1,e2,e3,e4⟩:=BB 3 q;split at h
       ·rename_i hf
        have hlen:t.text.length≤16:=by
         obtain⟨h1,h2⟩:=Lc h;unfold lim at h;split at h
         ·cases h
         ·rw[←h1];simp only at*;omega
        obtain⟨h1,h2⟩:=Lc h;subst h1;refine .inr (.inr (.inr (.inl ⟨rfl,hlen,?_,e2,hf⟩)));intro h;simp only at h;rw[h,List.nil_append]at e1;subst e1;cases q with
        |nil=>cases hl
        |cons c' q=>
         have:=e3 c' rfl;unfold xP at hl;simp only[List.getElem?_cons_zero]at hl;rw[hl]at this;cases this
       ·split at h
        ·rename_i hd
         cases h;obtain⟨d1,d2⟩:=hd;refine .inr (.inr (.inr (.inr (.inl ⟨rfl,?_⟩))));simp only
         unfold ry at d1 d2;rw[show 1+dI 3 q=dI 3 q+1 by omega,List.getElem?_cons_succ]at d1;rw[show 2+dI 3 q=(dI 3 q+1)+1 by omega,List.getElem?_cons_succ]at d2;rw[show 1+dI 3 q=dI 3 q+1 by omega,List.drop_succ_cons];generalize dI 3 q=m at*;split at d1
         ·rename_i a ha
          split at d2
          ·rename_i b hb
           refine⟨a,b,?_,d1,d2⟩;obtain⟨ha1,ha2⟩:=List.getElem?_eq_some_iff.1 ha;obtain⟨hb1,hb2⟩:=List.getElem?_eq_some_iff.1 hb;rw[List.drop_eq_getElem_cons ha1,List.drop_eq_getElem_cons hb1,ha2,hb2];rfl
          ·cases d2
         ·cases d1
        ·cases h
      ·split at h
       ·rename_i hc
        obtain⟨h1,h2⟩:=hc;cases h;cases q with
        |nil=>cases h2
        |cons d q=>
         exact .inr (.inr (.inr (.inr (.inr (.inl ⟨rfl,d,rfl,by simpa[K9]using h2⟩)))))
       ·split at h
        ·rename_i hc
         cases h;exact .inl ⟨rfl,c,rfl,hc⟩
        ·cases h
end Lx
namespace Lx
theorem Qd{most:Nat}{t:Tok}{n:Nat}(h:t.text.length≤most):lim most t n=.ok t n:=by
 unfold lim;rw[if_neg (by omega)]
theorem xQ(p:UInt8→Prop)[DecidablePred p](h:∀n:Fin 256,p (UInt8.ofNat n.1))(c:UInt8):p c:=by
 have:=h ⟨c.toNat,c.toNat_lt⟩;simpa using this
theorem O3(c:UInt8):dG 2 c=true→dG 5 c=false∧dG 3 c=false∧dG 1 c=false∧dG 4 c=false∧c≠34∧c≠92∧c≠35∧c≠46:=by
 revert c;exact fun c=>xQ (fun c=>dG 2 c=true→dG 5 c=false∧dG 3 c=false∧dG 1 c=false∧dG 4 c=false∧c≠34∧c≠92∧c≠35∧c≠46) (by decide+kernel) c
theorem Dw(c:UInt8):(dG 3 c=true∨dG 4 c=true)→dG 2 c=false∧dG 5 c=false∧dG 1 c=false∧c≠34∧c≠92∧c≠35∧c≠46:=
 xQ (fun c=>(dG 3 c=true∨dG 4 c=true)→dG 2 c=false∧dG 5 c=false∧dG 1 c=false∧c≠34∧c≠92∧c≠35∧c≠46) (by decide+kernel) c
theorem Gl(c:UInt8):dG 5 c=true→dG 2 c=false∧dG 3 c=false∧dG 1 c=false∧c≠34∧c≠92∧c≠35∧c≠46:=
 xQ (fun c=>dG 5 c=true→dG 2 c=false∧dG 3 c=false∧dG 1 c=false∧c≠34∧c≠92∧c≠35∧c≠46) (by decide+kernel) c
theorem TS(c:UInt8):kF c=true→dG 3 c=false:=
 xQ (fun c=>kF c=true→dG 3 c=false) (by decide+kernel) c
theorem O4(c:UInt8):dG 1 c=true→dG 2 c=false∧dG 3 c=false∧c≠46:=
 xQ (fun c=>dG 1 c=true→dG 2 c=false∧dG 3 c=false∧c≠46) (by decide+kernel) c
theorem Jz:∀(x q acc:Bytes) (i:Nat),x.all (fun b=>decide (32≤b∧b≤126))=true→(acc++x).length≤200→quo (esc x++34::q) acc i=.ok ⟨3,acc++x⟩ (i+(esc x).length+1)
 |[],q,acc,i,_,hl=>by
  simp only[esc,List.flatMap_nil,List.nil_append,List.append_nil,List.length_nil,Nat.add_zero]at*;rw[quo.eq_def];simp only
  rw[if_pos trivial];exact Qd (t:=⟨3,acc⟩) hl
 |c::x,q,acc,i,hx,hl=>by
  simp only[List.all_cons,Bool.and_eq_true,decide_eq_true_eq]at hx;obtain⟨⟨h1,h2⟩,hx⟩:=hx;have hacc:acc++c::x=(acc++[c])++x:=by simp
  have ih:=fun j=>Jz x q (acc++[c]) j hx (by rw[←hacc];exact hl)
  have he:esc (c::x)=iH c++esc x:=rfl;rw[he,hacc];unfold iH
  by_cases hc:c=34∨c=92
  ·rw[if_pos hc]
   simp only[List.cons_append,List.nil_append];rw[quo.eq_def];simp only
   rw[if_neg (by decide),if_neg (by decide),if_pos trivial];rw[if_pos hc,ih];simp only[List.length_cons]
   congr 1;omega
  ·rw[if_neg hc]
   simp only[List.cons_append,List.nil_append];rw[quo.eq_def];simp only
   rw[if_neg (fun h=>hc (.inl h)),if_neg (fun h=>h.elim (UInt8.not_lt.2 h1) (UInt8.not_lt.2 h2)),if_neg (fun h=>hc (.inr h)),ih];simp only[List.length_cons]
   congr 1;omega
theorem YJ{t:Tok}{q:Bytes}(ds:Bytes)(h:ds.all (dG 2)=true)(ht:t.text=ds∨∃es,es≠[]∧es.all (dG 2)=true∧t.text=ds++46::es)(hq:xu 2 q)(h46:q.head?≠some 46):
  lH (t.text++q)=t.text.length:=by
 rcases ht with e|⟨es,e1,e2,e3⟩
 ·rw[e];exact Qa ds q h hq h46
 ·rw[e3];exact Qb ds es q h e2 e1 hq
theorem Qe(x q:Bytes):(x++q).take x.length=x:=by simp
theorem afe(t:Tok)(q:Bytes)(ht:kR t)(hq:DW t q):next (spell t++q)=.ok t (spell t).length:=by
 obtain⟨k,x⟩:=t
 rcases ht with⟨h1,c,h2,h3⟩|⟨h1,h2,ds,h3,h4,h5⟩|⟨h1,h2,h3⟩|⟨h1,h2,h3,h4,h5⟩|⟨h1,a,b,h2,h3,h4⟩|⟨h1,d,h2,h3,h4⟩|⟨h1,c,h2,h3⟩|⟨h1,h2⟩
 ·simp only at h1 h2;subst h1 h2
  obtain⟨n1,n2,n3,n4,n5,n6,n7⟩:=Dw c h3;show next ([c]++q)=_;rw[List.cons_append,next,if_neg (by rw[n1];decide),if_neg (by rw[n2];decide),if_neg n4,if_neg (fun h=>n5 h.1),if_neg (fun h=>n5 h.1),if_neg (fun h=>n6 h.1),if_pos h3];rfl
 ·simp only at h1 h2 h5;subst h1
  have hx:∃c y,x=c::y∧dG 2 c=true:=by
   cases ds with
   |nil=>exact absurd rfl h3
   |cons c ds=>
    simp only[List.all_cons,Bool.and_eq_true]at h4
    rcases h5 with rfl|⟨es,_,_,rfl⟩
    ·exact⟨c,ds,rfl,h4.1⟩
    ·exact⟨c,_,rfl,h4.1⟩
  obtain⟨q1,q2⟩:=hq.1 rfl;have hn:lH (x++q)=x.length:=YJ (t:=⟨2,x⟩) ds h4 h5 q1 q2;show next (x++q)=_;obtain⟨c,y,rfl,hc⟩:=hx;rw[List.cons_append,next,if_pos hc,←List.cons_append];unfold number;rw[hn,Qe,Qd (by exact h2)];rfl
 ·simp only at h1 h2 h3;subst h1
  show next (zO x++q)=_;unfold zO;rw[List.cons_append,next,if_neg (by decide),if_neg (by decide),if_pos rfl,List.append_assoc];have:=Jz x q [] 1 h3 h2;simp only[List.nil_append]at this;rw[List.singleton_append,this];show jT.ok _ _=jT.ok _ (zO x).length;unfold zO;simp only[List.length_cons,List.length_append,List.length_nil]
  congr 1;omega
 ·simp only at h1 h2 h3 h4 h5;subst h1
  have hr:dI 3 (x++q)=x.length:=vN 3 x q h4 (hq.2 rfl)
  have hh:xP 3 (x++q) 0=true:=by
   cases x with
   |nil=>exact absurd rfl h3
   |cons c y=>
    simp only[List.all_cons,Bool.and_eq_true]at h4;exact h4.1
  have h92:(x++q).head?≠some 92:=by
   cases x with
   |nil=>exact absurd rfl h3
   |cons c y=>
    simp only[List.all_cons,Bool.and_eq_true]at h4;intro h;have:c=92:=by simpa using h
    exact(Dw c (.inl h4.1)).2.2.2.2.1 this
  show next ((92::x)++q)=_;rw[List.cons_append,next,if_neg (by decide),if_neg (by decide),if_neg (by decide),if_neg (fun h=>h92 h.2),if_pos ⟨rfl,hh⟩];unfold name;simp only[List.drop_succ_cons,List.drop_zero];rw[hr,Qe,if_pos h5,Qd (by exact h2)];show jT.ok _ _=jT.ok _ (92::x).length;rw[List.length_cons,Nat.add_comm]
 ·simp only at h1 h2;subst h1 h2
  have hr:dI 3 ([102,101,110,99,101]++(a::b::q))=5:=vN 3 [102,101,110,99,101] _ (by decide) (fun c hc=>by cases hc;exact TS a h3);show next (92::([102,101,110,99,101]++(a::b::q)))=_;rw[next,if_neg (by decide),if_neg (by decide),if_neg (by decide),if_neg (fun h=>absurd h.2 (by simp)),if_pos ⟨rfl,rfl⟩];unfold name;simp only[List.drop_succ_cons,List.drop_zero];rw[hr,if_neg (by simp),if_pos]
  ·rfl
  ·exact⟨h3,h4⟩
 ·simp only at h1 h2;subst h1 h2
  show next (35::d::q)=_;rw[next,if_neg (by decide),if_neg (by decide),if_neg (by decide),if_neg (fun h=>absurd h.1 (by decide)),if_neg (fun h=>absurd h.1 (by decide)),if_pos ⟨rfl,by simp[K9,h3,h4]⟩];rfl
 ·simp only at h1 h2;subst h1 h2
  obtain⟨n1,_⟩:=Gl c h3;show next (c::q)=_;rw[next,if_neg (by rw[n1];decide),if_pos h3];rfl
 ·simp only at h1 h2;subst h1 h2
  show next (92::92::q)=_;rw[next,if_neg (by decide),if_neg (by decide),if_neg (by decide),if_pos ⟨rfl,rfl⟩];rfl
theorem EK(t:Tok)(ht:kR t):∃c y,spell t=c::y∧dG 1 c=false∧c≠46∧(dG 2 c=true→t.kind=2)∧(dG 3 c=true→t.kind=1∧∃z,t.text=c::z)∧(t.kind=2→dG 2 c=true):=by
 obtain⟨k,x⟩:=t
 rcases ht with⟨h1,c,h2,h3⟩|⟨h1,h2,ds,h3,h4,h5⟩|⟨h1,h2,h3⟩|⟨h1,h2,h3,h4,h5⟩|⟨h1,a,b,h2,h3,h4⟩|⟨h1,d,h2,h3,h4⟩|⟨h1,c,h2,h3⟩|⟨h1,h2⟩
 ·simp only at h1 h2;subst h1 h2
  obtain⟨n1,n2,n3,n4,n5,n6,n7⟩:=Dw c h3;exact⟨c,[],rfl,n3,n7,fun h=>(by rw[n1]at h;cases h),fun h=>⟨rfl,[],rfl⟩,(fun h=>by cases h)⟩
 ·simp only at h1 h2 h5;subst h1
  have hx:∃c y,x=c::y∧dG 2 c=true:=by
   cases ds with
   |nil=>exact absurd rfl h3
   |cons c ds=>
    simp only[List.all_cons,Bool.and_eq_true]at h4
    rcases h5 with rfl|⟨es,_,_,rfl⟩
    ·exact⟨c,ds,rfl,h4.1⟩
    ·exact⟨c,_,rfl,h4.1⟩
  obtain⟨c,y,rfl,hc⟩:=hx;obtain⟨n1,n2,n3,n4,n5,n6,n7,n8⟩:=O3 c hc;exact⟨c,y,rfl,n3,n8,fun _=>rfl,fun h=>(by rw[n2]at h;cases h),fun _=>hc⟩
 ·simp only at h1;subst h1
  exact⟨34,_,rfl,rfl,by decide,(fun h=>by cases h),(fun h=>by cases h),(fun h=>by cases h)⟩
 ·simp only at h1;subst h1
  exact⟨92,_,rfl,rfl,by decide,(fun h=>by cases h),(fun h=>by cases h),(fun h=>by cases h)⟩
 ·simp only at h1;subst h1
  exact⟨92,_,rfl,rfl,by decide,(fun h=>by cases h),(fun h=>by cases h),(fun h=>by cases h)⟩
 ·simp only at h1;subst h1
  exact⟨35,_,rfl,rfl,by decide,(fun h=>by cases h),(fun h=>by cases h),(fun h=>by cases h)⟩
 ·simp only at h1 h2;subst h1 h2
  obtain⟨n1,n2,n3,n4,n5,n6,n7⟩:=Gl c h3;exact⟨c,[],rfl,n3,n7,fun h=>(by rw[n1]at h;cases h),fun h=>(by rw[n2]at h;cases h),(fun h=>by cases h)⟩
 ·simp only at h1 h2;subst h1 h2
  exact⟨92,_,rfl,rfl,by decide,(fun h=>by cases h),(fun h=>by cases h),(fun h=>by cases h)⟩
theorem TT(a b:Tok)(hb:kR b)(hj:join a b=false)(q:Bytes):DW a (spell b++q):=by
 obtain⟨c,y,e,n1,n2,n3,n4,n5⟩:=EK b hb;rw[e,List.cons_append];unfold join at hj;simp only[Bool.or_eq_false_iff,Bool.and_eq_false_iff]at hj;constructor
 ·intro hk
  refine⟨fun d hd=>?_,fun h=>n2 (by simpa using h)⟩;cases hd;cases h2:dG 2 c with
  |false=>rfl
  |true=>
   rcases hj.1 with h|h
   ·rw[hk]at h;cases h
   ·rw[n3 h2]at h;cases h
 ·intro hk d hd
  cases hd;cases h3:dG 3 c with
  |false=>rfl
  |true=>
   obtain⟨m1,z,m2⟩:=n4 h3
   rcases hj.2 with(h|h)|h
   ·rw[hk]at h;cases h
   ·rw[m1]at h;cases h
   ·rw[m2]at h;simp only at h;rw[h3]at h;cases h
theorem O5(a:Tok)(c:UInt8)(q:Bytes)(hc:dG 1 c=true):DW a (c::q):=by
 obtain⟨n1,n2,n3⟩:=O4 c hc;exact⟨fun _=>⟨fun d hd=>by cases hd;exact n1,fun h=>n3 (by simpa using h)⟩,fun _ d hd=>by cases hd;exact n2⟩
theorem TU(a:Tok):DW a []:=⟨fun _=>⟨(fun c h=>nomatch h),by simp⟩,fun _=>(fun c h=>nomatch h)⟩
end Lx
namespace Lx
def flat:List (Bytes×Tok)→Bytes
 |[]=>[]
 |(s,t)::l=>s++(spell t++flat l)
def placed:Nat→List (Bytes×Tok)→List aB
 |_,[]=>[]
 |a,(s,t)::l=>⟨t.kind,t.text,a+s.length,a+s.length+(spell t).length⟩::placed (a+s.length+(spell t).length) l
def DX:Option Tok→List (Bytes×Tok)→Prop
 |_,[]=>True
 |o,(s,t)::l=>s.all (dG 1)=true∧kR t∧(s=[]→∀a,o=some a→join a t=false)∧DX (some t) l
theorem abp(l:Bytes)(k:Nat):mO 1 l k=dI 1 (l.drop k):=by
 unfold mO dI
 have hp:(fun b:UInt8=>(cls b.toNat:Int)==1)=dG 1:=by
  funext b
  unfold dG;rw[Bool.eq_iff_iff,beq_iff_eq,beq_iff_eq];omega
 rw[hp]
theorem NK(t:Tok)(ht:kR t):0<(spell t).length:=by
 obtain⟨c,y,e,_⟩:=EK t ht;rw[e];simp
theorem Qf(t:Tok):∀(W:List (Bytes×Tok)),DX (some t) W→DW t (flat W)
 |[],_=>TU t
 |(s,b)::l,⟨h1,h2,h3,_⟩=>by
  cases s with
  |nil=>exact TT t b h2 (h3 rfl t rfl) _
  |cons c s=>
   simp only[List.all_cons,Bool.and_eq_true]at h1;exact O5 t c _ h1.1
theorem Ld(l:Bytes):∀(W:List (Bytes×Tok)) (o:Option Tok) (p:Bytes) (f:Nat),l=p++flat W→W.length<f→DX o W→lI l f p.length=(placed p.length W,none)
 |[],o,p,f,hl,hf,_=>by
  cases f with
  |zero=>cases hf
  |succ f=>
   rw[lI,if_pos]
   ·rfl
   ·rw[hl];unfold skip flat;simp
 |(s,t)::W,o,p,f,hl,hf,⟨h1,h2,h3,h4⟩=>by
  cases f with
  |zero=>cases hf
  |succ f=>
   have hd:l.drop p.length=s++(spell t++flat W):=by rw[hl];simp[flat]
   have hsk:skip l p.length=p.length+s.length:=by
    unfold skip;rw[abp,hd,vN 1 s _ h1];obtain⟨c,y,e,n1,_⟩:=EK t h2;rw[e];intro d hd';cases hd';exact n1
   have hl2:l=(p++s)++(spell t++flat W):=by rw[hl];simp[flat]
   have hl3:l=(p++s++spell t)++flat W:=by rw[hl];simp[flat]
   have hsp:=NK t h2
   have hnx:next (l.drop (p.length+s.length))=.ok t (spell t).length:=by
    have:l.drop (p.length+s.length)=spell t++flat W:=by
     rw[hl2,←List.length_append,List.drop_left]
    rw[this];exact afe t _ h2 (Qf t W h4)
   have ih:=Ld l W (some t) (p++s++spell t) f hl3 (by simpa using hf) h4;rw[lI,hsk,if_neg]
   ·rw[hnx]
    simp only
    have e3:(p++s++spell t).length=p.length+s.length+(spell t).length:=by simp[Nat.add_assoc]
    rw[e3]at ih;rw[ih];rfl
   ·rw[hl2];simp;omega
theorem Qg:∀(W:List (Bytes×Tok)) (o:Option Tok),DX o W→W.length≤(flat W).length
 |[],_,_=>Nat.le_refl _
 |(s,t)::W,o,⟨_,h2,_,h4⟩=>by
  have:=Qg W (some t) h4;have:=NK t h2;simp[flat];omega
theorem TV(W:List (Bytes×Tok))(h:DX none W):jr (flat W)=(placed 0 W,none):=
 Ld (flat W) W none [] _ rfl (by have:=Qg W none h;omega) h
def tok(t:aB):Tok:=⟨t.kind,t.text⟩
theorem Dx:∀(W:List (Bytes×Tok)) (a:Nat),(placed a W).map tok=W.map (·.2)
 |[],_=>rfl
 |(s,t)::W,a=>by simp only[placed,List.map_cons,Dx W];rfl
theorem Qh(l:Bytes):∀(f a:Nat),∀t∈(lI l f a).1,kR (tok t)
 |0,a,t,ht=>by simp[lI]at ht
 |f+1,a,t,ht=>by
  rw[lI]at ht;split at ht
  ·cases ht
  ·cases hn:next (l.drop (skip l a))with
   |err i e=>rw[hn]at ht;cases ht
   |ok t' n=>
    rw[hn]at ht
    rcases List.mem_cons.1 ht with rfl|h
    ·exact VZ _ _ _ hn
    ·exact Qh l f _ t h
end Lx
namespace Tr
open Lx (Tok)
def aI(b:UInt8):Tok:=⟨7,[b]⟩
def name(s:Bytes):Tok:=⟨4,s⟩
def oO:Bytes:=[102,114,97,99]
def mU:Bytes:=[114,111,111,116]
def bY:Bytes:=[109,97,116,114,105,120]
def leaf(n:Nd):Bool:=(n.kind==2)||(n.kind==3)||(n.kind==4)
def gY(n:Nd):Bool:=(n.kind==7)||(n.kind==8)||(n.kind==9)
mutual
def bT:Nd→List Tok
 |.mk k t c ks=>
  if k=2 then [if t.length=1 then⟨1,t⟩else⟨4,t⟩]
  else if k=3 then [⟨2,t⟩]
  else if k=4 then [⟨3,t⟩]
  else match ks with
   |[a]=>
    if k=10 then name t::dD a
    else if k=11 then(if t=[40,41]∨t=[91,93]then aI (t.headD 0)::(bC a.kids++[aI (t.getLastD 0)])else⟨5,t⟩::dD a)
    else if k=12 then name bY::aI 123::(bF c 0 [a]++[aI 125])
    else []
   |[a,b]=>
    if k=5 then name oO::(dD a++dD b)
    else if k=6 then name mU::((if a.kids=[]then []else aI 91::(bC a.kids++[aI 93]))++dD b)
    else if k=7 then gG a++aI 95::dD b
    else if k=8 then gG a++aI 94::dD b
    else if k=12 then name bY::aI 123::(bF c 0 [a,b]++[aI 125])
    else []
   |[a,b,d]=>
    if k=9 then gG a++aI 95::(dD b++aI 94::dD d)
    else if k=12 then name bY::aI 123::(bF c 0 [a,b,d]++[aI 125])
    else []
   |ks=>if k=12 then name bY::aI 123::(bF c 0 ks++[aI 125])else []
 termination_by n=>2*count n
 decreasing_by all_goals (simp only[aN,az,Nd.kids];omega)
def dD:Nd→List Tok
 |.mk _ _ _ ks=>match ks with
  |[x]=>if leaf x then bT x else aI 123::(bC [x]++[aI 125])
  |ks=>aI 123::(bC ks++[aI 125])
 termination_by n=>2*count n+1
 decreasing_by all_goals (simp only[aN,az,Nd.kids];omega)
def gG:Nd→List Tok
 |.mk _ _ _ ks=>match ks with
  |[x]=>if gY x then aI 123::(bC [x]++[aI 125])else bT x
  |ks=>aI 123::(bC ks++[aI 125])
 termination_by n=>2*count n+1
 decreasing_by all_goals (simp only[aN,az,Nd.kids];omega)
def bC:List Nd→List Tok
 |[]=>[]
 |n::ns=>bT n++bC ns
 termination_by ns=>2*az ns+1
 decreasing_by all_goals (simp only[aN,az,Nd.kids];omega)
def bF(c:Int):Nat→List Nd→List Tok
 |_,[]=>[]
 |i,n::ns=>(if i=0 then []else if(i:Int)%c=0 then [⟨8,[92,92]⟩]else [aI 38])++(bC n.kids++bF c (i+1) ns)
 termination_by _ ns=>2*az ns+1
 decreasing_by all_goals (simp only[aN,az,Nd.kids];omega)
end
end Tr
end Go.Proofs.YtcgbccfpcgaikaaGreatDoor
