/- Part 2 of 46 of a proof. No condition. -/
import Derived.Test.YtcgbccfpcgaikaaGreatDoorYm1
set_option maxRecDepth 100000
namespace Go.Proofs.YtcgbccfpcgaikaaGreatDoor
namespace Tr
open Lx (Tok)
def row(ks:List Nd):Nd:=.mk 1 [] 0 ks
def expect(t:Tok):List Tok→Option (List Tok)
 |x::r=>if x=t then some r else none
 |[]=>none
def pF(x:Tok):Bool:=(x.kind==1)||(x.kind==2)||(x.kind==3)||(x.kind==4)||(x.kind==5)||(x.kind==7&&(x.text==[40]||x.text==[91]||x.text==[123]))
def starts:List Tok→Bool
 |x::_=>pF x
 |[]=>false
def ends(c:Int)(n:Nat):List Bool:=(List.range n).map fun(i:Nat)=>decide (((i:Int)+1)%c=0)
def Gm(t:Bytes):Bool:=!(t.length==1)&&!(t==oO)&&!(t==mU)&&!(t==bY)&&!(eu.contains t)
def pE:List Tok→Bool
 |x::_=>decide (x=aI 123)
 |[]=>false
def rA:List (Nd×Bool)→Int
 |[]=>0
 |(_,b)::l=>if b then 1 else 1+rA l
mutual
def pArg:Nat→List Tok→Option (Nd×List Tok)
 |f+1,x::r=>
  if x.kind=1∨(x.kind=4∧Gm x.text=true)then some (row [.mk 2 x.text 0 []],r)
  else if x.kind=2 then some (row [.mk 3 x.text 0 []],r)
  else if x.kind=3 then some (row [.mk 4 x.text 0 []],r)
  else if x=aI 123 then(cZ f r).bind fun p=>(expect (aI 125) p.2).map fun r'=>(row p.1,r')
  else none
 |_,_=>none
def jX:Nat→List Tok→Option (List Nd×List Tok)
 |f+1,x::r=>
  if x.kind=1 then some ([.mk 2 x.text 0 []],r)
  else if x.kind=2 then some ([.mk 3 x.text 0 []],r)
  else if x.kind=3 then some ([.mk 4 x.text 0 []],r)
  else if x.kind=5 then(pArg f r).map fun p=>([.mk 11 x.text 0 [p.1]],p.2)
  else if x.kind=4 then
   if x.text=oO then(pArg f r).bind fun p=>(pArg f p.2).map fun q=>([.mk 5 [] 0 [p.1,q.1]],q.2)
   else if x.text=mU then
    match expect (aI 91) r with
    |some r1=>(cZ f r1).bind fun p=>(expect (aI 93) p.2).bind fun r2=>(pArg f r2).map fun q=>([.mk 6 [] 0 [row p.1,q.1]],q.2)
    |none=>(pArg f r).map fun q=>([.mk 6 [] 0 [row [],q.1]],q.2)
   else if x.text=bY then(expect (aI 123) r).bind fun r1=>(di f r1).bind fun p=>(expect (aI 125) p.2).bind fun r2=>if p.1.map (·.2)=ends (rA p.1) p.1.length then some ([.mk 12 [] (rA p.1) (p.1.map (·.1))],r2)else none
   else if eu.contains x.text then(pArg f r).map fun p=>([.mk 10 x.text 0 [p.1]],p.2)
   else if x.text.length=1 then none else some ([.mk 2 x.text 0 []],r)
  else if x=aI 40 then(cZ f r).bind fun p=>(expect (aI 41) p.2).map fun r'=>([.mk 11 [40,41] 0 [row p.1]],r')
  else if x=aI 91 then(cZ f r).bind fun p=>(expect (aI 93) p.2).map fun r'=>([.mk 11 [91,93] 0 [row p.1]],r')
  else if x=aI 123 then(cZ f r).bind fun p=>(expect (aI 125) p.2).map fun r'=>(p.1,r')
  else none
 |_,_=>none
def eP:Nat→List Tok→Option (Nd×List Tok)
 |f+1,ts=>(jX f ts).bind fun p=>
  match expect (aI 95) p.2 with
  |some r1=>(pArg f r1).bind fun q=>
   match expect (aI 94) q.2 with
   |some r2=>(pArg f r2).map fun s=>(.mk 9 [] 0 [row p.1,q.1,s.1],s.2)
   |none=>some (.mk 7 [] 0 [row p.1,q.1],q.2)
  |none=>
   match expect (aI 94) p.2 with
   |some r1=>(pArg f r1).map fun q=>(.mk 8 [] 0 [row p.1,q.1],q.2)
   |none=>match p.1 with
    |[u]=>if pE ts then none else some (u,p.2)
    |_=>none
 |0,_=>none
def cZ:Nat→List Tok→Option (List Nd×List Tok)
 |f+1,ts=>if starts ts then(eP f ts).bind fun p=>(cZ f p.2).map fun q=>(p.1::q.1,q.2)else some ([],ts)
 |0,_=>none
def di:Nat→List Tok→Option (List (Nd×Bool)×List Tok)
 |f+1,ts=>(cZ f ts).bind fun p=>
  match expect (aI 38) p.2 with
  |some r=>(di f r).map fun q=>((row p.1,false)::q.1,q.2)
  |none=>
   match expect ⟨8,[92,92]⟩ p.2 with
   |some r=>(di f r).map fun q=>((row p.1,true)::q.1,q.2)
   |none=>some ([(row p.1,true)],p.2)
 |0,_=>none
end
def yZ(r:List Tok):Prop:=expect (aI 95) r=none∧expect (aI 94) r=none
def stop(r:List Tok):Prop:=starts r=false∧yZ r
theorem jC(t:Tok)(r:List Tok):expect t (t::r)=some r:=by simp[expect]
theorem jP(t x:Tok)(r:List Tok)(h:x≠t):expect t (x::r)=none:=by simp[expect,h]
def Ev(p:Nat→Prop):Prop:=∃F,∀f,F≤f→p f
theorem Ev.of{p:Nat→Prop}(h:∀f,p f):Ev p:=⟨0,fun f _=>h f⟩
theorem Ev.and{p q:Nat→Prop}(h:Ev p)(k:Ev q):Ev fun f=>p f∧q f:=by
 obtain⟨F,h⟩:=h;obtain⟨G,k⟩:=k;exact⟨max F G,fun f hf=>⟨h f (by omega),k f (by omega)⟩⟩
theorem Ev.mono{p q:Nat→Prop}(h:Ev p)(k:∀f,p f→q f):Ev q:=by
 obtain⟨F,h⟩:=h;exact⟨F,fun f hf=>k f (h f hf)⟩
theorem Ev.succ{p:Nat→Prop}(h:Ev fun f=>p (f+1)):Ev p:=by
 obtain⟨F,h⟩:=h;refine⟨F+1,fun f hf=>?_⟩;obtain⟨g,rfl⟩:∃g,f=g+1:=⟨f-1,by omega⟩;exact h g (by omega)
theorem wF(a:Nd)(h1:a.kind=1)(h2:form a=true):a=row a.kids:=by
 rw[kG,Bool.and_eq_true,Bool.and_eq_true]at h2;obtain⟨⟨h3,h4⟩,_⟩:=h2;rw[h1]at h3 h4
 have h5:a.text=[]:=by
  unfold dR at h3;simpa using h3
 have h6:a.ah=0:=by
  unfold bM at h4;rw[if_neg (by decide)]at h4;split at h4
  ·cases h4
  ·rename_i hc;simpa using hc
 have:=Nd.eta a;rw[h1,h5,h6]at this;exact this
end Tr
namespace Tr
open Lx (Tok)
def fE(a:Nd):Prop:=a.kind=1∧form a=true
inductive View:Nd→Prop
 |sym (t:Bytes) (h:symbol t=true):View (.mk 2 t 0 [])
 |num (t:Bytes) (h:isNum t=true):View (.mk 3 t 0 [])
 |text (t:Bytes) (h:(decide (t.length≤200)&&aU t)=true):View (.mk 4 t 0 [])
 |Gn (a b:Nd) (ha:fE a) (hb:fE b):View (.mk 5 [] 0 [a,b])
 |root (a b:Nd) (ha:fE a) (hb:fE b):View (.mk 6 [] 0 [a,b])
 |sub (a b:Nd) (ha:fE a) (hb:fE b):View (.mk 7 [] 0 [a,b])
 |sup (a b:Nd) (ha:fE a) (hb:fE b):View (.mk 8 [] 0 [a,b])
 |both (a b d:Nd) (ha:fE a) (hb:fE b) (hd:fE d):View (.mk 9 [] 0 [a,b,d])
 |zP (t:Bytes) (a:Nd) (h:eu.contains t=true) (ha:fE a):View (.mk 10 t 0 [a])
 |fence (t:Bytes) (a:Nd) (h:Tr.fence t=true) (ha:fE a):View (.mk 11 t 0 [a])
 |matrix (c:Int) (ks:List Nd) (hc:1≤c) (hn:1≤ks.length) (hm:(ks.length:Int)%c=0) (h:∀k∈ks,fE k):View (.mk 12 [] c ks)
theorem Bp(l:List Nd)(h:iV false l=true):∀x∈l,fE x:=by
 induction l with
 |nil=>intro x hx;cases hx
 |cons y l ih=>
  rw[iV,Bool.and_eq_true,Bool.and_eq_true]at h;obtain⟨⟨h1,h2⟩,h3⟩:=h;intro x hx
  rcases List.mem_cons.1 hx with rfl|hx
  ·exact⟨by simpa using h1,h2⟩
  ·exact ih h3 x hx
theorem abq(l:List Nd)(h:iV true l=true):∀x∈l,x.kind≠1∧form x=true:=by
 induction l with
 |nil=>intro x hx;cases hx
 |cons y l ih=>
  rw[iV,Bool.and_eq_true,Bool.and_eq_true]at h;obtain⟨⟨h1,h2⟩,h3⟩:=h;intro x hx
  rcases List.mem_cons.1 hx with rfl|hx
  ·exact⟨by simpa using h1,h2⟩
  ·exact ih h3 x hx
theorem fE.items{a:Nd}(h:fE a):∀x∈a.kids,x.kind≠1∧form x=true:=by
 obtain⟨h1,h2⟩:=h;rw[kG,h1,Bool.and_eq_true]at h2;exact abq _ h2.2
theorem aen(n:Nd)(hf:form n=true)(hk:n.kind≠1):View n:=by
 obtain⟨k,t,c,ks⟩:=n;rw[form,Bool.and_eq_true,Bool.and_eq_true]at hf;obtain⟨⟨h1,h2⟩,h3⟩:=hf;have hk1:(k==1)=false:=by rw[beq_eq_false_iff_ne];exact hk
 rw[hk1]at h3;have hrows:=Bp ks h3;unfold bM at h2;unfold dR at h1
 by_cases e12:k=12
 ·subst e12
  simp at h1 h2
  subst h1;obtain⟨⟨⟨⟨h4,h5⟩,h6⟩,h7⟩,h8⟩:=h2;exact .matrix c ks h4 h6 (by omega) hrows
 ·rw[if_neg e12]at h2
  by_cases hc:c=0
  ·subst hc
   simp only[ne_eq,not_true_eq_false,if_false]at h2;have hk':k≠1:=hk;rw[if_neg hk']at h2
   by_cases e2:k=2
   ·subst e2
    simp at h1 h2
    subst h2;exact .sym t h1
   ·by_cases e3:k=3
    ·subst e3
     simp at h1 h2
     subst h2;exact .num t h1
    ·by_cases e4:k=4
     ·subst e4
      simp at h2
      subst h2;rw[if_neg (by decide),if_neg (by decide),if_pos rfl]at h1;exact .text t h1
     ·rw[if_neg (by omega)]at h2
      rw[if_neg e2,if_neg e3,if_neg e4]at h1
      by_cases e10:k=10
      ·subst e10
       simp only[if_true]at h1;rw[if_neg (by decide),if_neg (by decide),if_pos (by decide)]at h2
       match ks,h2,hrows with
       |[a],_,hr=>exact .zP t a h1 (hr a (by simp))
      ·by_cases e11:k=11
       ·subst e11
        rw[if_neg (by decide),if_pos rfl]at h1;rw[if_neg (by decide),if_neg (by decide),if_pos (by decide)]at h2
        match ks,h2,hrows with
        |[a],_,hr=>exact .fence t a h1 (hr a (by simp))
       ·rw[if_neg e10,if_neg e11]at h1
        have ht:t=[]:=by simpa using h1
        subst ht
        by_cases e9:k=9
        ·subst e9
         rw[if_neg (by decide),if_pos rfl]at h2
         match ks,h2,hrows with
         |[a,b,d],_,hr=>exact .both a b d (hr a (by simp)) (hr b (by simp)) (hr d (by simp))
        ·by_cases e58:k=5∨k=6∨k=7∨k=8
         ·rw[if_pos e58]at h2
          match ks,h2,hrows with
          |[a,b],_,hr=>
           have ha:=hr a (by simp);have hb:=hr b (by simp)
           rcases e58 with rfl|rfl|rfl|rfl
           ·exact .Gn a b ha hb
           ·exact .root a b ha hb
           ·exact .sub a b ha hb
           ·exact .sup a b ha hb
         ·rw[if_neg e58,if_neg e9,if_neg (by omega)]at h2
          cases h2
  ·rw[if_pos hc]at h2;cases h2
end Tr
namespace Tr
open Lx (Tok)
theorem rZ(t:Bytes):bT (.mk 2 t 0 [])=[if t.length=1 then⟨1,t⟩else⟨4,t⟩]:=by rw[bT]<;>first|rfl|(intros;simp_all)
theorem r9(t:Bytes):bT (.mk 3 t 0 [])=[⟨2,t⟩]:=by rw[bT]<;>first|rfl|(intros;simp_all)
theorem qA(t:Bytes):bT (.mk 4 t 0 [])=[⟨3,t⟩]:=by rw[bT]<;>first|rfl|(intros;simp_all)
theorem vO(a b:Nd):bT (.mk 5 [] 0 [a,b])=name oO::(dD a++dD b):=by rw[bT]<;>first|rfl|(intros;simp_all)
theorem vP(a b:Nd):bT (.mk 6 [] 0 [a,b])=name mU::((if a.kids=[]then []else aI 91::(bC a.kids++[aI 93]))++dD b):=by rw[bT]<;>first|rfl|(intros;simp_all)
theorem zQ(a b:Nd):bT (.mk 7 [] 0 [a,b])=gG a++aI 95::dD b:=by rw[bT]<;>first|rfl|(intros;simp_all)
theorem zR(a b:Nd):bT (.mk 8 [] 0 [a,b])=gG a++aI 94::dD b:=by rw[bT]<;>first|rfl|(intros;simp_all)
theorem xR(a b d:Nd):bT (.mk 9 [] 0 [a,b,d])=gG a++aI 95::(dD b++aI 94::dD d):=by rw[bT]<;>first|rfl|(intros;simp_all)
theorem rC(t:Bytes)(a:Nd):bT (.mk 10 t 0 [a])=name t::dD a:=by rw[bT]<;>first|rfl|(intros;simp_all)
theorem uB(t:Bytes)(a:Nd):bT (.mk 11 t 0 [a])=if t=[40,41]∨t=[91,93]then aI (t.headD 0)::(bC a.kids++[aI (t.getLastD 0)])else⟨5,t⟩::dD a:=by rw[bT]<;>first|rfl|(intros;simp_all)
theorem rD(c:Int)(ks:List Nd)(h:ks≠[]):bT (.mk 12 [] c ks)=name bY::aI 123::(bF c 0 ks++[aI 125]):=by
 match ks,h with
 |[a],_=>rw[bT]<;>first|rfl|(intros;simp_all)
 |[a,b],_=>rw[bT]<;>first|rfl|(intros;simp_all)
 |[a,b,d],_=>rw[bT]<;>first|rfl|(intros;simp_all)
 |a::b::d::e::l,_=>rw[bT]<;>first|rfl|(intros;simp_all)
theorem y5(a:Nd):dD a=match a.kids with|[x]=>if leaf x then bT x else aI 123::(bC [x]++[aI 125])|ks=>aI 123::(bC ks++[aI 125]):=by
 obtain⟨k,t,c,ks⟩:=a
 match ks with
 |[]=>rw[dD]<;>first|rfl|(intros;simp_all)
 |[x]=>rw[dD];rfl
 |x::y::l=>rw[dD]<;>first|rfl|(intros;simp_all)
theorem wU(a:Nd):gG a=match a.kids with|[x]=>if gY x then aI 123::(bC [x]++[aI 125])else bT x|ks=>aI 123::(bC ks++[aI 125]):=by
 obtain⟨k,t,c,ks⟩:=a
 match ks with
 |[]=>rw[gG]<;>first|rfl|(intros;simp_all)
 |[x]=>rw[gG];rfl
 |x::y::l=>rw[gG]<;>first|rfl|(intros;simp_all)
theorem o5(n:Nd)(ns:List Nd):bC (n::ns)=bT n++bC ns:=by rw[bC]
theorem qU:bC []=[]:=by rw[bC]
theorem ML(x:Tok)(r:List Tok)(h:pF x=true):yZ (x::r):=by
 refine⟨jP _ _ _ ?_,jP _ _ _ ?_⟩<;>(rintro rfl;revert h;decide)
theorem fE.views{a:Nd}(h:fE a):∀x∈a.kids,View x:=fun x hx=>aen x (h.items x hx).2 (h.items x hx).1
theorem base_start(a:Nd)(ha:fE a)(ih:∀x∈a.kids,View x→∃t r,bT x=t::r∧pF t=true):∃t r,gG a=t::r∧pF t=true:=by
 rw[wU];have hv:=ha.views;split
 ·rename_i x hx
  split
  ·exact⟨aI 123,_,rfl,rfl⟩
  ·exact ih x (by rw[hx];simp) (hv x (by rw[hx];simp))
 ·exact⟨aI 123,_,rfl,rfl⟩
theorem Le(n:Nd):View n→∃t r,bT n=t::r∧pF t=true:=by
 have:∀m n,count n≤m→View n→∃t r,bT n=t::r∧pF t=true:=by
  intro m
  induction m with
  |zero=>intro n h;have:=bX n;omega
  |succ m ih=>
   intro n hc v
   have hb:∀(k:Int) (t:Bytes) (c:Int) (a:Nd) (l:List Nd),n=.mk k t c (a::l)→fE a→∃t r,gG a=t::r∧pF t=true:=fun k t c a l e ha=>base_start a ha fun x hx vx=>ih x (by
    have h1:=cB hx;have h2:=aN a;rw[e,count,az]at hc;omega) vx
   cases v with
   |sym t h=>rw[rZ];by_cases hl:t.length=1<;>simp only[hl,if_true,if_false]<;>exact⟨_,_,rfl,rfl⟩
   |num t h=>rw[r9];exact⟨_,_,rfl,rfl⟩
   |text t h=>rw[qA];exact⟨_,_,rfl,rfl⟩
   |Gn a b ha hb=>rw[vO];exact⟨_,_,rfl,rfl⟩
   |root a b ha hb=>rw[vP];exact⟨_,_,rfl,rfl⟩
   |sub a b ha hb'=>
    rw[zQ];obtain⟨x,r,e,h⟩:=hb _ _ _ a _ rfl ha;rw[e];exact⟨x,_,rfl,h⟩
   |sup a b ha hb'=>
    rw[zR];obtain⟨x,r,e,h⟩:=hb _ _ _ a _ rfl ha;rw[e];exact⟨x,_,rfl,h⟩
   |both a b d ha hb' hd=>
    rw[xR];obtain⟨x,r,e,h⟩:=hb _ _ _ a _ rfl ha;rw[e];exact⟨x,_,rfl,h⟩
   |zP t a h ha=>rw[rC];exact⟨_,_,rfl,rfl⟩
   |fence t a h ha=>
    rw[uB];split
    ·rename_i ht
     rcases ht with rfl|rfl<;>exact⟨_,_,rfl,rfl⟩
    ·exact⟨_,_,rfl,rfl⟩
   |matrix c ks hc hn hm h=>
    rw[rD c ks (by rintro rfl;simp at hn)];exact⟨_,_,rfl,rfl⟩
 exact this _ n (Nat.le_refl _)
theorem Qi(ks:List Nd)(hk:∀x∈ks,View x)(r:List Tok)(hr:yZ r):yZ (bC ks++r):=by
 cases ks with
 |nil=>rw[qU];exact hr
 |cons x ks=>
  obtain⟨t,r',e,h⟩:=Le x (hk x (by simp));rw[o5,e];exact ML t _ h
structure PU(m:Nat):Prop where
 item:∀n,count n≤m→View n→∀r,yZ r→Ev fun f=>eP f (bT n++r)=some (n,r)
 base:∀n,count n≤m→View n→gY n=false→∀r,Ev fun f=>jX f (bT n++r)=some ([n],r)
theorem PU.row{m:Nat}(h:PU m):∀ks,(∀x∈ks,View x∧count x≤m)→∀r,stop r→Ev fun f=>cZ f (bC ks++r)=some (ks,r)
 |[],_,r,hr=>Ev.succ (Ev.of fun f=>by rw[qU,List.nil_append,cZ,if_neg (by rw[hr.1];decide)])
 |x::ks,hk,r,hr=>by
  obtain⟨hv,hc⟩:=hk x (by simp);have ih:=PU.row h ks (fun y hy=>hk y (by simp[hy])) r hr;have hns:yZ (bC ks++r):=Qi ks (fun y hy=>(hk y (by simp[hy])).1) r hr.2;refine Ev.succ (((h.item x hc hv _ hns).and ih).mono fun f ⟨h1,h2⟩=>?_);obtain⟨t,r',e,hs⟩:=Le x hv;have hst:starts (bT x++(bC ks++r))=true:=by rw[e];exact hs
  rw[o5,List.append_assoc,cZ,if_pos hst,h1];simp[h2]
end Tr
namespace Tr
open Lx (Tok)
theorem Gp(b:UInt8)(r:List Tok)(h1:pF (aI b)=false)(h2:aI b≠aI 95)(h3:aI b≠aI 94):stop (aI b::r):=⟨h1,jP _ _ _ h2,jP _ _ _ h3⟩
theorem xS{m:Nat}{a:Nd}(ha:fE a)(hc:count a≤m+1):∀x∈a.kids,View x∧count x≤m:=fun x hx=>⟨ha.views x hx,by
 have h1:=cB hx;have h2:=aN a;omega⟩
theorem Vg(t:Bytes)(h:keywords.contains t=false):t≠oO∧t≠mU∧t≠bY:=by
 refine⟨?_,?_,?_⟩<;>(rintro rfl;revert h;decide)
theorem Gq(t:Bytes)(h:symbol t=true)(hl:t.length≠1):keywords.contains t=false∧eu.contains t=false:=by
 unfold symbol at h
 match t,hl with
 |[],_=>revert h;decide
 |[c],hl=>exact absurd rfl hl
 |a::b::l,_=>
  simp only[Bool.and_eq_true,Bool.not_eq_true']at h;exact⟨h.1.2,h.2⟩
theorem YK(t:Bytes)(h:symbol t=true)(hl:t.length≠1):Gm t=true:=by
 obtain⟨n1,n2⟩:=Gq t h hl;obtain⟨e1,e2,e3⟩:=Vg t n1;unfold Gm;rw[n2];simp[hl,e1,e2,e3]
theorem PU.Gr{m:Nat}(h:PU m)(a:Nd)(ha:fE a)(hc:count a≤m+1)(r:List Tok)(b:UInt8)(h1:pF (aI b)=false)(h2:aI b≠aI 95)(h3:aI b≠aI 94):
  Ev fun f=>cZ f ((bC a.kids++[aI b])++r)=some (a.kids,aI b::r):=by
 have:=h.row a.kids (xS ha hc) (aI b::r) (Gp b r h1 h2 h3);simpa using this
theorem PU.arg{m:Nat}(h:PU m)(a:Nd)(ha:fE a)(hc:count a≤m+1)(r:List Tok):Ev fun f=>pArg f (dD a++r)=some (a,r):=by
 have hr:=wF a ha.1 ha.2
 have hb:Ev fun f=>pArg f ((aI 123::(bC a.kids++[aI 125]))++r)=some (a,r):=by
  refine Ev.succ ((h.Gr a ha hc r 125 (by decide) (by decide) (by decide)).mono fun f h1=>?_);rw[List.cons_append,pArg,if_neg (by first|decide|simp),if_neg (by first|decide|simp),if_neg (by first|decide|simp),if_pos rfl,h1];show some (Tr.row a.kids,r)=_;rw[←hr]
 rw[y5];split
 ·rename_i x hx
  rw[hx]at hb;split
  ·rename_i hl
   have hv:=ha.views x (by rw[hx];simp);rw[hr,hx];unfold leaf at hl;cases hv with
   |sym t ht=>
    rw[rZ];refine Ev.succ (Ev.of fun f=>?_)
    by_cases h1:t.length=1
    ·rw[if_pos h1,List.singleton_append,pArg,if_pos (.inl rfl)]
    ·rw[if_neg h1,List.singleton_append,pArg,if_pos (.inr ⟨rfl,YK t ht h1⟩)]
   |num t ht=>
    rw[r9];exact Ev.succ (Ev.of fun f=>by rw[List.singleton_append,pArg,if_neg (by first|decide|simp),if_pos rfl])
   |text t ht=>
    rw[qA];exact Ev.succ (Ev.of fun f=>by rw[List.singleton_append,pArg,if_neg (by first|decide|simp),if_neg (by first|decide|simp),if_pos rfl])
   |_=>revert hl;simp[Nd.kind]
  ·exact hb
 ·exact hb
theorem PU.V3{m:Nat}(h:PU m)(a:Nd)(ha:fE a)(hc:count a≤m+1)(r:List Tok):Ev fun f=>jX f (gG a++r)=some (a.kids,r):=by
 have hb:Ev fun f=>jX f ((aI 123::(bC a.kids++[aI 125]))++r)=some (a.kids,r):=by
  refine Ev.succ ((h.Gr a ha hc r 125 (by decide) (by decide) (by decide)).mono fun f h1=>?_);rw[List.cons_append,jX,if_neg (by first|decide|simp),if_neg (by first|decide|simp),if_neg (by first|decide|simp),if_neg (by first|decide|simp),if_neg (by first|decide|simp),if_neg (by first|decide|simp),if_neg (by first|decide|simp),if_pos rfl,h1];rfl
 rw[wU];split
 ·rename_i x hx
  rw[hx]at hb⊢;split
  ·exact hb
  ·rename_i hs
   obtain⟨hv,hcx⟩:=xS ha hc x (by rw[hx];simp);exact h.base x hcx hv (by simpa using hs) r
 ·exact hb
theorem iK{m:Nat}{k:Int}{t:Bytes}{c:Int}{ks:List Nd}(hc:count (.mk k t c ks)≤m+1)(a:Nd)(h:a∈ks):count a≤m+1:=by
 rw[count]at hc;have:=cB h;omega
theorem Qj(t:Bytes)(h:eu.contains t=true):t≠oO∧t≠mU∧t≠bY:=by
 refine⟨?_,?_,?_⟩<;>(rintro rfl;revert h;decide)
theorem Vh(c:Nat):∀(ks:List Nd) (i:Nat),i<c→c≤i+ks.length→rA ((ks.zipIdx i).map fun p=>(p.1,decide (((p.2:Int)+1)%(c:Int)=0)))=(c:Int)-i
 |[],i,h1,h2=>by simp at h2;omega
 |x::l,i,h1,h2=>by
  rw[List.zipIdx_cons,List.map_cons,rA]
  by_cases h:i+1=c
  ·have e:decide (((i:Int)+1)%(c:Int)=0)=true:=by
    rw[decide_eq_true_iff,←h];simp
   simp only[e,if_true];omega
  ·have e:decide (((i:Int)+1)%(c:Int)=0)=false:=by
    rw[decide_eq_false_iff_not,Int.emod_eq_of_lt (by omega) (by omega)];omega
   have ih:=Vh c l (i+1) (by omega) (by simp at h2;omega);simp only[e,Bool.false_eq_true,if_false];rw[ih];omega
theorem PU.cells{m:Nat}(h:PU m)(c:Int)(r:List Tok):∀(ns:List Nd) (n:Nd) (i:Nat),(∀k∈n::ns,fE k∧count k≤m+1)→((i:Int)+(n::ns).length)%c=0→
  Ev fun f=>di f (bC n.kids++(bF c (i+1) ns++(aI 125::r)))=some (((n::ns).zipIdx i).map (fun p=>(p.1,decide (((p.2:Int)+1)%c=0))),aI 125::r)
 |[],n,i,hk,hm=>by
  obtain⟨hr,hc⟩:=hk n (by simp);have e:bF c (i+1) []=[]:=by rw[bF]
  rw[e,List.nil_append];refine Ev.succ ((h.row n.kids (xS hr hc) _ (Gp 125 r (by decide) (by decide) (by decide))).mono fun f h1=>?_);rw[di,h1];simp only[Option.bind_some];rw[jP _ _ _ (by decide),jP _ _ _ (by decide)];have e2:decide (((i:Int)+1)%c=0)=true:=by rw[decide_eq_true_iff];simpa using hm
  simp only[List.zipIdx_cons,List.zipIdx_nil,List.map_cons,List.map_nil,e2];rw[←wF n hr.1 hr.2]
 |n'::ns,n,i,hk,hm=>by
  obtain⟨hr,hc⟩:=hk n (by simp)
  have ih:=PU.cells h c r ns n' (i+1) (fun k hk'=>hk k (by simp at hk'⊢;exact .inr hk')) (by
   simp only[List.length_cons]at hm⊢;rw[←hm];congr 1;omega)
  have e:bF c (i+1) (n'::ns)=(if((i:Int)+1)%c=0 then(⟨8,[92,92]⟩:Tok)else aI 38)::(bC n'.kids++bF c (i+1+1) ns):=by
   rw[bF,if_neg (by omega)];have:((i+1:Nat):Int)=(i:Int)+1:=by omega
   rw[this];split<;>rfl
  rw[e]
  by_cases hb:((i:Int)+1)%c=0
  ·rw[if_pos hb]
   refine Ev.succ (((h.row n.kids (xS hr hc) ((⟨8,[92,92]⟩:Tok)::(bC n'.kids++(bF c (i+1+1) ns++(aI 125::r)))) ⟨by rfl,jP _ _ _ (by decide),jP _ _ _ (by decide)⟩).and ih).mono fun f ⟨h1,h2⟩=>?_);rw[List.cons_append,List.append_assoc,di,h1];simp only[Option.bind_some];rw[jP _ _ _ (by decide),jC];simp only[h2,Option.map_some];rw[List.zipIdx_cons («as»:=n'::ns),List.map_cons,←wF n hr.1 hr.2,decide_eq_true hb]
  ·rw[if_neg hb]
   refine Ev.succ (((h.row n.kids (xS hr hc) (aI 38::(bC n'.kids++(bF c (i+1+1) ns++(aI 125::r)))) (Gp 38 _ (by decide) (by decide) (by decide))).and ih).mono fun f ⟨h1,h2⟩=>?_);rw[List.cons_append,List.append_assoc,di,h1];simp only[Option.bind_some];rw[jC];simp only[h2,Option.map_some];rw[List.zipIdx_cons («as»:=n'::ns),List.map_cons,←wF n hr.1 hr.2,decide_eq_false hb]
theorem PU.YL{m:Nat}(h:PU m)(n:Nd)(hc:count n≤m+1)(v:View n)(hs:gY n=false)(r:List Tok):
  Ev fun f=>jX f (bT n++r)=some ([n],r):=by
 cases v with
 |sym t ht=>
  rw[rZ];refine Ev.succ (Ev.of fun f=>?_)
  by_cases h1:t.length=1
  ·rw[if_pos h1,List.singleton_append,jX,if_pos rfl]
  ·obtain⟨n1,n2⟩:=Gq t ht h1
   obtain⟨e1,e2,e3⟩:=Vg t n1;rw[if_neg h1,List.singleton_append,jX,if_neg (by first|decide|simp),if_neg (by first|decide|simp),if_neg (by first|decide|simp),if_neg (by first|decide|simp),if_pos rfl,if_neg e1,if_neg e2,if_neg e3,if_neg (by rw[n2];decide),if_neg h1]
 |num t ht=>
  rw[r9];exact Ev.succ (Ev.of fun f=>by rw[List.singleton_append,jX,if_neg (by first|decide|simp),if_pos rfl])
 |text t ht=>
  rw[qA];exact Ev.succ (Ev.of fun f=>by rw[List.singleton_append,jX,if_neg (by first|decide|simp),if_neg (by first|decide|simp),if_pos rfl])
 |Gn a b ha hb=>
  rw[vO];refine Ev.succ (((h.arg a ha (iK hc a (by simp)) (dD b++r)).and (h.arg b hb (iK hc b (by simp)) r)).mono fun f ⟨h1,h2⟩=>?_);rw[List.cons_append,List.append_assoc,name,jX,if_neg (by first|decide|simp),if_neg (by first|decide|simp),if_neg (by first|decide|simp),if_neg (by first|decide|simp),if_pos rfl,if_pos rfl,h1];simp[h2]
 |root a b ha hb=>
  rw[vP];have hra:=wF a ha.1 ha.2;have hB:=h.arg b hb (iK hc b (by simp)) r
  by_cases h0:a.kids=[]
  ·rw[if_pos h0,List.nil_append]
   have hex:expect (aI 91) (dD b++r)=none:=by
    have:∃x l,dD b=x::l∧x≠aI 91:=by
     rw[y5];split
     ·rename_i x hx
      split
      ·rename_i hl
       have hv:=hb.views x (by rw[hx];simp);unfold leaf at hl;cases hv with
       |sym t ht=>
        rw[rZ];refine⟨_,_,rfl,?_⟩;split<;>(intro e;cases e)
       |num t ht=>rw[r9];exact⟨_,_,rfl,fun e=>by cases e⟩
       |text t ht=>rw[qA];exact⟨_,_,rfl,fun e=>by cases e⟩
       |_=>revert hl;simp[Nd.kind]
      ·exact⟨_,_,rfl,by decide⟩
     ·exact⟨_,_,rfl,by decide⟩
    obtain⟨x,l,e,hx⟩:=this;rw[e];exact jP _ _ _ hx
   refine Ev.succ (hB.mono fun f h1=>?_);rw[List.cons_append,name,jX,if_neg (by first|decide|simp),if_neg (by first|decide|simp),if_neg (by first|decide|simp),if_neg (by first|decide|simp),if_pos rfl,if_neg (by first|decide|simp),if_pos rfl,hex,h1];rw[hra,h0];rfl
  ·rw[if_neg h0]
   have hA:=h.Gr a ha (iK hc a (by simp)) (dD b++r) 93 (by decide) (by decide) (by decide);refine Ev.succ ((hA.and hB).mono fun f ⟨h1,h2⟩=>?_);have e:(name mU::((aI 91::(bC a.kids++[aI 93]))++dD b))++r=name mU::aI 91::((bC a.kids++[aI 93])++(dD b++r)):=by simp
   rw[e,name,jX,if_neg (by first|decide|simp),if_neg (by first|decide|simp),if_neg (by first|decide|simp),if_neg (by first|decide|simp),if_pos rfl,if_neg (by first|decide|simp),if_pos rfl,jC];simp only[h1,Option.bind_some,jC,h2,Option.map_some];rw[←hra]
 |sub a b=>cases hs
 |sup a b=>cases hs
 |both a b d=>cases hs
 |zP t a ht ha=>
  rw[rC];obtain⟨e1,e2,e3⟩:=Qj t ht;refine Ev.succ ((h.arg a ha (iK hc a (by simp)) r).mono fun f h1=>?_);rw[List.cons_append,name,jX,if_neg (by first|decide|simp),if_neg (by first|decide|simp),if_neg (by first|decide|simp),if_neg (by first|decide|simp),if_pos rfl,if_neg e1,if_neg e2,if_neg e3,if_pos ht,h1];rfl
 |fence t a ht ha=>
  have hra:=wF a ha.1 ha.2;rw[uB]
  by_cases h0:t=[40,41]∨t=[91,93]
  ·rw[if_pos h0]
   rcases h0 with rfl|rfl
   ·refine Ev.succ ((h.Gr a ha (iK hc a (by simp)) r 41 (by decide) (by decide) (by decide)).mono fun f h1=>?_)
    rw[List.cons_append,jX,if_neg (by first|decide|simp),if_neg (by first|decide|simp),if_neg (by first|decide|simp),if_neg (by first|decide|simp),if_neg (by first|decide|simp),if_pos (by decide)];have h1':cZ f (bC a.kids++[aI (([40,41]:Bytes).getLastD 0)]++r)=some (a.kids,aI 41::r):=h1;rw[h1'];simp only[Option.bind_some,jC,Option.map_some];rw[←hra]
   ·refine Ev.succ ((h.Gr a ha (iK hc a (by simp)) r 93 (by decide) (by decide) (by decide)).mono fun f h1=>?_)
    rw[List.cons_append,jX,if_neg (by first|decide|simp),if_neg (by first|decide|simp),if_neg (by first|decide|simp),if_neg (by first|decide|simp),if_neg (by first|decide|simp),if_neg (by first|decide|simp),if_pos (by decide)];have h1':cZ f (bC a.kids++[aI (([91,93]:Bytes).getLastD 0)]++r)=some (a.kids,aI 93::r):=h1;rw[h1'];simp only[Option.bind_some,jC,Option.map_some];rw[←hra]
  ·rw[if_neg h0]
   refine Ev.succ ((h.arg a ha (iK hc a (by simp)) r).mono fun f h1=>?_);rw[List.cons_append,jX,if_neg (by first|decide|simp),if_neg (by first|decide|simp),if_neg (by first|decide|simp),if_pos rfl,h1];rfl
 |matrix c ks hc1 hn hm hk=>
  rw[rD c ks (by rintro rfl;simp at hn)]
  have hcells:Ev fun f=>di f (bF c 0 ks++(aI 125::r))=some ((ks.zipIdx.map fun p=>(p.1,decide (((p.2:Int)+1)%c=0))),aI 125::r):=by
   match ks,hn with
   |k::l,_=>
    have e:bF c 0 (k::l)=bC k.kids++bF c 1 l:=by rw[bF,if_pos rfl,List.nil_append]
    rw[e,List.append_assoc];exact h.cells c r l k 0 (fun x hx=>⟨hk x hx,iK hc x hx⟩) (by simpa using hm)
  refine Ev.succ (hcells.mono fun f h1=>?_);have e:(name bY::aI 123::(bF c 0 ks++[aI 125]))++r=name bY::aI 123::(bF c 0 ks++(aI 125::r)):=by simp
  rw[e,name,jX,if_neg (by first|decide|simp),if_neg (by first|decide|simp),if_neg (by first|decide|simp),if_neg (by first|decide|simp),if_pos rfl,if_neg (by first|decide|simp),if_neg (by first|decide|simp),if_pos rfl,jC];simp only[Option.bind_some,h1,jC];obtain⟨cn,rfl⟩:∃cn:Nat,c=cn:=⟨c.toNat,by omega⟩
  have hle:cn≤ks.length:=by
   rcases Nat.lt_or_ge ks.length cn with hlt|hge
   ·rw[Int.emod_eq_of_lt (by omega) (by omega)]at hm;omega
   ·exact hge
  have e1:=Vh cn ks 0 (by omega) (by omega)
  rw[e1,if_pos (by
   have hz:((cn:Int)-((0:Nat):Int))=(cn:Int):=by omega
   rw[hz];unfold ends;apply List.ext_getElem
   ·simp
   ·intro i h1 h2;simp)]
  have e2:(List.map (fun x=>x.fst) (List.map (fun p=>(p.fst,decide (((p.2:Int)+1)%(cn:Int)=0))) ks.zipIdx))=ks:=by
   rw[List.map_map];have:((fun x:Nd×Bool=>x.fst)∘fun p:Nd×Nat=>(p.fst,decide (((p.2:Int)+1)%(cn:Int)=0)))=Prod.fst:=rfl;rw[this];simp
  rw[e2];simp
theorem Qk(n:Nd)(v:View n)(hs:gY n=false)(r:List Tok):pE (bT n++r)=false:=by
 cases v with
 |sym t h=>rw[rZ];by_cases hl:t.length=1<;>simp[hl,pE,aI]
 |num t h=>rw[r9];simp[pE,aI]
 |text t h=>rw[qA];simp[pE,aI]
 |Gn a b ha hb=>rw[vO];simp[pE,aI,name]
 |root a b ha hb=>rw[vP];simp[pE,aI,name]
 |zP t a h ha=>rw[rC];simp[pE,aI,name]
 |fence t a h ha=>
  rw[uB];split
  ·rename_i ht
   rcases ht with rfl|rfl<;>simp[pE,aI]
  ·simp[pE,aI]
 |matrix c ks hc hn hm h=>rw[rD c ks (by rintro rfl;simp at hn)];simp[pE,aI,name]
 |_=>cases hs
theorem PU.step{m:Nat}(h:PU m):PU (m+1):=by
 have hbase:∀n,count n≤m+1→View n→gY n=false→∀r,Ev fun f=>jX f (bT n++r)=some ([n],r):=fun n hc v hs r=>h.YL n hc v hs r
 refine⟨fun n hc v r hr=>?_,hbase⟩
 by_cases hs:gY n=false
 ·refine Ev.succ ((hbase n hc v hs r).mono fun f h1=>?_)
  rw[eP,h1];simp only[Option.bind_some];rw[hr.1,hr.2];simp only
  rw[if_neg (by rw[Qk n v hs r];decide)]
 ·cases v with
  |sub a b ha hb=>
   rw[zQ];have e:(gG a++aI 95::dD b)++r=gG a++(aI 95::(dD b++r)):=by simp
   rw[e];refine Ev.succ (((h.V3 a ha (iK hc a (by simp)) (aI 95::(dD b++r))).and (h.arg b hb (iK hc b (by simp)) r)).mono fun f ⟨h1,h2⟩=>?_);rw[eP,h1];simp only[Option.bind_some];rw[jC];simp only[h2,Option.bind_some];rw[hr.2,←wF a ha.1 ha.2]
  |sup a b ha hb=>
   rw[zR];have e:(gG a++aI 94::dD b)++r=gG a++(aI 94::(dD b++r)):=by simp
   rw[e];refine Ev.succ (((h.V3 a ha (iK hc a (by simp)) (aI 94::(dD b++r))).and (h.arg b hb (iK hc b (by simp)) r)).mono fun f ⟨h1,h2⟩=>?_);rw[eP,h1];simp only[Option.bind_some];rw[jP _ _ _ (by decide),jC];simp only[h2,Option.map_some];rw[←wF a ha.1 ha.2]
  |both a b d ha hb hd=>
   rw[xR];have e:(gG a++aI 95::(dD b++aI 94::dD d))++r=gG a++(aI 95::(dD b++(aI 94::(dD d++r)))):=by simp
   rw[e];refine Ev.succ (((h.V3 a ha (iK hc a (by simp)) (aI 95::(dD b++(aI 94::(dD d++r))))).and ((h.arg b hb (iK hc b (by simp)) (aI 94::(dD d++r))).and (h.arg d hd (iK hc d (by simp)) r))).mono fun f ⟨h1,h2,h3⟩=>?_);rw[eP,h1];simp only[Option.bind_some];rw[jC];simp only[h2,Option.bind_some];rw[jC];simp only[h3,Option.map_some];rw[←wF a ha.1 ha.2]
  |_=>exact absurd rfl hs
theorem PU.all(m:Nat):PU m:=by
 induction m with
 |zero=>exact⟨fun n h=>by have:=bX n;omega,fun n h=>by have:=bX n;omega⟩
 |succ m ih=>exact ih.step
end Tr
namespace Tr
open Lx (Tok kR)
theorem uS(p:UInt8→Prop)[DecidablePred p](h:∀n:Fin 256,p (UInt8.ofNat n.1))(c:UInt8):p c:=by
 have:=h ⟨c.toNat,c.toNat_lt⟩;simpa using this
theorem Lf(c:UInt8):letter c=Lx.dG 3 c:=uS (fun c=>letter c=Lx.dG 3 c) (by decide+kernel) c
theorem YM(c:UInt8):digit c=Lx.dG 2 c:=uS (fun c=>digit c=Lx.dG 2 c) (by decide+kernel) c
theorem abr(c:UInt8):signs.contains c=Lx.dG 4 c:=uS (fun c=>signs.contains c=Lx.dG 4 c) (by decide+kernel) c
theorem Ql(c:UInt8):rz.contains c=Lx.kF c:=uS (fun c=>rz.contains c=Lx.kF c) (by decide+kernel) c
theorem V4(l:Bytes):l.all letter=l.all (Lx.dG 3):=by
 congr 1;funext c;exact Lf c
theorem Gs(l:Bytes):l.all digit=l.all (Lx.dG 2):=by
 congr 1;funext c;exact YM c
theorem sO(b:UInt8)(h:Lx.dG 5 b=true):kR (aI b):=.inr (.inr (.inr (.inr (.inr (.inr (.inl ⟨rfl,b,rfl,h⟩))))))
theorem YN:kR ⟨8,[92,92]⟩:=.inr (.inr (.inr (.inr (.inr (.inr (.inr ⟨rfl,rfl⟩))))))
theorem BC(t:Bytes)(h1:t.length≤16)(h2:t≠[])(h3:t.all letter=true)(h4:t≠[102,101,110,99,101]):kR (name t):=
 .inr (.inr (.inr (.inl ⟨rfl,h1,h2,by rw[←V4];exact h3,h4⟩)))
theorem aeo(t:Bytes)(h:symbol t=true):kR (if t.length=1 then⟨1,t⟩else⟨4,t⟩):=by
 unfold symbol at h
 match t,h with
 |[c],h=>
  rw[if_pos (show([c]:Bytes).length=1 from rfl)];refine .inl ⟨rfl,c,rfl,?_⟩;have h':(letter c||signs.contains c)=true:=h;rw[Lf,abr,Bool.or_eq_true]at h';exact h'
 |[],h=>exact absurd (show symbol []=true from h) (by decide)
 |a::b::l,h=>
  rw[if_neg (by simp)];simp only[Bool.and_eq_true,Bool.not_eq_true',decide_eq_true_eq]at h;obtain⟨⟨⟨⟨h1,h2⟩,h3⟩,h4⟩,h5⟩:=h;exact BC _ h3 (by simp) h1 (by intro e;rw[e]at h4;revert h4;decide)
theorem aep(t:Bytes)(h:isNum t=true):kR ⟨2,t⟩:=by
 unfold isNum at h;rw[Bool.and_eq_true,Bool.and_eq_true,decide_eq_true_iff,decide_eq_true_iff,Bool.or_eq_true]at h;obtain⟨⟨h1,h2⟩,h3⟩:=h;refine .inr (.inl ⟨rfl,h1,?_⟩)
 rcases h3 with h3|h3
 ·exact⟨t,h2,by rw[←Gs];exact h3,.inl rfl⟩
 ·split at h3
  ·rename_i x b hd
   simp only[Bool.and_eq_true,decide_eq_true_eq]at h3;obtain⟨⟨⟨h4,h5⟩,h6⟩,h7⟩:=h3;refine⟨t.takeWhile (·≠46),h4,by rw[←Gs];exact h5,.inr ⟨b,h6,by rw[←Gs];exact h7,?_⟩⟩
   have hx:x=46:=by
    have:=List.head?_dropWhile_not (fun b:UInt8=>decide (b≠46)) t;rw[hd]at this;simpa using this
   have:=List.takeWhile_append_dropWhile (p:=fun b:UInt8=>decide (b≠46)) (l:=t);rw[hd,hx]at this;exact this.symm
  ·cases h3
theorem abt(t:Bytes)(h:(decide (t.length≤200)&&aU t)=true):kR ⟨3,t⟩:=by
 rw[Bool.and_eq_true,decide_eq_true_iff]at h;refine .inr (.inr (.inl ⟨rfl,h.1,?_⟩));have h2:=h.2;unfold aU at h2;rw[List.all_eq_true]at h2⊢;intro b hb;have:=h2 b hb;simpa using this
theorem YO(t:Bytes)(h:fence t=true):kR ⟨5,t⟩:=by
 unfold fence at h;split at h
 ·rename_i a b
  rw[Bool.and_eq_true,Ql,Ql]at h;exact .inr (.inr (.inr (.inr (.inl ⟨rfl,a,b,rfl,h.1,h.2⟩))))
 ·cases h
theorem V5(t:Bytes)(h:eu.contains t=true):kR (name t):=by
 have:t∈eu:=by simpa using h
 simp only[eu,List.mem_cons,List.not_mem_nil,or_false]at this
 rcases this with rfl|rfl|rfl|rfl|rfl|rfl<;>exact BC _ (by decide) (by decide) (by decide) (by decide)
def ku(l:List Tok):Prop:=∀t∈l,kR t
theorem ku.app{l m:List Tok}(h:ku l)(k:ku m):ku (l++m):=fun t ht=>(List.mem_append.1 ht).elim (h t) (k t)
theorem ku.cons{x:Tok}{m:List Tok}(h:kR x)(k:ku m):ku (x::m):=fun t ht=>(List.mem_cons.1 ht).elim (fun e=>e▸h) (k t)
theorem ku.nil:ku []:=fun t ht=>by cases ht
theorem rows_ok(ks:List Nd)(h:∀x∈ks,ku (bT x)):ku (bC ks):=by
 induction ks with
 |nil=>rw[qU];exact .nil
 |cons x ks ih=>rw[o5];exact(h x (by simp)).app (ih fun y hy=>h y (by simp[hy]))
theorem xw(ks:List Nd)(h:∀x∈ks,ku (bT x))(a b:UInt8)(ha:Lx.dG 5 a=true)(hb:Lx.dG 5 b=true):ku (aI a::(bC ks++[aI b])):=
 .cons (sO a ha) ((rows_ok ks h).app (.cons (sO b hb) .nil))
theorem vQ(a:Nd)(h:∀x∈a.kids,ku (bT x)):ku (dD a):=by
 rw[y5];split
 ·rename_i x hx
  rw[hx]at h;split
  ·exact h x (by simp)
  ·exact xw _ h _ _ rfl rfl
 ·exact xw _ h _ _ rfl rfl
theorem MN(a:Nd)(h:∀x∈a.kids,ku (bT x)):ku (gG a):=by
 rw[wU];split
 ·rename_i x hx
  rw[hx]at h;split
  ·exact xw _ h _ _ rfl rfl
  ·exact h x (by simp)
 ·exact xw _ h _ _ rfl rfl
theorem cells_ok(c:Int)(ks:List Nd):∀i,(∀k∈ks,∀x∈k.kids,ku (bT x))→ku (bF c i ks):=by
 induction ks with
 |nil=>intro i _;rw[bF];exact .nil
 |cons k ks ih=>
  intro i h;rw[bF];refine .app ?_ ((rows_ok _ (h k (by simp))).app (ih _ fun y hy=>h y (by simp[hy])));split
  ·exact .nil
  ·split
   ·exact .cons YN .nil
   ·exact .cons (sO _ rfl) .nil
theorem MO(m:Nat):∀n,count n≤m→View n→ku (bT n):=by
 induction m with
 |zero=>intro n h;have:=bX n;omega
 |succ m ih=>
  intro n hc v
  have hk:∀(k:Int) (t:Bytes) (c:Int) (ks:List Nd),n=.mk k t c ks→∀a∈ks,fE a→∀x∈a.kids,ku (bT x):=fun k t c ks e a ha hr x hx=>by
   have h1:=cB hx;have h2:=aN a;have h3:=cB ha;rw[e,count]at hc;exact ih x (by omega) (hr.views x hx)
  cases v with
  |sym t h=>rw[rZ];exact .cons (aeo t h) .nil
  |num t h=>rw[r9];exact .cons (aep t h) .nil
  |text t h=>rw[qA];exact .cons (abt t h) .nil
  |Gn a b ha hb=>
   rw[vO];exact .cons (BC _ (by decide) (by decide) (by decide) (by decide)) ((vQ a (hk _ _ _ _ rfl a (by simp) ha)).app (vQ b (hk _ _ _ _ rfl b (by simp) hb)))
  |root a b ha hb=>
   rw[vP];refine .cons (BC _ (by decide) (by decide) (by decide) (by decide)) (.app ?_ (vQ b (hk _ _ _ _ rfl b (by simp) hb)));split
   ·exact .nil
   ·exact xw _ (hk _ _ _ _ rfl a (by simp) ha) _ _ rfl rfl
  |sub a b ha hb=>
   rw[zQ];exact(MN a (hk _ _ _ _ rfl a (by simp) ha)).app (.cons (sO _ rfl) (vQ b (hk _ _ _ _ rfl b (by simp) hb)))
  |sup a b ha hb=>
   rw[zR];exact(MN a (hk _ _ _ _ rfl a (by simp) ha)).app (.cons (sO _ rfl) (vQ b (hk _ _ _ _ rfl b (by simp) hb)))
  |both a b d ha hb hd=>
   rw[xR];exact(MN a (hk _ _ _ _ rfl a (by simp) ha)).app (.cons (sO _ rfl) ((vQ b (hk _ _ _ _ rfl b (by simp) hb)).app (.cons (sO _ rfl) (vQ d (hk _ _ _ _ rfl d (by simp) hd)))))
  |zP t a h ha=>
   rw[rC];exact .cons (V5 t h) (vQ a (hk _ _ _ _ rfl a (by simp) ha))
  |fence t a h ha=>
   rw[uB];split
   ·rename_i ht
    rcases ht with rfl|rfl<;>exact xw _ (hk _ _ _ _ rfl a (by simp) ha) _ _ rfl rfl
   ·exact .cons (YO t h) (vQ a (hk _ _ _ _ rfl a (by simp) ha))
  |matrix c ks hc1 hn hm h=>
   rw[rD c ks (by rintro rfl;simp at hn)];exact .cons (BC _ (by decide) (by decide) (by decide) (by decide)) (.cons (sO _ rfl) ((cells_ok c ks 0 fun k hk'=>hk _ _ _ _ rfl k hk' (h k hk')).app (.cons (sO _ rfl) .nil)))
theorem zS(a:Nd)(ha:fE a):ku (bC a.kids):=rows_ok _ fun x hx=>MO _ x (Nat.le_refl _) (ha.views x hx)
def uI:Option Tok→List Tok→List (Bytes×Tok)
 |_,[]=>[]
 |o,t::ts=>((match o with|some a=>if Lx.join a t then [32]else []|none=>[]),t)::uI (some t) ts
def xU(l:List Tok):Bytes:=Lx.flat (uI none l)
theorem JA:∀(l:List Tok) (o:Option Tok),ku l→Lx.DX o (uI o l)
 |[],_,_=>trivial
 |t::ts,o,h=>by
  refine⟨?_,h t (by simp),?_,JA ts (some t) fun x hx=>h x (by simp[hx])⟩
  ·cases o with
   |none=>rfl
   |some a=>simp only;split<;>rfl
  ·intro e a ha
   subst ha;simp only at e;cases hj:Lx.join a t with
   |false=>rfl
   |true=>rw[hj]at e;simp at e
theorem Gt:∀(l:List Tok) (o:Option Tok),(uI o l).map (·.2)=l
 |[],_=>rfl
 |t::ts,o=>by simp only[uI,List.map_cons,Gt ts]
theorem NL(l:List Tok)(h:ku l):Lx.jr (xU l)=(Lx.placed 0 (uI none l),none):=Lx.TV _ (JA l none h)
theorem NM(a:Nd)(h:valid a=true):fE a:=by
 unfold valid at h;simp only[Bool.and_eq_true,beq_iff_eq,decide_eq_true_eq]at h;exact⟨h.1.1.1,h.1.1.2⟩
end Tr
end Go.Proofs.YtcgbccfpcgaikaaGreatDoor
