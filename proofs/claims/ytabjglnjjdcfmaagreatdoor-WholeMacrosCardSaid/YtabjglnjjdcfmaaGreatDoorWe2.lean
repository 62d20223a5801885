/- Part 2 of 41 of a proof. No condition. -/
import Derived.Test.YtabjglnjjdcfmaaGreatDoorWe1
set_option maxRecDepth 100000
namespace Go.Proofs.YtabjglnjjdcfmaaGreatDoor
open _root_.Bool renaming and_eq_true->auY,not_eq_true'->avN,or_eq_true->av3
open _root_.Nat renaming le_refl->au3,lt_or_ge->avE,add_zero->avk
open _root_.List renaming nil_append->avn,append_assoc->au6,cons_append->au',singleton_append->av',zipIdx_cons->awu,map_cons->avg,getElem_cons_zero->avP,getElem_cons_succ->avC,length_append->auZ,length_singleton->av4
open _root_.Option renaming bind_some->avO,map_some->awk,bind_eq_some_iff->avJ,map_eq_some_iff->avz,isSome_some->awv
namespace Tr
open Lx (Tok)
def fE(a:Nd):Prop:=a.QI=1/\form a=true
inductive View:Nd->Prop
 |sym (t:QJ) (h:symbol t=true):View (.mk 2 t 0 [])
 |num (t:QJ) (h:isNum t=true):View (.mk 3 t 0 [])
 |QG (t:QJ) (h:(decide (t.length<=200)&&aU t)=true):View (.mk 4 t 0 [])
 |Gn (a b:Nd) (ha:fE a) (hb:fE b):View (.mk 5 [] 0 [a,b])
 |root (a b:Nd) (ha:fE a) (hb:fE b):View (.mk 6 [] 0 [a,b])
 |sub (a b:Nd) (ha:fE a) (hb:fE b):View (.mk 7 [] 0 [a,b])
 |sup (a b:Nd) (ha:fE a) (hb:fE b):View (.mk 8 [] 0 [a,b])
 |both (a b d:Nd) (ha:fE a) (hb:fE b) (hd:fE d):View (.mk 9 [] 0 [a,b,d])
 |zP (t:QJ) (a:Nd) (h:eu.contains t=true) (ha:fE a):View (.mk 10 t 0 [a])
 |fence (t:QJ) (a:Nd) (h:Tr.fence t=true) (ha:fE a):View (.mk 11 t 0 [a])
 |matrix (c:Int) (ks:List Nd) (hc:1<=c) (hn:1<=ks.length) (hm:(ks.length:Int)%c=0) (h:∀k∈ks,fE k):View (.mk 12 [] c ks)
theorem Bp(l:List Nd)(h:iV false l=true):∀x∈l,fE x:=by
 induction l with
 |nil=>intro x hx;cases hx
 |cons y l ih=>
  rw[iV,auY,auY]at h;obtain⟨⟨h1,h2⟩,h3⟩:=h;intro x hx
  rcases List.mem_cons.1 hx with rfl|hx
  .exact⟨by simpa using h1,h2⟩
  .exact ih h3 x hx
theorem abq(l:List Nd)(h:iV true l=true):∀x∈l,x.QI≠1/\form x=true:=by
 induction l with
 |nil=>intro x hx;cases hx
 |cons y l ih=>
  rw[iV,auY,auY]at h;obtain⟨⟨h1,h2⟩,h3⟩:=h;intro x hx
  rcases List.mem_cons.1 hx with rfl|hx
  .exact⟨by simpa using h1,h2⟩
  .exact ih h3 x hx
theorem fE.QS{a:Nd}(h:fE a):∀x∈a.Qx,x.QI≠1/\form x=true:=by
 obtain⟨h1,h2⟩:=h;rw[kG,h1,auY]at h2;exact abq _ h2.2
theorem aen(n:Nd)(hf:form n=true)(hk:n.QI≠1):View n:=by
 obtain⟨k,t,c,ks⟩:=n;rw[form,auY,auY]at hf;obtain⟨⟨h1,h2⟩,h3⟩:=hf;have aD:(k==1)=false:=by rw[beq_eq_false_iff_ne];exact hk
 rw[aD]at h3;have aa:=Bp ks h3;unfold bM at h2;unfold dR at h1
 by_cases e12:k=12
 .subst e12
  simp at h1 h2
  subst h1;obtain⟨⟨⟨⟨h4,h5⟩,h6⟩,h7⟩,h8⟩:=h2;exact .matrix c ks h4 h6 (by omega) aa
 .rw[if_neg e12]at h2
  by_cases hc:c=0
  .subst hc
   simp only[ne_eq,not_true_eq_false,if_false]at h2;have hk':k≠1:=hk;rw[if_neg hk']at h2
   by_cases e2:k=2
   .subst e2
    simp at h1 h2
    subst h2;exact .sym t h1
   .by_cases e3:k=3
    .subst e3
     simp at h1 h2
     subst h2;exact .num t h1
    .by_cases e4:k=4
     .subst e4
      simp at h2
      subst h2;rw[if_neg (by decide),if_neg (by decide),if_pos rfl]at h1;exact .QG t h1
     .rw[if_neg (by omega)]at h2
      rw[if_neg e2,if_neg e3,if_neg e4]at h1
      by_cases e10:k=10
      .subst e10
       simp only[if_true]at h1;rw[if_neg (by decide),if_neg (by decide),if_pos (by decide)]at h2
       match ks,h2,aa with
       |[a],_,hr=>exact .zP t a h1 (hr a (by simp))
      .by_cases e11:k=11
       .subst e11
        rw[if_neg (by decide),if_pos rfl]at h1;rw[if_neg (by decide),if_neg (by decide),if_pos (by decide)]at h2
        match ks,h2,aa with
        |[a],_,hr=>exact .fence t a h1 (hr a (by simp))
       .rw[if_neg e10,if_neg e11]at h1
        have ht:t=[]:=by simpa using h1
        subst ht
        by_cases e9:k=9
        .subst e9
         rw[if_neg (by decide),if_pos rfl]at h2
         match ks,h2,aa with
         |[a,b,d],_,hr=>exact .both a b d (hr a (by simp)) (hr b (by simp)) (hr d (by simp))
        .by_cases e58:k=5\/k=6\/k=7\/k=8
         .rw[if_pos e58]at h2
          match ks,h2,aa with
          |[a,b],_,hr=>
           have ha:=hr a (by simp);have hb:=hr b (by simp)
           rcases e58 with rfl|rfl|rfl|rfl
           .exact .Gn a b ha hb
           .exact .root a b ha hb
           .exact .sub a b ha hb
           .exact .sup a b ha hb
         .rw[if_neg e58,if_neg e9,if_neg (by omega)]at h2
          cases h2
  .rw[if_pos hc]at h2;cases h2
end Tr
namespace Tr
open Lx (Tok)
theorem rZ(t:QJ):bT (.mk 2 t 0 [])=[if t.length=1 then⟨1,t⟩else⟨4,t⟩]:=by rw[bT]<;>first|rfl|(intros;simp_all)
theorem r9(t:QJ):bT (.mk 3 t 0 [])=[⟨2,t⟩]:=by rw[bT]<;>first|rfl|(intros;simp_all)
theorem qA(t:QJ):bT (.mk 4 t 0 [])=[⟨3,t⟩]:=by rw[bT]<;>first|rfl|(intros;simp_all)
theorem vO(a b:Nd):bT (.mk 5 [] 0 [a,b])=name oO::(dD a++dD b):=by rw[bT]<;>first|rfl|(intros;simp_all)
theorem vP(a b:Nd):bT (.mk 6 [] 0 [a,b])=name mU::((if a.Qx=[]then []else aI 91::(bC a.Qx++[aI 93]))++dD b):=by rw[bT]<;>first|rfl|(intros;simp_all)
theorem zQ(a b:Nd):bT (.mk 7 [] 0 [a,b])=gG a++aI 95::dD b:=by rw[bT]<;>first|rfl|(intros;simp_all)
theorem zR(a b:Nd):bT (.mk 8 [] 0 [a,b])=gG a++aI 94::dD b:=by rw[bT]<;>first|rfl|(intros;simp_all)
theorem xR(a b d:Nd):bT (.mk 9 [] 0 [a,b,d])=gG a++aI 95::(dD b++aI 94::dD d):=by rw[bT]<;>first|rfl|(intros;simp_all)
theorem rC(t:QJ)(a:Nd):bT (.mk 10 t 0 [a])=name t::dD a:=by rw[bT]<;>first|rfl|(intros;simp_all)
theorem uB(t:QJ)(a:Nd):bT (.mk 11 t 0 [a])=if t=[40,41]\/t=[91,93]then aI (t.headD 0)::(bC a.Qx++[aI (t.getLastD 0)])else⟨5,t⟩::dD a:=by rw[bT]<;>first|rfl|(intros;simp_all)
theorem rD(c:Int)(ks:List Nd)(h:ks≠[]):bT (.mk 12 [] c ks)=name bY::aI 123::(bF c 0 ks++[aI 125]):=by
 match ks,h with
 |[a],_=>rw[bT]<;>first|rfl|(intros;simp_all)
 |[a,b],_=>rw[bT]<;>first|rfl|(intros;simp_all)
 |[a,b,d],_=>rw[bT]<;>first|rfl|(intros;simp_all)
 |a::b::d::e::l,_=>rw[bT]<;>first|rfl|(intros;simp_all)
theorem y5(a:Nd):dD a=match a.Qx with|[x]=>if leaf x then bT x else aI 123::(bC [x]++[aI 125])|ks=>aI 123::(bC ks++[aI 125]):=by
 obtain⟨k,t,c,ks⟩:=a
 match ks with
 |[]=>rw[dD]<;>first|rfl|(intros;simp_all)
 |[x]=>rw[dD];rfl
 |x::y::l=>rw[dD]<;>first|rfl|(intros;simp_all)
theorem wU(a:Nd):gG a=match a.Qx with|[x]=>if gY x then aI 123::(bC [x]++[aI 125])else bT x|ks=>aI 123::(bC ks++[aI 125]):=by
 obtain⟨k,t,c,ks⟩:=a
 match ks with
 |[]=>rw[gG]<;>first|rfl|(intros;simp_all)
 |[x]=>rw[gG];rfl
 |x::y::l=>rw[gG]<;>first|rfl|(intros;simp_all)
theorem o5(n:Nd)(ns:List Nd):bC (n::ns)=bT n++bC ns:=by rw[bC]
theorem qU:bC []=[]:=by rw[bC]
theorem ML(x:Tok)(r:List Tok)(h:pF x=true):yZ (x::r):=by
 refine⟨jP _ _ _ ?_,jP _ _ _ ?_⟩<;>(rintro rfl;revert h;decide)
theorem fE.views{a:Nd}(h:fE a):∀x∈a.Qx,View x:=λx hx=>aen x (h.QS x hx).2 (h.QS x hx).1
theorem base_start(a:Nd)(ha:fE a)(ih:∀x∈a.Qx,View x->∃t r,bT x=t::r/\pF t=true):∃t r,gG a=t::r/\pF t=true:=by
 rw[wU];have hv:=ha.views;split
 .rename_i x hx
  split
  .exact⟨aI 123,_,rfl,rfl⟩
  .exact ih x (by rw[hx];simp) (hv x (by rw[hx];simp))
 .exact⟨aI 123,_,rfl,rfl⟩
theorem Le(n:Nd):View n->∃t r,bT n=t::r/\pF t=true:=by
 have:∀m n,count n<=m->View n->∃t r,bT n=t::r/\pF t=true:=by
  intro m
  induction m with
  |zero=>intro n h;have:=bX n;omega
  |succ m ih=>
   intro n hc v
   have hb:∀(k:Int) (t:QJ) (c:Int) (a:Nd) (l:List Nd),n=.mk k t c (a::l)->fE a->∃t r,gG a=t::r/\pF t=true:=λk t c a l e ha=>base_start a ha λx hx vx=>ih x (by
    have h1:=cB hx;have h2:=aN a;rw[e,count,az]at hc;omega) vx
   cases v with
   |sym t h=>rw[rZ];by_cases hl:t.length=1<;>simp only[hl,if_true,if_false]<;>exact⟨_,_,rfl,rfl⟩
   |num t h=>rw[r9];exact⟨_,_,rfl,rfl⟩
   |QG t h=>rw[qA];exact⟨_,_,rfl,rfl⟩
   |Gn a b ha hb=>rw[vO];exact⟨_,_,rfl,rfl⟩
   |root a b ha hb=>rw[vP];exact⟨_,_,rfl,rfl⟩
   |sub a b ha hb'=>
    rw[zQ];obtain⟨x,r,e,h⟩:=hb _ _ _ a _ rfl ha;rw[e];exact⟨x,_,rfl,h⟩
   |sup a b ha hb'=>
    rw[zR];obtain⟨x,r,e,h⟩:=hb _ _ _ a _ rfl ha;rw[e];exact⟨x,_,rfl,h⟩
   |both a b d ha hb' hd=>
    rw[xR];obtain⟨x,r,e,h⟩:=hb _ _ _ a _ rfl ha;rw[e];exact⟨x,_,rfl,h⟩
   |zP t a h ha=>rw[rC];exact⟨_,_,rfl,rfl⟩
   |fence t a h ha=>
    rw[uB];split
    .rename_i ht
     rcases ht with rfl|rfl<;>exact⟨_,_,rfl,rfl⟩
    .exact⟨_,_,rfl,rfl⟩
   |matrix c ks hc hn hm h=>
    rw[rD c ks (by rintro rfl;simp at hn)];exact⟨_,_,rfl,rfl⟩
 exact this _ n (au3 _)
theorem Qi(ks:List Nd)(hk:∀x∈ks,View x)(r:List Tok)(hr:yZ r):yZ (bC ks++r):=by
 cases ks with
 |nil=>rw[qU];exact hr
 |cons x ks=>
  obtain⟨t,r',e,h⟩:=Le x (hk x (by simp));rw[o5,e];exact ML t _ h
structure PU(m:Nat):Prop where
 item:∀n,count n<=m->View n->∀r,yZ r->Ev λf=>eP f (bT n++r)=some (n,r)
 base:∀n,count n<=m->View n->gY n=false->∀r,Ev λf=>jX f (bT n++r)=some ([n],r)
theorem PU.row{m:Nat}(h:PU m):∀ks,(∀x∈ks,View x/\count x<=m)->∀r,stop r->Ev λf=>cZ f (bC ks++r)=some (ks,r)
 |[],_,r,hr=>Ev.succ (Ev.of λf=>by rw[qU,avn,cZ,if_neg (by rw[hr.1];decide)])
 |x::ks,hk,r,hr=>by
  obtain⟨hv,hc⟩:=hk x (by simp);have ih:=PU.row h ks (λy hy=>hk y (by simp[hy])) r hr;have aa:yZ (bC ks++r):=Qi ks (λy hy=>(hk y (by simp[hy])).1) r hr.2;refine Ev.succ (((h.item x hc hv _ aa).and ih).mono λf ⟨h1,h2⟩=>?_);obtain⟨t,r',e,hs⟩:=Le x hv;have hst:starts (bT x++(bC ks++r))=true:=by rw[e];exact hs
  rw[o5,au6,cZ,if_pos hst,h1];simp[h2]
end Tr
namespace Tr
open Lx (Tok)
theorem Gp(b:UInt8)(r:List Tok)(h1:pF (aI b)=false)(h2:aI b≠aI 95)(h3:aI b≠aI 94):stop (aI b::r):=⟨h1,jP _ _ _ h2,jP _ _ _ h3⟩
theorem xS{m:Nat}{a:Nd}(ha:fE a)(hc:count a<=m+1):∀x∈a.Qx,View x/\count x<=m:=λx hx=>⟨ha.views x hx,by
 have h1:=cB hx;have h2:=aN a;omega⟩
theorem Vg(t:QJ)(h:GK.contains t=false):t≠oO/\t≠mU/\t≠bY:=by
 refine⟨?_,?_,?_⟩<;>(rintro rfl;revert h;decide)
theorem Gq(t:QJ)(h:symbol t=true)(hl:t.length≠1):GK.contains t=false/\eu.contains t=false:=by
 unfold symbol at h
 match t,hl with
 |[],_=>revert h;decide
 |[c],hl=>exact absurd rfl hl
 |a::b::l,_=>
  simp only[auY,avN]at h;exact⟨h.1.2,h.2⟩
theorem YK(t:QJ)(h:symbol t=true)(hl:t.length≠1):Gm t=true:=by
 obtain⟨n1,n2⟩:=Gq t h hl;obtain⟨e1,e2,e3⟩:=Vg t n1;unfold Gm;rw[n2];simp[hl,e1,e2,e3]
theorem PU.Gr{m:Nat}(h:PU m)(a:Nd)(ha:fE a)(hc:count a<=m+1)(r:List Tok)(b:UInt8)(h1:pF (aI b)=false)(h2:aI b≠aI 95)(h3:aI b≠aI 94):
  Ev λf=>cZ f ((bC a.Qx++[aI b])++r)=some (a.Qx,aI b::r):=by
 have:=h.row a.Qx (xS ha hc) (aI b::r) (Gp b r h1 h2 h3);simpa using this
theorem PU.arg{m:Nat}(h:PU m)(a:Nd)(ha:fE a)(hc:count a<=m+1)(r:List Tok):Ev λf=>pArg f (dD a++r)=some (a,r):=by
 have hr:=wF a ha.1 ha.2
 have hb:Ev λf=>pArg f ((aI 123::(bC a.Qx++[aI 125]))++r)=some (a,r):=by
  refine Ev.succ ((h.Gr a ha hc r 125 (by decide) (by decide) (by decide)).mono λf h1=>?_);rw[au',pArg,if_neg (by first|decide|simp),if_neg (by first|decide|simp),if_neg (by first|decide|simp),if_pos rfl,h1];show some (Tr.row a.Qx,r)=_;rw[<-hr]
 rw[y5];split
 .rename_i x hx
  rw[hx]at hb;split
  .rename_i hl
   have hv:=ha.views x (by rw[hx];simp);rw[hr,hx];unfold leaf at hl;cases hv with
   |sym t ht=>
    rw[rZ];refine Ev.succ (Ev.of λf=>?_)
    by_cases h1:t.length=1
    .rw[if_pos h1,av',pArg,if_pos (.inl rfl)]
    .rw[if_neg h1,av',pArg,if_pos (.inr ⟨rfl,YK t ht h1⟩)]
   |num t ht=>
    rw[r9];exact Ev.succ (Ev.of λf=>by rw[av',pArg,if_neg (by first|decide|simp),if_pos rfl])
   |QG t ht=>
    rw[qA];exact Ev.succ (Ev.of λf=>by rw[av',pArg,if_neg (by first|decide|simp),if_neg (by first|decide|simp),if_pos rfl])
   |_=>revert hl;simp[Nd.QI]
  .exact hb
 .exact hb
theorem PU.V3{m:Nat}(h:PU m)(a:Nd)(ha:fE a)(hc:count a<=m+1)(r:List Tok):Ev λf=>jX f (gG a++r)=some (a.Qx,r):=by
 have hb:Ev λf=>jX f ((aI 123::(bC a.Qx++[aI 125]))++r)=some (a.Qx,r):=by
  refine Ev.succ ((h.Gr a ha hc r 125 (by decide) (by decide) (by decide)).mono λf h1=>?_);rw[au',jX,if_neg (by first|decide|simp),if_neg (by first|decide|simp),if_neg (by first|decide|simp),if_neg (by first|decide|simp),if_neg (by first|decide|simp),if_neg (by first|decide|simp),if_neg (by first|decide|simp),if_pos rfl,h1];rfl
 rw[wU];split
 .rename_i x hx
  rw[hx]at hb|-;split
  .exact hb
  .rename_i hs
   obtain⟨hv,af⟩:=xS ha hc x (by rw[hx];simp);exact h.base x af hv (by simpa using hs) r
 .exact hb
theorem iK{m:Nat}{k:Int}{t:QJ}{c:Int}{ks:List Nd}(hc:count (.mk k t c ks)<=m+1)(a:Nd)(h:a∈ks):count a<=m+1:=by
 rw[count]at hc;have:=cB h;omega
theorem Qj(t:QJ)(h:eu.contains t=true):t≠oO/\t≠mU/\t≠bY:=by
 refine⟨?_,?_,?_⟩<;>(rintro rfl;revert h;decide)
theorem Vh(c:Nat):∀(ks:List Nd) (i:Nat),i<c->c<=i+ks.length->rA ((ks.zipIdx i).map λp=>(p.1,decide (((p.2:Int)+1)%(c:Int)=0)))=(c:Int)-i
 |[],i,h1,h2=>by simp at h2;omega
 |x::l,i,h1,h2=>by
  rw[awu,avg,rA]
  by_cases h:i+1=c
  .have e:decide (((i:Int)+1)%(c:Int)=0)=true:=by
    rw[decide_eq_true_iff,<-h];simp
   simp only[e,if_true];omega
  .have e:decide (((i:Int)+1)%(c:Int)=0)=false:=by
    rw[decide_eq_false_iff_not,Int.emod_eq_of_lt (by omega) (by omega)];omega
   have ih:=Vh c l (i+1) (by omega) (by simp at h2;omega);simp only[e,Bool.false_eq_true,if_false];rw[ih];omega
theorem PU.cells{m:Nat}(h:PU m)(c:Int)(r:List Tok):∀(ns:List Nd) (n:Nd) (i:Nat),(∀k∈n::ns,fE k/\count k<=m+1)->((i:Int)+(n::ns).length)%c=0->
  Ev λf=>di f (bC n.Qx++(bF c (i+1) ns++(aI 125::r)))=some (((n::ns).zipIdx i).map (λp=>(p.1,decide (((p.2:Int)+1)%c=0))),aI 125::r)
 |[],n,i,hk,hm=>by
  obtain⟨hr,hc⟩:=hk n (by simp);have e:bF c (i+1) []=[]:=by rw[bF]
  rw[e,avn];refine Ev.succ ((h.row n.Qx (xS hr hc) _ (Gp 125 r (by decide) (by decide) (by decide))).mono λf h1=>?_);rw[di,h1];simp only[avO];rw[jP _ _ _ (by decide),jP _ _ _ (by decide)];have e2:decide (((i:Int)+1)%c=0)=true:=by rw[decide_eq_true_iff];simpa using hm
  simp only[awu,List.zipIdx_nil,avg,List.map_nil,e2];rw[<-wF n hr.1 hr.2]
 |n'::ns,n,i,hk,hm=>by
  obtain⟨hr,hc⟩:=hk n (by simp)
  have ih:=PU.cells h c r ns n' (i+1) (λk hk'=>hk k (by simp at hk'|-;exact .inr hk')) (by
   simp only[List.length_cons]at hm|-;rw[<-hm];congr 1;omega)
  have e:bF c (i+1) (n'::ns)=(if((i:Int)+1)%c=0 then(⟨8,[92,92]⟩:Tok)else aI 38)::(bC n'.Qx++bF c (i+1+1) ns):=by
   rw[bF,if_neg (by omega)];have:((i+1:Nat):Int)=(i:Int)+1:=by omega
   rw[this];split<;>rfl
  rw[e]
  by_cases hb:((i:Int)+1)%c=0
  .rw[if_pos hb]
   refine Ev.succ (((h.row n.Qx (xS hr hc) ((⟨8,[92,92]⟩:Tok)::(bC n'.Qx++(bF c (i+1+1) ns++(aI 125::r)))) ⟨by rfl,jP _ _ _ (by decide),jP _ _ _ (by decide)⟩).and ih).mono λf ⟨h1,h2⟩=>?_);rw[au',au6,di,h1];simp only[avO];rw[jP _ _ _ (by decide),jC];simp only[h2,awk];rw[awu («as»:=n'::ns),avg,<-wF n hr.1 hr.2,decide_eq_true hb]
  .rw[if_neg hb]
   refine Ev.succ (((h.row n.Qx (xS hr hc) (aI 38::(bC n'.Qx++(bF c (i+1+1) ns++(aI 125::r)))) (Gp 38 _ (by decide) (by decide) (by decide))).and ih).mono λf ⟨h1,h2⟩=>?_);rw[au',au6,di,h1];simp only[avO];rw[jC];simp only[h2,awk];rw[awu («as»:=n'::ns),avg,<-wF n hr.1 hr.2,decide_eq_false hb]
theorem PU.YL{m:Nat}(h:PU m)(n:Nd)(hc:count n<=m+1)(v:View n)(hs:gY n=false)(r:List Tok):
  Ev λf=>jX f (bT n++r)=some ([n],r):=by
 cases v with
 |sym t ht=>
  rw[rZ];refine Ev.succ (Ev.of λf=>?_)
  by_cases h1:t.length=1
  .rw[if_pos h1,av',jX,if_pos rfl]
  .obtain⟨n1,n2⟩:=Gq t ht h1
   obtain⟨e1,e2,e3⟩:=Vg t n1;rw[if_neg h1,av',jX,if_neg (by first|decide|simp),if_neg (by first|decide|simp),if_neg (by first|decide|simp),if_neg (by first|decide|simp),if_pos rfl,if_neg e1,if_neg e2,if_neg e3,if_neg (by rw[n2];decide),if_neg h1]
 |num t ht=>
  rw[r9];exact Ev.succ (Ev.of λf=>by rw[av',jX,if_neg (by first|decide|simp),if_pos rfl])
 |QG t ht=>
  rw[qA];exact Ev.succ (Ev.of λf=>by rw[av',jX,if_neg (by first|decide|simp),if_neg (by first|decide|simp),if_pos rfl])
 |Gn a b ha hb=>
  rw[vO];refine Ev.succ (((h.arg a ha (iK hc a (by simp)) (dD b++r)).and (h.arg b hb (iK hc b (by simp)) r)).mono λf ⟨h1,h2⟩=>?_);rw[au',au6,name,jX,if_neg (by first|decide|simp),if_neg (by first|decide|simp),if_neg (by first|decide|simp),if_neg (by first|decide|simp),if_pos rfl,if_pos rfl,h1];simp[h2]
 |root a b ha hb=>
  rw[vP];have ac:=wF a ha.1 ha.2;have hB:=h.arg b hb (iK hc b (by simp)) r
  by_cases h0:a.Qx=[]
  .rw[if_pos h0,avn]
   have hex:expect (aI 91) (dD b++r)=none:=by
    have:∃x l,dD b=x::l/\x≠aI 91:=by
     rw[y5];split
     .rename_i x hx
      split
      .rename_i hl
       have hv:=hb.views x (by rw[hx];simp);unfold leaf at hl;cases hv with
       |sym t ht=>
        rw[rZ];refine⟨_,_,rfl,?_⟩;split<;>(intro e;cases e)
       |num t ht=>rw[r9];exact⟨_,_,rfl,λe=>by cases e⟩
       |QG t ht=>rw[qA];exact⟨_,_,rfl,λe=>by cases e⟩
       |_=>revert hl;simp[Nd.QI]
      .exact⟨_,_,rfl,by decide⟩
     .exact⟨_,_,rfl,by decide⟩
    obtain⟨x,l,e,hx⟩:=this;rw[e];exact jP _ _ _ hx
   refine Ev.succ (hB.mono λf h1=>?_);rw[au',name,jX,if_neg (by first|decide|simp),if_neg (by first|decide|simp),if_neg (by first|decide|simp),if_neg (by first|decide|simp),if_pos rfl,if_neg (by first|decide|simp),if_pos rfl,hex,h1];rw[ac,h0];rfl
  .rw[if_neg h0]
   have hA:=h.Gr a ha (iK hc a (by simp)) (dD b++r) 93 (by decide) (by decide) (by decide);refine Ev.succ ((hA.and hB).mono λf ⟨h1,h2⟩=>?_);have e:(name mU::((aI 91::(bC a.Qx++[aI 93]))++dD b))++r=name mU::aI 91::((bC a.Qx++[aI 93])++(dD b++r)):=by simp
   rw[e,name,jX,if_neg (by first|decide|simp),if_neg (by first|decide|simp),if_neg (by first|decide|simp),if_neg (by first|decide|simp),if_pos rfl,if_neg (by first|decide|simp),if_pos rfl,jC];simp only[h1,avO,jC,h2,awk];rw[<-ac]
 |sub a b=>cases hs
 |sup a b=>cases hs
 |both a b d=>cases hs
 |zP t a ht ha=>
  rw[rC];obtain⟨e1,e2,e3⟩:=Qj t ht;refine Ev.succ ((h.arg a ha (iK hc a (by simp)) r).mono λf h1=>?_);rw[au',name,jX,if_neg (by first|decide|simp),if_neg (by first|decide|simp),if_neg (by first|decide|simp),if_neg (by first|decide|simp),if_pos rfl,if_neg e1,if_neg e2,if_neg e3,if_pos ht,h1];rfl
 |fence t a ht ha=>
  have ac:=wF a ha.1 ha.2;rw[uB]
  by_cases h0:t=[40,41]\/t=[91,93]
  .rw[if_pos h0]
   rcases h0 with rfl|rfl
   .refine Ev.succ ((h.Gr a ha (iK hc a (by simp)) r 41 (by decide) (by decide) (by decide)).mono λf h1=>?_)
    rw[au',jX,if_neg (by first|decide|simp),if_neg (by first|decide|simp),if_neg (by first|decide|simp),if_neg (by first|decide|simp),if_neg (by first|decide|simp),if_pos (by decide)];have h1':cZ f (bC a.Qx++[aI (([40,41]:QJ).getLastD 0)]++r)=some (a.Qx,aI 41::r):=h1;rw[h1'];simp only[avO,jC,awk];rw[<-ac]
   .refine Ev.succ ((h.Gr a ha (iK hc a (by simp)) r 93 (by decide) (by decide) (by decide)).mono λf h1=>?_)
    rw[au',jX,if_neg (by first|decide|simp),if_neg (by first|decide|simp),if_neg (by first|decide|simp),if_neg (by first|decide|simp),if_neg (by first|decide|simp),if_neg (by first|decide|simp),if_pos (by decide)];have h1':cZ f (bC a.Qx++[aI (([91,93]:QJ).getLastD 0)]++r)=some (a.Qx,aI 93::r):=h1;rw[h1'];simp only[avO,jC,awk];rw[<-ac]
  .rw[if_neg h0]
   refine Ev.succ ((h.arg a ha (iK hc a (by simp)) r).mono λf h1=>?_);rw[au',jX,if_neg (by first|decide|simp),if_neg (by first|decide|simp),if_neg (by first|decide|simp),if_pos rfl,h1];rfl
 |matrix c ks hc1 hn hm hk=>
  rw[rD c ks (by rintro rfl;simp at hn)]
  have ad:Ev λf=>di f (bF c 0 ks++(aI 125::r))=some ((ks.zipIdx.map λp=>(p.1,decide (((p.2:Int)+1)%c=0))),aI 125::r):=by
   match ks,hn with
   |k::l,_=>
    have e:bF c 0 (k::l)=bC k.Qx++bF c 1 l:=by rw[bF,if_pos rfl,avn]
    rw[e,au6];exact h.cells c r l k 0 (λx hx=>⟨hk x hx,iK hc x hx⟩) (by simpa using hm)
  refine Ev.succ (ad.mono λf h1=>?_);have e:(name bY::aI 123::(bF c 0 ks++[aI 125]))++r=name bY::aI 123::(bF c 0 ks++(aI 125::r)):=by simp
  rw[e,name,jX,if_neg (by first|decide|simp),if_neg (by first|decide|simp),if_neg (by first|decide|simp),if_neg (by first|decide|simp),if_pos rfl,if_neg (by first|decide|simp),if_neg (by first|decide|simp),if_pos rfl,jC];simp only[avO,h1,jC];obtain⟨cn,rfl⟩:∃cn:Nat,c=cn:=⟨c.toNat,by omega⟩
  have hle:cn<=ks.length:=by
   rcases avE ks.length cn with hlt|ai
   .rw[Int.emod_eq_of_lt (by omega) (by omega)]at hm;omega
   .exact ai
  have e1:=Vh cn ks 0 (by omega) (by omega)
  rw[e1,if_pos (by
   have hz:((cn:Int)-((0:Nat):Int))=(cn:Int):=by omega
   rw[hz];unfold ends;apply List.ext_getElem
   .simp
   .intro i h1 h2;simp)]
  have e2:(List.map (λx=>x.fst) (List.map (λp=>(p.fst,decide (((p.2:Int)+1)%(cn:Int)=0))) ks.zipIdx))=ks:=by
   rw[List.map_map];have:((λx:Nd×Bool=>x.fst)∘λp:Nd×Nat=>(p.fst,decide (((p.2:Int)+1)%(cn:Int)=0)))=Prod.fst:=rfl;rw[this];simp
  rw[e2];simp
theorem Qk(n:Nd)(v:View n)(hs:gY n=false)(r:List Tok):pE (bT n++r)=false:=by
 cases v with
 |sym t h=>rw[rZ];by_cases hl:t.length=1<;>simp[hl,pE,aI]
 |num t h=>rw[r9];simp[pE,aI]
 |QG t h=>rw[qA];simp[pE,aI]
 |Gn a b ha hb=>rw[vO];simp[pE,aI,name]
 |root a b ha hb=>rw[vP];simp[pE,aI,name]
 |zP t a h ha=>rw[rC];simp[pE,aI,name]
 |fence t a h ha=>
  rw[uB];split
  .rename_i ht
   rcases ht with rfl|rfl<;>simp[pE,aI]
  .simp[pE,aI]
 |matrix c ks hc hn hm h=>rw[rD c ks (by rintro rfl;simp at hn)];simp[pE,aI,name]
 |_=>cases hs
theorem PU.step{m:Nat}(h:PU m):PU (m+1):=by
 have hbase:∀n,count n<=m+1->View n->gY n=false->∀r,Ev λf=>jX f (bT n++r)=some ([n],r):=λn hc v hs r=>h.YL n hc v hs r
 refine⟨λn hc v r hr=>?_,hbase⟩
 by_cases hs:gY n=false
 .refine Ev.succ ((hbase n hc v hs r).mono λf h1=>?_)
  rw[eP,h1];simp only[avO];rw[hr.1,hr.2];simp only
  rw[if_neg (by rw[Qk n v hs r];decide)]
 .cases v with
  |sub a b ha hb=>
   rw[zQ];have e:(gG a++aI 95::dD b)++r=gG a++(aI 95::(dD b++r)):=by simp
   rw[e];refine Ev.succ (((h.V3 a ha (iK hc a (by simp)) (aI 95::(dD b++r))).and (h.arg b hb (iK hc b (by simp)) r)).mono λf ⟨h1,h2⟩=>?_);rw[eP,h1];simp only[avO];rw[jC];simp only[h2,avO];rw[hr.2,<-wF a ha.1 ha.2]
  |sup a b ha hb=>
   rw[zR];have e:(gG a++aI 94::dD b)++r=gG a++(aI 94::(dD b++r)):=by simp
   rw[e];refine Ev.succ (((h.V3 a ha (iK hc a (by simp)) (aI 94::(dD b++r))).and (h.arg b hb (iK hc b (by simp)) r)).mono λf ⟨h1,h2⟩=>?_);rw[eP,h1];simp only[avO];rw[jP _ _ _ (by decide),jC];simp only[h2,awk];rw[<-wF a ha.1 ha.2]
  |both a b d ha hb hd=>
   rw[xR];have e:(gG a++aI 95::(dD b++aI 94::dD d))++r=gG a++(aI 95::(dD b++(aI 94::(dD d++r)))):=by simp
   rw[e];refine Ev.succ (((h.V3 a ha (iK hc a (by simp)) (aI 95::(dD b++(aI 94::(dD d++r))))).and ((h.arg b hb (iK hc b (by simp)) (aI 94::(dD d++r))).and (h.arg d hd (iK hc d (by simp)) r))).mono λf ⟨h1,h2,h3⟩=>?_);rw[eP,h1];simp only[avO];rw[jC];simp only[h2,avO];rw[jC];simp only[h3,awk];rw[<-wF a ha.1 ha.2]
  |_=>exact absurd rfl hs
theorem PU.all(m:Nat):PU m:=by
 induction m with
 |zero=>exact⟨λn h=>by have:=bX n;omega,λn h=>by have:=bX n;omega⟩
 |succ m ih=>exact ih.step
end Tr
namespace Np
open Lx (aB Tok)
open Tr (Nd Ev aI expect oO mU bY)
def bare(ts:List Tok):List aB:=ts.map λt=>⟨t.QI,t.QG,0,0⟩
theorem dL(t:Tok)(r:List Tok):bare (t::r)=⟨t.QI,t.QG,0,0⟩::bare r:=rfl
theorem kL{t:Tok}{ts r:List Tok}(h:expect t ts=some r):ts=t::r:=by
 cases ts with
 |nil=>cases h
 |cons x l=>
  simp only[expect]at h
  by_cases hx:x=t
  .rw[if_pos hx]at h;cases h;rw[hx]
  .rw[if_neg hx]at h;cases h
theorem wh(b:UInt8)(ts:List Tok):dx b (bare ts)=(expect (aI b) ts).isSome:=by
 cases ts with
 |nil=>rfl
 |cons x l=>
  simp only[expect]
  by_cases hx:x=aI b
  .rw[if_pos hx];subst hx;simp[dL,dx,aI]
  .rw[if_neg hx]
   simp only[dL,dx]
   by_cases hk:x.QI=7
   .have:x.QG≠[b]:=λht=>hx (by obtain⟨k,t⟩:=x;simp at hk ht;rw[hk,ht];rfl)
    simp[this]
   .simp[hk]
theorem Pv{t:List UInt8}(h:Tr.Gm t=true):t.length≠1/\special t=false:=by
 unfold Tr.Gm at h;simp only[auY,avN,beq_eq_false_iff_ne]at h;obtain⟨⟨⟨⟨h1,h2⟩,h3⟩,h4⟩,h5⟩:=h;refine⟨h1,?_⟩;unfold special tH;rw[h5];simp[h2,h3,h4]
def PV(op:List Nat)(r:List Tok):Prop:=(r=[]/\op=[])\/stops (bare r)=true
structure Reads(f:Nat):Prop where
 arg:∀ts a r,Tr.pArg f ts=some (a,r)->∀op,Ev λF=>pArg 0 F op (bare ts)=.ok a (bare r)
 row:∀ts ks r,Tr.cZ f ts=some (ks,r)->∀op,PV op r->Ev λF=>cZ 0 F op (bare ts)=.ok ks (bare r)
 base:∀ts ks r,Tr.jX f ts=some (ks,r)->∀op,Ev λF=>dA 0 F op (bare ts)=.ok ks (bare r)
 item:∀ts u r,Tr.eP f ts=some (u,r)->dx 95 (bare r)=false->∀op,Ev λF=>eP 0 F op (bare ts)=.ok [u] (bare r)
theorem Ai{b o:UInt8}{ts r:List Tok}{ks:List Nd}(hb:stops (bare (aI b::r))=true)(h:∀op,PV op (aI b::r)->Ev λF=>cZ 0 F op (bare ts)=.ok ks (bare (aI b::r)))(op:List Nat):
  Ev λF=>kE 0 F b op (bare (aI o::ts))=.ok ks (bare r):=by
 refine Ev.succ ((h (op++[0]) (.inr hb)).mono λF h1=>?_);rw[kE];show R.bind (cZ 0 F (op++[0]) (bare ts)) _=_;rw[h1];show(if dx b (bare (aI b::r))then _ else _)=_;rw[wh,Tr.jC];rfl
theorem Reads.ajc{f:Nat}(ih:Reads f)(ts:List Tok)(a:Nd)(r:List Tok)(h:Tr.pArg (f+1) ts=some (a,r))(op:List Nat):Ev λF=>pArg 0 F op (bare ts)=.ok a (bare r):=by
 cases ts with
 |nil=>simp[Tr.pArg]at h
 |cons x l=>
  rw[Tr.pArg]at h;split at h
  .rename_i hk
   cases h;refine Ev.succ (Ev.of λF=>?_)
   rcases hk with hk|⟨hk,hp⟩
   .simp[dL,pArg,fO,hk,CG,Tr.row]
   .obtain⟨p1,p2⟩:=Pv hp
    simp[dL,pArg,fO,hk,CG,Tr.row,dx,p1,p2,plainName,R.map,R.bind]
  .split at h
   .rename_i hk
    cases h;exact Ev.succ (Ev.of λF=>by simp[dL,pArg,fO,hk,CG,Tr.row])
   .split at h
    .rename_i hk
     cases h;exact Ev.succ (Ev.of λF=>by simp[dL,pArg,fO,hk,CG,Tr.row])
    .split at h
     .rename_i hk
      subst hk;simp only[avJ,avz]at h;obtain⟨⟨ks,r1⟩,h1,r2,h2,h3⟩:=h;cases h3;have e:=kL h2;simp only at e;subst e;refine Ev.succ ((Ai (o:=123) (by rfl) (λop ho=>ih.row _ _ _ h1 op ho) op).mono λF h4=>?_);rw[dL,pArg];simp only[fO,aI];rw[dL]at h4;simp[dx,aI,R.map,R.bind,CG,Tr.row]at h4|-
      rw[h4]
     .cases h
theorem U0{x:Tok}(h:Tr.pF x=true):x.QI≠8/\(x.QI=7->x.QG=[40]\/x.QG=[91]\/x.QG=[123]):=by
 unfold Tr.pF at h;simp only[av3,auY,beq_iff_eq]at h
 rcases h with((((h|h)|h)|h)|h)|⟨h,h2⟩
 all_goals (refine⟨by omega,λhk=>?_⟩)
 all_goals first|omega|(rcases h2 with(h2|h2)|h2<;>simp[h2])
theorem Ii{ts:List Tok}(h:Tr.starts ts=true):(bare ts).isEmpty=false/\stops (bare ts)=false/\dx 95 (bare ts)=false:=by
 cases ts with
 |nil=>cases h
 |cons x l=>
  obtain⟨h1,h2⟩:=U0 (x:=x) h;refine⟨rfl,?_,?_⟩
  .simp only[stops,j5,dx,dL]
   by_cases hk:x.QI=7
   .rcases h2 hk with ht|ht|ht<;>simp[hk,ht]
   .simp[hk,h1]
  .simp only[dx,dL]
   by_cases hk:x.QI=7
   .rcases h2 hk with ht|ht|ht<;>simp[hk,ht]
   .simp[hk]
theorem acY{op:List Nat}{r:List Tok}(h:PV op r):dx 95 (bare r)=false:=by
 rcases h with⟨rfl,_⟩|h
 .rfl
 .cases r with
  |nil=>cases h
  |cons x l=>
   simp only[stops,j5,dx,dL,av3,auY,beq_iff_eq]at h|-
   rcases h with(((h|⟨h,h'⟩)|⟨h,h'⟩)|⟨h,h'⟩)|⟨h,h'⟩
   all_goals simp[h]
   all_goals simp[h']
theorem Reads.ajd{f:Nat}(ih:Reads f)(ts:List Tok)(ks:List Nd)(r:List Tok)(h:Tr.cZ (f+1) ts=some (ks,r))(op:List Nat)(ho:PV op r):Ev λF=>cZ 0 F op (bare ts)=.ok ks (bare r):=by
 rw[Tr.cZ]at h;split at h
 .rename_i hs
  simp only[avJ,avz]at h;obtain⟨⟨u,r1⟩,h1,⟨q,r2⟩,h2,h3⟩:=h;cases h3;obtain⟨e1,e2,_⟩:=Ii hs
  have hn:dx 95 (bare r1)=false:=by
   cases f with
   |zero=>rw[Tr.cZ]at h2;cases h2
   |succ f=>
    rw[Tr.cZ]at h2;split at h2
    .rename_i hs2;exact(Ii hs2).2.2
    .cases h2;exact acY ho
  refine Ev.succ (((ih.item _ _ _ h1 hn op).and (ih.row _ _ _ h2 op ho)).mono λF ⟨h4,h5⟩=>?_);rw[cZ,if_neg (by simp[e1]),if_neg (by simp[e1,e2]),h4];show R.map (cZ 0 F op (bare r1)) _=_;rw[h5];rfl
 .cases h
  refine Ev.succ (Ev.of λF=>?_);rw[cZ]
  rcases ho with⟨rfl,rfl⟩|ho
  .rfl
  .have hne:(bare ts).isEmpty=false:=by
    cases ts with
    |nil=>cases ho
    |cons x l=>rfl
   rw[if_neg (by simp[hne]),if_pos (.inr ho)]
theorem Reads.Nj{f:Nat}(ih:Reads f){b:UInt8}{ts r1:List Tok}{a:Nd}{r:List Tok}(he:expect (aI b) ts=some r1)(h:Tr.pArg f r1=some (a,r))(op:List Nat):Ev λF=>eB 0 F b op (bare ts)=.ok (some a) (bare r):=by
 have e:=kL he;subst e;refine Ev.succ ((ih.arg _ _ _ h op).mono λF h1=>?_);rw[eB,wh,he];show R.map (pArg 0 F op (bare r1)) some=_;rw[h1];rfl
theorem wM{b:UInt8}{ts:List Tok}(h:dx b (bare ts)=false)(op:List Nat):Ev λF=>eB 0 F b op (bare ts)=.ok none (bare ts):=
 Ev.succ (Ev.of λF=>by rw[eB,if_neg (by simp[h])])
theorem Aj{b:UInt8}{ts:List Tok}(h:expect (aI b) ts=none):dx b (bare ts)=false:=by rw[wh,h];rfl
theorem aaF(ts:List Tok):dx 123 (bare ts)=Tr.pE ts:=by
 cases ts with
 |nil=>rfl
 |cons x l=>
  rw[wh];simp only[expect,Tr.pE]
  by_cases h:x=aI 123<;>simp[h]
theorem Reads.ahk{f:Nat}(ih:Reads f)(ts:List Tok)(u:Nd)(r:List Tok)(h:Tr.eP (f+1) ts=some (u,r))(h95:dx 95 (bare r)=false)(op:List Nat):Ev λF=>eP 0 F op (bare ts)=.ok [u] (bare r):=by
 rw[Tr.eP]at h;simp only[avJ]at h;obtain⟨⟨base,p⟩,h1,h⟩:=h;simp only at h;have HB:=ih.base _ _ _ h1 op;split at h
 .rename_i r1 he
  simp only[avJ]at h;obtain⟨⟨q,q2⟩,h2,h⟩:=h;simp only at h;have HS:=ih.Nj he h2 op;split at h
  .rename_i r2 ae
   simp only[avz]at h;obtain⟨⟨s,s2⟩,h3,h⟩:=h;cases h;refine Ev.succ ((HB.and (HS.and (ih.Nj ae h3 op))).mono λF ⟨k1,k2,k3⟩=>?_);rw[eP,k1];simp only[R.bind,k2,k3];rfl
  .rename_i ae
   cases h;refine Ev.succ ((HB.and (HS.and (wM (Aj ae) op))).mono λF ⟨k1,k2,k3⟩=>?_);rw[eP,k1];simp only[R.bind,k2,k3];rfl
 .rename_i he
  split at h
  .rename_i r1 ae
   simp only[avz]at h;obtain⟨⟨q,q2⟩,h2,h⟩:=h;cases h;refine Ev.succ ((HB.and ((wM (Aj he) op).and ((ih.Nj ae h2 op).and (wM h95 op)))).mono λF ⟨k1,k2,k3,k4⟩=>?_);rw[eP,k1];simp only[R.bind,k2,k3,k4];rfl
  .rename_i ae
   split at h
   .split at h
    .cases h
    .rename_i hg
     cases h;refine Ev.succ ((HB.and ((wM (Aj he) op).and (wM (Aj ae) op))).mono λF ⟨k1,k2,k3⟩=>?_);rw[eP,k1];simp only[R.bind,k2,k3,aaF];rw[Bool.not_eq_true]at hg;rw[hg];rfl
   .cases h
theorem Reads.Ij{f:Nat}(ih:Reads f){ts r:List Tok}{a:Nd}(h:Tr.pArg f ts=some (a,r))(op:List Nat):Ev λF=>bV 0 F 1 op (bare ts)=.ok [a] (bare r):=by
 refine Ev.succ (Ev.mono ((ih.arg _ _ _ h op).and (⟨1,λF hF=>by obtain⟨g,rfl⟩:∃g,F=g+1:=⟨F-1,by omega⟩;rw[bV]⟩:Ev λF=>bV 0 F 0 op (bare r)=.ok [] (bare r))) λF ⟨h1,h2⟩=>?_);rw[bV,h1];show R.map (bV 0 F 0 op (bare r)) _=_;rw[h2];rfl
theorem Reads.agi{f:Nat}(ih:Reads f){ts r r':List Tok}{a b:Nd}(h:Tr.pArg f ts=some (a,r))(h':Tr.pArg f r=some (b,r'))(op:List Nat):Ev λF=>bV 0 F 2 op (bare ts)=.ok [a,b] (bare r'):=by
 refine Ev.succ (Ev.mono ((ih.arg _ _ _ h op).and (ih.Ij h' op)) λF ⟨h1,h2⟩=>?_);rw[bV,h1];show R.map (bV 0 F 1 op (bare r)) _=_;rw[h2];rfl
theorem Aw:∀cs:List (Nd×Bool),0<=Tr.rA cs
 |[]=>Int.le_refl _
 |(_,b)::l=>by
  have:=Aw l;rw[Tr.rA];split<;>omega
def Ik(f:Nat):Prop:=∀(ts:List Tok) (cs:List (Nd×Bool)) (r1 r2:List Tok),Tr.di f ts=some (cs,r1)->expect (aI 125) r1=some r2->cs.map (·.2)=Tr.ends (Tr.rA cs) cs.length->
 ∀op,Ev λF=>di 0 F op [] 0 0 (bare ts)=.ok (cs.map (·.1),(Tr.rA cs).toNat) (bare r2)
theorem Reads.ahl{f:Nat}(ih:Reads f)(hm:Ik f)(x:Tok)(ts:List Tok)(ks:List Nd)(r:List Tok)(hk:x.QI=4)(h:Tr.jX (f+1) (x::ts)=some (ks,r))(op:List Nat):
  Ev λF=>fD 0 F op ⟨x.QI,x.QG,0,0⟩ (bare ts)=.ok ks (bare r):=by
 rw[Tr.jX,if_neg (by omega),if_neg (by omega),if_neg (by omega),if_neg (by omega),if_pos hk]at h;split at h
 .rename_i ht
  simp only[avJ,avz]at h;obtain⟨⟨a,r1⟩,h1,⟨b,r2⟩,h2,h3⟩:=h;cases h3;refine Ev.succ ((ih.agi h1 h2 op).mono λF k1=>?_);rw[fD,if_pos ht,k1];rfl
 .rename_i n1
  split at h
  .rename_i ht
   split at h
   .rename_i r1 he
    simp only[avJ,avz]at h;obtain⟨⟨d,r2⟩,h1,r3,h2,⟨a,r4⟩,h3,h4⟩:=h;cases h4;have e1:=kL he;have e2:=kL h2;simp only at e2;subst e1 e2;refine Ev.succ (((Ai (o:=91) (by rfl) (λop ho=>ih.row _ _ _ h1 op ho) op).and (ih.Ij h3 op)).mono λF ⟨k1,k2⟩=>?_);rw[fD,if_neg n1,if_pos ht,wh,he,awv,if_pos rfl,k1];show R.map (bV 0 F 1 op (bare r3)) _=_;rw[k2];rfl
   .rename_i he
    simp only[avz]at h;obtain⟨⟨a,r1⟩,h1,h2⟩:=h;cases h2;refine Ev.succ ((ih.Ij h1 op).mono λF k1=>?_);rw[fD,if_neg n1,if_pos ht,Aj he,if_neg (by decide),k1];rfl
  .rename_i n2
   split at h
   .rename_i ht
    simp only[avJ]at h;obtain⟨r1,h1,⟨cs,r2⟩,h2,r3,h3,h4⟩:=h;simp only at h3 h4;split at h4
    .rename_i hE
     cases h4;have e:=kL h1;subst e;refine Ev.succ ((hm _ _ _ _ h2 h3 hE (op++[0])).mono λF k1=>?_);rw[fD,if_neg n1,if_neg n2,if_pos ht,wh,h1,awv,if_pos rfl];show R.map (di 0 F (op++[0]) [] 0 0 (bare r1)) _=_;rw[k1];have:=Aw cs;simp only[R.map,R.bind,Int.toNat_of_nonneg this]
    .cases h4
   .rename_i n3
    split at h
    .rename_i ht
     simp only[avz]at h;obtain⟨⟨a,r1⟩,h1,h2⟩:=h;cases h2;refine Ev.succ ((ih.Ij h1 op).mono λF k1=>?_);rw[fD,if_neg n1,if_neg n2,if_neg n3,if_pos (show tH x.QG=true from ht),k1];rfl
    .rename_i n4
     split at h
     .cases h
     .rename_i n5
      cases h;refine Ev.succ (Ev.of λF=>?_);rw[fD,if_neg n1,if_neg n2,if_neg n3,if_neg (show¬tH x.QG=true from n4),plainName,if_neg n5]
theorem Reads.ahm{f:Nat}(ih:Reads f)(hm:Ik f)(ts:List Tok)(ks:List Nd)(r:List Tok)(h:Tr.jX (f+1) ts=some (ks,r))(op:List Nat):Ev λF=>dA 0 F op (bare ts)=.ok ks (bare r):=by
 cases ts with
 |nil=>simp[Tr.jX]at h
 |cons x l=>
  by_cases hk4:x.QI=4
  .refine Ev.succ ((ih.ahl hm x l ks r hk4 h op).mono λF k1=>?_)
   rw[dL,dA];simp[fO,hk4]at k1|-
   exact k1
  .rw[Tr.jX]at h
   split at h
   .rename_i hk;cases h
    exact Ev.succ (Ev.of λF=>by simp[dL,dA,fO,hk])
   .split at h
    .rename_i hk;cases h
     exact Ev.succ (Ev.of λF=>by simp[dL,dA,fO,hk])
    .split at h
     .rename_i hk;cases h
      exact Ev.succ (Ev.of λF=>by simp[dL,dA,fO,hk])
     .split at h
      .rename_i hk
       simp only[avz]at h;obtain⟨⟨a,r1⟩,h1,h2⟩:=h;cases h2;refine Ev.succ ((ih.Ij h1 op).mono λF k1=>?_);simp[dL,dA,fO,hk,k1,R.map,R.bind]
      .split at h
       ·
        rename_i hx;subst hx;simp only[avJ,avz]at h;obtain⟨⟨d,r2⟩,h1,r3,h2,h4⟩:=h;cases h4;have e2:=kL h2;simp only at e2;subst e2;refine Ev.succ ((Ai (o:=40) (by rfl) (λop ho=>ih.row _ _ _ h1 op ho) op).mono λF k1=>?_);rw[dL]at k1|-;simp[dA,fO,aI,dx,R.map,R.bind]at k1|-
        rw[k1];rfl
       .split at h
        ·
         rename_i hx;subst hx;simp only[avJ,avz]at h;obtain⟨⟨d,r2⟩,h1,r3,h2,h4⟩:=h;cases h4;have e2:=kL h2;simp only at e2;subst e2;refine Ev.succ ((Ai (o:=91) (by rfl) (λop ho=>ih.row _ _ _ h1 op ho) op).mono λF k1=>?_);rw[dL]at k1|-;simp[dA,fO,aI,dx,R.map,R.bind]at k1|-
         rw[k1];rfl
        .split at h
         ·
          rename_i hx;subst hx;simp only[avJ,avz]at h;obtain⟨⟨d,r2⟩,h1,r3,h2,h4⟩:=h;cases h4;have e2:=kL h2;simp only at e2;subst e2;refine Ev.succ ((Ai (o:=123) (by rfl) (λop ho=>ih.row _ _ _ h1 op ho) op).mono λF k1=>?_);rw[dL]at k1|-;simp[dA,fO,aI,dx]at k1|-
          rw[k1]
         .cases h
end Np
namespace Np
open Lx (aB Tok)
open Tr (Nd Ev aI expect oO mU bY)
theorem RZ{C q n:Nat}(h1:C*q<=n)(h2:n<C*q+C)(h:(n+1)%C=0):n+1=C*q+C:=by
 obtain⟨r,hr⟩:∃r,n+1=C*q+r:=⟨n+1-C*q,by omega⟩;rw[hr,Nat.mul_add_mod]at h
 by_cases hc:r<C
 .rw[Nat.mod_eq_of_lt hc]at h;omega
 .omega
theorem acZ{C q n:Nat}(h2:n<C*q+C)(h:(n+1)%C≠0):n+1<C*q+C:=by
 rcases avE (n+1) (C*q+C)with h3|h3
 .exact h3
 .exfalso
  have:n+1=C*q+C:=by omega
  rw[this,Nat.mul_add_mod,Nat.mod_self]at h;exact h rfl
theorem cellsS(C:Nat)(hC:1<=C):∀f,(∀g,g<f->Reads g)->∀ts cs r1 r2,Tr.di f ts=some (cs,r1)->expect (aI 125) r1=some r2->∀(ks:List Nd) (q c:Nat),C*q<=ks.length->ks.length<C*q+C->(C*q=0\/c=C)->
  (∀i (h:i<cs.length),cs[i].2=decide ((ks.length+i+1)%C=0))->∀op,Ev λF=>di 0 F op ks (C*q) c (bare ts)=.ok (ks++cs.map (·.1),C) (bare r2)
 |0,_,_,_,_,_,h,_,_,_,_,_,_,_,_,_=>by rw[Tr.di]at h;cases h
 |f+1,ih,ts,cs,r1,r2,h,he,ks,q,c,h1,h2,hc,hf,op=>by
  have e1:=kL he;subst e1;rw[Tr.di]at h;simp only[avJ]at h;obtain⟨⟨QS,p⟩,hr,h⟩:=h;simp only at h;have hrow:=(ih f (Nat.lt_succ_self _)).row _ _ _ hr;split at h
  .rename_i r hx
   simp only[avz]at h;obtain⟨⟨qq,q2⟩,h3,h4⟩:=h;cases h4;have e2:=kL hx;subst e2;have aj:=hf 0 (by simp);simp only[avP,avk]at aj;have hn:(ks.length+1)%C≠0:=by simpa using aj.symm
   have ab:=cellsS C hC f (λg hg=>ih g (by omega)) _ _ _ _ h3 he (ks++[CG QS]) q c (by simp;omega) (by have:=acZ h2 hn;simp;omega) hc (λi hi=>by
    have:=hf (i+1) (by simpa using hi);simp only[avC]at this;rw[this,auZ,av4,show ks.length+(i+1)+1=ks.length+1+i+1 by omega]) op
   refine Ev.succ (((hrow op (.inr (by rfl))).and ab).mono λF ⟨k1,k2⟩=>?_);rw[di,k1];simp only[R.bind];rw[if_pos (by simp[dL,dx,aI]),dL,List.tail_cons,k2];simp[CG,Tr.row]
  .rename_i hx
   have agj:ks.length+1=C*q+C->xh (C*q) c (ks.length+1)=C:=λhl=>by
    unfold xh;split
    .omega
    .rcases hc with hc|hc
     .contradiction
     .exact hc
   split at h
   .rename_i r hx2
    simp only[avz]at h;obtain⟨⟨qq,q2⟩,h3,h4⟩:=h;cases h4;have e2:=kL hx2;subst e2;have aj:=hf 0 (by simp);simp only[avP,avk]at aj;have hn:(ks.length+1)%C=0:=by simpa using aj.symm
    have hl:=RZ h1 h2 hn;have hq:ks.length+1=C*(q+1):=by rw[hl,Nat.mul_succ]
    have ab:=cellsS C hC f (λg hg=>ih g (by omega)) _ _ _ _ h3 he (ks++[CG QS]) (q+1) C (by simp;omega) (by simp;omega) (.inr rfl) (λi hi=>by
     have:=hf (i+1) (by simpa using hi);simp only[avC]at this;rw[this,auZ,av4,show ks.length+(i+1)+1=ks.length+1+i+1 by omega]) op
    refine Ev.succ (((hrow op (.inr (by rfl))).and ab).mono λF ⟨k1,k2⟩=>?_);rw[di,k1];simp only[R.bind];rw[agj hl,if_neg (by simp[dL,dx]),if_neg (by simp[dL,j5]),if_neg (by omega),if_neg (by simp[dL,j5]),hq,dL,List.tail_cons,k2];simp[CG,Tr.row]
   .rename_i hx2
    cases h;have aj:=hf 0 (by simp);simp only[avP,avk]at aj;have hn:(ks.length+1)%C=0:=by simpa using aj.symm
    have hl:=RZ h1 h2 hn;refine Ev.succ ((hrow op (.inr (by rfl))).mono λF k1=>?_);rw[di,k1];simp only[R.bind];rw[agj hl,if_neg (by simp[dL,dx,aI]),if_neg (by simp[dL,j5,dx,aI]),if_neg (by omega),if_pos (by simp[dL,j5,aI]),dL,List.tail_cons];simp[CG,Tr.row]
theorem ac0:∀f ts cs r,Tr.di f ts=some (cs,r)->cs≠[]
 |0,_,_,_,h=>by rw[Tr.di]at h;cases h
 |f+1,ts,cs,r,h=>by
  rw[Tr.di]at h;simp only[avJ]at h;obtain⟨⟨QS,p⟩,hr,h⟩:=h;simp only at h;split at h
  .simp only[avz]at h
   obtain⟨_,_,h4⟩:=h;cases h4;exact List.cons_ne_nil _ _
  .split at h
   .simp only[avz]at h
    obtain⟨_,_,h4⟩:=h;cases h4;exact List.cons_ne_nil _ _
   .cases h;exact List.cons_ne_nil _ _
theorem cellsRead(f:Nat)(ih:∀g,g<f->Reads g):Ik f:=λts cs r1 r2 h he hE op=>by
 have hne:=ac0 f ts cs r1 h
 have aa:1<=Tr.rA cs:=by
  cases cs with
  |nil=>exact absurd rfl hne
  |cons x l=>
   obtain⟨n,b⟩:=x;have:=Aw l;rw[Tr.rA];split<;>omega
 obtain⟨C,hC⟩:∃C:Nat,Tr.rA cs=(C:Int):=⟨(Tr.rA cs).toNat,by omega⟩;rw[hC]at hE aa|-
 have:=cellsS C (by omega) f ih ts cs r1 r2 h he [] 0 0 (by simp) (by simp;omega) (.inl (by simp)) (λi hi=>by
  have h1:(cs.map (·.2))[i]?=(Tr.ends (C:Int) cs.length)[i]?:=by rw[hE]
  simp only[Tr.ends,List.getElem?_map,List.getElem?_range hi,List.getElem?_eq_getElem hi,awk,Option.some.injEq]at h1;rw[h1,List.length_nil,Nat.zero_add,decide_eq_decide,show((i:Int)+1)%(C:Int)=(((i+1)%C:Nat):Int) by rw[Int.natCast_emod];rfl];omega) op
 simpa using this
theorem reads:∀f,∀g,g<=f->Reads g
 |0=>λg hg=>by
  obtain rfl:g=0:=by omega
  constructor<;>intro ts a r h<;>first|(rw[Tr.pArg]at h;cases h)|(rw[Tr.cZ]at h;cases h)|(rw[Tr.jX]at h;cases h)|(rw[Tr.eP]at h;cases h)|skip
  all_goals (first|(simp[Tr.pArg]at h)|(simp[Tr.jX]at h))
 |f+1=>λg hg=>by
  rcases avE g (f+1)with h|h
  .exact reads f g (by omega)
  .obtain rfl:g=f+1:=by omega
   have ih:=reads f f (au3 _);have hm:=cellsRead f λg hg=>reads f g (by omega)
   exact⟨ih.ajc,ih.ajd,ih.ahm hm,ih.ahk⟩
end Np
namespace Tr
open Lx (Tok kR)
theorem uS(p:UInt8->Prop)[DecidablePred p](h:∀n:Fin 256,p (UInt8.ofNat n.1))(c:UInt8):p c:=by
 have:=h ⟨c.toNat,c.toNat_lt⟩;simpa using this
theorem Lf(c:UInt8):D8 c=Lx.dG 3 c:=uS (λc=>D8 c=Lx.dG 3 c) (by decide+kernel) c
theorem YM(c:UInt8):digit c=Lx.dG 2 c:=uS (λc=>digit c=Lx.dG 2 c) (by decide+kernel) c
theorem abr(c:UInt8):signs.contains c=Lx.dG 4 c:=uS (λc=>signs.contains c=Lx.dG 4 c) (by decide+kernel) c
theorem Ql(c:UInt8):rz.contains c=Lx.kF c:=uS (λc=>rz.contains c=Lx.kF c) (by decide+kernel) c
theorem V4(l:QJ):l.all D8=l.all (Lx.dG 3):=by
 congr 1;funext c;exact Lf c
theorem Gs(l:QJ):l.all digit=l.all (Lx.dG 2):=by
 congr 1;funext c;exact YM c
theorem sO(b:UInt8)(h:Lx.dG 5 b=true):kR (aI b):=.inr (.inr (.inr (.inr (.inr (.inr (.inl ⟨rfl,b,rfl,h⟩))))))
theorem YN:kR ⟨8,[92,92]⟩:=.inr (.inr (.inr (.inr (.inr (.inr (.inr ⟨rfl,rfl⟩))))))
theorem BC(t:QJ)(h1:t.length<=16)(h2:t≠[])(h3:t.all D8=true)(h4:t≠[102,101,110,99,101]):kR (name t):=
 .inr (.inr (.inr (.inl ⟨rfl,h1,h2,by rw[<-V4];exact h3,h4⟩)))
theorem aeo(t:QJ)(h:symbol t=true):kR (if t.length=1 then⟨1,t⟩else⟨4,t⟩):=by
 unfold symbol at h
 match t,h with
 |[c],h=>
  rw[if_pos (show([c]:QJ).length=1 from rfl)];refine .inl ⟨rfl,c,rfl,?_⟩;have h':(D8 c||signs.contains c)=true:=h;rw[Lf,abr,av3]at h';exact h'
 |[],h=>exact absurd (show symbol []=true from h) (by decide)
 |a::b::l,h=>
  rw[if_neg (by simp)];simp only[auY,avN,decide_eq_true_eq]at h;obtain⟨⟨⟨⟨h1,h2⟩,h3⟩,h4⟩,h5⟩:=h;exact BC _ h3 (by simp) h1 (by intro e;rw[e]at h4;revert h4;decide)
theorem aep(t:QJ)(h:isNum t=true):kR ⟨2,t⟩:=by
 unfold isNum at h;rw[auY,auY,decide_eq_true_iff,decide_eq_true_iff,av3]at h;obtain⟨⟨h1,h2⟩,h3⟩:=h;refine .inr (.inl ⟨rfl,h1,?_⟩)
 rcases h3 with h3|h3
 .exact⟨t,h2,by rw[<-Gs];exact h3,.inl rfl⟩
 .split at h3
  .rename_i x b hd
   simp only[auY,decide_eq_true_eq]at h3;obtain⟨⟨⟨h4,h5⟩,h6⟩,h7⟩:=h3;refine⟨t.takeWhile (·≠46),h4,by rw[<-Gs];exact h5,.inr ⟨b,h6,by rw[<-Gs];exact h7,?_⟩⟩
   have hx:x=46:=by
    have:=List.head?_dropWhile_not (λb:UInt8=>decide (b≠46)) t;rw[hd]at this;simpa using this
   have:=List.takeWhile_append_dropWhile (p:=λb:UInt8=>decide (b≠46)) (l:=t);rw[hd,hx]at this;exact this.symm
  .cases h3
theorem abt(t:QJ)(h:(decide (t.length<=200)&&aU t)=true):kR ⟨3,t⟩:=by
 rw[auY,decide_eq_true_iff]at h;refine .inr (.inr (.inl ⟨rfl,h.1,?_⟩));have h2:=h.2;unfold aU at h2;rw[List.all_eq_true]at h2|-;intro b hb;have:=h2 b hb;simpa using this
theorem YO(t:QJ)(h:fence t=true):kR ⟨5,t⟩:=by
 unfold fence at h;split at h
 .rename_i a b
  rw[auY,Ql,Ql]at h;exact .inr (.inr (.inr (.inr (.inl ⟨rfl,a,b,rfl,h.1,h.2⟩))))
 .cases h
theorem V5(t:QJ)(h:eu.contains t=true):kR (name t):=by
 have:t∈eu:=by simpa using h
 simp only[eu,List.mem_cons,List.not_mem_nil,or_false]at this
 rcases this with rfl|rfl|rfl|rfl|rfl|rfl<;>exact BC _ (by decide) (by decide) (by decide) (by decide)
def ku(l:List Tok):Prop:=∀t∈l,kR t
theorem ku.app{l m:List Tok}(h:ku l)(k:ku m):ku (l++m):=λt ht=>(List.mem_append.1 ht).elim (h t) (k t)
theorem ku.cons{x:Tok}{m:List Tok}(h:kR x)(k:ku m):ku (x::m):=λt ht=>(List.mem_cons.1 ht).elim (λe=>e▸h) (k t)
theorem ku.nil:ku []:=λt ht=>by cases ht
theorem rows_ok(ks:List Nd)(h:∀x∈ks,ku (bT x)):ku (bC ks):=by
 induction ks with
 |nil=>rw[qU];exact .nil
 |cons x ks ih=>rw[o5];exact(h x (by simp)).app (ih λy hy=>h y (by simp[hy]))
theorem xw(ks:List Nd)(h:∀x∈ks,ku (bT x))(a b:UInt8)(ha:Lx.dG 5 a=true)(hb:Lx.dG 5 b=true):ku (aI a::(bC ks++[aI b])):=
 .cons (sO a ha) ((rows_ok ks h).app (.cons (sO b hb) .nil))
theorem vQ(a:Nd)(h:∀x∈a.Qx,ku (bT x)):ku (dD a):=by
 rw[y5];split
 .rename_i x hx
  rw[hx]at h;split
  .exact h x (by simp)
  .exact xw _ h _ _ rfl rfl
 .exact xw _ h _ _ rfl rfl
theorem MN(a:Nd)(h:∀x∈a.Qx,ku (bT x)):ku (gG a):=by
 rw[wU];split
 .rename_i x hx
  rw[hx]at h;split
  .exact xw _ h _ _ rfl rfl
  .exact h x (by simp)
 .exact xw _ h _ _ rfl rfl
theorem cells_ok(c:Int)(ks:List Nd):∀i,(∀k∈ks,∀x∈k.Qx,ku (bT x))->ku (bF c i ks):=by
 induction ks with
 |nil=>intro i _;rw[bF];exact .nil
 |cons k ks ih=>
  intro i h;rw[bF];refine .app ?_ ((rows_ok _ (h k (by simp))).app (ih _ λy hy=>h y (by simp[hy])));split
  .exact .nil
  .split
   .exact .cons YN .nil
   .exact .cons (sO _ rfl) .nil
theorem MO(m:Nat):∀n,count n<=m->View n->ku (bT n):=by
 induction m with
 |zero=>intro n h;have:=bX n;omega
 |succ m ih=>
  intro n hc v
  have hk:∀(k:Int) (t:QJ) (c:Int) (ks:List Nd),n=.mk k t c ks->∀a∈ks,fE a->∀x∈a.Qx,ku (bT x):=λk t c ks e a ha hr x hx=>by
   have h1:=cB hx;have h2:=aN a;have h3:=cB ha;rw[e,count]at hc;exact ih x (by omega) (hr.views x hx)
  cases v with
  |sym t h=>rw[rZ];exact .cons (aeo t h) .nil
  |num t h=>rw[r9];exact .cons (aep t h) .nil
  |QG t h=>rw[qA];exact .cons (abt t h) .nil
  |Gn a b ha hb=>
   rw[vO];exact .cons (BC _ (by decide) (by decide) (by decide) (by decide)) ((vQ a (hk _ _ _ _ rfl a (by simp) ha)).app (vQ b (hk _ _ _ _ rfl b (by simp) hb)))
  |root a b ha hb=>
   rw[vP];refine .cons (BC _ (by decide) (by decide) (by decide) (by decide)) (.app ?_ (vQ b (hk _ _ _ _ rfl b (by simp) hb)));split
   .exact .nil
   .exact xw _ (hk _ _ _ _ rfl a (by simp) ha) _ _ rfl rfl
  |sub a b ha hb=>
   rw[zQ];exact(MN a (hk _ _ _ _ rfl a (by simp) ha)).app (.cons (sO _ rfl) (vQ b (hk _ _ _ _ rfl b (by simp) hb)))
  |sup a b ha hb=>
   rw[zR];exact(MN a (hk _ _ _ _ rfl a (by simp) ha)).app (.cons (sO _ rfl) (vQ b (hk _ _ _ _ rfl b (by simp) hb)))
  |both a b d ha hb hd=>
   rw[xR];exact(MN a (hk _ _ _ _ rfl a (by simp) ha)).app (.cons (sO _ rfl) ((vQ b (hk _ _ _ _ rfl b (by simp) hb)).app (.cons (sO _ rfl) (vQ d (hk _ _ _ _ rfl d (by simp) hd)))))
  |zP t a h ha=>
   rw[rC];exact .cons (V5 t h) (vQ a (hk _ _ _ _ rfl a (by simp) ha))
  |fence t a h ha=>
   rw[uB];split
   .rename_i ht
    rcases ht with rfl|rfl<;>exact xw _ (hk _ _ _ _ rfl a (by simp) ha) _ _ rfl rfl
   .exact .cons (YO t h) (vQ a (hk _ _ _ _ rfl a (by simp) ha))
  |matrix c ks hc1 hn hm h=>
   rw[rD c ks (by rintro rfl;simp at hn)];exact .cons (BC _ (by decide) (by decide) (by decide) (by decide)) (.cons (sO _ rfl) ((cells_ok c ks 0 λk hk'=>hk _ _ _ _ rfl k hk' (h k hk')).app (.cons (sO _ rfl) .nil)))
theorem zS(a:Nd)(ha:fE a):ku (bC a.Qx):=rows_ok _ λx hx=>MO _ x (au3 _) (ha.views x hx)
def uI:Option Tok->List Tok->List (QJ×Tok)
 |_,[]=>[]
 |o,t::ts=>((match o with|some a=>if Lx.join a t then [32]else []|none=>[]),t)::uI (some t) ts
def xU(l:List Tok):QJ:=Lx.flat (uI none l)
theorem JA:∀(l:List Tok) (o:Option Tok),ku l->Lx.DX o (uI o l)
 |[],_,_=>trivial
 |t::ts,o,h=>by
  refine⟨?_,h t (by simp),?_,JA ts (some t) λx hx=>h x (by simp[hx])⟩
  .cases o with
   |none=>rfl
   |some a=>simp only;split<;>rfl
  .intro e a ha
   subst ha;simp only at e;cases hj:Lx.join a t with
   |false=>rfl
   |true=>rw[hj]at e;simp at e
theorem Gt:∀(l:List Tok) (o:Option Tok),(uI o l).map (·.2)=l
 |[],_=>rfl
 |t::ts,o=>by simp only[uI,avg,Gt ts]
theorem NL(l:List Tok)(h:ku l):Lx.jr (xU l)=(Lx.placed 0 (uI none l),none):=Lx.TV _ (JA l none h)
theorem NM(a:Nd)(h:valid a=true):fE a:=by
 unfold valid at h;simp only[auY,beq_iff_eq,decide_eq_true_eq]at h;exact⟨h.1.1.1,h.1.1.2⟩
end Tr
end Go.Proofs.YtabjglnjjdcfmaaGreatDoor
