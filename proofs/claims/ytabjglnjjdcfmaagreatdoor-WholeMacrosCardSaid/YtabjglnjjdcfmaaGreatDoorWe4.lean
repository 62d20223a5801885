/- Part 4 of 41 of a proof. No condition. -/
import Derived.OrdersHeld
import Derived.Lib.AppendStr
import Derived.Lib.AppendZeros
import Derived.Lib.SliceRun
import Derived.Test.YtabjglnjjdcfmaaGreatDoorWe3
set_option maxRecDepth 100000
set_option maxHeartbeats 1000000
namespace Go.Proofs.YtabjglnjjdcfmaaGreatDoor
open _root_.Go.Region renaming ready->au5,binds->awn,wanted->avW,free->awV,noSelect->avu
open _root_.Nat renaming zero_add->au8
open _root_.Bool renaming and_eq_true->auY,not_eq_true'->avN
open _root_.List renaming isEmpty_iff->avV,flatMap_cons->av0
open _root_.Array renaming replicate->au4,getElem?_setIfInBounds_ne->avQ,getElem?_setIfInBounds_self_of_lt->awM
open _root_.Go.Proofs.Tryz
section
open Go.RowKit
section
variable {P:Program} {ops:Array Oper} {md:Region.Mode} {C:World→Prop} {Q:Exit→Act→World→Prop}
def stillUpon(w:W_)(v:Value):Result Next->Prop
 |.ok (.value u) w'=>w'=w/\u=v
 |_=>False
def gD(P:Program)(o:Oper)(a:Act)(C:W_->Prop)(next:Act->Prop):Prop:=∃v,(∀w,C w->stillUpon w v ((execOp a.eval o).run P w))/\next (a.put o.dst v)
theorem BG{w:W_}{v:Value}{r:Result Next}(h:stillUpon w v r):r=.ok (.value v) w:=by
 cases r with
 |ok n w'=>
  cases n<;>simp only[stillUpon]at h
  obtain⟨rfl,rfl⟩:=h;rfl
 |halt x w'=>exact h.elim
def DZ(P:Program)(md:Region.Mode)(ops:Array Oper)(Q:Exit->Act->W_->Prop)(C:W_->Prop)(ns:List Nat)(L:Array Bool->Act->W_->Prop):Nat->Array Bool->Act->W_->Prop
 |0,listed,a,w=>L listed a w
 |f+1,listed,a,w=>au5 md ops listed≠[]/\∀i∈au5 md ops listed,i∈ns/\wpOp P ops Q i (λa' w'=>C w'/\DZ P md ops Q C ns L f (listed.setIfInBounds i true) a' w') a w
theorem nL{ns:List Nat}{g:Nat}{L:Array Bool->Act->W_->Prop}(hL:∀listed a w,C w->L listed a w->wpAny P md ops Q g listed a w):
  ∀(f:Nat) (listed:Array Bool) (a:Act) (w:W_),C w->DZ P md ops Q C ns L f listed a w->wpAny P md ops Q (f+g) listed a w
 |0,listed,a,w,hC,h=>by rw[au8];exact hL _ _ _ hC h
 |f+1,listed,a,w,_,h=>by
  rw[show f+1+g=(f+g)+1 by omega];exact⟨λh0=>absurd h0 h.1,λi hi=>wpOp_mono (λa' w' h'=>nL hL f _ a' w' h'.1 h'.2) (h.2 i hi).2⟩
theorem Gw{ns:List Nat}{t:Option Nat}{eH:Array Bool}{i:Nat}{oi:Oper}{v:Value}{L:Array Bool->Act->W_->Prop}(hi:ops[i]?=some oi)(ab:∀(j:Nat) (o:Oper) cs b,ops[j]?=some o->o.op≠.select cs b)
  (hQ:∀c a w,Q (.panic c) (a.put oi.dst v) w->Q (.panic c) a w)
  (hs:qi md ops ns t eH=true) (ad:i∈ns) (hdone:∀listed a w,L listed a w->∀j∈au5 md ops listed,j∉ns):
  ∀(f:Nat) (listed:Array Bool) (a:Act) (w:W_),nC md ops ns eH listed->
   (∀j oj,ops[j]?=some oj->j≠i->listed.getD j true=false->(∀e∈oj.after,awn md e=true->e.on≠i)->oi.apart ops oj=true)->
   i∈au5 md ops listed->YieldsIf P ops C oi v a->C w->
   DZ P md ops Q C ns L f (listed.setIfInBounds i true) (a.put oi.dst v) w->DZ P md ops Q C ns L (f+1) listed a w:=by
 intro f
 induction f with
 |zero=>
  intro listed a w inv _ hr hy hC H;have aa:=(mem_ready.1 hr).1;refine⟨λh=>(by rw[h]at hr;cases hr),λj hj=>?_⟩;have ah:=CO hs inv.closed inv.sub inv.sup ⟨i,ad,getD_both aa⟩ j hj;refine⟨ah,?_⟩
  by_cases ac:j=i
  .subst ac;exact hy.wpOp hi hC ⟨hC,H⟩
  .exact absurd ah (hdone _ _ _ H j (ready_mono hj ac))
 |succ f ih=>
  intro listed a w inv ae hr hy hC H;have aa:=(mem_ready.1 hr).1;refine⟨λh=>(by rw[h]at hr;cases hr),λj hj=>?_⟩;have ah:=CO hs inv.closed inv.sub inv.sup ⟨i,ad,getD_both aa⟩ j hj;refine⟨ah,?_⟩
  by_cases ac:j=i
  .subst ac;exact hy.wpOp hi hC ⟨hC,H⟩
  .have h1:=(H.2 j (ready_mono hj ac)).2
   obtain⟨ai,oj,ag,hall⟩:=mem_ready.1 hj
   have aj:∀e∈oj.after,awn md e=true->e.on≠i:=λe he hb heq=>by
    have h1:=hall e he hb;rw[heq,getD_both aa]at h1;cases h1
   have h2:=wpOp_putIf ag (ae j oj ag ac ai aj) (λcs b=>ab i oi cs b hi) (λcs b=>ab j oj cs b ag) hQ hy h1
   have af:∀k ok,ops[k]?=some ok->k≠i->(listed.setIfInBounds j true).getD k true=false->
     (∀e∈ok.after,awn md e=true->e.on≠i)->oi.apart ops ok=true:=λk ok hk ak aa hno=>by
    refine ae k ok hk ak ?_ hno
    by_cases hjk:j=k
    .subst hjk;exact ai
    .rw[getD_set_ne true hjk]at aa;exact aa
   refine wpOp_mono (λa' w' h3=>⟨h3.2.1,ih (listed.setIfInBounds j true) a' w' (inv.put hj ah) af (ready_mono hr (Ne.symm ac)) h3.1 h3.2.1 ?_⟩) h2;rw[Array.setIfInBounds_comm _ _ ac];exact h3.2.2
def mV(P:Program)(l:List Oper)(Q:Exit->Act->W_->Prop)(C:W_->Prop)(L:Act->W_->Prop):List (Nat×Bool)->Act->W_->Prop
 |[],a,w=>L a w
 |(i,true)::r,a,w=>match l[i]? with
  |some o=>if avW o (yielded l.toArray a.tmps)then gD P o a C (λa'=>mV P l Q C L r a' w)else mV P l Q C L r (a.put o.dst undef) w
  |none=>mV P l Q C L r a w
 |(i,false)::r,a,w=>wpList P l.toArray (Exit.then (λa' w'=>C w'/\mV P l Q C L r a' w') Q) (pick l [i]) a w
theorem ak{l:List Oper}{L:Act->W_->Prop}{i:Nat}{o:Oper}{r:List (Nat×Bool)}{a:Act}{w:W_}(ho:l[i]?=some o)
  (h:∀K:Act->Prop,(∀a,mV P l Q C L r a w->K a)->if avW o (yielded l.toArray a.tmps)then gD P o a C K else K (a.put o.dst undef)):mV P l Q C L ((i,true)::r) a w:=by
 unfold mV;rw[ho];exact h _ (λ_ h=>h)
theorem aS{l:List Oper}{L:Act->W_->Prop}{i:Nat}{o:Oper}{r:List (Nat×Bool)}{a:Act}{w:W_}(ho:l[i]?=some o)
  (h:∀K:Act->W_->Prop,(∀a w,C w->mV P l Q C L r a w->K a w)->wpList P l.toArray (Exit.then K Q) [o] a w):mV P l Q C L ((i,false)::r) a w:=by
 unfold mV;have hp:pick l [i]=[o]:=asv
 exact asu
def uK(Cl:W_->W_->Prop)(P:Program)(l:List Oper)(Q:Exit->Act->W_->Prop):List (List (Nat×Bool)×Nat)->List (Nat×Bool)->Act->W_->W_->Prop
 |[],last,a,w0,w=>mV P l Q (Cl w0) (λa' w'=>Q .normal a' w') last a w
 |(s,t)::bU,last,a,w0,w=>mV P l Q (Cl w0) (λa' w'=>wpList P l.toArray (Exit.then (λa'' w''=>uK Cl P l Q bU last a'' w'' w'') Q) (pick l [t]) a' w') s a w
theorem dm{l:List Oper}{Cl:W_->W_->Prop}{t:Nat}{o:Oper}{bU:List (List (Nat×Bool)×Nat)}{last:List (Nat×Bool)}{a:Act}{w:W_}(ho:l[t]?=some o)
  (h:∀K:Act->W_->Prop,(∀a w,uK Cl P l Q bU last a w w->K a w)->wpList P l.toArray (Exit.then K Q) [o] a w):mV P l Q C (λa' w'=>wpList P l.toArray (Exit.then (λa'' w''=>uK Cl P l Q bU last a'' w'' w'') Q) (pick l [t]) a' w') [] a w:=by
 unfold mV;have hp:pick l [t]=[o]:=asv
 rw[hp];exact h _ (λ_ _ h1=>h1)
def seqB(md:Region.Mode)(ops:Array Oper):List (Nat×Bool)->Array Bool->Bool
 |[],_=>true
 |(k,true)::r,listed=>(au5 md ops listed).contains k&&awV md ops listed k&&seqB md ops r (listed.setIfInBounds k true)
 |(k,false)::r,listed=>decide (au5 md ops listed=[k])&&seqB md ops r (listed.setIfInBounds k true)
theorem xZ{l0:List Oper}{ns:List Nat}{t:Option Nat}{eH:Array Bool}{Lq:Act->W_->Prop}{fin:Array Bool}(ab:avu l0.toArray=true)(hQ:∀c a d v w,Q (.panic c) (Act.put a d v) w->Q (.panic c) a w)
  (hs:qi md l0.toArray ns t eH=true) (aa:∀j∈au5 md l0.toArray fin,j∉ns):
  ∀(s:List (Nat×Bool)) (listed:Array Bool) (a:Act) (w:W_),(∀k∈s,k.1∈ns)->nC md l0.toArray ns eH listed->seqB md l0.toArray s listed=true->jv (s.map (·.1)) listed=fin->C w->
  mV P l0 Q C Lq s a w->DZ P md l0.toArray Q C ns (λlisted' a' w'=>listed'=fin/\Lq a' w') s.length listed a w
 |[],listed,a,w,_,_,_,hf,_,h=>⟨hf,h⟩
 |(k,true)::r,listed,a,w,hq,inv,hB,hf,hC,h=>by
  simp only[seqB,auY]at hB;obtain⟨⟨hr,an⟩,hB'⟩:=hB;have hr':k∈au5 md l0.toArray listed:=by simpa using hr
  obtain⟨_,o,ho,_⟩:=mem_ready.1 hr';have ho':l0[k]?=some o:=by simpa using ho
  unfold mV at h;rw[ho']at h;have ac:=hq (k,true) P9
  obtain⟨v,hy,hK⟩:∃v,YieldsIf P l0.toArray C o v a/\mV P l0 Q C Lq r (a.put o.dst v) w:=by
   by_cases hw:avW o (yielded l0.toArray a.tmps)=true
   .simp only[hw,if_true]at h
    exact ata
   .simp only[hw]at h
    exact arl
  exact Gw ho (Region.noSelect_spec ab) (λc a w=>hQ c a o.dst v w) hs ac (λlisted' a' w' hL=>by rw[hL.1];exact aa) r.length listed a w inv (Region.free_spec ho an) hr' hy hC
   (xZ ab hQ hs aa r _ _ w (λx hx=>hq x aur) (inv.put hr' ac) hB' hf hC hK)
 |(k,false)::r,listed,a,w,hq,inv,hB,hf,hC,h=>by
  simp only[seqB,auY,decide_eq_true_eq]at hB;obtain⟨hr,hB'⟩:=hB;have hr':k∈au5 md l0.toArray listed:=aia
  obtain⟨_,o,ho,_⟩:=mem_ready.1 hr';have ac:=hq (k,false) P9;refine⟨by rw[hr];simp,λi hi=>?_⟩;rw[hr]at hi;rw[List.mem_singleton.1 hi];unfold mV at h;exact⟨ac,wpOp_mono (λa' w' h'=>⟨h'.1,xZ ab hQ hs aa r _ a' w' (λx hx=>hq x aur) (inv.put hr' ac) hB' hf h'.1 h'.2⟩) (jD ho h)⟩
theorem MR{ns:List Nat}{eH:Array Bool}:∀(s:List (Nat×Bool)) (listed:Array Bool),(∀k∈s,k.1∈ns)->nC md ops ns eH listed->seqB md ops s listed=true->nC md ops ns eH (jv (s.map (·.1)) listed)
 |[],_,_,inv,_=>inv
 |(k,true)::r,listed,hq,inv,hB=>by
  simp only[seqB,auY]at hB;exact MR r _ (λx hx=>hq x aur) (inv.put auJ (hq (k,true) P9)) hB.2
 |(k,false)::r,listed,hq,inv,hB=>by
  simp only[seqB,auY,decide_eq_true_eq]at hB;exact MR r _ (λx hx=>hq x aur) (inv.put (by rw[hB.1];simp) (hq (k,false) P9)) hB.2
def J9(md:Region.Mode)(ops:Array Oper):List (List (Nat×Bool)×Nat)->List (Nat×Bool)->Array Bool->Bool
 |[],last,listed=>qi md ops (last.map (·.1)) none listed&&seqB md ops last listed&&(au5 md ops (jv (last.map (·.1)) listed)).isEmpty
 |(s,t)::bU,last,listed=>qi md ops (s.map (·.1)) (some t) listed&&seqB md ops s listed&&decide (au5 md ops (jv (s.map (·.1)) listed)=[t])&&!(s.map (·.1)).contains t&&
   J9 md ops bU last ((jv (s.map (·.1)) listed).setIfInBounds t true)
def EL:List (List (Nat×Bool)×Nat)->List (Nat×Bool)->Nat
 |[],last=>last.length
 |(s,_)::bU,last=>s.length+(EL bU last+1)
theorem dJ{Cl:W_->W_->Prop}{l:List Oper}{a:Act}{w0 w:W_}{s:List (Nat×Bool)}{t:Nat}{bU:List (List (Nat×Bool)×Nat)}{last:List (Nat×Bool)}
  (h:mV P l Q (Cl w0) (λa' w'=>wpList P l.toArray (Exit.then (λa'' w''=>uK Cl P l Q bU last a'' w'' w'') Q) (pick l [t]) a' w') s a w):uK Cl P l Q ((s,t)::bU) last a w0 w:=h
theorem EN{Cl:W_->W_->Prop}{l:List Oper}{a:Act}{w0 w:W_}{last:List (Nat×Bool)}(h:mV P l Q (Cl w0) (λa' w'=>Q .normal a' w') last a w):uK Cl P l Q [] last a w0 w:=h
theorem sj{l:List Oper}{L:Act->W_->Prop}{a:Act}{w:W_}(h:L a w):mV P l Q C L [] a w:=h
theorem fH{Cl:W_->W_->Prop}{l:List Oper}{a:Act}{w0 w:W_}(h:Q .normal a w):uK Cl P l Q [] [] a w0 w:=h
theorem x8{Cl:W_->W_->Prop}(ac:∀w,Cl w w){l:List Oper}(ab:avu l.toArray=true)(hQ:∀c a d v w,Q (.panic c) (Act.put a d v) w->Q (.panic c) a w):
  ∀(bU:List (List (Nat×Bool)×Nat)) (last:List (Nat×Bool)) (listed:Array Bool) (a:Act) (w0 w:W_),
  Closed md l.toArray listed->J9 md l.toArray bU last listed=true->Cl w0 w->uK Cl P l Q bU last a w0 w->wpAny P md l.toArray Q (EL bU last) listed a w
 |[],last,listed,a,w0,w,inv,hB,hC,h=>by
  simp only[J9,auY,avV]at hB;obtain⟨⟨hs,hl⟩,hr⟩:=hB;have hz:nC md l.toArray (last.map (·.1)) listed listed:=⟨inv,λ_ h=>h,λ_ h=>.inl h⟩;have:=xZ (P:=P) (C:=Cl w0) (Q:=Q) (fin:=jv (last.map (·.1)) listed) (Lq:=λa' w'=>Q .normal a' w') ab hQ hs aia last listed a w (λk hk=>List.mem_map.2 ⟨k,hk,rfl⟩) hz hl rfl hC h;exact nL (g:=0) (λlisted' a' w' _ hL=>wpAny_done amN hL.2 0) last.length listed a w hC this
 |(s,t)::bU,last,listed,a,w0,w,inv,hB,hC,h=>by
  simp only[J9,auY,decide_eq_true_eq,avN]at hB;obtain⟨⟨⟨⟨hs,hl⟩,hr⟩,ht⟩,hB'⟩:=hB;have hz:nC md l.toArray (s.map (·.1)) listed listed:=⟨inv,λ_ h=>h,λ_ h=>.inl h⟩;have ah:∀k∈s,k.1∈s.map (·.1):=λk hk=>List.mem_map.2 ⟨k,hk,rfl⟩
  have hz':=MR s listed ah hz hl;have aa:t∈au5 md l.toArray (jv (s.map (·.1)) listed):=aia
  have af:t∉s.map (·.1):=by
   exact aip
  obtain⟨_,ot,ae,_⟩:=mem_ready.1 aa
  have:=xZ (P:=P) (C:=Cl w0) (Q:=Q) (fin:=jv (s.map (·.1)) listed) (Lq:=λa' w'=>wpList P l.toArray (Exit.then (λa'' w''=>uK Cl P l Q bU last a'' w'' w'') Q) (pick l [t]) a' w') ab hQ hs
   (by rw[hr];intro j hj;rw[List.mem_singleton.1 hj];exact af) s listed a w ah hz hl rfl hC h
  refine nL (g:=EL bU last+1) (λlisted' a' w' _ hL=>?_) s.length listed a w hC this;refine wpAny_all (rs:=[t]) amN P9 (λi hi=>?_);rw[List.mem_singleton.1 hi,hL.1];exact wpOp_mono (λa'' w'' h''=>x8 ac ab hQ bU last _ a'' w'' w'' (hz'.closed.put aa) hB' (ac w'') h'') (jD ae hL.2)
theorem cu{id:Nat}{a:Act}{w:W_}{l:List Oper}(bU:List (List (Nat×Bool)×Nat))(last:List (Nat×Bool))(hm:P.follows .mixedOrders=true)(hQ:∀c a d v w,Q (.panic c) (Act.put a d v) w->Q (.panic c) a w)
  (hB:(avu l.toArray&&decide (EL bU last=l.toArray.size)&&J9 .any l.toArray bU last (au4 l.toArray.size false))=true)
  (h:uK (λw w'=>∃p:Regrown,w'=Go.Sort.grow (redrawn w p.d) p.os) P l Q bU last a w (w.drewN 1)):(Code.region id l.toArray true).wp P Q a w:=by
 simp only[auY,decide_eq_true_eq]at hB;obtain⟨⟨ab,hn⟩,hB⟩:=hB;refine wp_region_any hm ?_;rw[<-hn];rw[<-hn]at hB;exact x8 mE.refl ab hQ bU last _ a w _ ⟨by simp[hn],λj oj _ hl=>by rw[qB]at hl;cases hl⟩ hB (mE.drew w) h
end
theorem aA{w w':W_}(h:ag w w'):∃p:Regrown,w'=Go.Sort.grow (redrawn w p.d) p.os:=regrown_of_below h.below
section
variable {P:Program} {ops:Array Oper} {md:Region.Mode} {C:World→Prop} {Q:Exit→Act→World→Prop}
inductive gq where
 |nil
 |plain (i:Nat) (r:gq)
 |lone (i:Nat) (r:gq)
 |fork (i:Nat) (p:gq) (j:Nat) (q:gq)
def gq.of:List (Nat×Bool)->gq->gq
 |[],r=>r
 |(i,true)::l,r=>.plain i (gq.of l r)
 |(i,false)::l,r=>.lone i (gq.of l r)
def gq.len:gq->Nat
 |.nil=>0
 |.plain _ r=>r.len+1
 |.lone _ r=>r.len+1
 |.fork _ p _ _=>p.len+1
def gq.within(ns:List Nat):gq->Bool
 |.nil=>true
 |.plain i r=>ns.contains i&&r.within ns
 |.lone i r=>ns.contains i&&r.within ns
 |.fork i p j q=>ns.contains i&&p.within ns&&ns.contains j&&q.within ns
def nZ(md:Region.Mode)(ops:Array Oper)(fin:Array Bool):gq->Array Bool->Bool
 |.nil,listed=>decide (listed=fin)
 |.plain k r,listed=>(au5 md ops listed).contains k&&awV md ops listed k&&nZ md ops fin r (listed.setIfInBounds k true)
 |.lone k r,listed=>decide (au5 md ops listed=[k])&&nZ md ops fin r (listed.setIfInBounds k true)
 |.fork i p j q,listed=>decide (au5 md ops listed=[i,j])&&decide (p.len=q.len)&&nZ md ops fin p (listed.setIfInBounds i true)&&nZ md ops fin q (listed.setIfInBounds j true)
def fK(P:Program)(l:List Oper)(Q:Exit->Act->W_->Prop)(C:W_->Prop)(L:Act->W_->Prop):gq->Act->W_->Prop
 |.nil,a,w=>L a w
 |.plain i r,a,w=>match l[i]? with
  |some o=>if avW o (yielded l.toArray a.tmps)then gD P o a C (λa'=>fK P l Q C L r a' w)else fK P l Q C L r (a.put o.dst undef) w
  |none=>fK P l Q C L r a w
 |.lone i r,a,w=>wpList P l.toArray (Exit.then (λa' w'=>C w'/\fK P l Q C L r a' w') Q) (pick l [i]) a w
 |.fork i p j q,a,w=>wpList P l.toArray (Exit.then (λa' w'=>C w'/\fK P l Q C L p a' w') Q) (pick l [i]) a w/\wpList P l.toArray (Exit.then (λa' w'=>C w'/\fK P l Q C L q a' w') Q) (pick l [j]) a w
theorem eX{l:List Oper}{L:Act->W_->Prop}{i:Nat}{o:Oper}{r:gq}{a:Act}{w:W_}(ho:l[i]?=some o)
  (h:∀K:Act->Prop,(∀a,fK P l Q C L r a w->K a)->if avW o (yielded l.toArray a.tmps)then gD P o a C K else K (a.put o.dst undef)):fK P l Q C L (.plain i r) a w:=by
 unfold fK;rw[ho];exact h _ (λ_ h=>h)
theorem aW{l:List Oper}{L:Act->W_->Prop}{i:Nat}{o:Oper}{r:gq}{a:Act}{w:W_}(ho:l[i]?=some o)
  (h:∀K:Act->W_->Prop,(∀a w,C w->fK P l Q C L r a w->K a w)->wpList P l.toArray (Exit.then K Q) [o] a w):fK P l Q C L (.lone i r) a w:=by
 unfold fK;have hp:pick l [i]=[o]:=asv
 exact asu
theorem o6{l:List Oper}{L:Act->W_->Prop}{i j:Nat}{p q:gq}{a:Act}{w:W_}(h1:fK P l Q C L (.lone i p) a w)(h2:fK P l Q C L (.lone j q) a w):fK P l Q C L (.fork i p j q) a w:=⟨h1,h2⟩
theorem sQ{l:List Oper}{L:Act->W_->Prop}{a:Act}{w:W_}(h:L a w):fK P l Q C L .nil a w:=h
theorem TW{l:List Oper}{Cl:W_->W_->Prop}{t:Nat}{o:Oper}{bU:List (List (Nat×Bool)×Nat)}{last:List (Nat×Bool)}{a:Act}{w:W_}(ho:l[t]?=some o)
  (h:∀K:Act->W_->Prop,(∀a w,uK Cl P l Q bU last a w w->K a w)->wpList P l.toArray (Exit.then K Q) [o] a w):fK P l Q C (λa' w'=>wpList P l.toArray (Exit.then (λa'' w''=>uK Cl P l Q bU last a'' w'' w'') Q) (pick l [t]) a' w') .nil a w:=by
 unfold fK;have hp:pick l [t]=[o]:=asv
 rw[hp];exact h _ (λ_ _ h1=>h1)
theorem y7{ns:List Nat}{eH fin:Array Bool}:∀(p:gq) (listed:Array Bool),p.within ns=true->nC md ops ns eH listed->nZ md ops fin p listed=true->nC md ops ns eH fin
 |.nil,listed,_,inv,hB=>by
  simp only[nZ,decide_eq_true_eq]at hB;rw[<-hB];exact inv
 |.plain k r,listed,hn,inv,hB=>by
  simp only[nZ,auY]at hB;simp only[gq.within,auY]at hn;exact y7 r _ hn.2 (inv.put auJ atf) hB.2
 |.lone k r,listed,hn,inv,hB=>by
  simp only[nZ,auY,decide_eq_true_eq]at hB;simp only[gq.within,auY]at hn;exact y7 r _ hn.2 (inv.put (by rw[hB.1];simp) atf) hB.2
 |.fork i p j q,listed,hn,inv,hB=>by
  simp only[nZ,auY,decide_eq_true_eq]at hB;simp only[gq.within,auY]at hn;exact y7 p _ hn.1.1.2 (inv.put (by rw[hB.1.1.1];simp) (by simpa using hn.1.1.1)) hB.1.2
theorem lG{l0:List Oper}{ns:List Nat}{t:Option Nat}{eH:Array Bool}{Lq:Act->W_->Prop}{fin:Array Bool}(ab:avu l0.toArray=true)(hQ:∀c a d v w,Q (.panic c) (Act.put a d v) w->Q (.panic c) a w)
  (hs:qi md l0.toArray ns t eH=true) (aa:∀j∈au5 md l0.toArray fin,j∉ns):
  ∀(p:gq) (listed:Array Bool) (a:Act) (w:W_),p.within ns=true->nC md l0.toArray ns eH listed->nZ md l0.toArray fin p listed=true->C w->
  fK P l0 Q C Lq p a w->DZ P md l0.toArray Q C ns (λlisted' a' w'=>listed'=fin/\Lq a' w') p.len listed a w
 |.nil,listed,a,w,_,_,hB,_,h=>by
  simp only[nZ,decide_eq_true_eq]at hB;exact⟨hB,h⟩
 |.plain k r,listed,a,w,hn,inv,hB,hC,h=>by
  simp only[nZ,auY]at hB;simp only[gq.within,auY]at hn;obtain⟨⟨hr,an⟩,hB'⟩:=hB;have hr':k∈au5 md l0.toArray listed:=by simpa using hr
  obtain⟨_,o,ho,_⟩:=mem_ready.1 hr';have ho':l0[k]?=some o:=by simpa using ho
  unfold fK at h;rw[ho']at h;have ac:k∈ns:=atf
  obtain⟨v,hy,hK⟩:∃v,YieldsIf P l0.toArray C o v a/\fK P l0 Q C Lq r (a.put o.dst v) w:=by
   by_cases hw:avW o (yielded l0.toArray a.tmps)=true
   .simp only[hw,if_true]at h
    exact ata
   .simp only[hw]at h
    exact arl
  exact Gw ho (Region.noSelect_spec ab) (λc a w=>hQ c a o.dst v w) hs ac (λlisted' a' w' hL=>by rw[hL.1];exact aa) r.len listed a w inv (Region.free_spec ho an) hr' hy hC
   (lG ab hQ hs aa r _ _ w hn.2 (inv.put hr' ac) hB' hC hK)
 |.lone k r,listed,a,w,hn,inv,hB,hC,h=>by
  simp only[nZ,auY,decide_eq_true_eq]at hB;simp only[gq.within,auY]at hn;obtain⟨hr,hB'⟩:=hB;have hr':k∈au5 md l0.toArray listed:=aia
  obtain⟨_,o,ho,_⟩:=mem_ready.1 hr';have ac:k∈ns:=atf
  refine⟨by rw[hr];simp,λi hi=>?_⟩;rw[hr]at hi;rw[List.mem_singleton.1 hi];unfold fK at h;exact⟨ac,wpOp_mono (λa' w' h'=>⟨h'.1,lG ab hQ hs aa r _ a' w' hn.2 (inv.put hr' ac) hB' h'.1 h'.2⟩) (jD ho h)⟩
 |.fork i p j q,listed,a,w,hn,inv,hB,hC,h=>by
  simp only[nZ,auY,decide_eq_true_eq]at hB;simp only[gq.within,auY]at hn;obtain⟨⟨⟨hr,hlen⟩,hBp⟩,hBq⟩:=hB;have ad:i∈au5 md l0.toArray listed:=aia
  have ae:j∈au5 md l0.toArray listed:=aia
  obtain⟨_,oi,hoi,_⟩:=mem_ready.1 ad;obtain⟨_,oj,ag,_⟩:=mem_ready.1 ae;have ak:i∈ns:=by simpa using hn.1.1.1
  have hkj:j∈ns:=by simpa using hn.1.2
  unfold fK at h;refine⟨by rw[hr];simp,λk hk=>?_⟩;rw[hr]at hk
  rcases List.mem_cons.1 hk with rfl|hk
  .exact⟨ak,wpOp_mono (λa' w' h'=>⟨h'.1,lG ab hQ hs aa p _ a' w' hn.1.1.2 (inv.put ad ak) hBp h'.1 h'.2⟩) (jD hoi h.1)⟩
  .rw[List.mem_singleton.1 hk]
   exact⟨hkj,wpOp_mono (λa' w' h'=>⟨h'.1,by rw[hlen];exact lG ab hQ hs aa q _ a' w' hn.2 (inv.put ae hkj) hBq h'.1 h'.2⟩) (jD ag h.2)⟩
theorem MS{id:Nat}{a:Act}{w:W_}{l:List Oper}(p:gq)(ns:List Nat)(t:Nat)(fin:Array Bool)(bU:List (List (Nat×Bool)×Nat))(last:List (Nat×Bool))(hm:P.follows .mixedOrders=true)(hQ:∀c a d v w,Q (.panic c) (Act.put a d v) w->Q (.panic c) a w)
  (hB:(avu l.toArray&&decide (p.len+(EL bU last+1)=l.toArray.size)&&p.within ns&&nZ .any l.toArray fin p (au4 l.toArray.size false)&&qi .any l.toArray ns (some t) (au4 l.toArray.size false)&&
   decide (au5 .any l.toArray fin=[t])&&!ns.contains t&&J9 .any l.toArray bU last (fin.setIfInBounds t true))=true)
  (h:fK P l Q (λw'=>∃p:Regrown,w'=Go.Sort.grow (redrawn w p.d) p.os) (λa' w'=>wpList P l.toArray (Exit.then (λa'' w''=>uK (λw w'=>∃p:Regrown,w'=Go.Sort.grow (redrawn w p.d) p.os) P l Q bU last a'' w'' w'') Q) (pick l [t]) a' w') p a (w.drewN 1)):(Code.region id l.toArray true).wp P Q a w:=by
 simp only[auY,decide_eq_true_eq,avN]at hB;obtain⟨⟨⟨⟨⟨⟨⟨ab,hn⟩,ad⟩,hp⟩,hs⟩,hr⟩,ht⟩,hB'⟩:=hB;refine wp_region_any hm ?_;rw[<-hn];rw[<-hn]at hp hs
 have hz:nC .any l.toArray ns (au4 (p.len+(EL bU last+1)) false) (au4 (p.len+(EL bU last+1)) false):=
  ⟨⟨by simp[hn],λj oj _ hl=>by rw[qB]at hl;cases hl⟩,λ_ h=>h,λ_ h=>.inl h⟩
 have hz':=y7 p _ ad hz hp;have aa:t∈au5 .any l.toArray fin:=aia
 have af:t∉ns:=by
  exact aip
 obtain⟨_,ot,ae,_⟩:=mem_ready.1 aa;have:=lG (P:=P) (Q:=Q) (fin:=fin) ab hQ hs anH p _ a (w.drewN 1) ad hz hp (mE.drew w) h;refine nL (g:=EL bU last+1) (λlisted' a' w' _ hL=>?_) p.len _ a _ (mE.drew w) this;refine wpAny_all (rs:=[t]) amN P9 (λi hi=>?_);rw[List.mem_singleton.1 hi,hL.1];exact wpOp_mono (λa'' w'' h''=>x8 mE.refl ab hQ bU last _ a'' w'' w'' (hz'.closed.put aa) hB' (mE.refl w'') h'') (jD ae hL.2)
end
section
variable {P:Program} {md:Region.Mode} {Q:Exit→Act→World→Prop}
def x9(P:Program)(l:List Oper)(L:Act->Prop):List Nat->Act->Prop
 |[],a=>L a
 |i::r,a=>match l[i]? with
  |some o=>if avW o (yielded l.toArray a.tmps)then gD P o a (λ_=>True) (λa'=>x9 P l L r a')else x9 P l L r (a.put o.dst undef)
  |none=>x9 P l L r a
theorem V6{l:List Oper}{L:Act->Prop}{i:Nat}{o:Oper}{r:List Nat}{a:Act}(ho:l[i]?=some o)
  (h:∀K:Act->Prop,(∀a,x9 P l L r a->K a)->if avW o (yielded l.toArray a.tmps)then gD P o a (λ_=>True) K else K (a.put o.dst undef)):x9 P l L (i::r) a:=by
 unfold x9;rw[ho];exact h _ (λ_ h=>h)
theorem YQ{l:List Oper}{L:Act->Prop}{a:Act}(h:L a):x9 P l L [] a:=h
def preB(md:Region.Mode)(ops:Array Oper):List Nat->Array Bool->Bool
 |[],_=>true
 |k::r,listed=>(au5 md ops listed).contains k&&awV md ops listed k&&preB md ops r (listed.setIfInBounds k true)
theorem Lj{l:List Oper}:∀(pre:List Nat) (listed:Array Bool),Closed md l.toArray listed->preB md l.toArray pre listed=true->Closed md l.toArray (jv pre listed)
 |[],_,inv,_=>inv
 |k::r,listed,inv,hB=>by
  simp only[preB,auY]at hB;exact Lj r _ (inv.put auJ) hB.2
theorem NQ{l:List Oper}(ab:avu l.toArray=true)(hQ:∀c a d v w,Q (.panic c) (Act.put a d v) w->Q (.panic c) a w){w:W_}{f:Nat}{L:Act->Prop}:
  ∀(pre:List Nat) (listed:Array Bool) (a:Act),preB md l.toArray pre listed=true->(∀a',L a'->wpAny P md l.toArray Q f (jv pre listed) a' w)->x9 P l L pre a->wpAny P md l.toArray Q (pre.length+f) listed a w
 |[],listed,a,_,hL,h=>by rw[List.length_nil,au8];exact hL a h
 |k::r,listed,a,hB,hL,h=>by
  simp only[preB,auY]at hB;obtain⟨⟨hr,an⟩,hB'⟩:=hB;have hr':k∈au5 md l.toArray listed:=by simpa using hr
  obtain⟨_,o,ho,_⟩:=mem_ready.1 hr';have ho':l[k]?=some o:=by simpa using ho
  unfold x9 at h;rw[ho']at h
  obtain⟨v,hy,hK⟩:∃v,Yields P l.toArray o v a/\x9 P l L r (a.put o.dst v):=by
   by_cases hw:avW o (yielded l.toArray a.tmps)=true
   .simp only[hw,if_true]at h
    obtain⟨v,h1,h2⟩:=h;exact⟨v,.inl ⟨hw,λw=>BG (h1 w trivial)⟩,h2⟩
   .simp only[hw]at h
    exact arl
  rw[List.length_cons,show r.length+1+f=(r.length+f)+1 by omega];exact wpAny_take ho ab an hr (λc a w=>hQ c a o.dst v w) hy (NQ ab hQ r _ _ hB' hL hK)
theorem O8{id:Nat}{a:Act}{w:W_}{l:List Oper}(pre:List Nat)(bU:List (List (Nat×Bool)×Nat))(last:List (Nat×Bool))(hm:P.follows .mixedOrders=true)(hQ:∀c a d v w,Q (.panic c) (Act.put a d v) w->Q (.panic c) a w)
  (hB:(avu l.toArray&&decide (pre.length+EL bU last=l.toArray.size)&&preB .any l.toArray pre (au4 l.toArray.size false)&&J9 .any l.toArray bU last (jv pre (au4 l.toArray.size false)))=true)
  (h:x9 P l (λa'=>uK (λw w'=>∃p:Regrown,w'=Go.Sort.grow (redrawn w p.d) p.os) P l Q bU last a' w (w.drewN 1)) pre a):(Code.region id l.toArray true).wp P Q a w:=by
 simp only[auY,decide_eq_true_eq]at hB;obtain⟨⟨⟨ab,hn⟩,hp⟩,hB⟩:=hB;refine wp_region_any hm ?_;rw[<-hn];rw[<-hn]at hp hB;refine NQ ab hQ pre _ a hp (λa' h'=>?_) h;exact x8 mE.refl ab hQ bU last _ a' w _ (Lj pre _ ⟨by simp[hn],λj oj _ hl=>by rw[qB]at hl;cases hl⟩ hp) hB (mE.drew w) h'
end
theorem uV{P:Program}{Q:Exit->Act->W_->Prop}{id:Nat}{a:Act}{w:W_}{l:List Oper}(C:W_->Prop)(last:List (Nat×Bool))(hm:P.follows .mixedOrders=true)(hQ:∀c a d v w,Q (.panic c) (Act.put a d v) w->Q (.panic c) a w)
  (hB:(avu l.toArray&&decide (last.length=l.toArray.size)&&(qi .any l.toArray (last.map (·.1)) none (au4 l.toArray.size false)&&seqB .any l.toArray last (au4 l.toArray.size false)&&(au5 .any l.toArray (jv (last.map (·.1)) (au4 l.toArray.size false))).isEmpty))=true)
  (hC:C (w.drewN 1)) (h:mV P l Q C (λa' w'=>Q .normal a' w') last a (w.drewN 1)):(Code.region id l.toArray true).wp P Q a w:=by
 simp only[auY,decide_eq_true_eq,avV]at hB;obtain⟨⟨ab,hn⟩,⟨hs,hl⟩,hr⟩:=hB;refine wp_region_any hm ?_;rw[<-hn];rw[<-hn]at hs hl hr;have inv:Closed .any l.toArray (au4 last.length false):=⟨by simp[hn],λj oj _ hl=>by rw[qB]at hl;cases hl⟩;have hz:nC .any l.toArray (last.map (·.1)) (au4 last.length false) (au4 last.length false):=⟨inv,λ_ h=>h,λ_ h=>.inl h⟩;have:=xZ (P:=P) (C:=C) (Q:=Q) (fin:=jv (last.map (·.1)) (au4 last.length false)) (Lq:=λa' w'=>Q .normal a' w') ab hQ hs aia last _ a (w.drewN 1) (λk hk=>List.mem_map.2 ⟨k,hk,rfl⟩) hz hl rfl hC h;exact nL (g:=0) (λlisted' a' w' _ hL=>wpAny_done amN hL.2 0) last.length _ a _ hC this
theorem AA{P:Program}{Q:Exit->Act->W_->Prop}{id:Nat}{a:Act}{w:W_}{l:List Oper}(C:W_->Prop)(p:gq)(ns:List Nat)(fin:Array Bool)(hm:P.follows .mixedOrders=true)(hQ:∀c a d v w,Q (.panic c) (Act.put a d v) w->Q (.panic c) a w)
  (hB:(avu l.toArray&&decide (p.len=l.toArray.size)&&p.within ns&&nZ .any l.toArray fin p (au4 l.toArray.size false)&&qi .any l.toArray ns none (au4 l.toArray.size false)&&(au5 .any l.toArray fin).isEmpty)=true)
  (hC:C (w.drewN 1)) (h:fK P l Q C (λa' w'=>Q .normal a' w') p a (w.drewN 1)):(Code.region id l.toArray true).wp P Q a w:=by
 simp only[auY,decide_eq_true_eq,avV]at hB;obtain⟨⟨⟨⟨⟨ab,hn⟩,ad⟩,hp⟩,hs⟩,hr⟩:=hB;refine wp_region_any hm ?_;rw[<-hn];rw[<-hn]at hp hs
 have hz:nC .any l.toArray ns (au4 p.len false) (au4 p.len false):=
  ⟨⟨by simp[hn],λj oj _ hl=>by rw[qB]at hl;cases hl⟩,λ_ h=>h,λ_ h=>.inl h⟩
 have:=lG (P:=P) (Q:=Q) (fin:=fin) ab hQ hs aia p _ a (w.drewN 1) ad hz hp hC h;exact nL (g:=0) (λlisted' a' w' _ hL=>wpAny_done amN hL.2 0) p.len _ a _ hC this
theorem strCells_eq(s:Y_):Lib.strCells s=Lib.byteCells s.data.toList:=aob
theorem O9(l m:List UInt8):Lib.byteCells (l++m)=Lib.byteCells l++Lib.byteCells m:=by simp[Lib.byteCells]
theorem uL{w:W_}{B b o:Nat}{T:TypeId}{cs:Array Value}{v:Value}{l:List UInt8}(h:uU w B b o T cs v l)(hbB:b<B)
  (aa:liesAt Tryz.prog Tryz.prog.depth T (cs.size/Tryz.prog.cellsOf T) o 54 1=true) (s:Y_) (hlen:l.length+s.size<=140737488355328) (hB:B<=w.heap.size):
  C_ 69 #[.pointer (A_ b o),.string s] w λe w'=>e=.returned (.tuple #[V s.size,.nilIface])/\∃v',uU w' B b o T ((cs.setIfInBounds o (.pointer (A_ b o))).setIfInBounds (o+1) v') v' (l++s.data.toList)/\Touch (λk=>k=b\/v.ownBlock=some k) w w':=by
 obtain⟨i0,hi,hz0,hz1,hz2⟩:=info_parts Qn;have ho:o+1<cs.size:=(Array.getElem?_eq_some_iff.1 h.buf).1;go_enter func69,ntmps69;go_wp2_with fail
 refine(FX h aa).mono ?_;rintro e w1 ⟨rfl,hb1,ad,hs1⟩
 have c1:w1.cell? (B_ b (o+1))=some v:=by
  rw[hb1.cell,avQ (by omega)];exact h.buf
 have hown:w1.ownsRow B 5 1 v l.length (Lib.byteCells l):=aQ h.own ad (λk hk e=>h.ne (by rw[hk,e]));have HB:=I hb1;have HT:=I ad;have HS:=I hs1;clear hb1 ad hs1
 go_wp2_with (at_builtin;refine Lib.wpList_append_own_string _ rfl _ _ 52 9 rfl B 5 i0 underlying52 underlying9 hi hz0 hz1 hz2 _ _ _ rfl hown s rfl ?c3 ?c4 ?c5 ?_)
 case c3=>unfold maxLen;omega
 case c4=>omega
 case c5=>have:=HS.out;omega
 intro v' w2 hown' hgrow aP;have ai:=HB.lt;have am:Touch (λk=>v.ownBlock=some k) w1 w2:=(M (λk=>v.ownBlock=some k) w1).grown hgrow (λg hg=>.inl hg);have hb2:af w2 b T (cs.setIfInBounds o (.pointer (A_ b o))):=am.QN HB h.ne
 have d1:w2.cell? (B_ b (o+1))=some v:=by
  rw[hb2.cell,avQ (by omega)];exact h.buf
 have f1:w2.frozen? (B_ b (o+1))=false:=hb2.frozen _;have aj:v'.ownBlock≠some b:=λe=>by have:=(hown'.lt b e).1;omega
 have hnil:l++s.data.toList=[]->v'=N_:=λe=>by
  obtain⟨e1,e2⟩:=List.append_eq_nil_iff.1 e;refine aP.2 ⟨h.J7 e1,?_⟩;apply ByteArray.ext
  apply Array.toList_inj.1
  rw[e2];rfl
 obtain⟨A',cap',rfl⟩:∃A cap,v'=.slice A (l.length+s.size) cap:=by
  rcases hown'.2 with⟨h1,h2⟩|⟨g,cap,cur,h1,_⟩
  .exact aiq
  .exact asI
 have aq:=I hb2;have ao:=I am;have HO:=I hown';have HN:=I aj;have ahE:=I hnil;clear hb2 am hown' aj hgrow hown aP hnil
 go_wp2
 go_ret2;refine⟨rfl,_,⟨aq.put _ _,.inr ?_,?_,?_,HN,ahE⟩,?_⟩
 .rw[avQ (by omega),awM (by omega)]
 .rw[awM (by simp;omega)]
 .have hl:(l++s.data.toList).length=l.length+s.size:=by simp
  rw[O9,<-strCells_eq,hl];exact aQ HO ((M (·=b) w2).setCell (p:=B_ b (o+1)) Wh _) (λk hk e=>HN (by rw[hk,e]))
 .exact((HT.mono (λ_ h=>.inl h)).trans (ao.mono (λ_ h=>.inr h))).setCell (p:=B_ b (o+1)) auk _
theorem y8{w:W_}{B b o:Nat}{T:TypeId}{cs:Array Value}{v:Value}{l:List UInt8}(h:uU w B b o T cs v l):
  C_ 132 #[.pointer (A_ b o)] w λe w'=>e=.returned (V l.length)/\w'=w:=by
 obtain⟨A,cap,rfl⟩:∃A cap,v=.slice A l.length cap:=by
  rcases h.own.2 with⟨h1,h2⟩|⟨g,cap,cur,h1,_⟩
  .exact aiq
  .exact asI
 have c1:w.cell? (B_ b (o+1))=some (.slice A l.length cap):=by rw[h.QN.cell];exact h.buf
 clear h;go_enter func132,ntmps132;go_wp2
 exact asw
theorem MU(l:List UInt8)(t:Y_):((⟨l.toArray⟩:Y_)++t)=⟨(l++t.data.toList).toArray⟩:=by
 apply ByteArray.ext
 simp[ByteArray.data_append]
structure Qq(w:W_)(k:Int)(t:Y_)(f eF:Int)(acc:List UInt8)(cs:Array Value)(v:Value)(wr:W_):Prop where
 tok:af wr w.heap.size 131 #[V k,.string t,V f,V eF]
 dW:uU wr (w.heap.size+2) (w.heap.size+1) 0 54 cs v acc
 size:cs.size=2
 Ke:ag w wr
theorem Qq.next{w:W_}{k:Int}{t:Y_}{f eF:Int}{acc:List UInt8}{cs:Array Value}{v:Value}{wr w':W_}(Q:Qq w k t f eF acc cs v wr){c:UInt8}{v':Value}
  (hb:uU w' (w.heap.size+2) (w.heap.size+1) 0 54 ((cs.setIfInBounds 0 (.pointer (A_ (w.heap.size+1) 0))).setIfInBounds (0+1) v') v' (acc++[c]))
  (ht:Touch (λk=>k=w.heap.size+1\/v.ownBlock=some k) wr w'):
  Qq w k t f eF (acc++[c]) ((cs.setIfInBounds 0 (.pointer (A_ (w.heap.size+1) 0))).setIfInBounds (0+1) v') v' w':=by
 have hlt:=Q.dW.own.lt;refine⟨ht.QN Q.tok ?_,hb,by simp[Q.size],Q.Ke.trans' ht ?_⟩
 .rintro(h1|h1)
  .omega
  .have:=(hlt _ h1).1;omega
 .rintro i (h1|h1)
  .right;omega
  .right;have:=(hlt _ h1).1;omega
theorem V7(t:Y_)(f eF:Int)(w:W_)(hm:t.size<=1000000000):
  C_ 133 #[.agg #[V 3,.string t,V f,V eF]] w λe w'=>e=.returned (S_ (Lx.zO t.data.toList))/\ag w w':=by
 have ab:t.data.toList.length=t.size:=P9
 have yV:=I ab;clear ab;go_enter func133,ntmps133;go_wp2_with fail
 have hs0:Qq w 3 t f eF [] #[.pointer none,N_] (N_) ((w.alloc (.cells #[V 3,.string t,V f,V eF] 131)).alloc (.cells #[.pointer none,N_] 54)):=
  ⟨(af.new w _ _).alloc _,⟨af.new2 _ _ _ _,.inl rfl,rfl,World.ownsRow_nil _ _ _ _,by simp[Value.ownBlock],λ_=>rfl⟩,rfl,((M _ w).alloc _).alloc _⟩
 have ae:=I hs0;clear hs0;refine(iP ae.dW (by rw[ae.size];exact liesBuilder) _ 34 rfl P9 P9).mono ?_;rintro e1 w1 ⟨rfl,v1,hb1,ad⟩;have yc:=I (ae.next hb1 ad);clear hb1 ad ae;have hq:=af.QM yc.tok;obtain⟨q0,q1,q2,q3,z0,z1,z2,z3,hg⟩:=hq;go_wp2
 go_loopw [4] (λi wr=>∃(j:Nat) (acc:List UInt8) (cs:Array Value) (v:Value),i=V j/\j<=t.size/\acc.length<=2*j+1/\Hd (acc=34::Lx.esc (t.data.toList.take j))/\Hd (Qq w 3 t f eF acc cs v wr)) (λi _=>t.size-(intOf i).toNat)
 case atStart=>exact⟨0,_,_,_,rfl,Nat.zero_le _,by simp,by simp[Lx.esc,Hd],yc⟩
 case round=>
  obtain⟨j,acc,cs,v,rfl,hj,aa,HA,HS⟩:=hrel;clear q0 q1 q2 q3 z0 z1 z2 z3 hg yc;obtain⟨q0,q1,q2,q3,z0,z1,z2,z3,hg⟩:=af.QM HS.tok;have hbl:=HS.dW.lt
  by_cases c1:j<t.size
  .have b1:decide ((j:Int)<(t.size:Int))=true:=by simp;omega
   have b1':(j:Int)<(t.size:Int):=Zo
   have ahF:(0:Int)<=(j:Int):=Zo
   have aB:t.data.toList.take (j+1)=t.data.toList.take j++[t[j]'c1]:=by
    rw[List.take_succ_eq_append_getElem (by rw[yV.out];exact c1)];rfl
   have nK:=I aB;clear aB
   by_cases c2:t[j]'c1=34
   .have b2:(((t[j]'c1).toNat:Int)==34)=true:=sP _ 34 c2
    have HE:=I (show Lx.iH (t[j]'c1)=[92,t[j]'c1] by unfold Lx.iH;rw[if_pos (.inl c2)]);clear c2;go_wp2_with fail
    refine(iP HS.dW aqF _ 92 rfl Zo Zo).mono ?_;rintro e2 w2 ⟨rfl,v2,hb2,am⟩;have aq:=I (HS.next hb2 am);clear hb2 am;clear q0 q1 q2 q3 z0 z1 z2 z3 hg;obtain⟨q0,q1,q2,q3,z0,z1,z2,z3,hg⟩:=af.QM aq.tok;have ahG:=aq.dW.lt;go_wp2_with fail
    refine(iP aq.dW (by rw[aq.size];exact liesBuilder) _ (t[j]'c1) rfl WN Zo).mono ?_;rintro e3 w3 ⟨rfl,v3,hb3,ap⟩;have pI:=I (aq.next hb3 ap);clear hb3 ap;go_wp2
    go_roundw
    case rel=>exact⟨j+1,_,_,_,by go_num,c1,by simp;omega,by rw[nK.out,Lx.J5,HE.out,HA.out];simp[Hd],pI⟩
    case measure=>simp[intOf];omega
   .have b2:(((t[j]'c1).toNat:Int)==34)=false:=qW _ 34 c2
    by_cases c3:t[j]'c1=92
    .have b3:(((t[j]'c1).toNat:Int)==92)=true:=sP _ 92 c3
     have HE:=I (show Lx.iH (t[j]'c1)=[92,t[j]'c1] by unfold Lx.iH;rw[if_pos (.inr c3)]);clear c2 c3;go_wp2_with fail
     refine(iP HS.dW aqF _ 92 rfl Zo Zo).mono ?_;rintro e2 w2 ⟨rfl,v2,hb2,am⟩;have aq:=I (HS.next hb2 am);clear hb2 am;clear q0 q1 q2 q3 z0 z1 z2 z3 hg;obtain⟨q0,q1,q2,q3,z0,z1,z2,z3,hg⟩:=af.QM aq.tok;have ahG:=aq.dW.lt;go_wp2_with fail
     refine(iP aq.dW (by rw[aq.size];exact liesBuilder) _ (t[j]'c1) rfl WN Zo).mono ?_;rintro e3 w3 ⟨rfl,v3,hb3,ap⟩;have pI:=I (aq.next hb3 ap);clear hb3 ap;go_wp2
     go_roundw
     case rel=>exact⟨j+1,_,_,_,by go_num,c1,by simp;omega,by rw[nK.out,Lx.J5,HE.out,HA.out];simp[Hd],pI⟩
     case measure=>simp[intOf];omega
    .have b3:(((t[j]'c1).toNat:Int)==92)=false:=qW _ 92 c3
     have HE:=I (show Lx.iH (t[j]'c1)=[t[j]'c1] by unfold Lx.iH;rw[if_neg (λh=>h.elim c2 c3)]);clear c2 c3;go_wp2_with fail
     refine(iP HS.dW aqF _ (t[j]'c1) rfl Zo Zo).mono ?_;rintro e3 w3 ⟨rfl,v3,hb3,ap⟩;have pI:=I (HS.next hb3 ap);clear hb3 ap;go_wp2
     go_roundw
     case rel=>exact⟨j+1,_,_,_,by go_num,c1,by simp;omega,by rw[nK.out,Lx.J5,HE.out,HA.out];simp[Hd],pI⟩
     case measure=>simp[intOf];omega
  .have b1:decide ((j:Int)<(t.size:Int))=false:=by simp;omega
   have aB:t.data.toList.take j=t.data.toList:=List.take_of_length_le (by rw[yV.out];omega);have nK:=I aB;clear aB;go_wp2_with fail
   refine(iP HS.dW aqF _ 34 rfl Zo Zo).mono ?_;rintro e2 w2 ⟨rfl,v2,hb2,am⟩;have aq:=I (HS.next hb2 am);clear hb2 am;go_wp2_with fail
   refine(zI aq.dW).mono ?_;rintro e3 w3 ⟨rfl,ap⟩;have HF:=I (show ag w w3 from aq.Ke.trans' ap (λi hk=>by have:=(aq.dW.own.lt _ hk).1;right;omega));clear ap;go_wp2
   go_ret;refine⟨?_,HF⟩;rw[HA.out,nK.out];rfl
theorem Gx(k:Int)(t:Y_)(f eF:Int)(w:W_)(hm:t.size<=1000000000):
  C_ 133 #[.agg #[V k,.string t,V f,V eF]] w λe w'=>e=.returned (S_ (Lx.gB k t.data.toList))/\ag w w':=by
 by_cases k3:k=3
 .subst k3
  exact V7 t f eF w hm
 have b3:(k==3)=false:=by simpa using k3
 by_cases k4:k=4
 .subst k4
  clear b3 k3;go_enter func133,ntmps133
  go_wp2
  go_ret;exact⟨by rw[MU [92] t];rfl,(M _ w).alloc _⟩
 have b4:(k==4)=false:=by simpa using k4
 by_cases k5:k=5
 .subst k5
  clear b3 k3 b4 k4;go_enter func133,ntmps133
  go_wp2
  go_ret;exact⟨by rw[MU [92,102,101,110,99,101] t];rfl,(M _ w).alloc _⟩
 have b5:(k==5)=false:=by simpa using k5
 by_cases k6:k=6
 .subst k6
  clear b3 k3 b4 k4 b5 k5;go_enter func133,ntmps133
  go_wp2
  go_ret;exact⟨by rw[MU [35] t];rfl,(M _ w).alloc _⟩
 have b6:(k==6)=false:=by simpa using k6
 have hsp:Lx.gB k t.data.toList=t.data.toList:=by unfold Lx.gB;rw[if_neg k3,if_neg k4,if_neg k5,if_neg k6]
 have pJ:=I hsp;clear hsp k3 k4 k5 k6;go_enter func133,ntmps133
 go_wp2
 go_ret;exact⟨by rw[pJ.out];rfl,(M _ w).alloc _⟩
def rE(ka kb:Int)(tb:List UInt8):Bool:=(ka==2&&kb==2)||(ka==4&&kb==1&&(match tb with|[]=>false|b::_=>Lx.dG 3 b))
theorem TY:∀n:Fin 256,(Lx.cls n.1==3)=(decide ((97:Int)<=bits .or .u8 (n.1:Int) 32)&&decide (bits .or .u8 (n.1:Int) 32<=(122:Int))):=I_
theorem isEmpty_toList(s:Y_):s.toList.isEmpty=decide (s.size=0):=by
 rw[ByteArray.toList_eq,Bool.eq_iff_iff,List.isEmpty_iff_length_eq_zero,decide_eq_true_iff];simp
theorem YR(s:Y_)(h:0<s.size):s.data.toList=(s[0]'h)::s.data.toList.drop 1:=by
 have:=List.drop_eq_getElem_cons (l:=s.data.toList) (i:=0) aiu;rw[List.drop_zero]at this;exact this
theorem abv(s:Y_)(h:s.size=0):s.data.toList=[]:=by
 apply List.eq_nil_of_length_eq_zero;simpa using h
theorem YS(ka fa ta kb fb tb':Int)(sa sb:Y_)(w:W_):
  C_ 131 #[.agg #[V ka,.string sa,V fa,V ta],.agg #[V kb,.string sb,V fb,V tb']] w λe w'=>e=.returned (.bool (rE ka kb sb.data.toList))/\ag w w':=by
 by_cases c1:ka=2
 .subst c1
  by_cases c2:kb=2
  .subst c2
   have hr:=I (show rE 2 2 sb.data.toList=true from rfl);go_enter func131,ntmps131
   go_wp2
   exact aby
  .have b2:(kb==2)=false:=by simpa using c2
   have hr:=I (show rE 2 kb sb.data.toList=false by unfold rE;rw[b2];rfl);clear c2;go_enter func131,ntmps131
   go_wp2
   exact aby
 .have b1:(ka==2)=false:=by simpa using c1
  by_cases c2:ka=4
  .subst c2
   clear b1 c1
   by_cases c3:kb=1
   .subst c3
    by_cases c4:sb.size=0
    .have hr:=I (show rE 4 1 sb.data.toList=false by rw[abv sb c4];rfl)
     have b4:sb.toList.isEmpty=true:=by rw[isEmpty_toList,decide_eq_true_iff];exact c4
     clear c4;go_enter func131,ntmps131
     go_wp2
     exact aby
    .have h0:0<sb.size:=by omega
     have hr:rE 4 1 sb.data.toList=(decide ((97:Int)<=bits .or .u8 ((sb[0]'h0).toNat:Int) 32)&&decide (bits .or .u8 ((sb[0]'h0).toNat:Int) 32<=(122:Int))):=by
      rw[YR sb h0];exact TY ⟨(sb[0]'h0).toNat,(sb[0]'h0).toNat_lt⟩
     rw[hr];clear hr c4;have b4:sb.toList.isEmpty=false:=by rw[isEmpty_toList,decide_eq_false_iff_not];omega
     cases d1:decide ((97:Int)<=bits .or .u8 ((sb[0]'h0).toNat:Int) 32)with
     |true=>
      go_enter func131,ntmps131
      go_wp2
      go_ret;exact⟨rfl,((M _ w).alloc _).alloc _⟩
     |false=>
      go_enter func131,ntmps131
      go_wp2
      go_ret;exact⟨rfl,((M _ w).alloc _).alloc _⟩
   .have b2:(kb !=1)=true:=by rw[bne_iff_ne];exact c3
    have hr:=I (show rE 4 kb sb.data.toList=false by unfold rE;rw[beq_eq_false_iff_ne.2 c3];rfl);clear c3;go_enter func131,ntmps131
    go_wp2
    exact aby
  .have b2:(ka !=4)=true:=by rw[bne_iff_ne];exact c2
   have hr:=I (show rE ka kb sb.data.toList=false by unfold rE;rw[b1,beq_eq_false_iff_ne.2 c2];rfl);clear c1 c2;go_enter func131,ntmps131
   go_wp2
   exact aby
def kZ(x:Lx.aB):List Value:=[V x.QI,S_ x.QG,V x.from_,V x.eF]
def BH(W:W_)(v:Value)(ts:List Lx.aB):Prop:=
 ∃A cap,v=.slice A ts.length cap/\∀i (hi:i<ts.length),∃g o,A=A_ g o/\g<W.heap.size/\
  W.cell? (B_ g (o+i*4))=some (V ts[i].QI)/\W.cell? (B_ g (o+i*4+1))=some (S_ ts[i].QG)/\W.cell? (B_ g (o+i*4+2))=some (V ts[i].from_)/\W.cell? (B_ g (o+i*4+3))=some (V ts[i].eF)
theorem BH.QH{W W':W_}{v:Value}{ts:List Lx.aB}(h:BH W v ts)(hf:ag W W'):BH W' v ts:=by
 obtain⟨A,cap,hv,hc⟩:=h;refine⟨A,cap,hv,λi hi=>?_⟩;obtain⟨g,o,h1,h2,h3,h4,h5,h6⟩:=hc i hi;exact⟨g,o,h1,Nat.lt_of_lt_of_le h2 hf.size,hf.cell h3 PR,hf.cell h4 PR,hf.cell h5 PR,hf.cell h6 PR⟩
theorem V8{W:W_}{B e:Nat}{v:Value}{ts:List Lx.aB}(h:W.ownsRow B e 4 v ts.length (ts.flatMap kZ))(i:Nat)(hi:i<ts.length):
  ∃g cap,v=.slice (A_ g 0) ts.length cap/\B<=g/\g<W.heap.size/\∀j u,(kZ ts[i])[j]?=some u->W.cell? (B_ g (4*i+j))=some u:=by
 rcases h.2 with⟨_,h0⟩|⟨g,cap,cur,hv,hB,r⟩
 .omega
 .subst hv
  refine⟨g,cap,rfl,hB,(h.lt g rfl).2,λj u hu=>?_⟩;have aa:=h.cells (g:=g) rfl (4*i+j) u ?_
  .rw[Addr.add_mid,au8]at aa;exact aa
  .have hj:j<4:=by have:=(List.getElem?_eq_some_iff.1 hu).1;simpa[kZ]using this
   clear h r
   induction ts generalizing i with
   |nil=>simp at hi
   |cons x l ih=>
    cases i with
    |zero=>rw[av0,List.getElem?_append_left (by simp[kZ];omega)];simpa using hu
    |succ i=>
     rw[av0,List.getElem?_append_right (by simp[kZ];omega)];have:=ih i am5 (by simpa using hu);rw[<-this];congr 1;simp[kZ];omega
theorem abw{W:W_}{B e:Nat}{v:Value}{ts:List Lx.aB}(h:W.ownsRow B e 4 v ts.length (ts.flatMap kZ)):BH W v ts:=by
 obtain⟨A,cap,hv⟩:∃A cap,v=.slice A ts.length cap:=by
  rcases h.2 with⟨h1,h2⟩|⟨g,cap,cur,h1,_⟩
  .exact aiq
  .exact asI
 refine⟨A,cap,hv,λi hi=>?_⟩;obtain⟨g,cap',h1,h2,h3,h4⟩:=V8 h i hi;rw[hv]at h1;cases h1;refine⟨g,0,rfl,h3,?_⟩;rw[au8,Nat.mul_comm i 4];exact⟨h4 0 _ rfl,h4 1 _ rfl,h4 2 _ rfl,h4 3 _ rfl⟩
end
section
open Go.RowKit
abbrev EO(l:List Int):List Value:=l.map λx=>V x
theorem aer:(Tryz.prog.info? 3).map (λi=>(i.zero,i.size,i.bytes))=some (some (V 0),1,8):=Pg
abbrev up(p:List Nat):List Int:=p.map λn:Nat=>(n:Int)
end
end Go.Proofs.YtabjglnjjdcfmaaGreatDoor
