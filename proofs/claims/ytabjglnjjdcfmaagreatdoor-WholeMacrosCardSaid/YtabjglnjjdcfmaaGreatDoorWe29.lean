/- Part 29 of 41 of a proof. No condition. -/
import Derived.ArgAppend
import Derived.Test.YtabjglnjjdcfmaaGreatDoorWe28
set_option maxRecDepth 100000
set_option maxHeartbeats 400000
namespace Go.Proofs.YtabjglnjjdcfmaaGreatDoor
open _root_.Nat renaming lt_or_ge->avE,ne_of_lt->awI,le_refl->au3,le_trans->au2,lt_of_lt_of_le->avc
open _root_.List renaming drop_eq_nil_of_le->avU,length_append->auZ
open _root_.Go.World renaming setCell->auX
open _root_.Go.Proofs.Tryz
section
open Go.RowKit
open Tr (Nd)
open Lx (aB)
open D7 (R cZ kE eB eP dA bV fD di pArg)
attribute [local go_sem] gD stillUpon
def oK(c:Cf)(k:Kp)(op:List Nat)(r:R (List Nd))(w:W_)(e:Ending)(w':W_):Prop:=
 match r with
 |.ok QS rest=>∃A cp k',e=.returned (.tuple #[.slice A QS.length cp,aG 0 0])/\aP w.heap.size w' QS (.slice A QS.length cp)/\c.at k'=rest/\k.p<=k'.p/\Ps c k' op w'/\Mp c.g c.W0.heap.size w w'
 |.err i er=>er≠0/\∃A n cp,e=.returned (.tuple #[.slice A n cp,aG i er])/\Mp c.g c.W0.heap.size w w'
 |.out=>True
def uQ(n:Nd)(A:Option Addr)(cp:Nat):Value:=.agg #[V n.QI,S_ n.QG,V n.ah,.slice A n.Qx.length cp]
def ahp(c:Cf)(k:Kp)(op:List Nat)(r:R Nd)(w:W_)(e:Ending)(w':W_):Prop:=
 match r with
 |.ok a rest=>∃A cp k',e=.returned (.tuple #[uQ a A cp,aG 0 0])/\aP w.heap.size w' a.Qx (.slice A a.Qx.length cp)/\a.QG.length<=maxLen/\c.at k'=rest/\k.p<=k'.p/\Ps c k' op w'/\Mp c.g c.W0.heap.size w w'
 |.err i er=>er≠0/\∃n A cp,e=.returned (.tuple #[uQ n A cp,aG i er])/\Mp c.g c.W0.heap.size w w'
 |.out=>True
def Nn(c:Cf)(k:Kp)(op:List Nat)(r:R (Option Nd))(w:W_)(e:Ending)(w':W_):Prop:=
 match r with
 |.ok none rest=>∃k',e=.returned (.tuple #[.agg ZN,.bool false,aG 0 0])/\c.at k'=rest/\k.p<=k'.p/\Ps c k' op w'/\Mp c.g c.W0.heap.size w w'
 |.ok (some a) rest=>∃A cp k',e=.returned (.tuple #[uQ a A cp,.bool true,aG 0 0])/\aP w.heap.size w' a.Qx (.slice A a.Qx.length cp)/\a.QG.length<=maxLen/\c.at k'=rest/\k.p<=k'.p/\Ps c k' op w'/\Mp c.g c.W0.heap.size w w'
 |.err i er=>er≠0/\∃n A cp,e=.returned (.tuple #[uQ n A cp,.bool true,aG i er])/\Mp c.g c.W0.heap.size w w'
 |.out=>True
theorem Er{c:Cf}{k:Kp}{b:UInt8}(h:Np.dx b (c.at k).l=true):k.p<c.T.length:=by
 rcases avE k.p c.T.length with h1|h1
 .exact h1
 .rw[Cf.ama,avU h1]at h;cases h
theorem Br{c:Cf}{k:Kp}(h:(c.at k).l≠[]):k.p<c.T.length:=by
 rcases avE k.p c.T.length with h1|h1
 .exact h1
 .rw[Cf.ama,avU h1]at h;exact absurd rfl h
def Nq(c:Cf)(f:Nat):Prop:=∀(k:Kp) (op:List Nat) (w:W_),Ps c k op w->op.length<=k.p->cZ c.E f op (c.at k)≠.out->C_ 27 #[lV c] w (oK c k op (cZ c.E f op (c.at k)) w)
def xM(c:Cf)(f:Nat):Prop:=∀(k:Kp) (op:List Nat) (b:UInt8) (w:W_),Ps c k op w->op.length<=k.p->k.p<c.T.length->kE c.E f b op (c.at k)≠.out->C_ 89 #[lV c,.string ⟨#[b]⟩] w (oK c k op (kE c.E f b op (c.at k)) w)
def xN(c:Cf)(f:Nat):Prop:=∀(k:Kp) (op:List Nat) (w:W_),Ps c k op w->op.length<=k.p->pArg c.E f op (c.at k)≠.out->C_ 126 #[lV c] w (ahp c k op (pArg c.E f op (c.at k)) w)
def Jn(c:Cf)(f:Nat):Prop:=∀(k:Kp) (op:List Nat) (b:UInt8) (w:W_),Ps c k op w->op.length<=k.p->eB c.E f b op (c.at k)≠.out->C_ 93 #[lV c,.string ⟨#[b]⟩] w (Nn c k op (eB c.E f b op (c.at k)) w)
theorem aP.mp{B:Nat}{c:Cf}{k:Kp}{op:List Nat}{w w':W_}{ks:List Nd}{v:Value}(h:aP B w ks v)(hm:Mp c.g c.W0.heap.size w w')(hp:Ps c k op w):aP B w' ks v:=by
 obtain⟨ov,hb,_⟩:=hp.box;refine h.mv hm λb cs fr hs _ e=>?_
 rcases hs with rfl|⟨_,cs',fr',h3⟩
 .unfold af at hb
  rw[hb]at e;cases e
 .rw[h3]at e
  cases e
def aH(w:W_)(g:Nat)(x0 x1:Value):W_:=(w.setCell (B_ g 0) x0).setCell (B_ g 1) x1
theorem af.fT{w:W_}{g:Nat}{t:TypeId}{a b:Value}(h:af w g t #[a,b])(x0 x1:Value):af (aH w g x0 x1) g t #[x0,x1]:=(h.put 0 x0).put 1 x1
theorem af.nJ{w:W_}{L g:Nat}{t:TypeId}{cs:Array Value}(h:af w L t cs)(hne:L≠g)(x0 x1:Value):af (aH w g x0 x1) L t cs:=(h.far (p:=B_ g 0) hne _).far (p:=B_ g 1) hne _
theorem Touch.aH{S:Nat->Prop}{w w':W_}{g:Nat}(h:Touch S w w')(hg:S g\/w.heap.size<=g)(x0 x1:Value):Touch S w (aH w' g x0 x1):=(h.setCell (p:=B_ g 0) hg _).setCell (p:=B_ g 1) hg _
theorem Ps.aH{c:Cf}{k:Kp}{op:List Nat}{w:W_}(h:Ps c k op w){b:Nat}{t:TypeId}{y0 y1:Value}(hb:af w b t #[y0,y1])(ht:t≠3)(hne:b≠c.g)(hB:c.W0.heap.size<=b)(x0 x1:Value):Ps c k op (aH w b x0 x1):=
 (h.put hb ht hne hB 0 x0).put (hb.put 0 x0) ht hne hB 1 x1
theorem Ps.aO{c:Cf}{k:Kp}{op:List Nat}{w:W_}(h:Ps c k op w){b:Nat}{t:TypeId}{y0 y1 y2 y3:Value}(hb:af w b t #[y0,y1,y2,y3])(ht:t≠3)(hne:b≠c.g)(hB:c.W0.heap.size<=b)(x0 x1 x2 x3:Value):Ps c k op (aO w b x0 x1 x2 x3):=
 (((h.put hb ht hne hB 0 x0).put (hb.put 0 x0) ht hne hB 1 x1).put ((hb.put 0 x0).put 1 x1) ht hne hB 2 x2).put (((hb.put 0 x0).put 1 x1).put 2 x2) ht hne hB 3 x3
theorem dS(w:W_)(b:Nat)(x0 x1:Value):Touch (λk=>k=b) w (aH w b x0 x1):=(M (λk=>k=b) w).aH Wh x0 x1
theorem yL(w:W_)(b:Nat)(x0 x1 x2 x3:Value):Touch (λk=>k=b) w (aO w b x0 x1 x2 x3):=(M (λk=>k=b) w).aO Wh x0 x1 x2 x3
theorem aP.far{B:Nat}{w w':W_}{b:Nat}{ks:List Nd}{v:Value}(h:aP B w ks v)(ht:Touch (λk=>k=b) w w')(hb:b<B):aP B w' ks v:=h.mv ht λk _ _ hk hB=>by omega
theorem aP.other{B:Nat}{w w':W_}{b:Nat}{t:TypeId}{cs:Array Value}{ks:List Nd}{v:Value}(h:aP B w ks v)(hb:af w b t cs)(ht:t≠31)(hw:Touch (λk=>k=b) w w'):aP B w' ks v:=
 h.mv hw λk cs' fr hk _ e=>by
  subst hk;unfold af at hb;rw[hb]at e;cases e;exact ht rfl
theorem Calls.via{P:Program}{f:FuncId}{args:Array Value}{w:W_}{R:Ending->W_->Prop}(h:∀Q:Ending->W_->Prop,(∀e w',R e w'->Q e w')->Calls P f args w Q):Calls P f args w R:=h R λ_ _ h=>h
theorem alr{e:Nat}(h:e≠0):((e:Int)==(0:Int))=false:=MW
theorem Yh(c:Cf)(hc:c.Good)(f:Nat)(hrow:Nq c f):xM c (f+1):=by
 intro k op b w h hop hk hne;have au:=hc.tl;have oI:=I (λ(w':W_) (hf:ag w w')=>JU c hc k op w' ah6 hk Zo);have HR:=I hrow;have HF:=I (λ(k':Kp) (w':W_) (h:Ps c k' (op++[Np.place c.en (c.at k).l]) w') (hk:k'.p<c.T.length\/Np.dx b (c.at k').l=false)=>IA c hc k' op _ b w' h hk);have H:=I h;have oJ:=I hop;have aF:c.g<w.heap.size:=h.Ap;have ax:=I h.low.size
 have hr:kE c.E (f+1) b op (c.at k)=(cZ c.E f (op++[Np.place c.en (c.at k).l]) (c.at k.up)).bind λQS r=>if Np.dx b r.l then .ok QS r.up else D7.refuse c.E r:=by
  rw[kE,Cf.alE]
 rw[hr]at hne|-;generalize Np.place c.en (c.at k).l=pl at*;have aY:=I hne;refine Calls.via λQ hQ=>?_
 have HQ:=I hQ;clear hne hr hrow h hop hc hQ;go_enter func89,ntmps89;go_wp2_with fail
 refine(oI _ Q_).mono ?_;rintro _ w1 ⟨rfl,ac,aL⟩;have Iu:=I ac;have Zi:=I ((Mp.QH aq4).trans aL);have aC:=I (aL.QN (af.new w 45 #[V 0,V 0]) Zo Pf);clear ac aL;go_wp2_with fail
 refine(HR k.up (op++[pl]) _ Iu (by have:=oJ.out;simp;omega) (λh=>aY (by rw[h];rfl))).mono ?_;intro e w2 hres;generalize cZ c.E f (op++[pl]) (c.at k.up)=r at*;cases r with
 |out=>exact absurd rfl aY
 |err i er=>
  obtain⟨aj,A,n,cp,rfl,hm⟩:=hres;have F7:=I aj;have e0:=alr aj;have iI:=I (Zi.trans hm);have aq:=I (hm.QN aC Zo Pf);clear hm aj;unfold aG;go_wp2_with fail
  have ap:af (w2.alloc (.cells #[V (i:Int),V (er:Int)] 45)) w2.heap.size 45 #[V (i:Int),V (er:Int)]:=af.new _ _ _;have hbr:af (w2.alloc (.cells #[V (i:Int),V (er:Int)] 45)) w.heap.size 45 #[V 0,V 0]:=aq.alloc _;have az:=iI.alloc (.cells #[V (i:Int),V (er:Int)] 45);generalize (w2.alloc (.cells #[V (i:Int),V (er:Int)] 45))=W3 at ap hbr az|-;have r0:=cR y_;have r1:=cR z_;have ab:=ap.lt;have ow:=I hbr;have aN:=I az;clear ap hbr az;refine cu [([(0,true),(1,true)],2)] [] Pg Ph Pg ?_;refine dJ ?_
  repeat(refine Z4 ?_)
  obtain⟨p0,p1,y0,y1,hlt⟩:=af.two (ow.drewN 1);refine dm rfl (λK hK=>?_);go_wp2_with fail
  refine fH ?_;go_wp2_with fail
  have al:af _ (w.heap.size) 45 #[V (i:Int),V (er:Int)]:=((ow.drewN 1).put 0 (V (i:Int))).put 1 (V (er:Int));have wO:=((aN.drewN 1).setCell (p:=B_ w.heap.size 0) WL (V (i:Int))).setCell (p:=B_ w.heap.size 1) WL (V (er:Int));obtain⟨f0,f1,_⟩:=af.two al
  refine bodyPost_ret (v:=.tuple #[N_,aG i er]) ara rfl ?_;exact ark
 |ok QS rest=>
  obtain⟨A,cp,k',rfl,aa,hdr,ad,hp,hm⟩:=hres;have jK:=I aa;have jb:=I hp;have aJ:=I ad;have iI:=I (Zi.trans hm);have aq:=I (hm.QN aC Zo Pf);clear hm hp aa ad;unfold aG;go_wp2_with fail
  have aU:=iI.alloc (.cells #[V 0,V 0] 45);have an:ag w2 (w2.alloc (.cells #[V 0,V 0] 45)):=(M _ _).alloc _;have aA:af (w2.alloc (.cells #[V 0,V 0] 45)) w2.heap.size 45 #[V 0,V 0]:=af.new _ _ _;generalize (w2.alloc (.cells #[V 0,V 0] 45))=W3 at aU an aA|-;have rM:=I (show Mp c.g c.W0.heap.size w W3 from aU);have ai:=I (an.QN aq PR);have ae:=I aA;have ajg:=I (jK.QH an);have oL:=I (jb.QH an);have ahq:=aq.lt;have af8:c.g<w2.heap.size:=jb.Ap
  have aI:k'.p<c.T.length\/Np.dx b (c.at k').l=false:=by
   cases hm:Np.dx b (c.at k').l with
   |true=>exact .inl (Er hm)
   |false=>exact .inr rfl
  have uf:=I aI;subst hdr
  have agr:=I (show(D7.R.ok QS (c.at k')).bind (λQS r=>if Np.dx b r.l=true then D7.R.ok QS r.up else D7.refuse c.E r)=if Np.dx b (c.at k').l=true then .ok QS (c.at k'.up)else .err (Np.place c.en (c.at k').l) 3 from by
   rw[<-Cf.alE];rfl)
  rw[agr.out]at HQ;clear aU an aA aY jK aq jb agr aI oI HR;refine(HF k' _ oL uf).mono ?_;rintro _ w4 (⟨hm,rfl,hp,ay⟩|⟨hm,rfl,ay⟩)
  .rw[hm,if_pos rfl]at HQ
   have AP:=I hp;have Es:=I (rM.trans ay);have iB:=I (ay.QN ai Zo Pf);have ap:=ay.QN ae Zo Pf;have ajh:=I (aP.mp ajg ay oL);have ags:=I ap;obtain⟨p0,p1,y0,y1,hlt⟩:=af.two ap;obtain⟨s0,s1,x0,x1,aR⟩:=af.two iB;clear hp ay ap hm HF;unfold aG;go_wp2_with fail
   have z5:=iB.nJ (awI ahq) (V 0) (V 0);have al:=z5.fT (V 0) (V 0);have am:=(AP.aH ags Pf Zo ail (V 0) (V 0)).aH z5 Pf Zo ax (V 0) (V 0);have wO:=(Es.aH (g:=w2.heap.size) Ls (V 0) (V 0)).aH (.inr (au3 w.heap.size)) (V 0) (V 0);have aji:=(ajh.other ags Pf (dS _ _ (V 0) (V 0))).other z5 Pf (dS _ _ (V 0) (V 0));obtain⟨f0,f1,_⟩:=af.two al;simp only[aH]at f0 f1
   refine bodyPost_ret (v:=.tuple #[.slice A QS.length cp,aG 0 0]) ara rfl ?_;exact HQ _ _ ⟨A,cp,k'.up,rfl,aji.base (by have:=Zi.size;omega),rfl,by have:=aJ.out;(try simp only[Kp.alq]at this|-);omega,am,wO⟩
  .rw[hm,if_neg (by simp)]at HQ
   generalize Np.place c.en (c.at k').l=pq at*;have Es:=I (rM.trans ay);have iB:=I (ay.QN ai Zo Pf);have ap:=ay.QN ae Zo Pf;have ags:=I ap;obtain⟨p0,p1,y0,y1,hlt⟩:=af.two ap;clear ay ap hm HF uf;unfold aG;go_wp2_with fail
   have ap:af _ w2.heap.size 45 #[V (pq:Int),V 3]:=(ags.put 0 (V (pq:Int))).put 1 (V 3);have hbr:af _ w.heap.size 45 #[V 0,V 0]:=((iB.far (p:=B_ w2.heap.size 0) (awI ahq) (V (pq:Int))).far (p:=B_ w2.heap.size 1) (awI ahq) (V 3));have az:=((Es.setCell (p:=B_ w2.heap.size 0) auR (V (pq:Int))).setCell (p:=B_ w2.heap.size 1) auR (V 3));generalize ((w4.setCell (B_ w2.heap.size 0) (V (pq:Int))).setCell (B_ w2.heap.size 1) (V 3))=W3 at ap hbr az|-;have r0:=cR y_;have r1:=cR z_;have ab:=ap.lt;have ow:=I hbr;have aN:=I az;clear ap hbr az;refine cu [([(0,true),(1,true)],2)] [] Pg Ph Pg ?_;refine dJ ?_
   repeat(refine Z4 ?_)
   obtain⟨p0,p1,y0,y1,hlt⟩:=af.two (ow.drewN 1);refine dm rfl (λK hK=>?_);go_wp2_with fail
   refine fH ?_;go_wp2_with fail
   have al:af _ (w.heap.size) 45 #[V (pq:Int),V 3]:=((ow.drewN 1).put 0 (V (pq:Int))).put 1 (V 3);have wO:=((aN.drewN 1).setCell (p:=B_ w.heap.size 0) WL (V (pq:Int))).setCell (p:=B_ w.heap.size 1) WL (V 3);obtain⟨f0,f1,_⟩:=af.two al
   refine bodyPost_ret (v:=.tuple #[N_,aG pq 3]) ara rfl ?_;exact HQ _ _ ⟨by decide,none,0,0,rfl,wO⟩
theorem Ps.mv{c:Cf}{k:Kp}{op:List Nat}{w w':W_}{S:Nat->Prop}(h:Ps c k op w)(ht:Touch S w w')(hS:∀b,S b->b≠c.g/\c.W0.heap.size<=b/\∃t cs,t≠3/\af w b t cs):Ps c k op w':=by
 obtain⟨ov,hb,ho⟩:=h.box;refine⟨h.low.trans' ht λi hi=>.inr (hS i hi).2.1,⟨ov,ht.QN hb λhs=>(hS _ hs).1 rfl,aQ ho ht λb hb' hs=>?_⟩,h.le,h.nl⟩;obtain⟨_,cur,h2⟩:=fe ho hb';obtain⟨t,cs,h3,h4⟩:=(hS b hs).2.2;unfold af at h4;rw[h4]at h2;cases h2;exact h3 rfl
abbrev yM:Array Value:=ZN
abbrev ad2(n:Nd)(A:Option Addr)(cp:Nat):Array Value:=#[V n.QI,S_ n.QG,V n.ah,.slice A n.Qx.length cp]
theorem ac7(c:Cf)(hc:c.Good)(f:Nat)(IE:xN c f):Jn c (f+1):=by
 intro k op b w h hop hne;have HA:=I (λ(w':W_) (hf:ag w w')=>vE c hc k op b w' ah6);have ac8:=I IE;have au:=hc.tl;have H:=I h;have oJ:=I hop;have aF:c.g<w.heap.size:=h.Ap;have ax:=I h.low.size;have hr:eB c.E (f+1) b op (c.at k)=if Np.dx b (c.at k).l then(pArg c.E f op (c.at k.up)).map some else .ok none (c.at k):=by rw[eB,Cf.alE]
 rw[hr]at hne|-;have aY:=I hne;refine Calls.via λQ hQ=>?_
 have HQ:=I hQ;have hlt:=@Er c k b;clear hne hr IE h hop hc hQ;cases hm:Np.dx b (c.at k).l with
 |false=>
  rw[hm]at HQ HA;rw[if_neg (by simp)]at HQ;clear hm hlt aY;go_enter func93,ntmps93;go_wp2_with fail
  refine(HA _ aqI).mono ?_;rintro _ w1 ⟨rfl,hf⟩;have HF:=I atd;have iY:=I (hf.QN ((af.new w 31 yM).alloc (.cells #[V 0,V 0] 45)) PR);have jg:=I adL;obtain⟨p0,p1,p2,p3,y0,y1,y2,y3,lW⟩:=af.QM iY;obtain⟨q0,q1,z0,z1,ai⟩:=af.two jg;clear hf;go_wp2_with fail
  have n1:=iY.gH (V 0) (E_) (V 0) (N_);have hne:w.heap.size≠w.heap.size+1:=Zo
  have n2:=jg.uJ (Ne.symm hne) (V 0) (E_) (V 0) (N_);have n3:=n1.nJ hne (V 0) (V 0);have n4:=n2.fT (V 0) (V 0);have am:=((H.QH HF).aO iY Pf Zo ax (V 0) (E_) (V 0) (N_)).aH n2 Pf Zo ail (V 0) (V 0);have wO:Mp c.g c.W0.heap.size w _:=((Mp.QH HF).aO (g:=w.heap.size) ET (V 0) (E_) (V 0) (N_)).aH (g:=w.heap.size+1) Ls (V 0) (V 0);obtain⟨g0,g1,g2,g3,_⟩:=af.QM n3;obtain⟨f0,f1,_⟩:=af.two n4;simp only[aH,aO]at g0 g1 g2 g3 f0 f1
  refine bodyPost_ret (v:=.tuple #[.agg yM,.bool false,aG 0 0]) (by simp[aG,results,results93,go_sem,f0,f1,g0,g1,g2,g3]) rfl ?_;exact HQ _ _ ⟨k,rfl,rfl,au3 _,am,wO⟩
 |true=>
  have HK:=I (hlt hm);rw[hm]at HQ HA aY;rw[if_pos rfl]at HQ aY;clear hm hlt;have e3:((k.p:Int)+1)=((k.p+1:Nat):Int):=P9
  have hk4:k.p<=100000:=by have:=HK.out;omega
  have HE:=I e3;clear e3;unfold lV at HA;go_enter func93,ntmps93;unfold lV;go_wp2_with fail
  refine(HA _ aqI).mono ?_;rintro _ w1 ⟨rfl,hf⟩;have HF:=I atd;have iY:=I (hf.QN ((af.new w 31 yM).alloc (.cells #[V 0,V 0] 45)) PR);have jg:=I adL;have Iu:=I (H.QH HF);obtain⟨ov,hb,_⟩:=Iu.box;have q1:=hb.cell 1;have z1:=hb.frozen 1;have hg1:=hb.lt;clear hf hb;go_wp2_with fail
  obtain⟨n1,n2⟩:=Iu.next HK _ HE;have jb:=I n1;have iI:=I ((Mp.QH HF).trans n2);have Fy:=I (iY.far (p:=B_ c.g 1) (λe=>by have e':w.heap.size=c.g:=e;omega) (V ((k.p:Int)+1)));have tK:=I (jg.far (p:=B_ c.g 1) (λe=>by have e':w.heap.size+1=c.g:=e;omega) (V ((k.p:Int)+1)));have aE:=I (show w.heap.size+1<(w1.setCell (B_ c.g 1) (V ((k.p:Int)+1))).heap.size from tK.lt);generalize (w1.setCell (B_ c.g 1) (V ((k.p:Int)+1)))=w2 at jb iI Fy tK aE|-;clear n1 n2 q1 z1 hg1;refine(ac8 k.up op _ jb h_ (λh=>aY (by rw[h];rfl))).mono ?_;intro e w3 hres;generalize pArg c.E f op (c.at k.up)=r at HQ aY hres;cases r with
  |out=>exact absurd rfl aY
  |err i er=>
   obtain⟨aj,n,A,cp,rfl,hm⟩:=hres;have F7:=I aj;have rM:=I aeA;have oF:=I (hm.QN Fy Zo Pf);have dY:=I (hm.QN tK Zo Pf);obtain⟨p0,p1,p2,p3,y0,y1,y2,y3,lW⟩:=af.QM oF;obtain⟨q0,q1,z0,z1,ai⟩:=af.two dY;clear hm aj;unfold aG uQ;go_wp2_with fail
   have hne:w.heap.size≠w.heap.size+1:=Zo
   have n1:=(oF.gH (V n.QI) (S_ n.QG) (V n.ah) (.slice A n.Qx.length cp)).nJ hne (V (i:Int)) (V (er:Int));have n2:=(dY.uJ (Ne.symm hne) (V n.QI) (S_ n.QG) (V n.ah) (.slice A n.Qx.length cp)).fT (V (i:Int)) (V (er:Int));have iU:Mp c.g c.W0.heap.size w (aH (aO w3 w.heap.size (V n.QI) (S_ n.QG) (V n.ah) (.slice A n.Qx.length cp)) (w.heap.size+1) (V (i:Int)) (V (er:Int))):=(rM.aO (g:=w.heap.size) ET (V n.QI) (S_ n.QG) (V n.ah) (.slice A n.Qx.length cp)).aH (g:=w.heap.size+1) Ls (V (i:Int)) (V (er:Int));have fA:Touch (λk=>k=w.heap.size\/k=w.heap.size+1) w3 (aH (aO w3 w.heap.size (V n.QI) (S_ n.QG) (V n.ah) (.slice A n.Qx.length cp)) (w.heap.size+1) (V (i:Int)) (V (er:Int))):=((yL _ _ (V n.QI) (S_ n.QG) (V n.ah) (.slice A n.Qx.length cp)).mono λ_ h=>.inl h).trans at7;simp only[aH,aO]at n1 n2 iU fA;generalize (auX (auX (auX (auX (auX (auX w3 (B_ w.heap.size 0) _) (B_ w.heap.size 1) _) (B_ w.heap.size 2) _) (B_ w.heap.size 3) _) (B_ (w.heap.size+1) 0) _) (B_ (w.heap.size+1) 1) _)=W4 at n1 n2 iU fA|-;have av:=I n1;have Sb:=I n2;have Es:=I iU;have nU:=I fA;clear n1 n2 iU fA p0 p1 p2 p3 y0 y1 y2 y3 q0 q1 z0 z1;refine uV (λW=>af W w.heap.size 31 (ad2 n A cp)/\af W (w.heap.size+1) 45 #[V (i:Int),V (er:Int)]/\Touch (λk=>k=w.heap.size\/k=w.heap.size+1) W4 W) [(0,true),(1,true),(2,false),(3,true),(4,false)] Pg Ph Pg ⟨av.drewN 1,Sb.drewN 1,(M _ _).drewN 1⟩ ?_;refine ak rfl (λK hK=>?_);rw[if_pos (by rfl)];refine⟨.agg (ad2 n A cp),λW hW=>?_,hK _ ?_⟩
   .obtain⟨h1,_,_⟩:=hW
    obtain⟨p0,p1,p2,p3,_⟩:=af.QM h1;go_simp
   clear hK K;refine ak rfl (λK hK=>?_);rw[if_pos (by rfl)];refine⟨.agg #[V (i:Int),V (er:Int)],λW hW=>?_,hK _ ?_⟩
   .obtain⟨_,h1,_⟩:=hW
    obtain⟨p0,p1,_⟩:=af.two h1;go_simp
   clear hK K;obtain⟨p0,p1,p2,p3,y0,y1,y2,y3,lW⟩:=af.QM (av.drewN 1);obtain⟨q0,q1,z0,z1,ai⟩:=af.two (Sb.drewN 1);refine aS rfl (λK hK=>?_);go_wp2_with fail
   have hx:=Es.size;have m1:=(av.drewN 1).gH (V n.QI) (S_ n.QG) (V n.ah) (.slice A n.Qx.length cp);have m2:=(Sb.drewN 1).uJ (Ne.symm hne) (V n.QI) (S_ n.QG) (V n.ah) (.slice A n.Qx.length cp);have mt:Touch (λk=>k=w.heap.size\/k=w.heap.size+1) W4 (aO (W4.drewN 1) w.heap.size (V n.QI) (S_ n.QG) (V n.ah) (.slice A n.Qx.length cp)):=((M _ _).drewN 1).trans ((yL _ _ (V n.QI) (S_ n.QG) (V n.ah) (.slice A n.Qx.length cp)).mono λ_ h=>.inl h);have mm:Mp c.g c.W0.heap.size w (aO (W4.drewN 1) w.heap.size (V n.QI) (S_ n.QG) (V n.ah) (.slice A n.Qx.length cp)):=(Es.drewN 1).aO (g:=w.heap.size) ET (V n.QI) (S_ n.QG) (V n.ah) (.slice A n.Qx.length cp);simp only[aO]at m1 m2 mt mm;generalize (auX (auX (auX (auX (W4.drewN 1) (B_ w.heap.size 0) _) (B_ w.heap.size 1) _) (B_ w.heap.size 2) _) (B_ w.heap.size 3) _)=W5 at m1 m2 mt mm|-;refine hK _ _ ⟨m1,m2,mt⟩ ?_;have ab:=I m1;have eY:=I m2;have iW:=I mt;have Ga:=I mm;clear hK K p0 p1 p2 p3 y0 y1 y2 y3 q0 q1 z0 z1 m1 m2 mt mm;refine ak rfl (λK hK=>?_);rw[if_pos (by rfl)];refine⟨.bool true,λW hW=>?_,hK _ ?_⟩
   .go_simp
   clear hK K;obtain⟨q0,q1,z0,z1,ai⟩:=af.two eY;refine aS rfl (λK hK=>?_);go_wp2_with fail
   have m1:=ab.nJ hne (V (i:Int)) (V (er:Int));have m2:=eY.fT (V (i:Int)) (V (er:Int));have mt:Touch (λk=>k=w.heap.size\/k=w.heap.size+1) W4 (aH W5 (w.heap.size+1) (V (i:Int)) (V (er:Int))):=iW.trans at7;have mm:Mp c.g c.W0.heap.size w (aH W5 (w.heap.size+1) (V (i:Int)) (V (er:Int))):=Ga.aH (g:=w.heap.size+1) Ls (V (i:Int)) (V (er:Int));simp only[aH]at m1 m2 mt mm;generalize (auX (auX W5 (B_ (w.heap.size+1) 0) _) (B_ (w.heap.size+1) 1) _)=W6 at m1 m2 mt mm|-;refine hK _ _ ⟨m1,m2,mt⟩ ?_;clear hK K q0 q1 z0 z1;refine sj ?_;go_wp2_with fail
   obtain⟨g0,g1,g2,g3,_⟩:=af.QM m1;obtain⟨f0,f1,_⟩:=af.two m2
   refine bodyPost_ret (v:=.tuple #[uQ n A cp,.bool true,aG i er]) atg rfl ?_;exact HQ _ _ ⟨F7,n,A,cp,rfl,mm⟩
  |ok a rest=>
   obtain⟨A,cp,k',rfl,aa,an,hdr,ad,hp,hm⟩:=hres;have jK:=I aa;have kJ:=I an;have ao:=I hdr;have aJ:=I ad;have oL:=I hp;have rM:=I aeA;have oF:=I (hm.QN Fy Zo Pf);have dY:=I (hm.QN tK Zo Pf);obtain⟨p0,p1,p2,p3,y0,y1,y2,y3,lW⟩:=af.QM oF;obtain⟨q0,q1,z0,z1,ai⟩:=af.two dY;clear hm aa an hdr ad hp;unfold aG uQ;go_wp2_with fail
   have hne:w.heap.size≠w.heap.size+1:=Zo
   have n1:=(oF.gH (V a.QI) (S_ a.QG) (V a.ah) (.slice A a.Qx.length cp)).nJ hne (V 0) (V 0);have n2:=(dY.uJ (Ne.symm hne) (V a.QI) (S_ a.QG) (V a.ah) (.slice A a.Qx.length cp)).fT (V 0) (V 0);have iU:Mp c.g c.W0.heap.size w (aH (aO w3 w.heap.size (V a.QI) (S_ a.QG) (V a.ah) (.slice A a.Qx.length cp)) (w.heap.size+1) (V 0) (V 0)):=(rM.aO (g:=w.heap.size) ET (V a.QI) (S_ a.QG) (V a.ah) (.slice A a.Qx.length cp)).aH (g:=w.heap.size+1) Ls (V 0) (V 0);have fA:Touch (λk=>k=w.heap.size\/k=w.heap.size+1) w3 (aH (aO w3 w.heap.size (V a.QI) (S_ a.QG) (V a.ah) (.slice A a.Qx.length cp)) (w.heap.size+1) (V 0) (V 0)):=((yL _ _ (V a.QI) (S_ a.QG) (V a.ah) (.slice A a.Qx.length cp)).mono λ_ h=>.inl h).trans ((dS _ _ (V 0) (V 0)).mono λ_ h=>.inr h);simp only[aH,aO]at n1 n2 iU fA;generalize (auX (auX (auX (auX (auX (auX w3 (B_ w.heap.size 0) _) (B_ w.heap.size 1) _) (B_ w.heap.size 2) _) (B_ w.heap.size 3) _) (B_ (w.heap.size+1) 0) _) (B_ (w.heap.size+1) 1) _)=W4 at n1 n2 iU fA|-;have av:=I n1;have Sb:=I n2;have Es:=I iU;have nU:=I fA;clear n1 n2 iU fA p0 p1 p2 p3 y0 y1 y2 y3 q0 q1 z0 z1;refine uV (λW=>af W w.heap.size 31 (ad2 a A cp)/\af W (w.heap.size+1) 45 #[V 0,V 0]/\Touch (λk=>k=w.heap.size\/k=w.heap.size+1) W4 W) [(0,true),(1,true),(2,false),(3,true),(4,false)] Pg Ph Pg ⟨av.drewN 1,Sb.drewN 1,(M _ _).drewN 1⟩ ?_;refine ak rfl (λK hK=>?_);rw[if_pos (by rfl)];refine⟨.agg (ad2 a A cp),λW hW=>?_,hK _ ?_⟩
   .obtain⟨h1,_,_⟩:=hW
    obtain⟨p0,p1,p2,p3,_⟩:=af.QM h1;go_simp
   clear hK K;refine ak rfl (λK hK=>?_);rw[if_pos (by rfl)];refine⟨.agg #[V 0,V 0],λW hW=>?_,hK _ ?_⟩
   .obtain⟨_,h1,_⟩:=hW
    obtain⟨p0,p1,_⟩:=af.two h1;go_simp
   clear hK K;obtain⟨p0,p1,p2,p3,y0,y1,y2,y3,lW⟩:=af.QM (av.drewN 1);obtain⟨q0,q1,z0,z1,ai⟩:=af.two (Sb.drewN 1);refine aS rfl (λK hK=>?_);go_wp2_with fail
   have hx:=Es.size;have m1:=(av.drewN 1).gH (V a.QI) (S_ a.QG) (V a.ah) (.slice A a.Qx.length cp);have m2:=(Sb.drewN 1).uJ (Ne.symm hne) (V a.QI) (S_ a.QG) (V a.ah) (.slice A a.Qx.length cp);have mt:Touch (λk=>k=w.heap.size\/k=w.heap.size+1) W4 (aO (W4.drewN 1) w.heap.size (V a.QI) (S_ a.QG) (V a.ah) (.slice A a.Qx.length cp)):=((M _ _).drewN 1).trans ((yL _ _ (V a.QI) (S_ a.QG) (V a.ah) (.slice A a.Qx.length cp)).mono λ_ h=>.inl h);have mm:Mp c.g c.W0.heap.size w (aO (W4.drewN 1) w.heap.size (V a.QI) (S_ a.QG) (V a.ah) (.slice A a.Qx.length cp)):=(Es.drewN 1).aO (g:=w.heap.size) ET (V a.QI) (S_ a.QG) (V a.ah) (.slice A a.Qx.length cp);simp only[aO]at m1 m2 mt mm;generalize (auX (auX (auX (auX (W4.drewN 1) (B_ w.heap.size 0) _) (B_ w.heap.size 1) _) (B_ w.heap.size 2) _) (B_ w.heap.size 3) _)=W5 at m1 m2 mt mm|-;refine hK _ _ ⟨m1,m2,mt⟩ ?_;have ab:=I m1;have eY:=I m2;have iW:=I mt;have Ga:=I mm;clear hK K p0 p1 p2 p3 y0 y1 y2 y3 q0 q1 z0 z1 m1 m2 mt mm;refine ak rfl (λK hK=>?_);rw[if_pos (by rfl)];refine⟨.bool true,λW hW=>?_,hK _ ?_⟩
   .go_simp
   clear hK K;obtain⟨q0,q1,z0,z1,ai⟩:=af.two eY;refine aS rfl (λK hK=>?_);go_wp2_with fail
   have m1:=ab.nJ hne (V 0) (V 0);have m2:=eY.fT (V 0) (V 0);have mt:Touch (λk=>k=w.heap.size\/k=w.heap.size+1) W4 (aH W5 (w.heap.size+1) (V 0) (V 0)):=iW.trans ((dS _ _ (V 0) (V 0)).mono λ_ h=>.inr h);have mm:Mp c.g c.W0.heap.size w (aH W5 (w.heap.size+1) (V 0) (V 0)):=Ga.aH (g:=w.heap.size+1) Ls (V 0) (V 0);simp only[aH]at m1 m2 mt mm;generalize (auX (auX W5 (B_ (w.heap.size+1) 0) _) (B_ (w.heap.size+1) 1) _)=W6 at m1 m2 mt mm|-;refine hK _ _ ⟨m1,m2,mt⟩ ?_;clear hK K q0 q1 z0 z1;refine sj ?_;go_wp2_with fail
   obtain⟨g0,g1,g2,g3,_⟩:=af.QM m1;obtain⟨f0,f1,_⟩:=af.two m2
   refine bodyPost_ret (v:=.tuple #[uQ a A cp,.bool true,aG 0 0]) atg rfl ?_;have jq:=nU.trans mt
   have am:=oL.mv jq (λb hb=>by
    rcases hb with rfl|rfl
    .exact⟨by omega,ax,_,_,Pf,oF⟩
    .exact⟨by omega,by have:=ax.out;omega,_,_,Pf,dY⟩)
   have aa:=jK.mv jq (λb _ _ hb hB=>by have:=aE.out;rcases hb with rfl|rfl<;>omega);exact HQ _ _ ⟨A,cp,k',rfl,aa.base iI.size,kJ,ao,by have:=aJ.out;(try simp only[Kp.alq]at this|-);omega,am,mm⟩
end
section
open Go.RowKit
open Tr (Nd)
def Sc(w:W_)(k:Nat):Prop:=∃cs fr,w.heap[k]?=some (.cells cs 31 fr)
def GS(D:Nat->Prop)(B0:Nat)(o:Option Nat)(w:W_)(k:Nat):Prop:=o=some k\/D k\/k<B0\/¬Sc w k
def OV(D:Nat->Prop)(B0:Nat)(o:Option Nat)(w:W_)(ks:List Nd)(cs:List Value):Prop:=∀W',Touch (GS D B0 o w) w W'->jh B0 W' ks cs
theorem GS.pre{D:Nat->Prop}{B0:Nat}{o o':Option Nat}{w w1 W':W_}{S:Nat->Prop}(ht:Touch S w w1)(hS:∀k,S k->GS D B0 o w k)(ho:∀k,o'=some k->o=some k\/w.heap.size<=k)(hW:Touch (GS D B0 o' w1) w1 W'):Touch (GS D B0 o w) w W':=by
 refine⟨hW.os.trans ht.os,hW.tape.trans ht.tape,hW.output.trans ht.output,au2 ht.size hW.size,λi hi hn=>?_⟩;have e:=ht.block i hi λhs=>hn (hS i hs)
 refine(hW.block i (avc hi ht.size) λhs=>hn ?_).trans e
 rcases hs with hs|hs|hs|hs
 .rcases ho i hs with h1|h1
  .exact .inl h1
  .omega
 .exact .inr (.inl hs)
 .exact .inr (.inr (.inl hs))
 .exact .inr (.inr (.inr λ⟨cs,fr,e2⟩=>hs ⟨cs,fr,by rw[e];exact e2⟩))
theorem OV.mv{D:Nat->Prop}{B0:Nat}{o:Option Nat}{w w1:W_}{ks:List Nd}{cs:List Value}{S:Nat->Prop}(h:OV D B0 o w ks cs)(ht:Touch S w w1)(hS:∀k,S k->GS D B0 o w k):OV D B0 o w1 ks cs:=
 λW' hW=>h W' (GS.pre ht hS (λ_ h=>.inl h) hW)
theorem OV.push{D:Nat->Prop}{B0 B1:Nat}{o o':Option Nat}{w w':W_}{ks:List Nd}{cs:List Value}{a:Nd}{sl:Value}(h:OV D B0 o w ks cs)(hgr:w.grownBy w' o)(hv:∀k,o'=some k->o=some k\/w.heap.size<=k)(aa:aP B1 w a.Qx sl)(ae:B0<=B1)(hown:∀k,o=some k->k<B1)(hD:∀k,D k->k<B1)(an:a.QG.length<=maxLen):
  OV D B0 o' w' (ks++[a]) (cs++[V a.QI,S_ a.QG,V a.ah,sl]):=λW' hW=>by
 have hT:=GS.pre (o:=o) atz atr hv hW;refine(h W' hT).append ⟨sl,[],rfl,⟨(aa.mv hT λk cs fr hk hB he=>?_).base ae,an⟩,rfl⟩
 rcases hk with hk|hk|hk|hk
 .have:=hown k hk;omega
 .have:=hD k hk;omega
 .omega
 .exact hk ⟨_,_,he⟩
theorem OV.apH{D:Nat->Prop}{B0 B1:Nat}{o o':Option Nat}{w w':W_}{ks ms:List Nd}{cs ds:List Value}(h:OV D B0 o w ks cs)(hgr:w.grownBy w' o)(hv:∀k,o'=some k->o=some k\/w.heap.size<=k)(aa:jh B1 w ms ds)(ae:B0<=B1)(hown:∀k,o=some k->k<B1)(hD:∀k,D k->k<B1):
  OV D B0 o' w' (ks++ms) (cs++ds):=λW' hW=>by
 have hT:=GS.pre (o:=o) atz atr hv hW;refine(h W' hT).append ((aa.mv hT λk cs fr hk hB he=>?_).base ae)
 rcases hk with hk|hk|hk|hk
 .have:=hown k hk;omega
 .have:=hD k hk;omega
 .omega
 .exact hk ⟨_,_,he⟩
def Grow(D:Nat->Prop)(w:W_)(B0 B:Nat)(ks:List Nd)(v:Value):Prop:=∃cs,w.ownsRow B 31 4 v ks.length cs/\OV D B0 v.ownBlock w ks cs
def Full(D:Nat->Prop)(w:W_)(B0:Nat)(ks:List Nd)(v:Value):Prop:=∃cs,∀W',Touch (GS D B0 none w) w W'->Src W' 4 v ks.length cs/\jh B0 W' ks cs/\aP B0 W' ks v
theorem aP.full{B0:Nat}{w w1:W_}{ks:List Nd}{v:Value}{D:Nat->Prop}(h:aP B0 w ks v)(hf:ag w w1)(hD:∀k,D k->w.heap.size<=k):Full D w1 B0 ks v:=by
 obtain⟨cs,h1,h2⟩:=h.src;refine⟨cs,λW' hW=>?_⟩
 have hT:Touch (λk=>k<B0\/¬Sc w k) w W':=by
  refine⟨hW.os.trans hf.os,hW.tape.trans hf.tape,hW.output.trans hf.output,au2 hf.size hW.size,λi hi hn=>?_⟩;have e:=hf.block i hi λhs=>hs
  refine(hW.block i (avc hi hf.size) λhs=>hn ?_).trans e
  rcases hs with hs|hs|hs|hs
  .cases hs
  .have:=hD i hs;omega
  .exact .inl hs
  .exact .inr λ⟨cs,fr,e2⟩=>hs ⟨cs,fr,by rw[e];exact e2⟩
 have hno:∀k cs fr,(k<B0\/¬Sc w k)->B0<=k->w.heap[k]?≠some (.cells cs 31 fr):=λk cs fr hk hB he=>by
  rcases hk with hk|hk
  .omega
  .exact hk ⟨_,_,he⟩
 refine⟨?_,h1.mv hT hno,h.mv hT hno⟩;obtain⟨A,c,e1,e2,e3⟩:=h2;refine⟨A,c,e1,e2,?_⟩;cases h with
 |nil A' cap=>
  cases e1;rw[List.length_nil,Nat.zero_mul,List.length_eq_zero_iff]at e2;subst e2;cases A with
  |none=>exact .inl ⟨rfl,rfl,rfl⟩
  |some a=>exact .inr ⟨a,rfl,λj u hu=>by simp at hu⟩
 |row g cap _ sl hB hg hl=>
  cases e1
  rcases e3 with⟨e4,_⟩|⟨ad,e4,e5⟩
  .cases e4
  .cases e4
   obtain⟨ds,fr,hg⟩:=hg;refine .inr ⟨_,rfl,λj u hu=>?_⟩;have e6:=e5 j u hu;rw[Addr.add_mid,Nat.zero_add]at e6|-;exact hT.cell e6 λhs=>hno g ds fr hs hB hg
theorem Full.mv{D:Nat->Prop}{B0:Nat}{w w1:W_}{ks:List Nd}{v:Value}{S:Nat->Prop}(h:Full D w B0 ks v)(ht:Touch S w w1)(hS:∀k,S k->GS D B0 none w k):Full D w1 B0 ks v:=by
 obtain⟨cs,h⟩:=h;exact⟨cs,λW' hW=>h W' (GS.pre ht hS (λ_ h=>.inl h) hW)⟩
theorem Full.tree{D:Nat->Prop}{B0:Nat}{w:W_}{ks:List Nd}{v:Value}(h:Full D w B0 ks v):aP B0 w ks v:=by
 obtain⟨cs,h⟩:=h;exact(h w afD).2.2
theorem Full.QH{D:Nat->Prop}{B0:Nat}{w w1:W_}{ks:List Nd}{v:Value}(h:Full D w B0 ks v)(ht:ag w w1):Full D w1 B0 ks v:=h.mv ht λ_ h=>h.elim
theorem Grow.tree{D:Nat->Prop}{w:W_}{B0 B:Nat}{ks:List Nd}{v:Value}(h:Grow D w B0 B ks v)(hB:B0<=B):aP B0 w ks v:=by
 obtain⟨cs,h1,h2⟩:=h;exact(h2 w afD).own hB h1
theorem Grow.nil(D:Nat->Prop)(w:W_)(B0 B:Nat):Grow D w B0 B [] (N_):=⟨[],World.ownsRow_nil _ _ _ _,λ_ _=>rfl⟩
theorem Grow.mv{D:Nat->Prop}{w w1:W_}{B0 B:Nat}{ks:List Nd}{v:Value}{S:Nat->Prop}(h:Grow D w B0 B ks v)(ht:Touch S w w1)(hB:B0<=B)(hD:∀k,D k->k<B)(hS:∀k,S k->D k\/k<B0\/¬Sc w k):Grow D w1 B0 B ks v:=by
 obtain⟨cs,h1,h2⟩:=h;refine⟨cs,aQ h1 ht λk hk hs=>?_,h2.mv ht λk hk=>.inr (hS k hk)⟩;obtain⟨h3,cur,h4⟩:=fe h1 hk
 rcases hS k hs with h5|h5|h5
 .have:=hD k h5;omega
 .omega
 .exact h5 ⟨_,_,h4⟩
theorem Grow.QH{D:Nat->Prop}{w w1:W_}{B0 B:Nat}{ks:List Nd}{v:Value}(h:Grow D w B0 B ks v)(ht:ag w w1):Grow D w1 B0 B ks v:=by
 obtain⟨cs,h1,h2⟩:=h;exact⟨cs,aQ h1 ht λk hk hs=>hs,h2.mv ht λk hk=>hk.elim⟩
theorem PT.Sd{c:Cf}{k:Kp}{op:List Nat}{w:W_}{b:Nat}(hp:Ps c k op w)(hk:PT c.g c.W0.heap.size w b):¬Sc w b:=by
 rintro⟨cs,fr,e⟩;obtain⟨ov,hb,_⟩:=hp.box
 rcases hk with rfl|⟨_,cs',fr',h3⟩
 .unfold af at hb
  rw[hb]at e;cases e
 .rw[h3]at e
  cases e
theorem Src.agt{w:W_}{size m c g:Nat}{news:List Value}(h:Src w size (.slice (A_ g 0) m c) m news):∀j u,news[j]?=some u->w.cell? (((B_ g 0):Addr).add j)=some u:=by
 obtain⟨A,c',h1,h2,h3⟩:=h;cases h1
 rcases h3 with⟨h4,_⟩|⟨ad,h4,h5⟩
 .cases h4
 .cases h4;exact h5
theorem aP.lit{B:Nat}{w:W_}{n:Nd}{sl:Value}(h:aP B w n.Qx sl)(hB:B<=w.heap.size)(ht:n.QG.length<=maxLen):aP B (w.alloc (.cells #[V n.QI,S_ n.QG,V n.ah,sl] 31)) [n] (.slice (A_ w.heap.size 0) 1 1):=by
 have hb:=af.new w 31 #[V n.QI,S_ n.QG,V n.ah,sl];obtain⟨p0,p1,p2,p3,_⟩:=af.QM hb;exact aP.one hB ⟨_,_,hb⟩ p0 p1 p2 p3 (h.QH Q_) ht
def DU(B:Nat)(w w':W_):Prop:=Touch (λk=>B<=k/\∃cs,af w k 31 cs) w w'
theorem DU.size{B:Nat}{w w':W_}(h:DU B w w'):w.heap.size<=w'.heap.size:=Touch.size h
theorem DU.KM{B:Nat}{w w':W_}{k:Nat}{t:TypeId}{cs:Array Value}(h:DU B w w')(hb:af w k t cs)(hk:k<B):af w' k t cs:=Touch.QN h hb λ⟨h1,_⟩=>by omega
theorem DU.mp{g B B':Nat}{w W W':W_}(h:DU B' W W')(hm:Mp g B w W)(hB:w.heap.size<=B'):Mp g B w W':=Touch.trans' hm h λ_ hi=>.inr (au2 hB hi.1)
theorem DU.ps{c:Cf}{k:Kp}{B':Nat}{op:List Nat}{W W':W_}(h:DU B' W W')(hp:Ps c k op W)(hB:c.W0.heap.size<=B')(hg:c.g<B'):Ps c k op W':=hp.mv h λb hb=>⟨by have:=hb.1;omega,au2 hB hb.1,31,hb.2.elim λcs h=>⟨cs,by decide,h⟩⟩
section
variable {w:World} {ops:Array Oper} {rest:List Oper} {o:Oper} {a:Act} {Q:Exit→Act→World→Prop}
theorem vF(hgd:o.guard=none)(s x:Operand)
  (ho:o.op=.call {callee:=.builtin .append,args:=#[s,x],argTypes:=#[29,29]})
  (i:TypeInfo) (z:Value) (hi:Tryz.prog.info? 31=some i) (hz:i.zero=some z) (hsize:i.size=4) (hby:i.bytes=56) (hzs:z.cells.size=4)
  {D:Nat->Prop} {B0 B B1:Nat} {ks:List Nd} {v y:Value} (h:Grow D w B0 B ks v) (hs:a.eval s=v) (n:Nd) (sl:Value) (hx:a.eval x=y) (ab:Src w 4 y 1 [V n.QI,S_ n.QG,V n.ah,sl])
  (aa:aP B1 w n.Qx sl) (ae:B0<=B1) (hD:∀k,D k->k<B1) (hown:∀k,v.ownBlock=some k->k<B1) (an:n.QG.length<=maxLen) (hlen:ks.length<2^40) (hB:B<=w.heap.size)
  (hK:∀A cp w',Grow D w' B0 B (ks++[n]) (.slice A (ks.length+1) cp)->DU B w w'->wpList Tryz.prog ops Q rest (a.put o.dst (.slice A (ks.length+1) cp)) w'):wpList Tryz.prog ops Q (o::rest) a w:=by
 obtain⟨cs,h1,h2⟩:=h
 have h3:∀u∈[V n.QI,S_ n.QG,V n.ah,sl],u.oneCell'=true:=by
  obtain⟨_,_,rfl⟩:=aa.slice;simp[Value.oneCell']
 refine iL _ hgd s x 29 ho B 31 i z 4 56 rfl hi hz hsize hby hzs Pf v ks.length cs hs h1 y 1 _ hx ab h3 vG Zo hB λv' w' ho' hgr hv=>?_
 obtain⟨A,cp,rfl⟩:=mK ho'
 exact hK A cp w' ⟨_,by rw[auZ];exact ho',h2.push hgr aq1 aa ae hown hD an⟩ (Touch.grown afD hgr λk hk=>.inl (by
  obtain⟨h4,cur,h5⟩:=fe h1 hk;exact⟨h4,_,h5⟩))
theorem alO(hgd:o.guard=none)(s x:Operand)
  (ho:o.op=.call {callee:=.builtin .append,args:=#[s,x],argTypes:=#[29,29]})
  (i:TypeInfo) (z:Value) (hi:Tryz.prog.info? 31=some i) (hz:i.zero=some z) (hsize:i.size=4) (hby:i.bytes=56) (hzs:z.cells.size=4)
  {D:Nat->Prop} {B0 B B1:Nat} {ks ms:List Nd} {v y:Value} (h:Grow D w B0 B ks v) (hs:a.eval s=v) (hx:a.eval x=y) (aa:aP B1 w ms y) (ae:B0<=B1) (hD:∀k,D k->k<B1) (hown:∀k,v.ownBlock=some k->k<B1) (hlen:ks.length+ms.length<2^40) (hB:B<=w.heap.size)
  (hK:∀A cp w',Grow D w' B0 B (ks++ms) (.slice A (ks.length+ms.length) cp)->DU B w w'->wpList Tryz.prog ops Q rest (a.put o.dst (.slice A (ks.length+ms.length) cp)) w'):wpList Tryz.prog ops Q (o::rest) a w:=by
 obtain⟨cs,h1,h2⟩:=h;obtain⟨ds,h3,ab⟩:=aa.src;refine iL _ hgd s x 29 ho B 31 i z 4 56 rfl hi hz hsize hby hzs Pf v ks.length cs hs h1 y ms.length _ hx ab h3.oneCell vG Zo hB λv' w' ho' hgr hv=>?_
 obtain⟨A,cp,rfl⟩:=mK ho'
 exact hK A cp w' ⟨_,by rw[auZ];exact ho',h2.apH hgr aq1 h3 ae hown hD⟩ (Touch.grown afD hgr λk hk=>.inl (by
  obtain⟨h4,cur,h5⟩:=fe h1 hk;exact⟨h4,_,h5⟩))
theorem Gf(hgd:o.guard=none)(s x:Operand)
  (ho:o.op=.call {callee:=.builtin .append,args:=#[s,x],argTypes:=#[29,29]})
  (i:TypeInfo) (z:Value) (hi:Tryz.prog.info? 31=some i) (hz:i.zero=some z) (hsize:i.size=4) (hby:i.bytes=56) (hzs:z.cells.size=4)
  {D:Nat->Prop} {B0 B B1:Nat} {ks:List Nd} {A0:Option Addr} (h:Full D w B0 ks (.slice A0 ks.length ks.length)) (hs:a.eval s=.slice A0 ks.length ks.length) (n:Nd) (sl:Value) (ad:Addr) (hx:a.eval x=.slice (some ad) 1 1) (ab:∀j u,[V n.QI,S_ n.QG,V n.ah,sl][j]?=some u->w.cell? (ad.add j)=some u)
  (aa:aP B1 w n.Qx sl) (ae:B0<=B1) (hD:∀k,D k->k<B1) (an:n.QG.length<=maxLen) (hlen:ks.length<2^40) (hB:B<=w.heap.size)
  (hK:∀A cp w',Grow D w' B0 B (ks++[n]) (.slice A (ks.length+1) cp)->DU B w w'->wpList Tryz.prog ops Q rest (a.put o.dst (.slice A (ks.length+1) cp)) w'):wpList Tryz.prog ops Q (o::rest) a w:=by
 obtain⟨cs,hf⟩:=h;obtain⟨⟨A',c',h2,h4,h5⟩,_⟩:=hf w afD;cases h2
 have h3:∀u∈[V n.QI,S_ n.QG,V n.ah,sl],u.oneCell'=true:=by
  obtain⟨_,_,rfl⟩:=aa.slice;simp[Value.oneCell']
 refine wpList_append_grows w hgd s x 29 ho 31 i z 4 56 rfl hi hz hsize hby hzs Pf A0 ks.length ks.length cs hs (λe=>?_) h4 (λb e j u hu=>?_) ad 1 1 _ hx rfl ab h3 Zo vG Zo λv' w' ho' hgr=>?_
 .rcases h5 with⟨_,h6,_⟩|⟨_,h6,_⟩
  .exact⟨h6,h6⟩
  .rw[e]at h6;cases h6
 .rcases h5 with⟨h6,_⟩|⟨ad',h6,h7⟩
  .rw[e]at h6;cases h6
  .rw[e]at h6;cases h6;exact h7 j u hu
 .obtain⟨A,cp,rfl⟩:=mK ho'
  have hs:OV D B0 none w ks cs:=λW' hW=>(hf W' hW).2.1
  refine hK A cp w' ⟨_,by rw[auZ];exact Gv ho' hB,hs.push hgr (λk hk=>.inr (fe ho' hk).1) aa ae (λk hk=>by cases hk) hD an⟩ (Touch.grown afD hgr λk hk=>by cases hk)
end
end
end Go.Proofs.YtabjglnjjdcfmaaGreatDoor
