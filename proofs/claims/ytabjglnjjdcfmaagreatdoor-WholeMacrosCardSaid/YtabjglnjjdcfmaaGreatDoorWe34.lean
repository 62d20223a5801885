/- Part 34 of 41 of a proof. No condition. -/
import Derived.Test.YtabjglnjjdcfmaaGreatDoorWe33
set_option maxRecDepth 100000
set_option maxHeartbeats 3000000
namespace Go.Proofs.YtabjglnjjdcfmaaGreatDoor
open _root_.Go.World renaming setCell->auX
open _root_.Option renaming isSome_none->awQ,isSome_some->awv
open _root_.Bool renaming and_true->avw,false_eq_true->avH,and_false->avD
open _root_.Nat renaming le_trans->au2
open _root_.Go.Proofs.Tryz
section
open Go.RowKit
open Tr (Nd)
open Lx (aB)
open D7 (R cZ kE eB eP dA bV fD di pArg)
attribute [local go_sem] gD stillUpon
def PW(c:Cf)(f:Nat):Prop:=∀(k:Kp) (op:List Nat) (w:W_),Ps c k op w->op.length<=k.p->eP c.E f op (c.at k)≠.out->C_ 51 #[lV c] w (oK c k op (eP c.E f op (c.at k)) w)
theorem R.bind_ok{α β:Type}(a:α)(l:D7.St)(k:α->D7.St->R β):(R.ok a l).bind k=k a l:=rfl
theorem Nn.parts{c:Cf}{k:Kp}{op:List Nat}{X:R (Option Nd)}{w w':W_}{e:Ending}(h:Nn c k op X w e w')(hne:X≠.out):∃n A cp th i er,e=.returned (.tuple #[uQ n A cp,.bool th,aG i er])/\Mp c.g c.W0.heap.size w w'/\
  ((∃so rest k',X=.ok so rest/\th=so.isSome/\i=0/\er=0/\(so.isSome=true->so=some n/\aP w.heap.size w' n.Qx (.slice A n.Qx.length cp)/\n.QG.length<=maxLen)/\c.at k'=rest/\k.p<=k'.p/\Ps c k' op w')\/(X=.err i er/\er≠0)):=by
 cases X with
 |out=>exact absurd rfl hne
 |err i er=>
  obtain⟨aj,n,A,cp,rfl,hm⟩:=h;exact⟨n,A,cp,true,i,er,rfl,hm,.inr ⟨rfl,aj⟩⟩
 |ok so rest=>
  cases so with
  |none=>
   obtain⟨k',rfl,hdr,ad,hp,hm⟩:=h;exact⟨.mk 0 [] 0 [],none,0,false,0,0,rfl,hm,.inl ⟨none,rest,k',rfl,rfl,rfl,rfl,(λh=>by cases h),hdr,ad,hp⟩⟩
  |some a=>
   obtain⟨A,cp,k',rfl,aa,an,hdr,ad,hp,hm⟩:=h;exact⟨a,A,cp,true,0,0,rfl,hm,.inl ⟨some a,rest,k',rfl,rfl,rfl,rfl,(λ_=>⟨rfl,aa,an⟩),hdr,ad,hp⟩⟩
theorem aP.agA{B:Nat}{w:W_}{n1 n2:Nd}{s1 s2:Value}(h1:aP B w n1.Qx s1)(h2:aP B w n2.Qx s2)(hB:B<=w.heap.size)(t1:n1.QG.length<=maxLen)(t2:n2.QG.length<=maxLen):
  aP B (w.alloc (.cells #[V n1.QI,S_ n1.QG,V n1.ah,s1,V n2.QI,S_ n2.QG,V n2.ah,s2] 31)) [n1,n2] (.slice (A_ w.heap.size 0) 2 2):=by
 have hb:=af.new w 31 #[V n1.QI,S_ n1.QG,V n1.ah,s1,V n2.QI,S_ n2.QG,V n2.ah,s2];have hf:ag w _:=(M _ w).alloc (.cells #[V n1.QI,S_ n1.QG,V n1.ah,s1,V n2.QI,S_ n2.QG,V n2.ah,s2] 31)
 exact aP.row w.heap.size 2 [n1,n2] (λi=>if i=0 then s1 else s2) hB ⟨_,_,hb⟩ aqY (λi hi=>match i,hi with|0,_=>t1|1,_=>t2) (λi hi=>match i,hi with|0,_=>hb.cell 0|1,_=>hb.cell 4) (λi hi=>match i,hi with|0,_=>hb.cell 1|1,_=>hb.cell 5)
  (λi hi=>match i,hi with|0,_=>hb.cell 2|1,_=>hb.cell 6) (λi hi=>match i,hi with|0,_=>hb.cell 3|1,_=>hb.cell 7) (λi hi=>match i,hi with|0,_=>h1.QH hf|1,_=>h2.QH hf)
theorem aP.agB{B:Nat}{w:W_}{n1 n2 n3:Nd}{s1 s2 s3:Value}(h1:aP B w n1.Qx s1)(h2:aP B w n2.Qx s2)(h3:aP B w n3.Qx s3)(hB:B<=w.heap.size)(t1:n1.QG.length<=maxLen)(t2:n2.QG.length<=maxLen)(t3:n3.QG.length<=maxLen):
  aP B (w.alloc (.cells #[V n1.QI,S_ n1.QG,V n1.ah,s1,V n2.QI,S_ n2.QG,V n2.ah,s2,V n3.QI,S_ n3.QG,V n3.ah,s3] 31)) [n1,n2,n3] (.slice (A_ w.heap.size 0) 3 3):=by
 have hb:=af.new w 31 #[V n1.QI,S_ n1.QG,V n1.ah,s1,V n2.QI,S_ n2.QG,V n2.ah,s2,V n3.QI,S_ n3.QG,V n3.ah,s3];have hf:ag w _:=(M _ w).alloc (.cells #[V n1.QI,S_ n1.QG,V n1.ah,s1,V n2.QI,S_ n2.QG,V n2.ah,s2,V n3.QI,S_ n3.QG,V n3.ah,s3] 31)
 exact aP.row w.heap.size 3 [n1,n2,n3] (λi=>if i=0 then s1 else if i=1 then s2 else s3) hB ⟨_,_,hb⟩ aqY (λi hi=>match i,hi with|0,_=>t1|1,_=>t2|2,_=>t3) (λi hi=>match i,hi with|0,_=>hb.cell 0|1,_=>hb.cell 4|2,_=>hb.cell 8) (λi hi=>match i,hi with|0,_=>hb.cell 1|1,_=>hb.cell 5|2,_=>hb.cell 9)
  (λi hi=>match i,hi with|0,_=>hb.cell 2|1,_=>hb.cell 6|2,_=>hb.cell 10) (λi hi=>match i,hi with|0,_=>hb.cell 3|1,_=>hb.cell 7|2,_=>hb.cell 11) (λi hi=>match i,hi with|0,_=>h1.QH hf|1,_=>h2.QH hf|2,_=>h3.QH hf)
theorem Mp.fr{g B:Nat}{a b c:W_}(h:Mp g B a b)(k:ag b c):Mp g B a c:=h.trans (Mp.QH k)
theorem ok6{c:Cf}{k:Kp}{op:List Nat}{w w2 wo:W_}{a b:Value}{bs:Array Value}(h6:af wo w2.heap.size 45 #[a,b])(hr:af wo w.heap.size 45 bs)(hc:Mp c.g c.W0.heap.size w2 wo)(hm:Mp c.g c.W0.heap.size w wo)(hp:Ps c k op wo)(hs:w.heap.size<w2.heap.size)(hw:c.W0.heap.size<=w.heap.size)(hg:c.g<w.heap.size)(cs:Array Value):
  af ((aH wo w2.heap.size (V 0) (V 0)).alloc (.cells cs 31)) w2.heap.size 45 #[V 0,V 0]/\af ((aH wo w2.heap.size (V 0) (V 0)).alloc (.cells cs 31)) w.heap.size 45 bs/\af ((aH wo w2.heap.size (V 0) (V 0)).alloc (.cells cs 31)) wo.heap.size 31 cs/\
  Mp c.g c.W0.heap.size w2 ((aH wo w2.heap.size (V 0) (V 0)).alloc (.cells cs 31))/\Mp c.g c.W0.heap.size w ((aH wo w2.heap.size (V 0) (V 0)).alloc (.cells cs 31))/\Ps c k op ((aH wo w2.heap.size (V 0) (V 0)).alloc (.cells cs 31))/\
  (∀B ks v,aP B wo ks v->aP B ((aH wo w2.heap.size (V 0) (V 0)).alloc (.cells cs 31)) ks v)/\wo.heap.size<((aH wo w2.heap.size (V 0) (V 0)).alloc (.cells cs 31)).heap.size:=by
 have es:(aH wo w2.heap.size (V 0) (V 0)).heap.size=wo.heap.size:=by simp[aH]
 have av:=af.new (aH wo w2.heap.size (V 0) (V 0)) 31 cs;rw[es]at av
 exact⟨(h6.fT _ _).alloc _,(hr.nJ Zo _ _).alloc _,av,(hc.aH ET _ _).alloc _,(hm.aH Ls _ _).alloc _,(hp.aH h6 Pf Zo Zo _ _).QH Q_,
  λB ks v h=>(h.other h6 Pf (dS wo w2.heap.size _ _)).QH Q_,by simp[aH]⟩
theorem agC(c:Cf)(hc:c.Good)(f:Nat)(ad6:FE c f)(agD:Jn c f):PW c (f+1):=by
 intro k op w h hop hne;have au:=hc.tl;have HA:=I (λ(w':W_) (hf:ag w w')=>vE c hc k op 123 w' ah6);have HR:=I (λ(k':Kp) (w':W_) (hp:Ps c k' op w')=>Cu c hc k' op w' hp);have F8:=I ad6;have aJ:=I agD;have H:=I h;have oJ:=I hop;have ax:=I h.low.size;have aF:c.g<w.heap.size:=h.Ap;rw[eP]at hne|-;have aY:=I hne;refine Calls.via λQ hQ=>?_
 have HQ:=I hQ;clear hne h hop hc hQ ad6 agD;generalize aR:Np.dx 123 (c.at k).l=gp at HA aY HQ;clear aR;unfold lV;go_enter func51,ntmps51;go_wp2_with fail
 refine(HA _ Q_).mono ?_;rintro _ w1 ⟨rfl,hf⟩;have aK:=I aoa;have mP:=I aik;clear hf;go_wp2_with fail
 refine(F8 k op w1 (H.QH aK) oJ (λh=>aY aiw)).mono ?_;intro e w2 hres;have ac:=hres.parts (λh=>aY aiw);clear hres;generalize dA c.E f op (c.at k)=X at aY HQ ac;obtain⟨A,n,cp,i,er,rfl,hm,hend⟩:=ac;have iI:=I ((Mp.QH aK).trans hm);have RY:=I (hm.QN mP Zo Pf);have aq:=I (show w.heap.size<w2.heap.size from RY.lt);clear hm
 rcases hend with⟨QS,rest,k1,rfl,rfl,rfl,rfl,aa,rfl,ad,hp⟩|⟨rfl,aj⟩
 case inr=>
  have F7:=I aj;have e0:=alr aj;clear aj;unfold aG;go_wp2_with fail
  have ap:=af.new w2 45 #[V (i:Int),V (er:Int)];have hbr:=RY.alloc (.cells #[V (i:Int),V (er:Int)] 45);have az:=iI.alloc (.cells #[V (i:Int),V (er:Int)] 45);have r0:=cR y_;have r1:=cR z_;have ab:=ap.lt;have ow:=I hbr;have aN:=I az;clear ap hbr az;refine cu [([(0,true),(1,true)],2)] [] Pg Ph Pg ?_;refine dJ ?_
  repeat(refine Z4 ?_)
  obtain⟨p0,p1,y0,y1,hlt⟩:=af.two (ow.drewN 1);refine dm rfl (λK hK=>?_);go_wp2_with fail
  refine fH ?_;go_wp2_with fail
  have al:af _ (w.heap.size) 45 #[V (i:Int),V (er:Int)]:=((ow.drewN 1).put 0 (V (i:Int))).put 1 (V (er:Int));have wO:=((aN.drewN 1).setCell (p:=B_ w.heap.size 0) WL (V (i:Int))).setCell (p:=B_ w.heap.size 1) WL (V (er:Int));obtain⟨f0,f1,_⟩:=af.two al
  exact R_
 have jb:=I hp;have ao:=I aa;have Dk:=I ad;clear aa ad hp;simp only[R.bind_ok]at aY HQ;unfold aG;go_wp2_with fail
 have hf3:ag w2 (w2.alloc (.cells #[V 0,V 0] 45)):=(M _ _).alloc _;have aw:=af.new w2 45 #[V 0,V 0];have adk:=RY.alloc (.cells #[V 0,V 0] 45);generalize (w2.alloc (.cells #[V 0,V 0] 45))=w3 at hf3 aw adk|-;have bJ:=I hf3;have ajo:=I aw;have vC:=I adk;have oL:=I (jb.QH hf3);have QF:=I (show Mp c.g c.W0.heap.size w2 w3 from Mp.QH hf3);have rM:=I (iI.fr hf3);clear hf3 aw adk;refine(aJ k1 op 95 w3 oL (by have:=oJ.out;have:=Dk.out;omega) (λh=>aY aiw)).mono ?_;intro e w4 hres;have ac:=hres.parts (λh=>aY aiw);clear hres;generalize eB c.E f 95 op (c.at k1)=X at aY HQ ac;obtain⟨n4,A4,Cy,th4,i,er,rfl,hm,hend⟩:=ac;have HD4:=I hm;have adl:=I (hm.QN ajo R4 Pf);have ajp:=I (hm.QN vC Zo Pf);have aI:=I (QF.trans hm);have Es:=I (rM.trans hm);have gP:=I (show w2.heap.size<w4.heap.size from adl.lt);have HZ4:=I (show w3.heap.size<=w4.heap.size from hm.size);clear hm;obtain⟨q0,q1,z0,z1,ab⟩:=af.two adl
 rcases hend with⟨so1,rest,k2,rfl,rfl,rfl,rfl,ae,rfl,ad,hp⟩|⟨rfl,aj⟩
 case inr=>
  have F7:=I aj;have e0:=alr aj;clear aj;unfold aG uQ;go_wp2_with fail
  have ap:=(adl.fT (V (i:Int)) (V (er:Int))).alloc (.cells #[V n4.QI,S_ n4.QG,V n4.ah,.slice A4 n4.Qx.length Cy] 31);have hbr:=(ajp.nJ (L:=w.heap.size) (g:=w2.heap.size) R4 (V (i:Int)) (V (er:Int))).alloc (.cells #[V n4.QI,S_ n4.QG,V n4.ah,.slice A4 n4.Qx.length Cy] 31);have az:Mp c.g c.W0.heap.size w _:=(Es.aH (g:=w2.heap.size) arq (V (i:Int)) (V (er:Int))).alloc (.cells #[V n4.QI,S_ n4.QG,V n4.ah,.slice A4 n4.Qx.length Cy] 31);simp only[aH]at ap hbr az;generalize (auX (auX w4 (B_ w2.heap.size 0) _) (B_ w2.heap.size 1) _).alloc _=W5 at ap hbr az|-;clear q0 q1 z0 z1 ab;have r0:=cR y_;have r1:=cR z_;have ab:=ap.lt;have ow:=I hbr;have aN:=I az;clear ap hbr az;refine cu [([(0,true),(1,true)],2)] [] Pg Ph Pg ?_;refine dJ ?_
  repeat(refine Z4 ?_)
  obtain⟨p0,p1,y0,y1,hlt⟩:=af.two (ow.drewN 1);refine dm rfl (λK hK=>?_);go_wp2_with fail
  refine fH ?_;go_wp2_with fail
  have al:af _ (w.heap.size) 45 #[V (i:Int),V (er:Int)]:=((ow.drewN 1).put 0 (V (i:Int))).put 1 (V (er:Int));have wO:=((aN.drewN 1).setCell (p:=B_ w.heap.size 0) WL (V (i:Int))).setCell (p:=B_ w.heap.size 1) WL (V (er:Int));obtain⟨f0,f1,_⟩:=af.two al
  exact R_
 have agE:=I ae;have KP:=I ad;have AP:=I hp;clear ae ad hp
 (try simp only[R.bind_ok]at aY HQ|-)
 unfold aG uQ;go_wp2_with fail
 obtain⟨aw,hbr,av,hc,hm,jM,jU,wP⟩:=ok6 adl ajp aI Es AP aq ax aF #[V n4.QI,S_ n4.QG,V n4.ah,.slice A4 n4.Qx.length Cy];simp only[aH]at aw hbr av hc hm jM jU wP;generalize (auX (auX w4 (B_ w2.heap.size 0) _) (B_ w2.heap.size 1) _).alloc _=w5 at aw hbr av hc hm jM jU wP|-;have ajq:=I aw;have DK:=I hbr;have ajr:=I av;have HC5:=I hc;have Ga:=I hm;have wN:=I jM;have iR:=I jU;have aB:=I wP;clear aw hbr av hc hm jM jU wP q0 q1 z0 z1 ab;refine(aJ k2 op 94 w5 wN (by have:=oJ.out;have:=Dk.out;have:=KP.out;omega) (λh=>aY aiw)).mono ?_;intro e w6 hres;have ac:=hres.parts (λh=>aY aiw);clear hres;generalize eB c.E f 94 op (c.at k2)=X at aY HQ ac;obtain⟨n6,A6,qQ,th6,i,er,rfl,hm,hend⟩:=ac;have aU:=I hm;have IV:=I (hm.QN ajq R4 Pf);have oG:=I (hm.QN DK Zo Pf);have aD:=I (HC5.trans hm);have Dp:=I (Ga.trans hm);have AO:=I (show w2.heap.size<w6.heap.size from IV.lt);have aC:=I (show w5.heap.size<=w6.heap.size from hm.size);have adn:=I (show af w6 w4.heap.size 31 #[V n4.QI,S_ n4.QG,V n4.ah,.slice A4 n4.Qx.length Cy]from hm.QN ajr l_ Pf);clear hm;obtain⟨q0,q1,z0,z1,ab⟩:=af.two IV
 rcases hend with⟨so2,rest,k3,rfl,rfl,rfl,rfl,ae,rfl,ad,hp⟩|⟨rfl,aj⟩
 case inr=>
  have F7:=I aj;have e0:=alr aj;clear aj;unfold aG uQ;go_wp2_with fail
  have ap:=(IV.fT (V (i:Int)) (V (er:Int))).alloc (.cells #[V n6.QI,S_ n6.QG,V n6.ah,.slice A6 n6.Qx.length qQ] 31);have hbr:=(oG.nJ (L:=w.heap.size) (g:=w2.heap.size) R4 (V (i:Int)) (V (er:Int))).alloc (.cells #[V n6.QI,S_ n6.QG,V n6.ah,.slice A6 n6.Qx.length qQ] 31);have az:Mp c.g c.W0.heap.size w _:=(Dp.aH (g:=w2.heap.size) arq (V (i:Int)) (V (er:Int))).alloc (.cells #[V n6.QI,S_ n6.QG,V n6.ah,.slice A6 n6.Qx.length qQ] 31);simp only[aH]at ap hbr az;generalize (auX (auX w6 (B_ w2.heap.size 0) _) (B_ w2.heap.size 1) _).alloc _=W5 at ap hbr az|-;clear q0 q1 z0 z1 ab;have r0:=cR y_;have r1:=cR z_;have ab:=ap.lt;have ow:=I hbr;have aN:=I az;clear ap hbr az;refine cu [([(0,true),(1,true)],2)] [] Pg Ph Pg ?_;refine dJ ?_
  repeat(refine Z4 ?_)
  obtain⟨p0,p1,y0,y1,hlt⟩:=af.two (ow.drewN 1);refine dm rfl (λK hK=>?_);go_wp2_with fail
  refine fH ?_;go_wp2_with fail
  have al:af _ (w.heap.size) 45 #[V (i:Int),V (er:Int)]:=((ow.drewN 1).put 0 (V (i:Int))).put 1 (V (er:Int));have wO:=((aN.drewN 1).setCell (p:=B_ w.heap.size 0) WL (V (i:Int))).setCell (p:=B_ w.heap.size 1) WL (V (er:Int));obtain⟨f0,f1,_⟩:=af.two al
  exact R_
 have HY1:=I (show w1.heap.size<=w1.heap.size from Nat.le_refl _);cases so1 with
 |none=>
  cases so2 with
  |none=>
   simp only[D7.scripts]at HQ;cases gp with
   |true=>
    have Yp:=I ae;have FL:=I ad;have pg:=I hp;clear ae ad hp
    (try simp only[R.bind_ok,awQ,Option.isNone_none,avw,if_true,avH,if_false]at aY HQ|-)
    unfold aG uQ;go_wp2_with fail
    obtain⟨aw,hbr,av,hc,hm,jM,jU,wP⟩:=ok6 IV oG aD Dp pg aq ax aF #[V n6.QI,S_ n6.QG,V n6.ah,.slice A6 n6.Qx.length qQ];have yO:=(adn.nJ (L:=w4.heap.size) (g:=w2.heap.size) UZ (V 0) (V 0)).alloc (.cells #[V n6.QI,S_ n6.QG,V n6.ah,.slice A6 n6.Qx.length qQ] 31);simp only[aH]at aw hbr av hc hm jM jU wP yO;generalize (auX (auX w6 (B_ w2.heap.size 0) _) (B_ w2.heap.size 1) _).alloc _=w7 at aw hbr av hc hm jM jU wP yO|-;have ado:=I aw;have qc:=I hbr;have IW:=I av;have ay:=I hc;have Cx:=I hm;have SA:=I jM;have oh:=I jU;have aE:=I wP;have zw:=I yO;clear aw hbr av hc hm jM jU wP yO q0 q1 z0 z1 ab;refine(HR k3 w7 SA).mono ?_;rintro _ w9 ⟨rfl,hf⟩;have ajx:=I (Cx.fr hf);have dY:=I (hf.QN qc λh=>h);replace HQ:=I (show∀(e:Ending) (w':W_),oK c k op (.err (Np.place c.en (c.at k3).l) 3) w e w'->Q e w' from HQ);clear hf;clear rM;have rM:=ajx;generalize Np.place c.en (c.at k3).l=pl at HQ|-;obtain⟨q0,q1,z0,z1,ab⟩:=af.two dY
    (try unfold aG)
    go_wp2_with fail
    have n1:=dY.fT (V (pl:Int)) (V 3);have iU:Mp c.g c.W0.heap.size w (aH w9 (w.heap.size) (V (pl:Int)) (V 3)):=rM.aH (g:=w.heap.size) Ls (V (pl:Int)) (V 3);have fA:=dS w9 (w.heap.size) (V (pl:Int)) (V 3);simp only[aH]at n1 iU fA;generalize (auX (auX w9 (B_ w.heap.size 0) _) (B_ w.heap.size 1) _)=W4 at n1 iU fA|-;obtain⟨f0,f1,_⟩:=af.two n1
    refine bodyPost_ret (v:=.tuple #[N_,aG pl 3]) MX rfl ?_;exact aso
   |false=>
    have FL:=I ad;have pg:=I hp;clear ae ad hp
    (try simp only[R.bind_ok,awQ,Option.isNone_none,avw,avH,if_false]at aY HQ|-)
    obtain⟨p0,p1,y0,y1,lW⟩:=af.two oG;have hs2:=aq.out;unfold aG uQ;go_wp2_with fail
    have n6':=IV.fT (V 0) (V 0);have nr:=oG.nJ (L:=w.heap.size) (g:=w2.heap.size) R4 (V 0) (V 0);have am:=((pg.aH IV Pf R4 ah8 (V 0) (V 0)).aH nr Pf Zo ax (V 0) (V 0)).QH ((M _ _).alloc (.cells #[V n6.QI,S_ n6.QG,V n6.ah,.slice A6 n6.Qx.length qQ] 31));have ht:=(((ao.mp aD jb).other IV Pf (dS w6 w2.heap.size (V 0) (V 0))).other nr Pf (dS _ w.heap.size (V 0) (V 0))).QH ((M _ _).alloc (.cells #[V n6.QI,S_ n6.QG,V n6.ah,.slice A6 n6.Qx.length qQ] 31));have xO:Mp c.g c.W0.heap.size w _:=((Dp.aH (g:=w2.heap.size) arq (V 0) (V 0)).aH (g:=w.heap.size) ET (V 0) (V 0)).alloc (.cells #[V n6.QI,S_ n6.QG,V n6.ah,.slice A6 n6.Qx.length qQ] 31);have nr2:=(nr.fT (V 0) (V 0)).alloc (.cells #[V n6.QI,S_ n6.QG,V n6.ah,.slice A6 n6.Qx.length qQ] 31);simp only[aH]at am ht xO nr2;obtain⟨f0,f1,_⟩:=af.two nr2
    refine bodyPost_ret (v:=.tuple #[.slice A QS.length cp,aG 0 0]) MX rfl ?_;exact HQ _ _ ⟨A,cp,k3,rfl,ht.base aK.size,rfl,by have:=Dk.out;have:=KP.out;have:=FL.out;omega,am,xO⟩
  |some a2=>
   have Yp:=I ae;have FL:=I ad;have pg:=I hp;clear ae ad hp
   (try simp only[R.bind_ok,awQ,awv,Option.isNone_none,avw,if_true]at aY HQ|-)
   unfold aG uQ;go_wp2_with fail
   obtain⟨aw,hbr,av,hc,hm,jM,jU,wP⟩:=ok6 IV oG aD Dp pg aq ax aF #[V n6.QI,S_ n6.QG,V n6.ah,.slice A6 n6.Qx.length qQ];have yO:=(adn.nJ (L:=w4.heap.size) (g:=w2.heap.size) UZ (V 0) (V 0)).alloc (.cells #[V n6.QI,S_ n6.QG,V n6.ah,.slice A6 n6.Qx.length qQ] 31);simp only[aH]at aw hbr av hc hm jM jU wP yO;generalize (auX (auX w6 (B_ w2.heap.size 0) _) (B_ w2.heap.size 1) _).alloc _=w7 at aw hbr av hc hm jM jU wP yO|-;have ado:=I aw;have qc:=I hbr;have IW:=I av;have ay:=I hc;have Cx:=I hm;have SA:=I jM;have oh:=I jU;have aE:=I wP;have zw:=I yO;clear aw hbr av hc hm jM jU wP yO q0 q1 z0 z1 ab;obtain⟨ha,DV,SB⟩:=Yp.out rfl;cases ha;have ar:=I DV;have Yq:=I SB;clear DV SB;refine(aJ k3 op 95 w7 SA (by have:=oJ.out;have:=Dk.out;have:=KP.out;have:=FL.out;omega) (λh=>aY aiw)).mono ?_;intro e w8 hres;have ac:=hres.parts (λh=>aY aiw);clear hres;generalize eB c.E f 95 op (c.at k3)=X at aY HQ ac;obtain⟨n8,A8,fq,th8,i,er,rfl,hm,hend⟩:=ac;have aV:=I hm;have Yr:=I (hm.QN ado R4 Pf);have wE:=I (hm.QN qc Zo Pf);have aW:=I (ay.trans hm);have OQ:=I (Cx.trans hm);have a':=I (show w2.heap.size<w8.heap.size from Yr.lt);have a7:=I (show w7.heap.size<=w8.heap.size from hm.size);have SC:=I (show af w8 w4.heap.size 31 #[V n4.QI,S_ n4.QG,V n4.ah,.slice A4 n4.Qx.length Cy]from hm.QN zw l_ Pf);have agF:=I (show af w8 w6.heap.size 31 #[V n6.QI,S_ n6.QG,V n6.ah,.slice A6 n6.Qx.length qQ]from hm.QN IW (by have:=AO.out;have:=aq.out;omega) Pf);clear hm;obtain⟨q0,q1,z0,z1,ab⟩:=af.two Yr;have aT:=gP.out;obtain⟨p0,p1,p2,p3,y0,y1,y2,y3,adp⟩:=af.QM SC
   rcases hend with⟨so3,rest,k4,rfl,rfl,rfl,rfl,ae,rfl,ad,hp⟩|⟨rfl,aj⟩
   case inr=>
    have F7:=I aj;have e0:=alr aj;clear aj;unfold aG uQ;go_wp2_with fail
    have ap:=(Yr.uJ (L:=w2.heap.size) (g:=w4.heap.size) UZ (V n8.QI) (S_ n8.QG) (V n8.ah) (.slice A8 n8.Qx.length fq)).fT (V (i:Int)) (V (er:Int));have hbr:=(wE.uJ (L:=w.heap.size) (g:=w4.heap.size) l_ (V n8.QI) (S_ n8.QG) (V n8.ah) (.slice A8 n8.Qx.length fq)).nJ (L:=w.heap.size) (g:=w2.heap.size) R4 (V (i:Int)) (V (er:Int));have az:Mp c.g c.W0.heap.size w _:=(OQ.aO (g:=w4.heap.size) (.inr l_) (V n8.QI) (S_ n8.QG) (V n8.ah) (.slice A8 n8.Qx.length fq)).aH (g:=w2.heap.size) arq (V (i:Int)) (V (er:Int));simp only[aH,aO]at ap hbr az;generalize auX (auX _ (B_ w2.heap.size 0) _) (B_ w2.heap.size 1) _=W5 at ap hbr az|-;clear q0 q1 z0 z1 ab p0 p1 p2 p3 y0 y1 y2 y3 adp;have r0:=cR y_;have r1:=cR z_;have ab:=ap.lt;have ow:=I hbr;have aN:=I az;clear ap hbr az;refine cu [([(0,true),(1,true)],2)] [] Pg Ph Pg ?_;refine dJ ?_
    repeat(refine Z4 ?_)
    obtain⟨p0,p1,y0,y1,hlt⟩:=af.two (ow.drewN 1);refine dm rfl (λK hK=>?_);go_wp2_with fail
    refine fH ?_;go_wp2_with fail
    have al:af _ (w.heap.size) 45 #[V (i:Int),V (er:Int)]:=((ow.drewN 1).put 0 (V (i:Int))).put 1 (V (er:Int));have wO:=((aN.drewN 1).setCell (p:=B_ w.heap.size 0) WL (V (i:Int))).setCell (p:=B_ w.heap.size 1) WL (V (er:Int));obtain⟨f0,f1,_⟩:=af.two al
    exact R_
   cases so3 with
   |none=>
    have agG:=I ae;have adq:=I ad;have AQ:=I hp;clear ae ad hp
    (try simp only[R.bind_ok,awQ]at aY HQ|-)
    simp only[D7.scripts]at HQ;unfold aG uQ;go_wp2_with fail
    have FM:=Yr.uJ (L:=w2.heap.size) (g:=w4.heap.size) UZ (V n8.QI) (S_ n8.QG) (V n8.ah) (.slice A8 n8.Qx.length fq);have aw:=FM.fT (V 0) (V 0);have hbr:=(wE.uJ (L:=w.heap.size) (g:=w4.heap.size) l_ (V n8.QI) (S_ n8.QG) (V n8.ah) (.slice A8 n8.Qx.length fq)).nJ (L:=w.heap.size) (g:=w2.heap.size) R4 (V 0) (V 0);have oo:=(SC.gH (V n8.QI) (S_ n8.QG) (V n8.ah) (.slice A8 n8.Qx.length fq)).nJ (L:=w4.heap.size) (g:=w2.heap.size) UZ (V 0) (V 0);have kD:=(agF.uJ (L:=w6.heap.size) (g:=w4.heap.size) (by have:=aB.out;have:=aC.out;omega) (V n8.QI) (S_ n8.QG) (V n8.ah) (.slice A8 n8.Qx.length fq)).nJ (L:=w6.heap.size) (g:=w2.heap.size) asH (V 0) (V 0);have hc:Mp c.g c.W0.heap.size w2 _:=(aW.aO (g:=w4.heap.size) (.inr UZ) (V n8.QI) (S_ n8.QG) (V n8.ah) (.slice A8 n8.Qx.length fq)).aH (g:=w2.heap.size) ET (V 0) (V 0);have hm:Mp c.g c.W0.heap.size w _:=(OQ.aO (g:=w4.heap.size) (.inr l_) (V n8.QI) (S_ n8.QG) (V n8.ah) (.slice A8 n8.Qx.length fq)).aH (g:=w2.heap.size) arq (V 0) (V 0);have jM:Ps c k4 op _:=(AQ.aO SC Pf l_ at6 (V n8.QI) (S_ n8.QG) (V n8.ah) (.slice A8 n8.Qx.length fq)).aH FM Pf R4 ah8 (V 0) (V 0);have jU:∀B ks v,w4.heap.size<B->aP B w8 ks v->aP B _ ks v:=λB ks v hB h=>(h.far ars hB).other FM Pf (dS _ w2.heap.size (V 0) (V 0))
    simp only[aH,aO]at aw hbr oo kD hc hm jM jU;generalize auX (auX _ (B_ w2.heap.size 0) _) (B_ w2.heap.size 1) _=w9 at aw hbr oo kD hc hm jM jU|-;have ajs:=I aw;have adr:=I hbr;have Nw:=I oo;have Cz:=I kD;have aM:=I hc;have OT:=I hm;have Sa:=I jM;have qb:=I jU;clear aw FM hbr oo kD hc hm jM jU q0 q1 z0 z1 ab p0 p1 p2 p3 y0 y1 y2 y3 adp;have ads:=I ((qb _ _ _ aB ((oh _ _ _ ar).mp aV SA)).base Ga.size);have ai:=(ao.mp aM jb).base amG;have yB:=I ai;clear ai;have KQ:=I (ads);have KR:=I (Yq);have SE:=cR (Cz.cell 0|>.trans rfl);have SF:=cR (Cz.cell 1|>.trans rfl);have SG:=cR (Cz.cell 2|>.trans rfl);have SH:=cR (Cz.cell 3|>.trans rfl);have hl0:=Cz.lt;refine cu [([(0,true),(2,true),(6,true),(1,false),(3,false),(4,true),(5,false),(7,true)],8)] [] Pg Ph Pg ?_;refine dJ ?_
    repeat(refine Z4 ?_)
    refine aS rfl (λK hK=>?_);go_wp2_with fail
    refine(j6 A QS.length cp _).mono ?_;rintro _ wx ⟨rfl,hf⟩;have oM:=I (show ag w9 wx from Touch.BD hf);clear hf;go_wp2
    refine hK _ _ (aA oM) ?_;clear hK K;refine aS rfl (λK hK=>?_);go_wp2
    refine hK _ _ (aA (oM.alloc _)) ?_;clear hK K
    repeat(refine Z4 ?_)
    refine aS rfl (λK hK=>?_);go_wp2
    refine hK _ _ ar4 ?_;clear hK K
    repeat(refine Z4 ?_)
    have hB:w.heap.size<=wx.heap.size:=au2 OT.size oM.size
    have uR:aP w.heap.size ((wx.alloc (.cells #[V 1,E_,V 0,.slice A QS.length cp,V n6.QI,S_ n6.QG,V n6.ah,.slice A6 n6.Qx.length qQ] 31)).alloc (.cells #[V 8,E_,V 0,.slice (A_ wx.heap.size 0) 2 2] 31)) [Nd.mk 8 [] 0 [Np.CG QS,n6]] (.slice (A_ ((wx.alloc (.cells #[V 1,E_,V 0,.slice A QS.length cp,V n6.QI,S_ n6.QG,V n6.ah,.slice A6 n6.Qx.length qQ] 31)).heap.size) 0) 1 1):=
     aP.lit (n:=.mk 8 [] 0 [Np.CG QS,n6]) as9 WN JI
    rw[show(wx.alloc (.cells #[V 1,E_,V 0,.slice A QS.length cp,V n6.QI,S_ n6.QG,V n6.ah,.slice A6 n6.Qx.length qQ] 31)).heap.size=wx.heap.size+1 by simp]at uR;have gX:ag w9 ((wx.alloc (.cells #[V 1,E_,V 0,.slice A QS.length cp,V n6.QI,S_ n6.QG,V n6.ah,.slice A6 n6.Qx.length qQ] 31)).alloc (.cells #[V 8,E_,V 0,.slice (A_ wx.heap.size 0) 2 2] 31)):=(oM.alloc (.cells #[V 1,E_,V 0,.slice A QS.length cp,V n6.QI,S_ n6.QG,V n6.ah,.slice A6 n6.Qx.length qQ] 31)).alloc (.cells #[V 8,E_,V 0,.slice (A_ wx.heap.size 0) 2 2] 31);generalize ((wx.alloc (.cells #[V 1,E_,V 0,.slice A QS.length cp,V n6.QI,S_ n6.QG,V n6.ah,.slice A6 n6.Qx.length qQ] 31)).alloc (.cells #[V 8,E_,V 0,.slice (A_ wx.heap.size 0) 2 2] 31))=W7 at uR gX|-;have KS:=I (OT.fr gX);have tN:=I (gX.QN adr λh=>h);have KT:=I uR;have KU:=I (Sa.QH gX);clear uR gX hB;clear SE SF SG SH hl0;obtain⟨p0,p1,y0,y1,hlt⟩:=af.two tN;refine dm rfl (λK hK=>?_);go_wp2_with fail
    refine fH ?_;go_wp2_with fail
    have o9:=tN.fT (V 0) (V 0);have xO:Mp c.g c.W0.heap.size w (aH W7 w.heap.size (V 0) (V 0)):=KS.aH (g:=w.heap.size) ET _ _;have bR:=dS W7 w.heap.size (V 0) (V 0);obtain⟨f0,f1,_⟩:=af.two o9;have am:=KU.mv bR aaV;have CB:=KT.other tN Pf bR;simp only[aH]at f0 f1 xO am CB
    exact aeF
   |some a3=>
    have agG:=I ae;have adq:=I ad;have AQ:=I hp;clear ae ad hp
    (try simp only[R.bind_ok,awv]at aY HQ|-)
    simp only[D7.scripts]at HQ;unfold aG uQ;go_wp2_with fail
    have FM:=Yr.uJ (L:=w2.heap.size) (g:=w4.heap.size) UZ (V n8.QI) (S_ n8.QG) (V n8.ah) (.slice A8 n8.Qx.length fq);have aw:=FM.fT (V 0) (V 0);have hbr:=(wE.uJ (L:=w.heap.size) (g:=w4.heap.size) l_ (V n8.QI) (S_ n8.QG) (V n8.ah) (.slice A8 n8.Qx.length fq)).nJ (L:=w.heap.size) (g:=w2.heap.size) R4 (V 0) (V 0);have oo:=(SC.gH (V n8.QI) (S_ n8.QG) (V n8.ah) (.slice A8 n8.Qx.length fq)).nJ (L:=w4.heap.size) (g:=w2.heap.size) UZ (V 0) (V 0);have kD:=(agF.uJ (L:=w6.heap.size) (g:=w4.heap.size) (by have:=aB.out;have:=aC.out;omega) (V n8.QI) (S_ n8.QG) (V n8.ah) (.slice A8 n8.Qx.length fq)).nJ (L:=w6.heap.size) (g:=w2.heap.size) asH (V 0) (V 0);have hc:Mp c.g c.W0.heap.size w2 _:=(aW.aO (g:=w4.heap.size) (.inr UZ) (V n8.QI) (S_ n8.QG) (V n8.ah) (.slice A8 n8.Qx.length fq)).aH (g:=w2.heap.size) ET (V 0) (V 0);have hm:Mp c.g c.W0.heap.size w _:=(OQ.aO (g:=w4.heap.size) (.inr l_) (V n8.QI) (S_ n8.QG) (V n8.ah) (.slice A8 n8.Qx.length fq)).aH (g:=w2.heap.size) arq (V 0) (V 0);have jM:Ps c k4 op _:=(AQ.aO SC Pf l_ at6 (V n8.QI) (S_ n8.QG) (V n8.ah) (.slice A8 n8.Qx.length fq)).aH FM Pf R4 ah8 (V 0) (V 0);have jU:∀B ks v,w4.heap.size<B->aP B w8 ks v->aP B _ ks v:=λB ks v hB h=>(h.far ars hB).other FM Pf (dS _ w2.heap.size (V 0) (V 0))
    simp only[aH,aO]at aw hbr oo kD hc hm jM jU;generalize auX (auX _ (B_ w2.heap.size 0) _) (B_ w2.heap.size 1) _=w9 at aw hbr oo kD hc hm jM jU|-;have ajs:=I aw;have adr:=I hbr;have Nw:=I oo;have Cz:=I kD;have aM:=I hc;have OT:=I hm;have Sa:=I jM;have qb:=I jU;clear aw FM hbr oo kD hc hm jM jU q0 q1 z0 z1 ab p0 p1 p2 p3 y0 y1 y2 y3 adp;have ads:=I ((qb _ _ _ aB ((oh _ _ _ ar).mp aV SA)).base Ga.size);obtain⟨ha,agH,agI⟩:=agG.out rfl;cases ha;have an:=I ((qb _ _ _ (by have:=aB.out;have:=aC.out;have:=aE.out;omega) agH).base Cx.size);have ajt:=I agI;clear agH agI;have ai:=(ao.mp aM jb).base amG;have yB:=I ai;clear ai;have KQ:=I (an);have KR:=I (ajt);have adt:=I (ads);have adu:=I (Yq);have SE:=cR (Nw.cell 0|>.trans rfl);have SF:=cR (Nw.cell 1|>.trans rfl);have SG:=cR (Nw.cell 2|>.trans rfl);have SH:=cR (Nw.cell 3|>.trans rfl);have hl0:=Nw.lt;have r10:=cR (Cz.cell 0|>.trans rfl);have r11:=cR (Cz.cell 1|>.trans rfl);have r12:=cR (Cz.cell 2|>.trans rfl);have r13:=cR (Cz.cell 3|>.trans rfl);have aQ:=Cz.lt;refine cu [([(0,true),(2,true),(3,true),(7,true),(1,false),(4,false),(5,true),(6,false),(8,true)],9)] [] Pg Ph Pg ?_;refine dJ ?_
    repeat(refine Z4 ?_)
    refine aS rfl (λK hK=>?_);go_wp2_with fail
    refine(j6 A QS.length cp _).mono ?_;rintro _ wx ⟨rfl,hf⟩;have oM:=I (show ag w9 wx from Touch.BD hf);clear hf;go_wp2
    refine hK _ _ (aA oM) ?_;clear hK K;refine aS rfl (λK hK=>?_);go_wp2
    refine hK _ _ (aA (oM.alloc _)) ?_;clear hK K
    repeat(refine Z4 ?_)
    refine aS rfl (λK hK=>?_);go_wp2
    refine hK _ _ ar4 ?_;clear hK K
    repeat(refine Z4 ?_)
    have hB:w.heap.size<=wx.heap.size:=au2 OT.size oM.size
    have uR:aP w.heap.size ((wx.alloc (.cells #[V 1,E_,V 0,.slice A QS.length cp,V n8.QI,S_ n8.QG,V n8.ah,.slice A8 n8.Qx.length fq,V n6.QI,S_ n6.QG,V n6.ah,.slice A6 n6.Qx.length qQ] 31)).alloc (.cells #[V 9,E_,V 0,.slice (A_ wx.heap.size 0) 3 3] 31)) [Nd.mk 9 [] 0 [Np.CG QS,n8,n6]] (.slice (A_ ((wx.alloc (.cells #[V 1,E_,V 0,.slice A QS.length cp,V n8.QI,S_ n8.QG,V n8.ah,.slice A8 n8.Qx.length fq,V n6.QI,S_ n6.QG,V n6.ah,.slice A6 n6.Qx.length qQ] 31)).heap.size) 0) 1 1):=
     aP.lit (n:=.mk 9 [] 0 [Np.CG QS,n8,n6]) arA WN JI
    rw[show(wx.alloc (.cells #[V 1,E_,V 0,.slice A QS.length cp,V n8.QI,S_ n8.QG,V n8.ah,.slice A8 n8.Qx.length fq,V n6.QI,S_ n6.QG,V n6.ah,.slice A6 n6.Qx.length qQ] 31)).heap.size=wx.heap.size+1 by simp]at uR;have gX:ag w9 ((wx.alloc (.cells #[V 1,E_,V 0,.slice A QS.length cp,V n8.QI,S_ n8.QG,V n8.ah,.slice A8 n8.Qx.length fq,V n6.QI,S_ n6.QG,V n6.ah,.slice A6 n6.Qx.length qQ] 31)).alloc (.cells #[V 9,E_,V 0,.slice (A_ wx.heap.size 0) 3 3] 31)):=(oM.alloc (.cells #[V 1,E_,V 0,.slice A QS.length cp,V n8.QI,S_ n8.QG,V n8.ah,.slice A8 n8.Qx.length fq,V n6.QI,S_ n6.QG,V n6.ah,.slice A6 n6.Qx.length qQ] 31)).alloc (.cells #[V 9,E_,V 0,.slice (A_ wx.heap.size 0) 3 3] 31);generalize ((wx.alloc (.cells #[V 1,E_,V 0,.slice A QS.length cp,V n8.QI,S_ n8.QG,V n8.ah,.slice A8 n8.Qx.length fq,V n6.QI,S_ n6.QG,V n6.ah,.slice A6 n6.Qx.length qQ] 31)).alloc (.cells #[V 9,E_,V 0,.slice (A_ wx.heap.size 0) 3 3] 31))=W7 at uR gX|-;have KS:=I (OT.fr gX);have tN:=I (gX.QN adr λh=>h);have KT:=I uR;have KU:=I (Sa.QH gX);clear uR gX hB;clear SE SF SG SH r10 r11 r12 r13 hl0 aQ;obtain⟨p0,p1,y0,y1,hlt⟩:=af.two tN;refine dm rfl (λK hK=>?_);go_wp2_with fail
    refine fH ?_;go_wp2_with fail
    have o9:=tN.fT (V 0) (V 0);have xO:Mp c.g c.W0.heap.size w (aH W7 w.heap.size (V 0) (V 0)):=KS.aH (g:=w.heap.size) ET _ _;have bR:=dS W7 w.heap.size (V 0) (V 0);obtain⟨f0,f1,_⟩:=af.two o9;have am:=KU.mv bR aaV;have CB:=KT.other tN Pf bR;simp only[aH]at f0 f1 xO am CB
    exact aeF
 |some a1=>
  cases so2 with
  |none=>
   have Yp:=I ae;have FL:=I ad;have pg:=I hp;clear ae ad hp
   (try simp only[R.bind_ok,awQ,awv,Option.isNone_some,avD,avH,if_false]at aY HQ|-)
   unfold aG uQ;go_wp2_with fail
   obtain⟨aw,hbr,av,hc,hm,jM,jU,wP⟩:=ok6 IV oG aD Dp pg aq ax aF #[V n6.QI,S_ n6.QG,V n6.ah,.slice A6 n6.Qx.length qQ];have yO:=(adn.nJ (L:=w4.heap.size) (g:=w2.heap.size) UZ (V 0) (V 0)).alloc (.cells #[V n6.QI,S_ n6.QG,V n6.ah,.slice A6 n6.Qx.length qQ] 31);simp only[aH]at aw hbr av hc hm jM jU wP yO;generalize (auX (auX w6 (B_ w2.heap.size 0) _) (B_ w2.heap.size 1) _).alloc _=w7 at aw hbr av hc hm jM jU wP yO|-;have ado:=I aw;have qc:=I hbr;have IW:=I av;have ay:=I hc;have Cx:=I hm;have SA:=I jM;have oh:=I jU;have aE:=I wP;have zw:=I yO;clear aw hbr av hc hm jM jU wP yO q0 q1 z0 z1 ab;obtain⟨ha,IK,SI⟩:=agE.out rfl;cases ha;have aL:=I IK;have adw:=I SI;clear IK SI;have ai:=(ao.mp ay jb).base amG;have yB:=I ai;clear ai;have KQ:=I ((oh _ _ _ ((iR _ _ _ aL).mp aU wN)).base (au2 rM.size PD));have KR:=I (adw);have SE:=cR (zw.cell 0|>.trans rfl);have SF:=cR (zw.cell 1|>.trans rfl);have SG:=cR (zw.cell 2|>.trans rfl);have SH:=cR (zw.cell 3|>.trans rfl);have hl0:=zw.lt;refine cu [([(0,true),(2,true),(6,true),(1,false),(3,false),(4,true),(5,false),(7,true)],8)] [] Pg Ph Pg ?_;refine dJ ?_
   repeat(refine Z4 ?_)
   refine aS rfl (λK hK=>?_);go_wp2_with fail
   refine(j6 A QS.length cp _).mono ?_;rintro _ wx ⟨rfl,hf⟩;have oM:=I (show ag w7 wx from Touch.BD hf);clear hf;go_wp2
   refine hK _ _ (aA oM) ?_;clear hK K;refine aS rfl (λK hK=>?_);go_wp2
   refine hK _ _ (aA (oM.alloc _)) ?_;clear hK K
   repeat(refine Z4 ?_)
   refine aS rfl (λK hK=>?_);go_wp2
   refine hK _ _ ar4 ?_;clear hK K
   repeat(refine Z4 ?_)
   have hB:w.heap.size<=wx.heap.size:=au2 Cx.size oM.size
   have uR:aP w.heap.size ((wx.alloc (.cells #[V 1,E_,V 0,.slice A QS.length cp,V n4.QI,S_ n4.QG,V n4.ah,.slice A4 n4.Qx.length Cy] 31)).alloc (.cells #[V 7,E_,V 0,.slice (A_ wx.heap.size 0) 2 2] 31)) [Nd.mk 7 [] 0 [Np.CG QS,n4]] (.slice (A_ ((wx.alloc (.cells #[V 1,E_,V 0,.slice A QS.length cp,V n4.QI,S_ n4.QG,V n4.ah,.slice A4 n4.Qx.length Cy] 31)).heap.size) 0) 1 1):=
    aP.lit (n:=.mk 7 [] 0 [Np.CG QS,n4]) as9 WN JI
   rw[show(wx.alloc (.cells #[V 1,E_,V 0,.slice A QS.length cp,V n4.QI,S_ n4.QG,V n4.ah,.slice A4 n4.Qx.length Cy] 31)).heap.size=wx.heap.size+1 by simp]at uR;have gX:ag w7 ((wx.alloc (.cells #[V 1,E_,V 0,.slice A QS.length cp,V n4.QI,S_ n4.QG,V n4.ah,.slice A4 n4.Qx.length Cy] 31)).alloc (.cells #[V 7,E_,V 0,.slice (A_ wx.heap.size 0) 2 2] 31)):=(oM.alloc (.cells #[V 1,E_,V 0,.slice A QS.length cp,V n4.QI,S_ n4.QG,V n4.ah,.slice A4 n4.Qx.length Cy] 31)).alloc (.cells #[V 7,E_,V 0,.slice (A_ wx.heap.size 0) 2 2] 31);generalize ((wx.alloc (.cells #[V 1,E_,V 0,.slice A QS.length cp,V n4.QI,S_ n4.QG,V n4.ah,.slice A4 n4.Qx.length Cy] 31)).alloc (.cells #[V 7,E_,V 0,.slice (A_ wx.heap.size 0) 2 2] 31))=W7 at uR gX|-;have KS:=I (Cx.fr gX);have tN:=I (gX.QN qc λh=>h);have KT:=I uR;have KU:=I (SA.QH gX);clear uR gX hB;clear SE SF SG SH hl0;obtain⟨p0,p1,y0,y1,hlt⟩:=af.two tN;refine dm rfl (λK hK=>?_);go_wp2_with fail
   refine fH ?_;go_wp2_with fail
   have o9:=tN.fT (V 0) (V 0);have xO:Mp c.g c.W0.heap.size w (aH W7 w.heap.size (V 0) (V 0)):=KS.aH (g:=w.heap.size) ET _ _;have bR:=dS W7 w.heap.size (V 0) (V 0);obtain⟨f0,f1,_⟩:=af.two o9;have am:=KU.mv bR aaV;have CB:=KT.other tN Pf bR;simp only[aH]at f0 f1 xO am CB
   exact aeL
  |some a2=>
   have Yp:=I ae;have FL:=I ad;have pg:=I hp;clear ae ad hp
   (try simp only[R.bind_ok,awv,Option.isNone_some,avD,avH,if_false]at aY HQ|-)
   unfold aG uQ;go_wp2_with fail
   obtain⟨aw,hbr,av,hc,hm,jM,jU,wP⟩:=ok6 IV oG aD Dp pg aq ax aF #[V n6.QI,S_ n6.QG,V n6.ah,.slice A6 n6.Qx.length qQ];have yO:=(adn.nJ (L:=w4.heap.size) (g:=w2.heap.size) UZ (V 0) (V 0)).alloc (.cells #[V n6.QI,S_ n6.QG,V n6.ah,.slice A6 n6.Qx.length qQ] 31);simp only[aH]at aw hbr av hc hm jM jU wP yO;generalize (auX (auX w6 (B_ w2.heap.size 0) _) (B_ w2.heap.size 1) _).alloc _=w7 at aw hbr av hc hm jM jU wP yO|-;have ado:=I aw;have qc:=I hbr;have IW:=I av;have ay:=I hc;have Cx:=I hm;have SA:=I jM;have oh:=I jU;have aE:=I wP;have zw:=I yO;clear aw hbr av hc hm jM jU wP yO q0 q1 z0 z1 ab;obtain⟨ha,IK,SI⟩:=agE.out rfl;cases ha;have aL:=I IK;have adw:=I SI;obtain⟨ha,DV,SB⟩:=Yp.out rfl;cases ha;have ar:=I DV;have Yq:=I SB;clear IK SI DV SB;have ai:=(ao.mp ay jb).base amG;have yB:=I ai;clear ai;have KQ:=I ((oh _ _ _ ((iR _ _ _ aL).mp aU wN)).base (au2 rM.size PD));have KR:=I (adw);have adt:=I ((oh _ _ _ ar).base Ga.size);have adu:=I (Yq);have SE:=cR (zw.cell 0|>.trans rfl);have SF:=cR (zw.cell 1|>.trans rfl);have SG:=cR (zw.cell 2|>.trans rfl);have SH:=cR (zw.cell 3|>.trans rfl);have hl0:=zw.lt;have r10:=cR (IW.cell 0|>.trans rfl);have r11:=cR (IW.cell 1|>.trans rfl);have r12:=cR (IW.cell 2|>.trans rfl);have r13:=cR (IW.cell 3|>.trans rfl);have aQ:=IW.lt;refine cu [([(0,true),(2,true),(3,true),(7,true),(1,false),(4,false),(5,true),(6,false),(8,true)],9)] [] Pg Ph Pg ?_;refine dJ ?_
   repeat(refine Z4 ?_)
   refine aS rfl (λK hK=>?_);go_wp2_with fail
   refine(j6 A QS.length cp _).mono ?_;rintro _ wx ⟨rfl,hf⟩;have oM:=I (show ag w7 wx from Touch.BD hf);clear hf;go_wp2
   refine hK _ _ (aA oM) ?_;clear hK K;refine aS rfl (λK hK=>?_);go_wp2
   refine hK _ _ (aA (oM.alloc _)) ?_;clear hK K
   repeat(refine Z4 ?_)
   refine aS rfl (λK hK=>?_);go_wp2
   refine hK _ _ ar4 ?_;clear hK K
   repeat(refine Z4 ?_)
   have hB:w.heap.size<=wx.heap.size:=au2 Cx.size oM.size
   have uR:aP w.heap.size ((wx.alloc (.cells #[V 1,E_,V 0,.slice A QS.length cp,V n4.QI,S_ n4.QG,V n4.ah,.slice A4 n4.Qx.length Cy,V n6.QI,S_ n6.QG,V n6.ah,.slice A6 n6.Qx.length qQ] 31)).alloc (.cells #[V 9,E_,V 0,.slice (A_ wx.heap.size 0) 3 3] 31)) [Nd.mk 9 [] 0 [Np.CG QS,n4,n6]] (.slice (A_ ((wx.alloc (.cells #[V 1,E_,V 0,.slice A QS.length cp,V n4.QI,S_ n4.QG,V n4.ah,.slice A4 n4.Qx.length Cy,V n6.QI,S_ n6.QG,V n6.ah,.slice A6 n6.Qx.length qQ] 31)).heap.size) 0) 1 1):=
    aP.lit (n:=.mk 9 [] 0 [Np.CG QS,n4,n6]) arA WN JI
   rw[show(wx.alloc (.cells #[V 1,E_,V 0,.slice A QS.length cp,V n4.QI,S_ n4.QG,V n4.ah,.slice A4 n4.Qx.length Cy,V n6.QI,S_ n6.QG,V n6.ah,.slice A6 n6.Qx.length qQ] 31)).heap.size=wx.heap.size+1 by simp]at uR;have gX:ag w7 ((wx.alloc (.cells #[V 1,E_,V 0,.slice A QS.length cp,V n4.QI,S_ n4.QG,V n4.ah,.slice A4 n4.Qx.length Cy,V n6.QI,S_ n6.QG,V n6.ah,.slice A6 n6.Qx.length qQ] 31)).alloc (.cells #[V 9,E_,V 0,.slice (A_ wx.heap.size 0) 3 3] 31)):=(oM.alloc (.cells #[V 1,E_,V 0,.slice A QS.length cp,V n4.QI,S_ n4.QG,V n4.ah,.slice A4 n4.Qx.length Cy,V n6.QI,S_ n6.QG,V n6.ah,.slice A6 n6.Qx.length qQ] 31)).alloc (.cells #[V 9,E_,V 0,.slice (A_ wx.heap.size 0) 3 3] 31);generalize ((wx.alloc (.cells #[V 1,E_,V 0,.slice A QS.length cp,V n4.QI,S_ n4.QG,V n4.ah,.slice A4 n4.Qx.length Cy,V n6.QI,S_ n6.QG,V n6.ah,.slice A6 n6.Qx.length qQ] 31)).alloc (.cells #[V 9,E_,V 0,.slice (A_ wx.heap.size 0) 3 3] 31))=W7 at uR gX|-;have KS:=I (Cx.fr gX);have tN:=I (gX.QN qc λh=>h);have KT:=I uR;have KU:=I (SA.QH gX);clear uR gX hB;clear SE SF SG SH r10 r11 r12 r13 hl0 aQ;obtain⟨p0,p1,y0,y1,hlt⟩:=af.two tN;refine dm rfl (λK hK=>?_);go_wp2_with fail
   refine fH ?_;go_wp2_with fail
   have o9:=tN.fT (V 0) (V 0);have xO:Mp c.g c.W0.heap.size w (aH W7 w.heap.size (V 0) (V 0)):=KS.aH (g:=w.heap.size) ET _ _;have bR:=dS W7 w.heap.size (V 0) (V 0);obtain⟨f0,f1,_⟩:=af.two o9;have am:=KU.mv bR aaV;have CB:=KT.other tN Pf bR;simp only[aH]at f0 f1 xO am CB
   exact aeL
end
end Go.Proofs.YtabjglnjjdcfmaaGreatDoor
