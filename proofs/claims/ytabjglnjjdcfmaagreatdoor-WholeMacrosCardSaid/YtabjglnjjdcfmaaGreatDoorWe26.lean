/- Part 26 of 41 of a proof. No condition. -/
import Derived.Test.YtabjglnjjdcfmaaGreatDoorWe25
set_option maxRecDepth 100000
set_option maxHeartbeats 6000000
namespace Go.Proofs.YtabjglnjjdcfmaaGreatDoor
open _root_.List renaming take_succ_cons->avF,getElem_cons_succ->avC,append_assoc->au6,take_zero->avB,length_append->auZ,length_nil->ava,length_cons->au0
open _root_.Go.Proofs.Tryz
section
open Go.RowKit
open Tr (Nd dD gG bC bT)
theorem JZ{b:Bool}(n:Nd)(sl:Value)(w:W_)(h:Tr.gY n=b):C_ 100 #[nv n sl] w λe w'=>e=.returned (.bool b)/\ag w w':=by
 have:=Tn n sl w;rw[h]at this;exact this
theorem wC(W0:W_)(p B:Nat)(kd:Int)(ch:UInt8)(aa:((kd==7)=true/\(kd==8)=false/\(kd !=7)=false/\(kd !=8)=true/\ch=95)\/((kd==7)=false/\(kd==8)=true/\(kd !=7)=true/\(kd !=8)=false/\ch=94))(tx cl:Value)(a b:Nd)(x:Nd)(hx:a.Qx=[x])(ae:Tr.gY x=false/\xm W0 p B a\/Tr.gY x=true/\Ct W0 p B a)(hb:qZ W0 p B b)(sl:Value)(ab:aD W0 [a,b] sl):lC 63 #[pp p,.agg #[V kd,tx,cl,sl]] W0 p B (gG a++([Tr.aI ch]++dD b)):=by
 rcases aa with⟨k1,k2,k3,k4,rfl⟩|⟨k1,k2,k3,k4,rfl⟩
 all_goals rcases ae with⟨hs,ha⟩|⟨hs,ha⟩
 all_goals
  intro w QT D9 hp hf
  first|rw[O0 a x hx hs]at hf|-|rw[O1 a x hx hs]at hf|-
  obtain⟨g,o,cap,sa,sb,rfl,a0,a1,a2,a3,ac,b0,b1,b2,b3,ad⟩:=ab.two;have FO:=I (ha sa ac);have zx:=I (hb sb ad);rw[hx]at ac;obtain⟨gx,ox,I5,sx,rfl,x0,x1,x2,x3,al⟩:=ac.one;have e1:a.Qx.length=1:=aru
  have HS:=I hs;clear e1 hs al;have aL:=I hp;have fP:=I hf;clear hp hf ha hb ab ac ad hx;have iD:=I a0;have iE:=I a1;have iF:=I a2;have iG:=I a3;have lY:=I b0;have lZ:=I b1;have l6:=I b2;have mg:=I b3;have rP:=I x0;have rQ:=I x1;have rR:=I x2;have rT:=I x3;clear a0 a1 a2 a3 b0 b1 b2 b3 x0 x1 x2 x3;obtain⟨iA,mh,mo,mq⟩:=aT (ay.low aL) iD iE iF iG;obtain⟨tQ,tT,tV,tX⟩:=aT (ay.low aL) lY lZ l6 mg;obtain⟨oZ,wm,wu,wz⟩:=aT (ay.low aL) rP rQ rR rT;have oD:g<w.heap.size:=bL iA;have adP:gx<w.heap.size:=bL oZ;go_enter func63,ntmps63;go_wp2_with fail
  refine Calls.mono (JZ x _ _ HS) ?_;rintro _ w1 ⟨rfl,kH⟩;have aK:=I (show ag w w1 from qV kH);have bP:af w1 (w.heap.size) 31 #[V kd,tx,cl,.slice (A_ g o) 2 cap]:=Touch.QN kH Zp PR;have yT:af w1 (w.heap.size+1) 31 #[V a.QI,.string (⟨a.QG.toArray⟩:Y_),V a.ah,.slice (A_ gx ox) 1 I5]:=Touch.QN kH Zp PR;obtain⟨dN,dO,dP,dQ,_⟩:=af.QM bP;obtain⟨zy,zz,zA,zB,_⟩:=af.QM yT;obtain⟨gm,kN,kP,kQ⟩:=xW aK iA mh mo mq;obtain⟨rU,rV,rW,rX⟩:=xW aK tQ tT tV tX;obtain⟨pU,yj,yl,ym⟩:=xW aK oZ wm wu wz;clear iA mh mo mq tQ tT tV tX oZ wm wu wz;have lX:g<w1.heap.size:=bL gm;have abb:gx<w1.heap.size:=bL pU;have bZ:=I (ay.QH aL aK);clear kH;go_wp2_with fail
  refine Calls.mono ((FO) _ _ _ a_ fP.left) ?_;rintro _ w2 ⟨rfl,dH⟩;have dM:=I (ay.add a_ dH);have kT:=I (au.bG (show ag w _ from(kV aK)) dH);have mY:=I afB;have fF:af w2 (w.heap.size) 31 #[V kd,tx,cl,.slice (A_ g o) 2 cap]:=au.bk dH Zp aL Zo;have yU:af w2 (w.heap.size+1) 31 #[V a.QI,.string (⟨a.QG.toArray⟩:Y_),V a.ah,.slice (A_ gx ox) 1 I5]:=au.bk dH Zp aL Zo;clear dN dO dP dQ bP zy zz zA zB yT;obtain⟨ig,iq,iw,iy,_⟩:=af.QM fF;obtain⟨zC,zD,zF,zG,_⟩:=af.QM yU;clear gm kN kP kQ rU rV rW rX pU yj yl ym;obtain⟨gV,nu,ny,nA⟩:=aT (ay.low dM) iD iE iF iG;obtain⟨uu,uw,uy,uz⟩:=aT (ay.low dM) lY lZ l6 mg;obtain⟨I6,Tp,Tq,Tt⟩:=aT (ay.low dM) rP rQ rR rT;have q8:g<w2.heap.size:=bL gV;have abd:gx<w2.heap.size:=bL I6;clear dH;go_wp2_with fail
  refine Calls.mono ((lu W0 p B [_]) _ _ _ K_ mY.left) ?_;rintro _ w3 ⟨rfl,fo⟩;have gI:=I aq9;have oW:=I b_;have zM:=I (Fits.ni mY);have jB:af w3 (w.heap.size) 31 #[V kd,tx,cl,.slice (A_ g o) 2 cap]:=au.bk fo Zp aL Zo;have uM:af w3 (w.heap.size+1) 31 #[V a.QI,.string (⟨a.QG.toArray⟩:Y_),V a.ah,.slice (A_ gx ox) 1 I5]:=au.bk fo Zp aL Zo;clear ig iq iw iy fF zC zD zF zG yU;obtain⟨mF,mG,mH,mI,_⟩:=af.QM jB;obtain⟨xy,xA,xB,xC,_⟩:=af.QM uM;clear gV nu ny nA uu uw uy uz I6 Tp Tq Tt;obtain⟨mD,vI,vJ,vK⟩:=aT (ay.low gI) iD iE iF iG;obtain⟨yP,yQ,yR,yS⟩:=aT (ay.low gI) lY lZ l6 mg;obtain⟨yh,BK,BM,BN⟩:=aT (ay.low gI) rP rQ rR rT;have vL:g<w3.heap.size:=bL mD;have abe:gx<w3.heap.size:=bL yh;clear fo;go_wp2_with fail
  refine Calls.mono ((zx) _ _ _ aqM zM) ?_;rintro _ w4 ⟨rfl,mQ⟩;have kU:=I (ay.jS aqM mQ);have Bh:=I aix;have rq:af w4 (w.heap.size) 31 #[V kd,tx,cl,.slice (A_ g o) 2 cap]:=au.bk mQ Zp aL Zo;have zN:af w4 (w.heap.size+1) 31 #[V a.QI,.string (⟨a.QG.toArray⟩:Y_),V a.ah,.slice (A_ gx ox) 1 I5]:=au.bk mQ Zp aL Zo;clear mF mG mH mI jB xy xA xB xC uM;obtain⟨vS,vT,vU,vV,_⟩:=af.QM rq;obtain⟨Bt,Bu,Bv,Bw,_⟩:=af.QM zN;clear mD vI vJ vK yP yQ yR yS yh BK BM BN;obtain⟨wQ,Ew,Ex,Ey⟩:=aT (ay.low kU) iD iE iF iG;obtain⟨Ez,EA,EB,EC⟩:=aT (ay.low kU) lY lZ l6 mg;obtain⟨zU,GM,GN,GQ⟩:=aT (ay.low kU) rP rQ rR rT;have FP:g<w4.heap.size:=bL wQ;have abf:gx<w4.heap.size:=bL zU;clear mQ;go_wp2_with fail
  first|go_end0|refine bodyPost_ret (v:=.tuple #[]) Un rfl ?_
  exact⟨rfl,au.cast Bh WJ⟩
theorem EE(W0:W_)(p B:Nat)(kd:Int)(ch:UInt8)(aa:((kd==7)=true/\(kd==8)=false/\(kd !=7)=false/\(kd !=8)=true/\ch=95)\/((kd==7)=false/\(kd==8)=true/\(kd !=7)=true/\(kd !=8)=false/\ch=94))(tx cl:Value)(a b:Nd)(hx:a.Qx.length≠1)(ha:Ct W0 p B a)(hb:qZ W0 p B b)(sl:Value)(ab:aD W0 [a,b] sl):lC 63 #[pp p,.agg #[V kd,tx,cl,sl]] W0 p B (gG a++([Tr.aI ch]++dD b)):=by
 rcases aa with⟨k1,k2,k3,k4,rfl⟩|⟨k1,k2,k3,k4,rfl⟩
 all_goals
  intro w QT D9 hp hf;rw[MF a hx]at hf|-;obtain⟨g,o,cap,sa,sb,rfl,a0,a1,a2,a3,ac,b0,b1,b2,b3,ad⟩:=ab.two;have adQ:=I (ha sa ac);have zx:=I (hb sb ad);obtain⟨Aa,CJ,rfl⟩:=ac.slice;have f1:((a.Qx.length:Int)==1)=false:=arz
  have f2:¬(a.Qx.length:Int)=1:=Zo
  have aL:=I hp;have fP:=I hf;clear hp hf ha hb ab ac ad hx;have iD:=I a0;have iE:=I a1;have iF:=I a2;have iG:=I a3;have lY:=I b0;have lZ:=I b1;have l6:=I b2;have mg:=I b3;clear a0 a1 a2 a3 b0 b1 b2 b3;obtain⟨iA,mh,mo,mq⟩:=aT (ay.low aL) iD iE iF iG;obtain⟨tQ,tT,tV,tX⟩:=aT (ay.low aL) lY lZ l6 mg;have oD:g<w.heap.size:=bL iA;go_enter func63,ntmps63;go_wp2_with fail
  refine Calls.mono ((adQ) _ _ _ JJ fP.left) ?_;rintro _ w1 ⟨rfl,bO⟩;have bZ:=I aeG;have jm:=I Jd;have jN:=I afB;have bP:af w1 (w.heap.size) 31 #[V kd,tx,cl,.slice (A_ g o) 2 cap]:=au.bk bO Zp aL Zo;have yT:af w1 (w.heap.size+1) 31 #[V a.QI,.string (⟨a.QG.toArray⟩:Y_),V a.ah,.slice Aa a.Qx.length CJ]:=au.bk bO Zp aL Zo;obtain⟨dN,dO,dP,dQ,_⟩:=af.QM bP;obtain⟨zy,zz,zA,zB,_⟩:=af.QM yT;clear iA mh mo mq tQ tT tV tX;obtain⟨gm,kN,kP,kQ⟩:=aT (ay.low bZ) iD iE iF iG;obtain⟨rU,rV,rW,rX⟩:=aT (ay.low bZ) lY lZ l6 mg;have lX:g<w1.heap.size:=bL gm;clear bO;go_wp2_with fail
  refine Calls.mono ((lu W0 p B [_]) _ _ _ a_ jN.left) ?_;rintro _ w2 ⟨rfl,dH⟩;have dM:=I aqv;have kT:=I FU;have mY:=I asj;have fF:af w2 (w.heap.size) 31 #[V kd,tx,cl,.slice (A_ g o) 2 cap]:=au.bk dH Zp aL Zo;have yU:af w2 (w.heap.size+1) 31 #[V a.QI,.string (⟨a.QG.toArray⟩:Y_),V a.ah,.slice Aa a.Qx.length CJ]:=au.bk dH Zp aL Zo;clear dN dO dP dQ bP zy zz zA zB yT;obtain⟨ig,iq,iw,iy,_⟩:=af.QM fF;obtain⟨zC,zD,zF,zG,_⟩:=af.QM yU;clear gm kN kP kQ rU rV rW rX;obtain⟨gV,nu,ny,nA⟩:=aT (ay.low dM) iD iE iF iG;obtain⟨uu,uw,uy,uz⟩:=aT (ay.low dM) lY lZ l6 mg;have q8:g<w2.heap.size:=bL gV;clear dH;go_wp2_with fail
  refine Calls.mono ((zx) _ _ _ K_ mY) ?_;rintro _ w3 ⟨rfl,fo⟩;have gI:=I aq9;have oW:=I b_;have jB:af w3 (w.heap.size) 31 #[V kd,tx,cl,.slice (A_ g o) 2 cap]:=au.bk fo Zp aL Zo;have uM:af w3 (w.heap.size+1) 31 #[V a.QI,.string (⟨a.QG.toArray⟩:Y_),V a.ah,.slice Aa a.Qx.length CJ]:=au.bk fo Zp aL Zo;clear ig iq iw iy fF zC zD zF zG yU;obtain⟨mF,mG,mH,mI,_⟩:=af.QM jB;obtain⟨xy,xA,xB,xC,_⟩:=af.QM uM;clear gV nu ny nA uu uw uy uz;obtain⟨mD,vI,vJ,vK⟩:=aT (ay.low gI) iD iE iF iG;obtain⟨yP,yQ,yR,yS⟩:=aT (ay.low gI) lY lZ l6 mg;have vL:g<w3.heap.size:=bL mD;clear fo;go_wp2_with fail
  first|go_end0|refine bodyPost_ret (v:=.tuple #[]) Un rfl ?_
  exact arI
theorem Gc(W0:W_)(p B:Nat)(tx cl:Value)(a b d:Nd)(x:Nd)(hx:a.Qx=[x])(ae:Tr.gY x=false/\xm W0 p B a\/Tr.gY x=true/\Ct W0 p B a)(hb:qZ W0 p B b)(hd:qZ W0 p B d)(sl:Value)(ab:aD W0 [a,b,d] sl):lC 63 #[pp p,.agg #[V 9,tx,cl,sl]] W0 p B (gG a++([Tr.aI 95]++(dD b++([Tr.aI 94]++dD d)))):=by
 rcases ae with⟨hs,ha⟩|⟨hs,ha⟩
 all_goals
  intro w QT D9 hp hf
  first|rw[O0 a x hx hs]at hf|-|rw[O1 a x hx hs]at hf|-
  obtain⟨g,o,cap,sa,sb,sd,rfl,a0,a1,a2,a3,ac,b0,b1,b2,b3,ad,d0,d1,d2,d3,aa⟩:=ab.three;have FO:=I (ha sa ac);have zx:=I (hb sb ad);have adR:=I (hd sd aa);rw[hx]at ac;obtain⟨gx,ox,I5,sx,rfl,x0,x1,x2,x3,al⟩:=ac.one;have e1:a.Qx.length=1:=aru
  have HS:=I hs;clear e1 hs al;have aL:=I hp;have fP:=I hf;clear hp hf ha hb hd ab ac ad aa hx;have iD:=I a0;have iE:=I a1;have iF:=I a2;have iG:=I a3;have lY:=I b0;have lZ:=I b1;have l6:=I b2;have mg:=I b3;have EF:=I d0;have EG:=I d1;have EH:=I d2;have EI:=I d3;have rP:=I x0;have rQ:=I x1;have rR:=I x2;have rT:=I x3;clear a0 a1 a2 a3 b0 b1 b2 b3 d0 d1 d2 d3 x0 x1 x2 x3;obtain⟨iA,mh,mo,mq⟩:=aT (ay.low aL) iD iE iF iG;obtain⟨tQ,tT,tV,tX⟩:=aT (ay.low aL) lY lZ l6 mg;obtain⟨PY,PZ,P5,P6⟩:=aT (ay.low aL) EF EG EH EI;obtain⟨oZ,wm,wu,wz⟩:=aT (ay.low aL) rP rQ rR rT;have oD:g<w.heap.size:=bL iA;have adP:gx<w.heap.size:=bL oZ;go_enter func63,ntmps63;go_wp2_with fail
  refine Calls.mono (JZ x _ _ HS) ?_;rintro _ w1 ⟨rfl,kH⟩;have aK:=I (show ag w w1 from qV kH);have bP:af w1 (w.heap.size) 31 #[V (9:Int),tx,cl,.slice (A_ g o) 3 cap]:=Touch.QN kH Zp PR;have yT:af w1 (w.heap.size+1) 31 #[V a.QI,.string (⟨a.QG.toArray⟩:Y_),V a.ah,.slice (A_ gx ox) 1 I5]:=Touch.QN kH Zp PR;obtain⟨dN,dO,dP,dQ,_⟩:=af.QM bP;obtain⟨zy,zz,zA,zB,_⟩:=af.QM yT;obtain⟨gm,kN,kP,kQ⟩:=xW aK iA mh mo mq;obtain⟨rU,rV,rW,rX⟩:=xW aK tQ tT tV tX;obtain⟨Tu,Tv,Tw,Tx⟩:=xW aK PY PZ P5 P6;obtain⟨pU,yj,yl,ym⟩:=xW aK oZ wm wu wz;clear iA mh mo mq tQ tT tV tX PY PZ P5 P6 oZ wm wu wz;have lX:g<w1.heap.size:=bL gm;have abb:gx<w1.heap.size:=bL pU;have bZ:=I (ay.QH aL aK);clear kH;go_wp2_with fail
  refine Calls.mono ((FO) _ _ _ a_ fP.left) ?_;rintro _ w2 ⟨rfl,dH⟩;have dM:=I (ay.add a_ dH);have kT:=I (au.bG (show ag w _ from(kV aK)) dH);have mY:=I afB;have fF:af w2 (w.heap.size) 31 #[V (9:Int),tx,cl,.slice (A_ g o) 3 cap]:=au.bk dH Zp aL Zo;have yU:af w2 (w.heap.size+1) 31 #[V a.QI,.string (⟨a.QG.toArray⟩:Y_),V a.ah,.slice (A_ gx ox) 1 I5]:=au.bk dH Zp aL Zo;clear dN dO dP dQ bP zy zz zA zB yT;obtain⟨ig,iq,iw,iy,_⟩:=af.QM fF;obtain⟨zC,zD,zF,zG,_⟩:=af.QM yU;clear gm kN kP kQ rU rV rW rX Tu Tv Tw Tx pU yj yl ym;obtain⟨gV,nu,ny,nA⟩:=aT (ay.low dM) iD iE iF iG;obtain⟨uu,uw,uy,uz⟩:=aT (ay.low dM) lY lZ l6 mg;obtain⟨Ty,Tz,TA,TB⟩:=aT (ay.low dM) EF EG EH EI;obtain⟨I6,Tp,Tq,Tt⟩:=aT (ay.low dM) rP rQ rR rT;have q8:g<w2.heap.size:=bL gV;have abd:gx<w2.heap.size:=bL I6;clear dH;go_wp2_with fail
  refine Calls.mono ((lu W0 p B [95]) _ _ _ K_ mY.left) ?_;rintro _ w3 ⟨rfl,fo⟩;have gI:=I aq9;have oW:=I b_;have zM:=I (Fits.ni mY);have jB:af w3 (w.heap.size) 31 #[V (9:Int),tx,cl,.slice (A_ g o) 3 cap]:=au.bk fo Zp aL Zo;have uM:af w3 (w.heap.size+1) 31 #[V a.QI,.string (⟨a.QG.toArray⟩:Y_),V a.ah,.slice (A_ gx ox) 1 I5]:=au.bk fo Zp aL Zo;clear ig iq iw iy fF zC zD zF zG yU;obtain⟨mF,mG,mH,mI,_⟩:=af.QM jB;obtain⟨xy,xA,xB,xC,_⟩:=af.QM uM;clear gV nu ny nA uu uw uy uz Ty Tz TA TB I6 Tp Tq Tt;obtain⟨mD,vI,vJ,vK⟩:=aT (ay.low gI) iD iE iF iG;obtain⟨yP,yQ,yR,yS⟩:=aT (ay.low gI) lY lZ l6 mg;obtain⟨TC,TD,TE,TF⟩:=aT (ay.low gI) EF EG EH EI;obtain⟨yh,BK,BM,BN⟩:=aT (ay.low gI) rP rQ rR rT;have vL:g<w3.heap.size:=bL mD;have abe:gx<w3.heap.size:=bL yh;clear fo;go_wp2_with fail
  refine Calls.mono ((zx) _ _ _ aqM zM.left) ?_;rintro _ w4 ⟨rfl,mQ⟩;have kU:=I (ay.jS aqM mQ);have Bh:=I aix;have Dt:=I (Fits.ni zM);have rq:af w4 (w.heap.size) 31 #[V (9:Int),tx,cl,.slice (A_ g o) 3 cap]:=au.bk mQ Zp aL Zo;have zN:af w4 (w.heap.size+1) 31 #[V a.QI,.string (⟨a.QG.toArray⟩:Y_),V a.ah,.slice (A_ gx ox) 1 I5]:=au.bk mQ Zp aL Zo;clear mF mG mH mI jB xy xA xB xC uM;obtain⟨vS,vT,vU,vV,_⟩:=af.QM rq;obtain⟨Bt,Bu,Bv,Bw,_⟩:=af.QM zN;clear mD vI vJ vK yP yQ yR yS TC TD TE TF yh BK BM BN;obtain⟨wQ,Ew,Ex,Ey⟩:=aT (ay.low kU) iD iE iF iG;obtain⟨Ez,EA,EB,EC⟩:=aT (ay.low kU) lY lZ l6 mg;obtain⟨TG,TH,TI,TJ⟩:=aT (ay.low kU) EF EG EH EI;obtain⟨zU,GM,GN,GQ⟩:=aT (ay.low kU) rP rQ rR rT;have FP:g<w4.heap.size:=bL wQ;have abf:gx<w4.heap.size:=bL zU;clear mQ;go_wp2_with fail
  refine Calls.mono ((lu W0 p B [94]) _ _ _ aqN Dt.left) ?_;rintro _ w5 ⟨rfl,qo⟩;have ru:=I (ay.jS aqN qo);have FQ:=I akN;have ahw:=I (Fits.ni Dt);have Bi:af w5 (w.heap.size) 31 #[V (9:Int),tx,cl,.slice (A_ g o) 3 cap]:=au.bk qo Zp aL Zo;have Jv:af w5 (w.heap.size+1) 31 #[V a.QI,.string (⟨a.QG.toArray⟩:Y_),V a.ah,.slice (A_ gx ox) 1 I5]:=au.bk qo Zp aL Zo;clear vS vT vU vV rq Bt Bu Bv Bw zN;obtain⟨Jr,Js,Jt,Ju,_⟩:=af.QM Bi;obtain⟨NC,ND,NF,NG,_⟩:=af.QM Jv;clear wQ Ew Ex Ey Ez EA EB EC TG TH TI TJ zU GM GN GQ;obtain⟨ED,Te,Tf,Tg⟩:=aT (ay.low ru) iD iE iF iG;obtain⟨Ti,Tj,Tk,Tm⟩:=aT (ay.low ru) lY lZ l6 mg;obtain⟨abg,abh,abj,abk⟩:=aT (ay.low ru) EF EG EH EI;obtain⟨zV,Eb,Ec,Ed⟩:=aT (ay.low ru) rP rQ rR rT;have K4:g<w5.heap.size:=bL ED;have ahC:gx<w5.heap.size:=bL zV;clear qo;go_wp2_with fail
  refine Calls.mono ((adR) _ _ _ (ay.QH ru aF) ahw) ?_;rintro _ w6 ⟨rfl,CK⟩;have Du:=I (ay.jS (ay.QH ru aF) CK);have YC:=I (au.app FQ (au.bG (show ag w5 _ from aF) CK));have EU:af w6 (w.heap.size) 31 #[V (9:Int),tx,cl,.slice (A_ g o) 3 cap]:=au.bk CK Zp aL Zo;have P7:af w6 (w.heap.size+1) 31 #[V a.QI,.string (⟨a.QG.toArray⟩:Y_),V a.ah,.slice (A_ gx ox) 1 I5]:=au.bk CK Zp aL Zo;clear Jr Js Jt Ju Bi NC ND NF NG Jv;obtain⟨MZ,M0,M3,M4,_⟩:=af.QM EU;obtain⟨VS,VT,VU,VV,_⟩:=af.QM P7;clear ED Te Tf Tg Ti Tj Tk Tm abg abh abj abk zV Eb Ec Ed;obtain⟨agX,aka,akb,akc⟩:=aT (ay.low Du) iD iE iF iG;obtain⟨akd,ake,akf,akg⟩:=aT (ay.low Du) lY lZ l6 mg;obtain⟨akh,aki,akj,akk⟩:=aT (ay.low Du) EF EG EH EI;obtain⟨GR,QU,QV,QW⟩:=aT (ay.low Du) rP rQ rR rT;have adS:g<w6.heap.size:=bL agX;have ahD:gx<w6.heap.size:=bL GR;clear CK;go_wp2_with fail
  first|go_end0|refine bodyPost_ret (v:=.tuple #[]) Un rfl ?_
  exact⟨rfl,au.cast YC WJ⟩
theorem PE(W0:W_)(p B:Nat)(tx cl:Value)(a b d:Nd)(hx:a.Qx.length≠1)(ha:Ct W0 p B a)(hb:qZ W0 p B b)(hd:qZ W0 p B d)(sl:Value)(ab:aD W0 [a,b,d] sl):lC 63 #[pp p,.agg #[V 9,tx,cl,sl]] W0 p B (gG a++([Tr.aI 95]++(dD b++([Tr.aI 94]++dD d)))):=by
 intro w QT D9 hp hf;rw[MF a hx]at hf|-;obtain⟨g,o,cap,sa,sb,sd,rfl,a0,a1,a2,a3,ac,b0,b1,b2,b3,ad,d0,d1,d2,d3,aa⟩:=ab.three;have adQ:=I (ha sa ac);have zx:=I (hb sb ad);have adR:=I (hd sd aa);obtain⟨Aa,CJ,rfl⟩:=ac.slice;have f1:((a.Qx.length:Int)==1)=false:=arz
 have f2:¬(a.Qx.length:Int)=1:=Zo
 have aL:=I hp;have fP:=I hf;clear hp hf ha hb hd ab ac ad aa hx;have iD:=I a0;have iE:=I a1;have iF:=I a2;have iG:=I a3;have lY:=I b0;have lZ:=I b1;have l6:=I b2;have mg:=I b3;have EF:=I d0;have EG:=I d1;have EH:=I d2;have EI:=I d3;clear a0 a1 a2 a3 b0 b1 b2 b3 d0 d1 d2 d3;obtain⟨iA,mh,mo,mq⟩:=aT (ay.low aL) iD iE iF iG;obtain⟨tQ,tT,tV,tX⟩:=aT (ay.low aL) lY lZ l6 mg;obtain⟨PY,PZ,P5,P6⟩:=aT (ay.low aL) EF EG EH EI;have oD:g<w.heap.size:=bL iA;go_enter func63,ntmps63;go_wp2_with fail
 refine Calls.mono ((adQ) _ _ _ JJ fP.left) ?_;rintro _ w1 ⟨rfl,bO⟩;have bZ:=I aeG;have jm:=I Jd;have jN:=I afB;have bP:af w1 (w.heap.size) 31 #[V (9:Int),tx,cl,.slice (A_ g o) 3 cap]:=au.bk bO Zp aL Zo;have yT:af w1 (w.heap.size+1) 31 #[V a.QI,.string (⟨a.QG.toArray⟩:Y_),V a.ah,.slice Aa a.Qx.length CJ]:=au.bk bO Zp aL Zo;obtain⟨dN,dO,dP,dQ,_⟩:=af.QM bP;obtain⟨zy,zz,zA,zB,_⟩:=af.QM yT;clear iA mh mo mq tQ tT tV tX PY PZ P5 P6;obtain⟨gm,kN,kP,kQ⟩:=aT (ay.low bZ) iD iE iF iG;obtain⟨rU,rV,rW,rX⟩:=aT (ay.low bZ) lY lZ l6 mg;obtain⟨Tu,Tv,Tw,Tx⟩:=aT (ay.low bZ) EF EG EH EI;have lX:g<w1.heap.size:=bL gm;clear bO;go_wp2_with fail
 refine Calls.mono ((lu W0 p B [95]) _ _ _ a_ jN.left) ?_;rintro _ w2 ⟨rfl,dH⟩;have dM:=I aqv;have kT:=I FU;have mY:=I asj;have fF:af w2 (w.heap.size) 31 #[V (9:Int),tx,cl,.slice (A_ g o) 3 cap]:=au.bk dH Zp aL Zo;have yU:af w2 (w.heap.size+1) 31 #[V a.QI,.string (⟨a.QG.toArray⟩:Y_),V a.ah,.slice Aa a.Qx.length CJ]:=au.bk dH Zp aL Zo;clear dN dO dP dQ bP zy zz zA zB yT;obtain⟨ig,iq,iw,iy,_⟩:=af.QM fF;obtain⟨zC,zD,zF,zG,_⟩:=af.QM yU;clear gm kN kP kQ rU rV rW rX Tu Tv Tw Tx;obtain⟨gV,nu,ny,nA⟩:=aT (ay.low dM) iD iE iF iG;obtain⟨uu,uw,uy,uz⟩:=aT (ay.low dM) lY lZ l6 mg;obtain⟨Ty,Tz,TA,TB⟩:=aT (ay.low dM) EF EG EH EI;have q8:g<w2.heap.size:=bL gV;clear dH;go_wp2_with fail
 refine Calls.mono ((zx) _ _ _ K_ mY.left) ?_;rintro _ w3 ⟨rfl,fo⟩;have gI:=I aq9;have oW:=I b_;have zM:=I (Fits.ni mY);have jB:af w3 (w.heap.size) 31 #[V (9:Int),tx,cl,.slice (A_ g o) 3 cap]:=au.bk fo Zp aL Zo;have uM:af w3 (w.heap.size+1) 31 #[V a.QI,.string (⟨a.QG.toArray⟩:Y_),V a.ah,.slice Aa a.Qx.length CJ]:=au.bk fo Zp aL Zo;clear ig iq iw iy fF zC zD zF zG yU;obtain⟨mF,mG,mH,mI,_⟩:=af.QM jB;obtain⟨xy,xA,xB,xC,_⟩:=af.QM uM;clear gV nu ny nA uu uw uy uz Ty Tz TA TB;obtain⟨mD,vI,vJ,vK⟩:=aT (ay.low gI) iD iE iF iG;obtain⟨yP,yQ,yR,yS⟩:=aT (ay.low gI) lY lZ l6 mg;obtain⟨TC,TD,TE,TF⟩:=aT (ay.low gI) EF EG EH EI;have vL:g<w3.heap.size:=bL mD;clear fo;go_wp2_with fail
 refine Calls.mono ((lu W0 p B [94]) _ _ _ aqM zM.left) ?_;rintro _ w4 ⟨rfl,mQ⟩;have kU:=I (ay.jS aqM mQ);have Bh:=I aix;have Dt:=I (Fits.ni zM);have rq:af w4 (w.heap.size) 31 #[V (9:Int),tx,cl,.slice (A_ g o) 3 cap]:=au.bk mQ Zp aL Zo;have zN:af w4 (w.heap.size+1) 31 #[V a.QI,.string (⟨a.QG.toArray⟩:Y_),V a.ah,.slice Aa a.Qx.length CJ]:=au.bk mQ Zp aL Zo;clear mF mG mH mI jB xy xA xB xC uM;obtain⟨vS,vT,vU,vV,_⟩:=af.QM rq;obtain⟨Bt,Bu,Bv,Bw,_⟩:=af.QM zN;clear mD vI vJ vK yP yQ yR yS TC TD TE TF;obtain⟨wQ,Ew,Ex,Ey⟩:=aT (ay.low kU) iD iE iF iG;obtain⟨Ez,EA,EB,EC⟩:=aT (ay.low kU) lY lZ l6 mg;obtain⟨TG,TH,TI,TJ⟩:=aT (ay.low kU) EF EG EH EI;have FP:g<w4.heap.size:=bL wQ;clear mQ;go_wp2_with fail
 refine Calls.mono ((adR) _ _ _ aqN Dt) ?_;rintro _ w5 ⟨rfl,qo⟩;have ru:=I (ay.jS aqN qo);have FQ:=I akN;have Bi:af w5 (w.heap.size) 31 #[V (9:Int),tx,cl,.slice (A_ g o) 3 cap]:=au.bk qo Zp aL Zo;have Jv:af w5 (w.heap.size+1) 31 #[V a.QI,.string (⟨a.QG.toArray⟩:Y_),V a.ah,.slice Aa a.Qx.length CJ]:=au.bk qo Zp aL Zo;clear vS vT vU vV rq Bt Bu Bv Bw zN;obtain⟨Jr,Js,Jt,Ju,_⟩:=af.QM Bi;obtain⟨NC,ND,NF,NG,_⟩:=af.QM Jv;clear wQ Ew Ex Ey Ez EA EB EC TG TH TI TJ;obtain⟨ED,Te,Tf,Tg⟩:=aT (ay.low ru) iD iE iF iG;obtain⟨Ti,Tj,Tk,Tm⟩:=aT (ay.low ru) lY lZ l6 mg;obtain⟨abg,abh,abj,abk⟩:=aT (ay.low ru) EF EG EH EI;have K4:g<w5.heap.size:=bL ED;clear qo;go_wp2_with fail
 first|go_end0|refine bodyPost_ret (v:=.tuple #[]) Un rfl ?_
 exact⟨rfl,au.cast FQ WJ⟩
theorem Vb(W0:W_)(p B:Nat)(kd cl:Value)(a:Nd)(ha:xm W0 p B a)(sl:Value)(ab:aD W0 [a] sl):lC 65 #[pp p,.agg #[kd,.string ⟨#[40,41]⟩,cl,sl]] W0 p B ([Tr.aI 40]++(bC a.Qx++[Tr.aI 41])):=by
 intro w QT D9 hp hf;obtain⟨g,o,cap,sa,rfl,a0,a1,a2,a3,ac⟩:=ab.one;have FO:=I (ha sa ac);have aL:=I hp;have fP:=I hf;clear hp hf ha ab ac;have e1:(⟨#[40,41]⟩:Y_).extract 0 1=⟨#[40]⟩:=Pf
 have e2:(⟨#[40,41]⟩:Y_).extract 1 2=⟨#[41]⟩:=Pf
 have e3:(⟨#[40,41]⟩:Y_).toList=[40,41]:=by rw[ByteArray.toList_eq]
 have e4:(⟨#[40,41]⟩:Y_).size=2:=rfl;have iD:=I a0;have iE:=I a1;have iF:=I a2;have iG:=I a3;clear a0 a1 a2 a3;obtain⟨iA,mh,mo,mq⟩:=aT (ay.low aL) iD iE iF iG;have oD:g<w.heap.size:=bL iA;go_enter func65,ntmps65;go_wp2_with fail
 refine Calls.mono ((lu W0 p B [40]) _ _ _ JJ fP.left) ?_;rintro _ w1 ⟨rfl,bO⟩;have bZ:=I aeG;have jm:=I Jd;have jN:=I afB;have bP:af w1 (w.heap.size) 31 #[kd,.string (⟨#[40,41]⟩:Y_),cl,.slice (A_ g o) 1 cap]:=au.bk bO Zp aL Zo;obtain⟨dN,dO,dP,dQ,_⟩:=af.QM bP;clear iA mh mo mq;obtain⟨gm,kN,kP,kQ⟩:=aT (ay.low bZ) iD iE iF iG;have lX:g<w1.heap.size:=bL gm;clear bO;go_wp2_with fail
 refine Calls.mono ((FO) _ _ _ a_ jN.left) ?_;rintro _ w2 ⟨rfl,dH⟩;have dM:=I aqv;have kT:=I FU;have mY:=I asj;have fF:af w2 (w.heap.size) 31 #[kd,.string (⟨#[40,41]⟩:Y_),cl,.slice (A_ g o) 1 cap]:=au.bk dH Zp aL Zo;clear dN dO dP dQ bP;obtain⟨ig,iq,iw,iy,_⟩:=af.QM fF;clear gm kN kP kQ;obtain⟨gV,nu,ny,nA⟩:=aT (ay.low dM) iD iE iF iG;have q8:g<w2.heap.size:=bL gV;clear dH;go_wp2_with fail
 refine Calls.mono ((lu W0 p B [41]) _ _ _ K_ mY) ?_;rintro _ w3 ⟨rfl,fo⟩;have gI:=I aq9;have oW:=I b_;have jB:af w3 (w.heap.size) 31 #[kd,.string (⟨#[40,41]⟩:Y_),cl,.slice (A_ g o) 1 cap]:=au.bk fo Zp aL Zo;clear ig iq iw iy fF;obtain⟨mF,mG,mH,mI,_⟩:=af.QM jB;clear gV nu ny nA;obtain⟨mD,vI,vJ,vK⟩:=aT (ay.low gI) iD iE iF iG;have vL:g<w3.heap.size:=bL mD;clear fo;go_wp2_with fail
 first|go_end0|refine bodyPost_ret (v:=.tuple #[]) Un rfl ?_
 exact arI
theorem TK(W0:W_)(p B:Nat)(kd cl:Value)(a:Nd)(ha:xm W0 p B a)(sl:Value)(ab:aD W0 [a] sl):lC 65 #[pp p,.agg #[kd,.string ⟨#[91,93]⟩,cl,sl]] W0 p B ([Tr.aI 91]++(bC a.Qx++[Tr.aI 93])):=by
 intro w QT D9 hp hf;obtain⟨g,o,cap,sa,rfl,a0,a1,a2,a3,ac⟩:=ab.one;have FO:=I (ha sa ac);have aL:=I hp;have fP:=I hf;clear hp hf ha ab ac;have e1:(⟨#[91,93]⟩:Y_).extract 0 1=⟨#[91]⟩:=Pf
 have e2:(⟨#[91,93]⟩:Y_).extract 1 2=⟨#[93]⟩:=Pf
 have e3:(⟨#[91,93]⟩:Y_).toList=[91,93]:=by rw[ByteArray.toList_eq]
 have e4:(⟨#[91,93]⟩:Y_).size=2:=rfl;have iD:=I a0;have iE:=I a1;have iF:=I a2;have iG:=I a3;clear a0 a1 a2 a3;obtain⟨iA,mh,mo,mq⟩:=aT (ay.low aL) iD iE iF iG;have oD:g<w.heap.size:=bL iA;go_enter func65,ntmps65;go_wp2_with fail
 refine Calls.mono ((lu W0 p B [91]) _ _ _ JJ fP.left) ?_;rintro _ w1 ⟨rfl,bO⟩;have bZ:=I aeG;have jm:=I Jd;have jN:=I afB;have bP:af w1 (w.heap.size) 31 #[kd,.string (⟨#[91,93]⟩:Y_),cl,.slice (A_ g o) 1 cap]:=au.bk bO Zp aL Zo;obtain⟨dN,dO,dP,dQ,_⟩:=af.QM bP;clear iA mh mo mq;obtain⟨gm,kN,kP,kQ⟩:=aT (ay.low bZ) iD iE iF iG;have lX:g<w1.heap.size:=bL gm;clear bO;go_wp2_with fail
 refine Calls.mono ((FO) _ _ _ a_ jN.left) ?_;rintro _ w2 ⟨rfl,dH⟩;have dM:=I aqv;have kT:=I FU;have mY:=I asj;have fF:af w2 (w.heap.size) 31 #[kd,.string (⟨#[91,93]⟩:Y_),cl,.slice (A_ g o) 1 cap]:=au.bk dH Zp aL Zo;clear dN dO dP dQ bP;obtain⟨ig,iq,iw,iy,_⟩:=af.QM fF;clear gm kN kP kQ;obtain⟨gV,nu,ny,nA⟩:=aT (ay.low dM) iD iE iF iG;have q8:g<w2.heap.size:=bL gV;clear dH;go_wp2_with fail
 refine Calls.mono ((lu W0 p B [93]) _ _ _ K_ mY) ?_;rintro _ w3 ⟨rfl,fo⟩;have gI:=I aq9;have oW:=I b_;have jB:af w3 (w.heap.size) 31 #[kd,.string (⟨#[91,93]⟩:Y_),cl,.slice (A_ g o) 1 cap]:=au.bk fo Zp aL Zo;clear ig iq iw iy fF;obtain⟨mF,mG,mH,mI,_⟩:=af.QM jB;clear gV nu ny nA;obtain⟨mD,vI,vJ,vK⟩:=aT (ay.low gI) iD iE iF iG;have vL:g<w3.heap.size:=bL mD;clear fo;go_wp2_with fail
 first|go_end0|refine bodyPost_ret (v:=.tuple #[]) Un rfl ?_
 exact arI
theorem Vd(W0:W_)(p B:Nat)(kd cl:Value)(t:List UInt8)(h1:t≠[40,41])(h2:t≠[91,93])(a:Nd)(ha:qZ W0 p B a)(sl:Value)(ab:aD W0 [a] sl):lC 65 #[pp p,.agg #[kd,S_ t,cl,sl]] W0 p B ([⟨5,t⟩]++dD a):=by
 intro w QT D9 hp hf;obtain⟨g,o,cap,sa,rfl,a0,a1,a2,a3,ac⟩:=ab.one;have Td:=I (ha sa ac);have aL:=I hp;have fP:=I hf;clear hp hf ha ab ac;have t1:(ByteArray.toList ⟨t.toArray⟩==[40,41])=false:=by rw[ByteArray.toList_eq];simpa using h1
 have t2:(ByteArray.toList ⟨t.toArray⟩==[91,93])=false:=by rw[ByteArray.toList_eq];simpa using h2
 have s1:((⟨t.toArray⟩:Y_)==(⟨#[40,41]⟩:Y_))=false:=by rw[bS];simpa using h1
 have s2:((⟨t.toArray⟩:Y_)==(⟨#[91,93]⟩:Y_))=false:=by rw[bS];simpa using h2
 have u1:(t==[40,41])=false:=asb
 have u2:(t==[91,93])=false:=by simpa using h2
 have iD:=I a0;have iE:=I a1;have iF:=I a2;have iG:=I a3;clear a0 a1 a2 a3;obtain⟨iA,mh,mo,mq⟩:=aT (ay.low aL) iD iE iF iG;have oD:g<w.heap.size:=bL iA;go_enter func65,ntmps65;go_wp2_with fail
 refine Calls.mono ((Cs W0 p B 5 t) _ _ _ JJ fP.left) ?_;rintro _ w1 ⟨rfl,bO⟩;have bZ:=I aeG;have jm:=I Jd;have jN:=I afB;have bP:af w1 (w.heap.size) 31 #[kd,.string (⟨t.toArray⟩:Y_),cl,.slice (A_ g o) 1 cap]:=au.bk bO Zp aL Zo;obtain⟨dN,dO,dP,dQ,_⟩:=af.QM bP;clear iA mh mo mq;obtain⟨gm,kN,kP,kQ⟩:=aT (ay.low bZ) iD iE iF iG;have lX:g<w1.heap.size:=bL gm;clear bO;go_wp2_with fail
 refine Calls.mono ((Td) _ _ _ a_ jN) ?_;rintro _ w2 ⟨rfl,dH⟩;have dM:=I aqv;have kT:=I FU;have fF:af w2 (w.heap.size) 31 #[kd,.string (⟨t.toArray⟩:Y_),cl,.slice (A_ g o) 1 cap]:=au.bk dH Zp aL Zo;clear dN dO dP dQ bP;obtain⟨ig,iq,iw,iy,_⟩:=af.QM fF;clear gm kN kP kQ;obtain⟨gV,nu,ny,nA⟩:=aT (ay.low dM) iD iE iF iG;have q8:g<w2.heap.size:=bL gV;clear dH;go_wp2_with fail
 first|go_end0|refine bodyPost_ret (v:=.tuple #[]) Un rfl ?_
 exact⟨rfl,au.cast kT WJ⟩
theorem Fits.mid{a b c:List Lx.Tok}{QT:List Lx.aB}{D9:List UInt8}(h:Fits (a++(b++c)) QT D9):Fits b (YT a QT D9).1 (YT a QT D9).2:=h.right.left
def aee(W0:W_)(p B:Nat)(x:Nd):Prop:=
 ∃fid:Nat,(∀w:W_,(Instr.index 99 (.agg sV) (V x.QI)).run Tryz.prog w=.ok (.func (.func fid) #[] #[]) w)/\
  (∀(a:Array Value) (w:W_),(callFunc fid a).run Tryz.prog w=.ok (.enter fid a) w)/\
  ∀sx,aD W0 x.Qx sx->lC fid #[pp p,nv x sx] W0 p B (bT x)
theorem abl(l:List Nd)(j:Nat)(h:j<l.length):bC (l.take (j+1))=bC (l.take j)++bT l[j]:=by
 induction l generalizing j with
 |nil=>simp at h
 |cons x l ih=>
  cases j with
  |zero=>simp[Tr.o5,Tr.qU]
  |succ j=>
   simp only[avF,Tr.o5,avC];rw[ih j (by simpa using h),au6]
theorem YD(l:List Nd)(j:Nat)(h:j<l.length):∃r,bC l=bC (l.take j)++(bT l[j]++r):=by
 induction l generalizing j with
 |nil=>simp at h
 |cons x l ih=>
  cases j with
  |zero=>exact⟨bC l,by simp[Tr.o5,Tr.qU]⟩
  |succ j=>
   obtain⟨r,hr⟩:=ih j aiu;refine⟨r,?_⟩;simp only[avF,Tr.o5,avC];rw[hr,au6]
theorem agY(W0:W_)(p B:Nat)(n:Nd)(hi:∀x∈n.Qx,aee W0 p B x):xm W0 p B n:=by
 intro sl ab w QT D9 hp hf;obtain⟨A,cap,rfl⟩:=ab.slice;have hlen:=ab.len;unfold maxLen at hlen;have HI:=I hi;have yD:=I ab;have aL:=I hp;have fP:=I hf;have hfw:ag w (w.alloc (.cells #[V n.QI,S_ n.QG,V n.ah,.slice A n.Qx.length cap] 31)):=(M _ _).alloc _;have Lu:=I hfw;clear hi ab hp hf hfw;go_enter func16,ntmps16;go_wp2
 go_loopw [9] (λi wr=>∃j:Nat,i=V j/\j<=n.Qx.length/\Hd (ay W0 p B wr (YT (bC (n.Qx.take j)) QT D9).1 (YT (bC (n.Qx.take j)) QT D9).2)/\Hd (au w wr p B QT D9 (bC (n.Qx.take j)))) (λi _=>n.Qx.length-(intOf i).toNat)
 case atStart=>exact⟨0,rfl,Nat.zero_le _,by rw[avB,Tr.qU];exact aL.QH Lu,by
   rw[avB,Tr.qU];obtain⟨vt,vb,cs,aj⟩:=aL.pr;exact⟨vt,vb,cs,aj.QH Lu,PS.QH Lu⟩⟩
 case round=>
  obtain⟨j,rfl,hj,mR,K5⟩:=hrel
  by_cases c1:j<n.Qx.length
  .have d1:decide ((j:Int)<(n.Qx.length:Int))=true:=dT Zo
   have jo:decide (j<n.Qx.length)=true:=dT Zo;have aE:(j:Int)<(n.Qx.length:Int):=Zo
   obtain⟨g,o,sx,rfl,hg,m0,m1,m2,m3,su⟩:=yD.get j c1;obtain⟨Ax,I7,rfl⟩:=su.slice;obtain⟨fid,an,aq,ae⟩:=HI.out n.Qx[j] f_;obtain⟨r,hr⟩:=YD n.Qx j c1;have nK:=I (abl n.Qx j c1);have FIT:=I (Fits.mid (show Fits (bC (n.Qx.take j)++(bT n.Qx[j]++r)) QT D9 by rw[<-hr];exact fP));have EM:=I (ae _ su);have a0:=Low.cell (ay.low mR) m0;have a1:=Low.cell (ay.low mR) m1;have a2:=Low.cell (ay.low mR) m2;have a3:=Low.cell (ay.low mR) m3;have aa:g<wr.heap.size:=bL a0;clear m0 m1 m2 m3 su ae hr hg HI yD;generalize n.Qx[j]=x at*;go_wp2_with fail
   refine bK (λW=>ag wr W/\af W wr.heap.size 31 #[V x.QI,S_ x.QG,V x.ah,.slice Ax x.Qx.length I7]) ⟨(M _ _).alloc _,af.new _ _ _⟩ ?_;rintro W4 ⟨jf,hb4⟩;obtain⟨q0,q1,q2,q3,_,_,_,_,hg4⟩:=af.QM hb4;have g0:=cR q0;have g1:=cR q1;have g2:=cR q2;have g3:=cR q3;have eZ:=I jf;have CV:=I (lJ (P:=Tryz.prog) W4 (λw _=>Q8 w));clear jf hb4 a0 a1 a2 a3;refine oP [([0,1,2,3,4,5],6)] [] Pg Pg ?_;simp only[vR,pick,List.getElem?_cons_zero,List.getElem?_cons_succ]
   repeat(quiet_step (with_reducible exact CV.out _ _))
   refine wpQuiet_nil ?_;rintro W5 ⟨⟨_,_⟩,vz⟩;have jO:ag W4 W5:=ag7
   have eY:=I jO;clear vz jO q0 q1 q2 q3 g0 g1 g2 g3;go_wp2_with fail
   refine(EM _ _ _ (mR.QH (Touch.trans eZ eY)) FIT).mono ?_;rintro _ w6 ⟨rfl,h6⟩;have ajI:=I (ay.jS (mR.QH (Touch.trans eZ eY)) h6);have ajJ:=I (au.app K5 (au.bG (Touch.trans eZ eY) h6));clear h6;go_wp2_with fail
   refine wpQuiet_nil ?_;rintro W7 ⟨⟨_,_⟩,Ir⟩;have gX:ag w6 W7:=asD
   have gW:=I gX;clear Ir gX;go_wp2
   go_roundw
   case rel=>exact⟨j+1,by go_num,c1,by rw[nK.out];exact ajI.QH gW,by rw[nK.out];exact ajJ.Am gW⟩
   case measure=>simp[intOf];omega
  .have d1:decide ((j:Int)<(n.Qx.length:Int))=false:=dF Zo
   have jo:decide (j<n.Qx.length)=false:=dF Zo;obtain rfl:j=n.Qx.length:=Zo
   have HA:=I (show au w wr p B QT D9 (bC n.Qx) by
    have:=K5.out
    rwa [List.take_length]at this)
   go_wp2_with fail
   go_end0
   exact⟨rfl,HA⟩
end
section
open Tr (Nd View fE bT bC dD gG bF count az ku)
def cost:List Lx.Tok->Nat
 |[]=>0
 |t::l=>(Lx.spell t).length+1+cost l
theorem R9:∀(l:List Lx.Tok) (QT:List Lx.aB) (D9:List UInt8),(YT l QT D9).1.length=QT.length+l.length/\(YT l QT D9).2.length<=D9.length+cost l
 |[],_,_=>⟨rfl,Nat.le_refl _⟩
 |t::l,QT,D9=>by
  have h:=R9 l (added QT D9 t) (D9++NH QT t++Lx.spell t);have hg:(NH QT t).length<=1:=by unfold NH;split<;>simp
  simp only[YT,added,auZ,ava,au0,cost]at h|-;omega
theorem ae9(t:Lx.Tok)(h:Lx.kR t):t.QG.length<=200:=by
 rcases h with⟨_,c,h,_⟩|⟨_,h,_⟩|⟨_,h,_⟩|⟨_,h,_⟩|⟨_,a,b,h,_⟩|⟨_,c,h,_⟩|⟨_,c,h,_⟩|⟨_,h⟩
 .rw[h];simp
 .omega
 .exact h
 .omega
 .rw[h];simp
 .rw[h];simp
 .rw[h];simp
 .rw[h];simp
theorem Nk:∀l:List Lx.Tok,ku l->cost l<=407*l.length
 |[],_=>Nat.le_refl _
 |t::l,h=>by
  have h1:=Nk l λx hx=>h x aur
  have h2:=ae9 t (h t P9);have h3:=Dm t.QI t.QG;have h4:(Lx.spell t).length<=2*t.QG.length+6:=h3;simp only[cost,au0];omega
theorem zq(ks:List Nd)(h:∀x∈ks,(bT x).length<=3*count x):(bC ks).length<=3*az ks:=by
 induction ks with
 |nil=>rw[Tr.qU];simp
 |cons x ks ih=>
  rw[Tr.o5,auZ,az];have h1:=h x P9;have h2:=ih λy hy=>h y atw
  omega
theorem tJ(a:Nd)(h:∀x∈a.Qx,(bT x).length<=3*count x):(dD a).length<=3*count a-1:=by
 have hc:=Tr.aN a;have hr:=zq a.Qx h;rw[Tr.y5];split
 .rename_i x hx
  rw[hx]at h hc hr;have h1:=h x P9;simp only[az]at hc;split
  .omega
  .exact asE
 .exact aop
theorem Iy(a:Nd)(h:∀x∈a.Qx,(bT x).length<=3*count x):(gG a).length<=3*count a-1:=by
 have hc:=Tr.aN a;have hr:=zq a.Qx h;rw[Tr.wU];split
 .rename_i x hx
  rw[hx]at h hc hr;have h1:=h x P9;simp only[az]at hc;split
  .exact asE
  .omega
 .exact aop
theorem Mv(c:Int):∀(ks:List Nd) (i:Nat),(∀k∈ks,∀x∈k.Qx,(bT x).length<=3*count x)->(bF c i ks).length<=3*az ks
 |[],_,_=>by rw[bF];simp
 |k::ks,i,h=>by
  have h1:=Mv c ks (i+1) λy hy=>h y atw
  have h2:=zq k.Qx (h k P9);have h3:=Tr.aN k;rw[bF,auZ,auZ,az]
  have h4:(if i=0 then []else if(i:Int)%c=0 then [(⟨8,[92,92]⟩:Lx.Tok)]else [Tr.aI 38]).length<=1:=by
   split
   .simp
   .split<;>simp
  omega
theorem ac3(m:Nat):∀n,count n<=m->View n->(bT n).length<=3*count n:=by
 induction m with
 |zero=>intro n h;have:=Tr.bX n;omega
 |succ m ih=>
  intro n hc v
  have hk:∀(k:Int) (t:Tr.QJ) (c:Int) (ks:List Nd),n=.mk k t c ks->∀a∈ks,fE a->∀x∈a.Qx,(bT x).length<=3*count x:=λk t c ks e a ha hr x hx=>by
   have h1:=Tr.cB hx;have h2:=Tr.aN a;have h3:=Tr.cB ha;rw[e,count]at hc;exact ih x Zo (hr.views x hx)
  cases v with
  |sym t h=>rw[Tr.rZ];simp[count];omega
  |num t h=>rw[Tr.r9];simp[count];omega
  |QG t h=>rw[Tr.qA];simp[count];omega
  |Gn a b ha hb=>
   have h1:=tJ a (hk _ _ _ _ rfl a P9 ha);have h2:=tJ b (hk _ _ _ _ rfl b P9 hb);have h3:=Tr.bX a;have h4:=Tr.bX b;rw[Tr.vO];exact aeP
  |root a b ha hb=>
   have h1:=zq a.Qx (hk _ _ _ _ rfl a P9 ha);have h2:=tJ b (hk _ _ _ _ rfl b P9 hb);have h3:=Tr.aN a;have h4:=Tr.bX b;rw[Tr.vP];simp only[au0,auZ,count,az];split
   .simp only[ava];omega
   .exact aop
  |sub a b ha hb=>
   have h1:=Iy a (hk _ _ _ _ rfl a P9 ha);have h2:=tJ b (hk _ _ _ _ rfl b P9 hb);have h3:=Tr.bX a;have h4:=Tr.bX b;rw[Tr.zQ];exact aeP
  |sup a b ha hb=>
   have h1:=Iy a (hk _ _ _ _ rfl a P9 ha);have h2:=tJ b (hk _ _ _ _ rfl b P9 hb);have h3:=Tr.bX a;have h4:=Tr.bX b;rw[Tr.zR];exact aeP
  |both a b d ha hb hd=>
   have h1:=Iy a (hk _ _ _ _ rfl a P9 ha);have h2:=tJ b (hk _ _ _ _ rfl b P9 hb);have h3:=tJ d (hk _ _ _ _ rfl d P9 hd);have h4:=Tr.bX a;have h5:=Tr.bX b;have h6:=Tr.bX d;rw[Tr.xR];exact aeP
  |zP t a h ha=>
   have h1:=tJ a (hk _ _ _ _ rfl a P9 ha);rw[Tr.rC];simp only[au0,count,az];omega
  |fence t a h ha=>
   have h1:=tJ a (hk _ _ _ _ rfl a P9 ha);have h2:=zq a.Qx (hk _ _ _ _ rfl a P9 ha);have h3:=Tr.aN a;rw[Tr.uB];split
   .simp only[au0,auZ,ava,count,az];omega
   .simp only[au0,count,az];omega
  |matrix c ks hc1 hn hm h=>
   have h1:=Mv c ks 0 λk hk'=>hk _ _ _ _ rfl k hk' (h k hk')
   rw[Tr.rD c ks (by rintro rfl;simp at hn)];simp only[au0,auZ,ava,count];omega
theorem Nl(a:Nd)(ha:fE a):(bC a.Qx).length<=3*count a:=by
 have:=zq a.Qx λx hx=>ac3 _ x PD (ha.views x hx)
 have:=Tr.aN a;omega
theorem ac4(a:Nd)(ha:fE a)(hc:count a<=1000):Fits (bC a.Qx) [] []:=by
 have h1:=Nl a ha;have h2:=Nk _ (Tr.zS a ha);have h3:=R9 (bC a.Qx) [] [];simp only[ava]at h3;unfold Fits;omega
end
end Go.Proofs.YtabjglnjjdcfmaaGreatDoor
