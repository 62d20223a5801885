/- Part 25 of 41 of a proof. No condition. -/
import Derived.Test.YtabjglnjjdcfmaaGreatDoorWe24
set_option maxRecDepth 100000
set_option maxHeartbeats 1000000
namespace Go.Proofs.YtabjglnjjdcfmaaGreatDoor
open _root_.Nat renaming zero_mul->avL,add_zero->avk,one_mul->awF
open _root_.Go.Proofs.Tryz
section
open Go.RowKit
open Tr (Nd dD gG bC bT)
theorem au.cast{w w':W_}{p B:Nat}{QT:List Lx.aB}{D9:List UInt8}{l l':List Lx.Tok}(h:au w w' p B QT D9 l)(e:l=l'):au w w' p B QT D9 l':=e▸h
theorem au.Am{a b c:W_}{p B:Nat}{QT:List Lx.aB}{D9:List UInt8}{l:List Lx.Tok}(k:au a b p B QT D9 l)(hf:ag b c):au a c p B QT D9 l:=by
 obtain⟨vt,vb,cs,hp,ht⟩:=k;exact⟨vt,vb,cs,hp.QH hf,PS.Am ht hf⟩
theorem au.QN{a b:W_}{p B g:Nat}{t:TypeId}{cs:Array Value}{QT:List Lx.aB}{D9:List UInt8}{l:List Lx.Tok}(k:au a b p B QT D9 l)(hb:af a g t cs)(hp:g≠p)(h1:t≠131)(h2:t≠5):af b g t cs:=by
 obtain⟨vt,vb,cs',_,ht⟩:=k;exact PS.QN ht hb hp h1 h2
theorem au.bk{a b:W_}{p B g:Nat}{cs:Array Value}{QT:List Lx.aB}{D9:List UInt8}{l:List Lx.Tok}(k:au a b p B QT D9 l)(hb:af a g 31 cs){W0 w0:W_}{t0:List Lx.aB}{x0:List UInt8}(h:ay W0 p B w0 t0 x0)(hg:w0.heap.size<=g):af b g 31 cs:=k.QN hb (by have:=h.lt;have:=h.hB;omega) Pf Pf
theorem aD.one{W:W_}{x:Nd}{v:Value}(h:aD W [x] v):∃g o cap sx,v=.slice (A_ g o) 1 cap/\
  W.cell? (B_ g o)=some (V x.QI)/\W.cell? (B_ g (o+1))=some (S_ x.QG)/\W.cell? (B_ g (o+2))=some (V x.ah)/\W.cell? (B_ g (o+3))=some sx/\aD W x.Qx sx:=by
 obtain⟨A,cap,rfl⟩:=h.slice;obtain⟨g,o,sx,rfl,_,h0,h1,h2,h3,hr⟩:=h.get 0 P9;simp only[avL,avk]at h0 h1 h2 h3;exact⟨g,o,cap,sx,rfl,h0,h1,h2,h3,hr⟩
theorem aD.two{W:W_}{x y:Nd}{v:Value}(h:aD W [x,y] v):∃g o cap sx sy,v=.slice (A_ g o) 2 cap/\
  W.cell? (B_ g o)=some (V x.QI)/\W.cell? (B_ g (o+1))=some (S_ x.QG)/\W.cell? (B_ g (o+2))=some (V x.ah)/\W.cell? (B_ g (o+3))=some sx/\aD W x.Qx sx/\
  W.cell? (B_ g (o+4))=some (V y.QI)/\W.cell? (B_ g (o+4+1))=some (S_ y.QG)/\W.cell? (B_ g (o+4+2))=some (V y.ah)/\W.cell? (B_ g (o+4+3))=some sy/\aD W y.Qx sy:=by
 obtain⟨A,cap,rfl⟩:=h.slice;obtain⟨g,o,sx,rfl,_,h0,h1,h2,h3,hr⟩:=h.get 0 P9;obtain⟨g',o',sy,hg,_,k0,k1,k2,k3,kr⟩:=h.get 1 P9;cases hg;simp only[avL,avk]at h0 h1 h2 h3;simp only[awF]at k0 k1 k2 k3;exact⟨g,o,cap,sx,sy,rfl,h0,h1,h2,h3,hr,k0,k1,k2,k3,kr⟩
theorem aD.three{W:W_}{x y z:Nd}{v:Value}(h:aD W [x,y,z] v):∃g o cap sx sy sz,v=.slice (A_ g o) 3 cap/\
  W.cell? (B_ g o)=some (V x.QI)/\W.cell? (B_ g (o+1))=some (S_ x.QG)/\W.cell? (B_ g (o+2))=some (V x.ah)/\W.cell? (B_ g (o+3))=some sx/\aD W x.Qx sx/\
  W.cell? (B_ g (o+4))=some (V y.QI)/\W.cell? (B_ g (o+4+1))=some (S_ y.QG)/\W.cell? (B_ g (o+4+2))=some (V y.ah)/\W.cell? (B_ g (o+4+3))=some sy/\aD W y.Qx sy/\
  W.cell? (B_ g (o+8))=some (V z.QI)/\W.cell? (B_ g (o+8+1))=some (S_ z.QG)/\W.cell? (B_ g (o+8+2))=some (V z.ah)/\W.cell? (B_ g (o+8+3))=some sz/\aD W z.Qx sz:=by
 obtain⟨A,cap,rfl⟩:=h.slice;obtain⟨g,o,sx,rfl,_,h0,h1,h2,h3,hr⟩:=h.get 0 P9;obtain⟨g',o',sy,hg,_,k0,k1,k2,k3,kr⟩:=h.get 1 P9;cases hg;obtain⟨g',o',sz,hg,_,l0,l1,l2,l3,lr⟩:=h.get 2 P9;cases hg;simp only[avL,avk]at h0 h1 h2 h3;simp only[awF]at k0 k1 k2 k3;simp only[Nat.reduceMul]at l0 l1 l2 l3;exact⟨g,o,cap,sx,sy,sz,rfl,h0,h1,h2,h3,hr,k0,k1,k2,k3,kr,l0,l1,l2,l3,lr⟩
theorem vH(W0:W_)(p B:Nat)(n:Nd)(hr:xm W0 p B n):Ct W0 p B n:=by
 intro sl ab w QT D9 hp hf;have aL:=I hp;have fP:=I hf;have SY:=I (hr sl ab);clear hp hf hr ab;go_enter func101,ntmps101;go_wp2_with fail
 refine Calls.mono ((lu W0 p B [123]) _ _ _ JJ fP.left) ?_;rintro _ w1 ⟨rfl,bO⟩;have bZ:=I aeG;have jm:=I Jd;have jN:=I afB;have bP:af w1 (w.heap.size) 31 #[V n.QI,.string (⟨n.QG.toArray⟩:Y_),V n.ah,sl]:=au.bk bO Zp aL Zo;obtain⟨dN,dO,dP,dQ,_⟩:=af.QM bP;clear bO;go_wp2_with fail
 refine Calls.mono ((SY) _ _ _ a_ jN.left) ?_;rintro _ w2 ⟨rfl,dH⟩;have dM:=I aqv;have kT:=I FU;have mY:=I asj;have fF:af w2 (w.heap.size) 31 #[V n.QI,.string (⟨n.QG.toArray⟩:Y_),V n.ah,sl]:=au.bk dH Zp aL Zo;clear dN dO dP dQ bP;obtain⟨ig,iq,iw,iy,_⟩:=af.QM fF;clear dH;go_wp2_with fail
 refine Calls.mono ((lu W0 p B [125]) _ _ _ K_ mY) ?_;rintro _ w3 ⟨rfl,fo⟩;have gI:=I aq9;have oW:=I b_;have jB:af w3 (w.heap.size) 31 #[V n.QI,.string (⟨n.QG.toArray⟩:Y_),V n.ah,sl]:=au.bk fo Zp aL Zo;clear ig iq iw iy fF;obtain⟨mF,mG,mH,mI,_⟩:=af.QM jB;clear fo;go_wp2_with fail
 first|go_end0|refine bodyPost_ret (v:=.tuple #[]) Un rfl ?_
 exact arI
theorem aa6(n x:Nd)(h:n.Qx=[x])(hx:Tr.leaf x=true):dD n=bC n.Qx:=by
 rw[Tr.y5,h];simp[hx,Tr.o5,Tr.qU]
theorem adN(n x:Nd)(h:n.Qx=[x])(hx:Tr.leaf x=false):dD n=[Tr.aI 123]++(bC n.Qx++[Tr.aI 125]):=by
 rw[Tr.y5,h];simp[hx]
theorem aa7(n:Nd)(h:n.Qx.length≠1):dD n=[Tr.aI 123]++(bC n.Qx++[Tr.aI 125]):=by
 rw[Tr.y5];split
 .rename_i x hx;rw[hx]at h;simp at h
 .rfl
theorem O0(n x:Nd)(h:n.Qx=[x])(hx:Tr.gY x=false):gG n=bC n.Qx:=by
 rw[Tr.wU,h];simp[hx,Tr.o5,Tr.qU]
theorem O1(n x:Nd)(h:n.Qx=[x])(hx:Tr.gY x=true):gG n=[Tr.aI 123]++(bC n.Qx++[Tr.aI 125]):=by
 rw[Tr.wU,h];simp[hx]
theorem MF(n:Nd)(h:n.Qx.length≠1):gG n=[Tr.aI 123]++(bC n.Qx++[Tr.aI 125]):=by
 rw[Tr.wU];split
 .rename_i x hx;rw[hx]at h;simp at h
 .rfl
theorem S9(W0:W_)(p B:Nat)(n x:Nd)(hx:n.Qx=[x])(hl:Tr.leaf x=true)(hr:xm W0 p B n):qZ W0 p B n:=by
 intro sl ab w QT D9 hp hf;rw[aa6 n x hx hl]at hf|-;have SY:=I (hr sl ab);rw[hx]at ab;obtain⟨g,o,cap,sx,rfl,x0,x1,x2,x3,al⟩:=ab.one;have aL:=I hp;have fP:=I hf;clear hp hf hr ab al;have rP:=I x0;have rQ:=I x1;have rR:=I x2;have rT:=I x3;clear x0 x1 x2 x3;simp only[Tr.leaf,Bool.or_eq_true,beq_iff_eq]at hl
 rcases hl with(hl|hl)|hl
 .have k2:x.QI=2:=hl
  clear hl;have d2:(x.QI==(2:Int))=true:=aqy
  have d3:(x.QI==(3:Int))=false:=aqy
  have d4:(x.QI==(4:Int))=false:=aqy
  clear k2;obtain⟨oZ,wm,wu,wz⟩:=aT (ay.low aL) rP rQ rR rT;have oD:g<w.heap.size:=bL oZ;go_enter func98,ntmps98;go_wp2_with fail
  refine Calls.mono ((SY) _ _ _ JJ fP) ?_;rintro _ w1 ⟨rfl,bO⟩;have bZ:=I aeG;have jm:=I Jd;have bP:af w1 (w.heap.size) 31 #[V n.QI,.string (⟨n.QG.toArray⟩:Y_),V n.ah,.slice (A_ g o) 1 cap]:=au.bk bO Zp aL Zo;obtain⟨dN,dO,dP,dQ,_⟩:=af.QM bP;clear oZ wm wu wz;obtain⟨pU,yj,yl,ym⟩:=aT (ay.low bZ) rP rQ rR rT;have lX:g<w1.heap.size:=bL pU;clear bO;go_wp2_with fail
  first|go_end0|refine bodyPost_ret (v:=.tuple #[]) Un rfl ?_
  exact arJ
 .have k2:x.QI=3:=hl
  clear hl;have d2:(x.QI==(2:Int))=false:=aqy
  have d3:(x.QI==(3:Int))=true:=aqy
  have d4:(x.QI==(4:Int))=false:=aqy
  clear k2;obtain⟨oZ,wm,wu,wz⟩:=aT (ay.low aL) rP rQ rR rT;have oD:g<w.heap.size:=bL oZ;go_enter func98,ntmps98;go_wp2_with fail
  refine Calls.mono ((SY) _ _ _ JJ fP) ?_;rintro _ w1 ⟨rfl,bO⟩;have bZ:=I aeG;have jm:=I Jd;have bP:af w1 (w.heap.size) 31 #[V n.QI,.string (⟨n.QG.toArray⟩:Y_),V n.ah,.slice (A_ g o) 1 cap]:=au.bk bO Zp aL Zo;obtain⟨dN,dO,dP,dQ,_⟩:=af.QM bP;clear oZ wm wu wz;obtain⟨pU,yj,yl,ym⟩:=aT (ay.low bZ) rP rQ rR rT;have lX:g<w1.heap.size:=bL pU;clear bO;go_wp2_with fail
  first|go_end0|refine bodyPost_ret (v:=.tuple #[]) Un rfl ?_
  exact arJ
 .have k2:x.QI=4:=hl
  clear hl;have d2:(x.QI==(2:Int))=false:=aqy
  have d3:(x.QI==(3:Int))=false:=aqy
  have d4:(x.QI==(4:Int))=true:=aqy
  clear k2;obtain⟨oZ,wm,wu,wz⟩:=aT (ay.low aL) rP rQ rR rT;have oD:g<w.heap.size:=bL oZ;go_enter func98,ntmps98;go_wp2_with fail
  refine Calls.mono ((SY) _ _ _ JJ fP) ?_;rintro _ w1 ⟨rfl,bO⟩;have bZ:=I aeG;have jm:=I Jd;have bP:af w1 (w.heap.size) 31 #[V n.QI,.string (⟨n.QG.toArray⟩:Y_),V n.ah,.slice (A_ g o) 1 cap]:=au.bk bO Zp aL Zo;obtain⟨dN,dO,dP,dQ,_⟩:=af.QM bP;clear oZ wm wu wz;obtain⟨pU,yj,yl,ym⟩:=aT (ay.low bZ) rP rQ rR rT;have lX:g<w1.heap.size:=bL pU;clear bO;go_wp2_with fail
  first|go_end0|refine bodyPost_ret (v:=.tuple #[]) Un rfl ?_
  exact arJ
theorem Ta(W0:W_)(p B:Nat)(n x:Nd)(hx:n.Qx=[x])(hl:Tr.leaf x=false)(hr:Ct W0 p B n):qZ W0 p B n:=by
 intro sl ab w QT D9 hp hf;rw[adN n x hx hl]at hf|-;have adO:=I (hr sl ab);rw[hx]at ab;obtain⟨g,o,cap,sx,rfl,x0,x1,x2,x3,al⟩:=ab.one;have aL:=I hp;have fP:=I hf;clear hp hf hr ab al;have rP:=I x0;have rQ:=I x1;have rR:=I x2;have rT:=I x3;clear x0 x1 x2 x3;simp only[Tr.leaf,Bool.or_eq_false_iff]at hl;obtain⟨⟨d2,d3⟩,d4⟩:=hl;obtain⟨oZ,wm,wu,wz⟩:=aT (ay.low aL) rP rQ rR rT;have oD:g<w.heap.size:=bL oZ;go_enter func98,ntmps98;go_wp2_with fail
 refine Calls.mono ((adO) _ _ _ JJ fP) ?_;rintro _ w1 ⟨rfl,bO⟩;have bZ:=I aeG;have jm:=I Jd;have bP:af w1 (w.heap.size) 31 #[V n.QI,.string (⟨n.QG.toArray⟩:Y_),V n.ah,.slice (A_ g o) 1 cap]:=au.bk bO Zp aL Zo;obtain⟨dN,dO,dP,dQ,_⟩:=af.QM bP;clear oZ wm wu wz;obtain⟨pU,yj,yl,ym⟩:=aT (ay.low bZ) rP rQ rR rT;have lX:g<w1.heap.size:=bL pU;clear bO;go_wp2_with fail
 first|go_end0|refine bodyPost_ret (v:=.tuple #[]) Un rfl ?_
 exact arJ
theorem Tc(W0:W_)(p B:Nat)(n:Nd)(hx:n.Qx.length≠1)(hr:Ct W0 p B n):qZ W0 p B n:=by
 intro sl ab w QT D9 hp hf;rw[aa7 n hx]at hf|-;obtain⟨A,cap,rfl⟩:=ab.slice;have adO:=I (hr _ ab);have aL:=I hp;have fP:=I hf;have d1:((n.Qx.length:Int)==1)=false:=arz
 have d2:¬(n.Qx.length:Int)=1:=Zo
 clear hp hf hr ab;go_enter func98,ntmps98;go_wp2_with fail
 refine Calls.mono ((adO) _ _ _ JJ fP) ?_;rintro _ w1 ⟨rfl,bO⟩;have bZ:=I aeG;have jm:=I Jd;have bP:af w1 (w.heap.size) 31 #[V n.QI,.string (⟨n.QG.toArray⟩:Y_),V n.ah,.slice A n.Qx.length cap]:=au.bk bO Zp aL Zo;obtain⟨dN,dO,dP,dQ,_⟩:=af.QM bP;clear bO;go_wp2_with fail
 first|go_end0|refine bodyPost_ret (v:=.tuple #[]) Un rfl ?_
 exact arJ
theorem U9(W0:W_)(p B:Nat)(n:Nd)(hr:xm W0 p B n):qZ W0 p B n:=by
 by_cases h1:n.Qx.length=1
 .obtain⟨x,hx⟩:=List.length_eq_one_iff.1 h1
  cases hl:Tr.leaf x with
  |true=>exact S9 W0 p B n x hx hl hr
  |false=>exact Ta W0 p B n x hx hl (vH W0 p B n hr)
 .exact Tc W0 p B n h1 (vH W0 p B n hr)
theorem Va(W0:W_)(p B:Nat)(kd tx cl:Value)(a b:Nd)(ha:qZ W0 p B a)(hb:qZ W0 p B b)(sl:Value)(ab:aD W0 [a,b] sl):lC 61 #[pp p,.agg #[kd,tx,cl,sl]] W0 p B ([Tr.name Tr.oO]++(dD a++dD b)):=by
 intro w QT D9 hp hf;obtain⟨g,o,cap,sa,sb,rfl,a0,a1,a2,a3,ac,b0,b1,b2,b3,ad⟩:=ab.two;have Td:=I (ha sa ac);have zx:=I (hb sb ad);have aL:=I hp;have fP:=I hf;clear hp hf ha hb ab ac ad;have iD:=I a0;have iE:=I a1;have iF:=I a2;have iG:=I a3;have lY:=I b0;have lZ:=I b1;have l6:=I b2;have mg:=I b3;clear a0 a1 a2 a3 b0 b1 b2 b3;obtain⟨iA,mh,mo,mq⟩:=aT (ay.low aL) iD iE iF iG;obtain⟨tQ,tT,tV,tX⟩:=aT (ay.low aL) lY lZ l6 mg;have oD:g<w.heap.size:=bL iA;go_enter func61,ntmps61;go_wp2_with fail
 refine Calls.mono ((Cs W0 p B 4 [102,114,97,99]) _ _ _ JJ fP.left) ?_;rintro _ w1 ⟨rfl,bO⟩;have bZ:=I aeG;have jm:=I Jd;have jN:=I afB;have bP:af w1 (w.heap.size) 31 #[kd,tx,cl,.slice (A_ g o) 2 cap]:=au.bk bO Zp aL Zo;obtain⟨dN,dO,dP,dQ,_⟩:=af.QM bP;clear iA mh mo mq tQ tT tV tX;obtain⟨gm,kN,kP,kQ⟩:=aT (ay.low bZ) iD iE iF iG;obtain⟨rU,rV,rW,rX⟩:=aT (ay.low bZ) lY lZ l6 mg;have lX:g<w1.heap.size:=bL gm;clear bO;go_wp2_with fail
 refine Calls.mono ((Td) _ _ _ a_ jN.left) ?_;rintro _ w2 ⟨rfl,dH⟩;have dM:=I aqv;have kT:=I FU;have mY:=I asj;have fF:af w2 (w.heap.size) 31 #[kd,tx,cl,.slice (A_ g o) 2 cap]:=au.bk dH Zp aL Zo;clear dN dO dP dQ bP;obtain⟨ig,iq,iw,iy,_⟩:=af.QM fF;clear gm kN kP kQ rU rV rW rX;obtain⟨gV,nu,ny,nA⟩:=aT (ay.low dM) iD iE iF iG;obtain⟨uu,uw,uy,uz⟩:=aT (ay.low dM) lY lZ l6 mg;have q8:g<w2.heap.size:=bL gV;clear dH;go_wp2_with fail
 refine Calls.mono ((zx) _ _ _ K_ mY) ?_;rintro _ w3 ⟨rfl,fo⟩;have gI:=I aq9;have oW:=I b_;have jB:af w3 (w.heap.size) 31 #[kd,tx,cl,.slice (A_ g o) 2 cap]:=au.bk fo Zp aL Zo;clear ig iq iw iy fF;obtain⟨mF,mG,mH,mI,_⟩:=af.QM jB;clear gV nu ny nA uu uw uy uz;obtain⟨mD,vI,vJ,vK⟩:=aT (ay.low gI) iD iE iF iG;obtain⟨yP,yQ,yR,yS⟩:=aT (ay.low gI) lY lZ l6 mg;have vL:g<w3.heap.size:=bL mD;clear fo;go_wp2_with fail
 first|go_end0|refine bodyPost_ret (v:=.tuple #[]) Un rfl ?_
 exact arI
theorem aa8(W0:W_)(p B:Nat)(kd tx cl:Value)(a b:Nd)(hk:a.Qx≠[])(ha:xm W0 p B a)(hb:qZ W0 p B b)(sl:Value)(ab:aD W0 [a,b] sl):lC 62 #[pp p,.agg #[kd,tx,cl,sl]] W0 p B ([Tr.name Tr.mU]++([Tr.aI 91]++(bC a.Qx++([Tr.aI 93]++dD b)))):=by
 intro w QT D9 hp hf;obtain⟨g,o,cap,sa,sb,rfl,a0,a1,a2,a3,ac,b0,b1,b2,b3,ad⟩:=ab.two;obtain⟨Aa,CJ,rfl⟩:=ac.slice;have FO:=I (ha _ ac);clear ha;have zx:=I (hb sb ad);have aL:=I hp;have fP:=I hf;have aa:0<a.Qx.length:=by exact List.length_pos_iff.2 hk
 have d1:decide ((0:Int)<(a.Qx.length:Int))=true:=dT Zo;have jo:decide (0<a.Qx.length)=true:=dT Zo;have aE:(0:Int)<(a.Qx.length:Int):=Zo
 clear aa;clear hp hf hb ab ac ad hk;have iD:=I a0;have iE:=I a1;have iF:=I a2;have iG:=I a3;have lY:=I b0;have lZ:=I b1;have l6:=I b2;have mg:=I b3;clear a0 a1 a2 a3 b0 b1 b2 b3;obtain⟨iA,mh,mo,mq⟩:=aT (ay.low aL) iD iE iF iG;obtain⟨tQ,tT,tV,tX⟩:=aT (ay.low aL) lY lZ l6 mg;have oD:g<w.heap.size:=bL iA;go_enter func62,ntmps62;go_wp2_with fail
 refine Calls.mono auC ?_;rintro _ w1 ⟨rfl,bO⟩;have bZ:=I aeG;have jm:=I Jd;have jN:=I afB;have bP:af w1 (w.heap.size) 31 #[kd,tx,cl,.slice (A_ g o) 2 cap]:=au.bk bO Zp aL Zo;obtain⟨dN,dO,dP,dQ,_⟩:=af.QM bP;clear iA mh mo mq tQ tT tV tX;obtain⟨gm,kN,kP,kQ⟩:=aT (ay.low bZ) iD iE iF iG;obtain⟨rU,rV,rW,rX⟩:=aT (ay.low bZ) lY lZ l6 mg;have lX:g<w1.heap.size:=bL gm;clear bO;go_wp2_with fail
 refine Calls.mono ((lu W0 p B [91]) _ _ _ a_ jN.left) ?_;rintro _ w2 ⟨rfl,dH⟩;have dM:=I aqv;have kT:=I FU;have mY:=I asj;have fF:af w2 (w.heap.size) 31 #[kd,tx,cl,.slice (A_ g o) 2 cap]:=au.bk dH Zp aL Zo;clear dN dO dP dQ bP;obtain⟨ig,iq,iw,iy,_⟩:=af.QM fF;clear gm kN kP kQ rU rV rW rX;obtain⟨gV,nu,ny,nA⟩:=aT (ay.low dM) iD iE iF iG;obtain⟨uu,uw,uy,uz⟩:=aT (ay.low dM) lY lZ l6 mg;have q8:g<w2.heap.size:=bL gV;clear dH;go_wp2_with fail
 refine Calls.mono ((FO) _ _ _ K_ mY.left) ?_;rintro _ w3 ⟨rfl,fo⟩;have gI:=I aq9;have oW:=I b_;have zM:=I (Fits.ni mY);have jB:af w3 (w.heap.size) 31 #[kd,tx,cl,.slice (A_ g o) 2 cap]:=au.bk fo Zp aL Zo;clear ig iq iw iy fF;obtain⟨mF,mG,mH,mI,_⟩:=af.QM jB;clear gV nu ny nA uu uw uy uz;obtain⟨mD,vI,vJ,vK⟩:=aT (ay.low gI) iD iE iF iG;obtain⟨yP,yQ,yR,yS⟩:=aT (ay.low gI) lY lZ l6 mg;have vL:g<w3.heap.size:=bL mD;clear fo;go_wp2_with fail
 refine Calls.mono ((lu W0 p B [93]) _ _ _ aqM zM.left) ?_;rintro _ w4 ⟨rfl,mQ⟩;have kU:=I (ay.jS aqM mQ);have Bh:=I aix;have Dt:=I (Fits.ni zM);have rq:af w4 (w.heap.size) 31 #[kd,tx,cl,.slice (A_ g o) 2 cap]:=au.bk mQ Zp aL Zo;clear mF mG mH mI jB;obtain⟨vS,vT,vU,vV,_⟩:=af.QM rq;clear mD vI vJ vK yP yQ yR yS;obtain⟨wQ,Ew,Ex,Ey⟩:=aT (ay.low kU) iD iE iF iG;obtain⟨Ez,EA,EB,EC⟩:=aT (ay.low kU) lY lZ l6 mg;have FP:g<w4.heap.size:=bL wQ;clear mQ;go_wp2_with fail
 refine Calls.mono ((zx) _ _ _ aqN Dt) ?_;rintro _ w5 ⟨rfl,qo⟩;have ru:=I (ay.jS aqN qo);have FQ:=I akN;have Bi:af w5 (w.heap.size) 31 #[kd,tx,cl,.slice (A_ g o) 2 cap]:=au.bk qo Zp aL Zo;clear vS vT vU vV rq;obtain⟨Jr,Js,Jt,Ju,_⟩:=af.QM Bi;clear wQ Ew Ex Ey Ez EA EB EC;obtain⟨ED,Te,Tf,Tg⟩:=aT (ay.low ru) iD iE iF iG;obtain⟨Ti,Tj,Tk,Tm⟩:=aT (ay.low ru) lY lZ l6 mg;have K4:g<w5.heap.size:=bL ED;clear qo;go_wp2_with fail
 first|go_end0|refine bodyPost_ret (v:=.tuple #[]) Un rfl ?_
 exact⟨rfl,au.cast FQ WJ⟩
theorem aa9(W0:W_)(p B:Nat)(kd tx cl:Value)(a b:Nd)(hk:a.Qx=[])(hb:qZ W0 p B b)(sl:Value)(ab:aD W0 [a,b] sl):lC 62 #[pp p,.agg #[kd,tx,cl,sl]] W0 p B ([Tr.name Tr.mU]++dD b):=by
 intro w QT D9 hp hf;obtain⟨g,o,cap,sa,sb,rfl,a0,a1,a2,a3,ac,b0,b1,b2,b3,ad⟩:=ab.two;obtain⟨Aa,CJ,rfl⟩:=ac.slice;have zx:=I (hb sb ad);have aL:=I hp;have fP:=I hf;have aa:a.Qx.length=0:=by rw[hk];rfl
 have d1:decide ((0:Int)<(a.Qx.length:Int))=false:=dF Zo;have jo:decide (0<a.Qx.length)=false:=dF Zo;have alc:=I aa;clear aa;clear hp hf hb ab ac ad hk;have iD:=I a0;have iE:=I a1;have iF:=I a2;have iG:=I a3;have lY:=I b0;have lZ:=I b1;have l6:=I b2;have mg:=I b3;clear a0 a1 a2 a3 b0 b1 b2 b3;obtain⟨iA,mh,mo,mq⟩:=aT (ay.low aL) iD iE iF iG;obtain⟨tQ,tT,tV,tX⟩:=aT (ay.low aL) lY lZ l6 mg;have oD:g<w.heap.size:=bL iA;go_enter func62,ntmps62;go_wp2_with fail
 refine Calls.mono auC ?_;rintro _ w1 ⟨rfl,bO⟩;have bZ:=I aeG;have jm:=I Jd;have jN:=I afB;have bP:af w1 (w.heap.size) 31 #[kd,tx,cl,.slice (A_ g o) 2 cap]:=au.bk bO Zp aL Zo;obtain⟨dN,dO,dP,dQ,_⟩:=af.QM bP;clear iA mh mo mq tQ tT tV tX;obtain⟨gm,kN,kP,kQ⟩:=aT (ay.low bZ) iD iE iF iG;obtain⟨rU,rV,rW,rX⟩:=aT (ay.low bZ) lY lZ l6 mg;have lX:g<w1.heap.size:=bL gm;clear bO;go_wp2_with fail
 refine Calls.mono ((zx) _ _ _ a_ jN) ?_;rintro _ w2 ⟨rfl,dH⟩;have dM:=I aqv;have kT:=I FU;have fF:af w2 (w.heap.size) 31 #[kd,tx,cl,.slice (A_ g o) 2 cap]:=au.bk dH Zp aL Zo;clear dN dO dP dQ bP;obtain⟨ig,iq,iw,iy,_⟩:=af.QM fF;clear gm kN kP kQ rU rV rW rX;obtain⟨gV,nu,ny,nA⟩:=aT (ay.low dM) iD iE iF iG;obtain⟨uu,uw,uy,uz⟩:=aT (ay.low dM) lY lZ l6 mg;have q8:g<w2.heap.size:=bL gV;clear dH;go_wp2_with fail
 first|go_end0|refine bodyPost_ret (v:=.tuple #[]) Un rfl ?_
 exact⟨rfl,au.cast kT WJ⟩
theorem aa'(W0:W_)(p B:Nat)(kd cl:Value)(t:List UInt8)(a:Nd)(ha:qZ W0 p B a)(sl:Value)(ab:aD W0 [a] sl):lC 64 #[pp p,.agg #[kd,S_ t,cl,sl]] W0 p B ([Tr.name t]++dD a):=by
 intro w QT D9 hp hf;obtain⟨g,o,cap,sa,rfl,a0,a1,a2,a3,ac⟩:=ab.one;have Td:=I (ha sa ac);have aL:=I hp;have fP:=I hf;clear hp hf ha ab ac;have iD:=I a0;have iE:=I a1;have iF:=I a2;have iG:=I a3;clear a0 a1 a2 a3;obtain⟨iA,mh,mo,mq⟩:=aT (ay.low aL) iD iE iF iG;have oD:g<w.heap.size:=bL iA;go_enter func64,ntmps64;go_wp2_with fail
 refine Calls.mono ((Cs W0 p B 4 t) _ _ _ JJ fP.left) ?_;rintro _ w1 ⟨rfl,bO⟩;have bZ:=I aeG;have jm:=I Jd;have jN:=I afB;have bP:af w1 (w.heap.size) 31 #[kd,.string (⟨t.toArray⟩:Y_),cl,.slice (A_ g o) 1 cap]:=au.bk bO Zp aL Zo;obtain⟨dN,dO,dP,dQ,_⟩:=af.QM bP;clear iA mh mo mq;obtain⟨gm,kN,kP,kQ⟩:=aT (ay.low bZ) iD iE iF iG;have lX:g<w1.heap.size:=bL gm;clear bO;go_wp2_with fail
 refine Calls.mono ((Td) _ _ _ a_ jN) ?_;rintro _ w2 ⟨rfl,dH⟩;have dM:=I aqv;have kT:=I FU;have fF:af w2 (w.heap.size) 31 #[kd,.string (⟨t.toArray⟩:Y_),cl,.slice (A_ g o) 1 cap]:=au.bk dH Zp aL Zo;clear dN dO dP dQ bP;obtain⟨ig,iq,iw,iy,_⟩:=af.QM fF;clear gm kN kP kQ;obtain⟨gV,nu,ny,nA⟩:=aT (ay.low dM) iD iE iF iG;have q8:g<w2.heap.size:=bL gV;clear dH;go_wp2_with fail
 first|go_end0|refine bodyPost_ret (v:=.tuple #[]) Un rfl ?_
 exact⟨rfl,au.cast kT WJ⟩
theorem Tn(n:Nd)(sl:Value)(w:W_):C_ 100 #[nv n sl] w λe w'=>e=.returned (.bool (Tr.gY n))/\ag w w':=by
 cases k7:(n.QI==7)with
 |true=>
  go_enter func100,ntmps100;go_wp2
  go_ret;exact⟨ai _ _ (by simp[Tr.gY,k7]),(M _ _).alloc _⟩
 |false=>
  cases k8:(n.QI==8)with
  |true=>
   go_enter func100,ntmps100;go_wp2
   go_ret;exact⟨ai _ _ (by simp[Tr.gY,k8]),(M _ _).alloc _⟩
  |false=>
   go_enter func100,ntmps100;go_wp2
   go_ret;exact⟨ai _ _ (by simp[Tr.gY,k7,k8]),(M _ _).alloc _⟩
end
end Go.Proofs.YtabjglnjjdcfmaaGreatDoor
