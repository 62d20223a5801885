/- Part 44 of 46 of a proof. No condition. -/
import Derived.Test.YtcgbccfpcgaikaaGreatDoorYm35
set_option maxRecDepth 100000
set_option maxHeartbeats 1000000
namespace Go.Proofs.YtcgbccfpcgaikaaGreatDoor
section
open Go.RowKit
open Tr (Nd dD gG bC bT)
theorem au.cast{w w':World}{p B:Nat}{toks:List Lx.aB}{txt:List UInt8}{l l':List Lx.Tok}(h:au w w' p B toks txt l)(e:l=l'):au w w' p B toks txt l':=e▸h
theorem au.Am{a b c:World}{p B:Nat}{toks:List Lx.aB}{txt:List UInt8}{l:List Lx.Tok}(k:au a b p B toks txt l)(hf:ag b c):au a c p B toks txt l:=by
 obtain⟨vt,vb,cs,hp,ht⟩:=k;exact⟨vt,vb,cs,hp.fresh hf,PS.Am ht hf⟩
theorem au.blk{a b:World}{p B g:Nat}{t:TypeId}{cs:Array Value}{toks:List Lx.aB}{txt:List UInt8}{l:List Lx.Tok}(k:au a b p B toks txt l)(hb:af a g t cs)(hp:g≠p)(h1:t≠115)(h2:t≠5):af b g t cs:=by
 obtain⟨vt,vb,cs',_,ht⟩:=k;exact PS.blk ht hb hp h1 h2
theorem au.bk{a b:World}{p B g:Nat}{cs:Array Value}{toks:List Lx.aB}{txt:List UInt8}{l:List Lx.Tok}(k:au a b p B toks txt l)(hb:af a g 24 cs){W0 w0:World}{t0:List Lx.aB}{x0:List UInt8}(h:ay W0 p B w0 t0 x0)(hg:w0.heap.size≤g):af b g 24 cs:=k.blk hb (by have:=h.lt;have:=h.hB;omega) (by decide) (by decide)
theorem aD.one{W:World}{x:Nd}{v:Value}(h:aD W [x] v):∃g o cap sx,v=.slice (some ⟨g,o,none⟩) 1 cap∧
  W.cell? ⟨g,o,none⟩=some (.int .i64 x.kind)∧W.cell? ⟨g,o+1,none⟩=some (.string ⟨x.text.toArray⟩)∧W.cell? ⟨g,o+2,none⟩=some (.int .i64 x.ah)∧W.cell? ⟨g,o+3,none⟩=some sx∧aD W x.kids sx:=by
 obtain⟨A,cap,rfl⟩:=h.slice;obtain⟨g,o,sx,rfl,_,h0,h1,h2,h3,hr⟩:=h.get 0 (by simp);simp only[Nat.zero_mul,Nat.add_zero]at h0 h1 h2 h3;exact⟨g,o,cap,sx,rfl,h0,h1,h2,h3,hr⟩
theorem aD.two{W:World}{x y:Nd}{v:Value}(h:aD W [x,y] v):∃g o cap sx sy,v=.slice (some ⟨g,o,none⟩) 2 cap∧
  W.cell? ⟨g,o,none⟩=some (.int .i64 x.kind)∧W.cell? ⟨g,o+1,none⟩=some (.string ⟨x.text.toArray⟩)∧W.cell? ⟨g,o+2,none⟩=some (.int .i64 x.ah)∧W.cell? ⟨g,o+3,none⟩=some sx∧aD W x.kids sx∧
  W.cell? ⟨g,o+4,none⟩=some (.int .i64 y.kind)∧W.cell? ⟨g,o+4+1,none⟩=some (.string ⟨y.text.toArray⟩)∧W.cell? ⟨g,o+4+2,none⟩=some (.int .i64 y.ah)∧W.cell? ⟨g,o+4+3,none⟩=some sy∧aD W y.kids sy:=by
 obtain⟨A,cap,rfl⟩:=h.slice;obtain⟨g,o,sx,rfl,_,h0,h1,h2,h3,hr⟩:=h.get 0 (by simp);obtain⟨g',o',sy,hg,_,k0,k1,k2,k3,kr⟩:=h.get 1 (by simp);cases hg;simp only[Nat.zero_mul,Nat.add_zero]at h0 h1 h2 h3;simp only[Nat.one_mul]at k0 k1 k2 k3;exact⟨g,o,cap,sx,sy,rfl,h0,h1,h2,h3,hr,k0,k1,k2,k3,kr⟩
theorem aD.three{W:World}{x y z:Nd}{v:Value}(h:aD W [x,y,z] v):∃g o cap sx sy sz,v=.slice (some ⟨g,o,none⟩) 3 cap∧
  W.cell? ⟨g,o,none⟩=some (.int .i64 x.kind)∧W.cell? ⟨g,o+1,none⟩=some (.string ⟨x.text.toArray⟩)∧W.cell? ⟨g,o+2,none⟩=some (.int .i64 x.ah)∧W.cell? ⟨g,o+3,none⟩=some sx∧aD W x.kids sx∧
  W.cell? ⟨g,o+4,none⟩=some (.int .i64 y.kind)∧W.cell? ⟨g,o+4+1,none⟩=some (.string ⟨y.text.toArray⟩)∧W.cell? ⟨g,o+4+2,none⟩=some (.int .i64 y.ah)∧W.cell? ⟨g,o+4+3,none⟩=some sy∧aD W y.kids sy∧
  W.cell? ⟨g,o+8,none⟩=some (.int .i64 z.kind)∧W.cell? ⟨g,o+8+1,none⟩=some (.string ⟨z.text.toArray⟩)∧W.cell? ⟨g,o+8+2,none⟩=some (.int .i64 z.ah)∧W.cell? ⟨g,o+8+3,none⟩=some sz∧aD W z.kids sz:=by
 obtain⟨A,cap,rfl⟩:=h.slice;obtain⟨g,o,sx,rfl,_,h0,h1,h2,h3,hr⟩:=h.get 0 (by simp);obtain⟨g',o',sy,hg,_,k0,k1,k2,k3,kr⟩:=h.get 1 (by simp);cases hg;obtain⟨g',o',sz,hg,_,l0,l1,l2,l3,lr⟩:=h.get 2 (by simp);cases hg;simp only[Nat.zero_mul,Nat.add_zero]at h0 h1 h2 h3;simp only[Nat.one_mul]at k0 k1 k2 k3;simp only[Nat.reduceMul]at l0 l1 l2 l3;exact⟨g,o,cap,sx,sy,sz,rfl,h0,h1,h2,h3,hr,k0,k1,k2,k3,kr,l0,l1,l2,l3,lr⟩
theorem vH(W0:World)(p B:Nat)(n:Nd)(hr:xm W0 p B n):Ct W0 p B n:=by
 intro sl hsl w toks txt hp hf;have aL:=hid hp;have fP:=hid hf;have SY:=hid (hr sl hsl);clear hp hf hr hsl;go_enter Tryz.func100,Tryz.ntmps100;go_wp2_with fail
 refine Calls.mono ((lu W0 p B [123]) _ _ _ (ay.fresh aL.out aF) fP.out.left) ?_;rintro _ w1 ⟨rfl,bO⟩;have bZ:=hid (ay.add (ay.fresh aL.out aF) bO);have jm:=hid (au.bG (show ag w _ from aF) bO);have jN:=hid (Fits.right fP.out);have bP:af w1 (w.heap.size) 24 #[.int .i64 n.kind,.string (⟨n.text.toArray⟩:ByteArray),.int .i64 n.ah,sl]:=au.bk bO (by first|exact bH|assumption|exact bD (by assumption)) aL.out (by omega);obtain⟨dN,dO,dP,dQ,_⟩:=af.four bP;clear bO;go_wp2_with fail
 refine Calls.mono ((SY.out) _ _ _ (ay.fresh bZ.out aF) jN.out.left) ?_;rintro _ w2 ⟨rfl,dH⟩;have dM:=hid (ay.jS (ay.fresh bZ.out aF) dH);have kT:=hid (au.app jm.out (au.bG (show ag w1 _ from aF) dH));have mY:=hid (Fits.ni jN.out);have fF:af w2 (w.heap.size) 24 #[.int .i64 n.kind,.string (⟨n.text.toArray⟩:ByteArray),.int .i64 n.ah,sl]:=au.bk dH (by first|exact bH|assumption|exact bD (by assumption)) aL.out (by omega);clear dN dO dP dQ bP;obtain⟨ig,iq,iw,iy,_⟩:=af.four fF;clear dH;go_wp2_with fail
 refine Calls.mono ((lu W0 p B [125]) _ _ _ (ay.fresh dM.out aF) mY.out) ?_;rintro _ w3 ⟨rfl,fo⟩;have gI:=hid (ay.jS (ay.fresh dM.out aF) fo);have oW:=hid (au.app kT.out (au.bG (show ag w2 _ from aF) fo));have jB:af w3 (w.heap.size) 24 #[.int .i64 n.kind,.string (⟨n.text.toArray⟩:ByteArray),.int .i64 n.ah,sl]:=au.bk fo (by first|exact bH|assumption|exact bD (by assumption)) aL.out (by omega);clear ig iq iw iy fF;obtain⟨mF,mG,mH,mI,_⟩:=af.four jB;clear fo;go_wp2_with fail
 first|go_end0|refine bodyPost_ret (v:=.tuple #[]) (results_none rfl _ _ _) rfl ?_
 exact⟨rfl,au.cast oW.out (by first|rfl|(simp only[List.append_assoc]<;>rfl))⟩
theorem aa6(n x:Nd)(h:n.kids=[x])(hx:Tr.leaf x=true):dD n=bC n.kids:=by
 rw[Tr.y5,h];simp[hx,Tr.o5,Tr.qU]
theorem adN(n x:Nd)(h:n.kids=[x])(hx:Tr.leaf x=false):dD n=[Tr.aI 123]++(bC n.kids++[Tr.aI 125]):=by
 rw[Tr.y5,h];simp[hx]
theorem aa7(n:Nd)(h:n.kids.length≠1):dD n=[Tr.aI 123]++(bC n.kids++[Tr.aI 125]):=by
 rw[Tr.y5];split
 ·rename_i x hx;rw[hx]at h;simp at h
 ·rfl
theorem O0(n x:Nd)(h:n.kids=[x])(hx:Tr.gY x=false):gG n=bC n.kids:=by
 rw[Tr.wU,h];simp[hx,Tr.o5,Tr.qU]
theorem O1(n x:Nd)(h:n.kids=[x])(hx:Tr.gY x=true):gG n=[Tr.aI 123]++(bC n.kids++[Tr.aI 125]):=by
 rw[Tr.wU,h];simp[hx]
theorem MF(n:Nd)(h:n.kids.length≠1):gG n=[Tr.aI 123]++(bC n.kids++[Tr.aI 125]):=by
 rw[Tr.wU];split
 ·rename_i x hx;rw[hx]at h;simp at h
 ·rfl
theorem S9(W0:World)(p B:Nat)(n x:Nd)(hx:n.kids=[x])(hl:Tr.leaf x=true)(hr:xm W0 p B n):qZ W0 p B n:=by
 intro sl hsl w toks txt hp hf;rw[aa6 n x hx hl]at hf⊢;have SY:=hid (hr sl hsl);rw[hx]at hsl;obtain⟨g,o,cap,sx,rfl,x0,x1,x2,x3,hrx⟩:=hsl.one;have aL:=hid hp;have fP:=hid hf;clear hp hf hr hsl hrx;have rP:=hid x0;have rQ:=hid x1;have rR:=hid x2;have rT:=hid x3;clear x0 x1 x2 x3;simp only[Tr.leaf,Bool.or_eq_true,beq_iff_eq]at hl
 rcases hl with(hl|hl)|hl
 ·have k2:x.kind=2:=hl
  clear hl;have d2:(x.kind==(2:Int))=true:=by rw[k2];rfl
  have d3:(x.kind==(3:Int))=false:=by rw[k2];rfl
  have d4:(x.kind==(4:Int))=false:=by rw[k2];rfl
  clear k2;obtain⟨oZ,wm,wu,wz⟩:=aT (ay.low aL.out) rP.out rQ.out rR.out rT.out;have oD:g<w.heap.size:=bL oZ;go_enter Tryz.func97,Tryz.ntmps97;go_wp2_with fail
  refine Calls.mono ((SY.out) _ _ _ (ay.fresh aL.out aF) fP.out) ?_;rintro _ w1 ⟨rfl,bO⟩;have bZ:=hid (ay.add (ay.fresh aL.out aF) bO);have jm:=hid (au.bG (show ag w _ from aF) bO);have bP:af w1 (w.heap.size) 24 #[.int .i64 n.kind,.string (⟨n.text.toArray⟩:ByteArray),.int .i64 n.ah,.slice (some ⟨g,o,none⟩) 1 cap]:=au.bk bO (by first|exact bH|assumption|exact bD (by assumption)) aL.out (by omega);obtain⟨dN,dO,dP,dQ,_⟩:=af.four bP;clear oZ wm wu wz;obtain⟨pU,yj,yl,ym⟩:=aT (ay.low bZ.out) rP.out rQ.out rR.out rT.out;have lX:g<w1.heap.size:=bL pU;clear bO;go_wp2_with fail
  first|go_end0|refine bodyPost_ret (v:=.tuple #[]) (results_none rfl _ _ _) rfl ?_
  exact⟨rfl,au.cast jm.out (by first|rfl|(simp only[List.append_assoc]<;>rfl))⟩
 ·have k2:x.kind=3:=hl
  clear hl;have d2:(x.kind==(2:Int))=false:=by rw[k2];rfl
  have d3:(x.kind==(3:Int))=true:=by rw[k2];rfl
  have d4:(x.kind==(4:Int))=false:=by rw[k2];rfl
  clear k2;obtain⟨oZ,wm,wu,wz⟩:=aT (ay.low aL.out) rP.out rQ.out rR.out rT.out;have oD:g<w.heap.size:=bL oZ;go_enter Tryz.func97,Tryz.ntmps97;go_wp2_with fail
  refine Calls.mono ((SY.out) _ _ _ (ay.fresh aL.out aF) fP.out) ?_;rintro _ w1 ⟨rfl,bO⟩;have bZ:=hid (ay.add (ay.fresh aL.out aF) bO);have jm:=hid (au.bG (show ag w _ from aF) bO);have bP:af w1 (w.heap.size) 24 #[.int .i64 n.kind,.string (⟨n.text.toArray⟩:ByteArray),.int .i64 n.ah,.slice (some ⟨g,o,none⟩) 1 cap]:=au.bk bO (by first|exact bH|assumption|exact bD (by assumption)) aL.out (by omega);obtain⟨dN,dO,dP,dQ,_⟩:=af.four bP;clear oZ wm wu wz;obtain⟨pU,yj,yl,ym⟩:=aT (ay.low bZ.out) rP.out rQ.out rR.out rT.out;have lX:g<w1.heap.size:=bL pU;clear bO;go_wp2_with fail
  first|go_end0|refine bodyPost_ret (v:=.tuple #[]) (results_none rfl _ _ _) rfl ?_
  exact⟨rfl,au.cast jm.out (by first|rfl|(simp only[List.append_assoc]<;>rfl))⟩
 ·have k2:x.kind=4:=hl
  clear hl;have d2:(x.kind==(2:Int))=false:=by rw[k2];rfl
  have d3:(x.kind==(3:Int))=false:=by rw[k2];rfl
  have d4:(x.kind==(4:Int))=true:=by rw[k2];rfl
  clear k2;obtain⟨oZ,wm,wu,wz⟩:=aT (ay.low aL.out) rP.out rQ.out rR.out rT.out;have oD:g<w.heap.size:=bL oZ;go_enter Tryz.func97,Tryz.ntmps97;go_wp2_with fail
  refine Calls.mono ((SY.out) _ _ _ (ay.fresh aL.out aF) fP.out) ?_;rintro _ w1 ⟨rfl,bO⟩;have bZ:=hid (ay.add (ay.fresh aL.out aF) bO);have jm:=hid (au.bG (show ag w _ from aF) bO);have bP:af w1 (w.heap.size) 24 #[.int .i64 n.kind,.string (⟨n.text.toArray⟩:ByteArray),.int .i64 n.ah,.slice (some ⟨g,o,none⟩) 1 cap]:=au.bk bO (by first|exact bH|assumption|exact bD (by assumption)) aL.out (by omega);obtain⟨dN,dO,dP,dQ,_⟩:=af.four bP;clear oZ wm wu wz;obtain⟨pU,yj,yl,ym⟩:=aT (ay.low bZ.out) rP.out rQ.out rR.out rT.out;have lX:g<w1.heap.size:=bL pU;clear bO;go_wp2_with fail
  first|go_end0|refine bodyPost_ret (v:=.tuple #[]) (results_none rfl _ _ _) rfl ?_
  exact⟨rfl,au.cast jm.out (by first|rfl|(simp only[List.append_assoc]<;>rfl))⟩
theorem Ta(W0:World)(p B:Nat)(n x:Nd)(hx:n.kids=[x])(hl:Tr.leaf x=false)(hr:Ct W0 p B n):qZ W0 p B n:=by
 intro sl hsl w toks txt hp hf;rw[adN n x hx hl]at hf⊢;have adO:=hid (hr sl hsl);rw[hx]at hsl;obtain⟨g,o,cap,sx,rfl,x0,x1,x2,x3,hrx⟩:=hsl.one;have aL:=hid hp;have fP:=hid hf;clear hp hf hr hsl hrx;have rP:=hid x0;have rQ:=hid x1;have rR:=hid x2;have rT:=hid x3;clear x0 x1 x2 x3;simp only[Tr.leaf,Bool.or_eq_false_iff]at hl;obtain⟨⟨d2,d3⟩,d4⟩:=hl;obtain⟨oZ,wm,wu,wz⟩:=aT (ay.low aL.out) rP.out rQ.out rR.out rT.out;have oD:g<w.heap.size:=bL oZ;go_enter Tryz.func97,Tryz.ntmps97;go_wp2_with fail
 refine Calls.mono ((adO.out) _ _ _ (ay.fresh aL.out aF) fP.out) ?_;rintro _ w1 ⟨rfl,bO⟩;have bZ:=hid (ay.add (ay.fresh aL.out aF) bO);have jm:=hid (au.bG (show ag w _ from aF) bO);have bP:af w1 (w.heap.size) 24 #[.int .i64 n.kind,.string (⟨n.text.toArray⟩:ByteArray),.int .i64 n.ah,.slice (some ⟨g,o,none⟩) 1 cap]:=au.bk bO (by first|exact bH|assumption|exact bD (by assumption)) aL.out (by omega);obtain⟨dN,dO,dP,dQ,_⟩:=af.four bP;clear oZ wm wu wz;obtain⟨pU,yj,yl,ym⟩:=aT (ay.low bZ.out) rP.out rQ.out rR.out rT.out;have lX:g<w1.heap.size:=bL pU;clear bO;go_wp2_with fail
 first|go_end0|refine bodyPost_ret (v:=.tuple #[]) (results_none rfl _ _ _) rfl ?_
 exact⟨rfl,au.cast jm.out (by first|rfl|(simp only[List.append_assoc]<;>rfl))⟩
theorem Tc(W0:World)(p B:Nat)(n:Nd)(hx:n.kids.length≠1)(hr:Ct W0 p B n):qZ W0 p B n:=by
 intro sl hsl w toks txt hp hf;rw[aa7 n hx]at hf⊢;obtain⟨A,cap,rfl⟩:=hsl.slice;have adO:=hid (hr _ hsl);have aL:=hid hp;have fP:=hid hf;have d1:((n.kids.length:Int)==1)=false:=by simp only[beq_eq_false_iff_ne];omega
 have d2:¬(n.kids.length:Int)=1:=by omega
 clear hp hf hr hsl;go_enter Tryz.func97,Tryz.ntmps97;go_wp2_with fail
 refine Calls.mono ((adO.out) _ _ _ (ay.fresh aL.out aF) fP.out) ?_;rintro _ w1 ⟨rfl,bO⟩;have bZ:=hid (ay.add (ay.fresh aL.out aF) bO);have jm:=hid (au.bG (show ag w _ from aF) bO);have bP:af w1 (w.heap.size) 24 #[.int .i64 n.kind,.string (⟨n.text.toArray⟩:ByteArray),.int .i64 n.ah,.slice A n.kids.length cap]:=au.bk bO (by first|exact bH|assumption|exact bD (by assumption)) aL.out (by omega);obtain⟨dN,dO,dP,dQ,_⟩:=af.four bP;clear bO;go_wp2_with fail
 first|go_end0|refine bodyPost_ret (v:=.tuple #[]) (results_none rfl _ _ _) rfl ?_
 exact⟨rfl,au.cast jm.out (by first|rfl|(simp only[List.append_assoc]<;>rfl))⟩
theorem U9(W0:World)(p B:Nat)(n:Nd)(hr:xm W0 p B n):qZ W0 p B n:=by
 by_cases h1:n.kids.length=1
 ·obtain⟨x,hx⟩:=List.length_eq_one_iff.1 h1
  cases hl:Tr.leaf x with
  |true=>exact S9 W0 p B n x hx hl hr
  |false=>exact Ta W0 p B n x hx hl (vH W0 p B n hr)
 ·exact Tc W0 p B n h1 (vH W0 p B n hr)
theorem Va(W0:World)(p B:Nat)(kd tx cl:Value)(a b:Nd)(ha:qZ W0 p B a)(hb:qZ W0 p B b)(sl:Value)(hsl:aD W0 [a,b] sl):lC 58 #[pp p,.agg #[kd,tx,cl,sl]] W0 p B ([Tr.name Tr.oO]++(dD a++dD b)):=by
 intro w toks txt hp hf;obtain⟨g,o,cap,sa,sb,rfl,a0,a1,a2,a3,hra,b0,b1,b2,b3,hrb⟩:=hsl.two;have Td:=hid (ha sa hra);have zx:=hid (hb sb hrb);have aL:=hid hp;have fP:=hid hf;clear hp hf ha hb hsl hra hrb;have iD:=hid a0;have iE:=hid a1;have iF:=hid a2;have iG:=hid a3;have lY:=hid b0;have lZ:=hid b1;have l6:=hid b2;have mg:=hid b3;clear a0 a1 a2 a3 b0 b1 b2 b3;obtain⟨iA,mh,mo,mq⟩:=aT (ay.low aL.out) iD.out iE.out iF.out iG.out;obtain⟨tQ,tT,tV,tX⟩:=aT (ay.low aL.out) lY.out lZ.out l6.out mg.out;have oD:g<w.heap.size:=bL iA;go_enter Tryz.func58,Tryz.ntmps58;go_wp2_with fail
 refine Calls.mono ((Cs W0 p B 4 [102,114,97,99]) _ _ _ (ay.fresh aL.out aF) fP.out.left) ?_;rintro _ w1 ⟨rfl,bO⟩;have bZ:=hid (ay.add (ay.fresh aL.out aF) bO);have jm:=hid (au.bG (show ag w _ from aF) bO);have jN:=hid (Fits.right fP.out);have bP:af w1 (w.heap.size) 24 #[kd,tx,cl,.slice (some ⟨g,o,none⟩) 2 cap]:=au.bk bO (by first|exact bH|assumption|exact bD (by assumption)) aL.out (by omega);obtain⟨dN,dO,dP,dQ,_⟩:=af.four bP;clear iA mh mo mq tQ tT tV tX;obtain⟨gm,kN,kP,kQ⟩:=aT (ay.low bZ.out) iD.out iE.out iF.out iG.out;obtain⟨rU,rV,rW,rX⟩:=aT (ay.low bZ.out) lY.out lZ.out l6.out mg.out;have lX:g<w1.heap.size:=bL gm;clear bO;go_wp2_with fail
 refine Calls.mono ((Td.out) _ _ _ (ay.fresh bZ.out aF) jN.out.left) ?_;rintro _ w2 ⟨rfl,dH⟩;have dM:=hid (ay.jS (ay.fresh bZ.out aF) dH);have kT:=hid (au.app jm.out (au.bG (show ag w1 _ from aF) dH));have mY:=hid (Fits.ni jN.out);have fF:af w2 (w.heap.size) 24 #[kd,tx,cl,.slice (some ⟨g,o,none⟩) 2 cap]:=au.bk dH (by first|exact bH|assumption|exact bD (by assumption)) aL.out (by omega);clear dN dO dP dQ bP;obtain⟨ig,iq,iw,iy,_⟩:=af.four fF;clear gm kN kP kQ rU rV rW rX;obtain⟨gV,nu,ny,nA⟩:=aT (ay.low dM.out) iD.out iE.out iF.out iG.out;obtain⟨uu,uw,uy,uz⟩:=aT (ay.low dM.out) lY.out lZ.out l6.out mg.out;have q8:g<w2.heap.size:=bL gV;clear dH;go_wp2_with fail
 refine Calls.mono ((zx.out) _ _ _ (ay.fresh dM.out aF) mY.out) ?_;rintro _ w3 ⟨rfl,fo⟩;have gI:=hid (ay.jS (ay.fresh dM.out aF) fo);have oW:=hid (au.app kT.out (au.bG (show ag w2 _ from aF) fo));have jB:af w3 (w.heap.size) 24 #[kd,tx,cl,.slice (some ⟨g,o,none⟩) 2 cap]:=au.bk fo (by first|exact bH|assumption|exact bD (by assumption)) aL.out (by omega);clear ig iq iw iy fF;obtain⟨mF,mG,mH,mI,_⟩:=af.four jB;clear gV nu ny nA uu uw uy uz;obtain⟨mD,vI,vJ,vK⟩:=aT (ay.low gI.out) iD.out iE.out iF.out iG.out;obtain⟨yP,yQ,yR,yS⟩:=aT (ay.low gI.out) lY.out lZ.out l6.out mg.out;have vL:g<w3.heap.size:=bL mD;clear fo;go_wp2_with fail
 first|go_end0|refine bodyPost_ret (v:=.tuple #[]) (results_none rfl _ _ _) rfl ?_
 exact⟨rfl,au.cast oW.out (by first|rfl|(simp only[List.append_assoc]<;>rfl))⟩
theorem aa8(W0:World)(p B:Nat)(kd tx cl:Value)(a b:Nd)(hk:a.kids≠[])(ha:xm W0 p B a)(hb:qZ W0 p B b)(sl:Value)(hsl:aD W0 [a,b] sl):lC 59 #[pp p,.agg #[kd,tx,cl,sl]] W0 p B ([Tr.name Tr.mU]++([Tr.aI 91]++(bC a.kids++([Tr.aI 93]++dD b)))):=by
 intro w toks txt hp hf;obtain⟨g,o,cap,sa,sb,rfl,a0,a1,a2,a3,hra,b0,b1,b2,b3,hrb⟩:=hsl.two;obtain⟨Aa,CJ,rfl⟩:=hra.slice;have FO:=hid (ha _ hra);clear ha;have zx:=hid (hb sb hrb);have aL:=hid hp;have fP:=hid hf;have hpos:0<a.kids.length:=by exact List.length_pos_iff.2 hk
 have d1:decide ((0:Int)<(a.kids.length:Int))=true:=dT (by omega);have jo:decide (0<a.kids.length)=true:=dT (by omega);have d1':(0:Int)<(a.kids.length:Int):=by omega
 clear hpos;clear hp hf hb hsl hra hrb hk;have iD:=hid a0;have iE:=hid a1;have iF:=hid a2;have iG:=hid a3;have lY:=hid b0;have lZ:=hid b1;have l6:=hid b2;have mg:=hid b3;clear a0 a1 a2 a3 b0 b1 b2 b3;obtain⟨iA,mh,mo,mq⟩:=aT (ay.low aL.out) iD.out iE.out iF.out iG.out;obtain⟨tQ,tT,tV,tX⟩:=aT (ay.low aL.out) lY.out lZ.out l6.out mg.out;have oD:g<w.heap.size:=bL iA;go_enter Tryz.func59,Tryz.ntmps59;go_wp2_with fail
 refine Calls.mono ((Cs W0 p B 4 [114,111,111,116]) _ _ _ (ay.fresh aL.out aF) fP.out.left) ?_;rintro _ w1 ⟨rfl,bO⟩;have bZ:=hid (ay.add (ay.fresh aL.out aF) bO);have jm:=hid (au.bG (show ag w _ from aF) bO);have jN:=hid (Fits.right fP.out);have bP:af w1 (w.heap.size) 24 #[kd,tx,cl,.slice (some ⟨g,o,none⟩) 2 cap]:=au.bk bO (by first|exact bH|assumption|exact bD (by assumption)) aL.out (by omega);obtain⟨dN,dO,dP,dQ,_⟩:=af.four bP;clear iA mh mo mq tQ tT tV tX;obtain⟨gm,kN,kP,kQ⟩:=aT (ay.low bZ.out) iD.out iE.out iF.out iG.out;obtain⟨rU,rV,rW,rX⟩:=aT (ay.low bZ.out) lY.out lZ.out l6.out mg.out;have lX:g<w1.heap.size:=bL gm;clear bO;go_wp2_with fail
 refine Calls.mono ((lu W0 p B [91]) _ _ _ (ay.fresh bZ.out aF) jN.out.left) ?_;rintro _ w2 ⟨rfl,dH⟩;have dM:=hid (ay.jS (ay.fresh bZ.out aF) dH);have kT:=hid (au.app jm.out (au.bG (show ag w1 _ from aF) dH));have mY:=hid (Fits.ni jN.out);have fF:af w2 (w.heap.size) 24 #[kd,tx,cl,.slice (some ⟨g,o,none⟩) 2 cap]:=au.bk dH (by first|exact bH|assumption|exact bD (by assumption)) aL.out (by omega);clear dN dO dP dQ bP;obtain⟨ig,iq,iw,iy,_⟩:=af.four fF;clear gm kN kP kQ rU rV rW rX;obtain⟨gV,nu,ny,nA⟩:=aT (ay.low dM.out) iD.out iE.out iF.out iG.out;obtain⟨uu,uw,uy,uz⟩:=aT (ay.low dM.out) lY.out lZ.out l6.out mg.out;have q8:g<w2.heap.size:=bL gV;clear dH;go_wp2_with fail
 refine Calls.mono ((FO.out) _ _ _ (ay.fresh dM.out aF) mY.out.left) ?_;rintro _ w3 ⟨rfl,fo⟩;have gI:=hid (ay.jS (ay.fresh dM.out aF) fo);have oW:=hid (au.app kT.out (au.bG (show ag w2 _ from aF) fo));have zM:=hid (Fits.ni mY.out);have jB:af w3 (w.heap.size) 24 #[kd,tx,cl,.slice (some ⟨g,o,none⟩) 2 cap]:=au.bk fo (by first|exact bH|assumption|exact bD (by assumption)) aL.out (by omega);clear ig iq iw iy fF;obtain⟨mF,mG,mH,mI,_⟩:=af.four jB;clear gV nu ny nA uu uw uy uz;obtain⟨mD,vI,vJ,vK⟩:=aT (ay.low gI.out) iD.out iE.out iF.out iG.out;obtain⟨yP,yQ,yR,yS⟩:=aT (ay.low gI.out) lY.out lZ.out l6.out mg.out;have vL:g<w3.heap.size:=bL mD;clear fo;go_wp2_with fail
 refine Calls.mono ((lu W0 p B [93]) _ _ _ (ay.fresh gI.out aF) zM.out.left) ?_;rintro _ w4 ⟨rfl,mQ⟩;have kU:=hid (ay.jS (ay.fresh gI.out aF) mQ);have Bh:=hid (au.app oW.out (au.bG (show ag w3 _ from aF) mQ));have Dt:=hid (Fits.ni zM.out);have rq:af w4 (w.heap.size) 24 #[kd,tx,cl,.slice (some ⟨g,o,none⟩) 2 cap]:=au.bk mQ (by first|exact bH|assumption|exact bD (by assumption)) aL.out (by omega);clear mF mG mH mI jB;obtain⟨vS,vT,vU,vV,_⟩:=af.four rq;clear mD vI vJ vK yP yQ yR yS;obtain⟨wQ,Ew,Ex,Ey⟩:=aT (ay.low kU.out) iD.out iE.out iF.out iG.out;obtain⟨Ez,EA,EB,EC⟩:=aT (ay.low kU.out) lY.out lZ.out l6.out mg.out;have FP:g<w4.heap.size:=bL wQ;clear mQ;go_wp2_with fail
 refine Calls.mono ((zx.out) _ _ _ (ay.fresh kU.out aF) Dt.out) ?_;rintro _ w5 ⟨rfl,qo⟩;have ru:=hid (ay.jS (ay.fresh kU.out aF) qo);have FQ:=hid (au.app Bh.out (au.bG (show ag w4 _ from aF) qo));have Bi:af w5 (w.heap.size) 24 #[kd,tx,cl,.slice (some ⟨g,o,none⟩) 2 cap]:=au.bk qo (by first|exact bH|assumption|exact bD (by assumption)) aL.out (by omega);clear vS vT vU vV rq;obtain⟨Jr,Js,Jt,Ju,_⟩:=af.four Bi;clear wQ Ew Ex Ey Ez EA EB EC;obtain⟨ED,Te,Tf,Tg⟩:=aT (ay.low ru.out) iD.out iE.out iF.out iG.out;obtain⟨Ti,Tj,Tk,Tm⟩:=aT (ay.low ru.out) lY.out lZ.out l6.out mg.out;have K4:g<w5.heap.size:=bL ED;clear qo;go_wp2_with fail
 first|go_end0|refine bodyPost_ret (v:=.tuple #[]) (results_none rfl _ _ _) rfl ?_
 exact⟨rfl,au.cast FQ.out (by first|rfl|(simp only[List.append_assoc]<;>rfl))⟩
theorem aa9(W0:World)(p B:Nat)(kd tx cl:Value)(a b:Nd)(hk:a.kids=[])(hb:qZ W0 p B b)(sl:Value)(hsl:aD W0 [a,b] sl):lC 59 #[pp p,.agg #[kd,tx,cl,sl]] W0 p B ([Tr.name Tr.mU]++dD b):=by
 intro w toks txt hp hf;obtain⟨g,o,cap,sa,sb,rfl,a0,a1,a2,a3,hra,b0,b1,b2,b3,hrb⟩:=hsl.two;obtain⟨Aa,CJ,rfl⟩:=hra.slice;have zx:=hid (hb sb hrb);have aL:=hid hp;have fP:=hid hf;have hpos:a.kids.length=0:=by rw[hk];rfl
 have d1:decide ((0:Int)<(a.kids.length:Int))=false:=dF (by omega);have jo:decide (0<a.kids.length)=false:=dF (by omega);have alc:=hid hpos;clear hpos;clear hp hf hb hsl hra hrb hk;have iD:=hid a0;have iE:=hid a1;have iF:=hid a2;have iG:=hid a3;have lY:=hid b0;have lZ:=hid b1;have l6:=hid b2;have mg:=hid b3;clear a0 a1 a2 a3 b0 b1 b2 b3;obtain⟨iA,mh,mo,mq⟩:=aT (ay.low aL.out) iD.out iE.out iF.out iG.out;obtain⟨tQ,tT,tV,tX⟩:=aT (ay.low aL.out) lY.out lZ.out l6.out mg.out;have oD:g<w.heap.size:=bL iA;go_enter Tryz.func59,Tryz.ntmps59;go_wp2_with fail
 refine Calls.mono ((Cs W0 p B 4 [114,111,111,116]) _ _ _ (ay.fresh aL.out aF) fP.out.left) ?_;rintro _ w1 ⟨rfl,bO⟩;have bZ:=hid (ay.add (ay.fresh aL.out aF) bO);have jm:=hid (au.bG (show ag w _ from aF) bO);have jN:=hid (Fits.right fP.out);have bP:af w1 (w.heap.size) 24 #[kd,tx,cl,.slice (some ⟨g,o,none⟩) 2 cap]:=au.bk bO (by first|exact bH|assumption|exact bD (by assumption)) aL.out (by omega);obtain⟨dN,dO,dP,dQ,_⟩:=af.four bP;clear iA mh mo mq tQ tT tV tX;obtain⟨gm,kN,kP,kQ⟩:=aT (ay.low bZ.out) iD.out iE.out iF.out iG.out;obtain⟨rU,rV,rW,rX⟩:=aT (ay.low bZ.out) lY.out lZ.out l6.out mg.out;have lX:g<w1.heap.size:=bL gm;clear bO;go_wp2_with fail
 refine Calls.mono ((zx.out) _ _ _ (ay.fresh bZ.out aF) jN.out) ?_;rintro _ w2 ⟨rfl,dH⟩;have dM:=hid (ay.jS (ay.fresh bZ.out aF) dH);have kT:=hid (au.app jm.out (au.bG (show ag w1 _ from aF) dH));have fF:af w2 (w.heap.size) 24 #[kd,tx,cl,.slice (some ⟨g,o,none⟩) 2 cap]:=au.bk dH (by first|exact bH|assumption|exact bD (by assumption)) aL.out (by omega);clear dN dO dP dQ bP;obtain⟨ig,iq,iw,iy,_⟩:=af.four fF;clear gm kN kP kQ rU rV rW rX;obtain⟨gV,nu,ny,nA⟩:=aT (ay.low dM.out) iD.out iE.out iF.out iG.out;obtain⟨uu,uw,uy,uz⟩:=aT (ay.low dM.out) lY.out lZ.out l6.out mg.out;have q8:g<w2.heap.size:=bL gV;clear dH;go_wp2_with fail
 first|go_end0|refine bodyPost_ret (v:=.tuple #[]) (results_none rfl _ _ _) rfl ?_
 exact⟨rfl,au.cast kT.out (by first|rfl|(simp only[List.append_assoc]<;>rfl))⟩
theorem aa'(W0:World)(p B:Nat)(kd cl:Value)(t:List UInt8)(a:Nd)(ha:qZ W0 p B a)(sl:Value)(hsl:aD W0 [a] sl):lC 61 #[pp p,.agg #[kd,.string ⟨t.toArray⟩,cl,sl]] W0 p B ([Tr.name t]++dD a):=by
 intro w toks txt hp hf;obtain⟨g,o,cap,sa,rfl,a0,a1,a2,a3,hra⟩:=hsl.one;have Td:=hid (ha sa hra);have aL:=hid hp;have fP:=hid hf;clear hp hf ha hsl hra;have iD:=hid a0;have iE:=hid a1;have iF:=hid a2;have iG:=hid a3;clear a0 a1 a2 a3;obtain⟨iA,mh,mo,mq⟩:=aT (ay.low aL.out) iD.out iE.out iF.out iG.out;have oD:g<w.heap.size:=bL iA;go_enter Tryz.func61,Tryz.ntmps61;go_wp2_with fail
 refine Calls.mono ((Cs W0 p B 4 t) _ _ _ (ay.fresh aL.out aF) fP.out.left) ?_;rintro _ w1 ⟨rfl,bO⟩;have bZ:=hid (ay.add (ay.fresh aL.out aF) bO);have jm:=hid (au.bG (show ag w _ from aF) bO);have jN:=hid (Fits.right fP.out);have bP:af w1 (w.heap.size) 24 #[kd,.string (⟨t.toArray⟩:ByteArray),cl,.slice (some ⟨g,o,none⟩) 1 cap]:=au.bk bO (by first|exact bH|assumption|exact bD (by assumption)) aL.out (by omega);obtain⟨dN,dO,dP,dQ,_⟩:=af.four bP;clear iA mh mo mq;obtain⟨gm,kN,kP,kQ⟩:=aT (ay.low bZ.out) iD.out iE.out iF.out iG.out;have lX:g<w1.heap.size:=bL gm;clear bO;go_wp2_with fail
 refine Calls.mono ((Td.out) _ _ _ (ay.fresh bZ.out aF) jN.out) ?_;rintro _ w2 ⟨rfl,dH⟩;have dM:=hid (ay.jS (ay.fresh bZ.out aF) dH);have kT:=hid (au.app jm.out (au.bG (show ag w1 _ from aF) dH));have fF:af w2 (w.heap.size) 24 #[kd,.string (⟨t.toArray⟩:ByteArray),cl,.slice (some ⟨g,o,none⟩) 1 cap]:=au.bk dH (by first|exact bH|assumption|exact bD (by assumption)) aL.out (by omega);clear dN dO dP dQ bP;obtain⟨ig,iq,iw,iy,_⟩:=af.four fF;clear gm kN kP kQ;obtain⟨gV,nu,ny,nA⟩:=aT (ay.low dM.out) iD.out iE.out iF.out iG.out;have q8:g<w2.heap.size:=bL gV;clear dH;go_wp2_with fail
 first|go_end0|refine bodyPost_ret (v:=.tuple #[]) (results_none rfl _ _ _) rfl ?_
 exact⟨rfl,au.cast kT.out (by first|rfl|(simp only[List.append_assoc]<;>rfl))⟩
theorem Tn(n:Nd)(sl:Value)(w:World):Calls Tryz.prog 99 #[nv n sl] w fun e w'=>e=.returned (.bool (Tr.gY n))∧ag w w':=by
 cases k7:(n.kind==7)with
 |true=>
  go_enter Tryz.func99,Tryz.ntmps99;go_wp2
  go_ret;exact⟨ai _ _ (by simp[Tr.gY,k7]),(M _ _).alloc _⟩
 |false=>
  cases k8:(n.kind==8)with
  |true=>
   go_enter Tryz.func99,Tryz.ntmps99;go_wp2
   go_ret;exact⟨ai _ _ (by simp[Tr.gY,k8]),(M _ _).alloc _⟩
  |false=>
   go_enter Tryz.func99,Tryz.ntmps99;go_wp2
   go_ret;exact⟨ai _ _ (by simp[Tr.gY,k7,k8]),(M _ _).alloc _⟩
end
end Go.Proofs.YtcgbccfpcgaikaaGreatDoor
