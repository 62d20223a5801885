/- Part 46 of 46 of a proof. No condition. -/
import Derived.Test.YtcgbccfpcgaikaaGreatDoorTie
import Derived.Test.YtcgbccfpcgaikaaGreatDoorCards
import Derived.OpenShut
import Derived.ChangeSlices
import Derived.LaidMore
import Derived.Lay
import Derived.SevenTiedAt
import Derived.Stop.Joined
import Derived.Test.YtcgbccfpcgaikaaGreatDoorYm45
import Derived.Test.YtcgbccfpcgaikaaGreatDoorYm43
import Derived.Test.YtcgbccfpcgaikaaGreatDoorYm29
import Derived.Test.YtcgbccfpcgaikaaGreatDoorYm10
set_option maxRecDepth 100000
set_option maxHeartbeats 4000000
namespace Go.Proofs.YtcgbccfpcgaikaaGreatDoor
section
open Go.RowKit
open Tr (Nd dD gG bC bT)
theorem Fits.mid{a b c:List Lx.Tok}{toks:List Lx.aB}{txt:List UInt8}(h:Fits (a++(b++c)) toks txt):Fits b (adds a toks txt).1 (adds a toks txt).2:=h.right.left
def aee(W0:World)(p B:Nat)(x:Nd):Prop:=
 ∃fid:Nat,(∀w:World,(Instr.index 74 (.agg sV) (.int .i64 x.kind)).run Tryz.prog w=.ok (.func (.func fid) #[] #[]) w)∧
  (∀(a:Array Value) (w:World),(callFunc fid a).run Tryz.prog w=.ok (.enter fid a) w)∧
  ∀sx,aD W0 x.kids sx→lC fid #[pp p,nv x sx] W0 p B (bT x)
theorem abl(l:List Nd)(j:Nat)(h:j<l.length):bC (l.take (j+1))=bC (l.take j)++bT l[j]:=by
 induction l generalizing j with
 |nil=>simp at h
 |cons x l ih=>
  cases j with
  |zero=>simp[Tr.o5,Tr.qU]
  |succ j=>
   simp only[List.take_succ_cons,Tr.o5,List.getElem_cons_succ];rw[ih j (by simpa using h),List.append_assoc]
theorem YD(l:List Nd)(j:Nat)(h:j<l.length):∃r,bC l=bC (l.take j)++(bT l[j]++r):=by
 induction l generalizing j with
 |nil=>simp at h
 |cons x l ih=>
  cases j with
  |zero=>exact⟨bC l,by simp[Tr.o5,Tr.qU]⟩
  |succ j=>
   obtain⟨r,hr⟩:=ih j (by simpa using h);refine⟨r,?_⟩;simp only[List.take_succ_cons,Tr.o5,List.getElem_cons_succ];rw[hr,List.append_assoc]
theorem agY(W0:World)(p B:Nat)(n:Nd)(hi:∀x∈n.kids,aee W0 p B x):xm W0 p B n:=by
 intro sl hsl w toks txt hp hf;obtain⟨A,cap,rfl⟩:=hsl.slice;have hlen:=hsl.len;unfold maxLen at hlen;have HI:=hid hi;have yD:=hid hsl;have aL:=hid hp;have fP:=hid hf;have hfw:ag w (w.alloc (.cells #[.int .i64 n.kind,.string ⟨n.text.toArray⟩,.int .i64 n.ah,.slice A n.kids.length cap] 24)):=(M _ _).alloc _;have Lu:=hid hfw;clear hi hsl hp hf hfw;go_enter Tryz.func17,Tryz.ntmps17;go_wp2
 go_loopw [9] (fun i wr=>∃j:Nat,i=.int .i64 j∧j≤n.kids.length∧Hd (ay W0 p B wr (adds (bC (n.kids.take j)) toks txt).1 (adds (bC (n.kids.take j)) toks txt).2)∧Hd (au w wr p B toks txt (bC (n.kids.take j)))) (fun i _=>n.kids.length-(intOf i).toNat)
 case atStart=>exact⟨0,rfl,Nat.zero_le _,by rw[List.take_zero,Tr.qU];exact aL.out.fresh Lu.out,by
   rw[List.take_zero,Tr.qU];obtain⟨vt,vb,cs,hpr⟩:=aL.out.pr;exact⟨vt,vb,cs,hpr.fresh Lu.out,PS.fresh Lu.out⟩⟩
 case round=>
  obtain⟨j,rfl,hj,mR,K5⟩:=hrel
  by_cases c1:j<n.kids.length
  ·have d1:decide ((j:Int)<(n.kids.length:Int))=true:=dT (by omega)
   have jo:decide (j<n.kids.length)=true:=dT (by omega);have d1':(j:Int)<(n.kids.length:Int):=by omega
   obtain⟨g,o,sx,rfl,hg,m0,m1,m2,m3,su⟩:=yD.out.get j c1;obtain⟨Ax,I7,rfl⟩:=su.slice;obtain⟨fid,hix,hcf,hem⟩:=HI.out n.kids[j] (List.getElem_mem c1);obtain⟨r,hr⟩:=YD n.kids j c1;have nK:=hid (abl n.kids j c1);have FIT:=hid (Fits.mid (show Fits (bC (n.kids.take j)++(bT n.kids[j]++r)) toks txt by rw[←hr];exact fP.out));have EM:=hid (hem _ su);have a0:=Low.cell (ay.low mR.out) m0;have a1:=Low.cell (ay.low mR.out) m1;have a2:=Low.cell (ay.low mR.out) m2;have a3:=Low.cell (ay.low mR.out) m3;have hgw:g<wr.heap.size:=bL a0;clear m0 m1 m2 m3 su hem hr hg HI yD;generalize n.kids[j]=x at*;go_wp2_with fail
   refine bK (fun W=>ag wr W∧af W wr.heap.size 24 #[.int .i64 x.kind,.string ⟨x.text.toArray⟩,.int .i64 x.ah,.slice Ax x.kids.length I7]) ⟨(M _ _).alloc _,af.new _ _ _⟩ ?_;rintro W4 ⟨jf,hb4⟩;obtain⟨q0,q1,q2,q3,_,_,_,_,hg4⟩:=af.four hb4;have g0:=cR q0;have g1:=cR q1;have g2:=cR q2;have g3:=cR q3;have eZ:=hid jf;have CV:=hid (lJ (P:=Tryz.prog) W4 (fun w _=>Q8 w));clear jf hb4 a0 a1 a2 a3;refine oP [([0,1,2,3,4,5],6)] [] (by kernel_rfl) (by kernel_rfl) ?_;simp only[vR,pick,List.getElem?_cons_zero,List.getElem?_cons_succ]
   repeat(quiet_step (with_reducible exact CV.out _ _))
   refine wpQuiet_nil ?_;rintro W5 ⟨⟨_,_⟩,vz⟩;have jO:ag W4 W5:=by rw[vz];exact aZ (below_regrown _ _ _)
   have eY:=hid jO;clear vz jO q0 q1 q2 q3 g0 g1 g2 g3;go_wp2_with fail
   refine(EM.out _ _ _ (mR.out.fresh (Touch.trans eZ.out eY.out)) FIT.out).mono ?_;rintro _ w6 ⟨rfl,h6⟩;have ajI:=hid (ay.jS (mR.out.fresh (Touch.trans eZ.out eY.out)) h6);have ajJ:=hid (au.app K5.out (au.bG (Touch.trans eZ.out eY.out) h6));clear h6;go_wp2_with fail
   refine wpQuiet_nil ?_;rintro W7 ⟨⟨_,_⟩,Ir⟩;have gX:ag w6 W7:=by rw[Ir];exact aZ (below_regrown _ _ _)
   have gW:=hid gX;clear Ir gX;go_wp2
   go_roundw
   case rel=>exact⟨j+1,by go_num,c1,by rw[nK.out];exact ajI.out.fresh gW.out,by rw[nK.out];exact ajJ.out.Am gW.out⟩
   case measure=>simp[intOf];omega
  ·have d1:decide ((j:Int)<(n.kids.length:Int))=false:=dF (by omega)
   have jo:decide (j<n.kids.length)=false:=dF (by omega);obtain rfl:j=n.kids.length:=by omega
   have HA:=hid (show au w wr p B toks txt (bC n.kids) by
    have:=K5.out
    rwa [List.take_length]at this)
   go_wp2_with fail
   go_end0
   exact⟨rfl,HA.out⟩
end
section
open Go.RowKit
open Tr (Nd dD gG bC bT bF View fE)
def FT(c:Int)(i:Nat):List Lx.Tok:=if i=0 then []else if(i:Int)%c=0 then [⟨8,[92,92]⟩]else [Tr.aI 38]
theorem Dv(c:Int)(i:Nat)(n:Nd)(ns:List Nd):bF c i (n::ns)=FT c i++(bC n.kids++bF c (i+1) ns):=by rw[bF];rfl
theorem Bo(c:Int)(i:Nat):bF c i []=[]:=by rw[bF]
theorem Ve(c:Int)(l:List Nd):∀(i j:Nat) (h:j<l.length),bF c i (l.take (j+1))=bF c i (l.take j)++(FT c (i+j)++bC l[j].kids):=by
 induction l with
 |nil=>intro i j h;simp at h
 |cons x l ih=>
  intro i j h;cases j with
  |zero=>simp[Dv,Bo]
  |succ j=>
   simp only[List.take_succ_cons,Dv,List.getElem_cons_succ];rw[ih (i+1) j (by simpa using h),show i+1+j=i+(j+1) by omega];simp only[List.append_assoc]
theorem TL(c:Int)(l:List Nd):∀(i j:Nat) (h:j<l.length),∃r,bF c i l=bF c i (l.take j)++(FT c (i+j)++(bC l[j].kids++r)):=by
 induction l with
 |nil=>intro i j h;simp at h
 |cons x l ih=>
  intro i j h;cases j with
  |zero=>exact⟨bF c (i+1) l,by simp[Dv,Bo]⟩
  |succ j=>
   obtain⟨r,hr⟩:=ih (i+1) j (by simpa using h);refine⟨r,?_⟩;simp only[List.take_succ_cons,Dv,List.getElem_cons_succ];rw[hr,show i+1+j=i+(j+1) by omega];simp only[List.append_assoc]
theorem abm(W0:World)(p B:Nat)(kd tx:Value)(c:Int)(ks:List Nd)(hc:1≤c)(hc':c≤1000000)(hk:∀x∈ks,xm W0 p B x)(sl:Value)(hsl:aD W0 ks sl):
  lC 63 #[pp p,.agg #[kd,tx,.int .i64 c,sl]] W0 p B ([Tr.name Tr.bY]++([Tr.aI 123]++(bF c 0 ks++[Tr.aI 125]))):=by
 intro w toks txt hp hf;obtain⟨A,cap,rfl⟩:=hsl.slice;have hlen:=hsl.len;unfold maxLen at hlen;have HK:=hid hk;have yD:=hid hsl;have aL:=hid hp;have fP:=hid hf;have hc0:(c==0)=false:=by rw[beq_eq_false_iff_ne];omega
 have hc1:0<c:=by omega
 have hc2:0≤c:=by omega
 clear hk hsl hp hf;go_enter Tryz.func63,Tryz.ntmps63;go_wp2_with fail
 refine Calls.mono ((Cs W0 p B 4 [109,97,116,114,105,120]) _ _ _ (ay.fresh aL.out aF) fP.out.left) ?_;rintro _ w1 ⟨rfl,bO⟩;have bZ:=hid (ay.add (ay.fresh aL.out aF) bO);have jm:=hid (au.bG (show ag w _ from aF) bO);have jN:=hid (Fits.right fP.out);have bP:af w1 (w.heap.size) 24 #[kd,tx,.int .i64 c,.slice A ks.length cap]:=au.bk bO (by first|exact bH|assumption|exact bD (by assumption)) aL.out (by omega);obtain⟨dN,dO,dP,dQ,_⟩:=af.four bP;clear bO;go_wp2_with fail
 refine Calls.mono ((lu W0 p B [123]) _ _ _ (ay.fresh bZ.out aF) jN.out.left) ?_;rintro _ w2 ⟨rfl,dH⟩;have dM:=hid (ay.jS (ay.fresh bZ.out aF) dH);have kT:=hid (au.app jm.out (au.bG (show ag w1 _ from aF) dH));have mY:=hid (Fits.ni jN.out);have fF:af w2 (w.heap.size) 24 #[kd,tx,.int .i64 c,.slice A ks.length cap]:=au.bk dH (by first|exact bH|assumption|exact bD (by assumption)) aL.out (by omega);clear dN dO dP dQ bP;obtain⟨ig,iq,iw,iy,_⟩:=af.four fF;clear dH;go_wp2
 go_loopw [13] (fun i wr=>∃j:Nat,i=.int .i64 j∧j≤ks.length∧Hd (ay W0 p B wr (adds ([Tr.name Tr.bY]++[Tr.aI 123]++bF c 0 (ks.take j)) toks txt).1 (adds ([Tr.name Tr.bY]++[Tr.aI 123]++bF c 0 (ks.take j)) toks txt).2)∧Hd (au w wr p B toks txt ([Tr.name Tr.bY]++[Tr.aI 123]++bF c 0 (ks.take j)))∧Hd (af wr w.heap.size 24 #[kd,tx,.int .i64 c,.slice A ks.length cap])) (fun i _=>ks.length-(intOf i).toNat)
 case atStart=>exact⟨0,rfl,Nat.zero_le _,by rw[List.take_zero,Bo,List.append_nil];exact dM.out,by rw[List.take_zero,Bo,List.append_nil];exact kT.out,fF⟩
 case round=>
  obtain⟨j,rfl,hj,mR,K5,HB⟩:=hrel
  by_cases c1:j<ks.length
  ·have d1:decide ((j:Int)<(ks.length:Int))=true:=dT (by omega)
   have wV:w.heap.size<wr.heap.size:=af.lt HB.out;have jo:decide (j<ks.length)=true:=dT (by omega);have d1':(j:Int)<(ks.length:Int):=by omega
   obtain⟨g,o,sx,rfl,hg,m0,m1,m2,m3,su⟩:=yD.out.get j c1;obtain⟨Ax,I7,rfl⟩:=su.slice;have adT:=hid (HK.out ks[j] (List.getElem_mem c1) _ su);obtain⟨r,hr⟩:=TL c ks 0 j c1;have nK:=hid (Ve c ks 0 j c1);rw[Nat.zero_add]at hr nK
   have adU:=hid (show Fits (([Tr.name Tr.bY]++[Tr.aI 123]++bF c 0 (ks.take j))++((FT c j++bC ks[j].kids)++(r++[Tr.aI 125]))) toks txt by
    have:=fP.out;rw[hr]at this;simpa only[List.append_assoc]using this)
   have rP:=hid m0;have rQ:=hid m1;have rR:=hid m2;have rT:=hid m3;have lM:=Low.cell (ay.low mR.out) m0;have pO:=Low.cell (ay.low mR.out) m1;have pQ:=Low.cell (ay.low mR.out) m2;have pR:=Low.cell (ay.low mR.out) m3;have ajK:g<wr.heap.size:=bL lM;clear m0 m1 m2 m3 su hr hg HK yD;generalize ks[j]=x at*;obtain⟨nE,nG,nH,nI,_⟩:=af.four HB.out;have qE:af wr w.heap.size 24 #[kd,tx,.int .i64 c,.slice (some ⟨g,o,none⟩) ks.length cap]:=HB.out
   by_cases j0:j=0
   ·subst j0
    have I8:=hid (show FT c 0=[]from by rfl)
    have K6:=hid (show Fits (bC x.kids) (adds ([Tr.name Tr.bY]++[Tr.aI 123]++bF c 0 (ks.take 0)) toks txt).1 (adds ([Tr.name Tr.bY]++[Tr.aI 123]++bF c 0 (ks.take 0)) toks txt).2 by
     have:=adU.out.mid;rw[I8.out]at this;exact this)
    rw[Nat.zero_mul,Nat.add_zero]at lM pO pQ pR;have XY0:Hd (W0.cell? ⟨g,o,none⟩=some (.int .i64 x.kind)):=by have:=rP.out;rw[Nat.zero_mul,Nat.add_zero]at this;exact this
    have XY1:Hd (W0.cell? ⟨g,o+1,none⟩=some (.string (⟨x.text.toArray⟩:ByteArray))):=by have:=rQ.out;rw[Nat.zero_mul,Nat.add_zero]at this;exact this
    have XY2:Hd (W0.cell? ⟨g,o+2,none⟩=some (.int .i64 x.ah)):=by have:=rR.out;rw[Nat.zero_mul,Nat.add_zero]at this;exact this
    have XY3:Hd (W0.cell? ⟨g,o+3,none⟩=some (.slice Ax x.kids.length I7)):=by have:=rT.out;rw[Nat.zero_mul,Nat.add_zero]at this;exact this
    go_wp2_with fail
    refine Calls.mono ((adT.out) _ _ _ (ay.fresh mR.out aF) K6.out) ?_;rintro _ w3 ⟨rfl,fo⟩;have gI:=hid (ay.jS (ay.fresh mR.out aF) fo);have oW:=hid (au.app K5.out (au.bG (show ag wr _ from aF) fo));have jB:af w3 (w.heap.size) 24 #[kd,tx,.int .i64 c,.slice (some ⟨g,o,none⟩) ks.length cap]:=au.bk fo (by first|exact bH|assumption|exact bD (by assumption)) aL.out (by omega);have uM:af w3 (wr.heap.size) 24 #[.int .i64 x.kind,.string (⟨x.text.toArray⟩:ByteArray),.int .i64 x.ah,.slice Ax x.kids.length I7]:=au.blk fo (by first|exact bH|assumption|exact bD (by assumption)) (by have:=ay.lt mR.out;have:=ay.hB mR.out;omega) (by decide) (by decide);clear nE nG nH nI qE;obtain⟨mF,mG,mH,mI,_⟩:=af.four jB;obtain⟨xy,xA,xB,xC,_⟩:=af.four uM;clear lM pO pQ pR;obtain⟨agZ,akl,akm,akn⟩:=aT (ay.low gI.out) XY0.out XY1.out XY2.out XY3.out;have vL:g<w3.heap.size:=bL agZ;clear fo;go_wp2
    go_roundw
    case rel=>
     have HE:=hid (show [Tr.name Tr.bY]++[Tr.aI 123]++bF c 0 (ks.take 0)++bC x.kids=[Tr.name Tr.bY]++[Tr.aI 123]++bF c 0 (ks.take (0+1))from by have h:=nK.out;rw[I8.out]at h;rw[h];simp only[List.append_assoc,List.nil_append]);have I9:=gI.out;have hacc:=oW.out;rw[HE.out]at I9 hacc;exact⟨0+1,by go_num,by omega,I9,hacc,jB⟩
    case measure=>simp[intOf];omega
   ·have e0:((j:Int)==0)=false:=by rw[beq_eq_false_iff_ne];omega
    have e0n:(j==0)=false:=by rw[beq_eq_false_iff_ne];omega
    by_cases jc:(j:Int)%c=0
    ·have e1:((j:Int)%c==0)=true:=by rw[beq_iff_eq];exact jc
     have I8:=hid (show FT c j=[⟨8,[92,92]⟩]from by unfold FT;rw[if_neg j0,if_pos jc])
     have K6:=hid (show Fits ([⟨8,[92,92]⟩]++bC x.kids) (adds ([Tr.name Tr.bY]++[Tr.aI 123]++bF c 0 (ks.take j)) toks txt).1 (adds ([Tr.name Tr.bY]++[Tr.aI 123]++bF c 0 (ks.take j)) toks txt).2 by
      have:=adU.out.mid;rw[I8.out]at this;exact this)
     clear j0 jc;go_wp2_with fail
     refine Calls.mono ((Cs W0 p B 8 [92,92]) _ _ _ (ay.fresh mR.out aF) K6.out.left) ?_;rintro _ w4 ⟨rfl,mQ⟩;have kU:=hid (ay.jS (ay.fresh mR.out aF) mQ);have Bh:=hid (au.app K5.out (au.bG (show ag wr _ from aF) mQ));have Dt:=hid (Fits.ni K6.out);have rq:af w4 (w.heap.size) 24 #[kd,tx,.int .i64 c,.slice (some ⟨g,o,none⟩) ks.length cap]:=au.bk mQ (by first|exact bH|assumption|exact bD (by assumption)) aL.out (by omega);have zN:af w4 (wr.heap.size) 24 #[.int .i64 x.kind,.string (⟨x.text.toArray⟩:ByteArray),.int .i64 x.ah,.slice Ax x.kids.length I7]:=au.blk mQ (by first|exact bH|assumption|exact bD (by assumption)) (by have:=ay.lt mR.out;have:=ay.hB mR.out;omega) (by decide) (by decide);clear nE nG nH nI qE;obtain⟨vS,vT,vU,vV,_⟩:=af.four rq;obtain⟨Bt,Bu,Bv,Bw,_⟩:=af.four zN;clear lM pO pQ pR;obtain⟨zU,GM,GN,GQ⟩:=aT (ay.low kU.out) rP.out rQ.out rR.out rT.out;have FP:g<w4.heap.size:=bL zU;clear mQ;go_wp2_with fail
     refine Calls.mono ((adT.out) _ _ _ (ay.fresh kU.out aF) Dt.out) ?_;rintro _ w5 ⟨rfl,qo⟩;have ru:=hid (ay.jS (ay.fresh kU.out aF) qo);have FQ:=hid (au.app Bh.out (au.bG (show ag w4 _ from aF) qo));have Bi:af w5 (w.heap.size) 24 #[kd,tx,.int .i64 c,.slice (some ⟨g,o,none⟩) ks.length cap]:=au.bk qo (by first|exact bH|assumption|exact bD (by assumption)) aL.out (by omega);have Jv:af w5 (wr.heap.size) 24 #[.int .i64 x.kind,.string (⟨x.text.toArray⟩:ByteArray),.int .i64 x.ah,.slice Ax x.kids.length I7]:=au.blk qo (by first|exact bH|assumption|exact bD (by assumption)) (by have:=ay.lt mR.out;have:=ay.hB mR.out;omega) (by decide) (by decide);clear vS vT vU vV rq Bt Bu Bv Bw zN;obtain⟨Jr,Js,Jt,Ju,_⟩:=af.four Bi;obtain⟨NC,ND,NF,NG,_⟩:=af.four Jv;clear zU GM GN GQ;obtain⟨zV,Eb,Ec,Ed⟩:=aT (ay.low ru.out) rP.out rQ.out rR.out rT.out;have K4:g<w5.heap.size:=bL zV;clear qo;go_wp2
     go_roundw
     case rel=>
      have HE:=hid (show [Tr.name Tr.bY]++[Tr.aI 123]++bF c 0 (ks.take j)++[⟨8,[92,92]⟩]++bC x.kids=[Tr.name Tr.bY]++[Tr.aI 123]++bF c 0 (ks.take (j+1))from by have h:=nK.out;rw[I8.out]at h;rw[h];simp only[List.append_assoc]);have I9:=ru.out;have hacc:=FQ.out;rw[HE.out]at I9 hacc;exact⟨j+1,by go_num,by omega,I9,hacc,Bi⟩
     case measure=>simp[intOf];omega
    ·have e1:((j:Int)%c==0)=false:=by rw[beq_eq_false_iff_ne];exact jc
     have I8:=hid (show FT c j=[⟨7,[38]⟩]from by unfold FT;rw[if_neg j0,if_neg jc];rfl)
     have K6:=hid (show Fits ([⟨7,[38]⟩]++bC x.kids) (adds ([Tr.name Tr.bY]++[Tr.aI 123]++bF c 0 (ks.take j)) toks txt).1 (adds ([Tr.name Tr.bY]++[Tr.aI 123]++bF c 0 (ks.take j)) toks txt).2 by
      have:=adU.out.mid;rw[I8.out]at this;exact this)
     clear j0 jc;go_wp2_with fail
     refine Calls.mono ((lu W0 p B [38]) _ _ _ (ay.fresh mR.out aF) K6.out.left) ?_;rintro _ w6 ⟨rfl,CK⟩;have Du:=hid (ay.jS (ay.fresh mR.out aF) CK);have YC:=hid (au.app K5.out (au.bG (show ag wr _ from aF) CK));have ahx:=hid (Fits.ni K6.out);have EU:af w6 (w.heap.size) 24 #[kd,tx,.int .i64 c,.slice (some ⟨g,o,none⟩) ks.length cap]:=au.bk CK (by first|exact bH|assumption|exact bD (by assumption)) aL.out (by omega);have P7:af w6 (wr.heap.size) 24 #[.int .i64 x.kind,.string (⟨x.text.toArray⟩:ByteArray),.int .i64 x.ah,.slice Ax x.kids.length I7]:=au.blk CK (by first|exact bH|assumption|exact bD (by assumption)) (by have:=ay.lt mR.out;have:=ay.hB mR.out;omega) (by decide) (by decide);clear nE nG nH nI qE;obtain⟨MZ,M0,M3,M4,_⟩:=af.four EU;obtain⟨VS,VT,VU,VV,_⟩:=af.four P7;clear lM pO pQ pR;obtain⟨GR,QU,QV,QW⟩:=aT (ay.low Du.out) rP.out rQ.out rR.out rT.out;have adS:g<w6.heap.size:=bL GR;clear CK;go_wp2_with fail
     refine Calls.mono ((adT.out) _ _ _ (ay.fresh Du.out aF) ahx.out) ?_;rintro _ w7 ⟨rfl,TM⟩;have aef:=hid (ay.jS (ay.fresh Du.out aF) TM);have ahy:=hid (au.app YC.out (au.bG (show ag w6 _ from aF) TM));have aeg:af w7 (w.heap.size) 24 #[kd,tx,.int .i64 c,.slice (some ⟨g,o,none⟩) ks.length cap]:=au.bk TM (by first|exact bH|assumption|exact bD (by assumption)) aL.out (by omega);have ahz:af w7 (wr.heap.size) 24 #[.int .i64 x.kind,.string (⟨x.text.toArray⟩:ByteArray),.int .i64 x.ah,.slice Ax x.kids.length I7]:=au.blk TM (by first|exact bH|assumption|exact bD (by assumption)) (by have:=ay.lt mR.out;have:=ay.hB mR.out;omega) (by decide) (by decide);clear MZ M0 M3 M4 EU VS VT VU VV P7;obtain⟨ajR,ajS,ajT,ajU,_⟩:=af.four aeg;obtain⟨ajV,ajW,ajX,ajY,_⟩:=af.four ahz;clear GR QU QV QW;obtain⟨ag0,ako,akp,akq⟩:=aT (ay.low aef.out) rP.out rQ.out rR.out rT.out;have ajL:g<w7.heap.size:=bL ag0;clear TM;go_wp2
     go_roundw
     case rel=>
      have HE:=hid (show [Tr.name Tr.bY]++[Tr.aI 123]++bF c 0 (ks.take j)++[⟨7,[38]⟩]++bC x.kids=[Tr.name Tr.bY]++[Tr.aI 123]++bF c 0 (ks.take (j+1))from by have h:=nK.out;rw[I8.out]at h;rw[h];simp only[List.append_assoc]);have I9:=aef.out;have hacc:=ahy.out;rw[HE.out]at I9 hacc;exact⟨j+1,by go_num,by omega,I9,hacc,aeg⟩
     case measure=>simp[intOf];omega
  ·have d1:decide ((j:Int)<(ks.length:Int))=false:=dF (by omega)
   have wV:w.heap.size<wr.heap.size:=af.lt HB.out;have jo:decide (j<ks.length)=false:=dF (by omega);obtain rfl:j=ks.length:=by omega
   obtain⟨nE,nG,nH,nI,_⟩:=af.four HB.out;have qE:af wr w.heap.size 24 #[kd,tx,.int .i64 c,.slice A ks.length cap]:=HB.out
   have ajM:=hid (show au w wr p B toks txt ([Tr.name Tr.bY]++[Tr.aI 123]++bF c 0 ks) by
    have:=K5.out
    rwa [List.take_length]at this)
   have ag1:=hid (show ay W0 p B wr (adds ([Tr.name Tr.bY]++[Tr.aI 123]++bF c 0 ks) toks txt).1 (adds ([Tr.name Tr.bY]++[Tr.aI 123]++bF c 0 ks) toks txt).2 by
    have:=mR.out
    rwa [List.take_length]at this)
   have ajN:=hid (Fits.right (l:=[Tr.name Tr.bY]++[Tr.aI 123]++bF c 0 ks) (m:=[Tr.aI 125]) (by have:=fP.out;simpa only[List.append_assoc]using this));go_wp2_with fail
   refine Calls.mono ((lu W0 p B [125]) _ _ _ (ay.fresh ag1.out aF) ajN.out) ?_;rintro _ w8 ⟨rfl,YE⟩;have akK:=hid (ay.jS (ay.fresh ag1.out aF) YE);have ahA:=hid (au.app ajM.out (au.bG (show ag wr _ from aF) YE));have ahB:af w8 (w.heap.size) 24 #[kd,tx,.int .i64 c,.slice A ks.length cap]:=au.bk YE (by first|exact bH|assumption|exact bD (by assumption)) aL.out (by omega);clear nE nG nH nI qE;obtain⟨ajZ,aj0,aj1,aj2,_⟩:=af.four ahB;clear YE;go_wp2_with fail
   first|go_end0|refine bodyPost_ret (v:=.tuple #[]) (results_none rfl _ _ _) rfl ?_
   exact⟨rfl,au.cast ahA.out (by first|rfl|(simp only[List.append_assoc]<;>rfl))⟩
end
section
open Go.RowKit
open Tr (Nd dD gG bC bT bF View fE)
attribute [local go_sem] Oper.semAt_some
theorem K7(W0:World)(p B:Nat)(tx cl:Value)(a b:Nd)(ha:xm W0 p B a)(hb:qZ W0 p B b)(sl:Value)(hsl:aD W0 [a,b] sl):lC 60 #[pp p,.agg #[.int .i64 7,tx,cl,sl]] W0 p B (gG a++([Tr.aI 95]++dD b)):=by
 by_cases h1:a.kids.length=1
 ·obtain⟨x,hx⟩:=List.length_eq_one_iff.1 h1
  cases hs:Tr.gY x with
  |true=>exact wC W0 p B _ _ (.inl (by decide)) tx cl a b x hx (.inr ⟨hs,vH W0 p B a ha⟩) hb sl hsl
  |false=>exact wC W0 p B _ _ (.inl (by decide)) tx cl a b x hx (.inl ⟨hs,ha⟩) hb sl hsl
 ·exact EE W0 p B _ _ (.inl (by decide)) tx cl a b h1 (vH W0 p B a ha) hb sl hsl
theorem K8(W0:World)(p B:Nat)(tx cl:Value)(a b:Nd)(ha:xm W0 p B a)(hb:qZ W0 p B b)(sl:Value)(hsl:aD W0 [a,b] sl):lC 60 #[pp p,.agg #[.int .i64 8,tx,cl,sl]] W0 p B (gG a++([Tr.aI 94]++dD b)):=by
 by_cases h1:a.kids.length=1
 ·obtain⟨x,hx⟩:=List.length_eq_one_iff.1 h1
  cases hs:Tr.gY x with
  |true=>exact wC W0 p B _ _ (.inr (by decide)) tx cl a b x hx (.inr ⟨hs,vH W0 p B a ha⟩) hb sl hsl
  |false=>exact wC W0 p B _ _ (.inr (by decide)) tx cl a b x hx (.inl ⟨hs,ha⟩) hb sl hsl
 ·exact EE W0 p B _ _ (.inr (by decide)) tx cl a b h1 (vH W0 p B a ha) hb sl hsl
theorem Jw(W0:World)(p B:Nat)(tx cl:Value)(a b d:Nd)(ha:xm W0 p B a)(hb:qZ W0 p B b)(hd:qZ W0 p B d)(sl:Value)(hsl:aD W0 [a,b,d] sl):lC 60 #[pp p,.agg #[.int .i64 9,tx,cl,sl]] W0 p B (gG a++([Tr.aI 95]++(dD b++([Tr.aI 94]++dD d)))):=by
 by_cases h1:a.kids.length=1
 ·obtain⟨x,hx⟩:=List.length_eq_one_iff.1 h1
  cases hs:Tr.gY x with
  |true=>exact Gc W0 p B tx cl a b d x hx (.inr ⟨hs,vH W0 p B a ha⟩) hb hd sl hsl
  |false=>exact Gc W0 p B tx cl a b d x hx (.inl ⟨hs,ha⟩) hb hd sl hsl
 ·exact PE W0 p B tx cl a b d h1 (vH W0 p B a ha) hb hd sl hsl
theorem afb(t:Tr.Bytes):(if t.length=1 then(⟨1,t⟩:Lx.Tok)else⟨4,t⟩)=⟨if t.length=1 then 1 else 4,t⟩:=by split<;>rfl
theorem afc(W0:World)(p B:Nat)(x:Nd)(v:View x)(hc:Tr.count x≤1000000)(h:∀a∈x.kids,xm W0 p B a):aee W0 p B x:=by
 have hA:∀a∈x.kids,qZ W0 p B a:=fun a ha=>U9 W0 p B a (h a ha)
 cases v with
 |sym t ht=>exact⟨_,fun _=>by kernel_rfl,fun _ _=>by kernel_rfl,fun sx hr=>by rw[Tr.rZ,afb];exact aaP W0 p B (.mk 2 t 0 []) sx⟩
 |num t ht=>exact⟨_,fun _=>by kernel_rfl,fun _ _=>by kernel_rfl,fun sx hr=>by rw[Tr.r9];exact aaN W0 p B (.mk 3 t 0 []) sx⟩
 |text t ht=>exact⟨_,fun _=>by kernel_rfl,fun _ _=>by kernel_rfl,fun sx hr=>by rw[Tr.qA];exact aaO W0 p B (.mk 4 t 0 []) sx⟩
 |Gn a b ha hb=>exact⟨_,fun _=>by kernel_rfl,fun _ _=>by kernel_rfl,fun sx hr=>by rw[Tr.vO];exact Va W0 p B _ _ _ a b (hA a (by simp[Nd.kids])) (hA b (by simp[Nd.kids])) sx hr⟩
 |root a b ha hb=>
  refine⟨59,fun _=>by kernel_rfl,fun _ _=>by kernel_rfl,fun sx hr=>?_⟩;rw[Tr.vP]
  by_cases hk:a.kids=[]
  ·rw[if_pos hk];exact aa9 W0 p B _ _ _ a b hk (hA b (by simp[Nd.kids])) sx hr
  ·rw[if_neg hk,List.cons_append,List.append_assoc];exact aa8 W0 p B _ _ _ a b hk (h a (by simp[Nd.kids])) (hA b (by simp[Nd.kids])) sx hr
 |sub a b ha hb=>exact⟨_,fun _=>by kernel_rfl,fun _ _=>by kernel_rfl,fun sx hr=>by rw[Tr.zQ];exact K7 W0 p B _ _ a b (h a (by simp[Nd.kids])) (hA b (by simp[Nd.kids])) sx hr⟩
 |sup a b ha hb=>exact⟨_,fun _=>by kernel_rfl,fun _ _=>by kernel_rfl,fun sx hr=>by rw[Tr.zR];exact K8 W0 p B _ _ a b (h a (by simp[Nd.kids])) (hA b (by simp[Nd.kids])) sx hr⟩
 |both a b d ha hb hd=>exact⟨_,fun _=>by kernel_rfl,fun _ _=>by kernel_rfl,fun sx hr=>by rw[Tr.xR];exact Jw W0 p B _ _ a b d (h a (by simp[Nd.kids])) (hA b (by simp[Nd.kids])) (hA d (by simp[Nd.kids])) sx hr⟩
 |zP t a ht ha=>exact⟨_,fun _=>by kernel_rfl,fun _ _=>by kernel_rfl,fun sx hr=>by rw[Tr.rC];exact aa' W0 p B _ _ t a (hA a (by simp[Nd.kids])) sx hr⟩
 |fence t a ht ha=>
  refine⟨62,fun _=>by kernel_rfl,fun _ _=>by kernel_rfl,fun sx hr=>?_⟩;rw[Tr.uB]
  by_cases h1:t=[40,41]
  ·subst h1
   rw[if_pos (.inl rfl)];exact Vb W0 p B _ _ a (h a (by simp[Nd.kids])) sx hr
  ·by_cases h2:t=[91,93]
   ·subst h2
    rw[if_pos (.inr rfl)];exact TK W0 p B _ _ a (h a (by simp[Nd.kids])) sx hr
   ·rw[if_neg (fun h=>h.elim h1 h2)]
    exact Vd W0 p B _ _ t h1 h2 a (hA a (by simp[Nd.kids])) sx hr
 |matrix c ks hc1 hn hm hk=>
  refine⟨63,fun _=>by kernel_rfl,fun _ _=>by kernel_rfl,fun sx hr=>?_⟩;rw[Tr.rD c ks (by rintro rfl;simp at hn)]
  have hle:c≤ks.length:=by
   rcases Int.lt_or_le (ks.length:Int) c with h'|h'
   ·rw[Int.emod_eq_of_lt (by omega) h']at hm
    omega
   ·exact h'
  have:=Tr.jF ks;rw[Tr.count]at hc;exact abm W0 p B _ _ c ks hc1 (by omega) (fun k hk'=>h k (by simpa[Nd.kids]using hk')) sx hr
theorem afd(W0:World)(p B:Nat)(m:Nat):∀a:Nd,Tr.count a≤m→m≤1000000→fE a→xm W0 p B a:=by
 induction m with
 |zero=>intro a h;have:=Tr.bX a;omega
 |succ m ih=>
  intro a hc hm ha;have h1:=Tr.aN a;refine agY W0 p B a fun x hx=>?_
  have h2:=Tr.cB hx;have hv:=ha.views x hx;refine afc W0 p B x hv (by omega) fun b hb=>?_
  have h3:=Tr.cB hb;have h4:=Tr.aN x;refine ih b (by omega) (by omega) ?_;cases hv with
  |sym t h=>simp[Nd.kids]at hb
  |num t h=>simp[Nd.kids]at hb
  |text t h=>simp[Nd.kids]at hb
  |Gn a b ha hb'=>simp only[Nd.kids,List.mem_cons,List.not_mem_nil,or_false]at hb;rcases hb with rfl|rfl<;>assumption
  |root a b ha hb'=>simp only[Nd.kids,List.mem_cons,List.not_mem_nil,or_false]at hb;rcases hb with rfl|rfl<;>assumption
  |sub a b ha hb'=>simp only[Nd.kids,List.mem_cons,List.not_mem_nil,or_false]at hb;rcases hb with rfl|rfl<;>assumption
  |sup a b ha hb'=>simp only[Nd.kids,List.mem_cons,List.not_mem_nil,or_false]at hb;rcases hb with rfl|rfl<;>assumption
  |both a b d ha hb' hd=>simp only[Nd.kids,List.mem_cons,List.not_mem_nil,or_false]at hb;rcases hb with rfl|rfl|rfl<;>assumption
  |zP t a h ha=>simp only[Nd.kids,List.mem_cons,List.not_mem_nil,or_false]at hb;subst hb;assumption
  |fence t a h ha=>simp only[Nd.kids,List.mem_cons,List.not_mem_nil,or_false]at hb;subst hb;assumption
  |matrix c ks hc1 hn hm hk=>exact hk b hb
def Bz:Array Value:=#[.slice none 0 0,.pointer none,.slice none 0 0]
theorem adV:Tryz.prog.built 44 []=some Bz:=by kernel_rfl
theorem Pr.new(w:World):Pr (w.alloc (.cells Bz 44)) w.heap.size (w.heap.size+1) (.slice none 0 0) (.slice none 0 0) Bz [] []:=
 ⟨by omega,⟨af.new _ _ _,.inl rfl,rfl,World.ownsRow_nil _ _ _ _,by simp[Value.ownBlock],fun _=>rfl⟩,rfl,rfl,World.ownsRow_nil _ _ _ _⟩
theorem ay.new(w:World):ay w w.heap.size (w.heap.size+1) (w.alloc (.cells Bz 44)) [] []:=
 ⟨(M _ _).alloc _,Nat.le_refl _,by simp,_,_,_,Pr.new w⟩
def qR(n:Nd):List UInt8:=if Tr.valid n then Tr.xU (bC n.kids)else []
def CL(n:Nd):Int:=if Tr.valid n then 0 else 1
theorem abn(n:Nd)(sl:Value)(w:World)(hr:aD w n.kids sl)(ht:n.text.length≤maxLen)(hc:Tr.count n≤1000):
  Calls Tryz.prog 7 #[nv n sl] w fun e w'=>e=.returned (.tuple #[.string ⟨(qR n).toArray⟩,.int .i64 (CL n)])∧ag w w':=by
 have HV:=hid (fun(w:World) (hr:aD w n.kids sl)=>Lr n sl w hr ht (by omega));have HR:=hid hr;have HC:=hid hc;clear hr hc;cases hv:Tr.valid n with
 |false=>
  have HS:=hid (show qR n=[]from by unfold qR;rw[hv];rfl);have HE:=hid (show CL n=1 from by unfold CL;rw[hv];rfl);rw[HS.out,HE.out];go_enter Tryz.func7,Tryz.ntmps7;go_wp2_with fail
  refine(HV.out _ (HR.out.fresh ((M _ _).alloc _))).mono ?_;rintro _ w1 ⟨rfl,hf⟩;have HF:=hid (Touch.pre hf);clear hf;go_wp2
  go_ret2;exact⟨rfl,HF.out⟩
 |true=>
  have HS:=hid (show qR n=Tr.xU (bC n.kids)from by unfold qR;rw[hv];rfl);have HE:=hid (show CL n=0 from by unfold CL;rw[hv];rfl);have KL:=hid (Tr.NM n hv);rw[HS.out,HE.out];go_enter Tryz.func7,Tryz.ntmps7;go_wp2_with fail
  refine(HV.out _ (HR.out.fresh ((M _ _).alloc _))).mono ?_;rintro _ w1 ⟨rfl,hf⟩;have HF:=hid (Touch.pre hf);have hb1:=hf.blk (af.new _ _ _) (fun h=>h);have HB:=hid hb1;obtain⟨q0,q1,q2,q3,_,_,_,_,hg⟩:=af.four hb1;clear hf hb1;have HEM:=hid (afd w1 w1.heap.size (w1.heap.size+1) _ n (Nat.le_refl _) (by have:=HC.out;omega) KL.out sl (HR.out.fresh HF.out) _ _ _ (ay.new w1) (ac4 n KL.out HC.out))
  go_wp2_with (refine cK [] adV _ rfl rfl rfl (.agg Bz) rfl ?_)
  refine HEM.out.mono ?_;rintro _ w2 ⟨rfl,h2⟩;obtain⟨vt,vb,cs,hpr,htc⟩:=h2;rw[Yc]at hpr;have bW:=hid (show ag w w2 from HF.out.trans' ((((M (fun k=>w1.heap.size≤k) w1).alloc (.cells Bz 44))).trans (htc.mono (fun k hk=>by rcases hk with rfl|⟨h,_⟩<;>omega))) (fun i hi=>.inr (by have:=HF.out.size;omega)));have F8:=hid hpr;clear hpr htc q0 q1 q2 q3;go_wp2_with fail
  refine(zI F8.out.dW).mono ?_;rintro _ w3 ⟨rfl,h3⟩;have bJ:=hid (show ag w w3 from bW.out.trans' h3 (fun i hi=>.inr (by have:=(fe F8.out.dW.own hi).1;have:=HF.out.size;omega)));clear h3;go_wp2
  go_ret2;exact⟨rfl,bJ.out⟩
end
section
open Go.RowKit
open Tr (Nd)
theorem NH(n:Nd)(w:World)(hv:Tr.valid n=true)(hc:Tr.count n≤1000):Calls Tryz.prog 8 #[.string ⟨(qR n).toArray⟩,.pointer none] w fun e w'=>
  ∃A cap,e=.returned (.tuple #[nv n (.slice A n.kids.length cap),.int .i64 0,.int .i64 0])∧aD w' n.kids (.slice A n.kids.length cap)∧ag w w':=by
 have hr:=Tr.NM n hv;have hp:qR n=Tr.xU (Tr.bC n.kids):=by unfold qR;rw[if_pos hv]
 have hx:CG (qR n)=.ok n.kids []:=by rw[hp];exact PD n hr
 have hl:=U8 n hr;have ht:=SX n hr;rw[←hp]at hl ht;have hs:=adM n hr;refine(YA ⟨(qR n).toArray⟩ n.kids [] w (by show(qR n).toArray.size≤_;rw[List.size_toArray];omega) (by show(Lx.jr (qR n)).1.length≤_;omega) hx (by rw[hs];exact hv)).mono fun e w' h=>?_
 obtain⟨A,cp,h1,h2,h3⟩:=h;refine⟨A,cp,?_,h2.rep,h3⟩;rw[h1]
 conv=>rhs;rw[←hs]
 rfl
end
section
open Go.ChangeShapes Go.WideShapes Go.ChangeAt Go.RowKit
open Tr (Nd)
open U (E aJ fB XH Jf nT)
theorem MG(n:Nd)(h:Tr.valid n=true):xL n=fB (nT n)∧vD n=0:=by
 have h1:=U.Fv n h;unfold xL vD Ck xg;rw[if_pos h,if_pos h,if_pos h1,if_pos h1];exact⟨rfl,rfl⟩
theorem Jy(n:Nd)(sl:Value)(w:World)(hr:aD w n.kids sl)(ht:n.text.length≤maxLen):
  Calls Tryz.prog 3 #[nv n sl] w fun e w'=>e=.returned (.bool true)∧ag w w':=by
 obtain⟨A,cap,rfl⟩:=hr.slice;have HR:=hid hr;have Lu:=hid (fun(W:World) (h:ag w W)=>aes n (.slice A n.kids.length cap) 150 W (HR.out.fresh h) (by decide) (by decide));have HVL:=hid (fun(hc:Tr.count n≤1000000) (W:World) (h:ag w W)=>WN n (.slice A n.kids.length cap) W (HR.out.fresh h) ht hc)
 have F8:=hid (fun(hc:Tr.count n≤1000) (hv:Tr.valid n=true) (sl:Value) (W:World) (h:aD W n.kids sl)=>show Calls Tryz.prog 7 #[nv n sl] W fun e w'=>e=.returned (.tuple #[.string ⟨(qR n).toArray⟩,.int .i64 0])∧ag W w' by
  have h2:=abn n sl W h ht hc;rw[show CL n=0 by unfold CL;rw[if_pos hv]]at h2;exact h2)
 have Cj:=hid (fun(hc:Tr.count n≤1000) (hv:Tr.valid n=true) (W:World)=>NH n W hv hc)
 have CY:=hid (fun(hc:Tr.count n≤1000) (hv:Tr.valid n=true) (sl:Value) (W:World) (h:aD W n.kids sl)=>show Calls Tryz.prog 9 #[nv n sl] W fun x w'=>x=.returned (.tuple #[.string ⟨(fB (nT n)).toArray⟩,.int .i64 0])∧ag W w' by
  have h2:=Ih n sl W h ht hc (fun hv=>U.Mk n hv);rw[(MG n hv).1,(MG n hv).2]at h2;exact h2)
 have HIM:=hid (fun(hv:Tr.valid n=true) (W:World)=>RO n hv W)
 have ug:=hid (fun(sl:Value) (W:World) (h:aD W n.kids sl) (h2:aD W n.kids (.slice A n.kids.length cap))=>show Calls Tryz.prog 11 #[nv n sl,nv n (.slice A n.kids.length cap)] W fun e w'=>e=.returned (.bool true)∧ag W w' by
  have h3:=YX _ n n sl (.slice A n.kids.length cap) W (Nat.le_refl _) h h2;rw[(Tr.ael n n).2 rfl]at h3;exact h3)
 generalize fB (nT n)=T at*;generalize qR n=P at*;clear hr ht;unfold nv at*;have HB:=hid (af.new w 24 #[.int .i64 n.kind,.string ⟨n.text.toArray⟩,.int .i64 n.ah,.slice A n.kids.length cap]);have HF:=hid ((M (fun _=>False) w).alloc (.cells #[.int .i64 n.kind,.string ⟨n.text.toArray⟩,.int .i64 n.ah,.slice A n.kids.length cap] 24));go_enter Tryz.func3,Tryz.ntmps3;go_wp2_with fail
 generalize w.heap.size=gn at HB⊢;generalize (w.alloc (.cells #[.int .i64 n.kind,.string ⟨n.text.toArray⟩,.int .i64 n.ah,.slice A n.kids.length cap] 24))=w0 at HB HF⊢;refine(UZ _).mono ?_;rintro _ w1 ⟨rfl,hf⟩;replace HF:=hid (HF.out.trans hf);replace HB:=hid (hf.blk HB.out fun h=>h);clear hf;obtain⟨J2,q01,J3,J4,_⟩:=af.four HB.out;go_wp2_with fail
 refine(Lu.out _ HF.out).mono ?_;rintro _ w1 ⟨rfl,hf⟩;replace HF:=hid (HF.out.trans hf);replace HB:=hid (hf.blk HB.out fun h=>h);clear hf;obtain⟨J2,q01,J3,J4,_⟩:=af.four HB.out;cases h1:decide ((Tr.count n:Int)≤150)with
 |false=>
  go_wp2
  go_ret;exact⟨rfl,HF.out⟩
 |true=>
 have HC:=hid (show Tr.count n≤150 by have:=of_decide_eq_true h1;omega);clear h1;go_wp2_with fail
 refine(HVL.out (by have:=HC.out;omega) _ HF.out).mono ?_;rintro _ w1 ⟨rfl,hf⟩;replace HF:=hid (HF.out.trans hf);replace HB:=hid (hf.blk HB.out fun h=>h);clear hf;obtain⟨J2,q01,J3,J4,_⟩:=af.four HB.out;cases hv:Tr.valid n with
 |false=>
  go_wp2
  go_ret;exact⟨rfl,HF.out⟩
 |true=>
 have HV:=hid hv;have GI:=hid (show Tr.count n≤1000 by have:=HC.out;omega);clear hv;go_wp2_with fail
 refine(F8.out GI.out HV.out _ _ (HR.out.fresh HF.out)).mono ?_;rintro _ w1 ⟨rfl,hf⟩;replace HF:=hid (HF.out.trans hf);replace HB:=hid (hf.blk HB.out fun h=>h);clear hf;go_wp2_with fail
 refine(Cj.out GI.out HV.out _).mono ?_;rintro _ w1 ⟨A1,c1,rfl,hr1,hf⟩;have hf2:=hf.alloc (.cells #[.int .i64 n.kind,.string ⟨n.text.toArray⟩,.int .i64 n.ah,.slice A1 n.kids.length c1] 24);replace HF:=hid (HF.out.trans hf2);replace HB:=hid (hf2.blk HB.out fun h=>h);have HA:=hid (af.new w1 24 #[.int .i64 n.kind,.string ⟨n.text.toArray⟩,.int .i64 n.ah,.slice A1 n.kids.length c1]);have z8:=hid (hr1.fresh ((M _ w1).alloc (.cells #[.int .i64 n.kind,.string ⟨n.text.toArray⟩,.int .i64 n.ah,.slice A1 n.kids.length c1] 24)));clear hf hf2
 (try unfold nv)
 obtain⟨J2,q01,J3,J4,_⟩:=af.four HA.out;go_wp2_with fail
 generalize w1.heap.size=ga at HA J2 q01 J3 J4⊢;generalize (w1.alloc (.cells #[.int .i64 n.kind,.string ⟨n.text.toArray⟩,.int .i64 n.ah,.slice A1 n.kids.length c1] 24))=w2 at HB HA HF z8 J2 q01 J3 J4⊢;refine(CY.out GI.out HV.out _ _ z8.out).mono ?_;rintro _ w1 ⟨rfl,hf⟩;replace HF:=hid (HF.out.trans hf);replace HB:=hid (hf.blk HB.out fun h=>h);replace HA:=hid (hf.blk HA.out fun h=>h);replace z8:=hid (z8.out.fresh hf);clear hf;go_wp2_with fail
 refine(HIM.out HV.out _).mono ?_;rintro _ w1 ⟨v5,rfl,s5,rfl,hf,_,hst⟩;obtain⟨A2,c2,rfl⟩:=hst.now.slice;have hf2:=hf.alloc (.cells #[.int .i64 n.kind,.string ⟨n.text.toArray⟩,.int .i64 n.ah,.slice A2 n.kids.length c2] 24);replace HF:=hid (HF.out.trans hf2);replace HB:=hid (hf2.blk HB.out fun h=>h);replace HA:=hid (hf2.blk HA.out fun h=>h);replace z8:=hid (z8.out.fresh hf2);have HI:=hid (af.new w1 24 #[.int .i64 n.kind,.string ⟨n.text.toArray⟩,.int .i64 n.ah,.slice A2 n.kids.length c2]);have MH:=hid (hst.now.fresh ((M _ w1).alloc (.cells #[.int .i64 n.kind,.string ⟨n.text.toArray⟩,.int .i64 n.ah,.slice A2 n.kids.length c2] 24)));clear hf hf2;clear hst
 (try unfold nv)
 obtain⟨J2,q01,J3,J4,_⟩:=af.four HI.out;go_wp2_with fail
 generalize w1.heap.size=gi at HI J2 q01 J3 J4⊢;generalize (w1.alloc (.cells #[.int .i64 n.kind,.string ⟨n.text.toArray⟩,.int .i64 n.ah,.slice A2 n.kids.length c2] 24))=w3 at HB HA HI HF z8 MH J2 q01 J3 J4⊢;refine(F8.out GI.out HV.out _ _ MH.out).mono ?_;rintro _ w1 ⟨rfl,hf⟩;replace HF:=hid (HF.out.trans hf);replace HB:=hid (hf.blk HB.out fun h=>h);replace HA:=hid (hf.blk HA.out fun h=>h);replace HI:=hid (hf.blk HI.out fun h=>h);replace z8:=hid (z8.out.fresh hf);replace MH:=hid (MH.out.fresh hf);clear hf;obtain⟨J2,q01,J3,J4,_⟩:=af.four HB.out;go_wp2_with fail
 refine(CY.out GI.out HV.out _ _ (HR.out.fresh HF.out)).mono ?_;rintro _ w1 ⟨rfl,hf⟩;replace HF:=hid (HF.out.trans hf);replace HB:=hid (hf.blk HB.out fun h=>h);replace HA:=hid (hf.blk HA.out fun h=>h);replace HI:=hid (hf.blk HI.out fun h=>h);replace z8:=hid (z8.out.fresh hf);replace MH:=hid (MH.out.fresh hf);clear hf;obtain⟨J2,q01,J3,J4,_⟩:=af.four HB.out;obtain⟨q10,q11,q12,q13,_⟩:=af.four HI.out;go_wp2_with fail
 refine(ug.out _ _ MH.out (HR.out.fresh HF.out)).mono ?_;rintro _ w1 ⟨rfl,hf⟩;replace HF:=hid (HF.out.trans hf);replace z8:=hid (z8.out.fresh hf);replace MH:=hid (MH.out.fresh hf);clear hf;go_wp2
 go_ret;exact⟨rfl,HF.out⟩
theorem FU(os:Os)(started:os.Started)(H:Type)(enc:TypeId×Value→H):
  ReturnsInHanded {} Tryz.checked os 3 .any (fun w args=>(Rows.markupPrintedSpec.pre enc Tryz.prog Tryz.f3 Rows.markupPrintedRow.domain false w args∧laidMetH Tryz.prog Rows.markupPrintedRow.laid w)∧sizedMet enc Tryz.prog Tryz.f3 (OpenSpec.ofChange Rows.markupPrintedSpec) false w args)
   (Rows.markupPrintedSpec.post enc Tryz.prog Tryz.f3 false true false false):=by
 refine returnsInHanded_of_change_and (C:=Tryz.checked) (X:=fun w _=>laidMetH Tryz.prog Rows.markupPrintedRow.laid w) (fun _ _ _ hh h=>h.of_heap hh) Tryz.ownKnob started (by kernel_rfl) Tryz.func3
  (ChangeSpec.witness_shaped (enc:=enc) (C:=Tryz.checked) (os:=os) (X:=fun w _=>laidMetH Tryz.prog Rows.markupPrintedRow.laid w) false (World.laidAll Tryz.prog os Rows.markupPrintedRow.laid) #[.agg ZN] 8 (World.laidAll_os _ _ _)
   (World.shaped_of_ZipB (by kernel_rfl) (by kernel_rfl)) (by kernel_rfl) (by kernel_rfl) (by kernel_rfl)
   (by rw[MakeChecks.laidMetH_plain _ _ _ (by kernel_rfl)];exact laidMet_laidAll _ (by kernel_rfl) (by kernel_rfl))) ?_
 intro W base args ds gs before hval0 hW _ _ _ _;have hval:∀(j:Nat) t v,Tryz.f3.params[j]?=some t→args[j]?=some v→Value.okWide Tryz.prog W .any base t v:=hval0;have hW':=hW;obtain⟨p,q,Mr,hV,rfl,hfz,hnd⟩:=hW;have hA:DataW.TrodAll enc Tryz.prog W 0 (fun _=>true) true Tryz.f3.params.toList args.toList ds p:=Mr;rw[Tryz.params3]at hA hval;obtain⟨v0,d0,rfl,rfl,h0⟩:=trodAll_one hA;obtain⟨rfl,rfl⟩:=trodVars_none hV;obtain⟨n0,⟨s0,rfl,r0⟩,t0⟩:=YU (hval 0 24 v0 rfl rfl) h0;refine(Jy n0 s0 W r0 t0).mono fun e W' ⟨he,hw⟩=>?_
 exact⟨_,he,YP Tryz.laidOut Tryz.underlying4 (by kernel_rfl) (by kernel_rfl) rfl rfl hW' hw⟩
theorem Gg:Rows.MarkupPrintedSaid:=
 OpenClaim.holds_of_wide 3 Tryz.f3 rfl rfl rfl rfl rfl rfl rfl ⟨rfl,rfl,rfl,rfl,rfl⟩ rfl rfl rfl rfl rfl (by kernel_rfl) Tryz.func3 (by kernel_rfl)
  (of_decide_eq_true (by kernel_rfl)) (by unfold Func.isWrapper;first|(rw[if_pos (by decide+kernel)];kernel_rfl)|(rw[if_neg (by decide+kernel)];exact⟨rfl,rfl⟩))
  (fun os started H enc _=>FU os started H enc)
theorem MarkupPrinted_card:Rows.MarkupPrintedCardSaid:=
 Claim7.holds_tied_plain_at .later [] [.data,.pinned] true _ true Gg (fun _ h=>by cases h) (by kernel_rfl) (fun _ h=>by cases h) markupPrinted_row_tie rfl ⟨rfl,rfl⟩ (by kernel_rfl) (by kernel_rfl)
  (fun f fn hf hfn=>by
   obtain rfl:f=3:=Option.some.inj ((show Tryz.prog.funcNamed Rows.markupPrintedRow.func=some 3 by kernel_rfl).symm.trans hf)|>.symm
   obtain rfl:fn=Tryz.f3:=(Option.some.inj (Tryz.func3.symm.trans hfn)).symm
   exact⟨by kernel_rfl,fun j t ht=>by
    have hm:=Array.mem_of_getElem? ht;have hall:(Tryz.f3.params.toList.all fun u=>!Tryz.prog.wantsStandIn u)=true:=by kernel_rfl
    exact(show Tryz.prog.wantsStandIn t=false by simpa using List.all_eq_true.1 hall t (by simpa using hm))⟩)
  (by kernel_rfl)
end
end Go.Proofs.YtcgbccfpcgaikaaGreatDoor
