/- Part 27 of 41 of a proof. No condition. -/
import Derived.Test.YtabjglnjjdcfmaaGreatDoorWe26
set_option maxRecDepth 100000
set_option maxHeartbeats 4000000
namespace Go.Proofs.YtabjglnjjdcfmaaGreatDoor
open _root_.List renaming take_succ_cons->avF,getElem_cons_succ->avC,append_assoc->au6,take_zero->avB,append_nil->avf,take_length->avm,mem_cons->avi,not_mem_nil->avl,length_append->auZ,length_nil->ava,length->aw5
open _root_.Nat renaming zero_le->au1,zero_add->au8,zero_mul->avL,add_zero->avk,le_trans->au2
section
open Go.RowKit
open Tr (Nd dD gG bC bT bF View fE)
def FT(c:Int)(i:Nat):List Lx.Tok:=if i=0 then []else if(i:Int)%c=0 then [⟨8,[92,92]⟩]else [Tr.aI 38]
theorem Dv(c:Int)(i:Nat)(n:Nd)(ns:List Nd):bF c i (n::ns)=FT c i++(bC n.Qx++bF c (i+1) ns):=by rw[bF];rfl
theorem Bo(c:Int)(i:Nat):bF c i []=[]:=by rw[bF]
theorem Ve(c:Int)(l:List Nd):∀(i j:Nat) (h:j<l.length),bF c i (l.take (j+1))=bF c i (l.take j)++(FT c (i+j)++bC l[j].Qx):=by
 induction l with
 |nil=>intro i j h;simp at h
 |cons x l ih=>
  intro i j h;cases j with
  |zero=>simp[Dv,Bo]
  |succ j=>
   simp only[avF,Dv,avC];rw[ih (i+1) j (by simpa using h),show i+1+j=i+(j+1) by omega];simp only[au6]
theorem TL(c:Int)(l:List Nd):∀(i j:Nat) (h:j<l.length),∃r,bF c i l=bF c i (l.take j)++(FT c (i+j)++(bC l[j].Qx++r)):=by
 induction l with
 |nil=>intro i j h;simp at h
 |cons x l ih=>
  intro i j h;cases j with
  |zero=>exact⟨bF c (i+1) l,by simp[Dv,Bo]⟩
  |succ j=>
   obtain⟨r,hr⟩:=ih (i+1) j aiu;refine⟨r,?_⟩;simp only[avF,Dv,avC];rw[hr,show i+1+j=i+(j+1) by omega];simp only[au6]
theorem abm(W0:W_)(p B:Nat)(kd tx:Value)(c:Int)(ks:List Nd)(hc:1<=c)(hc':c<=1000000)(hk:∀x∈ks,xm W0 p B x)(sl:Value)(ab:aD W0 ks sl):
  lC 66 #[pp p,.agg #[kd,tx,V c,sl]] W0 p B ([Tr.name Tr.bY]++([Tr.aI 123]++(bF c 0 ks++[Tr.aI 125]))):=by
 intro w QT D9 hp hf;obtain⟨A,cap,rfl⟩:=ab.slice;have hlen:=ab.len;unfold maxLen at hlen;have HK:=I hk;have yD:=I ab;have aL:=I hp;have fP:=I hf;have hc0:(c==0)=false:=MW
 have hc1:0<c:=Zo
 have hc2:0<=c:=Zo
 clear hk ab hp hf;go_enter Tryz.func66,Tryz.ntmps66;go_wp2_with fail
 refine Calls.mono ((Cs W0 p B 4 [109,97,116,114,105,120]) _ _ _ JJ fP.left) ?_;rintro _ w1 ⟨rfl,bO⟩;have bZ:=I aeG;have jm:=I Jd;have jN:=I afB;have bP:af w1 (w.heap.size) 31 #[kd,tx,V c,.slice A ks.length cap]:=au.bk bO Zp aL Zo;obtain⟨dN,dO,dP,dQ,_⟩:=af.QM bP;clear bO;go_wp2_with fail
 refine Calls.mono ((lu W0 p B [123]) _ _ _ a_ jN.left) ?_;rintro _ w2 ⟨rfl,dH⟩;have dM:=I aqv;have kT:=I FU;have mY:=I asj;have fF:af w2 (w.heap.size) 31 #[kd,tx,V c,.slice A ks.length cap]:=au.bk dH Zp aL Zo;clear dN dO dP dQ bP;obtain⟨ig,iq,iw,iy,_⟩:=af.QM fF;clear dH;go_wp2
 go_loopw [13] (λi wr=>∃j:Nat,i=V j/\j<=ks.length/\Hd (ay W0 p B wr (YT ([Tr.name Tr.bY]++[Tr.aI 123]++bF c 0 (ks.take j)) QT D9).1 (YT ([Tr.name Tr.bY]++[Tr.aI 123]++bF c 0 (ks.take j)) QT D9).2)/\Hd (au w wr p B QT D9 ([Tr.name Tr.bY]++[Tr.aI 123]++bF c 0 (ks.take j)))/\Hd (af wr w.heap.size 31 #[kd,tx,V c,.slice A ks.length cap])) (λi _=>ks.length-(intOf i).toNat)
 case atStart=>exact⟨0,rfl,au1 _,by rw[avB,Bo,avf];exact dM,by rw[avB,Bo,avf];exact kT,fF⟩
 case round=>
  obtain⟨j,rfl,hj,mR,K5,HB⟩:=hrel
  by_cases c1:j<ks.length
  .have d1:decide ((j:Int)<(ks.length:Int))=true:=dT Zo
   have wV:w.heap.size<wr.heap.size:=af.lt HB;have jo:decide (j<ks.length)=true:=dT Zo;have aE:(j:Int)<(ks.length:Int):=Zo
   obtain⟨g,o,sx,rfl,hg,m0,m1,m2,m3,su⟩:=yD.get j c1;obtain⟨Ax,I7,rfl⟩:=su.slice;have adT:=I (HK ks[j] f_ _ su);obtain⟨r,hr⟩:=TL c ks 0 j c1;have nK:=I (Ve c ks 0 j c1);rw[au8]at hr nK
   have adU:=I (show Fits (([Tr.name Tr.bY]++[Tr.aI 123]++bF c 0 (ks.take j))++((FT c j++bC ks[j].Qx)++(r++[Tr.aI 125]))) QT D9 by
    have:=fP.out;rw[hr]at this;simpa only[au6]using this)
   have rP:=I m0;have rQ:=I m1;have rR:=I m2;have rT:=I m3;have lM:=Low.cell (ay.low mR) m0;have pO:=Low.cell (ay.low mR) m1;have pQ:=Low.cell (ay.low mR) m2;have pR:=Low.cell (ay.low mR) m3;have ajK:g<wr.heap.size:=bL lM;clear m0 m1 m2 m3 su hr hg HK yD;generalize ks[j]=x at*;obtain⟨nE,nG,nH,nI,_⟩:=af.QM HB;have qE:af wr w.heap.size 31 #[kd,tx,V c,.slice (A_ g o) ks.length cap]:=HB
   by_cases j0:j=0
   .subst j0
    have I8:=I (show FT c 0=[]from by rfl)
    have K6:=I (show Fits (bC x.Qx) (YT ([Tr.name Tr.bY]++[Tr.aI 123]++bF c 0 (ks.take 0)) QT D9).1 (YT ([Tr.name Tr.bY]++[Tr.aI 123]++bF c 0 (ks.take 0)) QT D9).2 by
     have:=adU.mid;rw[I8.out]at this;exact this)
    rw[avL,avk]at lM pO pQ pR;have XY0:Hd (W0.cell? (B_ g o)=some (V x.QI)):=by have:=rP.out;rw[avL,avk]at this;exact this
    have XY1:Hd (W0.cell? (B_ g (o+1))=some (.string (⟨x.QG.toArray⟩:Y_))):=by have:=rQ.out;rw[avL,avk]at this;exact this
    have XY2:Hd (W0.cell? (B_ g (o+2))=some (V x.ah)):=by have:=rR.out;rw[avL,avk]at this;exact this
    have XY3:Hd (W0.cell? (B_ g (o+3))=some (.slice Ax x.Qx.length I7)):=by have:=rT.out;rw[avL,avk]at this;exact this
    go_wp2_with fail
    refine Calls.mono ((adT) _ _ _ asl K6) ?_;rintro _ w3 ⟨rfl,fo⟩;have gI:=I (ay.jS asl fo);have oW:=I (au.app K5 (au.bG atq fo));have jB:af w3 (w.heap.size) 31 #[kd,tx,V c,.slice (A_ g o) ks.length cap]:=au.bk fo Zp aL Zo;have uM:af w3 (wr.heap.size) 31 #[V x.QI,.string (⟨x.QG.toArray⟩:Y_),V x.ah,.slice Ax x.Qx.length I7]:=au.QN fo Zp afC Pf Pf;clear nE nG nH nI qE;obtain⟨mF,mG,mH,mI,_⟩:=af.QM jB;obtain⟨xy,xA,xB,xC,_⟩:=af.QM uM;clear lM pO pQ pR;obtain⟨agZ,akl,akm,akn⟩:=aT (ay.low gI) XY0 XY1 XY2 XY3;have vL:g<w3.heap.size:=bL agZ;clear fo;go_wp2
    go_roundw
    case rel=>
     have HE:=I (show [Tr.name Tr.bY]++[Tr.aI 123]++bF c 0 (ks.take 0)++bC x.Qx=[Tr.name Tr.bY]++[Tr.aI 123]++bF c 0 (ks.take (0+1))from by have h:=nK.out;rw[I8.out]at h;rw[h];simp only[au6,List.nil_append]);have I9:=gI.out;have aa:=oW.out;rw[HE.out]at I9 aa;exact⟨0+1,by go_num,by omega,I9,aa,jB⟩
    case measure=>simp[intOf];omega
   .have e0:((j:Int)==0)=false:=by rw[beq_eq_false_iff_ne];omega
    have e0n:(j==0)=false:=MW
    by_cases jc:(j:Int)%c=0
    .have e1:((j:Int)%c==0)=true:=by rw[beq_iff_eq];exact jc
     have I8:=I (show FT c j=[⟨8,[92,92]⟩]from by unfold FT;rw[if_neg j0,if_pos jc])
     have K6:=I (show Fits ([⟨8,[92,92]⟩]++bC x.Qx) (YT ([Tr.name Tr.bY]++[Tr.aI 123]++bF c 0 (ks.take j)) QT D9).1 (YT ([Tr.name Tr.bY]++[Tr.aI 123]++bF c 0 (ks.take j)) QT D9).2 by
      have:=adU.mid;rw[I8.out]at this;exact this)
     clear j0 jc;go_wp2_with fail
     refine Calls.mono ((Cs W0 p B 8 [92,92]) _ _ _ asl K6.left) ?_;rintro _ w4 ⟨rfl,mQ⟩;have kU:=I (ay.jS asl mQ);have Bh:=I (au.app K5 (au.bG atq mQ));have Dt:=I (Fits.ni K6);have rq:af w4 (w.heap.size) 31 #[kd,tx,V c,.slice (A_ g o) ks.length cap]:=au.bk mQ Zp aL Zo;have zN:af w4 (wr.heap.size) 31 #[V x.QI,.string (⟨x.QG.toArray⟩:Y_),V x.ah,.slice Ax x.Qx.length I7]:=au.QN mQ Zp afC Pf Pf;clear nE nG nH nI qE;obtain⟨vS,vT,vU,vV,_⟩:=af.QM rq;obtain⟨Bt,Bu,Bv,Bw,_⟩:=af.QM zN;clear lM pO pQ pR;obtain⟨zU,GM,GN,GQ⟩:=aT (ay.low kU) rP rQ rR rT;have FP:g<w4.heap.size:=bL zU;clear mQ;go_wp2_with fail
     refine Calls.mono ((adT) _ _ _ aqN Dt) ?_;rintro _ w5 ⟨rfl,qo⟩;have ru:=I (ay.jS aqN qo);have FQ:=I akN;have Bi:af w5 (w.heap.size) 31 #[kd,tx,V c,.slice (A_ g o) ks.length cap]:=au.bk qo Zp aL Zo;have Jv:af w5 (wr.heap.size) 31 #[V x.QI,.string (⟨x.QG.toArray⟩:Y_),V x.ah,.slice Ax x.Qx.length I7]:=au.QN qo Zp afC Pf Pf;clear vS vT vU vV rq Bt Bu Bv Bw zN;obtain⟨Jr,Js,Jt,Ju,_⟩:=af.QM Bi;obtain⟨NC,ND,NF,NG,_⟩:=af.QM Jv;clear zU GM GN GQ;obtain⟨zV,Eb,Ec,Ed⟩:=aT (ay.low ru) rP rQ rR rT;have K4:g<w5.heap.size:=bL zV;clear qo;go_wp2
     go_roundw
     case rel=>
      have HE:=I (show [Tr.name Tr.bY]++[Tr.aI 123]++bF c 0 (ks.take j)++[⟨8,[92,92]⟩]++bC x.Qx=[Tr.name Tr.bY]++[Tr.aI 123]++bF c 0 (ks.take (j+1))from by have h:=nK.out;rw[I8.out]at h;rw[h];simp only[au6]);have I9:=ru.out;have aa:=FQ.out;rw[HE.out]at I9 aa;exact⟨j+1,by go_num,by omega,I9,aa,Bi⟩
     case measure=>simp[intOf];omega
    .have e1:((j:Int)%c==0)=false:=by rw[beq_eq_false_iff_ne];exact jc
     have I8:=I (show FT c j=[⟨7,[38]⟩]from by unfold FT;rw[if_neg j0,if_neg jc];rfl)
     have K6:=I (show Fits ([⟨7,[38]⟩]++bC x.Qx) (YT ([Tr.name Tr.bY]++[Tr.aI 123]++bF c 0 (ks.take j)) QT D9).1 (YT ([Tr.name Tr.bY]++[Tr.aI 123]++bF c 0 (ks.take j)) QT D9).2 by
      have:=adU.mid;rw[I8.out]at this;exact this)
     clear j0 jc;go_wp2_with fail
     refine Calls.mono ((lu W0 p B [38]) _ _ _ asl K6.left) ?_;rintro _ w6 ⟨rfl,CK⟩;have Du:=I (ay.jS asl CK);have YC:=I (au.app K5 (au.bG atq CK));have ahx:=I (Fits.ni K6);have EU:af w6 (w.heap.size) 31 #[kd,tx,V c,.slice (A_ g o) ks.length cap]:=au.bk CK Zp aL Zo;have P7:af w6 (wr.heap.size) 31 #[V x.QI,.string (⟨x.QG.toArray⟩:Y_),V x.ah,.slice Ax x.Qx.length I7]:=au.QN CK Zp afC Pf Pf;clear nE nG nH nI qE;obtain⟨MZ,M0,M3,M4,_⟩:=af.QM EU;obtain⟨VS,VT,VU,VV,_⟩:=af.QM P7;clear lM pO pQ pR;obtain⟨GR,QU,QV,QW⟩:=aT (ay.low Du) rP rQ rR rT;have adS:g<w6.heap.size:=bL GR;clear CK;go_wp2_with fail
     refine Calls.mono ((adT) _ _ _ (ay.QH Du aF) ahx) ?_;rintro _ w7 ⟨rfl,TM⟩;have aef:=I (ay.jS (ay.QH Du aF) TM);have ahy:=I (au.app YC (au.bG (show ag w6 _ from aF) TM));have aeg:af w7 (w.heap.size) 31 #[kd,tx,V c,.slice (A_ g o) ks.length cap]:=au.bk TM Zp aL Zo;have ahz:af w7 (wr.heap.size) 31 #[V x.QI,.string (⟨x.QG.toArray⟩:Y_),V x.ah,.slice Ax x.Qx.length I7]:=au.QN TM Zp afC Pf Pf;clear MZ M0 M3 M4 EU VS VT VU VV P7;obtain⟨ajR,ajS,ajT,ajU,_⟩:=af.QM aeg;obtain⟨ajV,ajW,ajX,ajY,_⟩:=af.QM ahz;clear GR QU QV QW;obtain⟨ag0,ako,akp,akq⟩:=aT (ay.low aef) rP rQ rR rT;have ajL:g<w7.heap.size:=bL ag0;clear TM;go_wp2
     go_roundw
     case rel=>
      have HE:=I (show [Tr.name Tr.bY]++[Tr.aI 123]++bF c 0 (ks.take j)++[⟨7,[38]⟩]++bC x.Qx=[Tr.name Tr.bY]++[Tr.aI 123]++bF c 0 (ks.take (j+1))from by have h:=nK.out;rw[I8.out]at h;rw[h];simp only[au6]);have I9:=aef.out;have aa:=ahy.out;rw[HE.out]at I9 aa;exact⟨j+1,by go_num,by omega,I9,aa,aeg⟩
     case measure=>simp[intOf];omega
  .have d1:decide ((j:Int)<(ks.length:Int))=false:=dF Zo
   have wV:w.heap.size<wr.heap.size:=af.lt HB;have jo:decide (j<ks.length)=false:=dF Zo;obtain rfl:j=ks.length:=Zo
   obtain⟨nE,nG,nH,nI,_⟩:=af.QM HB;have qE:af wr w.heap.size 31 #[kd,tx,V c,.slice A ks.length cap]:=HB
   have ajM:=I (show au w wr p B QT D9 ([Tr.name Tr.bY]++[Tr.aI 123]++bF c 0 ks) by
    have:=K5.out
    rwa [avm]at this)
   have ag1:=I (show ay W0 p B wr (YT ([Tr.name Tr.bY]++[Tr.aI 123]++bF c 0 ks) QT D9).1 (YT ([Tr.name Tr.bY]++[Tr.aI 123]++bF c 0 ks) QT D9).2 by
    have:=mR.out
    rwa [avm]at this)
   have ajN:=I (Fits.right (l:=[Tr.name Tr.bY]++[Tr.aI 123]++bF c 0 ks) (m:=[Tr.aI 125]) (by have:=fP.out;simpa only[au6]using this));go_wp2_with fail
   refine Calls.mono ((lu W0 p B [125]) _ _ _ (ay.QH ag1 aF) ajN) ?_;rintro _ w8 ⟨rfl,YE⟩;have akK:=I (ay.jS (ay.QH ag1 aF) YE);have ahA:=I (au.app ajM (au.bG atq YE));have ahB:af w8 (w.heap.size) 31 #[kd,tx,V c,.slice A ks.length cap]:=au.bk YE Zp aL Zo;clear nE nG nH nI qE;obtain⟨ajZ,aj0,aj1,aj2,_⟩:=af.QM ahB;clear YE;go_wp2_with fail
   first|go_end0|refine bodyPost_ret (v:=.tuple #[]) Un rfl ?_
   exact⟨rfl,au.cast ahA WJ⟩
end
section
open Go.RowKit
open Tr (Nd dD gG bC bT bF View fE)
attribute [local go_sem] Oper.semAt_some
theorem K7(W0:W_)(p B:Nat)(tx cl:Value)(a b:Nd)(ha:xm W0 p B a)(hb:qZ W0 p B b)(sl:Value)(ab:aD W0 [a,b] sl):lC 63 #[pp p,.agg #[V 7,tx,cl,sl]] W0 p B (gG a++([Tr.aI 95]++dD b)):=by
 by_cases h1:a.Qx.length=1
 .obtain⟨x,hx⟩:=List.length_eq_one_iff.1 h1
  cases hs:Tr.gY x with
  |true=>exact wC W0 p B _ _ (.inl Pf) tx cl a b x hx atK hb sl ab
  |false=>exact wC W0 p B _ _ (.inl Pf) tx cl a b x hx (.inl ⟨hs,ha⟩) hb sl ab
 .exact EE W0 p B _ _ (.inl Pf) tx cl a b h1 (vH W0 p B a ha) hb sl ab
theorem K8(W0:W_)(p B:Nat)(tx cl:Value)(a b:Nd)(ha:xm W0 p B a)(hb:qZ W0 p B b)(sl:Value)(ab:aD W0 [a,b] sl):lC 63 #[pp p,.agg #[V 8,tx,cl,sl]] W0 p B (gG a++([Tr.aI 94]++dD b)):=by
 by_cases h1:a.Qx.length=1
 .obtain⟨x,hx⟩:=List.length_eq_one_iff.1 h1
  cases hs:Tr.gY x with
  |true=>exact wC W0 p B _ _ (.inr Pf) tx cl a b x hx atK hb sl ab
  |false=>exact wC W0 p B _ _ (.inr Pf) tx cl a b x hx (.inl ⟨hs,ha⟩) hb sl ab
 .exact EE W0 p B _ _ (.inr Pf) tx cl a b h1 (vH W0 p B a ha) hb sl ab
theorem Jw(W0:W_)(p B:Nat)(tx cl:Value)(a b d:Nd)(ha:xm W0 p B a)(hb:qZ W0 p B b)(hd:qZ W0 p B d)(sl:Value)(ab:aD W0 [a,b,d] sl):lC 63 #[pp p,.agg #[V 9,tx,cl,sl]] W0 p B (gG a++([Tr.aI 95]++(dD b++([Tr.aI 94]++dD d)))):=by
 by_cases h1:a.Qx.length=1
 .obtain⟨x,hx⟩:=List.length_eq_one_iff.1 h1
  cases hs:Tr.gY x with
  |true=>exact Gc W0 p B tx cl a b d x hx atK hb hd sl ab
  |false=>exact Gc W0 p B tx cl a b d x hx (.inl ⟨hs,ha⟩) hb hd sl ab
 .exact PE W0 p B tx cl a b d h1 (vH W0 p B a ha) hb hd sl ab
theorem afb(t:Tr.QJ):(if t.length=1 then(⟨1,t⟩:Lx.Tok)else⟨4,t⟩)=⟨if t.length=1 then 1 else 4,t⟩:=by split<;>rfl
theorem afc(W0:W_)(p B:Nat)(x:Nd)(v:View x)(hc:Tr.count x<=1000000)(h:∀a∈x.Qx,xm W0 p B a):aee W0 p B x:=by
 have hA:∀a∈x.Qx,qZ W0 p B a:=λa ha=>U9 W0 p B a (h a ha)
 cases v with
 |sym t ht=>exact⟨_,λ_=>by kernel_rfl,λ_ _=>by kernel_rfl,λsx hr=>by rw[Tr.rZ,afb];exact aaP W0 p B (.mk 2 t 0 []) sx⟩
 |num t ht=>exact⟨_,λ_=>by kernel_rfl,λ_ _=>by kernel_rfl,λsx hr=>by rw[Tr.r9];exact aaN W0 p B (.mk 3 t 0 []) sx⟩
 |QG t ht=>exact⟨_,λ_=>by kernel_rfl,λ_ _=>by kernel_rfl,λsx hr=>by rw[Tr.qA];exact aaO W0 p B (.mk 4 t 0 []) sx⟩
 |Gn a b ha hb=>exact⟨_,λ_=>by kernel_rfl,λ_ _=>by kernel_rfl,λsx hr=>by rw[Tr.vO];exact Va W0 p B _ _ _ a b (hA a J_) (hA b J_) sx hr⟩
 |root a b ha hb=>
  refine⟨62,λ_=>by kernel_rfl,λ_ _=>by kernel_rfl,λsx hr=>?_⟩;rw[Tr.vP]
  by_cases hk:a.Qx=[]
  .rw[if_pos hk];exact aa9 W0 p B _ _ _ a b hk (hA b J_) sx hr
  .rw[if_neg hk,List.cons_append,au6];exact aa8 W0 p B _ _ _ a b hk (h a J_) (hA b J_) sx hr
 |sub a b ha hb=>exact⟨_,λ_=>by kernel_rfl,λ_ _=>by kernel_rfl,λsx hr=>by rw[Tr.zQ];exact K7 W0 p B _ _ a b (h a J_) (hA b J_) sx hr⟩
 |sup a b ha hb=>exact⟨_,λ_=>by kernel_rfl,λ_ _=>by kernel_rfl,λsx hr=>by rw[Tr.zR];exact K8 W0 p B _ _ a b (h a J_) (hA b J_) sx hr⟩
 |both a b d ha hb hd=>exact⟨_,λ_=>by kernel_rfl,λ_ _=>by kernel_rfl,λsx hr=>by rw[Tr.xR];exact Jw W0 p B _ _ a b d (h a J_) (hA b J_) (hA d J_) sx hr⟩
 |zP t a ht ha=>exact⟨_,λ_=>by kernel_rfl,λ_ _=>by kernel_rfl,λsx hr=>by rw[Tr.rC];exact aa' W0 p B _ _ t a (hA a J_) sx hr⟩
 |fence t a ht ha=>
  refine⟨65,λ_=>by kernel_rfl,λ_ _=>by kernel_rfl,λsx hr=>?_⟩;rw[Tr.uB]
  by_cases h1:t=[40,41]
  .subst h1
   rw[if_pos (.inl rfl)];exact Vb W0 p B _ _ a (h a J_) sx hr
  .by_cases h2:t=[91,93]
   .subst h2
    rw[if_pos (.inr rfl)];exact TK W0 p B _ _ a (h a J_) sx hr
   .rw[if_neg (λh=>h.elim h1 h2)]
    exact Vd W0 p B _ _ t h1 h2 a (hA a J_) sx hr
 |matrix c ks hc1 hn hm hk=>
  refine⟨66,λ_=>by kernel_rfl,λ_ _=>by kernel_rfl,λsx hr=>?_⟩;rw[Tr.rD c ks (by rintro rfl;simp at hn)]
  have hle:c<=ks.length:=by
   rcases Int.lt_or_le (ks.length:Int) c with h'|h'
   .rw[Int.emod_eq_of_lt (by omega) h']at hm
    omega
   .exact h'
  have:=Tr.jF ks;rw[Tr.count]at hc;exact abm W0 p B _ _ c ks hc1 Zo (λk hk'=>h k (by simpa[Nd.Qx]using hk')) sx hr
theorem afd(W0:W_)(p B:Nat)(m:Nat):∀a:Nd,Tr.count a<=m->m<=1000000->fE a->xm W0 p B a:=by
 induction m with
 |zero=>intro a h;have:=Tr.bX a;omega
 |succ m ih=>
  intro a hc hm ha;have h1:=Tr.aN a;refine agY W0 p B a λx hx=>?_
  have h2:=Tr.cB hx;have hv:=ha.views x hx;refine afc W0 p B x hv Zo λb hb=>?_
  have h3:=Tr.cB hb;have h4:=Tr.aN x;refine ih b Zo Zo ?_;cases hv with
  |sym t h=>simp[Nd.Qx]at hb
  |num t h=>simp[Nd.Qx]at hb
  |QG t h=>simp[Nd.Qx]at hb
  |Gn a b ha hb'=>simp only[Nd.Qx,avi,avl,or_false]at hb;rcases hb with rfl|rfl<;>assumption
  |root a b ha hb'=>simp only[Nd.Qx,avi,avl,or_false]at hb;rcases hb with rfl|rfl<;>assumption
  |sub a b ha hb'=>simp only[Nd.Qx,avi,avl,or_false]at hb;rcases hb with rfl|rfl<;>assumption
  |sup a b ha hb'=>simp only[Nd.Qx,avi,avl,or_false]at hb;rcases hb with rfl|rfl<;>assumption
  |both a b d ha hb' hd=>simp only[Nd.Qx,avi,avl,or_false]at hb;rcases hb with rfl|rfl|rfl<;>assumption
  |zP t a h ha=>simp only[Nd.Qx,avi,avl,or_false]at hb;subst hb;assumption
  |fence t a h ha=>simp only[Nd.Qx,avi,avl,or_false]at hb;subst hb;assumption
  |matrix c ks hc1 hn hm hk=>exact hk b hb
def Bz:Array Value:=#[N_,.pointer none,N_]
theorem adV:Tryz.prog.built 56 []=some Bz:=Pg
theorem Pr.new(w:W_):Pr (w.alloc (.cells Bz 56)) w.heap.size (w.heap.size+1) (N_) (N_) Bz [] []:=
 ⟨by omega,⟨af.new _ _ _,.inl rfl,rfl,World.ownsRow_nil _ _ _ _,by simp[Value.ownBlock],λ_=>rfl⟩,rfl,rfl,World.ownsRow_nil _ _ _ _⟩
theorem ay.new(w:W_):ay w w.heap.size (w.heap.size+1) (w.alloc (.cells Bz 56)) [] []:=
 ⟨(M _ _).alloc _,Nat.le_refl _,by simp,_,_,_,Pr.new w⟩
def qR(n:Nd):List UInt8:=if Tr.valid n then Tr.xU (bC n.Qx)else []
def CL(n:Nd):Int:=if Tr.valid n then 0 else 1
theorem abn(n:Nd)(sl:Value)(w:W_)(hr:aD w n.Qx sl)(ht:n.QG.length<=maxLen)(hc:Tr.count n<=1000):
  C_ 8 #[nv n sl] w λe w'=>e=.returned (.tuple #[S_ (qR n),V (CL n)])/\ag w w':=by
 have HV:=I (λ(w:W_) (hr:aD w n.Qx sl)=>Lr n sl w hr ht Zo);have HR:=I hr;have HC:=I hc;clear hr hc;cases hv:Tr.valid n with
 |false=>
  have HS:=I (show qR n=[]from by unfold qR;rw[hv];rfl);have HE:=I (show CL n=1 from by unfold CL;rw[hv];rfl);rw[HS.out,HE.out];go_enter Tryz.func8,Tryz.ntmps8;go_wp2_with fail
  refine(HV _ (HR.QH Q_)).mono ?_;rintro _ w1 ⟨rfl,hf⟩;have HF:=I aic;clear hf;go_wp2
  go_ret2;exact⟨rfl,HF⟩
 |true=>
  have HS:=I (show qR n=Tr.xU (bC n.Qx)from by unfold qR;rw[hv];rfl);have HE:=I (show CL n=0 from by unfold CL;rw[hv];rfl);have KL:=I (Tr.NM n hv);rw[HS.out,HE.out];go_enter Tryz.func8,Tryz.ntmps8;go_wp2_with fail
  refine(HV _ (HR.QH Q_)).mono ?_;rintro _ w1 ⟨rfl,hf⟩;have HF:=I aic;have hb1:=hf.QN aqP PR;have HB:=I hb1;obtain⟨q0,q1,q2,q3,_,_,_,_,hg⟩:=af.QM hb1;clear hf hb1;have ab:=I (afd w1 w1.heap.size (w1.heap.size+1) _ n PD auP KL sl (HR.QH HF) _ _ _ (ay.new w1) (ac4 n KL HC))
  go_wp2_with (refine cK [] adV _ rfl rfl rfl (.agg Bz) rfl ?_)
  refine ab.mono ?_;rintro _ w2 ⟨rfl,h2⟩;obtain⟨vt,vb,cs,aj,ai⟩:=h2;rw[Yc]at aj;have bW:=I (show ag w w2 from HF.trans' ((((M (λk=>w1.heap.size<=k) w1).alloc (.cells Bz 56))).trans (ai.mono (λk hk=>by rcases hk with rfl|⟨h,_⟩<;>omega))) (λi hi=>.inr (by have:=HF.size;omega)));have F8:=I aj;clear aj ai q0 q1 q2 q3;go_wp2_with fail
  refine(zI F8.dW).mono ?_;rintro _ w3 ⟨rfl,h3⟩;have bJ:=I (show ag w w3 from bW.trans' h3 (λi hi=>.inr (by have:=(fe F8.dW.own hi).1;have:=HF.size;omega)));clear h3;go_wp2
  go_ret2;exact⟨rfl,bJ⟩
end
namespace D7
open Lx (aB Tok)
open Tr (Nd)
open Np (CG Al bare)
theorem afa(W:List (List UInt8×Tok))(a:Nat):Al (bare (W.map (·.2))) (Lx.placed a W):=by
 unfold Np.Al bare;rw[Lx.Dx,List.map_map];simp[Lx.tok,Function.comp_def]
theorem aos(E:En)(hP:E.P=0)(ht:E.tb=[])(a:Nd)(ha:Tr.fE a):∃q,yI E (Lx.placed 0 (Tr.uI none (Tr.bC a.Qx)))=.ok (a.Qx,true) q:=by
 obtain⟨F,h⟩:=(Tr.PU.all (Tr.count a)).row a.Qx (λx hx=>⟨ha.views x hx,by have:=Tr.cB hx;have:=Tr.aN a;omega⟩) [] ⟨rfl,rfl,rfl⟩;have h1:=h F PD;rw[avf]at h1;obtain⟨N,h2⟩:=(Np.reads F F PD).row _ _ _ h1 [] atX;refine aaG E _ _ ⟨N,λG hG=>?_⟩;have hb:=afa (Tr.uI none (Tr.bC a.Qx)) 0;rw[Tr.Gt]at hb;obtain⟨r',h3,h4⟩:=(apa 0 E hP ht 0 false N G hG).row [] [] _ _ hb Iff.rfl _ _ (h2 N PD);exact⟨_,h3,h4.nil,rfl⟩
theorem OZ:∀(l:List Tok) (o:Option Tok),(Lx.flat (Tr.uI o l)).length<=cost l
 |[],_=>au1 _
 |t::ts,o=>by
  have:=OZ ts (some t);cases o with
  |none=>
   simp only[Tr.uI,Lx.flat,auZ,cost,ava];omega
  |some a=>
   simp only[Tr.uI,Lx.flat,auZ,cost];split
   .rw[List.length_singleton];omega
   .rw[ava];omega
theorem U7(l:List Tok)(o:Option Tok):(Tr.uI o l).length=l.length:=by
 have:=congrArg aw5 (Tr.Gt l o);exact ah7
theorem Pz(W:List (List UInt8×Tok))(a:Nat):(Lx.placed a W).length=W.length:=by
 have:=congrArg aw5 (Lx.Dx W a);exact ah7
theorem printed(n:Nd)(hv:Tr.valid n=true):alz [] (qR n)=(n,0,0)/\(qR n).length<=1221*Tr.count n/\(Lx.jr (qR n)).1.length<=3*Tr.count n:=by
 have hr:=Tr.NM n hv;have hs:CG n.Qx=n:=(Tr.wF n hr.1 hr.2).symm;have hp:qR n=Tr.xU (Tr.bC n.Qx):=by unfold qR;rw[if_pos hv]
 have hl:=Tr.NL _ (Tr.zS n hr);rw[hp];refine⟨?_,?_,?_⟩
 .have h:=aor (T:=[]) (l:=Tr.xU (Tr.bC n.Qx)) (ks:=n.Qx) (λL hL=>by
   rw[hl]at hL;cases hL;exact aos _ rfl rfl n hr) (by rw[hl]) (by rw[hs];exact hv)
  rw[hs]at h;exact h
 .have h1:=OZ (Tr.bC n.Qx) none
  have h2:=Nk _ (Tr.zS n hr);have h3:=Nl n hr;have:(Tr.xU (Tr.bC n.Qx)).length<=cost (Tr.bC n.Qx):=h1;omega
 .rw[hl]
  show(Lx.placed 0 _).length<=_;rw[Pz,U7];exact Nl n hr
end D7
section
open Go.RowKit
open Tr (Nd)
open Lx (aB)
def PT(g B:Nat)(w:W_)(b:Nat):Prop:=b=g\/(B<=b/\∃cs fr,w.heap[b]?=some (.cells cs 3 fr))
abbrev Mp(g B:Nat)(w w':W_):Prop:=Touch (PT g B w) w w'
theorem Mp.trans{g B:Nat}{a b c:W_}(h:Mp g B a b)(k:Mp g B b c):Mp g B a c:=by
 refine⟨k.os.trans h.os,k.tape.trans h.tape,k.output.trans h.output,au2 h.size k.size,λi hi hn=>?_⟩;have h1:=h.block i hi hn;refine(k.block i atH λhs=>hn ?_).trans h1
 rcases hs with hs|⟨h2,cs,fr,h3⟩
 .exact .inl hs
 .exact .inr ⟨h2,cs,fr,by rw[<-h1];exact h3⟩
theorem Mp.QH{g B:Nat}{a b:W_}(h:ag a b):Mp g B a b:=h.mono λ_ h=>h.elim
theorem Mp.QN{g B:Nat}{a b:W_}{k:Nat}{t:TypeId}{cs:Array Value}(h:Mp g B a b)(hb:af a k t cs)(hk:k≠g)(ht:t≠3):af b k t cs:=by
 refine Touch.QN h hb ?_;rintro(e|⟨_,cur,fr,h3⟩)
 .exact hk e
 .unfold af at hb
  rw[hb]at h3;cases h3;exact ht rfl
theorem Mp.put{g B:Nat}(w:W_)(i:Nat)(v:Value):Mp g B w (w.setCell (B_ g i) v):=(M _ _).setCell auk v
theorem Mp.grown{g B:Nat}{a b c:W_}{n:Nat}{v:Value}{xs:List Value}(h:Mp g B a b)(ho:b.ownsRow B 3 1 v n xs)(hg:b.grownBy c v.ownBlock):Mp g B a c:=
 Mp.trans h (Touch.grown (S:=PT g B b) (M _ b) hg λk hk=>.inl (by
  obtain⟨h1,cur,h2⟩:=fe ho hk;exact .inr ⟨h1,cur,_,h2⟩))
inductive aP(B:Nat)(W:W_):List Nd->Value->Prop
 |nil (A:Option Addr) (cap:Nat):aP B W [] (.slice A 0 cap)
 |row (g cap:Nat) (ks:List Nd) (sl:Nat->Value) (hB:B<=g) (hg:∃cs fr,W.heap[g]?=some (.cells cs 31 fr)) (hl:ks.length<=maxLen)
   (ht:∀i (hi:i<ks.length),ks[i].QG.length<=maxLen)
   (h0:∀i (hi:i<ks.length),W.cell? (B_ g (i*4))=some (V ks[i].QI))
   (h1:∀i (hi:i<ks.length),W.cell? (B_ g (i*4+1))=some (S_ ks[i].QG))
   (h2:∀i (hi:i<ks.length),W.cell? (B_ g (i*4+2))=some (V ks[i].ah))
   (h3:∀i (_hi:i<ks.length),W.cell? (B_ g (i*4+3))=some (sl i))
   (hk:∀i (hi:i<ks.length),aP B W ks[i].Qx (sl i)):aP B W ks (.slice (A_ g 0) ks.length cap)
theorem aP.slice{B:Nat}{W:W_}{ks:List Nd}{v:Value}(h:aP B W ks v):∃A cap,v=.slice A ks.length cap:=by
 cases h with
 |nil A cap=>exact⟨A,cap,rfl⟩
 |row g cap _ sl=>exact⟨_,_,rfl⟩
theorem aP.mv{B:Nat}{W W':W_}{S:Nat->Prop}{ks:List Nd}{v:Value}(h:aP B W ks v)(ht:Touch S W W')(hS:∀k cs fr,S k->B<=k->W.heap[k]?≠some (.cells cs 31 fr)):aP B W' ks v:=by
 induction h with
 |nil A cap=>exact .nil A cap
 |row g cap ks sl hB hg hl hx h0 h1 h2 h3 hk ih=>
  obtain⟨cs,fr,hg⟩:=hg;have hn:¬S g:=λhs=>hS g cs fr hs hB hg
  exact .row g cap ks sl hB ⟨cs,fr,(ht.block g (Array.getElem?_eq_some_iff.1 hg).1 hn).trans hg⟩ hl hx (λi hi=>ht.cell (h0 i hi) hn) (λi hi=>ht.cell (h1 i hi) hn) (λi hi=>ht.cell (h2 i hi) hn) (λi hi=>ht.cell (h3 i hi) hn) ih
theorem aP.base{B B':Nat}{W:W_}{ks:List Nd}{v:Value}(h:aP B W ks v)(hb:B'<=B):aP B' W ks v:=by
 induction h with
 |nil A cap=>exact .nil A cap
 |row g cap ks sl hB hg hl hx h0 h1 h2 h3 hk ih=>exact .row g cap ks sl (au2 hb hB) hg hl hx h0 h1 h2 h3 ih
theorem aP.QH{B:Nat}{W W':W_}{ks:List Nd}{v:Value}(h:aP B W ks v)(hf:ag W W'):aP B W' ks v:=h.mv hf λ_ _ _ h _=>h.elim
theorem aP.rep{B:Nat}{W:W_}{ks:List Nd}{v:Value}(h:aP B W ks v):aD W ks v:=by
 induction h with
 |nil A cap=>exact .nil A cap
 |row g cap ks sl hB hg hl hx h0 h1 h2 h3 hk ih=>
  obtain⟨cs,fr,hg⟩:=hg;exact aD.row g 0 cap ks sl (Array.getElem?_eq_some_iff.1 hg).1 hl hx (by simpa using h0) asb (by simpa using h2) aeQ ih
def jh(B:Nat)(W:W_):List Nd->List Value->Prop
 |[],cs=>cs=[]
 |n::ks,cs=>∃sl ds,cs=V n.QI::S_ n.QG::V n.ah::sl::ds/\(aP B W n.Qx sl/\n.QG.length<=maxLen)/\jh B W ks ds
theorem jh.length{B:Nat}{W:W_}:∀{ks:List Nd} {cs:List Value},jh B W ks cs->cs.length=ks.length*4
 |[],_,h=>by rw[show _=[]from h];rfl
 |_::_,_,⟨_,_,h,_,hd⟩=>by subst h;simp[hd.length];omega
theorem jh.mv{B:Nat}{W W':W_}{S:Nat->Prop}(ht:Touch S W W')(hS:∀k cs fr,S k->B<=k->W.heap[k]?≠some (.cells cs 31 fr)):∀{ks:List Nd} {cs:List Value},jh B W ks cs->jh B W' ks cs
 |[],_,h=>h
 |_::_,_,⟨sl,ds,h,h1,hd⟩=>⟨sl,ds,h,⟨h1.1.mv ht hS,h1.2⟩,hd.mv ht hS⟩
theorem jh.base{B B':Nat}{W:W_}(hb:B'<=B):∀{ks:List Nd} {cs:List Value},jh B W ks cs->jh B' W ks cs
 |[],_,h=>h
 |_::_,_,⟨sl,ds,h,h1,hd⟩=>⟨sl,ds,h,⟨h1.1.base hb,h1.2⟩,hd.base hb⟩
theorem jh.append{B:Nat}{W:W_}:∀{ks ms:List Nd} {cs ds:List Value},jh B W ks cs->jh B W ms ds->jh B W (ks++ms) (cs++ds)
 |[],_,_,_,h,hm=>by rw[show _=[]from h];exact hm
 |_::_,_,_,_,⟨sl,es,h,h1,hd⟩,hm=>by subst h;exact⟨sl,es++_,by simp,h1,hd.append hm⟩
theorem aP.oneCell{B:Nat}{W:W_}{ks:List Nd}{v:Value}(h:aP B W ks v):v.oneCell'=true:=by
 obtain⟨A,c,rfl⟩:=h.slice;rfl
theorem jh.oneCell{B:Nat}{W:W_}:∀{ks:List Nd} {cs:List Value},jh B W ks cs->∀u∈cs,u.oneCell'=true
 |[],_,h,u,hu=>by rw[show _=[]from h]at hu;cases hu
 |_::_,_,⟨sl,ds,h,h1,hd⟩,u,hu=>by
  subst h
  rcases List.mem_cons.1 hu with rfl|hu
  .rfl
  .rcases List.mem_cons.1 hu with rfl|hu
   .rfl
   .rcases List.mem_cons.1 hu with rfl|hu
    .rfl
    .rcases List.mem_cons.1 hu with rfl|hu
     .exact h1.1.oneCell
     .exact hd.oneCell u hu
theorem jh.get{B:Nat}{W:W_}:∀{ks:List Nd} {cs:List Value},jh B W ks cs->∀i (hi:i<ks.length),∃sl,cs[i*4]?=some (V ks[i].QI)/\cs[i*4+1]?=some (S_ ks[i].QG)/\cs[i*4+2]?=some (V ks[i].ah)/\cs[i*4+3]?=some sl/\
  aP B W ks[i].Qx sl/\ks[i].QG.length<=maxLen
 |[],_,_,i,hi=>by simp at hi
 |n::ks,_,⟨sl,ds,h,h1,hd⟩,i,hi=>by
  subst h;cases i with
  |zero=>exact⟨sl,rfl,rfl,rfl,rfl,h1.1,h1.2⟩
  |succ i=>
   obtain⟨sl',e0,e1,e2,e3,e4,e5⟩:=hd.get i am5
   have hx:∀j,(V n.QI::S_ n.QG::V n.ah::sl::ds:List Value)[(i+1)*4+j]?=ds[i*4+j]?:=λj=>by
    rw[show(i+1)*4+j=(i*4+j)+4 by omega];rfl
   exact⟨sl',(hx 0).trans e0,(hx 1).trans e1,(hx 2).trans e2,(hx 3).trans e3,e4,e5⟩
theorem jh.own{B B':Nat}{W:W_}{ks:List Nd}{cs:List Value}{v:Value}(h:jh B W ks cs)(am:B<=B')(ho:W.ownsRow B' 31 4 v ks.length cs):aP B W ks v:=by
 rcases ho.2 with⟨h1,h2⟩|⟨g,cap,cur,h1,hB',hg,h2,h3,_⟩
 .rw[List.length_eq_zero_iff]at h2
  subst h2;rw[h1];exact .nil _ _
 .have hc:∀j u,cs[j]?=some u->W.cell? (B_ g j)=some u:=λj u hu=>by
   have:=ho.cells (g:=g) (by rw[h1];rfl) j u hu
   rwa [Addr.add_mid,au8]at this
  have ab:∀i,∃sl,∀(hi:i<ks.length),cs[i*4+3]?=some sl/\aP B W ks[i].Qx sl:=λi=>by
   by_cases hi:i<ks.length
   .obtain⟨sl,_,_,_,e3,e4,_⟩:=h.get i hi
    exact⟨sl,λ_=>⟨e3,e4⟩⟩
   .exact⟨.bool false,λh=>absurd h hi⟩
  rw[h1];refine .row g cap ks (λi=>Classical.choose (ab i)) (au2 am hB') ⟨_,_,hg⟩ (au2 h2 h3) (λi hi=>(h.get i hi).elim λ_ e=>e.2.2.2.2.2) (λi hi=>?_) (λi hi=>?_) (λi hi=>?_) (λi hi=>hc _ _ (Classical.choose_spec (ab i) hi).1) (λi hi=>(Classical.choose_spec (ab i) hi).2)
  .obtain⟨_,e0,_⟩:=h.get i hi;exact hc _ _ e0
  .obtain⟨_,_,e1,_⟩:=h.get i hi;exact hc _ _ e1
  .obtain⟨_,_,_,e2,_⟩:=h.get i hi;exact hc _ _ e2
theorem aP.src{B:Nat}{W:W_}{ks:List Nd}{v:Value}(h:aP B W ks v):∃cs,jh B W ks cs/\Src W 4 v ks.length cs:=by
 cases h with
 |nil A cap=>
  refine⟨[],rfl,A,cap,rfl,rfl,?_⟩;cases A with
  |none=>exact .inl ⟨rfl,rfl,rfl⟩
  |some a=>exact .inr ⟨a,rfl,λj u hu=>by simp at hu⟩
 |row g cap _ sl hB hg hl hx h0 h1 h2 h3 hk=>
  have:∀(l:List Nd) (o:Nat),(∀i (hi:i<l.length),∃hq:o+i<ks.length,l[i]=ks[o+i])->∃cs,jh B W l cs/\∀j u,cs[j]?=some u->W.cell? (B_ g (o*4+j))=some u:=by
   intro l
   induction l with
   |nil=>intro o _;exact⟨[],rfl,λj u hu=>by simp at hu⟩
   |cons n l ih=>
    intro o hl
    obtain⟨ds,d1,d2⟩:=ih (o+1) λi hi=>by
     obtain⟨hq,e⟩:=hl (i+1) am5;refine⟨by omega,?_⟩;have e':l[i]=ks[o+(i+1)]:=by simpa using e
     rw[e']
     congr 1
     omega
    obtain⟨hq,e⟩:=hl 0 P9;simp only[List.getElem_cons_zero,avk]at e hq;refine⟨V n.QI::S_ n.QG::V n.ah::sl o::ds,⟨sl o,ds,rfl,⟨by rw[e];exact hk o hq,by rw[e];exact hx o hq⟩,d1⟩,λj u hu=>?_⟩
    match j,hu with
    |0,hu=>cases hu;rw[e];exact h0 o hq
    |1,hu=>cases hu;rw[e];exact h1 o hq
    |2,hu=>cases hu;rw[e];exact h2 o hq
    |3,hu=>cases hu;exact h3 o hq
    |j+4,hu=>
     have:=d2 j u hu;rw[show o*4+(j+4)=(o+1)*4+j by omega];exact this
  obtain⟨cs,d1,d2⟩:=this ks 0 λi hi=>⟨by simpa using hi,by simp⟩
  refine⟨cs,d1,_,cap,rfl,d1.length,.inr ⟨_,rfl,λj u hu=>?_⟩⟩;rw[Addr.add_mid,au8];simpa using d2 j u hu
end
section
open Go.RowKit
open Tr (Nd)
theorem aD.same{W:W_}:∀{ks:List Nd} {v:Value},aD W ks v->∀{ms:List Nd},aD W ms v->ks=ms:=by
 intro ks v h
 induction h with
 |nil A cap=>
  intro ms hm;obtain⟨A',c',e⟩:=hm.slice;have hl:(0:Nat)=ms.length:=by injection e
  exact(List.length_eq_zero_iff.1 hl.symm).symm
 |row g o cap ks sl hg hl ht h0 h1 h2 h3 hk ih=>
  intro ms hm;obtain⟨A',c',e⟩:=hm.slice;have hlen:ks.length=ms.length:=by injection e
  rw[e]at hm;have eA:A'=A_ g o:=by injection e with e1;exact e1.symm
  subst eA;refine List.ext_getElem hlen λi hi hj=>?_
  obtain⟨g',o',sl',e0,_,k0,k1,k2,k3,k4⟩:=hm.get i hj;cases e0;have c0:=(h0 i hi).symm.trans k0;have c1:=(h1 i hi).symm.trans k1;have c2:=(h2 i hi).symm.trans k2;have c3:=(h3 i hi).symm.trans k3;cases c3;have c4:=ih i hi k4;have c5:ks[i].QI=ms[i].QI:=by simpa using c0
  have c6:ks[i].ah=ms[i].ah:=by simpa using c2
  have c7:ks[i].QG=ms[i].QG:=by
   have:ks[i].QG.toArray=ms[i].QG.toArray:=r_
   exact ah7
  cases hx:ks[i]with
  |mk a b c d=>
   cases hy:ms[i]with
   |mk a' b' c' d'=>
    rw[hx,hy]at c4 c5 c6 c7;simp only[Tr.Nd.Qx,Tr.Nd.QI,Tr.Nd.ah,Tr.Nd.QG]at c4 c5 c6 c7;rw[c4,c5,c6,c7]
inductive aly(w0:W_)(pend:List Addr)(W:W_):Addr->List Nd->Value->Prop
 |wait (a:Addr) (ks:List Nd) (v:Value) (ha:a∈pend) (h:aD w0 ks v):aly w0 pend W a ks v
 |nil (a:Addr) (A:Option Addr) (cap:Nat):aly w0 pend W a [] (.slice A 0 cap)
 |row (a:Addr) (g cap:Nat) (ks:List Nd) (sl:Nat->Value) (hB:w0.heap.size+2<=g) (hg:∃cs fr,W.heap[g]?=some (.cells cs 31 fr)) (hl:ks.length<=maxLen) (ht:∀i (hi:i<ks.length),ks[i].QG.length<=maxLen)
   (h0:∀i (hi:i<ks.length),W.cell? (B_ g (i*4))=some (V ks[i].QI))
   (h1:∀i (hi:i<ks.length),W.cell? (B_ g (i*4+1))=some (S_ ks[i].QG))
   (h2:∀i (hi:i<ks.length),W.cell? (B_ g (i*4+2))=some (V ks[i].ah))
   (h3:∀i,i<ks.length->W.cell? (B_ g (i*4+3))=some (sl i))
   (hk:∀i (hi:i<ks.length),aly w0 pend W (B_ g (i*4)) ks[i].Qx (sl i)):aly w0 pend W a ks (.slice (A_ g 0) ks.length cap)
theorem aly.done{w0 W:W_}{pend:List Addr}{a:Addr}{ks:List Nd}{v:Value}(h:aly w0 pend W a ks v)(hp:pend=[]):aP w0.heap.size W ks v:=by
 induction h with
 |wait a ks v ha h=>rw[hp]at ha;cases ha
 |nil a A cap=>exact .nil A cap
 |row a g cap ks sl hB hg hl ht h0 h1 h2 h3 hk ih=>exact .row g cap ks sl Zo hg hl ht h0 h1 h2 h3 ih
theorem aly.mv{w0 W W':W_}{pend:List Addr}{S:Nat->Prop}{a:Addr}{ks:List Nd}{v:Value}(h:aly w0 pend W a ks v)(ht:Touch S W W')(hS:∀k,S k->(k<=w0.heap.size+1)\/∀cs fr,W.heap[k]?≠some (.cells cs 31 fr)):aly w0 pend W' a ks v:=by
 induction h with
 |wait a ks v ha h=>exact .wait a ks v ha h
 |nil a A cap=>exact .nil a A cap
 |row a g cap ks sl hB hg hl hx h0 h1 h2 h3 hk ih=>
  obtain⟨cs,fr,hg⟩:=hg
  have hn:¬S g:=λhs=>by
   rcases hS g hs with h|h
   .omega
   .exact h cs fr hg
  exact .row a g cap ks sl hB ⟨cs,fr,(ht.block g (Array.getElem?_eq_some_iff.1 hg).1 hn).trans hg⟩ hl hx (λi hi=>ht.cell (h0 i hi) hn) (λi hi=>ht.cell (h1 i hi) hn) (λi hi=>ht.cell (h2 i hi) hn) (λi hi=>ht.cell (h3 i hi) hn) ih
theorem aly.Qx{w0 W:W_}{pend:List Addr}{a:Addr}{ks ms:List Nd}{A:Option Addr}{n c:Nat}(h:aly w0 pend W a ks (.slice A n c))(hm:aD w0 ms (.slice A n c)):ks=ms:=by
 generalize hv:Value.slice A n c=v at h
 have am:n=ms.length:=by
  obtain⟨_,_,e⟩:=hm.slice;injection e
 cases h with
 |wait _ _ _ ha h=>subst hv;exact h.same hm
 |nil _ A' cap=>
  injection hv with _ e2
  rw[e2]at am;exact(List.length_eq_zero_iff.1 am.symm).symm
 |row _ g cap _ sl hB hg hl ht h0 h1 h2 h3 hk=>
  injection hv with e1 e2
  cases aa:ms with
  |nil=>
   rw[aa,ava,e2]at am;exact List.length_eq_zero_iff.1 am
  |cons y ys=>
   obtain⟨g',o',_,e3,e4,_⟩:=hm.get 0 (by rw[aa];simp);rw[e1]at e3;cases e3;omega
theorem aly.swap{w0 W W':W_}{P P':List Addr}{g0 j:Nat}{cs0:Array Value}{A:Option Addr}{n c:Nat}{ms:List Nd}{s':Value}(h0:af W g0 31 cs0)(hj:cs0[j+3]?=some (.slice A n c))(h1:af W' g0 31 (cs0.setIfInBounds (j+3) s'))(ht:Touch (λk=>k=g0) W W')
  (hm:aD w0 ms (.slice A n c)) (hP:∀a∈P,a≠(B_ g0 j)->a∈P') (hs:aly w0 P' W' (B_ g0 j) ms s'):∀{a:Addr} {ks:List Nd} {v:Value},a≠(B_ g0 j)->aly w0 P W a ks v->aly w0 P' W' a ks v:=by
 have ae:j+3<cs0.size:=(Array.getElem?_eq_some_iff.1 hj).1
 have hp':W'.cell? (B_ g0 (j+3))=some s':=by
  have:=h1.cell (j+3);rw[this];simp[ae]
 have hq:∀g i v,W.cell? (B_ g i)=some v->¬(g=g0/\i=j+3)->W'.cell? (B_ g i)=some v:=λg i v h hn=>by
  by_cases e:g=g0
  .subst e
   have aa:i≠j+3:=λe=>hn ⟨rfl,e⟩
   rw[h0.cell i]at h;rw[h1.cell i,Array.getElem?_setIfInBounds_ne (λe=>aa e.symm)];exact h
  .exact ht.cell h e
 have hp:W.cell? (B_ g0 (j+3))=some (.slice A n c):=by rw[h0.cell (j+3)];exact hj
 intro a ks v hne h
 have hc:∀g i v,W.cell? (B_ g i)=some v->(∀a b c,v≠.slice a b c)->W'.cell? (B_ g i)=some v:=λg i v h hv=>by
  refine hq g i v h λ⟨e1,e2⟩=>?_
  subst e1 e2;rw[hp]at h;cases h;exact hv _ _ _ rfl
 induction h with
 |wait a ks v ha h=>exact .wait a ks v (hP a ha hne) h
 |nil a A cap=>exact .nil a A cap
 |row a g cap ks sl hB hg hl hx k0 k1 k2 k3 hk ih=>
  have hz:∀i,∃t,∀(hi:i<ks.length),W'.cell? (B_ g (i*4+3))=some t/\aly w0 P' W' (B_ g (i*4)) ks[i].Qx t:=λi=>by
   by_cases hi:i<ks.length
   .by_cases e:((B_ g (i*4)):Addr)=(B_ g0 j)
    .simp only[Addr.mk.injEq,and_true]at e
     have h4:=k3 i hi;rw[e.1,e.2,hp]at h4;have h5:sl i=.slice A n c:=by injection h4 with h4;exact h4.symm
     have h6:=hk i hi;rw[h5]at h6;have h7:=h6.Qx hm;refine⟨s',λ_=>⟨by rw[e.1,e.2];exact hp',by rw[h7,e.1,e.2];exact hs⟩⟩
    .refine⟨sl i,λ_=>⟨hq _ _ _ (k3 i hi) λe2=>e (by rw[e2.1,show i*4=j by omega]),ih i hi e⟩⟩
   .exact⟨s',λh=>absurd h hi⟩
  refine .row a g cap ks (λi=>Classical.choose (hz i)) hB ?_ hl hx (λi hi=>hc _ _ _ (k0 i hi) (λ_ _ _ e=>by cases e)) (λi hi=>hc _ _ _ (k1 i hi) (λ_ _ _ e=>by cases e)) (λi hi=>hc _ _ _ (k2 i hi) (λ_ _ _ e=>by cases e))
   (λi hi=>(Classical.choose_spec (hz i) hi).1) (λi hi=>(Classical.choose_spec (hz i) hi).2)
  obtain⟨cs,fr,e3⟩:=hg
  by_cases e:g=g0
  .exact⟨_,_,by rw[e];exact h1⟩
  .exact⟨cs,fr,(ht.block g (Array.getElem?_eq_some_iff.1 e3).1 e).trans e3⟩
end
end Go.Proofs.YtabjglnjjdcfmaaGreatDoor
