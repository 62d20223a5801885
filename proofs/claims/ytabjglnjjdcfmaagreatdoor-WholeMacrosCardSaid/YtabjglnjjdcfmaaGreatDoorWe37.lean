/- Part 37 of 41 of a proof. No condition. -/
import Derived.Test.YtabjglnjjdcfmaaGreatDoorWe36
set_option maxRecDepth 100000
set_option maxHeartbeats 4000000
namespace Go.Proofs.YtabjglnjjdcfmaaGreatDoor
open _root_.Nat renaming le_trans->au2,zero_le->au1
open _root_.List renaming take_zero->avB,length_take->avj,getElem_mem->avS,length_append->auZ,take_length->avm,append_nil->avf
open _root_.Go.World renaming setCell->auX
open _root_.Go.Proofs.Tryz
section
open Go.RowKit
open Tr (Nd)
attribute [local go_sem] gD stillUpon
def anT(args:List Nd)(W0:W_)(va:Value)(ks:List Nd):Prop:=∀(v:Value) (w:W_),aD W0 ks v->ag W0 w->C_ 176 #[v,va] w λe w'=>∃A cp,e=.returned (.slice A (D7.alf args ks).length cp)/\aP w.heap.size w' (D7.alf args ks) (.slice A (D7.alf args ks).length cp)/\ag w w'
theorem Grow.pY{D:Nat->Prop}{w:W_}{B0 B:Nat}{ks:List Nd}{v:Value}(h:Grow D w B0 B ks v):∀k,v.ownBlock=some k->k<w.heap.size:=λk hk=>by
 obtain⟨cs,h1,_⟩:=h;obtain⟨_,cur,h4⟩:=fe h1 hk;exact(Array.getElem?_eq_some_iff.1 h4).1
theorem ana(args:List Nd)(W0:W_)(va:Value)(ks:List Nd)(hsm:D7.Small args)(ae:args.length<=1000)(ac:aD W0 args va)(ad:D7.al3 args.length ks)(ar:Tr.az ks<=1000)(ih:∀x∈ks,∀y∈x.Qx,anT args W0 va y.Qx):anT args W0 va ks:=by
 intro v w hr hf;obtain⟨A,cap,rfl⟩:=hr.slice;obtain⟨Aa,ca,rfl⟩:=ac.slice;have HR:=I hr;have z8:=I ac;have jQ:=I hf;have a4:=I hsm;have Rc:=I ad;have aw:=I ar;have q9:=I ih;have ab:ks.length<=1000:=au2 (Tr.jF ks) ar;have aY:=I (And.intro ab ae);obtain⟨Z,hZ⟩:∃Z,Z=D7.alf args ks:=⟨_,rfl⟩;have HZ:=I hZ;rw[<-hZ];refine Calls.via λQ hQ=>?_
 have HQ:=I hQ;clear hr ac hf hsm ad ar ih hZ ae hQ;go_enter func176,ntmps176;go_wp2
 go_loopw [5,15] (λa i av=>∃(wr:W_) (j:Nat) (ns:List Nd) (A':Option Addr) (cp:Nat),wr=av/\a=.slice A' ns.length cp/\i=.int .i64 j/\j<=ks.length/\Hd (ns=D7.alf args (ks.take j))/\Hd (Grow (λ_=>False) wr w.heap.size w.heap.size ns (.slice A' ns.length cp))/\Hd (ag w wr)) (λ_ i _=>ks.length-(intOf i).toNat)
 case atStart=>exact⟨_,0,[],none,0,rfl,rfl,rfl,au1 _,I (by rw[avB,D7.alf]),I auE,I afD⟩
 case round=>
  obtain⟨wr,j,ns,A',cp,rfl,rfl,rfl,hj,aR,HG,HF⟩:=hrel
  by_cases c1:j<ks.length
  .have d1:decide ((j:Int)<(ks.length:Int))=true:=dT Zo
   have jo:decide (j<ks.length)=true:=dT c1;have aE:(j:Int)<(ks.length:Int):=Zo
   have hjb:j<=1000:=Zo
   obtain⟨g,o,sl,rfl,hg,e0,e1,e2,e3,e4⟩:=HR.get j c1;have au:=HR.texts j c1;have wL:=I au;have aj:=I e4;have bf:=I (D7.anS args ks j c1);have aB:=I (D7.ami Rc ks[j] f_);have a7:=I (q9 ks[j] f_);have Me:=I (show Tr.count ks[j]<=1000 by have:=alN f_;have:=aw.out;omega);have wH:=I (show ns.length<=1000000 by rw[aR.out];have h:=D7.amu a4 (ks.take j);rw[avj]at h;omega);have HJ:=I auF;have an:=jQ.trans HF;have a0:=an.cell e0 PR;have a1:=an.cell e1 PR;have a2:=an.cell e2 PR;have a3:=an.cell e3 PR;have aT:=I an;have aX:=I hg;clear e0 e1 e2 e3 e4 au hg an;generalize ks[j]=x at*;obtain⟨Ax,cx,rfl⟩:=aj.slice;have al:=I (am7 x g (o+j*4) cx Ax wr a0 a1 a2 a3);go_wp2_with fail
   refine al.mono ?_;rintro _ w1 ⟨kp,rfl,a5,rfl⟩;have aV:=I a5;clear a5 al;cases hp:D7.alh x with
   |some i=>
    obtain⟨hk,aa,a8⟩:=aV.out i hp;subst hk;have ad:=D7.aog aB hp;have aK:=I (show D7.alS args x=(args.getD (i-1) (.mk 0 [] 0 [])).Qx by unfold D7.alS;rw[hp]);obtain⟨i',rfl⟩:∃i',i=i'+1:=⟨i-1,by omega⟩;have ba:i'<args.length:=Zo
    have bW:=I (show D7.alS args x=args[i'].Qx by rw[aK.out,List.getD_eq_getElem?_getD,Nat.add_sub_cancel,List.getElem?_eq_getElem ba];rfl);obtain⟨ga,oa,sa,rfl,ap,b0,b1,b2,b3,b4⟩:=z8.get i' ba;have iB:=I b4
    have bg:=I (show Tr.az args[i'].Qx<=1000000 by
     have h1:=a4.out args[i'] (avS ba);rw[Tr.aN]at h1;omega)
    have y3:=aT.cell b3 PR;have w1':IntKind.i64.wrap (i':Int)=(i':Int):=IntWalk.i64_in _ Zo;have w2':((i':Int)+1)-1=(i':Int):=Zo
    have w3':(i':Int)<(args.length:Int):=Zo
    have HIL:=I (And.intro ba a8);clear aV hp ad aK b0 b1 b2 b3 b4 ap aa a8;generalize args[i']=y at*;obtain⟨Ay,cy,rfl⟩:=iB.slice;go_wp2_with fail
    refine(anR y.Qx (.slice Ay y.Qx.length cy) _ bg (iB.QH aT)).mono ?_;rintro _ w2 ⟨A2,c2,rfl,am,hf2⟩;have ao:=I am;have bJ:=I hf2;have HOW:=I HG.pY;have aJ:=I (HG.QH hf2);obtain⟨ii,hi,hz0,hz1,hz2⟩:=info_parts al7;have a9:=I (show y.Qx.length<=1000000 from au2 (Tr.jF y.Qx) bg);clear am hf2 a0 a1 a2 a3 y3 w1' w2' w3'
    go_wp2_with (at_builtin;go_loud (refine alO rfl (.tmp 27) (.tmp 34) rfl ii _ hi hz0 hz1 hz2 rfl (B0:=w.heap.size) (B:=w.heap.size) (B1:=w1.heap.size) (ks:=ns) (ms:=y.Qx) (v:=.slice A' ns.length cp) (y:=.slice A2 y.Qx.length c2) aJ WH WH ao HF.size (λ_ h=>h.elim) HOW (by have:=wH.out;have:=a9.out;omega) (by have:=HF.size;have:=bJ.size;omega) ?_);intro A8 c8 w8 jI bR;refine jw.mk ?_)
    have mZ:=I (show ag w w8 from(HF.trans bJ).trans' bR λk hk=>.inr hk.1);have LU:=I (show ns++y.Qx=D7.alf args (ks.take (j+1)) by rw[bf.out,aR.out,bW.out]);rw[<-auZ]at jI;rw[<-auZ];have wI:=I jI;clear jI bR;refine jw.go ?_;go_wp2_with fail
    exact⟨⟨_,j+1,ns++y.Qx,A8,c8,rfl,rfl,by simp,by have:=HJ.out;omega,I LU,wI,mZ⟩,by simp[intOf];have:=HJ.out;omega⟩
   |none=>
    have aK:=I (show D7.alS args x=[D7.anf args x] by unfold D7.alS;rw[hp]);clear aV hp;go_wp2_with fail
    have r0:=cR (a0.trans rfl);have r1:=cR (a1.trans rfl);have r2:=cR (a2.trans rfl);have hg1:g<w1.heap.size:=bL a0;refine cu [([(0,true),(1,true),(2,true),(3,true),(4,true),(5,true),(6,true),(7,true),(8,true),(9,true),(10,true),(11,true),(12,true),(13,false)],14)] [] Pg Ph Pg ?_;refine dJ ?_
    repeat(refine Z4 ?_)
    refine aS rfl (λK hK=>?_);go_wp2
    refine hK _ _ (aA (((M (λ_=>False) _).drewN 1).alloc _)) ?_;clear hK K;have eZ:=I (((M (λ_=>False) w1).drewN 1).alloc (.cells ZN 31));have aM:=I (show af ((w1.drewN 1).alloc (.cells ZN 31)) w1.heap.size 31 ZN from af.new (w1.drewN 1) 31 _);generalize ((w1.drewN 1).alloc (.cells ZN 31))=W4 at eZ aM|-;obtain⟨p0,p1,p2,p3,y0,y1,y2,y3,aoC⟩:=af.QM aM;refine dm rfl (λK hK=>?_);go_wp2_with fail
    refine fH ?_;have n5:=aM.gH (.int .i64 x.QI) (.string ⟨x.QG.toArray⟩) (.int .i64 x.ah) (N_);have jO:=eZ.aO (g:=w1.heap.size) ET (.int .i64 x.QI) (.string ⟨x.QG.toArray⟩) (.int .i64 x.ah) (N_);simp only[aO]at n5 jO;generalize (auX (auX (auX (auX W4 ⟨w1.heap.size,0,none⟩ _) ⟨w1.heap.size,1,none⟩ _) ⟨w1.heap.size,2,none⟩ _) ⟨w1.heap.size,3,none⟩ _)=W5 at n5 jO|-;have ajy:=I n5;have eY:=I jO;clear n5 jO p0 p1 p2 p3 y0 y1 y2 y3 aoC aM eZ r0 r1 r2 a0 a1 a2 hg1;have a3':=eY.cell a3 PR;clear a3;have JD:=I (show aD W0 x.Qx (.slice Ax x.Qx.length cx)from aj);have aC:=I (show x.Qx.length<=1000 by have h1:=Tr.jF x.Qx;have h2:=Me.out;rw[Tr.aN]at h2;omega);have HIK:=I (D7.amj aB);go_wp2
    go_loopw [54] (λi wq0=>∃(wq:W_) (q:Nat) (ms:List Nd) (A2:Option Addr) (c2:Nat),wq=wq0/\i=.int .i64 q/\q<=x.Qx.length/\Hd (ms=D7.alp args (x.Qx.take q))/\Hd (af wq w1.heap.size 31 #[.int .i64 x.QI,.string ⟨x.QG.toArray⟩,.int .i64 x.ah,.slice A2 ms.length c2])/\Hd (Grow (λ_=>False) wq W5.heap.size W5.heap.size ms (.slice A2 ms.length c2))/\Hd (ag w1 wq)/\Hd (W5.heap.size<=wq.heap.size)) (λi _=>x.Qx.length-(intOf i).toNat)
    case atStart=>exact⟨_,0,[],none,0,rfl,rfl,au1 _,I (by rw[avB,D7.alp]),ajy,I auE,eY,I PD⟩
    case round=>
     clear a3';obtain⟨wq,q,ms,A2,c2,rfl,rfl,hq,bc,aF,bd,ai,be⟩:=hrel
     by_cases c2':q<x.Qx.length
     .have d2:decide ((q:Int)<(x.Qx.length:Int))=true:=dT Zo
      have d2n:decide (q<x.Qx.length)=true:=dT c2';have d2':(q:Int)<(x.Qx.length:Int):=Zo
      have ay:q<=1000:=by have:=aC.out;omega
      obtain⟨gx,ox,sy,rfl,hgx,e0,e1,e2,e3,e4⟩:=JD.get q c2';have bh:=I e4;have aW:=I (D7.anA args x.Qx q c2');have HIY:=I (a7 x.Qx[q] (avS c2'));have bb:=I (And.intro ay c2')
      have HYN:=I (show(D7.alf args x.Qx[q].Qx).length<=1000000 by
       have h:=D7.amu a4 x.Qx[q].Qx;have h1:=alN (avS c2');have h2:=Me.out;have h3:=Tr.jF x.Qx[q].Qx;rw[Tr.aN]at h1 h2;omega)
      have an:=aT.trans ai;have b0:=an.cell e0 PR;have b1:=an.cell e1 PR;have b2:=an.cell e2 PR;have b3:=an.cell e3 PR;have apN:=I an;clear e0 e1 e2 e3 e4 an hgx;generalize x.Qx[q]=y at*;obtain⟨Ay,cy,rfl⟩:=bh.slice;have kW:=I (af.new wq 31 #[.int .i64 y.QI,.string ⟨y.QG.toArray⟩,.int .i64 y.ah,.slice Ay y.Qx.length cy]);have gL:=I (show ag wq (wq.alloc (.cells #[.int .i64 y.QI,.string ⟨y.QG.toArray⟩,.int .i64 y.ah,.slice Ay y.Qx.length cy] 31))from(M _ wq).alloc _);go_wp2_with fail
      generalize (wq.alloc (.cells #[.int .i64 y.QI,.string ⟨y.QG.toArray⟩,.int .i64 y.ah,.slice Ay y.Qx.length cy] 31))=wa at kW gL|-;have aoD:=I (gL.QN aF λh=>h);have k3:=cR ((aoD.cell 3).trans rfl);have k4:=cR ((kW.cell 3).trans rfl);have aQ:=aoD.lt;have hl2:=kW.lt;clear b0 b1 b2 b3 d2 d2n d2';refine cu [([(0,true),(1,true),(2,true),(3,true),(4,true),(5,false),(6,true),(7,false)],8),([(9,true)],10)] [] Pg Ph Pg ?_;refine dJ ?_
      repeat(refine Z4 ?_)
      refine aS rfl (λK hK=>?_);go_wp2_with fail
      refine(HIY _ (wa.drewN 1) bh ((apN.trans gL).drewN 1)).mono ?_;rintro _ w6 ⟨A6,c6,rfl,jq,dK⟩;have iC:=I (show aP wa.heap.size w6 (D7.alf args y.Qx) (.slice A6 (D7.alf args y.Qx).length c6)from jq);have fI:=I (show ag wa w6 from Touch.BD dK);have hgr:=aA fI;clear jq dK;obtain⟨fs,a6⟩:∃fs,fs=D7.alf args y.Qx:=⟨_,rfl⟩;rw[<-a6]at iC HYN aW|-;clear a6;go_wp2
      refine hK _ _ hgr ?_;clear hK K hgr
      repeat(refine Z4 ?_)
      refine aS rfl (λK hK=>?_);go_wp2
      refine hK _ _ an' ?_;clear hK K k3 k4 aQ hl2;have aG:=I (af.new w6 31 #[.int .i64 1,.string ⟨#[]⟩,.int .i64 0,.slice A6 fs.length c6]);have gW:=I (show ag w6 (w6.alloc (.cells #[.int .i64 1,.string ⟨#[]⟩,.int .i64 0,.slice A6 fs.length c6] 31))from(M _ w6).alloc _);have Ej:=I (bd.QH ((gL.trans fI).trans gW));have vv:=I (gW.QN (fI.QN aoD λh=>h) λh=>h);have aI:=I (show wq.heap.size<=w6.heap.size/\w6.heap.size<(w6.alloc (.cells #[.int .i64 1,.string ⟨#[]⟩,.int .i64 0,.slice A6 fs.length c6] 31)).heap.size from⟨by have:=gL.size;have:=fI.size;omega,aG.lt⟩);have OM:=I ((ai.trans gL).trans (fI.trans gW));have jy:=I (iC.QH gW);have apO:=I bd.pY;have apk:ms.length=q:=by rw[bc.out,D7.amV,avj];have:=bb.out;omega
      have aZ:=I apk;clear apk;obtain⟨ii,hi,hz0,hz1,hz2⟩:=info_parts al7;refine dm rfl (λK hK=>?_)
      go_wp2_with (at_builtin;go_loud (refine vF rfl (.tmp 59) (.tmp 65) rfl ii _ hi hz0 hz1 hz2 rfl (B0:=W5.heap.size) (B:=W5.heap.size) (B1:=wq.heap.size) (ks:=ms) (v:=.slice A2 ms.length c2) (y:=.slice (some ⟨w6.heap.size,0,none⟩) 1 1) Ej WH (Np.CG fs) (.slice A6 fs.length c6) WH (Src.uT aG rfl) (jy.base gL.size) be (λ_ h=>h.elim) apO JI (by have:=aZ.out;have:=bb.out;omega) (by have:=be.out;have:=aI.out;omega) ?_);intro A8 c8 w8 jI bR;refine jw.mk ?_)
      have wI:=I (show Grow (λ_=>False) w8 W5.heap.size W5.heap.size (ms++[Np.CG fs]) (.slice A8 (ms++[Np.CG fs]).length c8) by rw[auZ];exact jI);have OQ:=I (show ms++[Np.CG fs]=D7.alp args (x.Qx.take (q+1)) by rw[aW.out,bc.out]);have lT:=I (bR.KM vv (by have:=ajy.lt;omega));have mZ:=I (show ag w1 w8 from OM.trans' bR λk hk=>.inr (by have:=hk.1;have:=eY.size;omega));have a':=I (show W5.heap.size<=w8.heap.size by have:=bR.size;have:=be.out;have:=aI.out;omega);clear jI bR;obtain⟨q0,q1,q2,q3,z0,z1,z2,z3,Rn⟩:=af.QM lT;refine jw.go ?_;go_wp2_with fail
      refine dJ ?_
      repeat(refine Z4 ?_)
      refine dm rfl (λK hK=>?_);go_wp2_with fail
      refine fH ?_;have aq:=(M (λk=>k=w1.heap.size) w8).setCell (p:=⟨w1.heap.size,3,none⟩) Wh (.slice A8 (ms.length+1) c8);have ax:=I (wI.mv aq PD (λ_ h=>h.elim) (λk hk=>.inr (.inl (by rw[hk];exact ajy.lt))));have iY:=I (show af _ w1.heap.size 31 #[.int .i64 x.QI,.string ⟨x.QG.toArray⟩,.int .i64 x.ah,.slice A8 (ms++[Np.CG fs]).length c8] by rw[auZ];exact lT.put 3 (.slice A8 (ms.length+1) c8));have zZ:=I (mZ.setCell (p:=⟨w1.heap.size,3,none⟩) ET (.slice A8 (ms.length+1) c8));have apl:=I (show W5.heap.size<=(w8.setCell ⟨w1.heap.size,3,none⟩ (.slice A8 (ms.length+1) c8)).heap.size by have:=a'.out;simpa using this);clear aq q0 q1 q2 q3 z0 z1 z2 z3 Rn;generalize (w8.setCell ⟨w1.heap.size,3,none⟩ (.slice A8 (ms.length+1) c8))=w9 at ax iY zZ apl|-;go_wp2_with fail
      exact⟨⟨_,q+1,ms++[Np.CG fs],A8,c8,rfl,by simp,by have:=bb.out;omega,OQ,iY,ax,zZ,apl⟩,by simp[intOf];have:=bb.out;omega⟩
     .have d2:decide ((q:Int)<(x.Qx.length:Int))=false:=dF Zo
      have d2n:decide (q<x.Qx.length)=false:=dF c2';obtain rfl:q=x.Qx.length:=Zo
      have aU:=I (show ms=D7.alp args x.Qx by rw[bc.out,avm])
      have aH:=I (show D7.alS args x=[.mk x.QI x.QG x.ah ms] by
       rw[aK.out,aU.out];cases x with
       |mk a b c d=>rw[D7.anf];rfl)
      obtain⟨p0,p1,p2,p3,_,_,_,_,aL⟩:=af.QM aF;have aG:=I (af.new wq 31 #[.int .i64 x.QI,.string ⟨x.QG.toArray⟩,.int .i64 x.ah,.slice A2 ms.length c2]);have gW:=I (show ag wq (wq.alloc (.cells #[.int .i64 x.QI,.string ⟨x.QG.toArray⟩,.int .i64 x.ah,.slice A2 ms.length c2] 31))from(M _ wq).alloc _);have Ej:=I ((HG.QH ai).QH gW);have jy:=I (((bd.tree PD).QH gW).base eY.size);have HOW:=I HG.pY;have Lu:=I ((HF.trans ai).trans gW);have xI:=I (show w.heap.size<=w1.heap.size/\w1.heap.size<=wq.heap.size from⟨HF.size,ai.size⟩);obtain⟨ii,hi,hz0,hz1,hz2⟩:=info_parts al7
      go_wp2_with (at_builtin;go_loud (refine vF rfl (.tmp 69) (.tmp 71) rfl ii _ hi hz0 hz1 hz2 rfl (B0:=w.heap.size) (B:=w.heap.size) (B1:=w1.heap.size) (ks:=ns) (v:=.slice A' ns.length cp) (y:=.slice (some ⟨wq.heap.size,0,none⟩) 1 1) Ej WH (.mk x.QI x.QG x.ah ms) (.slice A2 ms.length c2) WH (Src.uT aG rfl) jy xI.out.1 (λ_ h=>h.elim) HOW wL (by have:=wH.out;omega) (by have:=xI.out;have:=gW.size;omega) ?_);intro A8 c8 w8 jI bR;refine jw.mk ?_)
      have mZ:=I (show ag w w8 from Lu.trans' bR λk hk=>.inr hk.1);have wI:=I (show Grow (λ_=>False) w8 w.heap.size w.heap.size (ns++[.mk x.QI x.QG x.ah ms]) (.slice A8 (ns++[(.mk x.QI x.QG x.ah ms:Nd)]).length c8) by rw[auZ];exact jI);have LU:=I (show ns++[.mk x.QI x.QG x.ah ms]=D7.alf args (ks.take (j+1)) by rw[bf.out,aR.out,aH.out]);clear jI bR;refine jw.go ?_;go_wp2_with fail
      exact⟨⟨_,j+1,ns++[.mk x.QI x.QG x.ah ms],A8,c8,rfl,by simp,by simp,by have:=HJ.out;omega,LU,wI,mZ⟩,by simp[intOf];have:=HJ.out;omega⟩
  .have d1:decide ((j:Int)<(ks.length:Int))=false:=dF Zo
   have jo:decide (j<ks.length)=false:=dF c1;obtain rfl:j=ks.length:=Zo
   have bi:=I (show ns=Z by rw[aR.out,HZ.out,avm]);go_wp2_with fail
   have hv:=HG.tree PD;rw[bi.out]at hv;have h:=HQ.out (.returned (.slice A' Z.length cp)) wr ⟨A',cp,rfl,hv,HF⟩;rw[<-bi.out]at h;exact h
end
section
open Go.RowKit
open Tr (Nd)
open D7 (alh ali ale)
attribute [local go_sem] gD stillUpon
structure Pl(W0:W_)(g:Nat)(P:Int)(s:Nat×Bool)(w:W_):Prop where
 fr:ag W0 w
 QN:af w g 116 #[V P,V (s.1:Int),.bool s.2]
 le:W0.heap.size<=g
theorem Pl.move{W0 w w':W_}{g:Nat}{P:Int}{s:Nat×Bool}{X:Nat->Prop}(h:Pl W0 g P s w)(ht:Touch X w w')(hg:¬X g)(hX:∀k,X k->W0.heap.size<=k):Pl W0 g P s w':=
 ⟨h.fr.trans' ht λk hk=>.inr (hX k hk),ht.QN h.QN hg,h.le⟩
theorem Pl.QH{W0 w w':W_}{g:Nat}{P:Int}{s:Nat×Bool}(h:Pl W0 g P s w)(hf:ag w w'):Pl W0 g P s w':=h.move hf PR λ_ h=>h.elim
theorem Pl.three{W0 w:W_}{g:Nat}{P:Int}{s:Nat×Bool}(h:Pl W0 g P s w):w.cell? (B_ g 0)=some (V P)/\w.cell? (B_ g 1)=some (V (s.1:Int))/\w.cell? (B_ g 2)=some (.bool s.2)/\
  w.frozen? (B_ g 1)=false/\w.frozen? (B_ g 2)=false/\g<w.heap.size:=⟨h.QN.cell 0,h.QN.cell 1,h.QN.cell 2,h.QN.frozen 1,h.QN.frozen 2,h.QN.lt⟩
structure aoE(W0:W_)(n:Nd)(gn o:Nat)(sl:Value):Prop where
 lt:gn<W0.heap.size
 c0:W0.cell? (B_ gn o)=some (V n.QI)
 c1:W0.cell? (B_ gn (o+1))=some (S_ n.QG)
 c2:W0.cell? (B_ gn (o+2))=some (V n.ah)
 c3:W0.cell? (B_ gn (o+3))=some sl
 Qx:aD W0 n.Qx sl
 tl:n.QG.length<=maxLen
def PlE(W0:W_)(g:Nat)(P:Int)(R:Nd×(Nat×Bool))(w:W_)(e:Ending)(w':W_):Prop:=∃s',e=.returned (nv R.1 s')/\Touch (λk=>k=g) w w'/\
  R.1.QG.length<=maxLen/\aP w.heap.size w' R.1.Qx s'/\Pl W0 g P R.2 w'/\(R.2.2=true->R.2.1<=1000)
def PlC(W0:W_)(g:Nat)(P:Int)(n:Nd):Prop:=∀(d m gn o:Nat) (sl:Value) (w:W_),d<=25->m<=1000->aoE W0 n gn o sl->Pl W0 g P (m,true) w->
 C_ 40 #[.pointer (A_ g 0),.pointer (A_ gn o),V (d:Int)] w (PlE W0 g P (ali P d n (m,true)) w)
theorem anB(P:Int)(d:Nat)(ks:List Nd)(m:Nat):ale P d ks (m,false)=([],(m,false)):=by
 cases ks with
 |nil=>rw[ale]
 |cons x xs=>rw[ale,if_pos rfl]
theorem anC(P:Int)(d:Nat)(x:Nd)(xs:List Nd)(m:Nat):ale P d (x::xs) (m,true)=((ali P d x (m,true)).1::(ale P d xs (ali P d x (m,true)).2).1,(ale P d xs (ali P d x (m,true)).2).2):=by
 rw[ale,if_neg (by decide)]
theorem ano(W0:W_)(g:Nat)(P:Int)(n:Nd)(ih:∀x∈n.Qx,PlC W0 g P x):PlC W0 g P n:=by
 intro d m gn o sl w hd hm hat hpl;have q9:=I ih;have an:=I hat;have al:=I hpl;obtain⟨R,hR⟩:∃R,R=ali P d n (m,true):=⟨_,rfl⟩;rw[<-hR];obtain⟨A,cap,ab⟩:=hat.Qx.slice;subst ab;obtain⟨kd,tx,cl,ks⟩:=n;simp only[Nd.Qx]at*;have aF:=hpl.QN.lt;have apP:gn≠g:=by have:=hat.lt;have:=hpl.le;omega
 have aqd:gn<w.heap.size:=Nat.lt_of_lt_of_le hat.lt hpl.fr.size;obtain⟨m1,aL⟩:∃m1,m1=m+1:=⟨_,rfl⟩;obtain⟨d1,aH⟩:∃d1,d1=d+1:=⟨_,rfl⟩;have hwm:IntKind.i64.wrap ((m:Int)+1)=(m1:Int):=amZ
 have hwd:IntKind.i64.wrap ((d:Int)+1)=(d1:Int):=amZ
 obtain⟨p0,p1,p2,f1,f2,hg⟩:=hpl.three;simp only at p1 p2;obtain⟨z1,hz1⟩:∃z1:Bool,z1=match alh (.mk kd tx cl ks)with|some j=>decide ((j:Int)<=P)|none=>true:=⟨_,rfl⟩
 obtain⟨t1,ad⟩:∃t1:List UInt8,t1=if(alh (.mk kd tx cl ks)).isSome then [120]else tx:=⟨_,rfl⟩
 have am:=I (show R=if 1000<m1\/24<d then(.mk 0 [] 0 [],(m1,false))else(.mk kd t1 cl (ale P d1 ks (m1,z1)).1,(ale P d1 ks (m1,z1)).2) by
  rw[hR,ali,aL,aH,hz1,ad];cases alh (.mk kd tx cl ks)<;>rfl)
 clear hR ih hat
 have ace:=I (show Pl W0 g P (m1,true) (w.setCell ⟨g,1,none⟩ (.int .i64 (m1:Int)))from
  ⟨al.fr.setCell (p:=⟨g,1,none⟩) (.inr al.le) _,al.QN.put 1 _,al.le⟩)
 have ao:=I ((M (λk=>k=g) w).setCell (p:=⟨g,1,none⟩) Wh (.int .i64 (m1:Int)))
 have Xm:((decide ((1000:Int)<(m1:Int))=true\/(decide ((1000:Int)<(m1:Int))=false/\decide ((24:Int)<(d:Int))=true))/\R=(.mk 0 [] 0 [],(m1,false)))\/
   (decide ((1000:Int)<(m1:Int))=false/\decide ((24:Int)<(d:Int))=false/\m1<=1000/\d<=24/\R=(.mk kd t1 cl (ale P d1 ks (m1,z1)).1,(ale P d1 ks (m1,z1)).2)):=by
  by_cases h1:1000<m1
  .exact .inl ⟨.inl (dT Zo),am.trans (if_pos (.inl h1))⟩
  .by_cases h2:24<d
   .exact .inl ⟨.inr ⟨dF Zo,dT Zo⟩,am.trans (if_pos (.inr h2))⟩
   .exact .inr ⟨dF Zo,dF Zo,by omega,by omega,am.trans (if_neg Zo)⟩
 have aQ:=I hz1;have kJ:=I ad;have a9:=I (show m<=1000/\d<=25 from⟨hm,hd⟩);have Zi:=I aL;have ap:=I aH;clear am aL aH hpl hz1 ad hm hd
 rcases Xm with⟨hx|⟨hx,hy⟩,hr⟩|⟨hx,hy,aI,aZ,hr⟩
 rotate_left
 rotate_left
 focus
  have ar:=I hr;have iI:=I (show m1<=1000/\d<=24 from⟨aI,aZ⟩);clear aI aZ hr;go_enter func40,ntmps40;go_wp2_with fail
  have ow:=I (show af ((w.setCell ⟨g,1,none⟩ (.int .i64 (m1:Int))).alloc (.cells ZN 31)) w.heap.size 31 ZN by
   have h:=af.new (w.setCell ⟨g,1,none⟩ (.int .i64 (m1:Int))) 31 ZN
   rwa [show(w.setCell ⟨g,1,none⟩ (.int .i64 (m1:Int))).heap.size=w.heap.size by simp]at h)
  have aw:=I (ao.alloc (.cells ZN 31));have oL:=I (ace.QH ((M _ _).alloc (.cells ZN 31)));generalize ((w.setCell ⟨g,1,none⟩ (.int .i64 (m1:Int))).alloc (.cells ZN 31))=W3 at ow aw oL|-;have a8:=I (show w.heap.size<W3.heap.size from ow.lt);have a0:W3.cell? ⟨gn,o,none⟩=some (.int .i64 kd):=oL.fr.cell an.c0 PR;have a1:W3.cell? ⟨gn,o+1,none⟩=some (S_ tx):=oL.fr.cell an.c1 PR;have a2:W3.cell? ⟨gn,o+2,none⟩=some (.int .i64 cl):=oL.fr.cell an.c2 PR;have r0:=cR (a0.trans rfl);have r1:=cR (a1.trans rfl);have r2:=cR (a2.trans rfl);clear a0 a1 a2;refine cu [([(0,true),(1,true),(2,true),(3,true),(4,true),(5,true),(6,true),(7,true),(8,true),(9,true),(10,true),(11,true),(12,true),(13,false)],14)] [] Pg Ph Pg ?_;refine dJ ?_
  repeat(refine Z4 ?_)
  refine aS rfl (λK hK=>?_);go_wp2
  refine hK _ _ (aA (((M (λ_=>False) _).drewN 1).alloc _)) ?_;clear hK K;have eZ:=I (((M (λ_=>False) W3).drewN 1).alloc (.cells ZN 31));have aM:=I (show af ((W3.drewN 1).alloc (.cells ZN 31)) W3.heap.size 31 ZN from af.new (W3.drewN 1) 31 _);generalize ((W3.drewN 1).alloc (.cells ZN 31))=W4 at eZ aM|-;obtain⟨p0,p1,p2,p3,y0,y1,y2,y3,aoC⟩:=af.QM aM;refine dm rfl (λK hK=>?_);go_wp2_with fail
  refine fH ?_;have n5:=aM.gH (.int .i64 kd) (S_ tx) (.int .i64 cl) (N_);have jO:=eZ.aO (g:=W3.heap.size) ET (.int .i64 kd) (S_ tx) (.int .i64 cl) (N_);have aD:(aO W4 W3.heap.size (.int .i64 kd) (S_ tx) (.int .i64 cl) (N_)).heap.size=W4.heap.size:=by simp[aO]
  simp only[aO]at n5 jO aD;generalize (auX (auX (auX (auX W4 ⟨W3.heap.size,0,none⟩ _) ⟨W3.heap.size,1,none⟩ _) ⟨W3.heap.size,2,none⟩ _) ⟨W3.heap.size,3,none⟩ _)=W5 at n5 jO aD|-;have ajy:=I n5;have eY:=I jO;clear n5 jO aD p0 p1 p2 p3 y0 y1 y2 y3 aoC aM eZ;have a0:W5.cell? ⟨gn,o,none⟩=some (.int .i64 (Nd.mk kd tx cl ks).QI):=(oL.fr.trans eY).cell an.c0 PR;have a1:W5.cell? ⟨gn,o+1,none⟩=some (.string ⟨(Nd.mk kd tx cl ks).QG.toArray⟩):=(oL.fr.trans eY).cell an.c1 PR;have a2:W5.cell? ⟨gn,o+2,none⟩=some (.int .i64 (Nd.mk kd tx cl ks).ah):=(oL.fr.trans eY).cell an.c2 PR;have a3:W5.cell? ⟨gn,o+3,none⟩=some (.slice A (Nd.mk kd tx cl ks).Qx.length cap):=(oL.fr.trans eY).cell an.c3 PR;have aX:=I (am7 (.mk kd tx cl ks) gn o cap A W5 a0 a1 a2 a3);clear a0 a1 a2 a3;go_wp2_with fail
  refine aX.mono ?_;rintro _ w6 ⟨kp,rfl,a5,rfl⟩;have aV:=I a5;clear a5 aX;have DK:=I (eY.QN ow λh=>h);have iW:=I (aw.trans (eY.mono λ_ h=>h.elim));have wN:=I (oL.QH eY);have ac:=I (show w.heap.size<W3.heap.size/\W3.heap.size<w6.heap.size from⟨a8,ajy.lt⟩);clear ow aw oL eY a8;have ax:=I (show gn<W0.heap.size/\W0.cell? ⟨gn,o+3,none⟩=some (.slice A ks.length cap)from⟨an.lt,an.c3⟩);have aj:=I (show W3.heap.size≠g/\w.heap.size≠g from⟨by have:=ac.out.1;omega,by omega⟩)
  rcases hp:alh (.mk kd tx cl ks)with _|j
  focus
   have hz:z1=true:=by rw[aQ.out,hp]
   have ht:t1=tx:=by rw[kJ.out,hp];rfl
   have a3:w6.cell? ⟨gn,o+3,none⟩=some (.slice A ks.length cap):=wN.fr.cell ax.out.2 PR;have agM:=I (show af w6 W3.heap.size 31 #[.int .i64 kd,S_ t1,.int .i64 cl,N_] by rw[ht];exact ajy);have SA:=I (show Pl W0 g P (m1,z1) w6 by rw[hz];exact wN);have wL:=I (show t1.length<=maxLen by rw[ht];exact an.tl);have jy:=I (show Touch (λk=>k=g\/k=W3.heap.size) w w6 from iW.mono λ_ h=>.inl h);have qc:=DK;clear ajy wN aV aQ kJ hp hz ht iW DK;go_wp2_with fail
   clear a3;generalize w6=wl at agM SA jy qc ac|-
  rotate_left
  focus
   obtain⟨hk,aJ,aY⟩:=aV.out j hp;subst hk;have hz:z1=decide ((j:Int)<=P):=by rw[aQ.out,hp]
   have ht:t1=[120]:=by rw[kJ.out,hp];rfl
   obtain⟨b0,b1,b2,b3,y0,y1,y2,y3,aB⟩:=af.QM ajy;obtain⟨p0,p1,p2,f1,f2,hg⟩:=wN.three;have a3:w6.cell? ⟨gn,o+3,none⟩=some (.slice A ks.length cap):=wN.fr.cell ax.out.2 PR;have hnz:gn≠W3.heap.size:=by have:=ax.out.1;have:=wN.le;have:=ac.out;omega
   have au:=aj.out.1;have a':g≠W3.heap.size:=λe=>au e.symm
   have agM:=I (show af ((w6.setCell ⟨W3.heap.size,1,none⟩ (.string ⟨#[120]⟩)).setCell ⟨g,2,none⟩ (.bool (decide ((j:Int)<=P)))) W3.heap.size 31 #[.int .i64 kd,S_ t1,.int .i64 cl,N_] by
    rw[ht];exact(ajy.put 1 (.string ⟨#[120]⟩)).far (p:=⟨g,2,none⟩) au _)
   have SA:=I (show Pl W0 g P (m1,z1) ((w6.setCell ⟨W3.heap.size,1,none⟩ (.string ⟨#[120]⟩)).setCell ⟨g,2,none⟩ (.bool (decide ((j:Int)<=P)))) by
    rw[hz];exact⟨(wN.fr.setCell (p:=⟨W3.heap.size,1,none⟩) (.inr (by have:=wN.le;have:=ac.out;show W0.heap.size<=W3.heap.size;omega)) _).setCell (p:=⟨g,2,none⟩) (.inr wN.le) _,(wN.QN.far (p:=⟨W3.heap.size,1,none⟩) a' _).put 2 _,wN.le⟩)
   have wL:=I (show t1.length<=maxLen by rw[ht];simp[maxLen]);have jy:=I (show Touch (λk=>k=g\/k=W3.heap.size) w ((w6.setCell ⟨W3.heap.size,1,none⟩ (.string ⟨#[120]⟩)).setCell ⟨g,2,none⟩ (.bool (decide ((j:Int)<=P))))from((iW.mono λ_ h=>.inl h).setCell (p:=⟨W3.heap.size,1,none⟩) (.inl atG) _).setCell (p:=⟨g,2,none⟩) auk _);have qc:=I ((DK.far (p:=⟨W3.heap.size,1,none⟩) (by have h:=ac.out.1;show w.heap.size≠W3.heap.size;omega) (.string ⟨#[120]⟩)).far (p:=⟨g,2,none⟩) aj.out.2 (.bool (decide ((j:Int)<=P))));have ba:w.heap.size<W3.heap.size/\W3.heap.size<((w6.setCell ⟨W3.heap.size,1,none⟩ (.string ⟨#[120]⟩)).setCell ⟨g,2,none⟩ (.bool (decide ((j:Int)<=P)))).heap.size:=⟨ac.out.1,agM.lt⟩;clear aV hp aQ kJ;go_wp2_with fail
   clear ac;have ac:=I ba;clear ba;generalize ((w6.setCell ⟨W3.heap.size,1,none⟩ (.string ⟨#[120]⟩)).setCell ⟨g,2,none⟩ (.bool (decide ((j:Int)<=P))))=wl at agM SA jy qc ac|-;clear ajy wN hz ht iW DK b0 b1 b2 b3 y0 y1 y2 y3 aB p0 p1 p2 f1 f2 hg a3 hnz au a' aJ aY
  all_goals
   have Cb:=I (show Touch (λk=>k=g) w wl from(M (λk=>k=g) w).trans' jy λk hk=>hk.elim .inl λh=>.inr (by have:=ac.out.1;omega));have wI:=I (Grow.nil (λk=>k=w.heap.size\/k=W3.heap.size) wl w.heap.size wl.heap.size);have ae:=I (show W0.heap.size<=w.heap.size from al.fr.size);have aa:=I (show w.heap.size+1<=wl.heap.size by have:=ac.out;omega);have bb:=I (show z1=true->m1<=1000/\0<=m1 from λ_=>⟨iI.out.1,au1 _⟩);clear jy ao ace
   go_loopw [71] (λi av=>∃(wr:W_) (j:Nat) (A':Option Addr) (cp:Nat) (ns:List Nd) (sm:Nat) (sz:Bool),wr=av/\i=.int .i64 j/\j<=ks.length/\Hd (ns.length=j)/\Hd (af wr w.heap.size 31 ZN)/\Hd (af wr W3.heap.size 31 #[.int .i64 kd,S_ t1,.int .i64 cl,.slice A' j cp])/\Hd (Grow (λk=>k=w.heap.size\/k=W3.heap.size) wr w.heap.size wl.heap.size ns (.slice A' j cp))/\Hd (Touch (λk=>k=g) w wr)/\Hd (Pl W0 g P (sm,sz) wr)/\Hd (sz=true->sm<=1000/\j<=sm)/\Hd (wl.heap.size<=wr.heap.size)/\Hd (ale P d1 ks (m1,z1)=(ns++(ale P d1 (ks.drop j) (sm,sz)).1,(ale P d1 (ks.drop j) (sm,sz)).2))) (λi _=>ks.length-(intOf i).toNat)
   case atStart=>exact⟨_,0,none,0,[],m1,z1,rfl,rfl,au1 _,I rfl,qc,agM,wI,Cb,SA,bb,I PD,I (by rw[List.drop_zero,List.nil_append])⟩
   case round=>
    clear qc agM wI Cb SA bb;obtain⟨wr,j,A',cp,ns,sm,sz,rfl,rfl,hj,wH,ow,aM,HG,HT,HP,bc,HSW,ug⟩:=hrel
    by_cases c1:j<ks.length
    .have aE:decide ((j:Int)<(ks.length:Int))=true:=dT Zo
     have jo:decide (j<ks.length)=true:=dT c1;have d1i:(j:Int)<(ks.length:Int):=Zo
     obtain⟨p0,p1,p2,f1,f2,hg⟩:=HP.three;cases sz with
     |false=>
      have dB:=I (show R=(.mk kd t1 cl ns,(sm,false)) by rw[ar.out,ug.out,anB,avf]);clear ug;obtain⟨m0,m1',m2',m3',_,_,_,_,ay⟩:=af.QM aM;obtain⟨q0,q1,q2,q3,z0,z1',z2,z3,aT⟩:=af.QM ow;have hab:=ac.out.1;have a4:w.heap.size≠W3.heap.size:=Zo
      go_wp2_with fail
      have n1:=ow.gH (.int .i64 kd) (S_ t1) (.int .i64 cl) (.slice A' j cp);have hf:=HT.aO (g:=w.heap.size) ET (.int .i64 kd) (S_ t1) (.int .i64 cl) (.slice A' j cp);have ht:=yL wr w.heap.size (.int .i64 kd) (S_ t1) (.int .i64 cl) (.slice A' j cp);have jA:=(HG.mv ht aim abV asP).tree aim;have aR:=HP.move ht (λe=>aj.out.2 e.symm) atv;simp only[aO]at n1 hf jA aR;obtain⟨g0,g1,g2,g3,_⟩:=af.QM n1
      exact aeH
     |true=>
      obtain⟨apm,aU⟩:=bc.out rfl;obtain⟨gk,ok,slk,rfl,aK,e0,e1,e2,e3,e4⟩:=an.Qx.get j c1;have JN:=I (show aoE W0 ks[j] gk (ok+j*4) slk from⟨aK,e0,e1,e2,e3,e4,an.Qx.texts j c1⟩);have HC:=I (q9 ks[j] f_)
      have ack:=I (show ale P d1 ks (m1,z1)=((ns++[(ali P d1 ks[j] (sm,true)).1])++(ale P d1 (ks.drop (j+1)) (ali P d1 ks[j] (sm,true)).2).1,(ale P d1 (ks.drop (j+1)) (ali P d1 ks[j] (sm,true)).2).2) by
       rw[ug.out,List.drop_eq_getElem_cons c1,anC,List.append_assoc];rfl)
      clear ug e0 e1 e2 e3 e4 aK;generalize ks[j]=x at*;have aG:=I (And.intro apm aU);have a3:wr.cell? ⟨gn,o+3,none⟩=some (.slice (some ⟨gk,ok,none⟩) ks.length cap):=HP.fr.cell ax.out.2 PR;have hjb:j<=140737488355328:=Zo
      go_wp2_with fail
      have k3:=cT (S:=λk=>k=g) ((aM.cell 3).trans rfl) aj.out.1;have y3:=cT (S:=λk=>k=g) a3 apP;clear a3 p0 p1 p2 f1 f2 hg aE jo
      refine CW (λW=>∃x:Turned (λk=>k=g) wr,W=x.W) (gq.of [(0,true),(1,true),(2,true),(3,true),(4,true),(5,true),(6,true),(7,true),(8,true),(9,true),(10,true)] (.lone 11 (.lone 12 .nil))) [0,1,2,3,4,5,6,7,8,9,10,11,12] 13 (Array.replicate 13 true++Array.replicate 3 false) (λ_=>True) (gq.of [(14,true)] (.lone 15 .nil)) [14,15] (Array.replicate 16 true)
       (by kernel_rfl) Ph Pg ⟨⟨_,(M _ _).drewN 1⟩,rfl⟩ ?_
      unfold gq.of
      repeat(refine V9 ?_;first|done|unfold gq.of)
      clear k3 y3;refine aW rfl (λK hK=>?_);go_wp2_with fail
      refine(HC d1 sm gk (ok+j*4) slk (wr.drewN 1) (by have:=ap.out;have:=iI.out;omega) aG.out.1 JN (HP.QH ((M _ _).drewN 1))).mono ?_;rintro _ v6 ⟨s6,rfl,jq,H7,FK,yY,bd⟩;have anp:=I (D7.alZ P x d1 sm true);have iC:=I (show Touch (λk=>k=g) wr v6 from((M _ wr).drewN 1).trans jq);have Sm:=I (show aP wr.heap.size v6 (ali P d1 x (sm,true)).1.Qx s6 from FK);have RF:=I H7;have pg:=I yY;have aC:=I bd;obtain⟨Ak,ck,rfl⟩:=FK.slice;clear jq FK H7 yY bd HC JN;generalize ali P d1 x (sm,true)=RR at*;obtain⟨xm,sm',sz'⟩:=RR;simp only at*;go_wp2
      refine hK _ _ ⟨⟨_,iC⟩,rfl⟩ ?_;clear hK K;refine aW rfl (λK hK=>?_);go_wp2
      refine hK _ _ ⟨⟨_,iC.alloc _⟩,rfl⟩ ?_;clear hK K;have kW:=I (af.new v6 31 #[.int .i64 xm.QI,S_ xm.QG,.int .i64 xm.ah,.slice Ak xm.Qx.length ck]);have jy:=I (iC.alloc (.cells #[.int .i64 xm.QI,S_ xm.QG,.int .i64 xm.ah,.slice Ak xm.Qx.length ck] 31));have gW:=I (show ag v6 (v6.alloc (.cells #[.int .i64 xm.QI,S_ xm.QG,.int .i64 xm.ah,.slice Ak xm.Qx.length ck] 31))from(M _ v6).alloc _);generalize (v6.alloc (.cells #[.int .i64 xm.QI,S_ xm.QG,.int .i64 xm.ah,.slice Ak xm.Qx.length ck] 31))=v7 at kW jy gW|-;have Ej:=I (HG.mv jy aim abV (λk hk=>.inr (.inl Zo)));have Sy:=I (Sm.out.QH gW);have SA:=I (pg.QH gW);have qc:=I (jy.QN ow aj.out.2);have agM:=I (jy.QN aM aj.out.1);obtain⟨ii,hi,hz0,a6,hz2⟩:=info_parts o_
      have HOW:=I (show∀k,(Value.slice A' j cp).ownBlock=some k->k<wr.heap.size from λk hk=>by
       obtain⟨cs,h1,_⟩:=HG.out;obtain⟨_,cur,h4⟩:=fe h1 hk;exact(Array.getElem?_eq_some_iff.1 h4).1)
      have lg:=I (show ns.length<2^40 by have:=wH.out;have:=aG.out;omega);have aqe:=I (show ns.length+1=j+1 by have:=wH.out;omega);have az:=I (show wl.heap.size<=wr.heap.size/\wr.heap.size<=v7.heap.size from⟨HSW,jy.size⟩);refine BU rfl (λK hK=>?_)
      go_wp2_with (at_builtin;go_loud (refine vF rfl (.tmp 81) (.tmp 92) rfl ii _ hi hz0 a6 hz2 rfl (B0:=w.heap.size) (B:=wl.heap.size) (B1:=wr.heap.size) (ks:=ns) (v:=.slice A' j cp) (y:=.slice (some ⟨v6.heap.size,0,none⟩) 1 1) Ej WH xm (.slice Ak xm.Qx.length ck) WH (Src.uT kW rfl) Sy (by have:=az.out;have:=aa.out;omega) (λk hk=>by have:=az.out;have:=ac.out;rcases hk with rfl|rfl<;>omega) HOW RF lg (by have:=az.out;omega) ?_);intro A8 c8 w8 jI bR;refine jw.mk ?_)
      have wI:=I jI;have wE:=I (bR.KM qc aim);have apn:=I (bR.KM agM (by have:=ac.out;omega));have AQ:=I (SA.move bR (λh=>by have:=h.1;have:=aa.out;have:=ac.out;omega) (λk hk=>by have:=hk.1;have:=ae.out;have:=aa.out;omega));have lS:=I (show Touch (λk=>k=g) w w8 from(HT.trans jy).trans' bR λk hk=>.inr (by have:=hk.1;have:=aa.out;omega));have apQ:=I (show wl.heap.size<=w8.heap.size by have:=bR.size;have:=az.out;omega)
      have a7:=I (show sz'=true->sm'<=1000/\j+1<=sm' from λh=>⟨aC h,by
       have h1:=(anp h).2.1;have h2:=Tr.aN x;have h3:=aG.out.2;omega⟩)
      clear jI bR;obtain⟨q0,q1,q2,q3,z0,z1',z2,z3,Rn⟩:=af.QM apn;rw[wH.out]at wI
      (try rw[wH.out])
      refine jw.go ?_;go_wp2
      refine hK _ _ trivial ?_;clear hK K
      repeat(refine V9 ?_)
      refine aW rfl (λK hK=>?_);go_wp2
      refine hK _ _ trivial ?_;clear hK K;refine sQ ?_;go_wp2_with fail
      have aq:=(M (λk=>k=W3.heap.size) w8).setCell (p:=⟨W3.heap.size,3,none⟩) Wh (.slice A8 (j+1) c8)
      exact⟨⟨_,j+1,A8,c8,ns++[xm],sm',sz',rfl,by simp,by omega,I arY,I (wE.far (p:=⟨W3.heap.size,3,none⟩) (by have:=ac.out;show w.heap.size≠W3.heap.size;omega) _),I (apn.put 3 _),I (wI.mv aq aim abV (λk hk=>.inl (.inr hk))),I (lS.setCell (p:=⟨W3.heap.size,3,none⟩) (.inr (by have:=ac.out;show w.heap.size<=W3.heap.size;omega)) _),
       I (AQ.move aq (λe=>aj.out.1 e.symm) (λk hk=>by rw[hk];have:=ae.out;have:=ac.out;omega)),a7,I (by have:=aq.size;have:=apQ.out;omega),ack⟩,by simp[intOf];omega⟩
    .have aE:decide ((j:Int)<(ks.length:Int))=false:=dF Zo
     have jo:decide (j<ks.length)=false:=dF c1
     have dB:=I (show R=(.mk kd t1 cl ns,(sm,sz)) by
      rw[ar.out,ug.out,List.drop_of_length_le (by omega),ale,avf])
     clear ug;obtain⟨m0,m1',m2',m3',_,_,_,_,ay⟩:=af.QM aM;obtain⟨q0,q1,q2,q3,z0,z1',z2,z3,aT⟩:=af.QM ow;have hab:=ac.out.1;have a4:w.heap.size≠W3.heap.size:=Zo
     go_wp2_with fail
     have n1:=ow.gH (.int .i64 kd) (S_ t1) (.int .i64 cl) (.slice A' j cp);have hf:=HT.aO (g:=w.heap.size) ET (.int .i64 kd) (S_ t1) (.int .i64 cl) (.slice A' j cp);have ht:=yL wr w.heap.size (.int .i64 kd) (S_ t1) (.int .i64 cl) (.slice A' j cp);have jA:=(HG.mv ht aim abV asP).tree aim;have aR:=HP.move ht (λe=>aj.out.2 e.symm) atv;simp only[aO]at n1 hf jA aR;obtain⟨g0,g1,g2,g3,_⟩:=af.QM n1
     exact aeH
 all_goals
  have ar:=I hr;clear hr
  have ai:=I (show af (((w.setCell ⟨g,1,none⟩ (.int .i64 (m1:Int))).setCell ⟨g,2,none⟩ (.bool false)).alloc (.cells ZN 31)) w.heap.size 31 ZN by
   have h:=af.new ((w.setCell ⟨g,1,none⟩ (.int .i64 (m1:Int))).setCell ⟨g,2,none⟩ (.bool false)) 31 ZN
   rwa [show((w.setCell ⟨g,1,none⟩ (.int .i64 (m1:Int))).setCell ⟨g,2,none⟩ (.bool false)).heap.size=w.heap.size by simp]at h)
  obtain⟨b0,b1,b2,b3,y0,y1,y2,y3,aB⟩:=af.QM ai;have oL:=I (show Pl W0 g P (m1,false) ((w.setCell ⟨g,1,none⟩ (.int .i64 (m1:Int))).setCell ⟨g,2,none⟩ (.bool false))from⟨ace.fr.setCell (p:=⟨g,2,none⟩) (.inr ace.le) _,ace.QN.put 2 _,ace.le⟩);have aw:=I (ao.setCell (p:=⟨g,2,none⟩) Wh (.bool false));have nU:=I (aw.alloc (.cells ZN 31));have AP:=I (oL.QH ((M _ _).alloc (.cells ZN 31)));go_enter func40,ntmps40;go_wp2_with fail
  obtain⟨t0,t1',t2,t3,_,_,_,_,_⟩:=af.QM ai;refine bodyPost_ret (v:=.agg ZN) (by simp[results,results40,go_sem,t0,t1',t2,t3]) rfl ?_;rw[ar.out];exact⟨N_,rfl,nU,au1 _,.nil _ _,AP,λh=>by cases h⟩
end
section
open Go.RowKit
open Tr (Nd)
open D7 (alh ali ale ald)
attribute [local go_sem] gD stillUpon
theorem anD(W0:W_)(g:Nat)(P:Int)(n:Nd):PlC W0 g P n:=by
 induction n using Tr.Nd.ind with
 |_ n ih=>exact ano W0 g P n ih
theorem alU(n:Nd)(sl:Value)(P:Int)(w:W_)(hr:aD w n.Qx sl)(ht:n.QG.length<=maxLen):C_ 23 #[nv n sl,V P] w λe w'=>e=.returned (.bool (ald n P))/\ag w w':=by
 obtain⟨A,cap,rfl⟩:=hr.slice;have an:=I (show ald n P=if P<0\/4<P then false else(ali P 1 n (0,true)).2.2&&Tr.valid (ali P 1 n (0,true)).1 from rfl)
 have Xm:((decide (P<(0:Int))=true\/(decide (P<(0:Int))=false/\decide ((4:Int)<P)=true))/\ald n P=false)\/(decide (P<(0:Int))=false/\decide ((4:Int)<P)=false/\ald n P=((ali P 1 n (0,true)).2.2&&Tr.valid (ali P 1 n (0,true)).1)):=by
  by_cases h1:P<0
  .exact .inl ⟨.inl (dT h1),an.trans (if_pos (.inl h1))⟩
  .by_cases h2:4<P
   .exact .inl ⟨.inr ⟨dF h1,dT h2⟩,an.trans (if_pos (.inr h2))⟩
   .exact .inr ⟨dF h1,dF h2,an.trans (if_neg Zo)⟩
 clear an;have HR:=I hr;have wL:=I ht;clear hr ht
 rcases Xm with⟨hx|⟨hx,hy⟩,hr⟩|⟨hx,hy,hr⟩
 rotate_left
 rotate_left
 focus
  have ar:=I hr;clear hr;have aj:=(M (λ_=>False) w).alloc (.cells #[V n.QI,S_ n.QG,V n.ah,.slice A n.Qx.length cap] 31);have hb0:=af.new w 31 #[V n.QI,S_ n.QG,V n.ah,.slice A n.Qx.length cap];have hs0:(w.alloc (.cells #[V n.QI,S_ n.QG,V n.ah,.slice A n.Qx.length cap] 31)).heap.size=w.heap.size+1:=P9
  have JN:=I (show aoE (w.alloc (.cells #[V n.QI,S_ n.QG,V n.ah,.slice A n.Qx.length cap] 31)) n w.heap.size 0 (.slice A n.Qx.length cap)from⟨hb0.lt,hb0.cell 0,hb0.cell 1,hb0.cell 2,hb0.cell 3,HR.QH aj,wL.out⟩)
  have al:=I (show Pl (w.alloc (.cells #[V n.QI,S_ n.QG,V n.ah,.slice A n.Qx.length cap] 31)) (w.heap.size+1) P (0,true) ((w.alloc (.cells #[V n.QI,S_ n.QG,V n.ah,.slice A n.Qx.length cap] 31)).alloc (.cells #[V P,V 0,.bool true] 116))from
   ⟨(M _ _).alloc _,af.new2 _ _ _ _,by rw[hs0];exact Nat.le_refl _⟩)
  have aK:=I (show ag w ((w.alloc (.cells #[V n.QI,S_ n.QG,V n.ah,.slice A n.Qx.length cap] 31)).alloc (.cells #[V P,V 0,.bool true] 116))from aj.alloc _);clear aj hb0 hs0;go_enter func23,ntmps23;go_wp2_with fail
  refine(anD _ (w.heap.size+1) P n 1 0 w.heap.size 0 (.slice A n.Qx.length cap) _ Zo Zo JN.out al.out).mono ?_;rintro _ w2 ⟨s2,rfl,am,apo,DV,ay,hz2⟩;have bW:=I (show ag w w2 from aK.trans' am λk hk=>.inr Zo);have apR:=I apo;have anU:=I DV;have jb:=I ay;obtain⟨A2,c2,rfl⟩:=DV.slice;clear am apo DV ay hz2 JN al aK;generalize ali P 1 n (0,true)=RR at*;obtain⟨xm,m',z'⟩:=RR;simp only at*;obtain⟨p0,p1,p2,f1,f2,hg⟩:=jb.three;cases z' with
  |false=>
   go_wp2
   go_ret;exact⟨by rw[ar.out];rfl,bW.alloc _⟩
  |true=>
   have ai:=I (af.new w2 31 #[V xm.QI,S_ xm.QG,V xm.ah,.slice A2 xm.Qx.length c2]);have bJ:=I (show ag w2 (w2.alloc (.cells #[V xm.QI,S_ xm.QG,V xm.ah,.slice A2 xm.Qx.length c2] 31))from(M _ w2).alloc _);obtain⟨b0,b1,b2,b3,_,_,_,_,aB⟩:=af.QM ai.out;go_wp2_with fail
   refine(CQ xm (.slice A2 xm.Qx.length c2) _ (anU.rep.QH bJ.out) apR.out).mono ?_;rintro _ w4 ⟨rfl,hf⟩;have eZ:=I ((bW.trans bJ.out).trans hf);clear hf;go_wp2
   go_ret;exact⟨by rw[ar.out];rfl,eZ.out⟩
 all_goals
  have ar:=I hr;clear hr;go_enter func23,ntmps23;go_wp2
  go_ret;exact⟨by rw[ar.out];rfl,(M _ _).alloc _⟩
end
end Go.Proofs.YtabjglnjjdcfmaaGreatDoor
