/- Part 30 of 41 of a proof. No condition. -/
import Derived.Test.YtabjglnjjdcfmaaGreatDoorWe29
set_option maxRecDepth 100000
set_option maxHeartbeats 400000
namespace Go.Proofs.YtabjglnjjdcfmaaGreatDoor
open _root_.List renaming append_nil->avf,length_append->auZ,getElem?_eq_getElem->ave,map_append->avx
open _root_.Nat renaming le_refl->au3,sub_zero->axa,eq_zero_or_pos->awr
open _root_.Go.World renaming setCell->auX
open _root_.Go.Proofs.Tryz
section
open Go.RowKit
open Tr (Nd)
open Lx (aB)
open D7 (R cZ kE eB eP dA bV fD di pArg)
attribute [local go_sem] gD stillUpon
def Mw(c:Cf)(f n:Nat):Prop:=∀(k:Kp) (op:List Nat) (kd:Int) (tx:List UInt8) (fC:List Nd) (A0:Option Addr) (B0:Nat) (w:W_),Ps c k op w->op.length<=k.p->tx.length<=maxLen->fC.length<=10->B0<=w.heap.size->aP B0 w fC (.slice A0 fC.length fC.length)->bV c.E f n op (c.at k)≠.out->
 C_ 88 #[lV c,.agg #[V kd,S_ tx,V 0,.slice A0 fC.length fC.length],V (n:Int)] w λe w'=>
  match bV c.E f n op (c.at k)with
  |.ok ks rest=>∃b k',e=.returned (.tuple #[.slice (A_ b 0) 1 1,aG 0 0])/\aP B0 w' [.mk kd tx 0 (fC++ks)] (.slice (A_ b 0) 1 1)/\c.at k'=rest/\k.p<=k'.p/\Ps c k' op w'/\Mp c.g c.W0.heap.size w w'
  |.err i er=>er≠0/\∃A n cp,e=.returned (.tuple #[.slice A n cp,aG i er])/\Mp c.g c.W0.heap.size w w'
  |.out=>True
theorem IG:(Tryz.prog.info? 31).map (λi=>(i.zero,i.size,i.bytes))=some (some (.agg ZN),4,56):=Pg
theorem II(c:Cf)(hc:c.Good)(F n:Nat)(hn:n<=2)(IE:∀f',f'<F->xN c f'):Mw c F n:=by
 intro k op kd tx fC A0 B0 w h hop an aA aL aa hne;obtain⟨i,hi,hz0,hz1,hz2⟩:=info_parts IG;have ac8:=I IE;have au:=hc.tl;have H:=I h;have oJ:=I hop;have kJ:=I an;have jK:=I aa;have aB:=I aL;have aF:c.g<w.heap.size:=h.Ap;have ax:=I h.low.size;have aY:=I hne;refine Calls.via λQ hQ=>?_
 have HQ:=I hQ;clear hne IE h hop hc hQ an aa aL;generalize hX:bV c.E F n op (c.at k)=X at aY HQ;have HX:=I hX;clear hX;go_enter func88,ntmps88;go_wp2_with fail
 have ae:ag w ((w.alloc (.cells #[.int .i64 kd,.string ⟨tx.toArray⟩,.int .i64 0,.slice A0 fC.length fC.length] 31)).alloc (.cells #[.int .i64 0,.int .i64 0] 45)):=((M _ _).alloc _).alloc _;have av:af ((w.alloc (.cells #[.int .i64 kd,.string ⟨tx.toArray⟩,.int .i64 0,.slice A0 fC.length fC.length] 31)).alloc (.cells #[.int .i64 0,.int .i64 0] 45)) w.heap.size 31 #[.int .i64 kd,.string ⟨tx.toArray⟩,.int .i64 0,.slice A0 fC.length fC.length]:=(af.new _ _ _).alloc _;have aw:af ((w.alloc (.cells #[.int .i64 kd,.string ⟨tx.toArray⟩,.int .i64 0,.slice A0 fC.length fC.length] 31)).alloc (.cells #[.int .i64 0,.int .i64 0] 45)) (w.heap.size+1) 45 #[.int .i64 0,.int .i64 0]:=af.new2 _ _ _ _;have Cw:((w.alloc (.cells #[.int .i64 kd,.string ⟨tx.toArray⟩,.int .i64 0,.slice A0 fC.length fC.length] 31)).alloc (.cells #[.int .i64 0,.int .i64 0] 45)).heap.size=w.heap.size+2:=P9
 generalize ((w.alloc (.cells #[.int .i64 kd,.string ⟨tx.toArray⟩,.int .i64 0,.slice A0 fC.length fC.length] 31)).alloc (.cells #[.int .i64 0,.int .i64 0] 45))=W1 at ae av aw Cw|-;have aK:=I ae;have xq:=I Cw;have lU:=I av;have tL:=I aw;clear ae av aw Cw
 go_loopw [11] (λj wr=>∃(m:Nat) (k1:Kp) (ks:List Nd) (A:Option Addr) (cp:Nat),j=.int .i64 m/\m<=n/\ks.length=m/\Hd (af wr w.heap.size 31 #[.int .i64 kd,.string ⟨tx.toArray⟩,.int .i64 0,.slice A (fC++ks).length cp])/\Hd (af wr (w.heap.size+1) 45 #[.int .i64 0,.int .i64 0])/\Hd ((m=0/\cp=(fC++ks).length/\Full (λk=>k=w.heap.size\/k=w.heap.size+1) wr B0 (fC++ks) (.slice A (fC++ks).length cp))\/Grow (λk=>k=w.heap.size\/k=w.heap.size+1) wr B0 W1.heap.size (fC++ks) (.slice A (fC++ks).length cp))/\Hd (Ps c k1 op wr)/\k.p<=k1.p/\Hd (Mp c.g c.W0.heap.size w wr)/\W1.heap.size<=wr.heap.size/\Hd (X=(bV c.E (F-m) (n-m) op (c.at k1)).map λl=>ks++l)) (λj _=>n-(intOf j).toNat)
 case atStart=>
  refine⟨0,k,[],A0,fC.length,rfl,Nat.zero_le _,rfl,by rw[avf];exact lU,tL,.inl ⟨rfl,by rw[avf],by rw[avf];exact jK.full aK (λk hk=>by rcases hk with rfl|rfl<;>omega)⟩,H.QH aK,au3 _,Mp.QH aK,au3 _,?_⟩;unfold Hd;rw[<-HX.out,axa,axa];cases bV c.E F n op (c.at k)<;>rfl
 case round=>
  obtain⟨m,k1,ks,A,cp,rfl,hm,ar,iY,jg,HG,HP,ad,HM,hsz,rO⟩:=hrel;have Em:=I ar;clear ar
  by_cases c1:m<n
  .have d1:decide ((m:Int)<(n:Int))=true:=by simp;omega
   have jo:decide (m<n)=true:=WN
   have aE:(m:Int)<(n:Int):=Zo
   obtain⟨f',hf'⟩:∃f',F-m=f'+1:=by
    rcases awr (F-m)with h0|h0
    .exfalso
     exact ate
    .exact⟨F-m-1,by omega⟩
   obtain⟨n',hn'⟩:∃n',n-m=n'+1:=⟨n-m-1,by omega⟩;have kX:=I (show X=((pArg c.E f' op (c.at k1)).bind λa r=>(bV c.E f' n' op r).map λl=>a::l).map λl=>ks++l from by rw[rO.out,hf',hn',bV]);have Et:=I (show f'<F/\f'=F-(m+1)/\n'=n-(m+1)from by omega);obtain⟨p0,p1,p2,p3,y0,y1,y2,y3,lW⟩:=af.QM iY;obtain⟨q0,q1,z0,z1,ai⟩:=af.two jg;clear hf' hn' rO;go_wp2_with fail
   refine(ac8 f' Et.out.1 k1 op _ HP h_ (λh=>aY ath)).mono ?_;intro e w2 hres;generalize pArg c.E f' op (c.at k1)=r at kX hres;cases r with
   |out=>exact absurd (by rw[kX.out];rfl) aY
   |err ei er=>
    obtain⟨aj,nn,An,cn,rfl,ay⟩:=hres;have F7:=I aj;have e0:=alr aj;have iI:=I (HM.trans ay);have apd:=ay.QN jg Zo Pf;have tK:=I apd;have aC:=I (show X=.err ei er from kX);have aI:=ay.size;clear ay aj apd p0 p1 p2 p3 y0 y1 y2 y3 q0 q1 z0 z1;unfold aG uQ;go_wp2_with fail
    have ap:af ((w2.alloc (.cells #[.int .i64 nn.QI,.string ⟨nn.QG.toArray⟩,.int .i64 nn.ah,.slice An nn.Qx.length cn] 31)).alloc (.cells #[.int .i64 (ei:Int),.int .i64 (er:Int)] 45)) (w2.heap.size+1) 45 #[.int .i64 (ei:Int),.int .i64 (er:Int)]:=af.new2 _ _ _ _;have hbr:af ((w2.alloc (.cells #[.int .i64 nn.QI,.string ⟨nn.QG.toArray⟩,.int .i64 nn.ah,.slice An nn.Qx.length cn] 31)).alloc (.cells #[.int .i64 (ei:Int),.int .i64 (er:Int)] 45)) (w.heap.size+1) 45 #[.int .i64 0,.int .i64 0]:=(tK.alloc _).alloc _;have az:Mp c.g c.W0.heap.size w ((w2.alloc (.cells #[.int .i64 nn.QI,.string ⟨nn.QG.toArray⟩,.int .i64 nn.ah,.slice An nn.Qx.length cn] 31)).alloc (.cells #[.int .i64 (ei:Int),.int .i64 (er:Int)] 45)):=(iI.alloc _).alloc _;generalize ((w2.alloc (.cells #[.int .i64 nn.QI,.string ⟨nn.QG.toArray⟩,.int .i64 nn.ah,.slice An nn.Qx.length cn] 31)).alloc (.cells #[.int .i64 (ei:Int),.int .i64 (er:Int)] 45))=W3 at ap hbr az|-;have r0:=cR y_;have r1:=cR z_;have ab:=ap.lt;have ow:=I hbr;have aN:=I az;clear ap hbr az;refine cu [([(0,true),(1,true)],2)] [] Pg Ph Pg ?_;refine dJ ?_
    repeat(refine Z4 ?_)
    obtain⟨p0,p1,y0,y1,hlt⟩:=af.two (ow.drewN 1);refine dm rfl (λK hK=>?_);go_wp2_with fail
    refine fH ?_;go_wp2_with fail
    have al:af _ (w.heap.size+1) 45 #[.int .i64 (ei:Int),.int .i64 (er:Int)]:=((ow.drewN 1).put 0 (.int .i64 (ei:Int))).put 1 (.int .i64 (er:Int));have wO:=((aN.drewN 1).setCell (p:=⟨w.heap.size+1,0,none⟩) Vi (.int .i64 (ei:Int))).setCell (p:=⟨w.heap.size+1,1,none⟩) Vi (.int .i64 (er:Int));obtain⟨f0,f1,_⟩:=af.two al
    refine bodyPost_ret (v:=.tuple #[N_,aG ei er]) auS rfl ?_;rw[aC.out]at HQ;exact ark
   |ok a rest=>
    obtain⟨A1,uo,k',rfl,aa,an,hdr,IJ,hp,hm⟩:=hres;have jK:=I aa;have kJ:=I an;have ao:=I hdr;have oL:=I hp;have iI:=I (HM.trans hm);have Fy:=I (hm.QN iY Zo Pf);have tK:=I att;have aI:=hm.size;have HTx:=I (show a.QG.length<=maxLen from an);have JX:=I hm;obtain⟨p0,p1,p2,p3,y0,y1,y2,y3,lW⟩:=af.QM Fy;clear aa an hdr hp hm q0 q1 z0 z1;unfold aG uQ;have gu:=I (show B0<=w.heap.size/\W1.heap.size<=wr.heap.size/\W1.heap.size=w.heap.size+2 from by have:=aB.out;have:=xq.out;omega)
    rcases HG.out with⟨rfl,rfl,hg⟩|hg
    .have aJ:=I (show Full (λk=>k=w.heap.size\/k=w.heap.size+1) w2 B0 fC (.slice A fC.length fC.length)from by
      have h0:ks=[]:=List.length_eq_zero_iff.1 Em;subst h0;rw[avf]at hg;exact hg.mv JX (λk hk=>.inr (.inr (.inr (PT.Sd HP hk)))))
     have h0:ks=[]:=List.length_eq_zero_iff.1 Em;subst h0;clear hg
     have lg:=I (show fC.length<=10 from aA);have FR:=I j_;have BL:=I WM
     go_wp2_with (at_builtin;refine Gf rfl (.tmp 23) (.tmp 25) rfl i _ hi hz0 hz1 hz2 rfl (B0:=B0) (B:=W1.heap.size) (B1:=wr.heap.size) (ks:=fC) (A0:=A) (aJ.QH FR) WH a (.slice A1 a.Qx.length uo) ⟨w2.heap.size+1+1,0,none⟩ WH (λj u hu=>(Src.uT (size:=4) (m:=1) (c:=1) BL rfl).agt j u hu) (jK.QH FR) p_ aaE kJ (by have:=lg.out;omega) (by have:=gu.out;have:=FR.size;omega) ?_;intro A8 fq W8 jI bR;refine jw.mk ?_)
     have wI:=I jI;have lT:=I (bR.KM (FR.QN Fy λh=>h) p_);have mZ:=I (bR.KM (FR.QN tK λh=>h) p_);have AQ:=I atu;have OQ:=I (bR.mp (iI.trans (Mp.QH FR)) p_);have ac9:=I asa;clear jI bR p0 p1 p2 p3 y0 y1 y2 y3 lW;obtain⟨p0,p1,p2,p3,y0,y1,y2,y3,lW⟩:=af.QM lT;refine jw.go ?_;go_wp2_with fail
     have kD:=lT.put 3 (.slice A8 (fC.length+1) fq);have iT:=mZ.far (p:=⟨w.heap.size,3,none⟩) P9 (.slice A8 (fC.length+1) fq);have sI:=(M (λb=>b=w.heap.size) W8).setCell (p:=⟨w.heap.size,3,none⟩) Wh (.slice A8 (fC.length+1) fq);have pq:=OQ.setCell (p:=⟨w.heap.size,3,none⟩) ET (.slice A8 (fC.length+1) fq);generalize (auX W8 ⟨w.heap.size,3,none⟩ (.slice A8 (fC.length+1) fq))=W9 at kD iT sI pq|-;have hlen:(fC++([]++[a])).length=fC.length+1:=P9
     have aq:fC++([]++[a])=fC++[a]:=P9
     have DR:Grow (λk=>k=w.heap.size\/k=w.heap.size+1) W9 B0 W1.heap.size (fC++([]++[a])) (.slice A8 (fC.length+1) fq):=by
      rw[aq];have:=wI.mv sI p_ aaE asP;exact this
     have ada:=AQ.mv sI asF;refine⟨⟨0+1,k',[]++[a],A8,fq,by simp,by omega,by have:=Em.out;rfl,by rw[hlen];exact kD,iT,.inr (by rw[hlen];exact DR),ada,by have:=IJ;omega,pq,by have:=sI.size;have:=ac9.out;have:=gu.out;omega,?_⟩,by simp[intOf];omega⟩;unfold Hd;rw[kX.out,ao.out,<-Et.out.2.1,<-Et.out.2.2];show((bV c.E f' n' op rest).map λl=>a::l).map (λl=>[]++l)=_;cases bV c.E f' n' op rest<;>simp[D7.R.map,D7.R.bind]
    .have aJ:=I (show Grow (λk=>k=w.heap.size\/k=w.heap.size+1) w2 B0 W1.heap.size (fC++ks) (.slice A (fC++ks).length cp)from by
      exact hg.mv JX p_ aaE (λk hk=>.inr (.inr (PT.Sd HP hk))))
     have aZ:=I (show∀k,(Value.slice A (fC++ks).length cp).ownBlock=some k->k<wr.heap.size from λk hk=>by obtain⟨cs,h1,_⟩:=hg;obtain⟨_,cur,h4⟩:=fe h1 hk;exact(Array.getElem?_eq_some_iff.1 h4).1);clear hg;have lg:=I (show fC.length<=10/\ks.length<=10 from⟨aA,by have:=Em.out;omega⟩);have FR:=I j_;have BL:=I WM
     go_wp2_with (at_builtin;refine vF rfl (.tmp 23) (.tmp 25) rfl i _ hi hz0 hz1 hz2 rfl (B0:=B0) (B:=W1.heap.size) (B1:=wr.heap.size) (ks:=fC++ks) (v:=.slice A (fC++ks).length cp) (y:=.slice (some ⟨w2.heap.size+1+1,0,none⟩) 1 1) (aJ.QH FR) WH a (.slice A1 a.Qx.length uo) WH (Src.uT (BL) rfl) (jK.QH FR) p_ aaE aZ kJ (by have:=lg.out;simp;omega) (by have:=gu.out;have:=FR.size;omega) ?_;intro A8 fq W8 jI bR;refine jw.mk ?_)
     have wI:=I jI;have lT:=I (bR.KM (FR.QN Fy λh=>h) p_);have mZ:=I (bR.KM (FR.QN tK λh=>h) p_);have AQ:=I atu;have OQ:=I (bR.mp (iI.trans (Mp.QH FR)) p_);have ac9:=I asa;clear jI bR p0 p1 p2 p3 y0 y1 y2 y3 lW;obtain⟨p0,p1,p2,p3,y0,y1,y2,y3,lW⟩:=af.QM lT;refine jw.go ?_;go_wp2_with fail
     have kD:=lT.put 3 (.slice A8 (fC.length+ks.length+1) fq);have iT:=mZ.far (p:=⟨w.heap.size,3,none⟩) P9 (.slice A8 (fC.length+ks.length+1) fq);have sI:=(M (λb=>b=w.heap.size) W8).setCell (p:=⟨w.heap.size,3,none⟩) Wh (.slice A8 (fC.length+ks.length+1) fq);have pq:=OQ.setCell (p:=⟨w.heap.size,3,none⟩) ET (.slice A8 (fC.length+ks.length+1) fq);generalize (auX W8 ⟨w.heap.size,3,none⟩ (.slice A8 (fC.length+ks.length+1) fq))=W9 at kD iT sI pq|-;have hlen:(fC++(ks++[a])).length=fC.length+ks.length+1:=WN
     have aq:fC++(ks++[a])=(fC++ks)++[a]:=P9
     have DR:Grow (λk=>k=w.heap.size\/k=w.heap.size+1) W9 B0 W1.heap.size (fC++(ks++[a])) (.slice A8 (fC.length+ks.length+1) fq):=by
      rw[aq];have:=wI.mv sI p_ aaE asP;rw[auZ]at this;exact this
     have ada:=AQ.mv sI asF;refine⟨⟨m+1,k',ks++[a],A8,fq,by simp,by omega,by have:=Em.out;simp;omega,by rw[hlen];exact kD,iT,.inr (by rw[hlen];exact DR),ada,by have:=IJ;omega,pq,by have:=sI.size;have:=ac9.out;have:=gu.out;omega,?_⟩,by simp[intOf];omega⟩;unfold Hd;rw[kX.out,ao.out,<-Et.out.2.1,<-Et.out.2.2];show((bV c.E f' n' op rest).map λl=>a::l).map (λl=>ks++l)=_;cases bV c.E f' n' op rest<;>simp[D7.R.map,D7.R.bind]
  .have ac:m=n:=by omega
   have ak':=I (show ks.length=n by rw[Em.out,ac]);have d1:decide ((m:Int)<(n:Int))=false:=WN
   have jo:decide (m<n)=false:=WN
   have aE:¬((m:Int)<(n:Int)):=Zo
   obtain⟨p0,p1,p2,p3,y0,y1,y2,y3,lW⟩:=af.QM iY;obtain⟨q0,q1,z0,z1,ai⟩:=af.two jg;have fU:=I ac;clear ac;go_wp2_with fail
   have IK:aP B0 wr (fC++ks) (.slice A (fC++ks).length cp):=by
    have h1:=aB.out;have h2:=xq.out
    rcases HG.out with⟨_,_,hg⟩|hg
    .exact hg.tree
    .exact hg.tree Zo
   rw[auZ]at IK;have Vq:=(dS wr (w.heap.size+1) (.int .i64 0) (.int .i64 0));have aM:Mp c.g c.W0.heap.size w ((aH wr (w.heap.size+1) (.int .i64 0) (.int .i64 0)).alloc (.cells #[.int .i64 kd,.string ⟨tx.toArray⟩,.int .i64 0,.slice A (fC.length+ks.length) cp] 31)):=(HM.aH (g:=w.heap.size+1) Ls (.int .i64 0) (.int .i64 0)).alloc _;have DV:=IK.other jg Pf Vq;have am:=(HP.mv Vq (λb hb=>by have:=ax.out;subst hb;exact⟨by omega,by omega,_,_,Pf,jg⟩)).QH ((M _ _).alloc (.cells #[.int .i64 kd,.string ⟨tx.toArray⟩,.int .i64 0,.slice A (fC.length+ks.length) cp] 31));have aO:=((jg.fT (.int .i64 0) (.int .i64 0)).alloc (.cells #[.int .i64 kd,.string ⟨tx.toArray⟩,.int .i64 0,.slice A (fC.length+ks.length) cp] 31));have aD:=aP.lit (n:=.mk kd tx 0 (fC++ks)) DV (by have:=aB.out;have:=xq.out;have:=Vq.size;omega) kJ;have ajj:(aH wr (w.heap.size+1) (.int .i64 0) (.int .i64 0)).heap.size=wr.heap.size:=by simp[aH]
   rw[ajj]at aD;simp only[aH]at aM am aO aD;obtain⟨f0,f1,_⟩:=af.two aO
   refine bodyPost_ret (v:=.tuple #[.slice (some ⟨wr.heap.size,0,none⟩) 1 1,aG 0 0]) auS rfl ?_
   obtain⟨f',hf'⟩:∃f',F-m=f'+1:=by
    rcases awr (F-m)with h0|h0
    .exfalso
     exact ate
    .exact⟨F-m-1,by omega⟩
   have Eu:X=.ok ks (c.at k1):=by
    rw[rO.out,hf',fU.out,Nat.sub_self,bV];simp[D7.R.map,D7.R.bind]
   rw[Eu]at HQ;exact HQ _ _ ⟨wr.heap.size,k1,rfl,aD,rfl,ad,am,aM⟩
theorem R.oC{α β:Type}{f:α->β}{r:R α}(h:r.map f≠.out):r≠.out:=λe=>h (by rw[e];rfl)
def IL(c:Cf)(f:Nat):Prop:=∀(k:Kp) (op:List Nat) (w:W_),Ps c k op w->op.length<=k.p->k.p<c.T.length->bV c.E f 2 op (c.at k.up)≠.out->
 C_ 45 #[lV c] w (oK c k op ((bV c.E f 2 op (c.at k.up)).map λks=>[.mk 5 [] 0 ks]) w)
theorem Mx(c:Cf)(hc:c.Good)(f:Nat)(yN:Mw c f 2):IL c f:=by
 intro k op w h hop hk hne;have au:=hc.tl;have hk4:k.p<=100000:=Zo
 have HW:=I yN;have H:=I h;have oJ:=I hop;have aY:=I hne;have ax:=I h.low.size;have HK:=I hk;have aF:c.g<w.heap.size:=h.Ap;obtain⟨ov,hb,_⟩:=h.box;have q1:=hb.cell 1;have z1:=hb.frozen 1;clear hb h hne yN hc hop;refine Calls.via λQ hQ=>?_
 have HQ:=I hQ;clear hQ;unfold lV;have e1:((k.p:Int)+1)=((k.p+1:Nat):Int):=P9
 have HE:=I e1;clear e1;go_enter func45,ntmps45;go_wp2_with fail
 have hn:=H.next hk ((k.p:Int)+1) HE;have hs:(w.setCell (B_ c.g 1) (V ((k.p:Int)+1))).heap.size=w.heap.size:=P9
 generalize (w.setCell (B_ c.g 1) (V ((k.p:Int)+1)))=W1 at hn hs|-;have aw:af (W1.alloc (.cells #[V 0,V 0] 45)) W1.heap.size 45 #[V 0,V 0]:=af.new _ _ _;have ay:=hn.1.QH ((M _ _).alloc (.cells #[V 0,V 0] 45));have aI:=hn.2.trans (Mp.QH ((M _ W1).alloc (.cells #[V 0,V 0] 45)));have hs2:(W1.alloc (.cells #[V 0,V 0] 45)).heap.size=w.heap.size+1:=auw
 rw[hs]at aw;generalize (W1.alloc (.cells #[V 0,V 0] 45))=W2 at aw ay aI hs2|-
 (try rw[hs])
 have jb:=I ay;have iI:=I aI;have aq:=I hs2;have jg:=I aw;clear hn hs aw ay aI q1 z1 hs2;refine(HW k.up op 5 [] [] none w.heap.size W2 jb h_ aqY P9 R4 (.nil _ _) aY).mono ?_;intro e w3 hres;generalize bV c.E f 2 op (c.at k.up)=r at aY HQ hres;cases r with
 |out=>exact absurd rfl aY
 |err i er=>
  obtain⟨aj,A,n,cp,rfl,hm⟩:=hres;have rM:=I aeA;have dY:=I att;have F7:=I aj;clear hm aj;obtain⟨q0,q1,z0,z1,ab⟩:=af.two dY;unfold aG;go_wp2_with fail
  have n1:=dY.fT (V (i:Int)) (V (er:Int));have iU:Mp c.g c.W0.heap.size w (aH w3 w.heap.size (V (i:Int)) (V (er:Int))):=rM.aH (g:=w.heap.size) ET (V (i:Int)) (V (er:Int));have fA:=dS w3 w.heap.size (V (i:Int)) (V (er:Int));simp only[aH]at n1 iU fA;generalize (auX (auX w3 (B_ w.heap.size 0) _) (B_ w.heap.size 1) _)=W4 at n1 iU fA|-;obtain⟨f0,f1,_⟩:=af.two n1
  refine bodyPost_ret (v:=.tuple #[.slice A n cp,aG i er]) auT rfl ?_;exact HQ _ _ ⟨F7,A,n,cp,rfl,iU⟩
 |ok ks rest=>
  obtain⟨b,k',rfl,aa,hdr,ad,hp,hm⟩:=hres;have rM:=I aeA;have dY:=I att;have jK:=I aa;have ao:=I hdr;have aJ:=I ad;have oL:=I hp;clear hm aa hdr ad hp;obtain⟨q0,q1,z0,z1,ab⟩:=af.two dY;unfold aG;go_wp2_with fail
  have n1:=dY.fT (V 0) (V 0);have iU:Mp c.g c.W0.heap.size w (aH w3 w.heap.size (V 0) (V 0)):=rM.aH (g:=w.heap.size) ET (V 0) (V 0);have fA:=dS w3 w.heap.size (V 0) (V 0);simp only[aH]at n1 iU fA;generalize (auX (auX w3 (B_ w.heap.size 0) _) (B_ w.heap.size 1) _)=W4 at n1 iU fA|-;obtain⟨f0,f1,_⟩:=af.two n1
  refine bodyPost_ret (v:=.tuple #[.slice (A_ b 0) 1 1,aG 0 0]) auT rfl ?_;exact adM
def Nr(c:Cf)(f:Nat):Prop:=∀(k:Kp) (op:List Nat) (t:aB) (r:List aB) (w:W_),Ps c k op w->op.length<=k.p->(c.at k).l=t::r->bV c.E f 1 op (c.at k.up)≠.out->
 C_ 48 #[lV c] w (oK c k op ((bV c.E f 1 op (c.at k.up)).map λks=>[.mk 10 t.QG 0 ks]) w)
theorem Sg(c:Cf)(hc:c.Good)(f:Nat)(yN:Mw c f 1):Nr c f:=by
 intro k op t r w h hop hl hne;have au:=hc.tl;have hk:=Br (c:=c) (k:=k) ar1;have hk4:k.p<=100000:=Zo
 have HT:=I F_;have an:=hc.D9 t (List.mem_of_mem_drop (i:=k.p) ar');have kJ:=I an;rw[hl]at HT;unfold yK at HT;clear hl an;have HW:=I yN;have H:=I h;have oJ:=I hop;have aY:=I hne;have ax:=I h.low.size;have HK:=I hk;have aF:c.g<w.heap.size:=h.Ap;obtain⟨ov,hb,_⟩:=h.box;have HB:=I hb;have q1:=hb.cell 1;have z1:=hb.frozen 1;clear hb h hne yN hc hop;refine Calls.via λQ hQ=>?_
 have HQ:=I hQ;clear hQ;unfold lV;have e1:((k.p:Int)+1)=((k.p+1:Nat):Int):=P9
 have HE:=I e1;clear e1;go_enter func48,ntmps48;go_wp2_with fail
 refine(HT _ Q_).mono ?_;rintro _ w1 ⟨rfl,hf⟩;have ae:ag w w1:=(((M _ _).alloc _).trans hf);have hb1:=ae.QN HB PR;have Ns:af w1 w.heap.size 45 #[V 0,V 0]:=hf.QN aqP PR;clear hf q1 z1;have q1:=hb1.cell 1;have z1:=hb1.frozen 1;have hg1:=hb1.lt;have aK:=I ae;have tL:=I Ns;clear ae hb1 Ns;have r1:=Yf (V (t.QI:Int)) (S_ t.QG) (V (t.from_:Int)) (V (t.eF:Int)) w1;go_wp2_with fail
 clear r1;have ac:=H.QH aK;have hn:=ac.next hk ((k.p:Int)+1) HE;have hs2:(w1.setCell (B_ c.g 1) (V ((k.p:Int)+1))).heap.size=w1.heap.size:=P9
 have aw:=tL.far (p:=B_ c.g 1) WN (V ((k.p:Int)+1));generalize (w1.setCell (B_ c.g 1) (V ((k.p:Int)+1)))=W2 at hn aw hs2|-;have jb:=I hn.1;have iI:=I ((Mp.QH aK).trans hn.2);have aq:=I (show w.heap.size<W2.heap.size from aw.lt);have jg:=I aw;clear hn aw ac q1 z1 hs2 hg1;refine(HW k.up op 10 t.QG [] none w.heap.size W2 jb h_ kJ P9 R4 (.nil _ _) aY).mono ?_;intro e w3 hres;generalize bV c.E f 1 op (c.at k.up)=r at aY HQ hres;cases r with
 |out=>exact absurd rfl aY
 |err i er=>
  obtain⟨aj,A,n,cp,rfl,hm⟩:=hres;have rM:=I aeA;have dY:=I att;have F7:=I aj;clear hm aj;obtain⟨q0,q1,z0,z1,ab⟩:=af.two dY;unfold aG;go_wp2_with fail
  have n1:=dY.fT (V (i:Int)) (V (er:Int));have iU:Mp c.g c.W0.heap.size w (aH w3 w.heap.size (V (i:Int)) (V (er:Int))):=rM.aH (g:=w.heap.size) ET (V (i:Int)) (V (er:Int));have fA:=dS w3 w.heap.size (V (i:Int)) (V (er:Int));simp only[aH]at n1 iU fA;generalize (auX (auX w3 (B_ w.heap.size 0) _) (B_ w.heap.size 1) _)=W4 at n1 iU fA|-;obtain⟨f0,f1,_⟩:=af.two n1
  refine bodyPost_ret (v:=.tuple #[.slice A n cp,aG i er]) auU rfl ?_;exact HQ _ _ ⟨F7,A,n,cp,rfl,iU⟩
 |ok ks rest=>
  obtain⟨b,k',rfl,aa,hdr,ad,hp,hm⟩:=hres;have rM:=I aeA;have dY:=I att;have jK:=I aa;have ao:=I hdr;have aJ:=I ad;have oL:=I hp;clear hm aa hdr ad hp;obtain⟨q0,q1,z0,z1,ab⟩:=af.two dY;unfold aG;go_wp2_with fail
  have n1:=dY.fT (V 0) (V 0);have iU:Mp c.g c.W0.heap.size w (aH w3 w.heap.size (V 0) (V 0)):=rM.aH (g:=w.heap.size) ET (V 0) (V 0);have fA:=dS w3 w.heap.size (V 0) (V 0);simp only[aH]at n1 iU fA;generalize (auX (auX w3 (B_ w.heap.size 0) _) (B_ w.heap.size 1) _)=W4 at n1 iU fA|-;obtain⟨f0,f1,_⟩:=af.two n1
  refine bodyPost_ret (v:=.tuple #[.slice (A_ b 0) 1 1,aG 0 0]) auU rfl ?_;exact adM
def Yi(c:Cf)(f:Nat)(op:List Nat)(r:D7.St):R (List Nd):=
 if Np.dx 91 r.l then(kE c.E f 93 op r).bind λd r'=>(bV c.E f 1 op r').map λks=>[.mk 6 [] 0 (Np.CG d::ks)]else(bV c.E f 1 op r).map λks=>[.mk 6 [] 0 (Np.CG []::ks)]
def Yj(c:Cf)(f:Nat):Prop:=∀(k:Kp) (op:List Nat) (w:W_),Ps c k op w->op.length<=k.p->k.p<c.T.length->Yi c f op (c.at k.up)≠.out->
 C_ 46 #[lV c] w (oK c k op (Yi c f op (c.at k.up)) w)
theorem aaR(c:Cf)(hc:c.Good)(f:Nat)(yN:Mw c f 1)(ae:xM c f):Yj c f:=by
 intro k op w h hop hk hne;have au:=hc.tl;have hk4:k.p<=100000:=Zo
 have an:=I (λ(w':W_) (hp:Ps c k.up op w')=>vE c hc k.up op 91 w' hp);have ajk:=I ae;have HW:=I yN;have H:=I h;have oJ:=I hop;have aY:=I hne;have ax:=I h.low.size;have HK:=I hk;have aF:c.g<w.heap.size:=h.Ap;obtain⟨ov,hb,_⟩:=h.box;have q1:=hb.cell 1;have z1:=hb.frozen 1;clear hb h hne yN hc hop;refine Calls.via λQ hQ=>?_
 have HQ:=I hQ;clear hQ;unfold lV;have e1:((k.p:Int)+1)=((k.p+1:Nat):Int):=P9
 have HE:=I e1;clear e1;go_enter func46,ntmps46;go_wp2_with fail
 have hn:=H.next hk ((k.p:Int)+1) HE.out;have hs:(w.setCell (B_ c.g 1) (V ((k.p:Int)+1))).heap.size=w.heap.size:=P9
 generalize (w.setCell (B_ c.g 1) (V ((k.p:Int)+1)))=W1 at hn hs|-;have aw:af (W1.alloc (.cells #[V 0,V 0] 45)) W1.heap.size 45 #[V 0,V 0]:=af.new _ _ _;have ay:=hn.1.QH ((M _ _).alloc (.cells #[V 0,V 0] 45));have aI:=hn.2.trans (Mp.QH ((M _ W1).alloc (.cells #[V 0,V 0] 45)));have hs2:(W1.alloc (.cells #[V 0,V 0] 45)).heap.size=w.heap.size+1:=auw
 rw[hs]at aw;generalize (W1.alloc (.cells #[V 0,V 0] 45))=W2 at aw ay aI hs2|-
 (try rw[hs])
 have jb:=I ay;have iI:=I aI;have aq:=I hs2;have jg:=I aw;clear hn hs aw ay aI q1 z1 hs2;refine(an.out _ jb.out).mono ?_;rintro _ w1 ⟨rfl,hf⟩;have aK:=I hf;clear hf;unfold Yi at aY HQ;cases hat:Np.dx 91 (c.at k.up).l with
 |false=>
  rw[hat,if_neg Bool.false_ne_true]at aY HQ;clear hat;have aY:=I atU;go_wp2_with fail
  refine(j6 none (0) 0 _).mono ?_;rintro _ w4 ⟨rfl,jf⟩;have IM:=(aK.trans jf).alloc (.cells #[V 1,E_,V 0,N_] 31);have FC:aP w.heap.size (w4.alloc (.cells #[V 1,E_,V 0,N_] 31)) [Np.CG []] (.slice (A_ w4.heap.size 0) 1 1):=aP.lit (n:=Np.CG []) (aP.nil _ _) (by have:=(aK.trans jf).size;have:=aq.out;omega) (by simp[Np.CG,maxLen,Nd.QG]);go_wp2_with fail
  generalize (w4.alloc (.cells #[V 1,E_,V 0,N_] 31))=W5 at IM FC|-;generalize w4.heap.size=b4 at FC|-;have Si:=I (jb.QH IM);have Sj:=I (iI.trans (Mp.QH IM));have KN:=IM.QN jg.out PR;have Sk:=I KN;have Sl:=I (show w.heap.size<W5.heap.size from KN.lt);have adb:=I FC;clear IM FC KN jb iI jg aq jf;have jb:=Si;have iI:=Sj;have jg:=Sk;have aq:=Sl;clear Si Sj Sk Sl;refine(HW.out k.up op 6 [] [Np.CG []] (A_ b4 0) w.heap.size W5 jb.out h_ aqY P9 R4 adb.out aY.out).mono ?_;intro e w3 hres;generalize bV c.E f 1 op (c.at k.up)=r at aY HQ hres;cases r with
  |out=>exact absurd rfl aY.out
  |err i er=>
   obtain⟨aj,A,n,cp,rfl,hm⟩:=hres;have rM:=I aeA;have dY:=I atC;have F7:=I aj;clear hm aj;obtain⟨q0,q1,z0,z1,ab⟩:=af.two dY.out;unfold aG;go_wp2_with fail
   have n1:=dY.fT (V (i:Int)) (V (er:Int));have iU:Mp c.g c.W0.heap.size w (aH w3 w.heap.size (V (i:Int)) (V (er:Int))):=rM.aH (g:=w.heap.size) ET (V (i:Int)) (V (er:Int));have fA:=dS w3 w.heap.size (V (i:Int)) (V (er:Int));simp only[aH]at n1 iU fA;generalize (auX (auX w3 (B_ w.heap.size 0) _) (B_ w.heap.size 1) _)=W4 at n1 iU fA|-;obtain⟨f0,f1,_⟩:=af.two n1
   (try simp only[Exit.inBlock,Exit.then])
   exact asQ
  |ok ks rest=>
   obtain⟨b,k',rfl,aa,hdr,ad,hp,hm⟩:=hres;have rM:=I aeA;have dY:=I atC;have jK:=I aa;have ao:=I hdr;have aJ:=I ad;have oL:=I hp;clear hm aa hdr ad hp;obtain⟨q0,q1,z0,z1,ab⟩:=af.two dY.out;unfold aG;go_wp2_with fail
   have n1:=dY.fT (V 0) (V 0);have iU:Mp c.g c.W0.heap.size w (aH w3 w.heap.size (V 0) (V 0)):=rM.aH (g:=w.heap.size) ET (V 0) (V 0);have fA:=dS w3 w.heap.size (V 0) (V 0);simp only[aH]at n1 iU fA;generalize (auX (auX w3 (B_ w.heap.size 0) _) (B_ w.heap.size 1) _)=W4 at n1 iU fA|-;obtain⟨f0,f1,_⟩:=af.two n1
   (try simp only[Exit.inBlock,Exit.then])
   refine bodyPost_ret (v:=.tuple #[.slice (A_ b 0) 1 1,aG 0 0]) aeK rfl ?_;exact aii
 |true=>
  have G9:=I (Er hat);rw[hat,if_pos rfl]at aY HQ;clear hat;go_wp2_with fail
  have jO:=aK.alloc (.cells #[V 0,V 0] 45);have al:=jO.QN jg.out PR;have ai:=af.new w1 45 #[V 0,V 0];have wP:(w1.alloc (.cells #[V 0,V 0] 45)).heap.size=w1.heap.size+1:=P9
  generalize (w1.alloc (.cells #[V 0,V 0] 45))=W5 at jO al ai wP|-;have ar:=I (show w.heap.size<w1.heap.size from by have:=aK.size;have:=aq.out;omega);have wN:=I (jb.QH jO);have Ga:=I (iI.trans (Mp.QH jO));have eO:=I al;have iR:=I ai;clear jO al ai;refine(ajk.out k.up op 93 W5 wN.out h_ G9.out (λh=>aY.out (by rw[h];rfl))).mono ?_;intro e w3 hres;generalize kE c.E f 93 op (c.at k.up)=X at aY HQ hres;cases X with
  |out=>exact absurd rfl aY.out
  |err i er=>
   obtain⟨aj,A,n,cp,rfl,hm⟩:=hres;have F7:=I aj;have e0:=alr aj;have Dp:=I (Ga.trans hm);have gy:=I (hm.QN eO.out Zo Pf);have iJ:=I (hm.QN iR.out aql Pf);obtain⟨q0,q1,z0,z1,ab⟩:=af.two iJ.out;clear hm aj;unfold aG;go_wp2_with fail
   have hne:w.heap.size≠w1.heap.size:=aql
   have ap:=iJ.fT (V (i:Int)) (V (er:Int));have hbr:=gy.nJ hne (V (i:Int)) (V (er:Int));have az:Mp c.g c.W0.heap.size w (aH w3 w1.heap.size (V (i:Int)) (V (er:Int))):=Dp.aH (g:=w1.heap.size) (.inr aql) (V (i:Int)) (V (er:Int));clear q0 q1 z0 z1 ab;simp only[aH]at ap hbr az;generalize (auX (auX w3 (B_ w1.heap.size 0) _) (B_ w1.heap.size 1) _)=W3 at ap hbr az|-;have r0:=cR y_;have r1:=cR z_;have ab:=ap.lt;have ow:=I hbr;have aN:=I az;clear ap hbr az;refine cu [([(0,true),(1,true)],2)] [] Pg Ph Pg ?_;refine dJ ?_
   repeat(refine Z4 ?_)
   obtain⟨p0,p1,y0,y1,hlt⟩:=af.two (ow.drewN 1);refine dm rfl (λK hK=>?_);go_wp2_with fail
   refine fH ?_;go_wp2_with fail
   have al:af _ (w.heap.size) 45 #[V (i:Int),V (er:Int)]:=((ow.drewN 1).put 0 (V (i:Int))).put 1 (V (er:Int));have wO:=((aN.drewN 1).setCell (p:=B_ w.heap.size 0) WL (V (i:Int))).setCell (p:=B_ w.heap.size 1) WL (V (er:Int));obtain⟨f0,f1,_⟩:=af.two al
   (try simp only[Exit.inBlock,Exit.then])
   refine bodyPost_ret (v:=.tuple #[N_,aG i er]) aeK rfl ?_;exact HQ.out _ _ ⟨F7.out,none,0,0,rfl,wO⟩
  |ok d rest=>
   obtain⟨A,cp,k2,rfl,aa,rfl,ad,hp,hm⟩:=hres;have Sm:=I aa;have agu:=I ad;have pg:=I hp;have Dp:=I (Ga.trans hm);have gy:=I (hm.QN eO.out Zo Pf);have iJ:=I (hm.QN iR.out aql Pf);obtain⟨q0,q1,z0,z1,ab⟩:=af.two iJ.out;have aC:=I (show w.heap.size<W5.heap.size from by have:=ar.out;omega);clear hm aa ad hp;unfold aG;go_wp2_with fail
   have hne:w.heap.size≠w1.heap.size:=aql
   have ac:=dS w3 w1.heap.size (V 0) (V 0);have oo:=gy.nJ hne (V 0) (V 0);have ah:=pg.mv ac (λb hb=>by have:=ar.out;have:=ax.out;subst hb;exact⟨by omega,by omega,_,_,Pf,iJ.out⟩);have Sn:Mp c.g c.W0.heap.size w (aH w3 w1.heap.size (V 0) (V 0)):=Dp.aH (g:=w1.heap.size) (.inr aql) (V 0) (V 0);have uR:=(Sm.out.base (Nat.le_of_lt aC.out)).other iJ.out Pf ac;clear q0 q1 z0 z1 ab;simp only[aH]at ac oo ah Sn uR;generalize (auX (auX w3 (B_ w1.heap.size 0) _) (B_ w1.heap.size 1) _)=Sq at ac oo ah Sn uR|-;clear jb iI jg aq;have jb:=I ah;have iI:=I Sn;have jg:=I oo;have aq:=I (show Sq.heap.size≥w.heap.size+1 from by have:=oo.lt;omega);have jy:=I uR;clear ac oo ah Sn uR;have aY:=I (show bV c.E f 1 op (c.at k2)≠.out from R.oC aY.out);have HQ:=I (show∀e w',oK c k op ((bV c.E f 1 op (c.at k2)).map λks=>[.mk 6 [] 0 (Np.CG d::ks)]) w e w'->Q e w' from HQ.out);refine(j6 A (d.length) cp _).mono ?_;rintro _ w4 ⟨rfl,jf⟩;have IM:=((M _ _:ag Sq Sq).trans jf).alloc (.cells #[V 1,E_,V 0,.slice A d.length cp] 31);have FC:aP w.heap.size (w4.alloc (.cells #[V 1,E_,V 0,.slice A d.length cp] 31)) [Np.CG d] (.slice (A_ w4.heap.size 0) 1 1):=aP.lit (n:=Np.CG d) (jy.QH ((M _ _:ag Sq Sq).trans jf)) (by have:=((M _ _:ag Sq Sq).trans jf).size;have:=aq.out;omega) (by simp[Np.CG,maxLen,Nd.QG]);go_wp2_with fail
   generalize (w4.alloc (.cells #[V 1,E_,V 0,.slice A d.length cp] 31))=W5 at IM FC|-;generalize w4.heap.size=b4 at FC|-;have Si:=I (jb.QH IM);have Sj:=I (iI.trans (Mp.QH IM));have KN:=IM.QN jg.out PR;have Sk:=I KN;have Sl:=I (show w.heap.size<W5.heap.size from KN.lt);have adb:=I FC;clear IM FC KN jb iI jg aq jf;have jb:=Si;have iI:=Sj;have jg:=Sk;have aq:=Sl;clear Si Sj Sk Sl;refine(HW.out (k2) op 6 [] [Np.CG d] (A_ b4 0) w.heap.size W5 jb.out (by have:=oJ.out;have:=agu.out;(try simp only[Kp.alq]at*);omega) aqY P9 R4 adb.out aY.out).mono ?_;intro e w3 hres;generalize bV c.E f 1 op (c.at k2)=r at aY HQ hres;cases r with
   |out=>exact absurd rfl aY.out
   |err i er=>
    obtain⟨aj,A,n,cp,rfl,hm⟩:=hres;have rM:=I aeA;have dY:=I atC;have F7:=I aj;clear hm aj;obtain⟨q0,q1,z0,z1,ab⟩:=af.two dY.out;unfold aG;go_wp2_with fail
    have n1:=dY.fT (V (i:Int)) (V (er:Int));have iU:Mp c.g c.W0.heap.size w (aH w3 w.heap.size (V (i:Int)) (V (er:Int))):=rM.aH (g:=w.heap.size) ET (V (i:Int)) (V (er:Int));have fA:=dS w3 w.heap.size (V (i:Int)) (V (er:Int));simp only[aH]at n1 iU fA;generalize (auX (auX w3 (B_ w.heap.size 0) _) (B_ w.heap.size 1) _)=W4 at n1 iU fA|-;obtain⟨f0,f1,_⟩:=af.two n1
    (try simp only[Exit.inBlock,Exit.then])
    exact asQ
   |ok ks rest=>
    obtain⟨b,k',rfl,aa,hdr,ad,hp,hm⟩:=hres;have rM:=I aeA;have dY:=I atC;have jK:=I aa;have ao:=I hdr;have aJ:=I ad;have oL:=I hp;clear hm aa hdr ad hp;obtain⟨q0,q1,z0,z1,ab⟩:=af.two dY.out;unfold aG;go_wp2_with fail
    have n1:=dY.fT (V 0) (V 0);have iU:Mp c.g c.W0.heap.size w (aH w3 w.heap.size (V 0) (V 0)):=rM.aH (g:=w.heap.size) ET (V 0) (V 0);have fA:=dS w3 w.heap.size (V 0) (V 0);simp only[aH]at n1 iU fA;generalize (auX (auX w3 (B_ w.heap.size 0) _) (B_ w.heap.size 1) _)=W4 at n1 iU fA|-;obtain⟨f0,f1,_⟩:=af.two n1
    (try simp only[Exit.inBlock,Exit.then])
    refine bodyPost_ret (v:=.tuple #[.slice (A_ b 0) 1 1,aG 0 0]) aeK rfl ?_;have am:=oL.mv fA Lb;exact HQ.out _ _ ⟨_,1,k',rfl,jK.other dY.out Pf fA,ao.out,by have:=aJ.out;have:=agu.out;(try simp only[Kp.alq]at*);omega,am,iU⟩
end
section
open Go.RowKit
open Tr (Nd)
theorem af.inj{w:W_}{g:Nat}{t u:TypeId}{cs ds:Array Value}(h:af w g t cs)(k:af w g u ds):t=u/\cs=ds:=by
 unfold af at h k;rw[h]at k;cases k;exact ah5
def anP(w0 w:W_)(x:Nd)(p:Addr):Prop:=p.spot=none/\w0.heap.size<=p.block/\p.block≠w0.heap.size+1/\∃cs A c,af w p.block 31 cs/\cs[p.off+3]?=some (.slice A x.Qx.length c)/\aD w0 x.Qx (.slice A x.Qx.length c)
structure Cpy(w0:W_)(n:Nd)(w:W_)(L:List (Nd×Addr)):Prop where
 fr:ag w0 w
 box:∃A c,af w w0.heap.size 31 #[V n.QI,S_ n.QG,V n.ah,.slice A n.Qx.length c]/\aly w0 (L.map Prod.snd) w (B_ w0.heap.size 0) n.Qx (.slice A n.Qx.length c)
 res:af w (w0.heap.size+1) 31 ZN
 it:∀x∈L,anP w0 w x.1 x.2
 ne:L.Pairwise λx y=>x.2≠y.2
theorem anP.mv{w0 w w':W_}{x:Nd}{p:Addr}{S:Nat->Prop}(h:anP w0 w x p)(ht:Touch S w w')(hS:∀k,S k->∀cs fr,w.heap[k]?≠some (.cells cs 31 fr)):anP w0 w' x p:=by
 obtain⟨h1,h2,hr,cs,A,c,h3,h4,h5⟩:=h;exact⟨h1,h2,hr,cs,A,c,ht.QN h3 λhs=>hS _ hs _ _ h3,h4,h5⟩
theorem Cpy.mv{w0 w w':W_}{n:Nd}{L:List (Nd×Addr)}{S:Nat->Prop}(h:Cpy w0 n w L)(ht:Touch S w w')(hS:∀k,S k->w0.heap.size<=k/\∀cs fr,w.heap[k]?≠some (.cells cs 31 fr)):Cpy w0 n w' L:=by
 obtain⟨A,c,h1,h2⟩:=h.box;exact⟨h.fr.trans' ht λk hk=>.inr (hS k hk).1,⟨A,c,ht.QN h1 λhs=>(hS _ hs).2 _ _ h1,h2.mv ht λk hk=>.inr (hS k hk).2⟩,ht.QN h.res λhs=>(hS _ hs).2 _ _ h.res,λx hx=>(h.it x hx).mv ht λk hk=>(hS k hk).2,h.ne⟩
def als(g:Nat)(ks:List Nd):List (Nd×Addr):=ks.zipIdx.map λx=>(x.1,(B_ g (x.2*4)))
theorem aod(g:Nat)(ks:List Nd):(als g ks).map Prod.fst=ks:=by
 unfold als;rw[List.map_map];have:(Prod.fst∘λx:Nd×Nat=>(x.1,((B_ g (x.2*4)):Addr)))=Prod.fst:=rfl;rw[this,List.zipIdx_map_fst]
theorem alD(g:Nat)(ks:List Nd):(als g ks).length=ks.length:=by unfold als;simp
theorem alJ(g:Nat)(ks:List Nd)(i:Nat)(hi:i<ks.length):(als g ks)[i]?=some (ks[i],(B_ g (i*4))):=by
 unfold als;rw[List.getElem?_map,List.getElem?_zipIdx,ave hi];simp
theorem am6{g:Nat}{ks:List Nd}{x:Nd×Addr}(h:x∈als g ks):∃i,∃hi:i<ks.length,x=(ks[i],(B_ g (i*4))):=by
 obtain⟨i,hi,e⟩:=List.getElem_of_mem h;rw[alD]at hi;refine⟨i,hi,?_⟩;have:=alJ g ks i hi;rw[ave (by rw[alD];exact hi),e]at this;exact Option.some.inj this
theorem aou(g:Nat)(ks:List Nd):(als g ks).Pairwise λx y=>x.2≠y.2:=by
 rw[List.pairwise_iff_getElem];intro i j hi hj aa e;rw[alD]at hi hj;have h1:=alJ g ks i hi;have h2:=alJ g ks j hj;rw[ave (by rw[alD];assumption)]at h1 h2;rw[Option.some.inj h1,Option.some.inj h2]at e;simp only[Addr.mk.injEq]at e;omega
theorem Cpy.step{w0 w W:W_}{n x:Nd}{p:Addr}{M:List (Nd×Addr)}(h:Cpy w0 n w (M++[(x,p)])){cs:Array Value}{A:Option Addr}{c:Nat}(hb:af w p.block 31 cs)(hc:cs[p.off+3]?=some (.slice A x.Qx.length c))(ho:aD w0 x.Qx (.slice A x.Qx.length c))
  {s':Value} (hb':af W p.block 31 (cs.setIfInBounds (p.off+3) s')) (ht:Touch (λk=>k=p.block) w W) {g:Nat} {ds:Array Value} {cap:Nat} {sl:Nat->Value}
  (ac:(x.Qx=[]/\s'=N_)\/(s'=.slice (A_ g 0) x.Qx.length cap/\w.heap.size<=g/\af W g 31 ds/\x.Qx.length<=maxLen/\∀i (hi:i<x.Qx.length),x.Qx[i].QG.length<=maxLen/\ds[i*4]?=some (V x.Qx[i].QI)/\ds[i*4+1]?=some (.string ⟨x.Qx[i].QG.toArray⟩)/\ds[i*4+2]?=some (V x.Qx[i].ah)/\ds[i*4+3]?=some (sl i)/\aD w0 x.Qx[i].Qx (sl i))):
  Cpy w0 n W (M++als g x.Qx):=by
 obtain⟨hsp,ak,aj,_⟩:=h.it (x,p) P9;obtain⟨pb,po,sp⟩:=p;simp only at hsp ak aj hb hc hb' ht;subst hsp;have an:ag w0 W:=h.fr.trans' ht λk hk=>.inr (by rw[hk];exact ak)
 have hres:=h.res.lt
 have hs':∃A' c',s'=.slice A' x.Qx.length c':=by
  rcases ac with⟨e,h⟩|⟨h,_⟩
  .exact⟨none,0,by rw[h,e];rfl⟩
  .exact⟨_,_,h⟩
 have hx:aly w0 ((M++als g x.Qx).map Prod.snd) W (B_ pb po) x.Qx s':=by
  rcases ac with⟨e,h⟩|⟨hs,hg,hbg,hl,hi⟩
  .rw[e,h];exact .nil _ _ _
  .rw[hs]
   refine .row _ g cap x.Qx sl Zo ⟨_,_,hbg⟩ hl (λi k=>(hi i k).1) (λi k=>?_) (λi k=>?_) (λi k=>?_) (λi k=>?_) λi k=>.wait _ _ _ ?_ (hi i k).2.2.2.2.2
   .rw[hbg.cell];exact(hi i k).2.1
   .rw[hbg.cell];exact(hi i k).2.2.1
   .rw[hbg.cell];exact(hi i k).2.2.2.1
   .rw[hbg.cell];exact(hi i k).2.2.2.2.1
   .rw[avx]
    exact List.mem_append_right _ (List.mem_map.2 ⟨_,List.mem_of_getElem? (alJ g x.Qx i k),rfl⟩)
 obtain⟨Ab,cb,aA,ai⟩:=h.box;refine⟨an,?_,ht.QN h.res (λe=>aj e.symm),λy hy=>?_,?_⟩
 .by_cases e:pb=w0.heap.size
  .subst e
   obtain⟨_,hcs⟩:=hb.inj aA;subst hcs
   have ho3:po=0:=by
    have:=(Array.getElem?_eq_some_iff.1 hc).1;simp at this
    omega
   subst ho3;have hc':(Value.slice Ab n.Qx.length cb)=.slice A x.Qx.length c:=by simpa using hc
   rw[hc']at ai;have aa:n.Qx=x.Qx:=ai.Qx ho;obtain⟨A',c',hs'⟩:=hs';refine⟨A',c',?_,by rw[aa,<-hs'];exact hx⟩;rw[hs']at hb';rw[aa];exact hb'
  .refine⟨Ab,cb,ht.QN aA (λh=>e h.symm),aly.swap hb hc hb' ht ho (λa ha hne=>?_) hx (λe2=>e (by cases e2;rfl)) ai⟩
   rw[avx]at ha|-
   rcases List.mem_append.1 ha with ha|ha
   .exact List.mem_append_left _ ha
   .simp at ha
    exact absurd ha hne
 .rcases List.mem_append.1 hy with hy|hy
  .obtain⟨h1,h2,h3,ys,Ay,cy,h4,h5,h6⟩:=h.it y atw
   have hne:y.2≠(B_ pb po):=(List.pairwise_append.1 h.ne).2.2 y hy (x,(B_ pb po)) P9
   by_cases e:y.2.block=pb
   .rw[e]at h4
    obtain⟨_,hcs⟩:=h4.inj hb;subst hcs;refine⟨h1,h2,h3,_,Ay,cy,by rw[e];exact hb',?_,h6⟩
    have ab:po+3≠y.2.off+3:=λe2=>hne (by
     obtain⟨y1,b2,o2,s2⟩:=y;simp only at e e2 h1;have e3:o2=po:=Zo
     rw[e,h1,e3])
    rw[Array.getElem?_setIfInBounds_ne ab];exact h5
   .exact⟨h1,h2,h3,ys,Ay,cy,ht.QN h4 e,h5,h6⟩
  .obtain⟨i,hi,rfl⟩:=am6 hy
   rcases ac with⟨e,_⟩|⟨hs,hg,hbg,hl,ad⟩
   .rw[e]at hi;cases hi
   .have hsz:=h.fr.size
    have h6:=(ad i hi).2.2.2.2;obtain⟨A',c',e'⟩:∃A' c',sl i=.slice A' x.Qx[i].Qx.length c':=h6.2.slice;exact⟨rfl,(by show w0.heap.size<=g;omega),(by show g≠_;omega),ds,A',c',hbg,by rw[<-e'];exact h6.1,by rw[<-e'];exact h6.2⟩
 .rw[List.pairwise_append]
  refine⟨(List.pairwise_append.1 h.ne).1,aou _ _,λy hy z hz e=>?_⟩;obtain⟨i,hi,rfl⟩:=am6 hz
  rcases ac with⟨e',_⟩|⟨hs,hg,hbg,hl,ad⟩
  .rw[e']at hi;cases hi
  .obtain⟨_,_,_,ys,_,_,h4,_⟩:=h.it y atw
   have:=h4.lt;rw[e]at this;simp only at this;omega
def alF(w0 w:W_)(L:List (Nd×Addr))(v:Value):Prop:=w.ownsRow w0.heap.size 97 1 v L.length (L.map λx=>.pointer (some x.2))
end
end Go.Proofs.YtabjglnjjdcfmaaGreatDoor
