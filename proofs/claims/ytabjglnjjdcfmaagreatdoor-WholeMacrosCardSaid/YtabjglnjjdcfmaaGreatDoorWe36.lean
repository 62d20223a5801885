/- Part 36 of 41 of a proof. No condition. -/
import Derived.Test.YtabjglnjjdcfmaaGreatDoorWe35
set_option maxRecDepth 100000
set_option maxHeartbeats 3000000
namespace Go.Proofs.YtabjglnjjdcfmaaGreatDoor
open _root_.Go.World renaming setCell->auX
open _root_.Nat renaming le_refl->au3,zero_le->au1,le_trans->au2
open _root_.List renaming length_cons->au0,cons_append->au',take_succ_eq_append_getElem->awx
open _root_.Go.Proofs.Tryz
section
open Go.RowKit
open Tr (Nd)
open Lx (aB)
open D7 (R cZ kE eB eP dA bV fD di pArg)
attribute [local go_sem] gD stillUpon
def Jp:Value->Nat
 |.slice _ n _=>n
 |_=>0
theorem adx(en:Nat)(l:List aB):∃(kd:Nat) (r1 r3:Value) (fr:Nat),yK en l=.agg #[V (kd:Int),r1,V (fr:Int),r3]/\fr=Np.place en l/\(kd==8)=Np.j5 l:=by
 cases l with
 |nil=>exact⟨0,_,_,en,rfl,rfl,rfl⟩
 |cons t r=>exact⟨t.QI,_,_,t.from_,rfl,rfl,rfl⟩
theorem SK(c:Cf)(hc:c.Good)(F:Nat)(hF:F<=1000000)(hrow:∀f',f'<F->Nq c f'):Nu c F:=by
 intro k op w h hop hk hne;obtain⟨i,hi,hz0,hz1,hz2⟩:=info_parts IG;have au:=hc.tl;have hk4:k.p<=100000:=Zo
 have HRO:=I hrow;have HT:=I (λ(k':Kp) (op':List Nat) (w':W_) (hp:Ps c k' op' w')=>qO c hc k' op' w' hp);have HA:=I (λ(b:UInt8) (k':Kp) (op':List Nat) (w':W_) (hp:Ps c k' op' w')=>vE c hc k' op' b w' hp);have HR:=I (λ(k':Kp) (op':List Nat) (w':W_) (hp:Ps c k' op' w')=>Cu c hc k' op' w' hp);have oI:=I (λ(k':Kp) (w':W_) (hp:Ps c k' op w') (hk':k'.p<c.T.length)=>JU c hc k' op w' hp hk' Zo);have aO:=I (λ(k':Kp) (x:Nat) (w':W_) (hp:Ps c k' (op++[x]) w') (hk':k'.p<c.T.length\/Np.dx 125 (c.at k').l=false)=>IA c hc k' op x 125 w' hp hk');have H:=I h;have oJ:=I hop;have Et:=I hF;have ax:=I h.low.size;have HK:=I hk;have aF:c.g<w.heap.size:=h.Ap;have aY:=I hne;obtain⟨ov,hb,_⟩:=h.box;have q1:=hb.cell 1;have z1:=hb.frozen 1;clear hb h hne hc hop hrow hF;refine Calls.via λQ hQ=>?_
 have HQ:=I hQ;clear hQ;unfold Nt at aY HQ;unfold lV;have e1:((k.p:Int)+1)=((k.p+1:Nat):Int):=P9
 have HE:=I e1;clear e1;go_enter func47,ntmps47;go_wp2_with fail
 have hn:=H.next hk ((k.p:Int)+1) HE;have hs:(w.setCell (B_ c.g 1) (V ((k.p:Int)+1))).heap.size=w.heap.size:=P9
 generalize (w.setCell (B_ c.g 1) (V ((k.p:Int)+1)))=W1 at hn hs|-;have aw:af (W1.alloc (.cells #[V 0,V 0] 45)) W1.heap.size 45 #[V 0,V 0]:=af.new _ _ _;have ay:=hn.1.QH ((M _ _).alloc (.cells #[V 0,V 0] 45));have aI:=hn.2.trans (Mp.QH ((M _ W1).alloc (.cells #[V 0,V 0] 45)));have hs2:(W1.alloc (.cells #[V 0,V 0] 45)).heap.size=w.heap.size+1:=auw
 rw[hs]at aw;generalize (W1.alloc (.cells #[V 0,V 0] 45))=W2 at aw ay aI hs2|-
 (try rw[hs])
 have jb:=I ay;have iI:=I aI;have aq:=I hs2;have jg:=I aw;clear hn hs aw ay aI q1 z1 hs2;refine(HA 123 k.up op W2 jb).mono ?_;rintro _ w3 ⟨rfl,hf⟩;have oL:=I (jb.QH hf);have ajx:=I (iI.fr hf);have ahs:=I (hf.QN jg λh=>h);have pI:=I (show w.heap.size+1<=w3.heap.size from by have:=hf.size;have:=aq.out;omega);clear hf;cases hm:Np.dx 123 (c.at k.up).l with
 |false=>
  rw[if_neg (by simp[hm])]at HQ;clear hm;go_wp2_with fail
  refine(HR k.up op w3 oL).mono ?_;rintro _ w9 ⟨rfl,hf⟩;have rM:=I (ajx.fr hf);have dY:=I (hf.QN ahs λh=>h);clear hf;replace HQ:=I (show∀(e:Ending) (w':W_),oK c k op (.err (Np.place c.en (c.at k.up).l) 3) w e w'->Q e w' from HQ);generalize Np.place c.en (c.at k.up).l=pl at HQ|-;obtain⟨q0,q1,z0,z1,ab⟩:=af.two dY
  (try unfold aG)
  go_wp2_with fail
  have n1:=dY.fT (V (pl:Int)) (V 3);have iU:Mp c.g c.W0.heap.size w (aH w9 (w.heap.size) (V (pl:Int)) (V 3)):=rM.aH (g:=w.heap.size) Ls (V (pl:Int)) (V 3);have fA:=dS w9 (w.heap.size) (V (pl:Int)) (V 3);simp only[aH]at n1 iU fA;generalize (auX (auX w9 (B_ w.heap.size 0) _) (B_ w.heap.size 1) _)=W4 at n1 iU fA|-;obtain⟨f0,f1,_⟩:=af.two n1
  refine bodyPost_ret (v:=.tuple #[N_,aG pl 3]) g_ rfl ?_;exact aso
 |true=>
  rw[if_pos hm,Cf.alE]at HQ aY;have aD:=Er hm;have Dk:=I aD;clear hm aD;generalize hpl:Np.place c.en (c.at k.up).l=pl at HQ aY;go_wp2_with fail
  refine(oI k.up w3 oL Dk).mono ?_;rw[hpl];clear hpl;rintro _ w4 ⟨rfl,Eo,iU⟩;have Az:=I (iU.QN ahs Zo Pf);have Es:=I (ajx.trans iU);have gP:=I (show w.heap.size+1<=w4.heap.size from by have:=pI.out;have:=iU.size;omega);have AP:=I Eo;clear Eo iU;generalize hX:di c.E F (op++[pl]) [] 0 0 (c.at k.up.up)=X at aY HQ;have HX:=I hX;clear hX;go_wp2_with fail
  have ae:ag w4 (w4.alloc (.cells #[V 12,E_,V 0,N_] 31)):=(M _ _).alloc _;have uN:af (w4.alloc (.cells #[V 12,E_,V 0,N_] 31)) w4.heap.size 31 #[V 12,E_,V 0,N_]:=af.new _ _ _;have Cw:(w4.alloc (.cells #[V 12,E_,V 0,N_] 31)).heap.size=w4.heap.size+1:=P9
  generalize (w4.alloc (.cells #[V 12,E_,V 0,N_] 31))=W5 at ae uN Cw|-;have eY:=I ae;have ajy:=I uN;have qh:=I Cw;clear ae uN Cw
  go_loopw [5] (λj wr=>∃(k1:Kp) (b cl:Nat) (ks:List Nd) (A:Option Addr) (cp:Nat),j=V (b:Int)/\Hd (af wr w4.heap.size 31 #[V 12,E_,V (cl:Int),.slice A ks.length cp])/\Hd (af wr w.heap.size 45 #[V 0,V 0])/\Hd (Grow (λk=>k=w4.heap.size) wr w.heap.size W5.heap.size ks (.slice A ks.length cp))/\Hd (Ps c k1 (op++[pl]) wr)/\k.p+2<=k1.p/\Hd (Mp c.g c.W0.heap.size w wr)/\W5.heap.size<=wr.heap.size/\ks.length<=F/\b<=ks.length/\Hd (X=di c.E (F-ks.length) (op++[pl]) ks b cl (c.at k1))) (λ_ wr=>F-Jp ((wr.cell? (B_ w4.heap.size 3)).getD undef))
  case atStart=>
   refine⟨k.up.up,0,0,[],none,0,rfl,ajy,eY.QN Az λh=>h,Grow.nil _ _ _ _,AP.QH eY,au3 _,Es.fr eY,au3 _,au1 _,au1 _,?_⟩;unfold Hd;rw[<-HX.out,List.length_nil,Nat.sub_zero]
  case round=>
   obtain⟨k1,b,cl,ks,A,cp,rfl,aM,ow,HG,HP,ad,HM,hsz,hle,agK,rO⟩:=hrel
   obtain⟨f',hf'⟩:∃f',F-ks.length=f'+1:=by
    rcases Nat.eq_zero_or_pos (F-ks.length)with h0|h0
    .exfalso
     have h1:=rO.out;rw[h0,di]at h1;exact aY (by rw[h1];rfl)
    .exact⟨F-ks.length-1,by omega⟩
   have kX:=I (show X=di c.E (f'+1) (op++[pl]) ks b cl (c.at k1)from by rw[rO.out,hf']);rw[di]at kX;have CE:=I hf';have AJ:=I hle;have SL:=I agK;have aJ:=I ad;have xI:=I hsz;have aQ:=I (R.oC aY);clear rO hf' hle ad hsz agK;go_wp2_with fail
   refine(HRO f' (by have:=CE.out;omega) k1 (op++[pl]) wr HP (by have:=oJ.out;have:=aJ.out;simp;omega) (λh=>aQ ath)).mono ?_;intro e w6 hres;have ac:=hres.parts (λh=>aQ ath);clear hres;generalize cZ c.E f' (op++[pl]) (c.at k1)=Y at kX ac;obtain⟨A1,n1,uo,i1,ar,rfl,hm,hend⟩:=ac;have JX:=I hm;have Dp:=I (HM.trans hm);have oG:=I (hm.QN ow Zo Pf);have agL:=I (hm.QN aM UZ Pf);clear hm
   rcases hend with⟨QS,rest,k',rfl,rfl,rfl,rfl,aa,rfl,IJ,hp⟩|⟨rfl,aj⟩
   case inr=>
    have F7:=I aj;have e0:=alr aj;clear aj;have aC:=I (show X=.err i1 ar from kX);rw[aC.out]at HQ;unfold aG;go_wp2_with fail
    have ap:=af.new w6 45 #[V (i1:Int),V (ar:Int)];have hbr:=oG.alloc (.cells #[V (i1:Int),V (ar:Int)] 45);have az:=Dp.alloc (.cells #[V (i1:Int),V (ar:Int)] 45);generalize (w6.alloc (.cells #[V (i1:Int),V (ar:Int)] 45))=W6 at ap hbr az|-;have r0:=cR y_;have r1:=cR z_;have ab:=ap.lt;have ow:=I hbr;have aN:=I az;clear ap hbr az;refine cu [([(0,true),(1,true)],2)] [] Pg Ph Pg ?_;refine dJ ?_
    repeat(refine Z4 ?_)
    obtain⟨p0,p1,y0,y1,hlt⟩:=af.two (ow.drewN 1);refine dm rfl (λK hK=>?_);go_wp2_with fail
    refine fH ?_;go_wp2_with fail
    have al:af _ (w.heap.size) 45 #[V (i1:Int),V (ar:Int)]:=((ow.drewN 1).put 0 (V (i1:Int))).put 1 (V (ar:Int));have wO:=((aN.drewN 1).setCell (p:=B_ w.heap.size 0) WL (V (i1:Int))).setCell (p:=B_ w.heap.size 1) WL (V (ar:Int));obtain⟨f0,f1,_⟩:=af.two al
    refine bodyPost_ret (v:=.tuple #[N_,aG i1 ar]) g_ rfl ?_;exact ark
   have jK:=I aa;have uP:=I IJ;have pg:=I hp;have wK:=I (show Grow (λk=>k=w4.heap.size) w6 w.heap.size W5.heap.size ks (.slice A ks.length cp)from HG.mv JX qD aeJ (λb hb=>.inr (.inr (PT.Sd HP hb))))
   have aZ:=I (show∀b,(Value.slice A ks.length cp).ownBlock=some b->b<wr.heap.size from λb hb=>by
    obtain⟨cs,h1,_⟩:=HG.out;obtain⟨_,cur,h4⟩:=fe h1 hb;exact(Array.getElem?_eq_some_iff.1 h4).1)
   clear aa IJ hp;unfold aG;go_wp2_with fail
   have gX:ag w6 (w6.alloc (.cells #[V 0,V 0] 45)):=(M _ _).alloc _;generalize (w6.alloc (.cells #[V 0,V 0] 45))=W7 at gX|-;have gW:=I gX;have agM:=I (gX.QN agL λh=>h);clear gX;have r3:=cR (agM.cell 3|>.trans rfl);have hl7:=agM.lt;refine cu [([(0,true),(1,true),(2,true),(3,false),(4,false)],5),([(6,true)],7)] [] Pg Ph Pg ?_;refine dJ ?_
   repeat(refine Z4 ?_)
   refine aS rfl (λK hK=>?_);go_wp2_with fail
   refine(j6 A1 QS.length uo _).mono ?_;rintro _ w8 ⟨rfl,hf⟩;have mZ:=I (show ag W7 w8 from Touch.BD hf);clear hf;go_wp2
   refine hK _ _ (aA mZ) ?_;clear hK K;refine aS rfl (λK hK=>?_);go_wp2
   refine hK _ _ (aA (mZ.alloc _)) ?_;clear hK K r3 hl7;have iT:=gW.trans (mZ.alloc (.cells #[V 1,E_,V 0,.slice A1 QS.length uo] 31));have kD:=af.new w8 31 #[V 1,E_,V 0,.slice A1 QS.length uo];generalize (w8.alloc (.cells #[V 1,E_,V 0,.slice A1 QS.length uo] 31))=W9 at iT kD|-;have xJ:=I iT;have yz:=I kD;clear iT kD;have ajz:=I (jK.QH xJ);refine dm rfl (λK hK=>?_)
   go_wp2_with (at_builtin;refine vF rfl (.tmp 34) (.tmp 37) rfl i _ hi hz0 hz1 hz2 rfl (B0:=w.heap.size) (B:=W5.heap.size) (B1:=wr.heap.size) (ks:=ks) (v:=.slice A ks.length cp) (y:=.slice (A_ w8.heap.size 0) 1 1) (wK.QH xJ) WH (Np.CG QS) (.slice A1 QS.length uo) WH (show Src W9 4 _ 1 [V (Np.CG QS).QI,.string ⟨(Np.CG QS).QG.toArray⟩,V (Np.CG QS).ah,.slice A1 QS.length uo]from Src.uT yz rfl) ajz (by have:=xI.out;have:=qh.out;have:=gP.out;omega) (λk hk=>by have:=xI.out;have:=qh.out;omega) aZ JI abT (by have h1:=xI.out;have h2:=JX.size;have h3:=xJ.size;omega) ?_;intro A8 fq W10 agN Nz;refine jw.mk ?_)
   have ad8:=Nz.KM (xJ.QN agL λh=>h) (by have:=qh.out;omega);have ad9:=Nz.KM (xJ.QN oG λh=>h) qD;have agO:=Nz.ps (pg.QH xJ) (by have:=qh.out;have:=gP.out;have:=ax.out;omega) qD;have agP:=Nz.mp (Dp.fr xJ) qD;have agQ:W5.heap.size<=W10.heap.size:=by have h0:=Nz.size;have h1:=xI.out;have h2:=JX.size;have h3:=xJ.size;omega
   have Yt:=I ad8;have aht:=I ad9;have ajA:=I agO;have ajB:=I agP;have acu:=I agN;have Kw:=I agQ;clear ad8 ad9 agO agP agN agQ Nz;refine jw.go ?_;go_wp2_with fail
   refine dJ ?_
   repeat(refine Z4 ?_)
   obtain⟨p0,p1,p2,p3,y0,y1,y2,y3,lW⟩:=af.QM Yt;refine dm rfl (λK hK=>?_);go_wp2_with fail
   refine fH ?_;have Yu:af _ w4.heap.size 31 #[V 12,E_,V (cl:Int),.slice A8 (ks.length+1) fq]:=Yt.put 3 (.slice A8 (ks.length+1) fq);have Yv:=aht.far (p:=B_ w4.heap.size 3) ais (.slice A8 (ks.length+1) fq);have ady:=(M (λb=>b=w4.heap.size) W10).setCell (p:=B_ w4.heap.size 3) Wh (.slice A8 (ks.length+1) fq);have adz:=acu.mv ady qD aeJ atr;have adA:=ajA.mv ady (λb hb=>by have:=ax.out;have:=gP.out;subst hb;exact⟨by omega,by omega,_,_,Pf,Yt⟩);have adB:Mp c.g c.W0.heap.size w (W10.setCell (B_ w4.heap.size 3) (.slice A8 (ks.length+1) fq)):=ajB.setCell (p:=B_ w4.heap.size 3) aoq (.slice A8 (ks.length+1) fq);have adC:W5.heap.size<=(W10.setCell (B_ w4.heap.size 3) (.slice A8 (ks.length+1) fq)).heap.size:=by have:=Kw.out;simpa using this
   generalize (W10.setCell (B_ w4.heap.size 3) (.slice A8 (ks.length+1) fq))=W11 at Yu Yv adz adA adB adC|-;have ahu:=I Yu;have ahv:=I Yv;have acv:=I adz;have agR:=I adA;have ajC:=I adB;have ajD:=I adC;clear Yu Yv adz adA adB adC ady p0 p1 p2 p3 y0 y1 y2 y3 lW;rw[R.bind_ok]at kX;have lg:=I (show(ks++[Np.CG QS]).length=ks.length+1 from by simp);have aV:=I (aM.cell 3);go_wp2_with fail
   refine(HA 38 k' (op++[pl]) W11 agR).mono ?_;rintro _ w12 ⟨rfl,hf⟩;have agS:=I (au2 ajD hf.size);have aea:=I (hf.QN ahu λh=>h);have aeb:=I (hf.QN ahv λh=>h);have agT:=I (acv.QH hf);have SN:=I (agR.QH hf);have agU:=I (ajC.fr hf);clear hf;cases OX:Np.dx 38 (c.at k').l with
   |true=>
    rw[if_pos OX,Cf.alE]at kX;have Gb:=I (Er OX);have aU:=agU;clear OX;obtain⟨ov,hb,_⟩:=SN.box;have q1:=hb.cell 1;have z1:=hb.frozen 1;have hg1:=hb.lt;have hkb:k'.p<=100000:=auW
    clear hb;go_wp2_with fail
    have hn:=SN.next Gb ((k'.p:Int)+1) P9;have uN:=aea.far (p:=B_ c.g 1) ais (V ((k'.p:Int)+1));have hbr:=aeb.far (p:=B_ c.g 1) WN (V ((k'.p:Int)+1));have hg:=agT.mv hn.2 qD aeJ (λb hb=>.inr (.inr (PT.Sd SN hb)));have hsz:W5.heap.size<=(w12.setCell (B_ c.g 1) (V ((k'.p:Int)+1))).heap.size:=by have:=agS.out;simpa using this
    generalize (w12.setCell (B_ c.g 1) (V ((k'.p:Int)+1)))=W13 at hn uN hbr hg hsz|-;refine⟨⟨k'.up,b,cl,ks++[Np.CG QS],A8,fq,rfl,by rw[lg.out];exact uN,hbr,by rw[lg.out];exact hg,hn.1,by have:=aJ.out;have:=uP.out;(try simp only[Kp.alq]at*);omega,aU.trans hn.2,hsz,by rw[lg.out];have:=CE.out;omega,by rw[lg.out];have:=SL.out;omega,?_⟩,?_⟩
    .unfold Hd
     exact ank
    .have h1:=uN.cell 3
     have h0:=aV.out;rw[h1,h0];simp[Jp]
     have:=CE.out;omega
   |false=>
    rw[if_neg (by simp[OX])]at kX;clear OX;obtain⟨kd,r1,r3,fr,agV,an,IY⟩:=adx c.en (c.at k').l;have ajE:=I agV;have aT:=I an;have aX:=Ye;have ala:=FB;clear agV an;rw[<-IY]at kX;go_wp2_with fail
    refine(HT k' (op++[pl]) w12 SN).mono ?_;rw[ajE.out];rintro _ SQ ⟨rfl,hf⟩;have adD:=I (au2 agS hf.size);have Jq:=I (hf.QN aea λh=>h);have Yw:=I (hf.QN aeb λh=>h);have adE:=I (agT.QH hf);have KV:=I (SN.QH hf);have adF:=I (agU.fr hf);clear hf
    by_cases h8:kd=8
    .have e8:((kd:Int)==8)=true:=by rw[h8];rfl
     have Gb:=I (show k'.p<c.T.length from Br (λe=>by rw[e]at IY;rw[h8]at IY;cases IY));rw[show(kd==8)=true by rw[h8];rfl]at kX IY;rw[if_neg (by simp)]at kX;clear h8 IY
     by_cases hb0:b=0
     .subst hb0
      rw[if_neg (by simp[Np.xh]),if_neg (by simp),Cf.alE]at kX;simp only[Np.xh,if_true]at kX;have ai:ks.length<=1000000:=abT
      have a1:c.g<w4.heap.size:=UZ
      obtain⟨p0,p1,p2,p3,y0,y1,y2,y3,lW⟩:=af.QM Jq;obtain⟨ov,hb,_⟩:=KV.box;have q1:=hb.cell 1;have z1:=hb.frozen 1;have hg1:=hb.lt;have hkb:k'.p<=100000:=auW
      clear hb;go_wp2_with fail
      clear q1 z1 hg1 hkb ai a1 e8;clear p0 p1 p2 p3 y0 y1 y2 y3 lW;have uN:af _ w4.heap.size 31 #[V 12,E_,V ((ks.length:Int)+1),.slice A8 (ks.length+1) fq]:=Jq.put 2 (V ((ks.length:Int)+1));have hbr:=Yw.far (p:=B_ w4.heap.size 2) ais (V ((ks.length:Int)+1));have ht:=(M (λb=>b=w4.heap.size) SQ).setCell (p:=B_ w4.heap.size 2) Wh (V ((ks.length:Int)+1));have hg:=adE.mv ht qD aeJ atr;have hp:=KV.mv ht (λb hb=>by have:=ax.out;have:=gP.out;subst hb;exact⟨by omega,by omega,_,_,Pf,Jq⟩);have hm:Mp c.g c.W0.heap.size w (SQ.setCell (B_ w4.heap.size 2) (V ((ks.length:Int)+1))):=adF.setCell (p:=B_ w4.heap.size 2) aoq (V ((ks.length:Int)+1));have hs:W5.heap.size<=(SQ.setCell (B_ w4.heap.size 2) (V ((ks.length:Int)+1))).heap.size:=by have:=adD.out;simpa using this
      generalize (SQ.setCell (B_ w4.heap.size 2) (V ((ks.length:Int)+1)))=W14 at uN hbr hg hp hm hs|-;have zL:=I uN;have ME:=I hbr;have Yx:=I hg;have KW:=I hp;have NA:=I hm;have adG:=I hs;clear uN hbr hg hp hm hs ht;have hn:=KW.next Gb ((k'.p:Int)+1) P9;have uN:=zL.far (p:=B_ c.g 1) ais (V ((k'.p:Int)+1));have hbr:=ME.far (p:=B_ c.g 1) WN (V ((k'.p:Int)+1));have hg:=Yx.mv hn.2 qD aeJ (λb hb=>.inr (.inr (PT.Sd KW hb)));have hsz:W5.heap.size<=(W14.setCell (B_ c.g 1) (V ((k'.p:Int)+1))).heap.size:=by have:=adG.out;simpa using this
      generalize (W14.setCell (B_ c.g 1) (V ((k'.p:Int)+1)))=Dr at hn uN hbr hg hsz|-;have aU:=NA;refine⟨⟨k'.up,(ks.length+1),(ks.length+1),ks++[Np.CG QS],A8,fq,by simp,by rw[lg.out];exact uN,hbr,by rw[lg.out];exact hg,hn.1,by have:=aJ.out;have:=uP.out;(try simp only[Kp.alq]at*);omega,aU.trans hn.2,hsz,by rw[lg.out];have:=CE.out;omega,by rw[lg.out];have:=SL.out;omega,?_⟩,?_⟩
      .unfold Hd
       exact ank
      .have h1:=uN.cell 3
       have h0:=aV.out;rw[h1,h0];simp[Jp]
       have:=CE.out;omega
     .by_cases KX:ks.length+1-b≠cl
      .skip
       rw[if_pos (by rw[Np.xh,if_neg hb0];exact KX)]at kX;have ai:ks.length<=1000000:=abT
       have av:b<=ks.length:=SL;obtain⟨m,hm⟩:∃m,ks.length+1=b+m:=⟨ks.length+1-b,by omega⟩;have t1:(ks.length:Int)+1-(b:Int)=(m:Int):=Zo
       have t2:((m:Int)==(cl:Int))=false:=MW
       have t3:((m:Int) !=(cl:Int))=true:=auj
       have t4:((b:Int)==0)=false:=MW
       have t5:IntKind.i64.wrap (m:Int)=(m:Int):=IntWalk.i64_in _ Zo;have t6:¬(b:Int)=0:=Zo
       clear hm;obtain⟨p0,p1,p2,p3,y0,y1,y2,y3,lW⟩:=af.QM Jq;clear KX hb0;go_wp2_with fail
       clear t1 t2 t3 t4 t5 t6 ai av;clear p0 p1 p2 p3 y0 y1 y2 y3 lW;refine(HT k' (op++[pl]) SQ KV).mono ?_;rw[ajE.out];rintro _ w20 ⟨rfl,hf⟩;have amT:=I (hf.QN Yw λh=>h);have aoA:=I (adF.fr hf);clear hf;obtain⟨p0,p1,y0,y1,hlt⟩:=af.two amT;go_wp2_with fail
       have al:=amT.fT (V (fr:Int)) (V 3);have wO:Mp c.g c.W0.heap.size w _:=aoA.aH (g:=w.heap.size) ET (V (fr:Int)) (V 3);obtain⟨f0,f1,_⟩:=af.two al;simp only[aH]at f0 f1 wO
       exact aqj
      .rw[if_neg (by rw[Np.xh,if_neg hb0];exact KX),if_neg (by simp),Cf.alE]at kX
       simp only[Np.xh,if_neg hb0]at kX;have a1:c.g<w4.heap.size:=UZ
       have ai:ks.length<=1000000:=abT
       have av:b<=ks.length:=SL;have t1:(ks.length:Int)+1-(b:Int)=(cl:Int):=Zo
       have t2:((cl:Int)==(cl:Int))=true:=P9
       have t4:((b:Int)==0)=false:=MW
       have t5:IntKind.i64.wrap (cl:Int)=(cl:Int):=IntWalk.i64_in _ Zo;have t6:¬(b:Int)=0:=Zo
       clear KX;obtain⟨p0,p1,p2,p3,y0,y1,y2,y3,lW⟩:=af.QM Jq;obtain⟨ov,hb,_⟩:=KV.box;have q1:=hb.cell 1;have z1:=hb.frozen 1;have hg1:=hb.lt;have hkb:k'.p<=100000:=auW
       clear hb;clear hb0;go_wp2_with fail
       clear q1 z1 hg1 hkb a1 e8;clear t1 t2 t4 t5 t6 ai av;clear p0 p1 p2 p3 y0 y1 y2 y3 lW;have hn:=KV.next Gb ((k'.p:Int)+1) P9;have uN:=Jq.far (p:=B_ c.g 1) ais (V ((k'.p:Int)+1));have hbr:=Yw.far (p:=B_ c.g 1) WN (V ((k'.p:Int)+1));have hg:=adE.mv hn.2 qD aeJ (λb hb=>.inr (.inr (PT.Sd KV hb)));have hsz:W5.heap.size<=(SQ.setCell (B_ c.g 1) (V ((k'.p:Int)+1))).heap.size:=by have:=adD.out;simpa using this
       generalize (SQ.setCell (B_ c.g 1) (V ((k'.p:Int)+1)))=Dr at hn uN hbr hg hsz|-;have aU:=adF;refine⟨⟨k'.up,(ks.length+1),cl,ks++[Np.CG QS],A8,fq,by simp,by rw[lg.out];exact uN,hbr,by rw[lg.out];exact hg,hn.1,by have:=aJ.out;have:=uP.out;(try simp only[Kp.alq]at*);omega,aU.trans hn.2,hsz,by rw[lg.out];have:=CE.out;omega,by rw[lg.out];have:=SL.out;omega,?_⟩,?_⟩
       .unfold Hd
        exact ank
       .have h1:=uN.cell 3
        have h0:=aV.out;rw[h1,h0];simp[Jp]
        have:=CE.out;omega
    .have e8:((kd:Int)==8)=false:=by rw[beq_eq_false_iff_ne];omega
     have e8p:¬(kd:Int)=8:=Zo
     rw[show(kd==8)=false by simpa using h8]at kX IY;clear h8 IY;go_wp2_with fail
     refine(HA 125 k' (op++[pl]) SQ KV).mono ?_;rintro _ AR ⟨rfl,hf⟩;have adG:=I (au2 adD hf.size);have zL:=I (hf.QN Jq λh=>h);have ME:=I (hf.QN Yw λh=>h);have Yx:=I (adE.QH hf);have KW:=I (KV.QH hf);have NA:=I (adF.fr hf);clear hf;cases IX:Np.dx 125 (c.at k').l with
     |false=>
      rw[if_pos ⟨trivial,IX⟩]at kX;clear IX;go_wp2_with fail
      refine(HR k' (op++[pl]) AR KW).mono ?_;rintro _ w9 ⟨rfl,hf⟩;have rM:=I (NA.fr hf);have dY:=I (hf.QN ME λh=>h);clear hf;replace kX:=I (show X=.err (Np.place c.en (c.at k').l) 3 from kX);rw[kX.out]at HQ;generalize Np.place c.en (c.at k').l=pl' at HQ|-;obtain⟨q0,q1,z0,z1,ab⟩:=af.two dY
      (try unfold aG)
      go_wp2_with fail
      have n1:=dY.fT (V (pl':Int)) (V 3);have iU:Mp c.g c.W0.heap.size w (aH w9 (w.heap.size) (V (pl':Int)) (V 3)):=rM.aH (g:=w.heap.size) Ls (V (pl':Int)) (V 3);have fA:=dS w9 (w.heap.size) (V (pl':Int)) (V 3);simp only[aH]at n1 iU fA;generalize (auX (auX w9 (B_ w.heap.size 0) _) (B_ w.heap.size 1) _)=W4 at n1 iU fA|-;obtain⟨f0,f1,_⟩:=af.two n1
      refine bodyPost_ret (v:=.tuple #[N_,aG pl' 3]) g_ rfl ?_;exact aso
     |true=>
      rw[if_neg (λh=>by rw[IX]at h;cases h.2)]at kX;have Yy:=I IX;have Gb:=I (Er IX);clear IX
      by_cases hb0:b=0
      .subst hb0
       rw[if_neg (by simp[Np.xh]),if_pos trivial]at kX;simp only[Np.xh,if_true]at kX;have ai:ks.length<=1000000:=abT
       obtain⟨p0,p1,p2,p3,y0,y1,y2,y3,lW⟩:=af.QM zL;go_wp2_with fail
       clear ai;clear p0 p1 p2 p3 y0 y1 y2 y3 lW;have uN:af _ w4.heap.size 31 #[V 12,E_,V ((ks.length:Int)+1),.slice A8 (ks.length+1) fq]:=zL.put 2 (V ((ks.length:Int)+1));have hbr:=ME.far (p:=B_ w4.heap.size 2) ais (V ((ks.length:Int)+1));have ht:=(M (λb=>b=w4.heap.size) AR).setCell (p:=B_ w4.heap.size 2) Wh (V ((ks.length:Int)+1));have hg:=Yx.mv ht qD aeJ atr;have hp:=KW.mv ht (λb hb=>by have:=ax.out;have:=gP.out;subst hb;exact⟨by omega,by omega,_,_,Pf,zL⟩);have hm:Mp c.g c.W0.heap.size w (AR.setCell (B_ w4.heap.size 2) (V ((ks.length:Int)+1))):=NA.setCell (p:=B_ w4.heap.size 2) aoq (V ((ks.length:Int)+1));have hs:W5.heap.size<=(AR.setCell (B_ w4.heap.size 2) (V ((ks.length:Int)+1))).heap.size:=by have:=adG.out;simpa using this
       generalize (AR.setCell (B_ w4.heap.size 2) (V ((ks.length:Int)+1)))=Dr at uN hbr hg hp hm hs|-;have PX:=I uN;have aec:=I hbr;have ajF:=I hg;have adH:=I hp;have adI:=I hm;have alb:=I hs;clear uN hbr hg hp hm hs ht;have aB:=ajF.tree qD;have nK:=I aB;clear aB;rw[kX.out]at HQ;refine AA (λX=>af X w4.heap.size 31 #[V 12,E_,V ((ks.length+1):Int),.slice A8 (ks.length+1) fq]) (.plain 0 (.plain 2 (.fork 1 (.lone 3 (.plain 4 (.lone 5 .nil))) 3 (.lone 1 (.plain 4 (.lone 5 .nil)))))) [0,1,2,3,4,5] #[true,true,true,true,true,true] Pg Ph Pg (PX.drewN 1) ?_;refine eX rfl (λK hK=>?_);rw[if_pos (by rfl)];refine⟨.agg #[V 12,E_,V ((ks.length+1):Int),.slice A8 (ks.length+1) fq],λX hX=>?_,hK _ ?_⟩
       .obtain⟨p0,p1,p2,p3,_⟩:=af.QM hX
        go_simp
       clear hK K;refine eX rfl (λK hK=>?_);rw[if_pos (by rfl)];refine⟨.pointer (A_ c.g 0),λX hX=>?_,hK _ ?_⟩
       .go_simp
       clear hK K;refine o6 ?_ ?_
       .have ao:ag Dr ((Dr.drewN 1).alloc (.cells #[V 12,E_,V ((ks.length+1):Int),.slice A8 (ks.length+1) fq] 31)):=((M _ _).drewN 1).alloc _
        have yG:aP w.heap.size ((Dr.drewN 1).alloc (.cells #[V 12,E_,V ((ks.length+1):Int),.slice A8 (ks.length+1) fq] 31)) [(Nd.mk 12 [] ((ks.length+1):Nat) (ks++[Np.CG QS]))] (.slice (A_ ((Dr.drewN 1).heap.size) 0) 1 1):=
         aP.lit (n:=(Nd.mk 12 [] ((ks.length+1):Nat) (ks++[Np.CG QS]))) (nK.QH ((M _ Dr).drewN 1)) adI.size JI
        refine aW rfl (λK hK=>?_);go_wp2_with fail
        change aP w.heap.size ((Dr.drewN 1).alloc (.cells #[V 12,E_,V ((ks.length+1):Int),.slice A8 (ks.length+1) fq] 31)) [(Nd.mk 12 [] ((ks.length+1):Nat) (ks++[Np.CG QS]))] (.slice (A_ Dr.heap.size 0) 1 1)at yG
        generalize ((Dr.drewN 1).alloc (.cells #[V 12,E_,V ((ks.length+1):Int),.slice A8 (ks.length+1) fq] 31))=WA at ao yG|-;have gL:=I ao;have sJ:=I yG;have Cj:=I (adH.QH ao);have ql:=I (ao.QN aec λh=>h);have aE:=I (adI.fr ao);refine hK _ _ (ao.QN PX λh=>h) ?_;have Di:=I (ao.QN PX λh=>h);clear hK K ao yG;refine aW rfl (λK hK=>?_);go_wp2_with fail
        refine(aO k' pl WA Cj (.inl Gb)).mono ?_;rintro _ IZ (⟨_,rfl,hp,hm⟩|⟨hx,_⟩)
        case inr=>rw[Yy.out]at hx;cases hx
        have KY:=I hp;have tO:=I (hm.QN ql Zo Pf);have KZ:=I (aE.trans hm);have K3:=I (sJ.mp hm Cj);unfold aG;go_wp2
        refine hK _ _ (hm.QN Di UZ Pf) ?_;have FN:=I (hm.QN Di UZ Pf);clear hK K hp hm;refine eX rfl (λK hK=>?_);rw[if_pos (by rfl)];refine⟨.slice (A_ Dr.heap.size 0) 1 1,λX hX=>?_,hK _ ?_⟩
        .go_simp
        clear hK K
        skip
        obtain⟨p0,p1,y0,y1,hlt⟩:=af.two tO;refine aW rfl (λK hK=>?_);go_wp2_with fail
        have al:=tO.fT (V 0) (V 0);have CF:=FN.nJ (L:=w4.heap.size) (g:=w.heap.size) UZ (V 0) (V 0);have am:=KY.aH tO Pf Zo ax (V 0) (V 0);have aa:=K3.other tO Pf arc;have wO:Mp c.g c.W0.heap.size w _:=KZ.aH (g:=w.heap.size) ET (V 0) (V 0);simp only[aH]at al CF am aa wO;generalize auX (auX IZ (B_ w.heap.size 0) _) (B_ w.heap.size 1) _=W22 at al CF am aa wO|-;refine hK _ _ CF ?_;clear hK K p0 p1 y0 y1 hlt;refine sQ ?_;go_wp2_with fail
        obtain⟨f0,f1,_⟩:=af.two al
        refine bodyPost_ret (v:=.tuple #[.slice (A_ Dr.heap.size 0) 1 1,aG 0 0]) g_ rfl ?_;exact d_
       .refine aW rfl (λK hK=>?_)
        go_wp2_with fail
        refine(aO k' pl _ (adH.QH ((M _ _).drewN 1)) (.inl Gb)).mono ?_;rintro _ wb (⟨_,rfl,hp,hm⟩|⟨hx,_⟩)
        case inr=>rw[Yy.out]at hx;cases hx
        have hm':Mp c.g c.W0.heap.size Dr wb:=(Mp.QH ((M _ Dr).drewN 1)).trans hm;have aR:=I hp;have gu:=I (hm'.QN aec Zo Pf);have aK:=I (hm'.QN PX UZ Pf);have aL:=I (adI.trans hm');have yB:=I (nK.mp hm' adH);unfold aG;go_wp2
        refine hK _ _ aK ?_;clear hK K hp hm hm';have ao:ag wb (wb.alloc (.cells #[V 12,E_,V ((ks.length+1):Int),.slice A8 (ks.length+1) fq] 31)):=(M _ _).alloc _
        have yG:aP w.heap.size (wb.alloc (.cells #[V 12,E_,V ((ks.length+1):Int),.slice A8 (ks.length+1) fq] 31)) [(Nd.mk 12 [] ((ks.length+1):Nat) (ks++[Np.CG QS]))] (.slice (A_ wb.heap.size 0) 1 1):=
         aP.lit (n:=(Nd.mk 12 [] ((ks.length+1):Nat) (ks++[Np.CG QS]))) yB aL.size JI
        refine aW rfl (λK hK=>?_);go_wp2_with fail
        generalize (wb.alloc (.cells #[V 12,E_,V ((ks.length+1):Int),.slice A8 (ks.length+1) fq] 31))=IZ at ao yG|-;have KY:=I (aR.QH ao);have tO:=I (ao.QN gu λh=>h);have KZ:=I (aL.fr ao);have K3:=I yG;have FN:=I (ao.QN aK λh=>h);refine hK _ _ FN ?_;clear hK K ao yG;refine eX rfl (λK hK=>?_);rw[if_pos (by rfl)];refine⟨.slice (A_ wb.heap.size 0) 1 1,λX hX=>?_,hK _ ?_⟩
        .go_simp
        clear hK K;obtain⟨p0,p1,y0,y1,hlt⟩:=af.two tO;refine aW rfl (λK hK=>?_);go_wp2_with fail
        have al:=tO.fT (V 0) (V 0);have CF:=FN.nJ (L:=w4.heap.size) (g:=w.heap.size) UZ (V 0) (V 0);have am:=KY.aH tO Pf Zo ax (V 0) (V 0);have aa:=K3.other tO Pf arc;have wO:Mp c.g c.W0.heap.size w _:=KZ.aH (g:=w.heap.size) ET (V 0) (V 0);simp only[aH]at al CF am aa wO;generalize auX (auX IZ (B_ w.heap.size 0) _) (B_ w.heap.size 1) _=W22 at al CF am aa wO|-;refine hK _ _ CF ?_;clear hK K p0 p1 y0 y1 hlt;refine sQ ?_;go_wp2_with fail
        obtain⟨f0,f1,_⟩:=af.two al
        exact arL
      .by_cases KX:ks.length+1-b≠cl
       .skip
        rw[if_pos (by rw[Np.xh,if_neg hb0];exact KX)]at kX;have ai:ks.length<=1000000:=abT
        have av:b<=ks.length:=SL;obtain⟨m,hm⟩:∃m,ks.length+1=b+m:=⟨ks.length+1-b,by omega⟩;have t1:(ks.length:Int)+1-(b:Int)=(m:Int):=Zo
        have t2:((m:Int)==(cl:Int))=false:=MW
        have t3:((m:Int) !=(cl:Int))=true:=auj
        have t4:((b:Int)==0)=false:=MW
        have t5:IntKind.i64.wrap (m:Int)=(m:Int):=IntWalk.i64_in _ Zo;have t6:¬(b:Int)=0:=Zo
        clear hm;obtain⟨p0,p1,p2,p3,y0,y1,y2,y3,lW⟩:=af.QM zL;clear KX hb0;go_wp2_with fail
        clear t1 t2 t3 t4 t5 t6 ai av;clear p0 p1 p2 p3 y0 y1 y2 y3 lW;refine(HT k' (op++[pl]) AR KW).mono ?_;rw[ajE.out];rintro _ w20 ⟨rfl,hf⟩;have amT:=I (hf.QN ME λh=>h);have aoA:=I (NA.fr hf);clear hf;obtain⟨p0,p1,y0,y1,hlt⟩:=af.two amT;go_wp2_with fail
        have al:=amT.fT (V (fr:Int)) (V 3);have wO:Mp c.g c.W0.heap.size w _:=aoA.aH (g:=w.heap.size) ET (V (fr:Int)) (V 3);obtain⟨f0,f1,_⟩:=af.two al;simp only[aH]at f0 f1 wO
        exact aqj
       .rw[if_neg (by rw[Np.xh,if_neg hb0];exact KX),if_pos trivial]at kX
        simp only[Np.xh,if_neg hb0]at kX;have ai:ks.length<=1000000:=abT
        have av:b<=ks.length:=SL;have t1:(ks.length:Int)+1-(b:Int)=(cl:Int):=Zo
        have t2:((cl:Int)==(cl:Int))=true:=P9
        have t4:((b:Int)==0)=false:=MW
        have t5:IntKind.i64.wrap (cl:Int)=(cl:Int):=IntWalk.i64_in _ Zo;have t6:¬(b:Int)=0:=Zo
        clear KX;obtain⟨p0,p1,p2,p3,y0,y1,y2,y3,lW⟩:=af.QM zL;clear hb0;go_wp2_with fail
        clear t1 t2 t4 t5 t6 ai av;clear p0 p1 p2 p3 y0 y1 y2 y3 lW;have aB:=Yx.tree qD;have nK:=I aB;clear aB;rw[kX.out]at HQ;refine AA (λX=>af X w4.heap.size 31 #[V 12,E_,V (cl:Int),.slice A8 (ks.length+1) fq]) (.plain 0 (.plain 2 (.fork 1 (.lone 3 (.plain 4 (.lone 5 .nil))) 3 (.lone 1 (.plain 4 (.lone 5 .nil)))))) [0,1,2,3,4,5] #[true,true,true,true,true,true] Pg Ph Pg (zL.drewN 1) ?_;refine eX rfl (λK hK=>?_);rw[if_pos (by rfl)];refine⟨.agg #[V 12,E_,V (cl:Int),.slice A8 (ks.length+1) fq],λX hX=>?_,hK _ ?_⟩
        .obtain⟨p0,p1,p2,p3,_⟩:=af.QM hX
         go_simp
        clear hK K;refine eX rfl (λK hK=>?_);rw[if_pos (by rfl)];refine⟨.pointer (A_ c.g 0),λX hX=>?_,hK _ ?_⟩
        .go_simp
        clear hK K;refine o6 ?_ ?_
        .have ao:ag AR ((AR.drewN 1).alloc (.cells #[V 12,E_,V (cl:Int),.slice A8 (ks.length+1) fq] 31)):=((M _ _).drewN 1).alloc _
         have yG:aP w.heap.size ((AR.drewN 1).alloc (.cells #[V 12,E_,V (cl:Int),.slice A8 (ks.length+1) fq] 31)) [(Nd.mk 12 [] (cl:Nat) (ks++[Np.CG QS]))] (.slice (A_ ((AR.drewN 1).heap.size) 0) 1 1):=
          aP.lit (n:=(Nd.mk 12 [] (cl:Nat) (ks++[Np.CG QS]))) (nK.QH ((M _ AR).drewN 1)) NA.size JI
         refine aW rfl (λK hK=>?_);go_wp2_with fail
         change aP w.heap.size ((AR.drewN 1).alloc (.cells #[V 12,E_,V (cl:Int),.slice A8 (ks.length+1) fq] 31)) [(Nd.mk 12 [] (cl:Nat) (ks++[Np.CG QS]))] (.slice (A_ AR.heap.size 0) 1 1)at yG
         generalize ((AR.drewN 1).alloc (.cells #[V 12,E_,V (cl:Int),.slice A8 (ks.length+1) fq] 31))=WA at ao yG|-;have gL:=I ao;have sJ:=I yG;have Cj:=I (KW.QH ao);have ql:=I (ao.QN ME λh=>h);have aE:=I (NA.fr ao);refine hK _ _ (ao.QN zL λh=>h) ?_;have Di:=I (ao.QN zL λh=>h);clear hK K ao yG;refine aW rfl (λK hK=>?_);go_wp2_with fail
         refine(aO k' pl WA Cj (.inl Gb)).mono ?_;rintro _ IZ (⟨_,rfl,hp,hm⟩|⟨hx,_⟩)
         case inr=>rw[Yy.out]at hx;cases hx
         have KY:=I hp;have tO:=I (hm.QN ql Zo Pf);have KZ:=I (aE.trans hm);have K3:=I (sJ.mp hm Cj);unfold aG;go_wp2
         refine hK _ _ (hm.QN Di UZ Pf) ?_;have FN:=I (hm.QN Di UZ Pf);clear hK K hp hm;refine eX rfl (λK hK=>?_);rw[if_pos (by rfl)];refine⟨.slice (A_ AR.heap.size 0) 1 1,λX hX=>?_,hK _ ?_⟩
         .go_simp
         clear hK K
         skip
         obtain⟨p0,p1,y0,y1,hlt⟩:=af.two tO;refine aW rfl (λK hK=>?_);go_wp2_with fail
         have al:=tO.fT (V 0) (V 0);have CF:=FN.nJ (L:=w4.heap.size) (g:=w.heap.size) UZ (V 0) (V 0);have am:=KY.aH tO Pf Zo ax (V 0) (V 0);have aa:=K3.other tO Pf arc;have wO:Mp c.g c.W0.heap.size w _:=KZ.aH (g:=w.heap.size) ET (V 0) (V 0);simp only[aH]at al CF am aa wO;generalize auX (auX IZ (B_ w.heap.size 0) _) (B_ w.heap.size 1) _=W22 at al CF am aa wO|-;refine hK _ _ CF ?_;clear hK K p0 p1 y0 y1 hlt;refine sQ ?_;go_wp2_with fail
         obtain⟨f0,f1,_⟩:=af.two al
         refine bodyPost_ret (v:=.tuple #[.slice (A_ AR.heap.size 0) 1 1,aG 0 0]) g_ rfl ?_;exact d_
        .refine aW rfl (λK hK=>?_)
         go_wp2_with fail
         refine(aO k' pl _ (KW.QH ((M _ _).drewN 1)) (.inl Gb)).mono ?_;rintro _ wb (⟨_,rfl,hp,hm⟩|⟨hx,_⟩)
         case inr=>rw[Yy.out]at hx;cases hx
         have hm':Mp c.g c.W0.heap.size AR wb:=(Mp.QH ((M _ AR).drewN 1)).trans hm;have aR:=I hp;have gu:=I (hm'.QN ME Zo Pf);have aK:=I (hm'.QN zL UZ Pf);have aL:=I (NA.trans hm');have yB:=I (nK.mp hm' KW);unfold aG;go_wp2
         refine hK _ _ aK ?_;clear hK K hp hm hm';have ao:ag wb (wb.alloc (.cells #[V 12,E_,V (cl:Int),.slice A8 (ks.length+1) fq] 31)):=(M _ _).alloc _
         have yG:aP w.heap.size (wb.alloc (.cells #[V 12,E_,V (cl:Int),.slice A8 (ks.length+1) fq] 31)) [(Nd.mk 12 [] (cl:Nat) (ks++[Np.CG QS]))] (.slice (A_ wb.heap.size 0) 1 1):=
          aP.lit (n:=(Nd.mk 12 [] (cl:Nat) (ks++[Np.CG QS]))) yB aL.size JI
         refine aW rfl (λK hK=>?_);go_wp2_with fail
         generalize (wb.alloc (.cells #[V 12,E_,V (cl:Int),.slice A8 (ks.length+1) fq] 31))=IZ at ao yG|-;have KY:=I (aR.QH ao);have tO:=I (ao.QN gu λh=>h);have KZ:=I (aL.fr ao);have K3:=I yG;have FN:=I (ao.QN aK λh=>h);refine hK _ _ FN ?_;clear hK K ao yG;refine eX rfl (λK hK=>?_);rw[if_pos (by rfl)];refine⟨.slice (A_ wb.heap.size 0) 1 1,λX hX=>?_,hK _ ?_⟩
         .go_simp
         clear hK K;obtain⟨p0,p1,y0,y1,hlt⟩:=af.two tO;refine aW rfl (λK hK=>?_);go_wp2_with fail
         have al:=tO.fT (V 0) (V 0);have CF:=FN.nJ (L:=w4.heap.size) (g:=w.heap.size) UZ (V 0) (V 0);have am:=KY.aH tO Pf Zo ax (V 0) (V 0);have aa:=K3.other tO Pf arc;have wO:Mp c.g c.W0.heap.size w _:=KZ.aH (g:=w.heap.size) ET (V 0) (V 0);simp only[aH]at al CF am aa wO;generalize auX (auX IZ (B_ w.heap.size 0) _) (B_ w.heap.size 1) _=W22 at al CF am aa wO|-;refine hK _ _ CF ?_;clear hK K p0 p1 y0 y1 hlt;refine sQ ?_;go_wp2_with fail
         obtain⟨f0,f1,_⟩:=af.two al
         exact arL
end
section
open Go.RowKit
open Tr (Nd)
theorem al7:(Tryz.prog.info? 31).map (λi=>(i.zero,i.size,i.bytes))=some (some (.agg ZN),4,56):=Pg
theorem alN{x:Nd}{l:List Nd}(h:x∈l):Tr.count x<=Tr.az l:=Tr.cB h
theorem anR(ks:List Nd)(v:Value)(w:W_)(ar:Tr.az ks<=1000000)(hr:aD w ks v):C_ 178 #[v] w λe w'=>∃A cp,e=.returned (.slice A ks.length cp)/\aP w.heap.size w' ks (.slice A ks.length cp)/\ag w w':=by
 obtain⟨A,cap,rfl⟩:=hr.slice;have HR:=I hr;have aw:=I ar;have aM:=Tr.jF ks;have ab:ks.length<=1000000:=Zo
 have aY:=I ab;clear hr ar aM;go_enter func178,ntmps178;go_wp2
 go_loopw [3,7] (λa i av=>∃(wr:W_) (j:Nat) (A':Option Addr) (cp:Nat),wr=av/\a=.slice A' j cp/\i=V j/\j<=ks.length/\Hd (Grow (λ_=>False) wr w.heap.size w.heap.size (ks.take j) (.slice A' j cp))/\Hd (ag w wr)) (λ_ i _=>ks.length-(intOf i).toNat)
 case atStart=>exact⟨_,0,none,0,rfl,rfl,rfl,au1 _,I auE,I afD⟩
 case round=>
  obtain⟨wr,j,A',cp,rfl,rfl,rfl,hj,HG,HF⟩:=hrel
  by_cases c1:j<ks.length
  .have d1:decide ((j:Int)<(ks.length:Int))=true:=dT Zo
   have jo:decide (j<ks.length)=true:=dT c1;have aE:(j:Int)<(ks.length:Int):=Zo
   have hjb:j<=1000000:=Zo
   obtain⟨g,o,sl,rfl,hg,e0,e1,e2,e3,e4⟩:=HR.get j c1;have au:=HR.texts j c1;have wL:=I au;have aj:=I e4;have Me:=I (show Tr.count ks[j]<=1000000 by have:=alN f_;have:=aw.out;omega);have nK:=I (show ks.take (j+1)=ks.take j++[ks[j]] by rw[List.take_add_one,List.getElem?_eq_getElem c1];rfl);have a0:=HF.cell e0 PR;have a1:=HF.cell e1 PR;have a2:=HF.cell e2 PR;have a3:=HF.cell e3 PR;have HJ:=I auF;clear e0 e1 e2 e3 e4 au hg;generalize ks[j]=x at*;obtain⟨Ax,cx,rfl⟩:=aj.slice;go_wp2_with fail
   refine(amr x (.slice Ax x.Qx.length cx) wr Me (aj.QH HF)).mono ?_;rintro _ w2 ⟨s2,rfl,am,hf2⟩;have ao:=I am;have bW:=I hf2;obtain⟨A2,c2,rfl⟩:=am.slice;have aJ:=I (HG.QH hf2)
   have HOW:=I (show∀k,(Value.slice A' j cp).ownBlock=some k->k<wr.heap.size from λk hk=>by
    obtain⟨cs,h1,_⟩:=HG.out;obtain⟨_,cur,h4⟩:=fe h1 hk;exact(Array.getElem?_eq_some_iff.1 h4).1)
   clear am hf2 a0 a1 a2 a3;have kW:=I (af.new w2 31 #[V x.QI,S_ x.QG,V x.ah,.slice A2 x.Qx.length c2]);have bJ:=I (show ag w2 (w2.alloc (.cells #[V x.QI,S_ x.QG,V x.ah,.slice A2 x.Qx.length c2] 31))from(M _ w2).alloc _);have G9:=I (show(ks.take j).length=j by rw[List.length_take];omega);obtain⟨i,hi,hz0,hz1,hz2⟩:=info_parts al7;have ZT:=I (aJ.QH bJ);obtain⟨ns,aa⟩:∃ns,ns=ks.take j:=⟨_,rfl⟩;rw[<-aa]at ZT G9 nK;have aR:=I aa;clear aa;rw[<-G9.out]at ZT HOW
   go_wp2_with (at_builtin;go_loud (refine vF rfl (.tmp 10) (.tmp 16) rfl i _ hi hz0 hz1 hz2 rfl (B0:=w.heap.size) (B:=w.heap.size) (B1:=wr.heap.size) (ks:=ns) (v:=.slice A' ns.length cp) (y:=.slice (A_ w2.heap.size 0) 1 1) ZT (by simp[Act.eval,G9.out]) x (.slice A2 x.Qx.length c2) WH (Src.uT kW rfl) (ao.QH bJ) HF.size (λ_ h=>h.elim) HOW wL (by rw[G9.out];have:=HJ.out;omega) (by have:=HF.size;have:=bW.size;have:=bJ.size;omega) ?_);intro A8 c8 w8 jI bR;refine jw.mk ?_)
   rw[<-nK.out,G9.out]at jI
   (try rw[G9.out])
   have wI:=I jI;have mZ:=I (show ag w w8 from((HF.trans bW).trans bJ).trans' bR λk hk=>.inr hk.1);clear jI bR;refine jw.go ?_;go_wp2
   go_roundw
   case rel=>exact⟨_,j+1,A8,c8,rfl,rfl,by go_num,by have:=HJ.out;omega,wI,mZ⟩
   case measure=>simp[intOf];have:=HJ.out;omega
  .have d1:decide ((j:Int)<(ks.length:Int))=false:=dF Zo
   have jo:decide (j<ks.length)=false:=dF c1;obtain rfl:j=ks.length:=Zo
   go_wp2
   go_ret;exact⟨A',cp,rfl,by have h:=HG.tree PD;rwa [List.take_length]at h,HF⟩
end
section
open Go.RowKit
open Tr (Nd)
open D7 (alh)
def ann(n:Nd)(w:W_)(e:Ending)(w':W_):Prop:=∃k:Int,e=.returned (.tuple #[V k,.bool (alh n).isSome])/\(∀j,alh n=some j->k=(j:Int)/\1<=j/\j<=4)/\w'=w
theorem al2{n:Nd}{w:W_}(h:alh n=none):ann n w (.returned (.tuple #[V 0,.bool false])) w:=⟨0,by rw[h];rfl,(λj hj=>by rw[h]at hj;cases hj),rfl⟩
theorem am7(n:Nd)(g o cap:Nat)(A:Option Addr)(w:W_)(h0:w.cell? (B_ g o)=some (V n.QI))(h1:w.cell? (B_ g (o+1))=some (S_ n.QG))(h2:w.cell? (B_ g (o+2))=some (V n.ah))(h3:w.cell? (B_ g (o+3))=some (.slice A n.Qx.length cap)):
  C_ 80 #[.pointer (A_ g o)] w (ann n w):=by
 have HP:=I (show alh n=if n.QI=2/\n.ah=0/\n.Qx=[]then(match n.QG with
  |[a,b]=>if a=35/\49<=b/\b<=52 then some (b.toNat-48)else none
  |_=>none)else none from rfl)
 obtain⟨kd,tx,cl,ks⟩:=n;simp only[Nd.QI,Nd.QG,Nd.ah,Nd.Qx]at*
 by_cases c1:kd=2
 case neg=>
  have d1:(kd !=(2:Int))=true:=r_
  have HN:=I (show alh (.mk kd tx cl ks)=none from HP.trans (if_neg (λh=>c1 h.1)));clear HP c1;go_enter func80,ntmps80;go_wp2
  exact M_
 subst c1
 by_cases c2:cl=0
 case neg=>
  have d2:(cl !=(0:Int))=true:=by simpa using c2
  have HN:=I (show alh (.mk 2 tx cl ks)=none from HP.trans (if_neg (λh=>c2 h.2.1)));clear HP c2;go_enter func80,ntmps80;go_wp2
  exact M_
 subst c2;cases ks with
 |cons x xs=>
  have d3:decide ((0:Int)<((x::xs).length:Int))=true:=decide_eq_true (by simp only[au0];omega);have d3n:decide (0<(x::xs).length)=true:=decide_eq_true (by simp only[au0];omega);have HN:=I (show alh (.mk 2 tx 0 (x::xs))=none from HP.trans (if_neg (λh=>by cases h.2.2)));clear HP;generalize (x::xs).length=m at*;have d3':(0:Int)<(m:Int):=of_decide_eq_true d3;go_enter func80,ntmps80;go_wp2
  exact M_
 |nil=>
 rw[show([]:List Nd).length=0 from rfl]at h3
 have Xm:(tx.length≠2/\alh (.mk 2 tx 0 [])=none)\/∃a b,tx=[a,b]:=by
  cases tx with
  |nil=>exact .inl ⟨by simp,rfl⟩
  |cons a t=>cases t with
   |nil=>exact .inl ⟨by simp,rfl⟩
   |cons b t=>cases t with
    |nil=>exact .inr ⟨a,b,rfl⟩
    |cons c t=>exact .inl ⟨by simp only[au0];omega,rfl⟩
 rcases Xm with⟨hl,hn⟩|⟨a,b,rfl⟩
 focus
  have d4:((tx.length:Int) !=(2:Int))=true:=auj
  have HN:=I hn;clear HP hn;go_enter func80,ntmps80;go_wp2
  exact M_
 focus
  have hpl:alh (.mk 2 [a,b] 0 [])=if a=35/\49<=b/\b<=52 then some (b.toNat-48)else none:=HP.trans (if_pos ⟨rfl,rfl,rfl⟩)
  have al:=I hpl;clear HP hpl;have hx0:(⟨#[a,b]⟩:Y_)[0]'(by show 0<2;omega)=a:=rfl
  by_cases c5:a=35
  case neg=>
   have d5:((a.toNat:Int) !=(35:Int))=true:=si a 35 c5;have HN:=I (show alh (.mk 2 [a,b] 0 [])=none from al.trans (if_neg (λh=>c5 h.1)));clear al c5;go_enter func80,ntmps80;go_wp2
   exact M_
  subst c5;have hx1:(⟨#[35,b]⟩:Y_)[1]'(by show 1<2;omega)=b:=rfl;have hb2:=b.toNat_lt;have hw0:IntKind.i64.wrap (b.toNat:Int)=(b.toNat:Int):=IntWalk.i64_in _ Zo;obtain⟨k,hk⟩:∃k:Int,k=(b.toNat:Int)-48:=⟨_,rfl⟩;have hw:IntKind.i64.wrap ((b.toNat:Int)-48)=k:=by rw[hk];exact IntWalk.i64_in _ Zo
  have HK:=I hk
  have Xm:(decide ((1:Int)<=k)=false/\alh (.mk 2 [35,b] 0 [])=none)\/(decide ((1:Int)<=k)=true/\decide (k<=(4:Int))=false/\alh (.mk 2 [35,b] 0 [])=none)\/(decide ((1:Int)<=k)=true/\decide (k<=(4:Int))=true/\alh (.mk 2 [35,b] 0 [])=some (b.toNat-48)):=by
   have hb1:(49<=b)↔49<=b.toNat:=aqG
   have hb3:(b<=52)↔b.toNat<=52:=aqG
   by_cases k1:1<=k
   .by_cases k2:k<=4
    .exact .inr (.inr ⟨decide_eq_true k1,decide_eq_true k2,al.trans (if_pos ⟨rfl,hb1.2 Zo,hb3.2 Zo⟩)⟩)
    .exact .inr (.inl ⟨decide_eq_true k1,decide_eq_false k2,al.trans (if_neg (λh=>by have:=hb3.1 h.2.2;omega))⟩)
   .exact .inl ⟨decide_eq_false k1,al.trans (if_neg (λh=>by have:=hb1.1 h.2.1;omega))⟩
  clear hk al hb2
  rcases Xm with⟨d6,hn⟩|⟨d6,d7,hn⟩|⟨d6,d7,hn⟩
  all_goals
   have HN:=I hn;clear hn;go_enter func80,ntmps80;go_wp2
   refine bodyPost_ret (results_tmp2 rfl _ _ _) rfl ?_;unfold ann;rw[HN.out];refine⟨k,rfl,λj hj=>?_,rfl⟩
   first
    |(cases hj;done)
    |(have hj:=Option.some.inj hj;have h1:=of_decide_eq_true d6;have h2:=of_decide_eq_true d7;have h3:=HK.out;omega)
end
namespace D7
open Tr (Nd)
open Np (CG)
def alS(args:List Nd)(x:Nd):List Nd:=match alh x with
 |some j=>(args.getD (j-1) (.mk 0 [] 0 [])).Qx
 |none=>[anf args x]
theorem am8(args:List Nd):∀(a b:List Nd),alf args (a++b)=alf args a++alf args b
 |[],b=>by rw[alf];rfl
 |x::a,b=>by rw[au',alf,alf,am8 args a b,List.append_assoc]
theorem anS(args ks:List Nd)(j:Nat)(hj:j<ks.length):alf args (ks.take (j+1))=alf args (ks.take j)++alS args ks[j]:=by
 rw[awx hj,am8]
 congr 1
 rw[alf,alf,List.append_nil];rfl
theorem amU(args:List Nd):∀(a b:List Nd),alp args (a++b)=alp args a++alp args b
 |[],b=>by rw[alp];rfl
 |.mk _ _ _ ks::a,b=>by rw[au',alp,alp,amU args a b];rfl
theorem anA(args ks:List Nd)(j:Nat)(hj:j<ks.length):alp args (ks.take (j+1))=alp args (ks.take j)++[CG (alf args ks[j].Qx)]:=by
 rw[awx hj,amU]
 congr 1
 cases ks[j]with
 |mk a b c d=>rw[alp,alp];rfl
theorem amV(args:List Nd):∀(ks:List Nd),(alp args ks).length=ks.length
 |[]=>by rw[alp]
 |.mk _ _ _ _::ks=>by rw[alp,au0,au0,amV args ks]
def Small(args:List Nd):Prop:=∀a∈args,Tr.count a<=1000
theorem aof{args:List Nd}(h:Small args)(x:Nd):(alS args x).length<=1000:=by
 unfold alS;split
 .rename_i j _
  rw[List.getD_eq_getElem?_getD];cases ha:args[j-1]? with
  |none=>simp[Nd.Qx]
  |some a=>
   have h1:=h a (List.mem_of_getElem? ha);have h2:=Tr.jF a.Qx;rw[Tr.aN]at h1;simp only[Option.getD_some];omega
 .simp
theorem amu{args:List Nd}(h:Small args):∀(ks:List Nd),(alf args ks).length<=1000*ks.length
 |[]=>by rw[alf];simp
 |x::ks=>by
  have h1:=amu h ks;have h2:(alf args (x::ks))=alS args x++alf args ks:=by rw[alf];rfl
  have h3:=aof h x;rw[h2,List.length_append,au0];omega
mutual
def inR(n:Nat):Nd->Prop
 |.mk k t c ks=>(∀j,alh (.mk k t c ks)=some j->j<=n)/\al3 n ks
def al3(n:Nat):List Nd->Prop
 |[]=>True
 |x::xs=>inR n x/\al3 n xs
end
theorem ami{n:Nat}:∀{ks:List Nd},al3 n ks->∀x∈ks,inR n x
 |[],_,x,hx=>by cases hx
 |y::ys,h,x,hx=>by
  rw[al3]at h
  rcases List.mem_cons.1 hx with rfl|hx
  .exact h.1
  .exact ami h.2 x hx
theorem amj{n:Nat}{x:Nd}(h:inR n x):al3 n x.Qx:=by
 cases x with
 |mk a b c d=>rw[inR]at h;exact h.2
theorem aog{n:Nat}{x:Nd}(h:inR n x){j:Nat}(hj:alh x=some j):j<=n:=by
 cases x with
 |mk a b c d=>rw[inR]at h;exact h.1 j hj
mutual
theorem am9(P:Nat):∀(n:Nd) (d m:Nat) (z:Bool),(ali P d n (m,z)).2.2=true->inR P n
 |.mk k t c ks,d,m,z,h=>by
  rw[ali]at h;rw[inR]
  by_cases c1:1000<m+1\/24<d
  .rw[if_pos c1]at h;cases h
  .rw[if_neg c1]at h
   simp only at h;cases hp:alh (.mk k t c ks)with
   |none=>
    rw[hp]at h;exact⟨λj hj=>(by cases hj),amv P ks (d+1) (m+1) _ h Zo⟩
   |some j=>
    rw[hp]at h;simp only at h;have h1:=(al0 P ks (d+1) (m+1) _ h Zo).1;rw[Bool.and_eq_true,decide_eq_true_eq]at h1;refine⟨λi hi=>?_,amv P ks (d+1) (m+1) _ h Zo⟩;cases hi;omega
theorem amv(P:Nat):∀(ks:List Nd) (d m:Nat) (z:Bool),(ale P d ks (m,z)).2.2=true->m<=1000->al3 P ks
 |[],_,_,_,_,_=>by rw[al3];trivial
 |x::xs,d,m,z,h,hm=>by
  rw[ale]at h;rw[al3]
  by_cases c1:z=false
  .rw[if_pos c1]at h;rw[c1]at h;cases h
  .rw[if_neg c1]at h
   simp only at h;cases hr:(ali P d x (m,z)).2 with
   |mk m1 z1=>
    rw[hr]at h
    have hz1:z1=true:=by
     cases z1 with
     |true=>rfl
     |false=>
      have:ale P d xs (m1,false)=([],(m1,false)):=by
       cases xs with
       |nil=>rw[ale]
       |cons y ys=>rw[ale,if_pos rfl]
      rw[this]at h;cases h
    have h1:=alZ P x d m z (by rw[hr];exact hz1);rw[hr]at h1;exact⟨am9 P x d m z (by rw[hr];exact hz1),amv P xs d m1 z1 h h1.2.2⟩
end
theorem aoB{n:Nd}{P:Nat}(h:ald n P=true):al3 P n.Qx:=by
 unfold ald at h;split at h
 .cases h
 .rw[Bool.and_eq_true]at h
  exact amj (am9 P n 1 0 true h.1)
end D7
end Go.Proofs.YtabjglnjjdcfmaaGreatDoor
