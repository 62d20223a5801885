/- Part 42 of 46 of a proof. No condition. -/
import Derived.Test.YtcgbccfpcgaikaaGreatDoorYm41
set_option maxRecDepth 100000
set_option maxHeartbeats 3000000
namespace Go.Proofs.YtcgbccfpcgaikaaGreatDoor
section
open Go.RowKit
open Tr (Nd)
open Lx (aB)
open Np (R cZ kE eB eP dA bV fD di pArg)
attribute [local go_sem] gD stillUpon
theorem adx(en:Nat)(l:List aB):∃(kd:Nat) (r1 r3:Value) (fr:Nat),yK en l=.agg #[.int .i64 (kd:Int),r1,.int .i64 (fr:Int),r3]∧fr=Np.place en l∧(kd==8)=Np.j5 l:=by
 cases l with
 |nil=>exact⟨0,_,_,en,rfl,rfl,rfl⟩
 |cons t r=>exact⟨t.kind,_,_,t.from_,rfl,rfl,rfl⟩
theorem SK(c:Cf)(hc:c.Good)(F:Nat)(hF:F≤1000000)(hrow:∀f',f'<F→Nq c f'):Nu c F:=by
 intro k op w h hop hk hne;obtain⟨i,hi,hz0,hz1,hz2⟩:=info_parts IG;have htl:=hc.tl;have hk4:k≤100000:=by omega
 have HRO:=hid hrow;have HT:=hid (fun(k':Nat) (op':List Nat) (w':World) (hp:Ps c k' op' w')=>qO c hc k' op' w' hp);have HA:=hid (fun(b:UInt8) (k':Nat) (op':List Nat) (w':World) (hp:Ps c k' op' w')=>vE c hc k' op' b w' hp);have oI:=hid (fun(k':Nat) (w':World) (hp:Ps c k' op w') (hk':k'<c.T.length)=>JU c hc k' op w' hp hk' (by omega));have HFI:=hid (fun(k' x:Nat) (w':World) (hp:Ps c k' (op++[x]) w') (hk':k'<c.T.length∨Np.dx 125 (c.T.drop k')=false)=>IA c hc k' op x 125 w' hp hk');have H:=hid h;have oJ:=hid hop;have Et:=hid hF;have HW0:=hid h.low.size;have HK:=hid hk;have hgl:c.g<w.heap.size:=h.Ap;have aY:=hid hne;obtain⟨ov,hb,_⟩:=h.box;have q1:=hb.cell 1;have z1:=hb.frozen 1;clear hb h hne hc hop hrow hF;refine Calls.via fun Q hQ=>?_
 have HQ:=hid hQ;clear hQ;unfold Nt at aY HQ;unfold lV;have e1:((k:Int)+1)=((k+1:Nat):Int):=by simp
 have HE:=hid e1;clear e1;go_enter Tryz.func68,Tryz.ntmps68;go_wp2_with fail
 have hn:=H.out.next hk ((k:Int)+1) HE.out;have hs:(w.setCell ⟨c.g,1,none⟩ (.int .i64 ((k:Int)+1))).heap.size=w.heap.size:=by simp
 generalize (w.setCell ⟨c.g,1,none⟩ (.int .i64 ((k:Int)+1)))=W1 at hn hs⊢;have hbf:af (W1.alloc (.cells #[.int .i64 0,.int .i64 0] 49)) W1.heap.size 49 #[.int .i64 0,.int .i64 0]:=af.new _ _ _;have hp2:=hn.1.fresh ((M _ _).alloc (.cells #[.int .i64 0,.int .i64 0] 49));have hm2:=hn.2.trans (Mp.fresh ((M _ W1).alloc (.cells #[.int .i64 0,.int .i64 0] 49)));have hs2:(W1.alloc (.cells #[.int .i64 0,.int .i64 0] 49)).heap.size=w.heap.size+1:=by simp[hs]
 rw[hs]at hbf;generalize (W1.alloc (.cells #[.int .i64 0,.int .i64 0] 49))=W2 at hbf hp2 hm2 hs2⊢
 (try rw[hs])
 have jb:=hid hp2;have iI:=hid hm2;have HS2:=hid hs2;have jg:=hid hbf;clear hn hs hbf hp2 hm2 q1 z1 hs2;refine(HA.out 123 (k+1) op W2 jb.out).mono ?_;rintro _ w3 ⟨rfl,hf⟩;have oL:=hid (jb.out.fresh hf);have ajx:=hid (iI.out.fr hf);have ahs:=hid (hf.blk jg.out fun h=>h);have pI:=hid (show w.heap.size+1≤w3.heap.size from by have:=hf.size;have:=HS2.out;omega);clear hf;cases hm:Np.dx 123 (c.T.drop (k+1))with
 |false=>
  rw[if_neg (by simp[hm])]at aY;exact absurd rfl aY.out
 |true=>
  rw[if_pos hm,List.tail_drop]at HQ aY;have hk1:=Er hm;have Dk:=hid hk1;clear hm hk1;generalize hpl:Np.place c.en (c.T.drop (k+1))=pl at HQ aY;go_wp2_with fail
  refine(oI.out (k+1) w3 oL.out Dk.out).mono ?_;rw[hpl];clear hpl;rintro _ w4 ⟨rfl,Eo,iU⟩;have Az:=hid (iU.blk ahs.out (by omega) (by decide));have Es:=hid (ajx.out.trans iU);have gP:=hid (show w.heap.size+1≤w4.heap.size from by have:=pI.out;have:=iU.size;omega);have AP:=hid Eo;clear Eo iU;generalize hX:di c.en F (op++[pl]) [] 0 0 (c.T.drop (k+1+1))=X at aY HQ;have HX:=hid hX;clear hX;go_wp2_with fail
  have hf1:ag w4 (w4.alloc (.cells #[.int .i64 12,.string ⟨#[]⟩,.int .i64 0,.slice none 0 0] 24)):=(M _ _).alloc _;have uN:af (w4.alloc (.cells #[.int .i64 12,.string ⟨#[]⟩,.int .i64 0,.slice none 0 0] 24)) w4.heap.size 24 #[.int .i64 12,.string ⟨#[]⟩,.int .i64 0,.slice none 0 0]:=af.new _ _ _;have Cw:(w4.alloc (.cells #[.int .i64 12,.string ⟨#[]⟩,.int .i64 0,.slice none 0 0] 24)).heap.size=w4.heap.size+1:=by simp
  generalize (w4.alloc (.cells #[.int .i64 12,.string ⟨#[]⟩,.int .i64 0,.slice none 0 0] 24))=W5 at hf1 uN Cw⊢;have eY:=hid hf1;have ajy:=hid uN;have qh:=hid Cw;clear hf1 uN Cw
  go_loopw [5] (fun j wr=>∃(k1 b cl:Nat) (ks:List Nd) (A:Option Addr) (cp:Nat),j=.int .i64 (b:Int)∧Hd (af wr w4.heap.size 24 #[.int .i64 12,.string ⟨#[]⟩,.int .i64 (cl:Int),.slice A ks.length cp])∧Hd (af wr w.heap.size 49 #[.int .i64 0,.int .i64 0])∧Hd (Grow (fun k=>k=w4.heap.size) wr w.heap.size W5.heap.size ks (.slice A ks.length cp))∧Hd (Ps c k1 (op++[pl]) wr)∧k+2≤k1∧Hd (Mp c.g c.W0.heap.size w wr)∧W5.heap.size≤wr.heap.size∧ks.length≤F∧b≤ks.length∧Hd (X=di c.en (F-ks.length) (op++[pl]) ks b cl (c.T.drop k1))) (fun _ wr=>F-Jp ((wr.cell? ⟨w4.heap.size,3,none⟩).getD undef))
  case atStart=>
   refine⟨k+1+1,0,0,[],none,0,rfl,ajy,eY.out.blk Az.out fun h=>h,Grow.nil _ _ _ _,AP.out.fresh eY.out,by omega,Es.out.fr eY.out,Nat.le_refl _,Nat.zero_le _,Nat.zero_le _,?_⟩;unfold Hd;rw[←HX.out,List.length_nil,Nat.sub_zero]
  case round=>
   obtain⟨k1,b,cl,ks,A,cp,rfl,HBM,ow,HG,HP,hkk,HM,hsz,hle,agK,rO⟩:=hrel
   obtain⟨f',hf'⟩:∃f',F-ks.length=f'+1:=by
    rcases Nat.eq_zero_or_pos (F-ks.length)with h0|h0
    ·exfalso
     have h1:=rO.out;rw[h0,di]at h1;exact aY.out (by rw[h1];rfl)
    ·exact⟨F-ks.length-1,by omega⟩
   have kX:=hid (show X=di c.en (f'+1) (op++[pl]) ks b cl (c.T.drop k1)from by rw[rO.out,hf']);rw[di]at kX;have CE:=hid hf';have AJ:=hid hle;have SL:=hid agK;have HKK:=hid hkk;have xI:=hid hsz;have HNX:=hid (R.oC aY.out);clear rO hf' hle hkk hsz agK;go_wp2_with fail
   refine(HRO.out f' (by have:=CE.out;omega) k1 (op++[pl]) wr HP.out (by have:=oJ.out;have:=HKK.out;simp;omega) (fun h=>HNX.out (by rw[kX.out,h];rfl))).mono ?_;intro e w6 hres;have hparts:=hres.parts (fun h=>HNX.out (by rw[kX.out,h];rfl));clear hres;generalize cZ c.en f' (op++[pl]) (c.T.drop k1)=Y at kX hparts;obtain⟨A1,n1,uo,i1,er1,rfl,hm,hend⟩:=hparts;have JX:=hid hm;have Dp:=hid (HM.out.trans hm);have oG:=hid (hm.blk ow.out (by omega) (by decide));have agL:=hid (hm.blk HBM.out (by have:=gP.out;omega) (by decide));clear hm;obtain⟨items,rest,k',rfl,rfl,rfl,rfl,htr,rfl,IJ,hp⟩:=hend;have jK:=hid htr;have uP:=hid IJ;have pg:=hid hp;have wK:=hid (show Grow (fun k=>k=w4.heap.size) w6 w.heap.size W5.heap.size ks (.slice A ks.length cp)from HG.out.mv JX.out (by have:=qh.out;have:=gP.out;omega) (fun k hk=>by have:=qh.out;omega) (fun b hb=>.inr (.inr (PT.Sd HP.out hb))))
   have HOB:=hid (show∀b,(Value.slice A ks.length cp).ownBlock=some b→b<wr.heap.size from fun b hb=>by
    obtain⟨cs,h1,_⟩:=HG.out;obtain⟨_,cur,h4⟩:=fe h1 hb;exact(Array.getElem?_eq_some_iff.1 h4).1)
   clear htr IJ hp;unfold aG;go_wp2_with fail
   have gX:ag w6 (w6.alloc (.cells #[.int .i64 0,.int .i64 0] 49)):=(M _ _).alloc _;generalize (w6.alloc (.cells #[.int .i64 0,.int .i64 0] 49))=W7 at gX⊢;have gW:=hid gX;have agM:=hid (gX.blk agL.out fun h=>h);clear gX;have r3:=cR (agM.out.cell 3|>.trans rfl);have hl7:=agM.out.lt;refine cu [([(0,true),(1,true),(2,true),(3,false),(4,false)],5),([(6,true)],7)] [] (by kernel_rfl) (fun _ _ d _ _ h=>by cases d<;>exact h) (by kernel_rfl) ?_;refine dJ ?_
   repeat(refine ak rfl (fun K hK=>?_);go_simp;refine hK _ ?_;clear hK K)
   refine aS rfl (fun K hK=>?_);go_wp2_with fail
   refine(j6 A1 items.length uo _).mono ?_;rintro _ w8 ⟨rfl,hf⟩;have mZ:=hid (show ag W7 w8 from Touch.BD hf);clear hf;go_wp2
   refine hK _ _ (aA mZ.out) ?_;clear hK K;refine aS rfl (fun K hK=>?_);go_wp2
   refine hK _ _ (aA (mZ.out.alloc _)) ?_;clear hK K r3 hl7;have iT:=gW.out.trans (mZ.out.alloc (.cells #[.int .i64 1,.string ⟨#[]⟩,.int .i64 0,.slice A1 items.length uo] 24));have kD:=af.new w8 24 #[.int .i64 1,.string ⟨#[]⟩,.int .i64 0,.slice A1 items.length uo];generalize (w8.alloc (.cells #[.int .i64 1,.string ⟨#[]⟩,.int .i64 0,.slice A1 items.length uo] 24))=W9 at iT kD⊢;have xJ:=hid iT;have yz:=hid kD;clear iT kD;have ajz:=hid (jK.out.fresh xJ.out);refine dm rfl (fun K hK=>?_)
   go_wp2_with (at_builtin;refine vF rfl (.tmp 34) (.tmp 37) rfl i _ hi hz0 hz1 hz2 rfl (B0:=w.heap.size) (B:=W5.heap.size) (B1:=wr.heap.size) (ks:=ks) (v:=.slice A ks.length cp) (y:=.slice (some ⟨w8.heap.size,0,none⟩) 1 1) (wK.out.fresh xJ.out) (by simp[Act.eval]) (Np.slot items) (.slice A1 items.length uo) (by simp[Act.eval]) (show Src W9 4 _ 1 [.int .i64 (Np.slot items).kind,.string ⟨(Np.slot items).text.toArray⟩,.int .i64 (Np.slot items).ah,.slice A1 items.length uo]from Src.uT yz.out rfl) ajz.out (by have:=xI.out;have:=qh.out;have:=gP.out;omega) (fun k hk=>by have:=xI.out;have:=qh.out;omega) HOB.out (Nat.zero_le _) (by have:=Et.out;have:=AJ.out;omega) (by have h1:=xI.out;have h2:=JX.out.size;have h3:=xJ.out.size;omega) ?_;intro A8 fq W10 agN Nz;refine jw.mk ?_)
   have ad8:=Nz.KM (xJ.out.blk agL.out fun h=>h) (by have:=qh.out;omega);have ad9:=Nz.KM (xJ.out.blk oG.out fun h=>h) (by have:=qh.out;have:=gP.out;omega);have agO:=Nz.ps (pg.out.fresh xJ.out) (by have:=qh.out;have:=gP.out;have:=HW0.out;omega) (by have:=qh.out;have:=gP.out;omega);have agP:=Nz.mp (Dp.out.fr xJ.out) (by have:=qh.out;have:=gP.out;omega);have agQ:W5.heap.size≤W10.heap.size:=by have h0:=Nz.size;have h1:=xI.out;have h2:=JX.out.size;have h3:=xJ.out.size;omega
   have Yt:=hid ad8;have aht:=hid ad9;have ajA:=hid agO;have ajB:=hid agP;have acu:=hid agN;have Kw:=hid agQ;clear ad8 ad9 agO agP agN agQ Nz;refine jw.go ?_;go_wp2_with fail
   refine dJ ?_
   repeat(refine ak rfl (fun K hK=>?_);go_simp;refine hK _ ?_;clear hK K)
   obtain⟨p0,p1,p2,p3,y0,y1,y2,y3,lW⟩:=af.four Yt.out;refine dm rfl (fun K hK=>?_);go_wp2_with fail
   refine fH ?_;have Yu:af _ w4.heap.size 24 #[.int .i64 12,.string ⟨#[]⟩,.int .i64 (cl:Int),.slice A8 (ks.length+1) fq]:=Yt.out.put 3 (.slice A8 (ks.length+1) fq);have Yv:=aht.out.far (p:=⟨w4.heap.size,3,none⟩) (by have:=gP.out;simp;omega) (.slice A8 (ks.length+1) fq);have ady:=(M (fun b=>b=w4.heap.size) W10).setCell (p:=⟨w4.heap.size,3,none⟩) (.inl rfl) (.slice A8 (ks.length+1) fq);have adz:=acu.out.mv ady (by have:=qh.out;have:=gP.out;omega) (fun k hk=>by have:=qh.out;omega) (fun k hk=>.inl hk);have adA:=ajA.out.mv ady (fun b hb=>by have:=HW0.out;have:=gP.out;subst hb;exact⟨by omega,by omega,_,_,(by decide),Yt.out⟩);have adB:Mp c.g c.W0.heap.size w (W10.setCell ⟨w4.heap.size,3,none⟩ (.slice A8 (ks.length+1) fq)):=ajB.out.setCell (p:=⟨w4.heap.size,3,none⟩) (.inr (by show w.heap.size≤w4.heap.size;have:=gP.out;omega)) (.slice A8 (ks.length+1) fq);have adC:W5.heap.size≤(W10.setCell ⟨w4.heap.size,3,none⟩ (.slice A8 (ks.length+1) fq)).heap.size:=by have:=Kw.out;simpa using this
   generalize (W10.setCell ⟨w4.heap.size,3,none⟩ (.slice A8 (ks.length+1) fq))=W11 at Yu Yv adz adA adB adC⊢;have ahu:=hid Yu;have ahv:=hid Yv;have acv:=hid adz;have agR:=hid adA;have ajC:=hid adB;have ajD:=hid adC;clear Yu Yv adz adA adB adC ady p0 p1 p2 p3 y0 y1 y2 y3 lW;rw[R.bind_ok]at kX;have lg:=hid (show(ks++[Np.slot items]).length=ks.length+1 from by simp);have HC0:=hid (HBM.out.cell 3);go_wp2_with fail
   refine(HA.out 38 k' (op++[pl]) W11 agR.out).mono ?_;rintro _ w12 ⟨rfl,hf⟩;have agS:=hid (Nat.le_trans ajD.out hf.size);have aea:=hid (hf.blk ahu.out fun h=>h);have aeb:=hid (hf.blk ahv.out fun h=>h);have agT:=hid (acv.out.fresh hf);have SN:=hid (agR.out.fresh hf);have agU:=hid (ajC.out.fr hf);clear hf;cases OX:Np.dx 38 (c.T.drop k')with
   |true=>
    rw[if_pos OX,List.tail_drop]at kX;have Gb:=hid (Er OX);have HMX:=agU;clear OX;obtain⟨ov,hb,_⟩:=SN.out.box;have q1:=hb.cell 1;have z1:=hb.frozen 1;have hg1:=hb.lt;have hkb:k'≤100000:=by have:=Gb.out;omega
    clear hb;go_wp2_with fail
    have hn:=SN.out.next Gb.out ((k':Int)+1) (by simp);have uN:=aea.out.far (p:=⟨c.g,1,none⟩) (by have:=gP.out;simp;omega) (.int .i64 ((k':Int)+1));have hbr:=aeb.out.far (p:=⟨c.g,1,none⟩) (by simp;omega) (.int .i64 ((k':Int)+1));have hg:=agT.out.mv hn.2 (by have:=qh.out;have:=gP.out;omega) (fun k hk=>by have:=qh.out;omega) (fun b hb=>.inr (.inr (PT.Sd SN.out hb)));have hsz:W5.heap.size≤(w12.setCell ⟨c.g,1,none⟩ (.int .i64 ((k':Int)+1))).heap.size:=by have:=agS.out;simpa using this
    generalize (w12.setCell ⟨c.g,1,none⟩ (.int .i64 ((k':Int)+1)))=W13 at hn uN hbr hg hsz⊢;refine⟨⟨k'+1,b,cl,ks++[Np.slot items],A8,fq,rfl,by rw[lg.out];exact uN,hbr,by rw[lg.out];exact hg,hn.1,by have:=HKK.out;have:=uP.out;omega,HMX.out.trans hn.2,hsz,by rw[lg.out];have:=CE.out;omega,by rw[lg.out];have:=SL.out;omega,?_⟩,?_⟩
    ·unfold Hd
     rw[lg.out,show F-(ks.length+1)=f' from by have:=CE.out;omega];exact kX.out
    ·have h1:=uN.cell 3
     have h0:=HC0.out;rw[h1,h0];simp[Jp]
     have:=CE.out;omega
   |false=>
    rw[if_neg (by simp[OX])]at kX;clear OX;obtain⟨kd,r1,r3,fr,agV,hfr,IY⟩:=adx c.en (c.T.drop k');have ajE:=hid agV;have HFR:=hid hfr;have hfd:=Ye;have ala:=FB;clear agV hfr;rw[←IY]at kX;go_wp2_with fail
    refine(HT.out k' (op++[pl]) w12 SN.out).mono ?_;rw[ajE.out];rintro _ SQ ⟨rfl,hf⟩;have adD:=hid (Nat.le_trans agS.out hf.size);have Jq:=hid (hf.blk aea.out fun h=>h);have Yw:=hid (hf.blk aeb.out fun h=>h);have adE:=hid (agT.out.fresh hf);have KV:=hid (SN.out.fresh hf);have adF:=hid (agU.out.fr hf);clear hf
    by_cases h8:kd=8
    ·have e8:((kd:Int)==8)=true:=by rw[h8];rfl
     have Gb:=hid (show k'<c.T.length from Br (fun e=>by rw[e]at IY;rw[h8]at IY;cases IY));rw[show(kd==8)=true by rw[h8];rfl]at kX IY;rw[if_neg (by simp)]at kX;clear h8 IY
     by_cases hb0:b=0
     ·subst hb0
      rw[if_neg (by simp[Np.xh]),if_neg (by simp),List.tail_drop]at kX;simp only[Np.xh,if_true]at kX;have hnb:ks.length≤1000000:=by have:=Et.out;have:=AJ.out;omega
      have hgm:c.g<w4.heap.size:=by have:=gP.out;omega
      obtain⟨p0,p1,p2,p3,y0,y1,y2,y3,lW⟩:=af.four Jq.out;obtain⟨ov,hb,_⟩:=KV.out.box;have q1:=hb.cell 1;have z1:=hb.frozen 1;have hg1:=hb.lt;have hkb:k'≤100000:=by have:=Gb.out;omega
      clear hb;go_wp2_with fail
      clear q1 z1 hg1 hkb hnb hgm e8;clear p0 p1 p2 p3 y0 y1 y2 y3 lW;have uN:af _ w4.heap.size 24 #[.int .i64 12,.string ⟨#[]⟩,.int .i64 ((ks.length:Int)+1),.slice A8 (ks.length+1) fq]:=Jq.out.put 2 (.int .i64 ((ks.length:Int)+1));have hbr:=Yw.out.far (p:=⟨w4.heap.size,2,none⟩) (by have:=gP.out;simp;omega) (.int .i64 ((ks.length:Int)+1));have ht:=(M (fun b=>b=w4.heap.size) SQ).setCell (p:=⟨w4.heap.size,2,none⟩) (.inl rfl) (.int .i64 ((ks.length:Int)+1));have hg:=adE.out.mv ht (by have:=qh.out;have:=gP.out;omega) (fun k hk=>by have:=qh.out;omega) (fun k hk=>.inl hk);have hp:=KV.out.mv ht (fun b hb=>by have:=HW0.out;have:=gP.out;subst hb;exact⟨by omega,by omega,_,_,(by decide),Jq.out⟩);have hm:Mp c.g c.W0.heap.size w (SQ.setCell ⟨w4.heap.size,2,none⟩ (.int .i64 ((ks.length:Int)+1))):=adF.out.setCell (p:=⟨w4.heap.size,2,none⟩) (.inr (by show w.heap.size≤w4.heap.size;have:=gP.out;omega)) (.int .i64 ((ks.length:Int)+1));have hs:W5.heap.size≤(SQ.setCell ⟨w4.heap.size,2,none⟩ (.int .i64 ((ks.length:Int)+1))).heap.size:=by have:=adD.out;simpa using this
      generalize (SQ.setCell ⟨w4.heap.size,2,none⟩ (.int .i64 ((ks.length:Int)+1)))=W14 at uN hbr hg hp hm hs⊢;have zL:=hid uN;have ME:=hid hbr;have Yx:=hid hg;have KW:=hid hp;have NA:=hid hm;have adG:=hid hs;clear uN hbr hg hp hm hs ht;have hn:=KW.out.next Gb.out ((k':Int)+1) (by simp);have uN:=zL.out.far (p:=⟨c.g,1,none⟩) (by have:=gP.out;simp;omega) (.int .i64 ((k':Int)+1));have hbr:=ME.out.far (p:=⟨c.g,1,none⟩) (by simp;omega) (.int .i64 ((k':Int)+1));have hg:=Yx.out.mv hn.2 (by have:=qh.out;have:=gP.out;omega) (fun k hk=>by have:=qh.out;omega) (fun b hb=>.inr (.inr (PT.Sd KW.out hb)));have hsz:W5.heap.size≤(W14.setCell ⟨c.g,1,none⟩ (.int .i64 ((k':Int)+1))).heap.size:=by have:=adG.out;simpa using this
      generalize (W14.setCell ⟨c.g,1,none⟩ (.int .i64 ((k':Int)+1)))=Dr at hn uN hbr hg hsz⊢;have HMX:=NA;refine⟨⟨k'+1,(ks.length+1),(ks.length+1),ks++[Np.slot items],A8,fq,by simp,by rw[lg.out];exact uN,hbr,by rw[lg.out];exact hg,hn.1,by have:=HKK.out;have:=uP.out;omega,HMX.out.trans hn.2,hsz,by rw[lg.out];have:=CE.out;omega,by rw[lg.out];have:=SL.out;omega,?_⟩,?_⟩
      ·unfold Hd
       rw[lg.out,show F-(ks.length+1)=f' from by have:=CE.out;omega];exact kX.out
      ·have h1:=uN.cell 3
       have h0:=HC0.out;rw[h1,h0];simp[Jp]
       have:=CE.out;omega
     ·by_cases KX:ks.length+1-b≠cl
      ·rw[if_pos (by rw[Np.xh,if_neg hb0];exact KX)]at kX
       exact absurd kX.out HNX.out
      ·rw[if_neg (by rw[Np.xh,if_neg hb0];exact KX),if_neg (by simp),List.tail_drop]at kX
       simp only[Np.xh,if_neg hb0]at kX;have hgm:c.g<w4.heap.size:=by have:=gP.out;omega
       have hnb:ks.length≤1000000:=by have:=Et.out;have:=AJ.out;omega
       have hbn:b≤ks.length:=SL.out;have t1:(ks.length:Int)+1-(b:Int)=(cl:Int):=by omega
       have t2:((cl:Int)==(cl:Int))=true:=by simp
       have t4:((b:Int)==0)=false:=by rw[beq_eq_false_iff_ne];omega
       have t5:IntKind.i64.wrap (cl:Int)=(cl:Int):=IntWalk.i64_in _ (by omega);have t6:¬(b:Int)=0:=by omega
       clear KX;obtain⟨p0,p1,p2,p3,y0,y1,y2,y3,lW⟩:=af.four Jq.out;obtain⟨ov,hb,_⟩:=KV.out.box;have q1:=hb.cell 1;have z1:=hb.frozen 1;have hg1:=hb.lt;have hkb:k'≤100000:=by have:=Gb.out;omega
       clear hb;clear hb0;go_wp2_with fail
       clear q1 z1 hg1 hkb hgm e8;clear t1 t2 t4 t5 t6 hnb hbn;clear p0 p1 p2 p3 y0 y1 y2 y3 lW;have hn:=KV.out.next Gb.out ((k':Int)+1) (by simp);have uN:=Jq.out.far (p:=⟨c.g,1,none⟩) (by have:=gP.out;simp;omega) (.int .i64 ((k':Int)+1));have hbr:=Yw.out.far (p:=⟨c.g,1,none⟩) (by simp;omega) (.int .i64 ((k':Int)+1));have hg:=adE.out.mv hn.2 (by have:=qh.out;have:=gP.out;omega) (fun k hk=>by have:=qh.out;omega) (fun b hb=>.inr (.inr (PT.Sd KV.out hb)));have hsz:W5.heap.size≤(SQ.setCell ⟨c.g,1,none⟩ (.int .i64 ((k':Int)+1))).heap.size:=by have:=adD.out;simpa using this
       generalize (SQ.setCell ⟨c.g,1,none⟩ (.int .i64 ((k':Int)+1)))=Dr at hn uN hbr hg hsz⊢;have HMX:=adF;refine⟨⟨k'+1,(ks.length+1),cl,ks++[Np.slot items],A8,fq,by simp,by rw[lg.out];exact uN,hbr,by rw[lg.out];exact hg,hn.1,by have:=HKK.out;have:=uP.out;omega,HMX.out.trans hn.2,hsz,by rw[lg.out];have:=CE.out;omega,by rw[lg.out];have:=SL.out;omega,?_⟩,?_⟩
       ·unfold Hd
        rw[lg.out,show F-(ks.length+1)=f' from by have:=CE.out;omega];exact kX.out
       ·have h1:=uN.cell 3
        have h0:=HC0.out;rw[h1,h0];simp[Jp]
        have:=CE.out;omega
    ·have e8:((kd:Int)==8)=false:=by rw[beq_eq_false_iff_ne];omega
     have e8p:¬(kd:Int)=8:=by omega
     rw[show(kd==8)=false by simpa using h8]at kX IY;clear h8 IY;go_wp2_with fail
     refine(HA.out 125 k' (op++[pl]) SQ KV.out).mono ?_;rintro _ AR ⟨rfl,hf⟩;have adG:=hid (Nat.le_trans adD.out hf.size);have zL:=hid (hf.blk Jq.out fun h=>h);have ME:=hid (hf.blk Yw.out fun h=>h);have Yx:=hid (adE.out.fresh hf);have KW:=hid (KV.out.fresh hf);have NA:=hid (adF.out.fr hf);clear hf;cases IX:Np.dx 125 (c.T.drop k')with
     |false=>
      rw[if_pos ⟨trivial,IX⟩]at kX;exact absurd kX.out HNX.out
     |true=>
      rw[if_neg (fun h=>by rw[IX]at h;cases h.2)]at kX;have Yy:=hid IX;have Gb:=hid (Er IX);clear IX
      by_cases hb0:b=0
      ·subst hb0
       rw[if_neg (by simp[Np.xh]),if_pos trivial]at kX;simp only[Np.xh,if_true]at kX;have hnb:ks.length≤1000000:=by have:=Et.out;have:=AJ.out;omega
       obtain⟨p0,p1,p2,p3,y0,y1,y2,y3,lW⟩:=af.four zL.out;go_wp2_with fail
       clear hnb;clear p0 p1 p2 p3 y0 y1 y2 y3 lW;have uN:af _ w4.heap.size 24 #[.int .i64 12,.string ⟨#[]⟩,.int .i64 ((ks.length:Int)+1),.slice A8 (ks.length+1) fq]:=zL.out.put 2 (.int .i64 ((ks.length:Int)+1));have hbr:=ME.out.far (p:=⟨w4.heap.size,2,none⟩) (by have:=gP.out;simp;omega) (.int .i64 ((ks.length:Int)+1));have ht:=(M (fun b=>b=w4.heap.size) AR).setCell (p:=⟨w4.heap.size,2,none⟩) (.inl rfl) (.int .i64 ((ks.length:Int)+1));have hg:=Yx.out.mv ht (by have:=qh.out;have:=gP.out;omega) (fun k hk=>by have:=qh.out;omega) (fun k hk=>.inl hk);have hp:=KW.out.mv ht (fun b hb=>by have:=HW0.out;have:=gP.out;subst hb;exact⟨by omega,by omega,_,_,(by decide),zL.out⟩);have hm:Mp c.g c.W0.heap.size w (AR.setCell ⟨w4.heap.size,2,none⟩ (.int .i64 ((ks.length:Int)+1))):=NA.out.setCell (p:=⟨w4.heap.size,2,none⟩) (.inr (by show w.heap.size≤w4.heap.size;have:=gP.out;omega)) (.int .i64 ((ks.length:Int)+1));have hs:W5.heap.size≤(AR.setCell ⟨w4.heap.size,2,none⟩ (.int .i64 ((ks.length:Int)+1))).heap.size:=by have:=adG.out;simpa using this
       generalize (AR.setCell ⟨w4.heap.size,2,none⟩ (.int .i64 ((ks.length:Int)+1)))=Dr at uN hbr hg hp hm hs⊢;have PX:=hid uN;have aec:=hid hbr;have ajF:=hid hg;have adH:=hid hp;have adI:=hid hm;have alb:=hid hs;clear uN hbr hg hp hm hs ht;have htk:=ajF.out.tree (by have:=qh.out;have:=gP.out;omega);have nK:=hid htk;clear htk;rw[kX.out]at HQ;refine AA (fun X=>af X w4.heap.size 24 #[.int .i64 12,.string ⟨#[]⟩,.int .i64 ((ks.length+1):Int),.slice A8 (ks.length+1) fq]) (.plain 0 (.plain 2 (.fork 1 (.lone 3 (.plain 4 (.lone 5 .nil))) 3 (.lone 1 (.plain 4 (.lone 5 .nil)))))) [0,1,2,3,4,5] #[true,true,true,true,true,true] (by kernel_rfl) (fun _ _ d _ _ h=>by cases d<;>exact h) (by kernel_rfl) (PX.out.drewN 1) ?_;refine eX rfl (fun K hK=>?_);rw[if_pos (by rfl)];refine⟨.agg #[.int .i64 12,.string ⟨#[]⟩,.int .i64 ((ks.length+1):Int),.slice A8 (ks.length+1) fq],fun X hX=>?_,hK _ ?_⟩
       ·obtain⟨p0,p1,p2,p3,_⟩:=af.four hX
        go_simp
       clear hK K;refine eX rfl (fun K hK=>?_);rw[if_pos (by rfl)];refine⟨.pointer (some ⟨c.g,0,none⟩),fun X hX=>?_,hK _ ?_⟩
       ·go_simp
       clear hK K;refine o6 ?_ ?_
       ·have hfa:ag Dr ((Dr.drewN 1).alloc (.cells #[.int .i64 12,.string ⟨#[]⟩,.int .i64 ((ks.length+1):Int),.slice A8 (ks.length+1) fq] 24)):=((M _ _).drewN 1).alloc _
        have yG:aP w.heap.size ((Dr.drewN 1).alloc (.cells #[.int .i64 12,.string ⟨#[]⟩,.int .i64 ((ks.length+1):Int),.slice A8 (ks.length+1) fq] 24)) [(Nd.mk 12 [] ((ks.length+1):Nat) (ks++[Np.slot items]))] (.slice (some ⟨(Dr.drewN 1).heap.size,0,none⟩) 1 1):=
         aP.lit (n:=(Nd.mk 12 [] ((ks.length+1):Nat) (ks++[Np.slot items]))) (nK.out.fresh ((M _ Dr).drewN 1)) adI.out.size (Nat.zero_le _)
        refine aW rfl (fun K hK=>?_);go_wp2_with fail
        change aP w.heap.size ((Dr.drewN 1).alloc (.cells #[.int .i64 12,.string ⟨#[]⟩,.int .i64 ((ks.length+1):Int),.slice A8 (ks.length+1) fq] 24)) [(Nd.mk 12 [] ((ks.length+1):Nat) (ks++[Np.slot items]))] (.slice (some ⟨Dr.heap.size,0,none⟩) 1 1)at yG
        generalize ((Dr.drewN 1).alloc (.cells #[.int .i64 12,.string ⟨#[]⟩,.int .i64 ((ks.length+1):Int),.slice A8 (ks.length+1) fq] 24))=WA at hfa yG⊢;have gL:=hid hfa;have sJ:=hid yG;have Cj:=hid (adH.out.fresh hfa);have ql:=hid (hfa.blk aec.out fun h=>h);have HMA:=hid (adI.out.fr hfa);refine hK _ _ (hfa.blk PX.out fun h=>h) ?_;have Di:=hid (hfa.blk PX.out fun h=>h);clear hK K hfa yG;refine aW rfl (fun K hK=>?_);go_wp2_with fail
        refine(HFI.out k' pl WA Cj.out (.inl Gb.out)).mono ?_;rintro _ IZ (⟨_,rfl,hp,hm⟩|⟨hx,_⟩)
        case inr=>rw[Yy.out]at hx;cases hx
        have KY:=hid hp;have tO:=hid (hm.blk ql.out (by omega) (by decide));have KZ:=hid (HMA.out.trans hm);have K3:=hid (sJ.out.mp hm Cj.out);unfold aG;go_wp2
        refine hK _ _ (hm.blk Di.out (by have:=gP.out;omega) (by decide)) ?_;have FN:=hid (hm.blk Di.out (by have:=gP.out;omega) (by decide));clear hK K hp hm;refine eX rfl (fun K hK=>?_);rw[if_pos (by rfl)];refine⟨.slice (some ⟨Dr.heap.size,0,none⟩) 1 1,fun X hX=>?_,hK _ ?_⟩
        ·go_simp
        clear hK K
        skip
        obtain⟨p0,p1,y0,y1,hlt⟩:=af.two tO.out;refine aW rfl (fun K hK=>?_);go_wp2_with fail
        have hb5:=tO.out.fT (.int .i64 0) (.int .i64 0);have CF:=FN.out.nJ (L:=w4.heap.size) (g:=w.heap.size) (by have:=gP.out;omega) (.int .i64 0) (.int .i64 0);have hps:=KY.out.aH tO.out (by decide) (by omega) HW0.out (.int .i64 0) (.int .i64 0);have htr:=K3.out.other tO.out (by decide) (dS IZ w.heap.size (.int .i64 0) (.int .i64 0));have wO:Mp c.g c.W0.heap.size w _:=KZ.out.aH (g:=w.heap.size) (.inr (Nat.le_refl _)) (.int .i64 0) (.int .i64 0);simp only[aH]at hb5 CF hps htr wO;generalize World.setCell (World.setCell IZ ⟨w.heap.size,0,none⟩ _) ⟨w.heap.size,1,none⟩ _=W22 at hb5 CF hps htr wO⊢;refine hK _ _ CF ?_;clear hK K p0 p1 y0 y1 hlt;refine sQ ?_;go_wp2_with fail
        obtain⟨f0,f1,_⟩:=af.two hb5
        (try simp only[Exit.inBlock,Exit.then])
        refine bodyPost_ret (v:=.tuple #[.slice (some ⟨Dr.heap.size,0,none⟩) 1 1,aG 0 0]) (by simp[aG,results,Tryz.results68,go_sem,f0,f1]) rfl ?_;exact HQ.out _ _ ⟨_,1,k'+1,rfl,htr,(List.tail_drop ..).symm,by have:=HKK.out;have:=uP.out;omega,hps,wO⟩
       ·refine aW rfl (fun K hK=>?_)
        go_wp2_with fail
        refine(HFI.out k' pl _ (adH.out.fresh ((M _ _).drewN 1)) (.inl Gb.out)).mono ?_;rintro _ wb (⟨_,rfl,hp,hm⟩|⟨hx,_⟩)
        case inr=>rw[Yy.out]at hx;cases hx
        have hm':Mp c.g c.W0.heap.size Dr wb:=(Mp.fresh ((M _ Dr).drewN 1)).trans hm;have HPB:=hid hp;have gu:=hid (hm'.blk aec.out (by omega) (by decide));have HCB:=hid (hm'.blk PX.out (by have:=gP.out;omega) (by decide));have HMB:=hid (adI.out.trans hm');have yB:=hid (nK.out.mp hm' adH.out);unfold aG;go_wp2
        refine hK _ _ HCB.out ?_;clear hK K hp hm hm';have hfa:ag wb (wb.alloc (.cells #[.int .i64 12,.string ⟨#[]⟩,.int .i64 ((ks.length+1):Int),.slice A8 (ks.length+1) fq] 24)):=(M _ _).alloc _
        have yG:aP w.heap.size (wb.alloc (.cells #[.int .i64 12,.string ⟨#[]⟩,.int .i64 ((ks.length+1):Int),.slice A8 (ks.length+1) fq] 24)) [(Nd.mk 12 [] ((ks.length+1):Nat) (ks++[Np.slot items]))] (.slice (some ⟨wb.heap.size,0,none⟩) 1 1):=
         aP.lit (n:=(Nd.mk 12 [] ((ks.length+1):Nat) (ks++[Np.slot items]))) yB.out HMB.out.size (Nat.zero_le _)
        refine aW rfl (fun K hK=>?_);go_wp2_with fail
        generalize (wb.alloc (.cells #[.int .i64 12,.string ⟨#[]⟩,.int .i64 ((ks.length+1):Int),.slice A8 (ks.length+1) fq] 24))=IZ at hfa yG⊢;have KY:=hid (HPB.out.fresh hfa);have tO:=hid (hfa.blk gu.out fun h=>h);have KZ:=hid (HMB.out.fr hfa);have K3:=hid yG;have FN:=hid (hfa.blk HCB.out fun h=>h);refine hK _ _ FN.out ?_;clear hK K hfa yG;refine eX rfl (fun K hK=>?_);rw[if_pos (by rfl)];refine⟨.slice (some ⟨wb.heap.size,0,none⟩) 1 1,fun X hX=>?_,hK _ ?_⟩
        ·go_simp
        clear hK K;obtain⟨p0,p1,y0,y1,hlt⟩:=af.two tO.out;refine aW rfl (fun K hK=>?_);go_wp2_with fail
        have hb5:=tO.out.fT (.int .i64 0) (.int .i64 0);have CF:=FN.out.nJ (L:=w4.heap.size) (g:=w.heap.size) (by have:=gP.out;omega) (.int .i64 0) (.int .i64 0);have hps:=KY.out.aH tO.out (by decide) (by omega) HW0.out (.int .i64 0) (.int .i64 0);have htr:=K3.out.other tO.out (by decide) (dS IZ w.heap.size (.int .i64 0) (.int .i64 0));have wO:Mp c.g c.W0.heap.size w _:=KZ.out.aH (g:=w.heap.size) (.inr (Nat.le_refl _)) (.int .i64 0) (.int .i64 0);simp only[aH]at hb5 CF hps htr wO;generalize World.setCell (World.setCell IZ ⟨w.heap.size,0,none⟩ _) ⟨w.heap.size,1,none⟩ _=W22 at hb5 CF hps htr wO⊢;refine hK _ _ CF ?_;clear hK K p0 p1 y0 y1 hlt;refine sQ ?_;go_wp2_with fail
        obtain⟨f0,f1,_⟩:=af.two hb5
        (try simp only[Exit.inBlock,Exit.then])
        refine bodyPost_ret (v:=.tuple #[.slice (some ⟨wb.heap.size,0,none⟩) 1 1,aG 0 0]) (by simp[aG,results,Tryz.results68,go_sem,f0,f1]) rfl ?_;exact HQ.out _ _ ⟨_,1,k'+1,rfl,htr,(List.tail_drop ..).symm,by have:=HKK.out;have:=uP.out;omega,hps,wO⟩
      ·by_cases KX:ks.length+1-b≠cl
       ·rw[if_pos (by rw[Np.xh,if_neg hb0];exact KX)]at kX
        exact absurd kX.out HNX.out
       ·rw[if_neg (by rw[Np.xh,if_neg hb0];exact KX),if_pos trivial]at kX
        simp only[Np.xh,if_neg hb0]at kX;have hnb:ks.length≤1000000:=by have:=Et.out;have:=AJ.out;omega
        have hbn:b≤ks.length:=SL.out;have t1:(ks.length:Int)+1-(b:Int)=(cl:Int):=by omega
        have t2:((cl:Int)==(cl:Int))=true:=by simp
        have t4:((b:Int)==0)=false:=by rw[beq_eq_false_iff_ne];omega
        have t5:IntKind.i64.wrap (cl:Int)=(cl:Int):=IntWalk.i64_in _ (by omega);have t6:¬(b:Int)=0:=by omega
        clear KX;obtain⟨p0,p1,p2,p3,y0,y1,y2,y3,lW⟩:=af.four zL.out;clear hb0;go_wp2_with fail
        clear t1 t2 t4 t5 t6 hnb hbn;clear p0 p1 p2 p3 y0 y1 y2 y3 lW;have htk:=Yx.out.tree (by have:=qh.out;have:=gP.out;omega);have nK:=hid htk;clear htk;rw[kX.out]at HQ;refine AA (fun X=>af X w4.heap.size 24 #[.int .i64 12,.string ⟨#[]⟩,.int .i64 (cl:Int),.slice A8 (ks.length+1) fq]) (.plain 0 (.plain 2 (.fork 1 (.lone 3 (.plain 4 (.lone 5 .nil))) 3 (.lone 1 (.plain 4 (.lone 5 .nil)))))) [0,1,2,3,4,5] #[true,true,true,true,true,true] (by kernel_rfl) (fun _ _ d _ _ h=>by cases d<;>exact h) (by kernel_rfl) (zL.out.drewN 1) ?_;refine eX rfl (fun K hK=>?_);rw[if_pos (by rfl)];refine⟨.agg #[.int .i64 12,.string ⟨#[]⟩,.int .i64 (cl:Int),.slice A8 (ks.length+1) fq],fun X hX=>?_,hK _ ?_⟩
        ·obtain⟨p0,p1,p2,p3,_⟩:=af.four hX
         go_simp
        clear hK K;refine eX rfl (fun K hK=>?_);rw[if_pos (by rfl)];refine⟨.pointer (some ⟨c.g,0,none⟩),fun X hX=>?_,hK _ ?_⟩
        ·go_simp
        clear hK K;refine o6 ?_ ?_
        ·have hfa:ag AR ((AR.drewN 1).alloc (.cells #[.int .i64 12,.string ⟨#[]⟩,.int .i64 (cl:Int),.slice A8 (ks.length+1) fq] 24)):=((M _ _).drewN 1).alloc _
         have yG:aP w.heap.size ((AR.drewN 1).alloc (.cells #[.int .i64 12,.string ⟨#[]⟩,.int .i64 (cl:Int),.slice A8 (ks.length+1) fq] 24)) [(Nd.mk 12 [] (cl:Nat) (ks++[Np.slot items]))] (.slice (some ⟨(AR.drewN 1).heap.size,0,none⟩) 1 1):=
          aP.lit (n:=(Nd.mk 12 [] (cl:Nat) (ks++[Np.slot items]))) (nK.out.fresh ((M _ AR).drewN 1)) NA.out.size (Nat.zero_le _)
         refine aW rfl (fun K hK=>?_);go_wp2_with fail
         change aP w.heap.size ((AR.drewN 1).alloc (.cells #[.int .i64 12,.string ⟨#[]⟩,.int .i64 (cl:Int),.slice A8 (ks.length+1) fq] 24)) [(Nd.mk 12 [] (cl:Nat) (ks++[Np.slot items]))] (.slice (some ⟨AR.heap.size,0,none⟩) 1 1)at yG
         generalize ((AR.drewN 1).alloc (.cells #[.int .i64 12,.string ⟨#[]⟩,.int .i64 (cl:Int),.slice A8 (ks.length+1) fq] 24))=WA at hfa yG⊢;have gL:=hid hfa;have sJ:=hid yG;have Cj:=hid (KW.out.fresh hfa);have ql:=hid (hfa.blk ME.out fun h=>h);have HMA:=hid (NA.out.fr hfa);refine hK _ _ (hfa.blk zL.out fun h=>h) ?_;have Di:=hid (hfa.blk zL.out fun h=>h);clear hK K hfa yG;refine aW rfl (fun K hK=>?_);go_wp2_with fail
         refine(HFI.out k' pl WA Cj.out (.inl Gb.out)).mono ?_;rintro _ IZ (⟨_,rfl,hp,hm⟩|⟨hx,_⟩)
         case inr=>rw[Yy.out]at hx;cases hx
         have KY:=hid hp;have tO:=hid (hm.blk ql.out (by omega) (by decide));have KZ:=hid (HMA.out.trans hm);have K3:=hid (sJ.out.mp hm Cj.out);unfold aG;go_wp2
         refine hK _ _ (hm.blk Di.out (by have:=gP.out;omega) (by decide)) ?_;have FN:=hid (hm.blk Di.out (by have:=gP.out;omega) (by decide));clear hK K hp hm;refine eX rfl (fun K hK=>?_);rw[if_pos (by rfl)];refine⟨.slice (some ⟨AR.heap.size,0,none⟩) 1 1,fun X hX=>?_,hK _ ?_⟩
         ·go_simp
         clear hK K
         skip
         obtain⟨p0,p1,y0,y1,hlt⟩:=af.two tO.out;refine aW rfl (fun K hK=>?_);go_wp2_with fail
         have hb5:=tO.out.fT (.int .i64 0) (.int .i64 0);have CF:=FN.out.nJ (L:=w4.heap.size) (g:=w.heap.size) (by have:=gP.out;omega) (.int .i64 0) (.int .i64 0);have hps:=KY.out.aH tO.out (by decide) (by omega) HW0.out (.int .i64 0) (.int .i64 0);have htr:=K3.out.other tO.out (by decide) (dS IZ w.heap.size (.int .i64 0) (.int .i64 0));have wO:Mp c.g c.W0.heap.size w _:=KZ.out.aH (g:=w.heap.size) (.inr (Nat.le_refl _)) (.int .i64 0) (.int .i64 0);simp only[aH]at hb5 CF hps htr wO;generalize World.setCell (World.setCell IZ ⟨w.heap.size,0,none⟩ _) ⟨w.heap.size,1,none⟩ _=W22 at hb5 CF hps htr wO⊢;refine hK _ _ CF ?_;clear hK K p0 p1 y0 y1 hlt;refine sQ ?_;go_wp2_with fail
         obtain⟨f0,f1,_⟩:=af.two hb5
         (try simp only[Exit.inBlock,Exit.then])
         refine bodyPost_ret (v:=.tuple #[.slice (some ⟨AR.heap.size,0,none⟩) 1 1,aG 0 0]) (by simp[aG,results,Tryz.results68,go_sem,f0,f1]) rfl ?_;exact HQ.out _ _ ⟨_,1,k'+1,rfl,htr,(List.tail_drop ..).symm,by have:=HKK.out;have:=uP.out;omega,hps,wO⟩
        ·refine aW rfl (fun K hK=>?_)
         go_wp2_with fail
         refine(HFI.out k' pl _ (KW.out.fresh ((M _ _).drewN 1)) (.inl Gb.out)).mono ?_;rintro _ wb (⟨_,rfl,hp,hm⟩|⟨hx,_⟩)
         case inr=>rw[Yy.out]at hx;cases hx
         have hm':Mp c.g c.W0.heap.size AR wb:=(Mp.fresh ((M _ AR).drewN 1)).trans hm;have HPB:=hid hp;have gu:=hid (hm'.blk ME.out (by omega) (by decide));have HCB:=hid (hm'.blk zL.out (by have:=gP.out;omega) (by decide));have HMB:=hid (NA.out.trans hm');have yB:=hid (nK.out.mp hm' KW.out);unfold aG;go_wp2
         refine hK _ _ HCB.out ?_;clear hK K hp hm hm';have hfa:ag wb (wb.alloc (.cells #[.int .i64 12,.string ⟨#[]⟩,.int .i64 (cl:Int),.slice A8 (ks.length+1) fq] 24)):=(M _ _).alloc _
         have yG:aP w.heap.size (wb.alloc (.cells #[.int .i64 12,.string ⟨#[]⟩,.int .i64 (cl:Int),.slice A8 (ks.length+1) fq] 24)) [(Nd.mk 12 [] (cl:Nat) (ks++[Np.slot items]))] (.slice (some ⟨wb.heap.size,0,none⟩) 1 1):=
          aP.lit (n:=(Nd.mk 12 [] (cl:Nat) (ks++[Np.slot items]))) yB.out HMB.out.size (Nat.zero_le _)
         refine aW rfl (fun K hK=>?_);go_wp2_with fail
         generalize (wb.alloc (.cells #[.int .i64 12,.string ⟨#[]⟩,.int .i64 (cl:Int),.slice A8 (ks.length+1) fq] 24))=IZ at hfa yG⊢;have KY:=hid (HPB.out.fresh hfa);have tO:=hid (hfa.blk gu.out fun h=>h);have KZ:=hid (HMB.out.fr hfa);have K3:=hid yG;have FN:=hid (hfa.blk HCB.out fun h=>h);refine hK _ _ FN.out ?_;clear hK K hfa yG;refine eX rfl (fun K hK=>?_);rw[if_pos (by rfl)];refine⟨.slice (some ⟨wb.heap.size,0,none⟩) 1 1,fun X hX=>?_,hK _ ?_⟩
         ·go_simp
         clear hK K;obtain⟨p0,p1,y0,y1,hlt⟩:=af.two tO.out;refine aW rfl (fun K hK=>?_);go_wp2_with fail
         have hb5:=tO.out.fT (.int .i64 0) (.int .i64 0);have CF:=FN.out.nJ (L:=w4.heap.size) (g:=w.heap.size) (by have:=gP.out;omega) (.int .i64 0) (.int .i64 0);have hps:=KY.out.aH tO.out (by decide) (by omega) HW0.out (.int .i64 0) (.int .i64 0);have htr:=K3.out.other tO.out (by decide) (dS IZ w.heap.size (.int .i64 0) (.int .i64 0));have wO:Mp c.g c.W0.heap.size w _:=KZ.out.aH (g:=w.heap.size) (.inr (Nat.le_refl _)) (.int .i64 0) (.int .i64 0);simp only[aH]at hb5 CF hps htr wO;generalize World.setCell (World.setCell IZ ⟨w.heap.size,0,none⟩ _) ⟨w.heap.size,1,none⟩ _=W22 at hb5 CF hps htr wO⊢;refine hK _ _ CF ?_;clear hK K p0 p1 y0 y1 hlt;refine sQ ?_;go_wp2_with fail
         obtain⟨f0,f1,_⟩:=af.two hb5
         (try simp only[Exit.inBlock,Exit.then])
         refine bodyPost_ret (v:=.tuple #[.slice (some ⟨wb.heap.size,0,none⟩) 1 1,aG 0 0]) (by simp[aG,results,Tryz.results68,go_sem,f0,f1]) rfl ?_;exact HQ.out _ _ ⟨_,1,k'+1,rfl,htr,(List.tail_drop ..).symm,by have:=HKK.out;have:=uP.out;omega,hps,wO⟩
end
section
open Go.RowKit
open Tr (Nd)
open Lx (aB)
open Np (R cZ kE eB eP dA bV fD di pArg)
theorem adJ(c:Cf):Nq c 0:=fun k op w _ _ hne=>absurd (by rw[cZ]) hne
theorem VR(c:Cf):xM c 0:=fun k op b w _ _ _ hne=>absurd (by rw[kE]) hne
theorem adK(c:Cf):xN c 0:=fun k op w _ _ hne=>absurd (by rw[pArg]) hne
theorem U5(c:Cf):Jn c 0:=fun k op b w _ _ hne=>absurd (by rw[eB]) hne
theorem aaX(c:Cf):PW c 0:=fun k op w _ _ hne=>absurd (by rw[eP]) hne
theorem aaY(c:Cf):FE c 0:=fun k op w _ _ hne=>absurd (by rw[dA]) hne
theorem aaZ(c:Cf):Jo c 0:=fun k op t r w _ _ _ hne=>absurd (by rw[fD]) hne
structure ajG(c:Cf)(f:Nat):Prop where
 row:Nq c f
 enc:xM c f
 arg:xN c f
 scr:Jn c f
 item:PW c f
 R3:FE c f
 name:Jo c f
theorem adL(c:Cf)(hc:c.Good)(bm:Nat)(hnm:c.Dn bm):Jo c 1:=
 aaS c hc bm hnm 0 (Mx c hc 0 (II c hc 0 2 (by omega) fun f' h=>by omega)) (aaR c hc 0 (II c hc 0 1 (by omega) fun f' h=>by omega) (VR c))
  (SK c hc 0 (by omega) fun f' h=>by omega) (Sg c hc 0 (II c hc 0 1 (by omega) fun f' h=>by omega))
theorem SS(c:Cf)(hc:c.Good)(bm:Nat)(hnm:c.Dn bm):∀F,F≤1000000→∀f,f≤F→ajG c f
 |0,_,f,hf=>by
  obtain rfl:f=0:=by omega
  exact⟨adJ c,VR c,adK c,U5 c,aaX c,aaY c,aaZ c⟩
 |F+1,hF,f,hf=>by
  have ih:=SS c hc bm hnm F (by omega)
  rcases Nat.lt_or_ge f (F+1)with h|h
  ·exact ih f (by omega)
  ·obtain rfl:f=F+1:=by omega
   have h0:=ih F (Nat.le_refl _);have IE:∀f',f'<F→xN c f':=fun f' h=>(ih f' (by omega)).arg
   have w1:=II c hc F 1 (by omega) IE;have w2:=II c hc F 2 (by omega) IE
   exact⟨ahr c hc (F+1) hF fun f' h=>(ih f' (by omega)).item,Yh c hc F h0.row,Yn c hc bm hnm F h0.enc (adL c hc bm hnm),ac7 c hc F h0.arg,agC c hc F h0.R3 h0.scr,aaT c hc F h0.name w1 h0.enc,
    aaS c hc bm hnm F (Mx c hc F w2) (aaR c hc F w1 h0.enc) (SK c hc F (by omega) fun f' h=>(ih f' (by omega)).row) (Sg c hc F w1)⟩
theorem aa0(c:Cf)(hc:c.Good)(bm:Nat)(hnm:c.Dn bm)(F:Nat)(hF:F≤1000000):Nq c F:=(SS c hc bm hnm F hF F (Nat.le_refl _)).row
def uq(g n:Nat):List MapEntry:=(rJ g).take n
theorem SV(w:World)(o o':Obj):{w.alloc o with heap:=(w.alloc o).heap.setIfInBounds w.heap.size o'}=w.alloc o':=by
 simp only[World.alloc]
 congr 1
 apply Array.ext'
 rw[Array.toList_setIfInBounds,Array.toList_push,Array.toList_push,show w.heap.size=w.heap.toList.length from(Array.length_toList).symm,List.set_append_right _ _ (Nat.le_refl _),Nat.sub_self];rfl
theorem NB(w:World)(es:List MapEntry)(n:Nat)(s:List UInt8)(v:Value)(hf:Instr.findNow .string (.string ⟨s.toArray⟩) es 0=some none):
  (Instr.mapUpdate 84 (.map (some w.heap.size)) (.string ⟨s.toArray⟩) v).run Tryz.prog (w.alloc (.map es.toArray n))=.ok () (w.alloc (.map (es++[(⟨.string ⟨s.toArray⟩,v,n⟩:MapEntry)]).toArray (n+1))):=by
 have hb:(w.alloc (.map es.toArray n)).heap[w.heap.size]?=some (.map es.toArray n):=heap_alloc_new w _;have hc:(Instr.checkKey false 10000 9 (.string ⟨s.toArray⟩)).run Tryz.prog (w.alloc (.map es.toArray n))=.ok () (w.alloc (.map es.toArray n)):=MapKept.run_checkKey (k:=.string ⟨s.toArray⟩) Tryz.underlying9 (by simp[MapKept.IsKey]) false 9999;simp[Instr.mapUpdate,run_underlying Tryz.underlying84,MapKept.run_getObj_map hb,hc,MapKept.run_findKey Tryz.underlying9 hf,MapKept.run_setObj_map _ hb,Result.andThen]
 exact SV w _ _
theorem Bg(w:World)(g:Nat)(n:Nat)(s:List UInt8)(F:FuncId)(hn:(Cv[n]?)=some (s,F))(hf:Instr.findNow .string (.string ⟨s.toArray⟩) (uq g n) 0=some none):
  (Instr.mapUpdate 84 (.map (some w.heap.size)) (.string ⟨s.toArray⟩) (.func (.func F) #[.pointer (some ⟨g,0,none⟩)] #[])).run Tryz.prog (w.alloc (.map (uq g n).toArray n))=.ok () (w.alloc (.map (uq g (n+1)).toArray (n+1))):=by
 rw[NB w (uq g n) n s _ hf]
 have hg:(rJ g)[n]?=some ⟨.string ⟨s.toArray⟩,mM g F,n⟩:=by
  unfold rJ;rw[List.getElem?_map,List.getElem?_zipIdx,hn];simp
 have e:uq g n++[⟨.string ⟨s.toArray⟩,.func (.func F) #[.pointer (some ⟨g,0,none⟩)] #[],n⟩]=uq g (n+1):=by
  unfold uq;rw[List.take_add_one,hg];rfl
 rw[e]
end
end Go.Proofs.YtcgbccfpcgaikaaGreatDoor
