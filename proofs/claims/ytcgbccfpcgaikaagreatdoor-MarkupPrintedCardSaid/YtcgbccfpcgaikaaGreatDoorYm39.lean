/- Part 39 of 46 of a proof. No condition. -/
import Derived.Test.YtcgbccfpcgaikaaGreatDoorYm38
set_option maxRecDepth 100000
set_option maxHeartbeats 2000000
namespace Go.Proofs.YtcgbccfpcgaikaaGreatDoor
section
open Go.RowKit
open Tr (Nd)
open Lx (aB)
open Np (R cZ kE eB eP dA bV fD di pArg)
attribute [local go_sem] gD stillUpon
def FE(c:Cf)(f:Nat):Prop:=∀(k:Nat) (op:List Nat) (w:World),Ps c k op w→op.length≤k→dA c.en f op (c.T.drop k)≠.out→Calls Tryz.prog 109 #[lV c] w (oK c k op (dA c.en f op (c.T.drop k)) w)
theorem OW{b:UInt8}{t:aB}{r:List aB}(h:Np.dx b (t::r)=true):t.kind=7∧t.text=[b]:=by
 simpa[Np.dx]using h
theorem oK.parts{c:Cf}{k:Nat}{op:List Nat}{X:R (List Nd)}{w w':World}{e:Ending}(h:oK c k op X w e w')(hne:X≠.out):∃A n cp i er,e=.returned (.tuple #[.slice A n cp,aG i er])∧Mp c.g c.W0.heap.size w w'∧
  (∃items rest k',X=.ok items rest∧n=items.length∧i=0∧er=0∧aP w.heap.size w' items (.slice A n cp)∧c.T.drop k'=rest∧k≤k'∧Ps c k' op w'):=by
 cases X with
 |out=>exact absurd rfl hne
 |ok items rest=>
  obtain⟨A,cp,k',rfl,htr,hdr,hkk,hp,hm⟩:=h;exact⟨A,items.length,cp,0,0,rfl,hm,⟨items,rest,k',rfl,rfl,rfl,rfl,htr,hdr,hkk,hp⟩⟩
theorem aaT(c:Cf)(hc:c.Good)(f:Nat)(hname:Jo c f)(yN:Mw c f 1)(henc:xM c f):FE c (f+1):=by
 intro k op w h hop hne;have htl:=hc.tl;have FH:=hid (fun(w':World) (hf:ag w w')=>IC c hc k op w' (h.fresh hf));have HT:=hid (fun(w':World) (hf:ag w w')=>qO c hc k op w' (h.fresh hf));have HA:=hid (fun(b:UInt8) (w':World) (hf:ag w w')=>vE c hc k op b w' (h.fresh hf));have HR:=hid (fun(w':World) (hf:ag w w')=>Cu c hc k op w' (h.fresh hf));have JN:=hid hname;have HW:=hid yN;have OJ:=hid henc;have agx:=hid hc.txt;have H:=hid h;have oJ:=hid hop;have HW0:=hid h.low.size;have hgl:c.g<w.heap.size:=h.Ap;have aY:=hid hne;refine Calls.via fun Q hQ=>?_
 have HQ:=hid hQ;clear hne h hop hc hQ hname yN henc;generalize hl:c.T.drop k=l at FH HT HA HR aY HQ;unfold Jm at FH;rw[hl]at FH;have HL:=hid hl;clear hl;unfold lV;go_enter Tryz.func109,Tryz.ntmps109;go_wp2_with fail
 refine(FH.out _ ((M _ _).alloc _)).mono ?_;rintro e w1 (⟨x,b,hx,rfl,htr,hp,hm⟩|⟨hx,rfl,hf⟩)
 ·have rM:=hid ((Mp.fresh ((M _ w).alloc _)).trans hm)
  have dY:=hid (hm.blk (af.new w 49 #[.int .i64 0,.int .i64 0]) (by omega) (by decide));have jK:=hid htr;have oL:=hid hp
  have HX:=hid (show dA c.en (f+1) op l=.ok [x] (c.T.drop (k+1))from by
   cases l with
   |nil=>cases hx
   |cons t r=>
    have hr:c.T.drop (k+1)=r:=by rw[←List.tail_drop,HL.out];rfl
    rw[hr,dA];simp only[show Np.fO t=some x from hx])
  clear hm htr hp hx;obtain⟨q0,q1,z0,z1,hlt3⟩:=af.two dY.out
  (try unfold aG)
  go_wp2_with fail
  have n1:=dY.out.fT (.int .i64 0) (.int .i64 0);have iU:Mp c.g c.W0.heap.size w (aH w1 (w.heap.size) (.int .i64 0) (.int .i64 0)):=rM.out.aH (g:=w.heap.size) (.inr (by omega)) (.int .i64 0) (.int .i64 0);have fA:=dS w1 (w.heap.size) (.int .i64 0) (.int .i64 0);simp only[aH]at n1 iU fA;generalize (World.setCell (World.setCell w1 ⟨w.heap.size,0,none⟩ _) ⟨w.heap.size,1,none⟩ _)=W4 at n1 iU fA⊢;obtain⟨f0,f1,_⟩:=af.two n1
  (try simp only[Exit.inBlock,Exit.then])
  refine bodyPost_ret (v:=.tuple #[.slice (some ⟨b,0,none⟩) 1 1,aG 0 0]) (by simp[aG,results,Tryz.results109,go_sem,f0,f1]) rfl ?_;have hps:=oL.out.mv fA (fun b hb=>by have:=HW0.out;subst hb;exact⟨by omega,by omega,_,_,(by decide),dY.out⟩);rw[HX.out]at HQ;exact HQ.out _ _ ⟨_,1,k+1,rfl,(jK.out.base (by simp)).other dY.out (by decide) fA,rfl,by omega,hps,iU⟩
 ·have aK:=hid (show ag w w1 from Touch.pre hf)
  have tL:=hid (hf.blk (af.new w 49 #[.int .i64 0,.int .i64 0]) (fun h=>h));have yc:=hid (show w.heap.size<w1.heap.size from tL.out.lt);clear hf;cases l with
  |nil=>
   have MB:Np.dx 40 ([]:List aB)=false:=rfl;have Sv:Np.dx 91 ([]:List aB)=false:=rfl;have Ay:Np.dx 123 ([]:List aB)=false:=rfl;exact absurd (show dA c.en (f+1) op []=.out from by rw[dA];rfl) aY.out
  |cons t r=>
   have HK:=hid (show k<c.T.length from Br (by rw[HL.out];exact List.cons_ne_nil _ _));have hr:r=c.T.drop (k+1):=by rw[←List.tail_drop,HL.out];rfl
   have HR1:=hid hr;have HX:=hid (show Np.fO t=none from hx);have kJ:=hid (agx.out t (List.mem_of_mem_drop (i:=k) (by rw[HL.out];simp)));clear hx hr;unfold yK at HT;go_wp2_with fail
   refine(HT.out _ aK.out).mono ?_;rintro _ w2 ⟨rfl,hf⟩;have bW:=hid (aK.out.trans hf);have MC:=hid (hf.blk tL.out fun h=>h);clear hf
   by_cases h4:t.kind=4
   ·have e4:=Bq _ 4 h4
    have rO:=hid (show dA c.en (f+1) op (t::r)=fD c.en f op t r from by
     rw[dA];simp only[HX.out];rw[if_pos h4])
    rw[rO.out]at HQ aY;clear h4;go_wp2_with fail
    have hf3:=bW.out.alloc (.cells #[.int .i64 (t.kind:Int),.string ⟨t.text.toArray⟩,.int .i64 (t.from_:Int),.int .i64 (t.eF:Int)] 115);have DT:=MC.out.alloc (.cells #[.int .i64 (t.kind:Int),.string ⟨t.text.toArray⟩,.int .i64 (t.from_:Int),.int .i64 (t.eF:Int)] 115);generalize (w2.alloc (.cells #[.int .i64 (t.kind:Int),.string ⟨t.text.toArray⟩,.int .i64 (t.from_:Int),.int .i64 (t.eF:Int)] 115))=W2 at hf3 DT⊢;have iI:=hid (Mp.fresh (g:=c.g) (B:=c.W0.heap.size) hf3);have tK:=hid DT;refine(JN.out k op t r W2 (H.out.fresh hf3) oJ.out HL.out aY.out).mono ?_;intro e w3 hres;clear hf3 DT;generalize fD c.en f op t r=X at aY HQ hres;cases X with
    |out=>exact absurd rfl aY.out
    |ok items rest=>
     obtain⟨A,cp,k',rfl,htr,hdr,hkk,hp,hm⟩:=hres;have rM:=hid (iI.out.trans hm);have dY:=hid (hm.blk tK.out (by omega) (by decide));have jK:=hid htr;have HDR:=hid hdr;have HKK:=hid hkk;have oL:=hid hp;clear hm htr hdr hkk hp;obtain⟨q0,q1,z0,z1,hlt3⟩:=af.two dY.out
     (try unfold aG)
     go_wp2_with fail
     have n1:=dY.out.fT (.int .i64 0) (.int .i64 0);have iU:Mp c.g c.W0.heap.size w (aH w3 (w.heap.size) (.int .i64 0) (.int .i64 0)):=rM.out.aH (g:=w.heap.size) (.inr (by omega)) (.int .i64 0) (.int .i64 0);have fA:=dS w3 (w.heap.size) (.int .i64 0) (.int .i64 0);simp only[aH]at n1 iU fA;generalize (World.setCell (World.setCell w3 ⟨w.heap.size,0,none⟩ _) ⟨w.heap.size,1,none⟩ _)=W4 at n1 iU fA⊢;obtain⟨f0,f1,_⟩:=af.two n1
     (try simp only[Exit.inBlock,Exit.then])
     refine bodyPost_ret (v:=.tuple #[.slice A items.length cp,aG 0 0]) (by simp[aG,results,Tryz.results109,go_sem,f0,f1]) rfl ?_;have hps:=oL.out.mv fA (fun b hb=>by have:=HW0.out;subst hb;exact⟨by omega,by omega,_,_,(by decide),dY.out⟩);exact HQ.out _ _ ⟨A,cp,k',rfl,(jK.out.base iI.out.size).other dY.out (by decide) fA,HDR.out,by have:=HKK.out;omega,hps,iU⟩
   ·have e4:=uH _ 4 h4
    by_cases h5:t.kind=5
    ·have e5:=Bq _ 5 h5
     have rO:=hid (show dA c.en (f+1) op (t::r)=(bV c.en f 1 op (c.T.drop (k+1))).map fun ks=>[.mk 11 t.text 0 ks]from by
      rw[←HR1.out,dA];simp only[HX.out];rw[if_neg h4,if_pos h5])
     rw[rO.out]at HQ aY;clear h4 h5;have hk4:k≤100000:=by have:=HK.out;omega
     have HE:=hid (show((k:Int)+1)=((k+1:Nat):Int) by simp);obtain⟨ov,hb2,_⟩:=(H.out.fresh bW.out).box;have q1:=hb2.cell 1;have z1:=hb2.frozen 1;have hg2:=hb2.lt;clear hb2;go_wp2_with fail
     have hn:=(H.out.fresh bW.out).next HK.out ((k:Int)+1) HE.out;have DT:=MC.out.far (p:=⟨c.g,1,none⟩) (fun e=>by have e':w.heap.size=c.g:=e;omega) (.int .i64 ((k:Int)+1));generalize (w2.setCell ⟨c.g,1,none⟩ (.int .i64 ((k:Int)+1)))=W1 at hn DT⊢;have hp3:=hn.1.fresh ((M _ W1).alloc (.cells #[.int .i64 (t.kind:Int),.string ⟨t.text.toArray⟩,.int .i64 (t.from_:Int),.int .i64 (t.eF:Int)] 115));have hm3:=(Mp.fresh bW.out).trans (hn.2.trans (Mp.fresh ((M _ W1).alloc (.cells #[.int .i64 (t.kind:Int),.string ⟨t.text.toArray⟩,.int .i64 (t.from_:Int),.int .i64 (t.eF:Int)] 115))));have Nv:=DT.alloc (.cells #[.int .i64 (t.kind:Int),.string ⟨t.text.toArray⟩,.int .i64 (t.from_:Int),.int .i64 (t.eF:Int)] 115);generalize (W1.alloc (.cells #[.int .i64 (t.kind:Int),.string ⟨t.text.toArray⟩,.int .i64 (t.from_:Int),.int .i64 (t.eF:Int)] 115))=W2 at hp3 hm3 Nv⊢;have jb:=hid hp3;have iI:=hid hm3;have tK:=hid Nv;clear hn DT Nv hp3 hm3 q1 z1 hg2;refine(HW.out (k+1) op 11 t.text [] none w.heap.size W2 jb.out (by have:=oJ.out;omega) kJ.out (by simp) iI.out.size (.nil _ _) (R.oC aY.out)).mono ?_;intro e w3 hres;generalize bV c.en f 1 op (c.T.drop (k+1))=r at aY HQ hres;cases r with
     |out=>exact absurd rfl aY.out
     |ok ks rest=>
      obtain⟨b,k',rfl,htr,hdr,hkk,hp,hm⟩:=hres;have rM:=hid (iI.out.trans hm);have dY:=hid (hm.blk tK.out (by omega) (by decide));have jK:=hid htr;have HDR:=hid hdr;have HKK:=hid hkk;have oL:=hid hp;clear hm htr hdr hkk hp;obtain⟨q0,q1,z0,z1,hlt3⟩:=af.two dY.out
      (try unfold aG)
      go_wp2_with fail
      have n1:=dY.out.fT (.int .i64 0) (.int .i64 0);have iU:Mp c.g c.W0.heap.size w (aH w3 (w.heap.size) (.int .i64 0) (.int .i64 0)):=rM.out.aH (g:=w.heap.size) (.inr (by omega)) (.int .i64 0) (.int .i64 0);have fA:=dS w3 (w.heap.size) (.int .i64 0) (.int .i64 0);simp only[aH]at n1 iU fA;generalize (World.setCell (World.setCell w3 ⟨w.heap.size,0,none⟩ _) ⟨w.heap.size,1,none⟩ _)=W4 at n1 iU fA⊢;obtain⟨f0,f1,_⟩:=af.two n1
      (try simp only[Exit.inBlock,Exit.then])
      refine bodyPost_ret (v:=.tuple #[.slice (some ⟨b,0,none⟩) 1 1,aG 0 0]) (by simp[aG,results,Tryz.results109,go_sem,f0,f1]) rfl ?_;have hps:=oL.out.mv fA (fun b hb=>by have:=HW0.out;subst hb;exact⟨by omega,by omega,_,_,(by decide),dY.out⟩);exact HQ.out _ _ ⟨_,1,k',rfl,jK.out.other dY.out (by decide) fA,HDR.out,by have:=HKK.out;omega,hps,iU⟩
    ·have e5:=uH _ 5 h5
     have Rc:=hid (fun(cl:UInt8) (w':World) (hp:Ps c k op w') (hne:kE c.en f cl op (t::r)≠.out)=>show Calls _ _ _ _ (oK c k op (kE c.en f cl op (t::r)) w')from by
      have h:=OJ.out k op cl w' hp oJ.out HK.out;rw[HL.out]at h;exact h hne)
     cases MB:Np.dx 40 (t::r)with
     |true=>
      have htx:=(OW MB).2;have ajl:(t.text==[91])=false:=by rw[htx];rfl
      have rO:=hid (show dA c.en (f+1) op (t::r)=(kE c.en f 41 op (t::r)).map fun items=>[.mk 11 [40,41] 0 [Np.slot items]]from by
       rw[dA];simp only[HX.out];rw[if_neg h4,if_neg h5,if_pos MB])
      rw[rO.out]at HQ aY;clear h4 h5 htx;go_wp2_with fail
      refine(HA.out 40 _ (bW.out.alloc (.cells #[.int .i64 (t.kind:Int),.string ⟨t.text.toArray⟩,.int .i64 (t.from_:Int),.int .i64 (t.eF:Int)] 115))).mono ?_;rintro _ w3 ⟨rfl,hf⟩;have bJ:=hid ((bW.out.alloc (.cells #[.int .i64 (t.kind:Int),.string ⟨t.text.toArray⟩,.int .i64 (t.from_:Int),.int .i64 (t.eF:Int)] 115)).trans hf);have HB3:=hid (hf.blk (MC.out.alloc (.cells #[.int .i64 (t.kind:Int),.string ⟨t.text.toArray⟩,.int .i64 (t.from_:Int),.int .i64 (t.eF:Int)] 115)) fun h=>h);have HT3:=hid (hf.blk (af.new w2 115 #[.int .i64 (t.kind:Int),.string ⟨t.text.toArray⟩,.int .i64 (t.from_:Int),.int .i64 (t.eF:Int)]) fun h=>h);clear hf;rw[MB];have t1:=HT3.out.cell 1;have FI:=HT3.out.lt;go_wp2_with fail
      clear t1 FI;refine(Rc.out 41 w3 (H.out.fresh bJ.out) (R.oC aY.out)).mono ?_;intro e wa hres;have hparts:=hres.parts (R.oC aY.out);clear hres;generalize kE c.en f 41 op (t::r)=X at aY HQ hparts;obtain⟨A,n,cp,i,er,rfl,hm,hend⟩:=hparts;have HMa:=hid ((Mp.fresh bJ.out).trans hm);have Ep:=hid (hm.blk HB3.out (by omega) (by decide));have HSa:=hid (Nat.le_trans bJ.out.size hm.size);have HSb:=hid (bJ.out.size);have Aq:=hid hend;clear hm hend;unfold aG;go_wp2_with fail
      have hbe:af (wa.alloc (.cells #[.int .i64 (i:Int),.int .i64 (er:Int)] 49)) wa.heap.size 49 #[.int .i64 (i:Int),.int .i64 (er:Int)]:=af.new _ _ _;have IP:=hid ((M (fun _=>False) wa).alloc (.cells #[.int .i64 (i:Int),.int .i64 (er:Int)] 49));have hbr:=Ep.out.alloc (.cells #[.int .i64 (i:Int),.int .i64 (er:Int)] 49);generalize (wa.alloc (.cells #[.int .i64 (i:Int),.int .i64 (er:Int)] 49))=W5 at hbe IP hbr⊢;have r0:=cR (hbe.cell 0|>.trans rfl);have r1:=cR (hbe.cell 1|>.trans rfl);have adf:=hbe.lt;have ow:=hid hbr;clear hbe hbr;refine cu [([(0,true),(1,true),(6,true),(2,false),(3,false),(4,true),(5,false),(7,true)],8)] [] (by kernel_rfl) (fun _ _ d _ _ h=>by cases d<;>exact h) (by kernel_rfl) ?_;refine dJ ?_
      repeat(refine ak rfl (fun K hK=>?_);go_simp;refine hK _ ?_;clear hK K)
      refine aS rfl (fun K hK=>?_);go_wp2_with fail
      refine(j6 A n cp _).mono ?_;rintro _ w6 ⟨rfl,hf⟩;have fI:=hid (show ag W5 w6 from Touch.BD hf);clear hf;go_wp2
      refine hK _ _ (aA fI.out) ?_;clear hK K;refine aS rfl (fun K hK=>?_);go_wp2
      refine hK _ _ (aA (fI.out.alloc _)) ?_;clear hK K
      repeat(refine ak rfl (fun K hK=>?_);go_simp;refine hK _ ?_;clear hK K)
      refine aS rfl (fun K hK=>?_);go_wp2
      refine hK _ _ (aA ((fI.out.alloc _).alloc _)) ?_;clear hK K
      repeat(refine ak rfl (fun K hK=>?_);go_simp;refine hK _ ?_;clear hK K)
      have jy:=hid (fun(items:List Nd) (htr:aP w.heap.size wa items (.slice A n cp))=>show aP w.heap.size _ [Nd.mk 11 [40,41] 0 [Np.slot items]] _ from
       aP.lit (n:=.mk 11 [40,41] 0 [Np.slot items]) (aP.lit (n:=Np.slot items) ((htr.fresh IP.out).fresh fI.out) (Nat.le_trans HSa.out (Nat.le_trans IP.out.size fI.out.size)) (Nat.zero_le _)) (by
        have:=Nat.le_trans HSa.out (Nat.le_trans IP.out.size fI.out.size);simp;omega) (by show 2≤maxLen;simp[maxLen]))
      have gX:=IP.out.trans ((fI.out.alloc (.cells #[.int .i64 1,.string ⟨#[]⟩,.int .i64 0,.slice A n cp] 24)).alloc (.cells #[.int .i64 11,.string ⟨#[40,41]⟩,.int .i64 0,.slice (some ⟨w6.heap.size,0,none⟩) 1 1] 24));have oo:=gX.blk Ep.out fun h=>h
      change Hd (∀items,aP w.heap.size wa items (.slice A n cp)→aP w.heap.size ((w6.alloc (.cells #[.int .i64 1,.string ⟨#[]⟩,.int .i64 0,.slice A n cp] 24)).alloc (.cells #[.int .i64 11,.string ⟨#[40,41]⟩,.int .i64 0,.slice (some ⟨w6.heap.size,0,none⟩) 1 1] 24)) [Nd.mk 11 [40,41] 0 [Np.slot items]] (.slice (some ⟨(w6.alloc (.cells #[.int .i64 1,.string ⟨#[]⟩,.int .i64 0,.slice A n cp] 24)).heap.size,0,none⟩) 1 1))at jy
      have e7:(w6.alloc (.cells #[.int .i64 1,.string ⟨#[]⟩,.int .i64 0,.slice A n cp] 24)).heap.size=w6.heap.size+1:=by simp
      rw[e7]at jy;clear e7;generalize ((w6.alloc (.cells #[.int .i64 1,.string ⟨#[]⟩,.int .i64 0,.slice A n cp] 24)).alloc (.cells #[.int .i64 11,.string ⟨#[40,41]⟩,.int .i64 0,.slice (some ⟨w6.heap.size,0,none⟩) 1 1] 24))=W7 at gX oo jy⊢;have Cx:=hid (HMa.out.trans (Mp.fresh gX));have gW:=hid gX;have vv:=hid oo;clear gX oo r0 r1 adf;obtain⟨p0,p1,y0,y1,hlt⟩:=af.two vv.out;refine dm rfl (fun K hK=>?_);go_wp2_with fail
      refine fH ?_;go_wp2_with fail
      have o9:af _ w.heap.size 49 #[.int .i64 (i:Int),.int .i64 (er:Int)]:=(vv.out.put 0 (.int .i64 (i:Int))).put 1 (.int .i64 (er:Int));have xO:Mp c.g c.W0.heap.size w (aH W7 w.heap.size (.int .i64 (i:Int)) (.int .i64 (er:Int))):=Cx.out.aH (g:=w.heap.size) (.inr (Nat.le_refl _)) _ _;have bR:=dS W7 w.heap.size (.int .i64 (i:Int)) (.int .i64 (er:Int));obtain⟨f0,f1,_⟩:=af.two o9
      (try simp only[Exit.inBlock,Exit.then])
      refine bodyPost_ret (v:=.tuple #[.slice (some ⟨w6.heap.size+1,0,none⟩) 1 1,aG i er]) (by simp[aG,results,Tryz.results109,go_sem,f0,f1]) rfl ?_;obtain⟨items,rest,k',rfl,rfl,rfl,rfl,htr,hdr,hkk,hp⟩:=Aq.out
      ·have hps:=(hp.fresh gW.out).mv bR (fun b hb=>by have:=HW0.out;subst hb;exact⟨by omega,by omega,_,_,(by decide),vv.out⟩)
       exact HQ.out _ _ ⟨_,1,k',rfl,(jy.out items (htr.base HSb.out)).other vv.out (by decide) bR,hdr,hkk,hps,xO⟩
     |false=>
      cases Sv:Np.dx 91 (t::r)with
      |true=>
       have htx:=(OW Sv).2;have ajl:(t.text==[91])=true:=by rw[htx];rfl
       have rO:=hid (show dA c.en (f+1) op (t::r)=(kE c.en f 93 op (t::r)).map fun items=>[.mk 11 [91,93] 0 [Np.slot items]]from by
        rw[dA];simp only[HX.out];rw[if_neg h4,if_neg h5,if_neg (by simp[MB]),if_pos Sv])
       rw[rO.out]at HQ aY;clear h4 h5 htx;go_wp2_with fail
       refine(HA.out 40 _ (bW.out.alloc (.cells #[.int .i64 (t.kind:Int),.string ⟨t.text.toArray⟩,.int .i64 (t.from_:Int),.int .i64 (t.eF:Int)] 115))).mono ?_;rintro _ w3 ⟨rfl,hf⟩;have bJ:=hid ((bW.out.alloc (.cells #[.int .i64 (t.kind:Int),.string ⟨t.text.toArray⟩,.int .i64 (t.from_:Int),.int .i64 (t.eF:Int)] 115)).trans hf);have HB3:=hid (hf.blk (MC.out.alloc (.cells #[.int .i64 (t.kind:Int),.string ⟨t.text.toArray⟩,.int .i64 (t.from_:Int),.int .i64 (t.eF:Int)] 115)) fun h=>h);have HT3:=hid (hf.blk (af.new w2 115 #[.int .i64 (t.kind:Int),.string ⟨t.text.toArray⟩,.int .i64 (t.from_:Int),.int .i64 (t.eF:Int)]) fun h=>h);clear hf;rw[MB];go_wp2_with fail
       refine(HA.out 91 _ bJ.out).mono ?_;rintro _ w4 ⟨rfl,hf⟩;have eZ:=hid (bJ.out.trans hf);have iB:=hid (hf.blk HB3.out fun h=>h);have nU:=hid (hf.blk HT3.out fun h=>h);clear hf;rw[Sv];have t1:=nU.out.cell 1;have FI:=nU.out.lt;go_wp2_with fail
       clear t1 FI;refine(Rc.out 93 w4 (H.out.fresh eZ.out) (R.oC aY.out)).mono ?_;intro e wa hres;have hparts:=hres.parts (R.oC aY.out);clear hres;generalize kE c.en f 93 op (t::r)=X at aY HQ hparts;obtain⟨A,n,cp,i,er,rfl,hm,hend⟩:=hparts;have HMa:=hid ((Mp.fresh eZ.out).trans hm);have Ep:=hid (hm.blk iB.out (by omega) (by decide));have HSa:=hid (Nat.le_trans eZ.out.size hm.size);have HSb:=hid (eZ.out.size);have Aq:=hid hend;clear hm hend;unfold aG;go_wp2_with fail
       have hbe:af (wa.alloc (.cells #[.int .i64 (i:Int),.int .i64 (er:Int)] 49)) wa.heap.size 49 #[.int .i64 (i:Int),.int .i64 (er:Int)]:=af.new _ _ _;have IP:=hid ((M (fun _=>False) wa).alloc (.cells #[.int .i64 (i:Int),.int .i64 (er:Int)] 49));have hbr:=Ep.out.alloc (.cells #[.int .i64 (i:Int),.int .i64 (er:Int)] 49);generalize (wa.alloc (.cells #[.int .i64 (i:Int),.int .i64 (er:Int)] 49))=W5 at hbe IP hbr⊢;have r0:=cR (hbe.cell 0|>.trans rfl);have r1:=cR (hbe.cell 1|>.trans rfl);have adf:=hbe.lt;have ow:=hid hbr;clear hbe hbr;refine cu [([(0,true),(1,true),(6,true),(2,false),(3,false),(4,true),(5,false),(7,true)],8)] [] (by kernel_rfl) (fun _ _ d _ _ h=>by cases d<;>exact h) (by kernel_rfl) ?_;refine dJ ?_
       repeat(refine ak rfl (fun K hK=>?_);go_simp;refine hK _ ?_;clear hK K)
       refine aS rfl (fun K hK=>?_);go_wp2_with fail
       refine(j6 A n cp _).mono ?_;rintro _ w6 ⟨rfl,hf⟩;have fI:=hid (show ag W5 w6 from Touch.BD hf);clear hf;go_wp2
       refine hK _ _ (aA fI.out) ?_;clear hK K;refine aS rfl (fun K hK=>?_);go_wp2
       refine hK _ _ (aA (fI.out.alloc _)) ?_;clear hK K
       repeat(refine ak rfl (fun K hK=>?_);go_simp;refine hK _ ?_;clear hK K)
       refine aS rfl (fun K hK=>?_);go_wp2
       refine hK _ _ (aA ((fI.out.alloc _).alloc _)) ?_;clear hK K
       repeat(refine ak rfl (fun K hK=>?_);go_simp;refine hK _ ?_;clear hK K)
       have jy:=hid (fun(items:List Nd) (htr:aP w.heap.size wa items (.slice A n cp))=>show aP w.heap.size _ [Nd.mk 11 [91,93] 0 [Np.slot items]] _ from
        aP.lit (n:=.mk 11 [91,93] 0 [Np.slot items]) (aP.lit (n:=Np.slot items) ((htr.fresh IP.out).fresh fI.out) (Nat.le_trans HSa.out (Nat.le_trans IP.out.size fI.out.size)) (Nat.zero_le _)) (by
         have:=Nat.le_trans HSa.out (Nat.le_trans IP.out.size fI.out.size);simp;omega) (by show 2≤maxLen;simp[maxLen]))
       have gX:=IP.out.trans ((fI.out.alloc (.cells #[.int .i64 1,.string ⟨#[]⟩,.int .i64 0,.slice A n cp] 24)).alloc (.cells #[.int .i64 11,.string ⟨#[91,93]⟩,.int .i64 0,.slice (some ⟨w6.heap.size,0,none⟩) 1 1] 24));have oo:=gX.blk Ep.out fun h=>h
       change Hd (∀items,aP w.heap.size wa items (.slice A n cp)→aP w.heap.size ((w6.alloc (.cells #[.int .i64 1,.string ⟨#[]⟩,.int .i64 0,.slice A n cp] 24)).alloc (.cells #[.int .i64 11,.string ⟨#[91,93]⟩,.int .i64 0,.slice (some ⟨w6.heap.size,0,none⟩) 1 1] 24)) [Nd.mk 11 [91,93] 0 [Np.slot items]] (.slice (some ⟨(w6.alloc (.cells #[.int .i64 1,.string ⟨#[]⟩,.int .i64 0,.slice A n cp] 24)).heap.size,0,none⟩) 1 1))at jy
       have e7:(w6.alloc (.cells #[.int .i64 1,.string ⟨#[]⟩,.int .i64 0,.slice A n cp] 24)).heap.size=w6.heap.size+1:=by simp
       rw[e7]at jy;clear e7;generalize ((w6.alloc (.cells #[.int .i64 1,.string ⟨#[]⟩,.int .i64 0,.slice A n cp] 24)).alloc (.cells #[.int .i64 11,.string ⟨#[91,93]⟩,.int .i64 0,.slice (some ⟨w6.heap.size,0,none⟩) 1 1] 24))=W7 at gX oo jy⊢;have Cx:=hid (HMa.out.trans (Mp.fresh gX));have gW:=hid gX;have vv:=hid oo;clear gX oo r0 r1 adf;obtain⟨p0,p1,y0,y1,hlt⟩:=af.two vv.out;refine dm rfl (fun K hK=>?_);go_wp2_with fail
       refine fH ?_;go_wp2_with fail
       have o9:af _ w.heap.size 49 #[.int .i64 (i:Int),.int .i64 (er:Int)]:=(vv.out.put 0 (.int .i64 (i:Int))).put 1 (.int .i64 (er:Int));have xO:Mp c.g c.W0.heap.size w (aH W7 w.heap.size (.int .i64 (i:Int)) (.int .i64 (er:Int))):=Cx.out.aH (g:=w.heap.size) (.inr (Nat.le_refl _)) _ _;have bR:=dS W7 w.heap.size (.int .i64 (i:Int)) (.int .i64 (er:Int));obtain⟨f0,f1,_⟩:=af.two o9
       (try simp only[Exit.inBlock,Exit.then])
       refine bodyPost_ret (v:=.tuple #[.slice (some ⟨w6.heap.size+1,0,none⟩) 1 1,aG i er]) (by simp[aG,results,Tryz.results109,go_sem,f0,f1]) rfl ?_;obtain⟨items,rest,k',rfl,rfl,rfl,rfl,htr,hdr,hkk,hp⟩:=Aq.out
       ·have hps:=(hp.fresh gW.out).mv bR (fun b hb=>by have:=HW0.out;subst hb;exact⟨by omega,by omega,_,_,(by decide),vv.out⟩)
        exact HQ.out _ _ ⟨_,1,k',rfl,(jy.out items (htr.base HSb.out)).other vv.out (by decide) bR,hdr,hkk,hps,xO⟩
      |false=>
       cases Ay:Np.dx 123 (t::r)with
       |true=>
        have rO:=hid (show dA c.en (f+1) op (t::r)=kE c.en f 125 op (t::r)from by
         rw[dA];simp only[HX.out];rw[if_neg h4,if_neg h5,if_neg (by simp[MB]),if_neg (by simp[Sv]),if_pos Ay])
        rw[rO.out]at HQ aY;clear h4 h5;go_wp2_with fail
        refine(HA.out 40 _ (bW.out.alloc (.cells #[.int .i64 (t.kind:Int),.string ⟨t.text.toArray⟩,.int .i64 (t.from_:Int),.int .i64 (t.eF:Int)] 115))).mono ?_;rintro _ w3 ⟨rfl,hf⟩;have bJ:=hid ((bW.out.alloc (.cells #[.int .i64 (t.kind:Int),.string ⟨t.text.toArray⟩,.int .i64 (t.from_:Int),.int .i64 (t.eF:Int)] 115)).trans hf);have HB3:=hid (hf.blk (MC.out.alloc (.cells #[.int .i64 (t.kind:Int),.string ⟨t.text.toArray⟩,.int .i64 (t.from_:Int),.int .i64 (t.eF:Int)] 115)) fun h=>h);have HT3:=hid (hf.blk (af.new w2 115 #[.int .i64 (t.kind:Int),.string ⟨t.text.toArray⟩,.int .i64 (t.from_:Int),.int .i64 (t.eF:Int)]) fun h=>h);clear hf;rw[MB];go_wp2_with fail
        refine(HA.out 91 _ bJ.out).mono ?_;rintro _ w4 ⟨rfl,hf⟩;have eZ:=hid (bJ.out.trans hf);have iB:=hid (hf.blk HB3.out fun h=>h);have nU:=hid (hf.blk HT3.out fun h=>h);clear hf;rw[Sv];go_wp2_with fail
        refine(HA.out 123 _ eZ.out).mono ?_;rintro _ w5 ⟨rfl,hf⟩;have eY:=hid (eZ.out.trans hf);have eO:=hid (hf.blk iB.out fun h=>h);have iW:=hid (hf.blk nU.out fun h=>h);clear hf;rw[Ay];go_wp2_with fail
        have iI:=hid (Mp.fresh (g:=c.g) (B:=c.W0.heap.size) eY.out);have tK:=eO;generalize w5=W2 at iI tK eY⊢;refine(Rc.out 125 W2 (H.out.fresh eY.out) aY.out).mono ?_;intro e w3 hres;generalize kE c.en f 125 op (t::r)=X at aY HQ hres;cases X with
        |out=>exact absurd rfl aY.out
        |ok items rest=>
         obtain⟨A,cp,k',rfl,htr,hdr,hkk,hp,hm⟩:=hres;have rM:=hid (iI.out.trans hm);have dY:=hid (hm.blk tK.out (by omega) (by decide));have jK:=hid htr;have HDR:=hid hdr;have HKK:=hid hkk;have oL:=hid hp;clear hm htr hdr hkk hp;obtain⟨q0,q1,z0,z1,hlt3⟩:=af.two dY.out
         (try unfold aG)
         go_wp2_with fail
         have n1:=dY.out.fT (.int .i64 0) (.int .i64 0);have iU:Mp c.g c.W0.heap.size w (aH w3 (w.heap.size) (.int .i64 0) (.int .i64 0)):=rM.out.aH (g:=w.heap.size) (.inr (by omega)) (.int .i64 0) (.int .i64 0);have fA:=dS w3 (w.heap.size) (.int .i64 0) (.int .i64 0);simp only[aH]at n1 iU fA;generalize (World.setCell (World.setCell w3 ⟨w.heap.size,0,none⟩ _) ⟨w.heap.size,1,none⟩ _)=W4 at n1 iU fA⊢;obtain⟨f0,f1,_⟩:=af.two n1
         (try simp only[Exit.inBlock,Exit.then])
         refine bodyPost_ret (v:=.tuple #[.slice A items.length cp,aG 0 0]) (by simp[aG,results,Tryz.results109,go_sem,f0,f1]) rfl ?_;have hps:=oL.out.mv fA (fun b hb=>by have:=HW0.out;subst hb;exact⟨by omega,by omega,_,_,(by decide),dY.out⟩);exact HQ.out _ _ ⟨A,cp,k',rfl,(jK.out.base iI.out.size).other dY.out (by decide) fA,HDR.out,by have:=HKK.out;omega,hps,iU⟩
       |false=>
        exact absurd (show dA c.en (f+1) op (t::r)=.out from by
         rw[dA];simp only[HX.out];rw[if_neg h4,if_neg h5,if_neg (by simp[MB]),if_neg (by simp[Sv]),if_neg (by simp[Ay])];rfl) aY.out
theorem Sw(F:Fn)(a b:Array Value)(w:World):(binOp .eql 82 (.func F a b) .nilFunc).run Tryz.prog w=.ok (.bool false) w:=by
 have h:∀d,(Op.equalIn (d+1) 82 (.func F a b) .nilFunc).run Tryz.prog w=.ok false w:=fun d=>by simp[Op.equalIn,run_underlying Tryz.underlying82]
 simp only[binOp];simp[Op.equal,Op.maxDepth,h 9999]
theorem U4(w:World):(binOp .eql 82 .nilFunc .nilFunc).run Tryz.prog w=.ok (.bool true) w:=by
 have h:∀d,(Op.equalIn (d+1) 82 .nilFunc .nilFunc).run Tryz.prog w=.ok true w:=fun d=>by simp[Op.equalIn,run_underlying Tryz.underlying82]
 simp only[binOp];simp[Op.equal,Op.maxDepth,h 9999]
theorem Yn(c:Cf)(hc:c.Good)(bm:Nat)(hnm:c.Dn bm)(f:Nat)(henc:xM c f)(hname:Jo c 1):xN c (f+1):=by
 intro k op w h hop hne;have htl:=hc.tl;have FH:=hid (fun(w':World) (hf:ag w w')=>IC c hc k op w' (h.fresh hf));have HT:=hid (fun(w':World) (hf:ag w w')=>qO c hc k op w' (h.fresh hf));have HA:=hid (fun(b:UInt8) (w':World) (hf:ag w w')=>vE c hc k op b w' (h.fresh hf));have HR:=hid (fun(w':World) (hf:ag w w')=>Cu c hc k op w' (h.fresh hf));have ade:=hid (fun(s:ByteArray) (w':World) (hf:ag w w')=>JW c k op s w' (h.fresh hf));have JN:=hid hname;have OJ:=hid henc;have agx:=hid hc.txt;have H:=hid h;have oJ:=hid hop;have HW0:=hid h.low.size;have hgl:c.g<w.heap.size:=h.Ap;have aY:=hid hne;have uf:=hid hnm;have Sr:=hid (hnm.at h);refine Calls.via fun Q hQ=>?_
 have HQ:=hid hQ;clear hne h hop hc hQ hname henc hnm;generalize hl:c.T.drop k=l at FH HT HA HR aY HQ;unfold Jm at FH;rw[hl]at FH;have HL:=hid hl;clear hl;unfold lV;go_enter Tryz.func140,Tryz.ntmps140;go_wp2_with fail
 refine(FH.out _ (((M _ _).alloc _).alloc _)).mono ?_;rintro e w1 (⟨x,b,hx,rfl,htr,hp,hm⟩|⟨hx,rfl,hf⟩)
 ·have Zi:=hid ((Mp.fresh (((M _ w).alloc _).alloc _)).trans hm)
  have lU:=hid (hm.blk ((af.new w 24 yM).alloc (.cells #[.int .i64 0,.int .i64 0] 49)) (by omega) (by decide));have tL:=hid (hm.blk (af.new2 w (.cells yM 24) 49 #[.int .i64 0,.int .i64 0]) (by omega) (by decide));have agy:aP (w.heap.size+1+1) w1 [x] (.slice (some ⟨b,0,none⟩) 1 1):=htr.base (by simp);have jK:=hid agy;have oL:=hid hp
  have HX:=hid (show pArg c.en (f+1) op l=.ok (Np.slot [x]) (c.T.drop (k+1))from by
   cases l with
   |nil=>cases hx
   |cons t r=>
    have hr:c.T.drop (k+1)=r:=by rw[←List.tail_drop,HL.out];rfl
    rw[hr,pArg];simp only[show Np.fO t=some x from hx])
  rw[HX.out]at HQ;clear hm htr agy hp hx;go_wp2_with fail
  refine(j6 (some ⟨b,0,none⟩) 1 1 _).mono ?_;rintro _ w7 ⟨rfl,hf⟩;have iY:=hid (hf.blk lU.out fun h=>h);have jg:=hid (hf.blk tL.out fun h=>h);have HM:=hid (Zi.out.trans (Mp.fresh hf));have HP:=hid (oL.out.fresh hf);have Sy:=hid (jK.out.fresh hf);clear hf;obtain⟨p0,p1,p2,p3,y0,y1,y2,y3,lW⟩:=af.four iY.out;obtain⟨q0,q1,z0,z1,hlt1⟩:=af.two jg.out;go_wp2_with fail
  have hne:w.heap.size≠w.heap.size+1:=by omega
  have n1:=(iY.out.gH (.int .i64 1) (.string ⟨#[]⟩) (.int .i64 0) (.slice (some ⟨b,0,none⟩) 1 1)).nJ hne (.int .i64 0) (.int .i64 0);have IQ:=jg.out.uJ (Ne.symm hne) (.int .i64 1) (.string ⟨#[]⟩) (.int .i64 0) (.slice (some ⟨b,0,none⟩) 1 1);have n2:=IQ.fT (.int .i64 0) (.int .i64 0);have hps:=(HP.out.aO iY.out (by decide) (by omega) HW0.out (.int .i64 1) (.string ⟨#[]⟩) (.int .i64 0) (.slice (some ⟨b,0,none⟩) 1 1)).aH IQ (by decide) (by omega) (by have:=HW0.out;omega) (.int .i64 0) (.int .i64 0);have IU:=(Sy.out.far (yL w7 w.heap.size (.int .i64 1) (.string ⟨#[]⟩) (.int .i64 0) (.slice (some ⟨b,0,none⟩) 1 1)) (by omega)).other IQ (by decide) (dS _ (w.heap.size+1) (.int .i64 0) (.int .i64 0));have pq:Mp c.g c.W0.heap.size w _:=(HM.out.aO (g:=w.heap.size) (.inr (Nat.le_refl _)) (.int .i64 1) (.string ⟨#[]⟩) (.int .i64 0) (.slice (some ⟨b,0,none⟩) 1 1)).aH (g:=w.heap.size+1) (.inr (by omega)) (.int .i64 0) (.int .i64 0);obtain⟨g0,g1,g2,g3,_⟩:=af.four n1;obtain⟨f0,f1,_⟩:=af.two n2;simp only[aH,aO]at g0 g1 g2 g3 f0 f1 hps IU pq
  (try simp only[Exit.inBlock,Exit.then])
  refine bodyPost_ret (v:=.tuple #[.agg #[.int .i64 1,.string ⟨#[]⟩,.int .i64 0,.slice (some ⟨b,0,none⟩) 1 1],aG 0 0]) (by simp[aG,results,Tryz.results140,go_sem,f0,f1,g0,g1,g2,g3]) rfl ?_;exact HQ.out _ _ ⟨some ⟨b,0,none⟩,1,k+1,rfl,IU.base (by omega),Nat.zero_le _,rfl,by omega,hps,pq⟩
 ·have aK:=hid (show ag w w1 from Touch.pre (Touch.pre hf))
  have lU:=hid (hf.blk ((af.new w 24 yM).alloc (.cells #[.int .i64 0,.int .i64 0] 49)) (fun h=>h));have tL:=hid (hf.blk (af.new2 w (.cells yM 24) 49 #[.int .i64 0,.int .i64 0]) (fun h=>h));clear hf;cases l with
  |nil=>
   have Ay:Np.dx 123 ([]:List aB)=false:=rfl;exact absurd (show pArg c.en (f+1) op []=.out from by rw[pArg];rfl) aY.out
  |cons t r=>
   have HK:=hid (show k<c.T.length from Br (by rw[HL.out];exact List.cons_ne_nil _ _));have HX:=hid (show Np.fO t=none from hx);clear hx;unfold yK at HT;go_wp2_with fail
   refine(HT.out _ aK.out).mono ?_;rintro _ w2 ⟨rfl,hf⟩;have hf3:=(aK.out.trans hf).alloc (.cells #[.int .i64 (t.kind:Int),.string ⟨t.text.toArray⟩,.int .i64 (t.from_:Int),.int .i64 (t.eF:Int)] 115)|>.alloc (.cells #[.int .i64 0,.int .i64 0] 49)
   have hn3:=(hf.blk lU.out fun h=>h).alloc (.cells #[.int .i64 (t.kind:Int),.string ⟨t.text.toArray⟩,.int .i64 (t.from_:Int),.int .i64 (t.eF:Int)] 115)|>.alloc (.cells #[.int .i64 0,.int .i64 0] 49)
   have hb3:=(hf.blk tL.out fun h=>h).alloc (.cells #[.int .i64 (t.kind:Int),.string ⟨t.text.toArray⟩,.int .i64 (t.from_:Int),.int .i64 (t.eF:Int)] 115)|>.alloc (.cells #[.int .i64 0,.int .i64 0] 49)
   have ht3:af _ w2.heap.size 115 #[.int .i64 (t.kind:Int),.string ⟨t.text.toArray⟩,.int .i64 (t.from_:Int),.int .i64 (t.eF:Int)]:=(af.new w2 115 #[.int .i64 (t.kind:Int),.string ⟨t.text.toArray⟩,.int .i64 (t.from_:Int),.int .i64 (t.eF:Int)]).alloc (.cells #[.int .i64 0,.int .i64 0] 49);have h83:af _ (w2.heap.size+1) 49 #[.int .i64 0,.int .i64 0]:=af.new2 w2 (.cells #[.int .i64 (t.kind:Int),.string ⟨t.text.toArray⟩,.int .i64 (t.from_:Int),.int .i64 (t.eF:Int)] 115) 49 #[.int .i64 0,.int .i64 0];have HS2:=hid (show w.heap.size+1<w2.heap.size from(hf.blk tL.out fun h=>h).lt);clear hf;go_wp2_with fail
   generalize ((w2.alloc (.cells #[.int .i64 (t.kind:Int),.string ⟨t.text.toArray⟩,.int .i64 (t.from_:Int),.int .i64 (t.eF:Int)] 115)).alloc (.cells #[.int .i64 0,.int .i64 0] 49))=w3 at hf3 hn3 hb3 ht3 h83⊢;have bJ:=hid hf3;have oF:=hid hn3;have dY:=hid hb3;have Ym:=hid ht3;have agz:=hid h83;clear hf3 hn3 hb3 ht3 h83
   have Rc:=hid (fun(w':World) (hp:Ps c k op w') (hne:kE c.en f 125 op (t::r)≠.out)=>show Calls _ _ _ _ (oK c k op (kE c.en f 125 op (t::r)) w')from by
    have h:=OJ.out k op 125 w' hp oJ.out HK.out;rw[HL.out]at h;exact h hne)
   cases Ay:Np.dx 123 (t::r)with
   |true=>
    have rO:=hid (show pArg c.en (f+1) op (t::r)=(kE c.en f 125 op (t::r)).map Np.slot from by
     rw[pArg];simp only[HX.out];rw[if_pos Ay])
    rw[rO.out]at HQ aY;refine(HA.out 123 _ bJ.out).mono ?_;rintro _ w4 ⟨rfl,hf⟩;have eZ:=hid (bJ.out.trans hf);have Sz:=hid (hf.blk oF.out fun h=>h);have Az:=hid (hf.blk dY.out fun h=>h);have adg:=hid (hf.blk Ym.out fun h=>h);have adh:=hid (hf.blk agz.out fun h=>h);have Es:=hid (Mp.fresh (g:=c.g) (B:=c.W0.heap.size) eZ.out);clear hf;rw[Ay];go_wp2_with fail
    refine(Rc.out w4 (H.out.fresh eZ.out) (R.oC aY.out)).mono ?_;intro e w5 hres;have hparts:=hres.parts (R.oC aY.out);clear hres;generalize kE c.en f 125 op (t::r)=X at aY HQ hparts;obtain⟨A,n,cp,i,er,rfl,hm,hend⟩:=hparts;have Ga:=hid (Es.out.trans hm);have Nf:=hid (hm.blk Sz.out (by omega) (by decide));have adi:=hid (hm.blk Az.out (by omega) (by decide));have FJ:=hid (hm.blk adh.out (by have:=HS2.out;omega) (by decide));have hs4:w.heap.size+1<w4.heap.size:=Az.out.lt;clear hm;obtain⟨items,rest,k',hX,rfl,rfl,rfl,htr,hdr,hkk,hp⟩:=hend
    ·have jK:=hid htr
     have HDR:=hid hdr;have HKK:=hid hkk;have wN:=hid hp;clear htr hdr hkk hp;rw[hX]at HQ;clear hX;obtain⟨q0,q1,z0,z1,hlt3⟩:=af.two FJ.out
     (try unfold aG)
     go_wp2_with fail
     have b8:=FJ.out.fT (.int .i64 0) (.int .i64 0);have bn:=Nf.out.nJ (L:=w.heap.size) (g:=w2.heap.size+1) (by have:=HS2.out;omega) (.int .i64 0) (.int .i64 0);have bf:=adi.out.nJ (L:=w.heap.size+1) (g:=w2.heap.size+1) (by have:=HS2.out;omega) (.int .i64 0) (.int .i64 0);have GJ:Mp c.g c.W0.heap.size w _:=Ga.out.aH (g:=w2.heap.size+1) (.inr (by have:=HS2.out;omega)) (.int .i64 0) (.int .i64 0);have yY:=wN.out.aH FJ.out (by decide) (by have:=HS2.out;omega) (by have:=HS2.out;have:=HW0.out;omega) (.int .i64 0) (.int .i64 0);have FK:=jK.out.other FJ.out (by decide) (dS w5 (w2.heap.size+1) (.int .i64 0) (.int .i64 0));simp only[aH]at b8 bn bf GJ yY FK;generalize (World.setCell (World.setCell w5 ⟨w2.heap.size+1,0,none⟩ _) ⟨w2.heap.size+1,1,none⟩ _)=W6 at b8 bn bf GJ yY FK⊢;clear q0 q1 z0 z1 hlt3;have ic:=hid bn;have KO:=hid bf;have Dp:=hid GJ;have pg:=hid yY;have Sm:=hid FK;clear b8 bn bf GJ yY FK;refine(j6 A items.length cp _).mono ?_;rintro _ w7 ⟨rfl,hf⟩;have iY:=hid (hf.blk ic.out fun h=>h);have jg:=hid (hf.blk KO.out fun h=>h);have HM:=hid (Dp.out.trans (Mp.fresh hf));have HP:=hid (pg.out.fresh hf);have Sy:=hid (Sm.out.fresh hf);clear hf;obtain⟨p0,p1,p2,p3,y0,y1,y2,y3,lW⟩:=af.four iY.out;obtain⟨q0,q1,z0,z1,hlt1⟩:=af.two jg.out;go_wp2_with fail
     have hne:w.heap.size≠w.heap.size+1:=by omega
     have n1:=(iY.out.gH (.int .i64 1) (.string ⟨#[]⟩) (.int .i64 0) (.slice A items.length cp)).nJ hne (.int .i64 0) (.int .i64 0);have IQ:=jg.out.uJ (Ne.symm hne) (.int .i64 1) (.string ⟨#[]⟩) (.int .i64 0) (.slice A items.length cp);have n2:=IQ.fT (.int .i64 0) (.int .i64 0);have hps:=(HP.out.aO iY.out (by decide) (by omega) HW0.out (.int .i64 1) (.string ⟨#[]⟩) (.int .i64 0) (.slice A items.length cp)).aH IQ (by decide) (by omega) (by have:=HW0.out;omega) (.int .i64 0) (.int .i64 0);have IU:=(Sy.out.far (yL w7 w.heap.size (.int .i64 1) (.string ⟨#[]⟩) (.int .i64 0) (.slice A items.length cp)) (by omega)).other IQ (by decide) (dS _ (w.heap.size+1) (.int .i64 0) (.int .i64 0));have pq:Mp c.g c.W0.heap.size w _:=(HM.out.aO (g:=w.heap.size) (.inr (Nat.le_refl _)) (.int .i64 1) (.string ⟨#[]⟩) (.int .i64 0) (.slice A items.length cp)).aH (g:=w.heap.size+1) (.inr (by omega)) (.int .i64 0) (.int .i64 0);obtain⟨g0,g1,g2,g3,_⟩:=af.four n1;obtain⟨f0,f1,_⟩:=af.two n2;simp only[aH,aO]at g0 g1 g2 g3 f0 f1 hps IU pq
     (try simp only[Exit.inBlock,Exit.then])
     refine bodyPost_ret (v:=.tuple #[.agg #[.int .i64 1,.string ⟨#[]⟩,.int .i64 0,.slice A items.length cp],aG 0 0]) (by simp[aG,results,Tryz.results140,go_sem,f0,f1,g0,g1,g2,g3]) rfl ?_;exact HQ.out _ _ ⟨A,cp,k',rfl,IU.base Es.out.size,Nat.zero_le _,HDR.out,HKK.out,hps,pq⟩
   |false=>
    refine(HA.out 123 _ bJ.out).mono ?_;rintro _ w4 ⟨rfl,hf⟩;have eZ:=hid (bJ.out.trans hf);have Sz:=hid (hf.blk oF.out fun h=>h);have Az:=hid (hf.blk dY.out fun h=>h);have adg:=hid (hf.blk Ym.out fun h=>h);have adh:=hid (hf.blk agz.out fun h=>h);have Es:=hid (Mp.fresh (g:=c.g) (B:=c.W0.heap.size) eZ.out);clear hf;rw[Ay];go_wp2_with fail
    by_cases h4:t.kind=4
    ·have e4:=Bq _ 4 h4
     have H4:=hid h4;cases hnf:qP t.text with
     |some F=>
      exact absurd (show pArg c.en (f+1) op (t::r)=.out from by
       rw[pArg];simp only[HX.out];rw[if_neg (by simp[Ay]),if_neg (fun h=>by rw[(zu t.text).2 h.2]at hnf;cases hnf)];rfl) aY.out
     |none=>
      have rO:=hid (show pArg c.en (f+1) op (t::r)=(Np.plainName t r).map Np.slot from by
       rw[pArg];simp only[HX.out];rw[if_neg (by simp[Ay]),if_pos ⟨h4,(zu t.text).1 hnf⟩])
      rw[rO.out]at HQ aY;have VQ:=hid (FD c 0 op t r hnf);clear h4;obtain⟨t0,t1,t2,t3,_,_,_,_,FI⟩:=af.four (adg.out.drewN 1);obtain⟨ov,hb,_⟩:=((H.out.fresh eZ.out).fresh ((M _ _).drewN 1)).box;have q6:=(hb.cell 6).trans (congrArg some uf.out.1);have hg6:=hb.lt;have hm1:=((eZ.out.drewN 1).block bm (Array.getElem?_eq_some_iff.1 Sr.out).1 (fun h=>h)).trans Sr.out;have hlk:=OU (w:=w4.drewN 1) (bm:=bm) (g:=c.g) (clock:=9) hm1 t.text false;rw[hnf]at hlk;simp only[if_false,Bool.false_eq_true]at hlk
      (try unfold mM at hlk)
      have hef:=Sw;have hen:=U4;clear hb hm1;refine uV (fun W=>W=w4.drewN 1) [(0,true),(1,true),(2,true),(3,true),(4,true),(5,true),(6,true),(7,true),(8,true),(9,true),(10,true),(11,true),(12,true),(13,true)] (by kernel_rfl) (fun _ _ d _ _ h=>by cases d<;>exact h) (by kernel_rfl) rfl ?_;refine ak rfl (fun K hK=>?_);rw[if_pos (by rfl)];refine⟨(.pointer (some ⟨w2.heap.size,0,none⟩)),fun W hW=>?_,?_⟩
      ·subst hW
       go_simp
      go_simp;refine hK _ ?_;clear hK K;refine ak rfl (fun K hK=>?_);rw[if_pos (by rfl)];refine⟨(.int .i64 (t.kind:Int)),fun W hW=>?_,?_⟩
      ·subst hW
       go_simp
      go_simp;refine hK _ ?_;clear hK K;refine ak rfl (fun K hK=>?_);rw[if_pos (by rfl)];refine⟨(.bool true),fun W hW=>?_,?_⟩
      ·subst hW
       go_simp;have:=H4.out;omega
      go_simp;refine hK _ ?_;clear hK K;refine ak rfl (fun K hK=>?_);rw[if_pos (by rfl)];refine⟨(.bool true),fun W hW=>?_,?_⟩
      ·subst hW
       go_simp
      go_simp;refine hK _ ?_;clear hK K;refine ak rfl (fun K hK=>?_);rw[if_pos (by rfl)];refine⟨(.pointer (some ⟨c.g,0,none⟩)),fun W hW=>?_,?_⟩
      ·subst hW
       go_simp
      go_simp;refine hK _ ?_;clear hK K;refine ak rfl (fun K hK=>?_);rw[if_pos (by rfl)];refine⟨(.pointer (some ⟨c.g,0,none⟩)),fun W hW=>?_,?_⟩
      ·subst hW
       go_simp
      go_simp;refine hK _ ?_;clear hK K;refine ak rfl (fun K hK=>?_);rw[if_pos (by rfl)];refine⟨(.pointer (some ⟨c.g,6,none⟩)),fun W hW=>?_,?_⟩
      ·subst hW
       go_simp
      go_simp;refine hK _ ?_;clear hK K;refine ak rfl (fun K hK=>?_);rw[if_pos (by rfl)];refine⟨(.map (some bm)),fun W hW=>?_,?_⟩
      ·subst hW
       go_simp
      go_simp;refine hK _ ?_;clear hK K;refine ak rfl (fun K hK=>?_);rw[if_pos (by rfl)];refine⟨(.pointer (some ⟨w2.heap.size,1,none⟩)),fun W hW=>?_,?_⟩
      ·subst hW
       go_simp
      go_simp;refine hK _ ?_;clear hK K;refine ak rfl (fun K hK=>?_);rw[if_pos (by rfl)];refine⟨(.string ⟨t.text.toArray⟩),fun W hW=>?_,?_⟩
      ·subst hW
       go_simp
      go_simp;refine hK _ ?_;clear hK K;refine ak rfl (fun K hK=>?_);rw[if_pos (by rfl)];refine⟨.nilFunc,fun W hW=>?_,?_⟩
      ·subst hW
       go_simp
      go_simp;refine hK _ ?_;clear hK K;refine ak rfl (fun K hK=>?_);rw[if_pos (by rfl)];refine⟨(.bool true),fun W hW=>?_,?_⟩
      ·subst hW
       go_simp
      go_simp;refine hK _ ?_;clear hK K;refine ak rfl (fun K hK=>?_);rw[if_pos (by rfl)];refine⟨(.bool true),fun W hW=>?_,?_⟩
      ·subst hW
       go_simp
      go_simp;refine hK _ ?_;clear hK K;refine ak rfl (fun K hK=>?_);rw[if_pos (by rfl)];refine⟨(.bool true),fun W hW=>?_,?_⟩
      ·subst hW
       go_simp
      go_simp;refine hK _ ?_;clear hK K;refine sj ?_;have eY:=hid (eZ.out.drewN 1);have ad3:=hid (Sz.out.drewN 1);have ad4:=hid (Az.out.drewN 1);have adj:=hid (adg.out.drewN 1);have ad5:=hid (adh.out.drewN 1);clear t0 t1 t2 t3 FI q6 hg6 hlk hef hen;generalize w4.drewN 1=w6 at eY ad3 ad4 adj ad5⊢;obtain⟨t0,t1,t2,t3,_,_,_,_,FI⟩:=af.four adj.out;go_wp2_with fail
      clear t0 t1 t2 t3 FI;refine(ade.out ⟨t.text.toArray⟩ _ eY.out).mono ?_;rintro _ w7 ⟨rfl,hf⟩;have gW:=hid (eY.out.trans hf);have Av:=hid (hf.blk ad3.out fun h=>h);have Yo:=hid (hf.blk ad4.out fun h=>h);have ajm:=hid (hf.blk adj.out fun h=>h);have ajn:=hid (hf.blk ad5.out fun h=>h);have Cx:=hid (Mp.fresh (g:=c.g) (B:=c.W0.heap.size) gW.out);clear hf;obtain⟨t0,t1,t2,t3,_,_,_,_,FI⟩:=af.four ajm.out;go_wp2_with fail
      clear t0 t1 t2 t3 FI;refine(JN.out k op t r w7 (H.out.fresh gW.out) oJ.out HL.out (by rw[VQ.out];exact R.oC aY.out)).mono ?_;intro e w5 hres;have hparts:=hres.parts (by rw[VQ.out];exact R.oC aY.out);rw[VQ.out]at hparts;clear hres;generalize Np.plainName t r=X at aY HQ VQ hparts;obtain⟨A,n,cp,i,er,rfl,hm,hend⟩:=hparts;have Ga:=hid (Cx.out.trans hm);have Nf:=hid (hm.blk Av.out (by omega) (by decide));have adi:=hid (hm.blk Yo.out (by omega) (by decide));have FJ:=hid (hm.blk ajn.out (by have:=HS2.out;omega) (by decide));have hs4:w.heap.size+1<w7.heap.size:=Yo.out.lt;clear hm;obtain⟨items,rest,k',hX,rfl,rfl,rfl,htr,hdr,hkk,hp⟩:=hend
      ·have jK:=hid htr
       have HDR:=hid hdr;have HKK:=hid hkk;have wN:=hid hp;clear htr hdr hkk hp;rw[hX]at HQ;clear hX;obtain⟨q0,q1,z0,z1,hlt3⟩:=af.two FJ.out
       (try unfold aG)
       go_wp2_with fail
       have b8:=FJ.out.fT (.int .i64 0) (.int .i64 0);have bn:=Nf.out.nJ (L:=w.heap.size) (g:=w2.heap.size+1) (by have:=HS2.out;omega) (.int .i64 0) (.int .i64 0);have bf:=adi.out.nJ (L:=w.heap.size+1) (g:=w2.heap.size+1) (by have:=HS2.out;omega) (.int .i64 0) (.int .i64 0);have GJ:Mp c.g c.W0.heap.size w _:=Ga.out.aH (g:=w2.heap.size+1) (.inr (by have:=HS2.out;omega)) (.int .i64 0) (.int .i64 0);have yY:=wN.out.aH FJ.out (by decide) (by have:=HS2.out;omega) (by have:=HS2.out;have:=HW0.out;omega) (.int .i64 0) (.int .i64 0);have FK:=jK.out.other FJ.out (by decide) (dS w5 (w2.heap.size+1) (.int .i64 0) (.int .i64 0));simp only[aH]at b8 bn bf GJ yY FK;generalize (World.setCell (World.setCell w5 ⟨w2.heap.size+1,0,none⟩ _) ⟨w2.heap.size+1,1,none⟩ _)=W6 at b8 bn bf GJ yY FK⊢;clear q0 q1 z0 z1 hlt3;have ic:=hid bn;have KO:=hid bf;have Dp:=hid GJ;have pg:=hid yY;have Sm:=hid FK;clear b8 bn bf GJ yY FK;refine(j6 A items.length cp _).mono ?_;rintro _ w7 ⟨rfl,hf⟩;have iY:=hid (hf.blk ic.out fun h=>h);have jg:=hid (hf.blk KO.out fun h=>h);have HM:=hid (Dp.out.trans (Mp.fresh hf));have HP:=hid (pg.out.fresh hf);have Sy:=hid (Sm.out.fresh hf);clear hf;obtain⟨p0,p1,p2,p3,y0,y1,y2,y3,lW⟩:=af.four iY.out;obtain⟨q0,q1,z0,z1,hlt1⟩:=af.two jg.out;go_wp2_with fail
       have hne:w.heap.size≠w.heap.size+1:=by omega
       have n1:=(iY.out.gH (.int .i64 1) (.string ⟨#[]⟩) (.int .i64 0) (.slice A items.length cp)).nJ hne (.int .i64 0) (.int .i64 0);have IQ:=jg.out.uJ (Ne.symm hne) (.int .i64 1) (.string ⟨#[]⟩) (.int .i64 0) (.slice A items.length cp);have n2:=IQ.fT (.int .i64 0) (.int .i64 0);have hps:=(HP.out.aO iY.out (by decide) (by omega) HW0.out (.int .i64 1) (.string ⟨#[]⟩) (.int .i64 0) (.slice A items.length cp)).aH IQ (by decide) (by omega) (by have:=HW0.out;omega) (.int .i64 0) (.int .i64 0);have IU:=(Sy.out.far (yL w7 w.heap.size (.int .i64 1) (.string ⟨#[]⟩) (.int .i64 0) (.slice A items.length cp)) (by omega)).other IQ (by decide) (dS _ (w.heap.size+1) (.int .i64 0) (.int .i64 0));have pq:Mp c.g c.W0.heap.size w _:=(HM.out.aO (g:=w.heap.size) (.inr (Nat.le_refl _)) (.int .i64 1) (.string ⟨#[]⟩) (.int .i64 0) (.slice A items.length cp)).aH (g:=w.heap.size+1) (.inr (by omega)) (.int .i64 0) (.int .i64 0);obtain⟨g0,g1,g2,g3,_⟩:=af.four n1;obtain⟨f0,f1,_⟩:=af.two n2;simp only[aH,aO]at g0 g1 g2 g3 f0 f1 hps IU pq
       (try simp only[Exit.inBlock,Exit.then])
       refine bodyPost_ret (v:=.tuple #[.agg #[.int .i64 1,.string ⟨#[]⟩,.int .i64 0,.slice A items.length cp],aG 0 0]) (by simp[aG,results,Tryz.results140,go_sem,f0,f1,g0,g1,g2,g3]) rfl ?_;exact HQ.out _ _ ⟨A,cp,k',rfl,IU.base Cx.out.size,Nat.zero_le _,HDR.out,HKK.out,hps,pq⟩
    ·have e4:=uH _ 4 h4
     have e4p:¬((t.kind:Int)=4):=by omega
     exact absurd (show pArg c.en (f+1) op (t::r)=.out from by
      rw[pArg];simp only[HX.out];rw[if_neg (by simp[Ay]),if_neg (fun h=>h4 h.1)];rfl) aY.out
end
end Go.Proofs.YtcgbccfpcgaikaaGreatDoor
