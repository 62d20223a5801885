/- Part 38 of 46 of a proof. No condition. -/
import Derived.Test.YtcgbccfpcgaikaaGreatDoorYm37
set_option maxRecDepth 100000
set_option maxHeartbeats 400000
namespace Go.Proofs.YtcgbccfpcgaikaaGreatDoor
section
open Go.RowKit
open Tr (Nd)
open Lx (aB)
open Np (R cZ kE eB eP dA bV fD di pArg)
attribute [local go_sem] gD stillUpon
theorem R.oC{α β:Type}{f:α→β}{r:R α}(h:r.map f≠.out):r≠.out:=fun e=>h (by rw[e];rfl)
def IL(c:Cf)(f:Nat):Prop:=∀(k:Nat) (op:List Nat) (w:World),Ps c k op w→op.length≤k→k<c.T.length→bV c.en f 2 op (c.T.drop (k+1))≠.out→
 Calls Tryz.prog 66 #[lV c] w (oK c k op ((bV c.en f 2 op (c.T.drop (k+1))).map fun ks=>[.mk 5 [] 0 ks]) w)
theorem Mx(c:Cf)(hc:c.Good)(f:Nat)(yN:Mw c f 2):IL c f:=by
 intro k op w h hop hk hne;have htl:=hc.tl;have hk4:k≤100000:=by omega
 have HW:=hid yN;have H:=hid h;have oJ:=hid hop;have aY:=hid hne;have HW0:=hid h.low.size;have HK:=hid hk;have hgl:c.g<w.heap.size:=h.Ap;obtain⟨ov,hb,_⟩:=h.box;have q1:=hb.cell 1;have z1:=hb.frozen 1;clear hb h hne yN hc hop;refine Calls.via fun Q hQ=>?_
 have HQ:=hid hQ;clear hQ;unfold lV;have e1:((k:Int)+1)=((k+1:Nat):Int):=by simp
 have HE:=hid e1;clear e1;go_enter Tryz.func66,Tryz.ntmps66;go_wp2_with fail
 have hn:=H.out.next hk ((k:Int)+1) HE.out;have hs:(w.setCell ⟨c.g,1,none⟩ (.int .i64 ((k:Int)+1))).heap.size=w.heap.size:=by simp
 generalize (w.setCell ⟨c.g,1,none⟩ (.int .i64 ((k:Int)+1)))=W1 at hn hs⊢;have hbf:af (W1.alloc (.cells #[.int .i64 0,.int .i64 0] 49)) W1.heap.size 49 #[.int .i64 0,.int .i64 0]:=af.new _ _ _;have hp2:=hn.1.fresh ((M _ _).alloc (.cells #[.int .i64 0,.int .i64 0] 49));have hm2:=hn.2.trans (Mp.fresh ((M _ W1).alloc (.cells #[.int .i64 0,.int .i64 0] 49)));have hs2:(W1.alloc (.cells #[.int .i64 0,.int .i64 0] 49)).heap.size=w.heap.size+1:=by simp[hs]
 rw[hs]at hbf;generalize (W1.alloc (.cells #[.int .i64 0,.int .i64 0] 49))=W2 at hbf hp2 hm2 hs2⊢
 (try rw[hs])
 have jb:=hid hp2;have iI:=hid hm2;have HS2:=hid hs2;have jg:=hid hbf;clear hn hs hbf hp2 hm2 q1 z1 hs2;refine(HW.out (k+1) op 5 [] [] none w.heap.size W2 jb.out (by have:=oJ.out;omega) (by simp[maxLen]) (by simp) (by have:=HS2.out;omega) (.nil _ _) aY.out).mono ?_;intro e w3 hres;generalize bV c.en f 2 op (c.T.drop (k+1))=r at aY HQ hres;cases r with
 |out=>exact absurd rfl aY.out
 |ok ks rest=>
  obtain⟨b,k',rfl,htr,hdr,hkk,hp,hm⟩:=hres;have rM:=hid (iI.out.trans hm);have dY:=hid (hm.blk jg.out (by omega) (by decide));have jK:=hid htr;have HDR:=hid hdr;have HKK:=hid hkk;have oL:=hid hp;clear hm htr hdr hkk hp;obtain⟨q0,q1,z0,z1,hlt3⟩:=af.two dY.out;unfold aG;go_wp2_with fail
  have n1:=dY.out.fT (.int .i64 0) (.int .i64 0);have iU:Mp c.g c.W0.heap.size w (aH w3 w.heap.size (.int .i64 0) (.int .i64 0)):=rM.out.aH (g:=w.heap.size) (.inr (Nat.le_refl _)) (.int .i64 0) (.int .i64 0);have fA:=dS w3 w.heap.size (.int .i64 0) (.int .i64 0);simp only[aH]at n1 iU fA;generalize (World.setCell (World.setCell w3 ⟨w.heap.size,0,none⟩ _) ⟨w.heap.size,1,none⟩ _)=W4 at n1 iU fA⊢;obtain⟨f0,f1,_⟩:=af.two n1
  (try simp only[Exit.inBlock,Exit.then])
  refine bodyPost_ret (v:=.tuple #[.slice (some ⟨b,0,none⟩) 1 1,aG 0 0]) (by simp[aG,results,Tryz.results66,go_sem,f0,f1]) rfl ?_;have hps:=oL.out.mv fA (fun b hb=>by have:=HW0.out;subst hb;exact⟨by omega,by omega,_,_,(by decide),dY.out⟩);exact HQ.out _ _ ⟨_,1,k',rfl,jK.out.other dY.out (by decide) fA,HDR.out,by have:=HKK.out;omega,hps,iU⟩
def Nr(c:Cf)(f:Nat):Prop:=∀(k:Nat) (op:List Nat) (t:aB) (r:List aB) (w:World),Ps c k op w→op.length≤k→c.T.drop k=t::r→bV c.en f 1 op (c.T.drop (k+1))≠.out→
 Calls Tryz.prog 69 #[lV c] w (oK c k op ((bV c.en f 1 op (c.T.drop (k+1))).map fun ks=>[.mk 10 t.text 0 ks]) w)
theorem Sg(c:Cf)(hc:c.Good)(f:Nat)(yN:Mw c f 1):Nr c f:=by
 intro k op t r w h hop hl hne;have htl:=hc.tl;have hk:=Br (c:=c) (k:=k) (by rw[hl];exact List.cons_ne_nil _ _);have hk4:k≤100000:=by omega
 have HT:=hid (fun(w':World) (hf:ag w w')=>qO c hc k op w' (h.fresh hf));have htx:=hc.txt t (List.mem_of_mem_drop (i:=k) (by rw[hl];simp));have kJ:=hid htx;rw[hl]at HT;unfold yK at HT;clear hl htx;have HW:=hid yN;have H:=hid h;have oJ:=hid hop;have aY:=hid hne;have HW0:=hid h.low.size;have HK:=hid hk;have hgl:c.g<w.heap.size:=h.Ap;obtain⟨ov,hb,_⟩:=h.box;have HB:=hid hb;have q1:=hb.cell 1;have z1:=hb.frozen 1;clear hb h hne yN hc hop;refine Calls.via fun Q hQ=>?_
 have HQ:=hid hQ;clear hQ;unfold lV;have e1:((k:Int)+1)=((k+1:Nat):Int):=by simp
 have HE:=hid e1;clear e1;go_enter Tryz.func69,Tryz.ntmps69;go_wp2_with fail
 refine(HT.out _ ((M _ _).alloc _)).mono ?_;rintro _ w1 ⟨rfl,hf⟩;have hf1:ag w w1:=(((M _ _).alloc _).trans hf);have hb1:=hf1.blk HB.out (fun h=>h);have Ns:af w1 w.heap.size 49 #[.int .i64 0,.int .i64 0]:=hf.blk (af.new _ _ _) (fun h=>h);clear hf q1 z1;have q1:=hb1.cell 1;have z1:=hb1.frozen 1;have hg1:=hb1.lt;have aK:=hid hf1;have tL:=hid Ns;clear hf1 hb1 Ns;have r1:=Yf (.int .i64 (t.kind:Int)) (.string ⟨t.text.toArray⟩) (.int .i64 (t.from_:Int)) (.int .i64 (t.eF:Int)) w1;go_wp2_with fail
 clear r1;have hp1:=H.out.fresh aK.out;have hn:=hp1.next hk ((k:Int)+1) HE.out;have hs2:(w1.setCell ⟨c.g,1,none⟩ (.int .i64 ((k:Int)+1))).heap.size=w1.heap.size:=by simp
 have hbf:=tL.out.far (p:=⟨c.g,1,none⟩) (by simp;omega) (.int .i64 ((k:Int)+1));generalize (w1.setCell ⟨c.g,1,none⟩ (.int .i64 ((k:Int)+1)))=W2 at hn hbf hs2⊢;have jb:=hid hn.1;have iI:=hid ((Mp.fresh aK.out).trans hn.2);have HS2:=hid (show w.heap.size<W2.heap.size from hbf.lt);have jg:=hid hbf;clear hn hbf hp1 q1 z1 hs2 hg1;refine(HW.out (k+1) op 10 t.text [] none w.heap.size W2 jb.out (by have:=oJ.out;omega) kJ.out (by simp) (by have:=HS2.out;omega) (.nil _ _) aY.out).mono ?_;intro e w3 hres;generalize bV c.en f 1 op (c.T.drop (k+1))=r at aY HQ hres;cases r with
 |out=>exact absurd rfl aY.out
 |ok ks rest=>
  obtain⟨b,k',rfl,htr,hdr,hkk,hp,hm⟩:=hres;have rM:=hid (iI.out.trans hm);have dY:=hid (hm.blk jg.out (by omega) (by decide));have jK:=hid htr;have HDR:=hid hdr;have HKK:=hid hkk;have oL:=hid hp;clear hm htr hdr hkk hp;obtain⟨q0,q1,z0,z1,hlt3⟩:=af.two dY.out;unfold aG;go_wp2_with fail
  have n1:=dY.out.fT (.int .i64 0) (.int .i64 0);have iU:Mp c.g c.W0.heap.size w (aH w3 w.heap.size (.int .i64 0) (.int .i64 0)):=rM.out.aH (g:=w.heap.size) (.inr (Nat.le_refl _)) (.int .i64 0) (.int .i64 0);have fA:=dS w3 w.heap.size (.int .i64 0) (.int .i64 0);simp only[aH]at n1 iU fA;generalize (World.setCell (World.setCell w3 ⟨w.heap.size,0,none⟩ _) ⟨w.heap.size,1,none⟩ _)=W4 at n1 iU fA⊢;obtain⟨f0,f1,_⟩:=af.two n1
  (try simp only[Exit.inBlock,Exit.then])
  refine bodyPost_ret (v:=.tuple #[.slice (some ⟨b,0,none⟩) 1 1,aG 0 0]) (by simp[aG,results,Tryz.results69,go_sem,f0,f1]) rfl ?_;have hps:=oL.out.mv fA (fun b hb=>by have:=HW0.out;subst hb;exact⟨by omega,by omega,_,_,(by decide),dY.out⟩);exact HQ.out _ _ ⟨_,1,k',rfl,jK.out.other dY.out (by decide) fA,HDR.out,by have:=HKK.out;omega,hps,iU⟩
def Yi(c:Cf)(f:Nat)(op:List Nat)(r:List aB):R (List Nd):=
 if Np.dx 91 r then(kE c.en f 93 op r).bind fun d r'=>(bV c.en f 1 op r').map fun ks=>[.mk 6 [] 0 (Np.slot d::ks)]else(bV c.en f 1 op r).map fun ks=>[.mk 6 [] 0 (Np.slot []::ks)]
def Yj(c:Cf)(f:Nat):Prop:=∀(k:Nat) (op:List Nat) (w:World),Ps c k op w→op.length≤k→k<c.T.length→Yi c f op (c.T.drop (k+1))≠.out→
 Calls Tryz.prog 67 #[lV c] w (oK c k op (Yi c f op (c.T.drop (k+1))) w)
theorem aaR(c:Cf)(hc:c.Good)(f:Nat)(yN:Mw c f 1)(henc:xM c f):Yj c f:=by
 intro k op w h hop hk hne;have htl:=hc.tl;have hk4:k≤100000:=by omega
 have HAT:=hid (fun(w':World) (hp:Ps c (k+1) op w')=>vE c hc (k+1) op 91 w' hp);have ajk:=hid henc;have HW:=hid yN;have H:=hid h;have oJ:=hid hop;have aY:=hid hne;have HW0:=hid h.low.size;have HK:=hid hk;have hgl:c.g<w.heap.size:=h.Ap;obtain⟨ov,hb,_⟩:=h.box;have q1:=hb.cell 1;have z1:=hb.frozen 1;clear hb h hne yN hc hop;refine Calls.via fun Q hQ=>?_
 have HQ:=hid hQ;clear hQ;unfold lV;have e1:((k:Int)+1)=((k+1:Nat):Int):=by simp
 have HE:=hid e1;clear e1;go_enter Tryz.func67,Tryz.ntmps67;go_wp2_with fail
 have hn:=H.out.next hk ((k:Int)+1) HE.out;have hs:(w.setCell ⟨c.g,1,none⟩ (.int .i64 ((k:Int)+1))).heap.size=w.heap.size:=by simp
 generalize (w.setCell ⟨c.g,1,none⟩ (.int .i64 ((k:Int)+1)))=W1 at hn hs⊢;have hbf:af (W1.alloc (.cells #[.int .i64 0,.int .i64 0] 49)) W1.heap.size 49 #[.int .i64 0,.int .i64 0]:=af.new _ _ _;have hp2:=hn.1.fresh ((M _ _).alloc (.cells #[.int .i64 0,.int .i64 0] 49));have hm2:=hn.2.trans (Mp.fresh ((M _ W1).alloc (.cells #[.int .i64 0,.int .i64 0] 49)));have hs2:(W1.alloc (.cells #[.int .i64 0,.int .i64 0] 49)).heap.size=w.heap.size+1:=by simp[hs]
 rw[hs]at hbf;generalize (W1.alloc (.cells #[.int .i64 0,.int .i64 0] 49))=W2 at hbf hp2 hm2 hs2⊢
 (try rw[hs])
 have jb:=hid hp2;have iI:=hid hm2;have HS2:=hid hs2;have jg:=hid hbf;clear hn hs hbf hp2 hm2 q1 z1 hs2;refine(HAT.out _ jb.out).mono ?_;rintro _ w1 ⟨rfl,hf⟩;have aK:=hid hf;clear hf;unfold Yi at aY HQ;cases hat:Np.dx 91 (c.T.drop (k+1))with
 |false=>
  rw[hat,if_neg Bool.false_ne_true]at aY HQ;clear hat;have aY:=hid (R.oC aY.out);go_wp2_with fail
  refine(j6 none (0) 0 _).mono ?_;rintro _ w4 ⟨rfl,jf⟩;have IM:=(aK.out.trans jf).alloc (.cells #[.int .i64 1,.string ⟨#[]⟩,.int .i64 0,.slice none 0 0] 24);have FC:aP w.heap.size (w4.alloc (.cells #[.int .i64 1,.string ⟨#[]⟩,.int .i64 0,.slice none 0 0] 24)) [Np.slot []] (.slice (some ⟨w4.heap.size,0,none⟩) 1 1):=aP.lit (n:=Np.slot []) (aP.nil _ _) (by have:=(aK.out.trans jf).size;have:=HS2.out;omega) (by simp[Np.slot,maxLen,Nd.text]);go_wp2_with fail
  generalize (w4.alloc (.cells #[.int .i64 1,.string ⟨#[]⟩,.int .i64 0,.slice none 0 0] 24))=W5 at IM FC⊢;generalize w4.heap.size=b4 at FC⊢;have Si:=hid (jb.out.fresh IM);have Sj:=hid (iI.out.trans (Mp.fresh IM));have KN:=IM.blk jg.out (fun h=>h);have Sk:=hid KN;have Sl:=hid (show w.heap.size<W5.heap.size from KN.lt);have adb:=hid FC;clear IM FC KN jb iI jg HS2 jf;have jb:=Si;have iI:=Sj;have jg:=Sk;have HS2:=Sl;clear Si Sj Sk Sl;refine(HW.out (k+1) op 6 [] [Np.slot []] (some ⟨b4,0,none⟩) w.heap.size W5 jb.out (by have:=oJ.out;omega) (by simp[maxLen]) (by simp) (by have:=HS2.out;omega) adb.out aY.out).mono ?_;intro e w3 hres;generalize bV c.en f 1 op (c.T.drop (k+1))=r at aY HQ hres;cases r with
  |out=>exact absurd rfl aY.out
  |ok ks rest=>
   obtain⟨b,k',rfl,htr,hdr,hkk,hp,hm⟩:=hres;have rM:=hid (iI.out.trans hm);have dY:=hid (hm.blk jg.out (by omega) (by decide));have jK:=hid htr;have HDR:=hid hdr;have HKK:=hid hkk;have oL:=hid hp;clear hm htr hdr hkk hp;obtain⟨q0,q1,z0,z1,hlt3⟩:=af.two dY.out;unfold aG;go_wp2_with fail
   have n1:=dY.out.fT (.int .i64 0) (.int .i64 0);have iU:Mp c.g c.W0.heap.size w (aH w3 w.heap.size (.int .i64 0) (.int .i64 0)):=rM.out.aH (g:=w.heap.size) (.inr (Nat.le_refl _)) (.int .i64 0) (.int .i64 0);have fA:=dS w3 w.heap.size (.int .i64 0) (.int .i64 0);simp only[aH]at n1 iU fA;generalize (World.setCell (World.setCell w3 ⟨w.heap.size,0,none⟩ _) ⟨w.heap.size,1,none⟩ _)=W4 at n1 iU fA⊢;obtain⟨f0,f1,_⟩:=af.two n1
   (try simp only[Exit.inBlock,Exit.then])
   refine bodyPost_ret (v:=.tuple #[.slice (some ⟨b,0,none⟩) 1 1,aG 0 0]) (by simp[aG,results,Tryz.results67,go_sem,f0,f1]) rfl ?_;have hps:=oL.out.mv fA (fun b hb=>by have:=HW0.out;subst hb;exact⟨by omega,by omega,_,_,(by decide),dY.out⟩);exact HQ.out _ _ ⟨_,1,k',rfl,jK.out.other dY.out (by decide) fA,HDR.out,by have:=HKK.out;omega,hps,iU⟩
 |true=>
  have G9:=hid (Er hat);rw[hat,if_pos rfl]at aY HQ;clear hat;go_wp2_with fail
  have jO:=aK.out.alloc (.cells #[.int .i64 0,.int .i64 0] 49);have hb5:=jO.blk jg.out (fun h=>h);have hx5:=af.new w1 49 #[.int .i64 0,.int .i64 0];have wP:(w1.alloc (.cells #[.int .i64 0,.int .i64 0] 49)).heap.size=w1.heap.size+1:=by simp
  generalize (w1.alloc (.cells #[.int .i64 0,.int .i64 0] 49))=W5 at jO hb5 hx5 wP⊢;have HSX:=hid (show w.heap.size<w1.heap.size from by have:=aK.out.size;have:=HS2.out;omega);have wN:=hid (jb.out.fresh jO);have Ga:=hid (iI.out.trans (Mp.fresh jO));have eO:=hid hb5;have iR:=hid hx5;clear jO hb5 hx5;refine(ajk.out (k+1) op 93 W5 wN.out (by have:=oJ.out;omega) G9.out (fun h=>aY.out (by rw[h];rfl))).mono ?_;intro e w3 hres;generalize kE c.en f 93 op (c.T.drop (k+1))=X at aY HQ hres;cases X with
  |out=>exact absurd rfl aY.out
  |ok d rest=>
   obtain⟨A,cp,k2,rfl,htr,rfl,hkk,hp,hm⟩:=hres;have Sm:=hid htr;have agu:=hid hkk;have pg:=hid hp;have Dp:=hid (Ga.out.trans hm);have gy:=hid (hm.blk eO.out (by omega) (by decide));have iJ:=hid (hm.blk iR.out (by have:=HSX.out;omega) (by decide));obtain⟨q0,q1,z0,z1,hlt3⟩:=af.two iJ.out;have HZ6:=hid (show w.heap.size<W5.heap.size from by have:=HSX.out;omega);clear hm htr hkk hp;unfold aG;go_wp2_with fail
   have hne:w.heap.size≠w1.heap.size:=by have:=HSX.out;omega
   have hw6:=dS w3 w1.heap.size (.int .i64 0) (.int .i64 0);have oo:=gy.out.nJ hne (.int .i64 0) (.int .i64 0);have hp7:=pg.out.mv hw6 (fun b hb=>by have:=HSX.out;have:=HW0.out;subst hb;exact⟨by omega,by omega,_,_,(by decide),iJ.out⟩);have Sn:Mp c.g c.W0.heap.size w (aH w3 w1.heap.size (.int .i64 0) (.int .i64 0)):=Dp.out.aH (g:=w1.heap.size) (.inr (by have:=HSX.out;omega)) (.int .i64 0) (.int .i64 0);have uR:=(Sm.out.base (Nat.le_of_lt HZ6.out)).other iJ.out (by decide) hw6;clear q0 q1 z0 z1 hlt3;simp only[aH]at hw6 oo hp7 Sn uR;generalize (World.setCell (World.setCell w3 ⟨w1.heap.size,0,none⟩ _) ⟨w1.heap.size,1,none⟩ _)=Sq at hw6 oo hp7 Sn uR⊢;clear jb iI jg HS2;have jb:=hid hp7;have iI:=hid Sn;have jg:=hid oo;have HS2:=hid (show Sq.heap.size≥w.heap.size+1 from by have:=oo.lt;omega);have jy:=hid uR;clear hw6 oo hp7 Sn uR;have aY:=hid (show bV c.en f 1 op (c.T.drop k2)≠.out from R.oC aY.out);have HQ:=hid (show∀e w',oK c k op ((bV c.en f 1 op (c.T.drop k2)).map fun ks=>[.mk 6 [] 0 (Np.slot d::ks)]) w e w'→Q e w' from HQ.out);refine(j6 A (d.length) cp _).mono ?_;rintro _ w4 ⟨rfl,jf⟩;have IM:=((M _ _:ag Sq Sq).trans jf).alloc (.cells #[.int .i64 1,.string ⟨#[]⟩,.int .i64 0,.slice A d.length cp] 24);have FC:aP w.heap.size (w4.alloc (.cells #[.int .i64 1,.string ⟨#[]⟩,.int .i64 0,.slice A d.length cp] 24)) [Np.slot d] (.slice (some ⟨w4.heap.size,0,none⟩) 1 1):=aP.lit (n:=Np.slot d) (jy.out.fresh ((M _ _:ag Sq Sq).trans jf)) (by have:=((M _ _:ag Sq Sq).trans jf).size;have:=HS2.out;omega) (by simp[Np.slot,maxLen,Nd.text]);go_wp2_with fail
   generalize (w4.alloc (.cells #[.int .i64 1,.string ⟨#[]⟩,.int .i64 0,.slice A d.length cp] 24))=W5 at IM FC⊢;generalize w4.heap.size=b4 at FC⊢;have Si:=hid (jb.out.fresh IM);have Sj:=hid (iI.out.trans (Mp.fresh IM));have KN:=IM.blk jg.out (fun h=>h);have Sk:=hid KN;have Sl:=hid (show w.heap.size<W5.heap.size from KN.lt);have adb:=hid FC;clear IM FC KN jb iI jg HS2 jf;have jb:=Si;have iI:=Sj;have jg:=Sk;have HS2:=Sl;clear Si Sj Sk Sl;refine(HW.out (k2) op 6 [] [Np.slot d] (some ⟨b4,0,none⟩) w.heap.size W5 jb.out (by have:=oJ.out;have:=agu.out;omega) (by simp[maxLen]) (by simp) (by have:=HS2.out;omega) adb.out aY.out).mono ?_;intro e w3 hres;generalize bV c.en f 1 op (c.T.drop (k2))=r at aY HQ hres;cases r with
   |out=>exact absurd rfl aY.out
   |ok ks rest=>
    obtain⟨b,k',rfl,htr,hdr,hkk,hp,hm⟩:=hres;have rM:=hid (iI.out.trans hm);have dY:=hid (hm.blk jg.out (by omega) (by decide));have jK:=hid htr;have HDR:=hid hdr;have HKK:=hid hkk;have oL:=hid hp;clear hm htr hdr hkk hp;obtain⟨q0,q1,z0,z1,hlt3⟩:=af.two dY.out;unfold aG;go_wp2_with fail
    have n1:=dY.out.fT (.int .i64 0) (.int .i64 0);have iU:Mp c.g c.W0.heap.size w (aH w3 w.heap.size (.int .i64 0) (.int .i64 0)):=rM.out.aH (g:=w.heap.size) (.inr (Nat.le_refl _)) (.int .i64 0) (.int .i64 0);have fA:=dS w3 w.heap.size (.int .i64 0) (.int .i64 0);simp only[aH]at n1 iU fA;generalize (World.setCell (World.setCell w3 ⟨w.heap.size,0,none⟩ _) ⟨w.heap.size,1,none⟩ _)=W4 at n1 iU fA⊢;obtain⟨f0,f1,_⟩:=af.two n1
    (try simp only[Exit.inBlock,Exit.then])
    refine bodyPost_ret (v:=.tuple #[.slice (some ⟨b,0,none⟩) 1 1,aG 0 0]) (by simp[aG,results,Tryz.results67,go_sem,f0,f1]) rfl ?_;have hps:=oL.out.mv fA (fun b hb=>by have:=HW0.out;subst hb;exact⟨by omega,by omega,_,_,(by decide),dY.out⟩);exact HQ.out _ _ ⟨_,1,k',rfl,jK.out.other dY.out (by decide) fA,HDR.out,by have:=HKK.out;have:=agu.out;omega,hps,iU⟩
def agv(t:aB):Value:=.agg #[.int .i64 (t.kind:Int),.string ⟨t.text.toArray⟩,.int .i64 (t.from_:Int),.int .i64 (t.eF:Int)]
def Nt(c:Cf)(f:Nat)(op:List Nat)(r:List aB):R (List Nd):=
 if Np.dx 123 r then(di c.en f (op++[Np.place c.en r]) [] 0 0 r.tail).map fun p=>[.mk 12 [] p.2 p.1]else Np.refuse c.en r
def Nu(c:Cf)(f:Nat):Prop:=∀(k:Nat) (op:List Nat) (w:World),Ps c k op w→op.length≤k→k<c.T.length→Nt c f op (c.T.drop (k+1))≠.out→
 Calls Tryz.prog 68 #[lV c] w (oK c k op (Nt c f op (c.T.drop (k+1))) w)
def Jo(c:Cf)(f:Nat):Prop:=∀(k:Nat) (op:List Nat) (t:aB) (r:List aB) (w:World),Ps c k op w→op.length≤k→c.T.drop k=t::r→fD c.en f op t r≠.out→
 Calls Tryz.prog 142 #[lV c,agv t] w (oK c k op (fD c.en f op t r) w)
theorem U3(s:List UInt8)(F:FuncId)(hF:qP s=some F)(a:Array Value)(w:World):(callFunc F a).run Tryz.prog w=.ok (.enter F a) w:=by
 rw[IB]at hF
 repeat' split at hF
 all_goals first|(cases hF;kernel_rfl)|cases hF
theorem FD(c:Cf)(f:Nat)(op:List Nat)(t:aB)(r:List aB)(h:qP t.text=none):fD c.en (f+1) op t r=Np.plainName t r:=by
 have hs:=(zu t.text).1 h;unfold Np.special at hs;simp only[Bool.or_eq_false_iff,beq_eq_false_iff_ne,ne_eq]at hs;obtain⟨⟨⟨h1,h2⟩,h3⟩,h4⟩:=hs;rw[fD,if_neg h1,if_neg h2,if_neg h3,if_neg (by rw[h4];decide)]
theorem Yk(c:Cf)(f k:Nat)(op:List Nat)(t:aB)(r:List aB)(w:World)(F:FuncId)(hF:qP t.text=some F)(h1:IL c f)(h2:Yj c f)(h3:Nu c f)(h4:Nr c f)(h:Ps c k op w)(hop:op.length≤k)(hl:c.T.drop k=t::r)
  (hne:fD c.en (f+1) op t r≠.out):Calls Tryz.prog F #[lV c] w (oK c k op (fD c.en (f+1) op t r) w):=by
 have hr:r=c.T.drop (k+1):=by rw[←List.tail_drop,hl];rfl
 have hk:=Br (c:=c) (k:=k) (by rw[hl];exact List.cons_ne_nil _ _);rw[IB]at hF;rw[fD]at hne⊢;rw[hr]at hne⊢
 by_cases e1:t.text=Tr.oO
 ·rw[if_pos e1]at hF hne⊢
  cases hF;exact h1 k op w h hop hk (R.oC hne)
 ·rw[if_neg e1]at hF hne⊢
  by_cases e2:t.text=Tr.mU
  ·rw[if_pos e2]at hF hne⊢
   cases hF;exact h2 k op w h hop hk hne
  ·rw[if_neg e2]at hF hne⊢
   by_cases e3:t.text=Tr.bY
   ·rw[if_pos e3]at hF hne⊢
    cases hF;exact h3 k op w h hop hk hne
   ·rw[if_neg e3]at hF hne⊢
    by_cases e4:Np.tH t.text=true
    ·rw[if_pos e4]at hF hne⊢
     cases hF;exact h4 k op t r w h hop hl (R.oC hne)
    ·rw[if_neg e4]at hF
     cases hF
theorem aaS(c:Cf)(hc:c.Good)(bm:Nat)(hnm:c.Dn bm)(f:Nat)(hF1:IL c f)(hF2:Yj c f)(hF3:Nu c f)(hF4:Nr c f):Jo c (f+1):=by
 intro k op t r w h hop hl hne;have htl:=hc.tl;have hk:=Br (c:=c) (k:=k) (by rw[hl];exact List.cons_ne_nil _ _);have hk4:k≤100000:=by omega
 have X0:=hid (fun(F:FuncId) (hF:qP t.text=some F) (w':World) (hf:ag w w')=>Yk c f k op t r w' F hF hF1 hF2 hF3 hF4 (h.fresh hf) hop hl hne);have ade:=hid (fun(w':World) (hf:ag w w')=>JW c k op ⟨t.text.toArray⟩ w' (h.fresh hf));have htx:=hc.txt t (List.mem_of_mem_drop (i:=k) (by rw[hl];simp));have kJ:=hid htx;have HSI:=hid (fun(w':World) (hf:ag w w')=>Iz c hc k op 2 t.text w' (h.fresh hf) hk htx);have HL:=hid hl;have H:=hid h;have oJ:=hid hop;have aY:=hid hne;have HW0:=hid h.low.size;have HK:=hid hk;have hgl:c.g<w.heap.size:=h.Ap;have uf:=hid hnm;have hmv:=hnm.1;obtain⟨ov,hb,_⟩:=h.box;have HB:=hid hb;have hmap:=hnm.at h;have Sr:=hid hmap;rw[hmv]at hb;have HB:=hid hb;clear h hl hop hne hnm hmap hmv hb hF1 hF2 hF3 hF4 hc htx;refine Calls.via fun Q hQ=>?_
 have HQ:=hid hQ;clear hQ;unfold lV agv;go_enter Tryz.func142,Tryz.ntmps142;go_wp2_with fail
 have hf1:ag w ((w.alloc (.cells #[.int .i64 (t.kind:Int),.string ⟨t.text.toArray⟩,.int .i64 (t.from_:Int),.int .i64 (t.eF:Int)] 115)).alloc (.cells #[.int .i64 0,.int .i64 0] 49)):=((M _ _).alloc _).alloc _;have Yl:af ((w.alloc (.cells #[.int .i64 (t.kind:Int),.string ⟨t.text.toArray⟩,.int .i64 (t.from_:Int),.int .i64 (t.eF:Int)] 115)).alloc (.cells #[.int .i64 0,.int .i64 0] 49)) w.heap.size 115 #[.int .i64 (t.kind:Int),.string ⟨t.text.toArray⟩,.int .i64 (t.from_:Int),.int .i64 (t.eF:Int)]:=(af.new _ _ _).alloc _;have Ns:af ((w.alloc (.cells #[.int .i64 (t.kind:Int),.string ⟨t.text.toArray⟩,.int .i64 (t.from_:Int),.int .i64 (t.eF:Int)] 115)).alloc (.cells #[.int .i64 0,.int .i64 0] 49)) (w.heap.size+1) 49 #[.int .i64 0,.int .i64 0]:=af.new2 _ _ _ _;generalize ((w.alloc (.cells #[.int .i64 (t.kind:Int),.string ⟨t.text.toArray⟩,.int .i64 (t.from_:Int),.int .i64 (t.eF:Int)] 115)).alloc (.cells #[.int .i64 0,.int .i64 0] 49))=W1 at hf1 Yl Ns⊢;have aK:=hid hf1;have agw:=hid Yl;have tL:=hid Ns;have hm1:=(hf1.block bm (Array.getElem?_eq_some_iff.1 Sr.out).1 (fun h=>h)).trans Sr.out;have hlk:=OU (w:=W1.drewN 1) (bm:=bm) (g:=c.g) (clock:=9) hm1 t.text true;have hb1:=hf1.blk HB.out (fun h=>h);have q6:=hb1.cell 6;have z6:=hb1.frozen 6;have lW:=hb1.lt;obtain⟨t0,t1,t2,t3,_,_,_,_,hlt1⟩:=af.four Yl;clear hf1 Yl Ns hm1 hb1;cases hnf:qP t.text with
 |some F=>
  rw[hnf]at hlk;simp only[if_true]at hlk;refine uV (fun W=>W=W1.drewN 1) [(0,true),(1,true),(2,true),(3,true),(4,true),(5,true),(6,true),(7,true),(8,true),(9,true),(10,true),(11,true)] (by kernel_rfl) (fun _ _ d _ _ h=>by cases d<;>exact h) (by kernel_rfl) rfl ?_;refine ak rfl (fun K hK=>?_);rw[if_pos (by rfl)];refine⟨(.pointer (some ⟨c.g,0,none⟩)),fun W hW=>?_,hK _ ?_⟩
  ·subst hW
   go_simp
  clear hK K;refine ak rfl (fun K hK=>?_);rw[if_pos (by rfl)];refine⟨(.pointer (some ⟨c.g,0,none⟩)),fun W hW=>?_,hK _ ?_⟩
  ·subst hW
   go_simp
  clear hK K;refine ak rfl (fun K hK=>?_);rw[if_pos (by rfl)];refine⟨(.pointer (some ⟨c.g,6,none⟩)),fun W hW=>?_,hK _ ?_⟩
  ·subst hW
   go_simp
  clear hK K;refine ak rfl (fun K hK=>?_);rw[if_pos (by rfl)];refine⟨(.map (some bm)),fun W hW=>?_,hK _ ?_⟩
  ·subst hW
   go_simp
  clear hK K;refine ak rfl (fun K hK=>?_);rw[if_pos (by rfl)];refine⟨(.pointer (some ⟨w.heap.size,1,none⟩)),fun W hW=>?_,hK _ ?_⟩
  ·subst hW
   go_simp
  clear hK K;refine ak rfl (fun K hK=>?_);rw[if_pos (by rfl)];refine⟨(.string ⟨t.text.toArray⟩),fun W hW=>?_,hK _ ?_⟩
  ·subst hW
   go_simp
  clear hK K;refine ak rfl (fun K hK=>?_);rw[if_pos (by rfl)];refine⟨(.tuple #[mM c.g F,.bool true]),fun W hW=>?_,hK _ ?_⟩
  ·subst hW
   go_simp
  clear hK K;refine ak rfl (fun K hK=>?_);rw[if_pos (by rfl)];refine⟨(.tuple #[mM c.g F,.bool true]),fun W hW=>?_,hK _ ?_⟩
  ·subst hW
   go_simp
  clear hK K;refine ak rfl (fun K hK=>?_);rw[if_pos (by rfl)];refine⟨mM c.g F,fun W hW=>?_,hK _ ?_⟩
  ·subst hW
   go_simp
  clear hK K;refine ak rfl (fun K hK=>?_);rw[if_pos (by rfl)];refine⟨(.bool true),fun W hW=>?_,hK _ ?_⟩
  ·subst hW
   go_simp
  clear hK K;refine ak rfl (fun K hK=>?_);rw[if_pos (by rfl)];refine⟨mM c.g F,fun W hW=>?_,hK _ ?_⟩
  ·subst hW
   go_simp
  clear hK K;refine ak rfl (fun K hK=>?_);rw[if_pos (by rfl)];refine⟨(.bool true),fun W hW=>?_,hK _ ?_⟩
  ·subst hW
   go_simp
  clear hK K;refine sj ?_;have HD1:=hid (show ag w (W1.drewN 1)from aK.out.drewN 1);have Su:=hid (agw.out.drewN 1);have tK:=hid (tL.out.drewN 1);clear q6 z6 lW hlk t0 t1 t2 t3 hlt1;generalize W1.drewN 1=W2 at HD1 Su tK⊢;unfold mM;have hcf:=U3 t.text F hnf #[.pointer (some ⟨c.g,0,none⟩)] W2;go_wp2_with fail
  refine(X0.out F hnf W2 HD1.out).mono ?_;intro e w3 hres;have iI:=hid (Mp.fresh (g:=c.g) (B:=c.W0.heap.size) HD1.out);generalize fD c.en (f+1) op t r=X at aY HQ hres;cases X with
  |out=>exact absurd rfl aY.out
  |ok items rest=>
   obtain⟨A,cp,k',rfl,htr,hdr,hkk,hp,hm⟩:=hres;have rM:=hid (iI.out.trans hm);have dY:=hid (hm.blk tK.out (by omega) (by decide));have jK:=hid htr;have HDR:=hid hdr;have HKK:=hid hkk;have oL:=hid hp;clear hm htr hdr hkk hp;obtain⟨q0,q1,z0,z1,hlt3⟩:=af.two dY.out;unfold aG;go_wp2_with fail
   have n1:=dY.out.fT (.int .i64 0) (.int .i64 0);have iU:Mp c.g c.W0.heap.size w (aH w3 (w.heap.size+1) (.int .i64 0) (.int .i64 0)):=rM.out.aH (g:=w.heap.size+1) (.inr (by omega)) (.int .i64 0) (.int .i64 0);have fA:=dS w3 (w.heap.size+1) (.int .i64 0) (.int .i64 0);simp only[aH]at n1 iU fA;generalize (World.setCell (World.setCell w3 ⟨w.heap.size+1,0,none⟩ _) ⟨w.heap.size+1,1,none⟩ _)=W4 at n1 iU fA⊢;obtain⟨f0,f1,_⟩:=af.two n1
   (try simp only[Exit.inBlock,Exit.then])
   refine bodyPost_ret (v:=.tuple #[.slice A items.length cp,aG 0 0]) (by simp[aG,results,Tryz.results142,go_sem,f0,f1]) rfl ?_;have hps:=oL.out.mv fA (fun b hb=>by have:=HW0.out;subst hb;exact⟨by omega,by omega,_,_,(by decide),dY.out⟩);exact HQ.out _ _ ⟨A,cp,k',rfl,(jK.out.base iI.out.size).other dY.out (by decide) fA,HDR.out,by have:=HKK.out;omega,hps,iU⟩
 |none=>
  rw[hnf]at hlk;simp only[if_true]at hlk;refine uV (fun W=>W=W1.drewN 1) [(0,true),(1,true),(2,true),(3,true),(4,true),(5,true),(6,true),(7,true),(8,true),(9,true),(10,true),(11,true)] (by kernel_rfl) (fun _ _ d _ _ h=>by cases d<;>exact h) (by kernel_rfl) rfl ?_;refine ak rfl (fun K hK=>?_);rw[if_pos (by rfl)];refine⟨(.pointer (some ⟨c.g,0,none⟩)),fun W hW=>?_,hK _ ?_⟩
  ·subst hW
   go_simp
  clear hK K;refine ak rfl (fun K hK=>?_);rw[if_pos (by rfl)];refine⟨(.pointer (some ⟨c.g,0,none⟩)),fun W hW=>?_,hK _ ?_⟩
  ·subst hW
   go_simp
  clear hK K;refine ak rfl (fun K hK=>?_);rw[if_pos (by rfl)];refine⟨(.pointer (some ⟨c.g,6,none⟩)),fun W hW=>?_,hK _ ?_⟩
  ·subst hW
   go_simp
  clear hK K;refine ak rfl (fun K hK=>?_);rw[if_pos (by rfl)];refine⟨(.map (some bm)),fun W hW=>?_,hK _ ?_⟩
  ·subst hW
   go_simp
  clear hK K;refine ak rfl (fun K hK=>?_);rw[if_pos (by rfl)];refine⟨(.pointer (some ⟨w.heap.size,1,none⟩)),fun W hW=>?_,hK _ ?_⟩
  ·subst hW
   go_simp
  clear hK K;refine ak rfl (fun K hK=>?_);rw[if_pos (by rfl)];refine⟨(.string ⟨t.text.toArray⟩),fun W hW=>?_,hK _ ?_⟩
  ·subst hW
   go_simp
  clear hK K;refine ak rfl (fun K hK=>?_);rw[if_pos (by rfl)];refine⟨(.tuple #[.nilFunc,.bool false]),fun W hW=>?_,hK _ ?_⟩
  ·subst hW
   go_simp
  clear hK K;refine ak rfl (fun K hK=>?_);rw[if_pos (by rfl)];refine⟨(.tuple #[.nilFunc,.bool false]),fun W hW=>?_,hK _ ?_⟩
  ·subst hW
   go_simp
  clear hK K;refine ak rfl (fun K hK=>?_);rw[if_pos (by rfl)];refine⟨.nilFunc,fun W hW=>?_,hK _ ?_⟩
  ·subst hW
   go_simp
  clear hK K;refine ak rfl (fun K hK=>?_);rw[if_pos (by rfl)];refine⟨(.bool false),fun W hW=>?_,hK _ ?_⟩
  ·subst hW
   go_simp
  clear hK K;refine ak rfl (fun K hK=>?_);rw[if_pos (by rfl)];refine⟨.nilFunc,fun W hW=>?_,hK _ ?_⟩
  ·subst hW
   go_simp
  clear hK K;refine ak rfl (fun K hK=>?_);rw[if_pos (by rfl)];refine⟨(.bool false),fun W hW=>?_,hK _ ?_⟩
  ·subst hW
   go_simp
  clear hK K;refine sj ?_;have HD1:=hid (show ag w (W1.drewN 1)from aK.out.drewN 1);have Su:=hid (agw.out.drewN 1);have tK:=hid (tL.out.drewN 1);clear q6 z6 lW hlk t0 t1 t2 t3 hlt1;generalize W1.drewN 1=W2 at HD1 Su tK⊢;obtain⟨t0,t1,t2,t3,_,_,_,_,hlt1⟩:=af.four Su.out;go_wp2_with fail
  clear t0 t1 t2 t3 hlt1;refine(ade.out W2 HD1.out).mono ?_;rintro _ w3 ⟨rfl,hf⟩;have HD3:=hid (HD1.out.trans hf);have Ym:=hid (hf.blk Su.out fun h=>h);have dY:=hid (hf.blk tK.out fun h=>h);clear hf;obtain⟨t0,t1,t2,t3,_,_,_,_,hlt1⟩:=af.four Ym.out
  by_cases h1:t.text.length=1
  ·have c1:(t.text.length:Int)=1:=by omega
   have c2:((t.text.length:Int)==1)=true:=by simp[c1]
   exact absurd (show fD c.en (f+1) op t r=.out from by
    rw[FD c f op t r hnf,Np.plainName,if_pos h1]) aY.out
  ·have c1:¬(t.text.length:Int)=1:=by omega
   have c2:((t.text.length:Int)==1)=false:=by simp[c1]
   have VQ:=hid (show fD c.en (f+1) op t r=.ok [.mk 2 t.text 0 []] r from by
    rw[FD c f op t r hnf,Np.plainName,if_neg h1])
   go_wp2_with fail
   refine(HSI.out w3 HD3.out).mono ?_;rintro _ w4 ⟨b,rfl,htr,hp,hm⟩;have jK:=hid htr;have AP:=hid hp;have rM:=hid ((Mp.fresh HD3.out).trans hm);have HZ:=hid (show w.heap.size+1<w3.heap.size from dY.out.lt);have Nv:=hm.blk dY.out (by omega) (by decide);clear dY htr hp hm t0 t1 t2 t3 hlt1;have dY:=hid Nv;clear Nv;obtain⟨q0,q1,z0,z1,hlt3⟩:=af.two dY.out;unfold aG;go_wp2_with fail
   have n1:=dY.out.fT (.int .i64 0) (.int .i64 0);have iU:Mp c.g c.W0.heap.size w (aH w4 (w.heap.size+1) (.int .i64 0) (.int .i64 0)):=rM.out.aH (g:=w.heap.size+1) (.inr (by omega)) (.int .i64 0) (.int .i64 0);have fA:=dS w4 (w.heap.size+1) (.int .i64 0) (.int .i64 0);simp only[aH]at n1 iU fA;generalize (World.setCell (World.setCell w4 ⟨w.heap.size+1,0,none⟩ _) ⟨w.heap.size+1,1,none⟩ _)=W4 at n1 iU fA⊢;obtain⟨f0,f1,_⟩:=af.two n1
   (try simp only[Exit.inBlock,Exit.then])
   refine bodyPost_ret (v:=.tuple #[.slice (some ⟨b,0,none⟩) 1 1,aG 0 0]) (by simp[aG,results,Tryz.results142,go_sem,f0,f1]) rfl ?_;have hps:=AP.out.mv fA (fun b hb=>by have:=HW0.out;subst hb;exact⟨by omega,by omega,_,_,(by decide),dY.out⟩);rw[VQ.out]at HQ;have hr:c.T.drop (k+1)=r:=by rw[←List.tail_drop,HL.out];rfl
   exact HQ.out _ _ ⟨_,1,k+1,rfl,(jK.out.base (Nat.le_of_lt (Nat.lt_of_succ_lt HZ.out))).other dY.out (by decide) fA,hr,by omega,hps,iU⟩
end
end Go.Proofs.YtcgbccfpcgaikaaGreatDoor
