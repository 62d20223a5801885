/- Part 21 of 48 of a proof. No condition. -/
import Derived.Laws.Concat
import Derived.Test.YtnbeemkfmlfgfaaGreatDoorTm20
set_option maxRecDepth 100000
set_option maxHeartbeats 2000000
namespace Go.Proofs.YtnbeemkfmlfgfaaGreatDoor
section
open Go.RowKit
open Tr (Nd)
open U (E aA lW aW dN eU iR)
theorem r9(n k:Nat)(z:Int)(h:(k:Int)=z):((n:Int)==z)=decide (n=k):=by rw[←h,Bool.eq_iff_iff,beq_iff_eq,decide_eq_true_eq];omega
theorem dIl(n k:Nat)(z:Int)(h:(k:Int)=z):decide (z≤(n:Int))=decide (k≤n):=by rw[←h,Bool.eq_iff_iff];simp
theorem dIg(n k:Nat)(z:Int)(h:(k:Int)=z):decide ((n:Int)≤z)=decide (n≤k):=by rw[←h,Bool.eq_iff_iff];simp
theorem qH(t:List UInt8):t.isEmpty=(t==([]:List UInt8)):=by cases t<;>rfl
theorem vQ{α:Type}(l:List α):l.isEmpty=((l.length:Int)==(0:Int)):=by cases l<;>rfl
section
variable {a:aA} {ks:List E} {t:List UInt8}
theorem ab4:U.bQ (.mk U.pO a ks t)=((iR t)&&((a.length:Int)==(0:Int))&&((ks.length:Int)==(0:Int))&&eU 2 t 0):=by rw[←vQ,←vQ];rfl
theorem ab5:U.bQ (.mk U.qC a ks t)=((!iR t)&&((a.length:Int)==(0:Int))&&((ks.length:Int)==(0:Int))&&eU 2 t 0):=by rw[←vQ,←vQ];rfl
theorem ab6:U.bQ (.mk U.vL a ks t)=(((a.length:Int)==(0:Int))&&((ks.length:Int)==(0:Int))&&eU 3 t 0):=by rw[←vQ,←vQ];rw[←Bool.true_and a.isEmpty];rfl
theorem S9:U.bQ (.mk U.lF a ks t)=(((a.length:Int)==(0:Int))&&((ks.length:Int)==(0:Int))&&eU 4 t 0):=by rw[←vQ,←vQ];rw[←Bool.true_and a.isEmpty];rfl
theorem VM:U.bQ (.mk U.bJ a ks t)=((t==([]:List UInt8))&&true&&((a.length:Int)==(0:Int))):=by rw[←qH,r9 a.length 0 0 rfl];rw[←Bool.and_true (t.isEmpty&&_)];rfl
theorem VN:U.bQ (.mk U.ah a ks t)=((t==([]:List UInt8))&&true&&((a.length:Int)==(0:Int))):=by rw[←qH,r9 a.length 0 0 rfl];rw[←Bool.and_true (t.isEmpty&&_)];rfl
theorem Zw:U.bQ (.mk U.aJ a ks t)=((t==([]:List UInt8))&&true&&((a.length:Int)==(0:Int))):=by rw[←qH,r9 a.length 0 0 rfl];rw[←Bool.and_true (t.isEmpty&&_)];rfl
theorem Gi:U.bQ (.mk U.aU a ks t)=((t==([]:List UInt8))&&decide ((1:Int)≤(ks.length:Int))&&((a.length:Int)==(0:Int))):=by rw[←qH,r9 a.length 0 0 rfl,dIl ks.length 1 1 rfl];rw[←Bool.and_true (t.isEmpty&&_)];rfl
theorem Zx:U.bQ (.mk U.bM a ks t)=((t==([]:List UInt8))&&(decide ((1:Int)≤(ks.length:Int))&&decide ((ks.length:Int)≤(16:Int)))&&((a.length:Int)==(0:Int))):=by rw[←qH,r9 a.length 0 0 rfl,dIl ks.length 1 1 rfl,dIg ks.length 16 16 rfl];rw[←Bool.and_true (t.isEmpty&&_)];rfl
theorem Ta:U.bQ (.mk U.iL a ks t)=((t==([]:List UInt8))&&((ks.length:Int)==(2:Int))&&((a.length:Int)==(0:Int))):=by rw[←qH,r9 a.length 0 0 rfl,r9 ks.length 2 2 rfl];rw[←Bool.and_true (t.isEmpty&&_)];rfl
theorem I7:U.bQ (.mk U.fo a ks t)=((t==([]:List UInt8))&&((ks.length:Int)==(2:Int))&&((a.length:Int)==(0:Int))):=by rw[←qH,r9 a.length 0 0 rfl,r9 ks.length 2 2 rfl];rw[←Bool.and_true (t.isEmpty&&_)];rfl
theorem VO:U.bQ (.mk U.jo a ks t)=((t==([]:List UInt8))&&((ks.length:Int)==(2:Int))&&((a.length:Int)==(0:Int))):=by rw[←qH,r9 a.length 0 0 rfl,r9 ks.length 2 2 rfl];rw[←Bool.and_true (t.isEmpty&&_)];rfl
theorem VP:U.bQ (.mk U.jq a ks t)=((t==([]:List UInt8))&&((ks.length:Int)==(2:Int))&&((a.length:Int)==(0:Int))):=by rw[←qH,r9 a.length 0 0 rfl,r9 ks.length 2 2 rfl];rw[←Bool.and_true (t.isEmpty&&_)];rfl
theorem Oe:U.bQ (.mk U.eF a ks t)=((t==([]:List UInt8))&&((ks.length:Int)==(3:Int))&&((a.length:Int)==(0:Int))):=by rw[←qH,r9 a.length 0 0 rfl,r9 ks.length 3 3 rfl];rw[←Bool.and_true (t.isEmpty&&_)];rfl
theorem I8:U.bQ (.mk U.dK a ks t)=((t==([]:List UInt8))&&((ks.length:Int)==(1:Int))&&((a.length:Int)==(0:Int))):=by rw[←qH,r9 a.length 0 0 rfl,r9 ks.length 1 1 rfl];rw[←Bool.and_true (t.isEmpty&&_)];rfl
theorem I9:U.bQ (.mk U.bF a ks t)=((t==([]:List UInt8))&&((ks.length:Int)==(1:Int))&&eU 10 (aW a U.cK) 1&&((a.length:Int)==(1:Int))):=by rw[←qH,r9 a.length 1 1 rfl,r9 ks.length 1 1 rfl];rfl
theorem EC:U.bQ (.mk U.aT a ks t)=((t==([]:List UInt8))&&((ks.length:Int)==(1:Int))&&((((aW a U.fK).length:Int)==(1:Int))&&(((aW a U.dM).length:Int)==(1:Int))&&eU 11 (aW a U.fK++aW a U.dM) 1)&&((a.length:Int)==(2:Int))):=by rw[←qH,r9 a.length 2 2 rfl,r9 ks.length 1 1 rfl,r9 (aW a U.fK).length 1 1 rfl,r9 (aW a U.dM).length 1 1 rfl];rfl
end
theorem adx(a:aA)(ks:List E)(t:List UInt8)(g o:Nat)(va vk:Value)(w:World)(he:fC w g o (.mk ([109,105]) a ks t) va vk):Calls Tryz.prog 73 #[.pointer (some ⟨g,o,none⟩)] w fun x w'=>x=.returned (.bool (U.bQ (.mk ([109,105]) a ks t)))∧ag w w':=by
 obtain⟨A,ca,hva⟩:=he.2.2.2.2.2.1.slice;obtain⟨B,cb,hvb⟩:=he.2.2.2.2.2.2.1.slice;replace hva:va=.slice A a.length ca:=hva;replace hvb:vk=.slice B ks.length cb:=hvb;subst hva;subst hvb;have htl:t.length≤maxLen:=he.2.2.2.2.2.2.2.2;have hl1:a.length≤maxLen:=by obtain⟨_,_,_,h,_⟩:=he.2.2.2.2.2.1;exact h.1
 have hl2:ks.length≤maxLen:=he.2.2.2.2.2.2.1.len;have gX:=I htl;unfold maxLen at hl1 hl2 htl;have HE:=I he;obtain⟨_,a0,a1,a2,a3,_⟩:=he;replace a0:w.cell? ⟨g,o,none⟩=some (.string ⟨([109,105]:List UInt8).toArray⟩):=a0;replace a3:w.cell? ⟨g,o+3,none⟩=some (.string ⟨t.toArray⟩):=a3;rw[show U.bQ (.mk ([109,105]) a ks t)=_ from ab4];go_enter Tryz.func73,Tryz.ntmps73;go_wp2_with fail
 refine Calls.mono (gP [109,105] 2 (by rfl) _) ?_;rintro _ KH ⟨rfl,kz⟩;replace kz:=kz.symm;subst kz;cases h1:(iR t)with
 |false=>
  go_wp2_with fail
  refine aV (fun W=>ag w W) bf ?_;rintro w2 hfw2;have aY:=I hfw2;clear hfw2;have Mr:World.cell? w2 ⟨g,o,none⟩=some (.string ⟨#[109,105]⟩):=Touch.cell aY.J a0 (fun h=>h);have Ms:World.cell? w2 ⟨g,o+1,none⟩=some (.slice A a.length ca):=Touch.cell aY.J a1 (fun h=>h);have Mt:World.cell? w2 ⟨g,o+2,none⟩=some (.slice B ks.length cb):=Touch.cell aY.J a2 (fun h=>h);have Mv:World.cell? w2 ⟨g,o+3,none⟩=some (.string ⟨t.toArray⟩):=Touch.cell aY.J a3 (fun h=>h);clear a0 a1 a2 a3;have ady:=cell_regrown Mr;have adz:=cell_regrown Ms;have adA:=cell_regrown Mt;have adB:=cell_regrown Mv;have aes:=I (iN (P:=Tryz.prog) w2 (fun w hw=>uT t _));refine wp_region_quiet_below (by kernel_rfl) (by kernel_rfl) ?_
  repeat(with_reducible refine wpQuiet_step (fun K hK=>?_);go_simp;first|(refine hK _ ?_;clear hK K)|(apply Exists.intro;refine⟨fun _=>?_,hK _ ?_⟩;(first|with_reducible exact aes.J _ _);clear hK K))
  refine wpQuiet_nil ?_;rintro w3 ⟨⟨_,_⟩,adC⟩;have hfw3:ag w2 w3:=by rw[adC];exact bE (below_regrown _ _ _)
  clear adC ady adz adA adB;have bC:=I (show ag w2 w3 from by first|exact hfw3|exact Touch.pre hfw3|exact Touch.pre (Touch.pre hfw3)|exact Touch.pI hfw3|exact Touch.mH hfw3|exact Touch.pre (Touch.pre (Touch.pre hfw3)));have aiz:World.cell? w3 ⟨g,o,none⟩=some (.string ⟨#[109,105]⟩):=Touch.cell bC.J Mr (fun h=>h);have aiA:World.cell? w3 ⟨g,o+1,none⟩=some (.slice A a.length ca):=Touch.cell bC.J Ms (fun h=>h);have aiB:World.cell? w3 ⟨g,o+2,none⟩=some (.slice B ks.length cb):=Touch.cell bC.J Mt (fun h=>h);have aiC:World.cell? w3 ⟨g,o+3,none⟩=some (.string ⟨t.toArray⟩):=Touch.cell bC.J Mv (fun h=>h);clear Mr Ms Mt Mv;clear hfw3;go_wp2
  go_ret;exact⟨af _ _ (by simp only[*]<;>rfl),(by first|exact(aY.J.trans bC.J)|exact(aY.J.trans bC.J).alloc _|exact((aY.J.trans bC.J).alloc _).alloc _|exact(((aY.J.trans bC.J).alloc _).alloc _).alloc _|exact(aY.J.trans bC.J).drewN _|exact((aY.J.trans bC.J).alloc _).drewN _|exact(((aY.J.trans bC.J).alloc _).alloc _).drewN _)⟩
 |true=>
  go_wp2_with fail
  refine aV (fun W=>ag w W) bf ?_;rintro w4 p9;have dw:=I p9;clear p9;have BZ:World.cell? w4 ⟨g,o,none⟩=some (.string ⟨#[109,105]⟩):=Touch.cell dw.J a0 (fun h=>h);have Ca:World.cell? w4 ⟨g,o+1,none⟩=some (.slice A a.length ca):=Touch.cell dw.J a1 (fun h=>h);have Cb:World.cell? w4 ⟨g,o+2,none⟩=some (.slice B ks.length cb):=Touch.cell dw.J a2 (fun h=>h);have Cc:World.cell? w4 ⟨g,o+3,none⟩=some (.string ⟨t.toArray⟩):=Touch.cell dw.J a3 (fun h=>h);clear a0 a1 a2 a3;have MP:=cell_regrown BZ;have MQ:=cell_regrown Ca;have MR:=cell_regrown Cb;have MS:=cell_regrown Cc;have RX:=I (iN (P:=Tryz.prog) w4 (fun w hw=>uT t _));refine wp_region_quiet_below (by kernel_rfl) (by kernel_rfl) ?_
  repeat(with_reducible refine wpQuiet_step (fun K hK=>?_);go_simp;first|(refine hK _ ?_;clear hK K)|(apply Exists.intro;refine⟨fun _=>?_,hK _ ?_⟩;(first|with_reducible exact RX.J _ _);clear hK K))
  refine wpQuiet_nil ?_;rintro w5 ⟨⟨_,_⟩,MU⟩;have uA:ag w4 w5:=by rw[MU];exact bE (below_regrown _ _ _)
  clear MU MP MQ MR MS;have dA:=I (show ag w4 w5 from by first|exact uA|exact Touch.pre uA|exact Touch.pre (Touch.pre uA)|exact Touch.pI uA|exact Touch.mH uA|exact Touch.pre (Touch.pre (Touch.pre uA)));have RY:World.cell? w5 ⟨g,o,none⟩=some (.string ⟨#[109,105]⟩):=Touch.cell dA.J BZ (fun h=>h);have RZ:World.cell? w5 ⟨g,o+1,none⟩=some (.slice A a.length ca):=Touch.cell dA.J Ca (fun h=>h);have R3:World.cell? w5 ⟨g,o+2,none⟩=some (.slice B ks.length cb):=Touch.cell dA.J Cb (fun h=>h);have R4:World.cell? w5 ⟨g,o+3,none⟩=some (.string ⟨t.toArray⟩):=Touch.cell dA.J Cc (fun h=>h);clear BZ Ca Cb Cc;clear uA;cases h2:((a.length:Int)==(0:Int))with
  |false=>
   have D5:((a.length:Int) !=(0:Int))=true:=by rw[bne,h2];rfl
   go_wp2
   go_ret;exact⟨af _ _ (by simp only[*]<;>rfl),(by first|exact(dw.J.trans dA.J)|exact(dw.J.trans dA.J).alloc _|exact((dw.J.trans dA.J).alloc _).alloc _|exact(((dw.J.trans dA.J).alloc _).alloc _).alloc _|exact(dw.J.trans dA.J).drewN _|exact((dw.J.trans dA.J).alloc _).drewN _|exact(((dw.J.trans dA.J).alloc _).alloc _).drewN _)⟩
  |true=>
   have D5:((a.length:Int) !=(0:Int))=false:=by rw[bne,h2];rfl
   cases h3:((ks.length:Int)==(0:Int))with
   |false=>
    have xU:((ks.length:Int) !=(0:Int))=true:=by rw[bne,h3];rfl
    go_wp2
    go_ret;exact⟨af _ _ (by simp only[*]<;>rfl),(by first|exact(dw.J.trans dA.J)|exact(dw.J.trans dA.J).alloc _|exact((dw.J.trans dA.J).alloc _).alloc _|exact(((dw.J.trans dA.J).alloc _).alloc _).alloc _|exact(dw.J.trans dA.J).drewN _|exact((dw.J.trans dA.J).alloc _).drewN _|exact(((dw.J.trans dA.J).alloc _).alloc _).drewN _)⟩
   |true=>
    have xU:((ks.length:Int) !=(0:Int))=false:=by rw[bne,h3];rfl
    go_wp2_with fail
    refine Calls.mono (tX 2 t 0 (by decide) gX.J _) ?_;rintro _ w6 ⟨rfl,qB⟩;have bT:=I (show ag w5 w6 from by first|exact qB|exact Touch.pre qB|exact Touch.pre (Touch.pre qB)|exact Touch.pI qB|exact Touch.mH qB|exact Touch.pre (Touch.pre (Touch.pre qB)));have aiD:World.cell? w6 ⟨g,o,none⟩=some (.string ⟨#[109,105]⟩):=Touch.cell bT.J RY (fun h=>h);have aiE:World.cell? w6 ⟨g,o+1,none⟩=some (.slice A a.length ca):=Touch.cell bT.J RZ (fun h=>h);have aiF:World.cell? w6 ⟨g,o+2,none⟩=some (.slice B ks.length cb):=Touch.cell bT.J R3 (fun h=>h);have aiG:World.cell? w6 ⟨g,o+3,none⟩=some (.string ⟨t.toArray⟩):=Touch.cell bT.J R4 (fun h=>h);clear RY RZ R3 R4;clear qB;cases h4:(eU 2 t 0)with
    |false=>
     go_wp2
     go_ret;exact⟨af _ _ (by simp only[*]<;>rfl),(by first|exact(dw.J.trans (dA.J.trans bT.J))|exact(dw.J.trans (dA.J.trans bT.J)).alloc _|exact((dw.J.trans (dA.J.trans bT.J)).alloc _).alloc _|exact(((dw.J.trans (dA.J.trans bT.J)).alloc _).alloc _).alloc _|exact(dw.J.trans (dA.J.trans bT.J)).drewN _|exact((dw.J.trans (dA.J.trans bT.J)).alloc _).drewN _|exact(((dw.J.trans (dA.J.trans bT.J)).alloc _).alloc _).drewN _)⟩
    |true=>
     go_wp2
     go_ret;exact⟨af _ _ (by simp only[*]<;>rfl),(by first|exact(dw.J.trans (dA.J.trans bT.J))|exact(dw.J.trans (dA.J.trans bT.J)).alloc _|exact((dw.J.trans (dA.J.trans bT.J)).alloc _).alloc _|exact(((dw.J.trans (dA.J.trans bT.J)).alloc _).alloc _).alloc _|exact(dw.J.trans (dA.J.trans bT.J)).drewN _|exact((dw.J.trans (dA.J.trans bT.J)).alloc _).drewN _|exact(((dw.J.trans (dA.J.trans bT.J)).alloc _).alloc _).drewN _)⟩
theorem adD(a:aA)(ks:List E)(t:List UInt8)(g o:Nat)(va vk:Value)(w:World)(he:fC w g o (.mk ([109,111]) a ks t) va vk):Calls Tryz.prog 73 #[.pointer (some ⟨g,o,none⟩)] w fun x w'=>x=.returned (.bool (U.bQ (.mk ([109,111]) a ks t)))∧ag w w':=by
 obtain⟨A,ca,hva⟩:=he.2.2.2.2.2.1.slice;obtain⟨B,cb,hvb⟩:=he.2.2.2.2.2.2.1.slice;replace hva:va=.slice A a.length ca:=hva;replace hvb:vk=.slice B ks.length cb:=hvb;subst hva;subst hvb;have htl:t.length≤maxLen:=he.2.2.2.2.2.2.2.2;have hl1:a.length≤maxLen:=by obtain⟨_,_,_,h,_⟩:=he.2.2.2.2.2.1;exact h.1
 have hl2:ks.length≤maxLen:=he.2.2.2.2.2.2.1.len;have gX:=I htl;unfold maxLen at hl1 hl2 htl;have HE:=I he;obtain⟨_,a0,a1,a2,a3,_⟩:=he;replace a0:w.cell? ⟨g,o,none⟩=some (.string ⟨([109,111]:List UInt8).toArray⟩):=a0;replace a3:w.cell? ⟨g,o+3,none⟩=some (.string ⟨t.toArray⟩):=a3;rw[show U.bQ (.mk ([109,111]) a ks t)=_ from ab5];go_enter Tryz.func73,Tryz.ntmps73;go_wp2_with fail
 refine Calls.mono (gP [109,111] 2 (by rfl) _) ?_;rintro _ w7q ⟨rfl,Zy⟩;replace Zy:=Zy.symm;subst Zy;cases h5:(iR t)with
 |false=>
  go_wp2_with fail
  refine aV (fun W=>ag w W) bf ?_;rintro w8 vW;have eP:=I vW;clear vW;have Tc:World.cell? w8 ⟨g,o,none⟩=some (.string ⟨#[109,111]⟩):=Touch.cell eP.J a0 (fun h=>h);have Td:World.cell? w8 ⟨g,o+1,none⟩=some (.slice A a.length ca):=Touch.cell eP.J a1 (fun h=>h);have Te:World.cell? w8 ⟨g,o+2,none⟩=some (.slice B ks.length cb):=Touch.cell eP.J a2 (fun h=>h);have Tf:World.cell? w8 ⟨g,o+3,none⟩=some (.string ⟨t.toArray⟩):=Touch.cell eP.J a3 (fun h=>h);clear a0 a1 a2 a3;have adE:=cell_regrown Tc;have adF:=cell_regrown Td;have adG:=cell_regrown Te;have adH:=cell_regrown Tf;have aeu:=I (iN (P:=Tryz.prog) w8 (fun w hw=>uT t _));refine wp_region_quiet_below (by kernel_rfl) (by kernel_rfl) ?_
  repeat(with_reducible refine wpQuiet_step (fun K hK=>?_);go_simp;first|(refine hK _ ?_;clear hK K)|(apply Exists.intro;refine⟨fun _=>?_,hK _ ?_⟩;(first|with_reducible exact aeu.J _ _);clear hK K))
  refine wpQuiet_nil ?_;rintro w9 ⟨⟨_,_⟩,adI⟩;have Bh:ag w8 w9:=by rw[adI];exact bE (below_regrown _ _ _)
  clear adI adE adF adG adH;have jd:=I (show ag w8 w9 from by first|exact Bh|exact Touch.pre Bh|exact Touch.pre (Touch.pre Bh)|exact Touch.pI Bh|exact Touch.mH Bh|exact Touch.pre (Touch.pre (Touch.pre Bh)));have abp:World.cell? w9 ⟨g,o,none⟩=some (.string ⟨#[109,111]⟩):=Touch.cell jd.J Tc (fun h=>h);have abq:World.cell? w9 ⟨g,o+1,none⟩=some (.slice A a.length ca):=Touch.cell jd.J Td (fun h=>h);have abr:World.cell? w9 ⟨g,o+2,none⟩=some (.slice B ks.length cb):=Touch.cell jd.J Te (fun h=>h);have abt:World.cell? w9 ⟨g,o+3,none⟩=some (.string ⟨t.toArray⟩):=Touch.cell jd.J Tf (fun h=>h);clear Tc Td Te Tf;clear Bh;cases h6:((a.length:Int)==(0:Int))with
  |false=>
   have Np:((a.length:Int) !=(0:Int))=true:=by rw[bne,h6];rfl
   go_wp2
   go_ret;exact⟨af _ _ (by simp only[*]<;>rfl),(by first|exact(eP.J.trans jd.J)|exact(eP.J.trans jd.J).alloc _|exact((eP.J.trans jd.J).alloc _).alloc _|exact(((eP.J.trans jd.J).alloc _).alloc _).alloc _|exact(eP.J.trans jd.J).drewN _|exact((eP.J.trans jd.J).alloc _).drewN _|exact(((eP.J.trans jd.J).alloc _).alloc _).drewN _)⟩
  |true=>
   have Np:((a.length:Int) !=(0:Int))=false:=by rw[bne,h6];rfl
   cases h7:((ks.length:Int)==(0:Int))with
   |false=>
    have h7m:((ks.length:Int) !=(0:Int))=true:=by rw[bne,h7];rfl
    go_wp2
    go_ret;exact⟨af _ _ (by simp only[*]<;>rfl),(by first|exact(eP.J.trans jd.J)|exact(eP.J.trans jd.J).alloc _|exact((eP.J.trans jd.J).alloc _).alloc _|exact(((eP.J.trans jd.J).alloc _).alloc _).alloc _|exact(eP.J.trans jd.J).drewN _|exact((eP.J.trans jd.J).alloc _).drewN _|exact(((eP.J.trans jd.J).alloc _).alloc _).drewN _)⟩
   |true=>
    have h7m:((ks.length:Int) !=(0:Int))=false:=by rw[bne,h7];rfl
    go_wp2_with fail
    refine Calls.mono (tX 2 t 0 (by decide) gX.J _) ?_;rintro _ qm ⟨rfl,qp⟩;have lJ:=I (show ag w9 qm from by first|exact qp|exact Touch.pre qp|exact Touch.pre (Touch.pre qp)|exact Touch.pI qp|exact Touch.mH qp|exact Touch.pre (Touch.pre (Touch.pre qp)));have ahQ:World.cell? qm ⟨g,o,none⟩=some (.string ⟨#[109,111]⟩):=Touch.cell lJ.J abp (fun h=>h);have ahR:World.cell? qm ⟨g,o+1,none⟩=some (.slice A a.length ca):=Touch.cell lJ.J abq (fun h=>h);have ahS:World.cell? qm ⟨g,o+2,none⟩=some (.slice B ks.length cb):=Touch.cell lJ.J abr (fun h=>h);have ahT:World.cell? qm ⟨g,o+3,none⟩=some (.string ⟨t.toArray⟩):=Touch.cell lJ.J abt (fun h=>h);clear abp abq abr abt;clear qp;cases h8:(eU 2 t 0)with
    |false=>
     go_wp2
     go_ret;exact⟨af _ _ (by simp only[*]<;>rfl),(by first|exact(eP.J.trans (jd.J.trans lJ.J))|exact(eP.J.trans (jd.J.trans lJ.J)).alloc _|exact((eP.J.trans (jd.J.trans lJ.J)).alloc _).alloc _|exact(((eP.J.trans (jd.J.trans lJ.J)).alloc _).alloc _).alloc _|exact(eP.J.trans (jd.J.trans lJ.J)).drewN _|exact((eP.J.trans (jd.J.trans lJ.J)).alloc _).drewN _|exact(((eP.J.trans (jd.J.trans lJ.J)).alloc _).alloc _).drewN _)⟩
    |true=>
     go_wp2
     go_ret;exact⟨af _ _ (by simp only[*]<;>rfl),(by first|exact(eP.J.trans (jd.J.trans lJ.J))|exact(eP.J.trans (jd.J.trans lJ.J)).alloc _|exact((eP.J.trans (jd.J.trans lJ.J)).alloc _).alloc _|exact(((eP.J.trans (jd.J.trans lJ.J)).alloc _).alloc _).alloc _|exact(eP.J.trans (jd.J.trans lJ.J)).drewN _|exact((eP.J.trans (jd.J.trans lJ.J)).alloc _).drewN _|exact(((eP.J.trans (jd.J.trans lJ.J)).alloc _).alloc _).drewN _)⟩
 |true=>
  go_wp2_with fail
  refine aV (fun W=>ag w W) bf ?_;rintro rO Ja;have nC:=I Ja;clear Ja;have Og:World.cell? rO ⟨g,o,none⟩=some (.string ⟨#[109,111]⟩):=Touch.cell nC.J a0 (fun h=>h);have Oh:World.cell? rO ⟨g,o+1,none⟩=some (.slice A a.length ca):=Touch.cell nC.J a1 (fun h=>h);have Oi:World.cell? rO ⟨g,o+2,none⟩=some (.slice B ks.length cb):=Touch.cell nC.J a2 (fun h=>h);have Oj:World.cell? rO ⟨g,o+3,none⟩=some (.string ⟨t.toArray⟩):=Touch.cell nC.J a3 (fun h=>h);clear a0 a1 a2 a3;have ab7:=cell_regrown Og;have ab8:=cell_regrown Oh;have ab9:=cell_regrown Oi;have ab':=cell_regrown Oj;have Ol:=I (iN (P:=Tryz.prog) rO (fun w hw=>uT t _));refine wp_region_quiet_below (by kernel_rfl) (by kernel_rfl) ?_
  repeat(with_reducible refine wpQuiet_step (fun K hK=>?_);go_simp;first|(refine hK _ ?_;clear hK K)|(apply Exists.intro;refine⟨fun _=>?_,hK _ ?_⟩;(first|with_reducible exact Ol.J _ _);clear hK K))
  refine wpQuiet_nil ?_;rintro xh ⟨⟨_,_⟩,Jb⟩;have qw:ag rO xh:=by rw[Jb];exact bE (below_regrown _ _ _)
  clear Jb ab7 ab8 ab9 ab';have nD:=I (show ag rO xh from by first|exact qw|exact Touch.pre qw|exact Touch.pre (Touch.pre qw)|exact Touch.pI qw|exact Touch.mH qw|exact Touch.pre (Touch.pre (Touch.pre qw)));have ahU:World.cell? xh ⟨g,o,none⟩=some (.string ⟨#[109,111]⟩):=Touch.cell nD.J Og (fun h=>h);have ahV:World.cell? xh ⟨g,o+1,none⟩=some (.slice A a.length ca):=Touch.cell nD.J Oh (fun h=>h);have ahW:World.cell? xh ⟨g,o+2,none⟩=some (.slice B ks.length cb):=Touch.cell nD.J Oi (fun h=>h);have ahX:World.cell? xh ⟨g,o+3,none⟩=some (.string ⟨t.toArray⟩):=Touch.cell nD.J Oj (fun h=>h);clear Og Oh Oi Oj;clear qw;go_wp2
  go_ret;exact⟨af _ _ (by simp only[*]<;>rfl),(by first|exact(nC.J.trans nD.J)|exact(nC.J.trans nD.J).alloc _|exact((nC.J.trans nD.J).alloc _).alloc _|exact(((nC.J.trans nD.J).alloc _).alloc _).alloc _|exact(nC.J.trans nD.J).drewN _|exact((nC.J.trans nD.J).alloc _).drewN _|exact(((nC.J.trans nD.J).alloc _).alloc _).drewN _)⟩
theorem adJ(a:aA)(ks:List E)(t:List UInt8)(g o:Nat)(va vk:Value)(w:World)(he:fC w g o (.mk ([109,110]) a ks t) va vk):Calls Tryz.prog 73 #[.pointer (some ⟨g,o,none⟩)] w fun x w'=>x=.returned (.bool (U.bQ (.mk ([109,110]) a ks t)))∧ag w w':=by
 obtain⟨A,ca,hva⟩:=he.2.2.2.2.2.1.slice;obtain⟨B,cb,hvb⟩:=he.2.2.2.2.2.2.1.slice;replace hva:va=.slice A a.length ca:=hva;replace hvb:vk=.slice B ks.length cb:=hvb;subst hva;subst hvb;have htl:t.length≤maxLen:=he.2.2.2.2.2.2.2.2;have hl1:a.length≤maxLen:=by obtain⟨_,_,_,h,_⟩:=he.2.2.2.2.2.1;exact h.1
 have hl2:ks.length≤maxLen:=he.2.2.2.2.2.2.1.len;have gX:=I htl;unfold maxLen at hl1 hl2 htl;have HE:=I he;obtain⟨_,a0,a1,a2,a3,_⟩:=he;replace a0:w.cell? ⟨g,o,none⟩=some (.string ⟨([109,110]:List UInt8).toArray⟩):=a0;replace a3:w.cell? ⟨g,o+3,none⟩=some (.string ⟨t.toArray⟩):=a3;rw[show U.bQ (.mk ([109,110]) a ks t)=_ from ab6];go_enter Tryz.func73,Tryz.ntmps73;go_wp2_with fail
 refine Calls.mono (gP [109,110] 3 (by rfl) _) ?_;rintro _ aiZ ⟨rfl,Tg⟩;replace Tg:=Tg.symm;subst Tg;go_wp2_with fail
 refine wp_region_quiet_lit (by kernel_rfl) (by kernel_rfl) ?_
 repeat(with_reducible refine wpQuiet_step (fun K hK=>?_);go_simp;first|(refine hK _ ?_;clear hK K)|(apply Exists.intro;refine⟨fun _=>?_,hK _ ?_⟩;(fail);clear hK K))
 refine wpQuiet_nil ?_;rintro _ ⟨nq,rfl⟩;cases h9:((a.length:Int)==(0:Int))with
 |false=>
  have Nq:((a.length:Int) !=(0:Int))=true:=by rw[bne,h9];rfl
  go_wp2
  go_ret;exact⟨af _ _ (by simp only[*]<;>rfl),bf⟩
 |true=>
  have Nq:((a.length:Int) !=(0:Int))=false:=by rw[bne,h9];rfl
  cases h10:((ks.length:Int)==(0:Int))with
  |false=>
   have Na:((ks.length:Int) !=(0:Int))=true:=by rw[bne,h10];rfl
   go_wp2
   go_ret;exact⟨af _ _ (by simp only[*]<;>rfl),bf⟩
  |true=>
   have Na:((ks.length:Int) !=(0:Int))=false:=by rw[bne,h10];rfl
   go_wp2_with fail
   refine Calls.mono (tX 3 t 0 (by decide) gX.J _) ?_;rintro _ BL ⟨rfl,qx⟩;have kT:=I (show ag w BL from by first|exact qx|exact Touch.pre qx|exact Touch.pre (Touch.pre qx)|exact Touch.pI qx|exact Touch.mH qx|exact Touch.pre (Touch.pre (Touch.pre qx)));have ahY:World.cell? BL ⟨g,o,none⟩=some (.string ⟨#[109,110]⟩):=Touch.cell kT.J a0 (fun h=>h);have ahZ:World.cell? BL ⟨g,o+1,none⟩=some (.slice A a.length ca):=Touch.cell kT.J a1 (fun h=>h);have ah0:World.cell? BL ⟨g,o+2,none⟩=some (.slice B ks.length cb):=Touch.cell kT.J a2 (fun h=>h);have ah1:World.cell? BL ⟨g,o+3,none⟩=some (.string ⟨t.toArray⟩):=Touch.cell kT.J a3 (fun h=>h);clear a0 a1 a2 a3;clear qx;cases h11:(eU 3 t 0)with
   |false=>
    go_wp2
    go_ret;exact⟨af _ _ (by simp only[*]<;>rfl),(by first|exact kT.J|exact kT.J.alloc _|exact(kT.J.alloc _).alloc _|exact((kT.J.alloc _).alloc _).alloc _|exact kT.J.drewN _|exact(kT.J.alloc _).drewN _|exact((kT.J.alloc _).alloc _).drewN _)⟩
   |true=>
    go_wp2
    go_ret;exact⟨af _ _ (by simp only[*]<;>rfl),(by first|exact kT.J|exact kT.J.alloc _|exact(kT.J.alloc _).alloc _|exact((kT.J.alloc _).alloc _).alloc _|exact kT.J.drewN _|exact(kT.J.alloc _).drewN _|exact((kT.J.alloc _).alloc _).drewN _)⟩
theorem VQ(a:aA)(ks:List E)(t:List UInt8)(g o:Nat)(va vk:Value)(w:World)(he:fC w g o (.mk ([109,116,101,120,116]) a ks t) va vk):Calls Tryz.prog 73 #[.pointer (some ⟨g,o,none⟩)] w fun x w'=>x=.returned (.bool (U.bQ (.mk ([109,116,101,120,116]) a ks t)))∧ag w w':=by
 obtain⟨A,ca,hva⟩:=he.2.2.2.2.2.1.slice;obtain⟨B,cb,hvb⟩:=he.2.2.2.2.2.2.1.slice;replace hva:va=.slice A a.length ca:=hva;replace hvb:vk=.slice B ks.length cb:=hvb;subst hva;subst hvb;have htl:t.length≤maxLen:=he.2.2.2.2.2.2.2.2;have hl1:a.length≤maxLen:=by obtain⟨_,_,_,h,_⟩:=he.2.2.2.2.2.1;exact h.1
 have hl2:ks.length≤maxLen:=he.2.2.2.2.2.2.1.len;have gX:=I htl;unfold maxLen at hl1 hl2 htl;have HE:=I he;obtain⟨_,a0,a1,a2,a3,_⟩:=he;replace a0:w.cell? ⟨g,o,none⟩=some (.string ⟨([109,116,101,120,116]:List UInt8).toArray⟩):=a0;replace a3:w.cell? ⟨g,o+3,none⟩=some (.string ⟨t.toArray⟩):=a3;rw[show U.bQ (.mk ([109,116,101,120,116]) a ks t)=_ from S9];go_enter Tryz.func73,Tryz.ntmps73;go_wp2_with fail
 refine Calls.mono (gP [109,116,101,120,116] 4 (by rfl) _) ?_;rintro _ ai0 ⟨rfl,Ti⟩;replace Ti:=Ti.symm;subst Ti;go_wp2_with fail
 refine wp_region_quiet_lit (by kernel_rfl) (by kernel_rfl) ?_
 repeat(with_reducible refine wpQuiet_step (fun K hK=>?_);go_simp;first|(refine hK _ ?_;clear hK K)|(apply Exists.intro;refine⟨fun _=>?_,hK _ ?_⟩;(fail);clear hK K))
 refine wpQuiet_nil ?_;rintro _ ⟨nq,rfl⟩;cases h12:((a.length:Int)==(0:Int))with
 |false=>
  have YV:((a.length:Int) !=(0:Int))=true:=by rw[bne,h12];rfl
  go_wp2
  go_ret;exact⟨af _ _ (by simp only[*]<;>rfl),bf⟩
 |true=>
  have YV:((a.length:Int) !=(0:Int))=false:=by rw[bne,h12];rfl
  cases rH:((ks.length:Int)==(0:Int))with
  |false=>
   have YW:((ks.length:Int) !=(0:Int))=true:=by rw[bne,rH];rfl
   go_wp2
   go_ret;exact⟨af _ _ (by simp only[*]<;>rfl),bf⟩
  |true=>
   have YW:((ks.length:Int) !=(0:Int))=false:=by rw[bne,rH];rfl
   go_wp2_with fail
   refine Calls.mono (tX 4 t 0 (by decide) gX.J _) ?_;rintro _ w16 ⟨rfl,qy⟩;have kU:=I (show ag w w16 from by first|exact qy|exact Touch.pre qy|exact Touch.pre (Touch.pre qy)|exact Touch.pI qy|exact Touch.mH qy|exact Touch.pre (Touch.pre (Touch.pre qy)));have ah2:World.cell? w16 ⟨g,o,none⟩=some (.string ⟨#[109,116,101,120,116]⟩):=Touch.cell kU.J a0 (fun h=>h);have ah3:World.cell? w16 ⟨g,o+1,none⟩=some (.slice A a.length ca):=Touch.cell kU.J a1 (fun h=>h);have ah4:World.cell? w16 ⟨g,o+2,none⟩=some (.slice B ks.length cb):=Touch.cell kU.J a2 (fun h=>h);have ah5:World.cell? w16 ⟨g,o+3,none⟩=some (.string ⟨t.toArray⟩):=Touch.cell kU.J a3 (fun h=>h);clear a0 a1 a2 a3;clear qy;cases yF:(eU 4 t 0)with
   |false=>
    go_wp2
    go_ret;exact⟨af _ _ (by simp only[*]<;>rfl),(by first|exact kU.J|exact kU.J.alloc _|exact(kU.J.alloc _).alloc _|exact((kU.J.alloc _).alloc _).alloc _|exact kU.J.drewN _|exact(kU.J.alloc _).drewN _|exact((kU.J.alloc _).alloc _).drewN _)⟩
   |true=>
    go_wp2
    go_ret;exact⟨af _ _ (by simp only[*]<;>rfl),(by first|exact kU.J|exact kU.J.alloc _|exact(kU.J.alloc _).alloc _|exact((kU.J.alloc _).alloc _).alloc _|exact kU.J.drewN _|exact(kU.J.alloc _).drewN _|exact((kU.J.alloc _).alloc _).drewN _)⟩
theorem Zz(a:aA)(ks:List E)(t:List UInt8)(g o:Nat)(va vk:Value)(w:World)(he:fC w g o (.mk ([109,97,116,104]) a ks t) va vk):Calls Tryz.prog 73 #[.pointer (some ⟨g,o,none⟩)] w fun x w'=>x=.returned (.bool (U.bQ (.mk ([109,97,116,104]) a ks t)))∧ag w w':=by
 obtain⟨A,ca,hva⟩:=he.2.2.2.2.2.1.slice;obtain⟨B,cb,hvb⟩:=he.2.2.2.2.2.2.1.slice;replace hva:va=.slice A a.length ca:=hva;replace hvb:vk=.slice B ks.length cb:=hvb;subst hva;subst hvb;have htl:t.length≤maxLen:=he.2.2.2.2.2.2.2.2;have hl1:a.length≤maxLen:=by obtain⟨_,_,_,h,_⟩:=he.2.2.2.2.2.1;exact h.1
 have hl2:ks.length≤maxLen:=he.2.2.2.2.2.2.1.len;have gX:=I htl;unfold maxLen at hl1 hl2 htl;have HE:=I he;obtain⟨_,a0,a1,a2,a3,_⟩:=he;replace a0:w.cell? ⟨g,o,none⟩=some (.string ⟨([109,97,116,104]:List UInt8).toArray⟩):=a0;replace a3:w.cell? ⟨g,o+3,none⟩=some (.string ⟨t.toArray⟩):=a3;rw[show U.bQ (.mk ([109,97,116,104]) a ks t)=_ from VM];go_enter Tryz.func73,Tryz.ntmps73;go_wp2_with fail
 refine Calls.mono (gP [109,97,116,104] 0 (by rfl) _) ?_;rintro _ afm ⟨rfl,CF⟩;replace CF:=CF.symm;subst CF;go_wp2_with fail
 refine wp_region_quiet_lit (by kernel_rfl) (by kernel_rfl) ?_
 repeat(with_reducible refine wpQuiet_step (fun K hK=>?_);go_simp;first|(refine hK _ ?_;clear hK K)|(apply Exists.intro;refine⟨fun _=>?_,hK _ ?_⟩;(fail);clear hK K))
 refine wpQuiet_nil ?_;rintro _ ⟨nq,rfl⟩;cases vI:(t==([]:List UInt8))with
 |false=>
  have zm:((⟨t.toArray⟩:ByteArray)==(⟨#[]⟩:ByteArray))=false:=by rw[aC];exact vI
  have MX:((⟨t.toArray⟩:ByteArray) !=(⟨#[]⟩:ByteArray))=true:=by rw[bne,zm];rfl
  have afn:(ByteArray.toList (⟨t.toArray⟩:ByteArray)).isEmpty=false:=by rw[bD];exact vI
  go_wp2
  go_ret;exact⟨af _ _ (by first|rfl|(simp only[*]<;>rfl)),bf⟩
 |true=>
  have zm:((⟨t.toArray⟩:ByteArray)==(⟨#[]⟩:ByteArray))=true:=by rw[aC];exact vI
  have MX:((⟨t.toArray⟩:ByteArray) !=(⟨#[]⟩:ByteArray))=false:=by rw[bne,zm];rfl
  have afn:(ByteArray.toList (⟨t.toArray⟩:ByteArray)).isEmpty=true:=by rw[bD];exact vI
  cases h16:((a.length:Int)==(0:Int))with
  |false=>
   have Nr:((a.length:Int) !=(0:Int))=true:=by rw[bne,h16];rfl
   go_wp2
   go_ret;exact⟨af _ _ (by first|rfl|(simp only[*]<;>rfl)),bf⟩
  |true=>
   have Nr:((a.length:Int) !=(0:Int))=false:=by rw[bne,h16];rfl
   go_wp2
   go_ret;exact⟨af _ _ (by first|rfl|(simp only[*]<;>rfl)),bf⟩
theorem ZA(a:aA)(ks:List E)(t:List UInt8)(g o:Nat)(va vk:Value)(w:World)(he:fC w g o (.mk ([109,114,111,119]) a ks t) va vk):Calls Tryz.prog 73 #[.pointer (some ⟨g,o,none⟩)] w fun x w'=>x=.returned (.bool (U.bQ (.mk ([109,114,111,119]) a ks t)))∧ag w w':=by
 obtain⟨A,ca,hva⟩:=he.2.2.2.2.2.1.slice;obtain⟨B,cb,hvb⟩:=he.2.2.2.2.2.2.1.slice;replace hva:va=.slice A a.length ca:=hva;replace hvb:vk=.slice B ks.length cb:=hvb;subst hva;subst hvb;have htl:t.length≤maxLen:=he.2.2.2.2.2.2.2.2;have hl1:a.length≤maxLen:=by obtain⟨_,_,_,h,_⟩:=he.2.2.2.2.2.1;exact h.1
 have hl2:ks.length≤maxLen:=he.2.2.2.2.2.2.1.len;have gX:=I htl;unfold maxLen at hl1 hl2 htl;have HE:=I he;obtain⟨_,a0,a1,a2,a3,_⟩:=he;replace a0:w.cell? ⟨g,o,none⟩=some (.string ⟨([109,114,111,119]:List UInt8).toArray⟩):=a0;replace a3:w.cell? ⟨g,o+3,none⟩=some (.string ⟨t.toArray⟩):=a3;rw[show U.bQ (.mk ([109,114,111,119]) a ks t)=_ from VN];go_enter Tryz.func73,Tryz.ntmps73;go_wp2_with fail
 refine Calls.mono (gP [109,114,111,119] 0 (by rfl) _) ?_;rintro _ ai1 ⟨rfl,Tj⟩;replace Tj:=Tj.symm;subst Tj;go_wp2_with fail
 refine wp_region_quiet_lit (by kernel_rfl) (by kernel_rfl) ?_
 repeat(with_reducible refine wpQuiet_step (fun K hK=>?_);go_simp;first|(refine hK _ ?_;clear hK K)|(apply Exists.intro;refine⟨fun _=>?_,hK _ ?_⟩;(fail);clear hK K))
 refine wpQuiet_nil ?_;rintro _ ⟨nq,rfl⟩;cases rY:(t==([]:List UInt8))with
 |false=>
  have uX:((⟨t.toArray⟩:ByteArray)==(⟨#[]⟩:ByteArray))=false:=by rw[aC];exact rY
  have GU:((⟨t.toArray⟩:ByteArray) !=(⟨#[]⟩:ByteArray))=true:=by rw[bne,uX];rfl
  have ZB:(ByteArray.toList (⟨t.toArray⟩:ByteArray)).isEmpty=false:=by rw[bD];exact rY
  go_wp2
  go_ret;exact⟨af _ _ (by first|rfl|(simp only[*]<;>rfl)),bf⟩
 |true=>
  have uX:((⟨t.toArray⟩:ByteArray)==(⟨#[]⟩:ByteArray))=true:=by rw[aC];exact rY
  have GU:((⟨t.toArray⟩:ByteArray) !=(⟨#[]⟩:ByteArray))=false:=by rw[bne,uX];rfl
  have ZB:(ByteArray.toList (⟨t.toArray⟩:ByteArray)).isEmpty=true:=by rw[bD];exact rY
  cases h18:((a.length:Int)==(0:Int))with
  |false=>
   have Ns:((a.length:Int) !=(0:Int))=true:=by rw[bne,h18];rfl
   go_wp2
   go_ret;exact⟨af _ _ (by first|rfl|(simp only[*]<;>rfl)),bf⟩
  |true=>
   have Ns:((a.length:Int) !=(0:Int))=false:=by rw[bne,h18];rfl
   go_wp2
   go_ret;exact⟨af _ _ (by first|rfl|(simp only[*]<;>rfl)),bf⟩
theorem acd(a:aA)(ks:List E)(t:List UInt8)(g o:Nat)(va vk:Value)(w:World)(he:fC w g o (.mk ([109,116,100]) a ks t) va vk):Calls Tryz.prog 73 #[.pointer (some ⟨g,o,none⟩)] w fun x w'=>x=.returned (.bool (U.bQ (.mk ([109,116,100]) a ks t)))∧ag w w':=by
 obtain⟨A,ca,hva⟩:=he.2.2.2.2.2.1.slice;obtain⟨B,cb,hvb⟩:=he.2.2.2.2.2.2.1.slice;replace hva:va=.slice A a.length ca:=hva;replace hvb:vk=.slice B ks.length cb:=hvb;subst hva;subst hvb;have htl:t.length≤maxLen:=he.2.2.2.2.2.2.2.2;have hl1:a.length≤maxLen:=by obtain⟨_,_,_,h,_⟩:=he.2.2.2.2.2.1;exact h.1
 have hl2:ks.length≤maxLen:=he.2.2.2.2.2.2.1.len;have gX:=I htl;unfold maxLen at hl1 hl2 htl;have HE:=I he;obtain⟨_,a0,a1,a2,a3,_⟩:=he;replace a0:w.cell? ⟨g,o,none⟩=some (.string ⟨([109,116,100]:List UInt8).toArray⟩):=a0;replace a3:w.cell? ⟨g,o+3,none⟩=some (.string ⟨t.toArray⟩):=a3;rw[show U.bQ (.mk ([109,116,100]) a ks t)=_ from Zw];go_enter Tryz.func73,Tryz.ntmps73;go_wp2_with fail
 refine Calls.mono (gP [109,116,100] 0 (by rfl) _) ?_;rintro _ ai2 ⟨rfl,Tk⟩;replace Tk:=Tk.symm;subst Tk;go_wp2_with fail
 refine wp_region_quiet_lit (by kernel_rfl) (by kernel_rfl) ?_
 repeat(with_reducible refine wpQuiet_step (fun K hK=>?_);go_simp;first|(refine hK _ ?_;clear hK K)|(apply Exists.intro;refine⟨fun _=>?_,hK _ ?_⟩;(fail);clear hK K))
 refine wpQuiet_nil ?_;rintro _ ⟨nq,rfl⟩;cases h19:(t==([]:List UInt8))with
 |false=>
  have zn:((⟨t.toArray⟩:ByteArray)==(⟨#[]⟩:ByteArray))=false:=by rw[aC];exact h19
  have MZ:((⟨t.toArray⟩:ByteArray) !=(⟨#[]⟩:ByteArray))=true:=by rw[bne,zn];rfl
  have YH:(ByteArray.toList (⟨t.toArray⟩:ByteArray)).isEmpty=false:=by rw[bD];exact h19
  go_wp2
  go_ret;exact⟨af _ _ (by first|rfl|(simp only[*]<;>rfl)),bf⟩
 |true=>
  have zn:((⟨t.toArray⟩:ByteArray)==(⟨#[]⟩:ByteArray))=true:=by rw[aC];exact h19
  have MZ:((⟨t.toArray⟩:ByteArray) !=(⟨#[]⟩:ByteArray))=false:=by rw[bne,zn];rfl
  have YH:(ByteArray.toList (⟨t.toArray⟩:ByteArray)).isEmpty=true:=by rw[bD];exact h19
  cases h20:((a.length:Int)==(0:Int))with
  |false=>
   have YY:((a.length:Int) !=(0:Int))=true:=by rw[bne,h20];rfl
   go_wp2
   go_ret;exact⟨af _ _ (by first|rfl|(simp only[*]<;>rfl)),bf⟩
  |true=>
   have YY:((a.length:Int) !=(0:Int))=false:=by rw[bne,h20];rfl
   go_wp2
   go_ret;exact⟨af _ _ (by first|rfl|(simp only[*]<;>rfl)),bf⟩
theorem Tm(a:aA)(ks:List E)(t:List UInt8)(g o:Nat)(va vk:Value)(w:World)(he:fC w g o (.mk ([109,116,97,98,108,101]) a ks t) va vk):Calls Tryz.prog 73 #[.pointer (some ⟨g,o,none⟩)] w fun x w'=>x=.returned (.bool (U.bQ (.mk ([109,116,97,98,108,101]) a ks t)))∧ag w w':=by
 obtain⟨A,ca,hva⟩:=he.2.2.2.2.2.1.slice;obtain⟨B,cb,hvb⟩:=he.2.2.2.2.2.2.1.slice;replace hva:va=.slice A a.length ca:=hva;replace hvb:vk=.slice B ks.length cb:=hvb;subst hva;subst hvb;have htl:t.length≤maxLen:=he.2.2.2.2.2.2.2.2;have hl1:a.length≤maxLen:=by obtain⟨_,_,_,h,_⟩:=he.2.2.2.2.2.1;exact h.1
 have hl2:ks.length≤maxLen:=he.2.2.2.2.2.2.1.len;have gX:=I htl;unfold maxLen at hl1 hl2 htl;have HE:=I he;obtain⟨_,a0,a1,a2,a3,_⟩:=he;replace a0:w.cell? ⟨g,o,none⟩=some (.string ⟨([109,116,97,98,108,101]:List UInt8).toArray⟩):=a0;replace a3:w.cell? ⟨g,o+3,none⟩=some (.string ⟨t.toArray⟩):=a3;rw[show U.bQ (.mk ([109,116,97,98,108,101]) a ks t)=_ from Gi];go_enter Tryz.func73,Tryz.ntmps73;go_wp2_with fail
 refine Calls.mono (gP [109,116,97,98,108,101] 0 (by rfl) _) ?_;rintro _ ai3 ⟨rfl,Tn⟩;replace Tn:=Tn.symm;subst Tn;go_wp2_with fail
 refine wp_region_quiet_lit (by kernel_rfl) (by kernel_rfl) ?_
 repeat(with_reducible refine wpQuiet_step (fun K hK=>?_);go_simp;first|(refine hK _ ?_;clear hK K)|(apply Exists.intro;refine⟨fun _=>?_,hK _ ?_⟩;(fail);clear hK K))
 refine wpQuiet_nil ?_;rintro _ ⟨nq,rfl⟩;cases h21:(t==([]:List UInt8))with
 |false=>
  have G8:((⟨t.toArray⟩:ByteArray)==(⟨#[]⟩:ByteArray))=false:=by rw[aC];exact h21
  have ZC:((⟨t.toArray⟩:ByteArray) !=(⟨#[]⟩:ByteArray))=true:=by rw[bne,G8];rfl
  have afo:(ByteArray.toList (⟨t.toArray⟩:ByteArray)).isEmpty=false:=by rw[bD];exact h21
  go_wp2
  go_ret;exact⟨af _ _ (by first|rfl|(simp only[*]<;>rfl)),bf⟩
 |true=>
  have G8:((⟨t.toArray⟩:ByteArray)==(⟨#[]⟩:ByteArray))=true:=by rw[aC];exact h21
  have ZC:((⟨t.toArray⟩:ByteArray) !=(⟨#[]⟩:ByteArray))=false:=by rw[bne,G8];rfl
  have afo:(ByteArray.toList (⟨t.toArray⟩:ByteArray)).isEmpty=true:=by rw[bD];exact h21
  cases h22:decide ((1:Int)≤(ks.length:Int))with
  |false=>
   have YZ:decide (1≤ks.length)=false:=by have hx:=h22;simp only[decide_eq_false_iff_not]at hx⊢;omega
   go_wp2
   go_ret;exact⟨af _ _ (by first|rfl|(simp only[*]<;>rfl)),bf⟩
  |true=>
   have YZ:decide (1≤ks.length)=true:=by have hx:=h22;simp only[decide_eq_true_eq]at hx⊢;omega
   cases h23:((a.length:Int)==(0:Int))with
   |false=>
    have Y0:((a.length:Int) !=(0:Int))=true:=by rw[bne,h23];rfl
    go_wp2
    go_ret;exact⟨af _ _ (by first|rfl|(simp only[*]<;>rfl)),bf⟩
   |true=>
    have Y0:((a.length:Int) !=(0:Int))=false:=by rw[bne,h23];rfl
    go_wp2
    go_ret;exact⟨af _ _ (by first|rfl|(simp only[*]<;>rfl)),bf⟩
theorem ace(a:aA)(ks:List E)(t:List UInt8)(g o:Nat)(va vk:Value)(w:World)(he:fC w g o (.mk ([109,116,114]) a ks t) va vk):Calls Tryz.prog 73 #[.pointer (some ⟨g,o,none⟩)] w fun x w'=>x=.returned (.bool (U.bQ (.mk ([109,116,114]) a ks t)))∧ag w w':=by
 obtain⟨A,ca,hva⟩:=he.2.2.2.2.2.1.slice;obtain⟨B,cb,hvb⟩:=he.2.2.2.2.2.2.1.slice;replace hva:va=.slice A a.length ca:=hva;replace hvb:vk=.slice B ks.length cb:=hvb;subst hva;subst hvb;have htl:t.length≤maxLen:=he.2.2.2.2.2.2.2.2;have hl1:a.length≤maxLen:=by obtain⟨_,_,_,h,_⟩:=he.2.2.2.2.2.1;exact h.1
 have hl2:ks.length≤maxLen:=he.2.2.2.2.2.2.1.len;have gX:=I htl;unfold maxLen at hl1 hl2 htl;have HE:=I he;obtain⟨_,a0,a1,a2,a3,_⟩:=he;replace a0:w.cell? ⟨g,o,none⟩=some (.string ⟨([109,116,114]:List UInt8).toArray⟩):=a0;replace a3:w.cell? ⟨g,o+3,none⟩=some (.string ⟨t.toArray⟩):=a3;rw[show U.bQ (.mk ([109,116,114]) a ks t)=_ from Zx];go_enter Tryz.func73,Tryz.ntmps73;go_wp2_with fail
 refine Calls.mono (gP [109,116,114] 0 (by rfl) _) ?_;rintro _ ai4 ⟨rfl,Tp⟩;replace Tp:=Tp.symm;subst Tp;go_wp2_with fail
 refine wp_region_quiet_lit (by kernel_rfl) (by kernel_rfl) ?_
 repeat(with_reducible refine wpQuiet_step (fun K hK=>?_);go_simp;first|(refine hK _ ?_;clear hK K)|(apply Exists.intro;refine⟨fun _=>?_,hK _ ?_⟩;(fail);clear hK K))
 refine wpQuiet_nil ?_;rintro _ ⟨nq,rfl⟩;cases KI:(t==([]:List UInt8))with
 |false=>
  have ZE:((⟨t.toArray⟩:ByteArray)==(⟨#[]⟩:ByteArray))=false:=by rw[aC];exact KI
  have afp:((⟨t.toArray⟩:ByteArray) !=(⟨#[]⟩:ByteArray))=true:=by rw[bne,ZE];rfl
  have afq:(ByteArray.toList (⟨t.toArray⟩:ByteArray)).isEmpty=false:=by rw[bD];exact KI
  go_wp2
  go_ret;exact⟨af _ _ (by first|rfl|(simp only[*]<;>rfl)),bf⟩
 |true=>
  have ZE:((⟨t.toArray⟩:ByteArray)==(⟨#[]⟩:ByteArray))=true:=by rw[aC];exact KI
  have afp:((⟨t.toArray⟩:ByteArray) !=(⟨#[]⟩:ByteArray))=false:=by rw[bne,ZE];rfl
  have afq:(ByteArray.toList (⟨t.toArray⟩:ByteArray)).isEmpty=true:=by rw[bD];exact KI
  cases h25:decide ((1:Int)≤(ks.length:Int))with
  |false=>
   have afr:decide (1≤ks.length)=false:=by have hx:=h25;simp only[decide_eq_false_iff_not]at hx⊢;omega
   go_wp2
   go_ret;exact⟨af _ _ (by first|rfl|(simp only[*]<;>rfl)),bf⟩
  |true=>
   have afr:decide (1≤ks.length)=true:=by have hx:=h25;simp only[decide_eq_true_eq]at hx⊢;omega
   cases h26:decide ((ks.length:Int)≤(16:Int))with
   |false=>
    have afs:decide (ks.length≤16)=false:=by have hx:=h26;simp only[decide_eq_false_iff_not]at hx⊢;omega
    go_wp2
    go_ret;exact⟨af _ _ (by first|rfl|(simp only[*]<;>rfl)),bf⟩
   |true=>
    have afs:decide (ks.length≤16)=true:=by have hx:=h26;simp only[decide_eq_true_eq]at hx⊢;omega
    cases h27:((a.length:Int)==(0:Int))with
    |false=>
     have aft:((a.length:Int) !=(0:Int))=true:=by rw[bne,h27];rfl
     go_wp2
     go_ret;exact⟨af _ _ (by first|rfl|(simp only[*]<;>rfl)),bf⟩
    |true=>
     have aft:((a.length:Int) !=(0:Int))=false:=by rw[bne,h27];rfl
     go_wp2
     go_ret;exact⟨af _ _ (by first|rfl|(simp only[*]<;>rfl)),bf⟩
theorem VR(a:aA)(ks:List E)(t:List UInt8)(g o:Nat)(va vk:Value)(w:World)(he:fC w g o (.mk ([109,102,114,97,99]) a ks t) va vk):Calls Tryz.prog 73 #[.pointer (some ⟨g,o,none⟩)] w fun x w'=>x=.returned (.bool (U.bQ (.mk ([109,102,114,97,99]) a ks t)))∧ag w w':=by
 obtain⟨A,ca,hva⟩:=he.2.2.2.2.2.1.slice;obtain⟨B,cb,hvb⟩:=he.2.2.2.2.2.2.1.slice;replace hva:va=.slice A a.length ca:=hva;replace hvb:vk=.slice B ks.length cb:=hvb;subst hva;subst hvb;have htl:t.length≤maxLen:=he.2.2.2.2.2.2.2.2;have hl1:a.length≤maxLen:=by obtain⟨_,_,_,h,_⟩:=he.2.2.2.2.2.1;exact h.1
 have hl2:ks.length≤maxLen:=he.2.2.2.2.2.2.1.len;have gX:=I htl;unfold maxLen at hl1 hl2 htl;have HE:=I he;obtain⟨_,a0,a1,a2,a3,_⟩:=he;replace a0:w.cell? ⟨g,o,none⟩=some (.string ⟨([109,102,114,97,99]:List UInt8).toArray⟩):=a0;replace a3:w.cell? ⟨g,o+3,none⟩=some (.string ⟨t.toArray⟩):=a3;rw[show U.bQ (.mk ([109,102,114,97,99]) a ks t)=_ from Ta];go_enter Tryz.func73,Tryz.ntmps73;go_wp2_with fail
 refine Calls.mono (gP [109,102,114,97,99] 0 (by rfl) _) ?_;rintro _ ai5 ⟨rfl,Tq⟩;replace Tq:=Tq.symm;subst Tq;go_wp2_with fail
 refine wp_region_quiet_lit (by kernel_rfl) (by kernel_rfl) ?_
 repeat(with_reducible refine wpQuiet_step (fun K hK=>?_);go_simp;first|(refine hK _ ?_;clear hK K)|(apply Exists.intro;refine⟨fun _=>?_,hK _ ?_⟩;(fail);clear hK K))
 refine wpQuiet_nil ?_;rintro _ ⟨nq,rfl⟩;cases KJ:(t==([]:List UInt8))with
 |false=>
  have ZF:((⟨t.toArray⟩:ByteArray)==(⟨#[]⟩:ByteArray))=false:=by rw[aC];exact KJ
  have afu:((⟨t.toArray⟩:ByteArray) !=(⟨#[]⟩:ByteArray))=true:=by rw[bne,ZF];rfl
  have afv:(ByteArray.toList (⟨t.toArray⟩:ByteArray)).isEmpty=false:=by rw[bD];exact KJ
  go_wp2
  go_ret;exact⟨af _ _ (by first|rfl|(simp only[*]<;>rfl)),bf⟩
 |true=>
  have ZF:((⟨t.toArray⟩:ByteArray)==(⟨#[]⟩:ByteArray))=true:=by rw[aC];exact KJ
  have afu:((⟨t.toArray⟩:ByteArray) !=(⟨#[]⟩:ByteArray))=false:=by rw[bne,ZF];rfl
  have afv:(ByteArray.toList (⟨t.toArray⟩:ByteArray)).isEmpty=true:=by rw[bD];exact KJ
  cases Ve:((ks.length:Int)==(2:Int))with
  |false=>
   have Y1:((ks.length:Int) !=(2:Int))=true:=by rw[bne,Ve];rfl
   go_wp2
   go_ret;exact⟨af _ _ (by first|rfl|(simp only[*]<;>rfl)),bf⟩
  |true=>
   have Y1:((ks.length:Int) !=(2:Int))=false:=by rw[bne,Ve];rfl
   cases h30:((a.length:Int)==(0:Int))with
   |false=>
    have afw:((a.length:Int) !=(0:Int))=true:=by rw[bne,h30];rfl
    go_wp2
    go_ret;exact⟨af _ _ (by first|rfl|(simp only[*]<;>rfl)),bf⟩
   |true=>
    have afw:((a.length:Int) !=(0:Int))=false:=by rw[bne,h30];rfl
    go_wp2
    go_ret;exact⟨af _ _ (by first|rfl|(simp only[*]<;>rfl)),bf⟩
theorem VS(a:aA)(ks:List E)(t:List UInt8)(g o:Nat)(va vk:Value)(w:World)(he:fC w g o (.mk ([109,114,111,111,116]) a ks t) va vk):Calls Tryz.prog 73 #[.pointer (some ⟨g,o,none⟩)] w fun x w'=>x=.returned (.bool (U.bQ (.mk ([109,114,111,111,116]) a ks t)))∧ag w w':=by
 obtain⟨A,ca,hva⟩:=he.2.2.2.2.2.1.slice;obtain⟨B,cb,hvb⟩:=he.2.2.2.2.2.2.1.slice;replace hva:va=.slice A a.length ca:=hva;replace hvb:vk=.slice B ks.length cb:=hvb;subst hva;subst hvb;have htl:t.length≤maxLen:=he.2.2.2.2.2.2.2.2;have hl1:a.length≤maxLen:=by obtain⟨_,_,_,h,_⟩:=he.2.2.2.2.2.1;exact h.1
 have hl2:ks.length≤maxLen:=he.2.2.2.2.2.2.1.len;have gX:=I htl;unfold maxLen at hl1 hl2 htl;have HE:=I he;obtain⟨_,a0,a1,a2,a3,_⟩:=he;replace a0:w.cell? ⟨g,o,none⟩=some (.string ⟨([109,114,111,111,116]:List UInt8).toArray⟩):=a0;replace a3:w.cell? ⟨g,o+3,none⟩=some (.string ⟨t.toArray⟩):=a3;rw[show U.bQ (.mk ([109,114,111,111,116]) a ks t)=_ from I7];go_enter Tryz.func73,Tryz.ntmps73;go_wp2_with fail
 refine Calls.mono (gP [109,114,111,111,116] 0 (by rfl) _) ?_;rintro _ ai6 ⟨rfl,Tt⟩;replace Tt:=Tt.symm;subst Tt;go_wp2_with fail
 refine wp_region_quiet_lit (by kernel_rfl) (by kernel_rfl) ?_
 repeat(with_reducible refine wpQuiet_step (fun K hK=>?_);go_simp;first|(refine hK _ ?_;clear hK K)|(apply Exists.intro;refine⟨fun _=>?_,hK _ ?_⟩;(fail);clear hK K))
 refine wpQuiet_nil ?_;rintro _ ⟨nq,rfl⟩;cases h31:(t==([]:List UInt8))with
 |false=>
  have ZG:((⟨t.toArray⟩:ByteArray)==(⟨#[]⟩:ByteArray))=false:=by rw[aC];exact h31
  have afx:((⟨t.toArray⟩:ByteArray) !=(⟨#[]⟩:ByteArray))=true:=by rw[bne,ZG];rfl
  have afy:(ByteArray.toList (⟨t.toArray⟩:ByteArray)).isEmpty=false:=by rw[bD];exact h31
  go_wp2
  go_ret;exact⟨af _ _ (by first|rfl|(simp only[*]<;>rfl)),bf⟩
 |true=>
  have ZG:((⟨t.toArray⟩:ByteArray)==(⟨#[]⟩:ByteArray))=true:=by rw[aC];exact h31
  have afx:((⟨t.toArray⟩:ByteArray) !=(⟨#[]⟩:ByteArray))=false:=by rw[bne,ZG];rfl
  have afy:(ByteArray.toList (⟨t.toArray⟩:ByteArray)).isEmpty=true:=by rw[bD];exact h31
  cases h32:((ks.length:Int)==(2:Int))with
  |false=>
   have afz:((ks.length:Int) !=(2:Int))=true:=by rw[bne,h32];rfl
   go_wp2
   go_ret;exact⟨af _ _ (by first|rfl|(simp only[*]<;>rfl)),bf⟩
  |true=>
   have afz:((ks.length:Int) !=(2:Int))=false:=by rw[bne,h32];rfl
   cases h33:((a.length:Int)==(0:Int))with
   |false=>
    have afA:((a.length:Int) !=(0:Int))=true:=by rw[bne,h33];rfl
    go_wp2
    go_ret;exact⟨af _ _ (by first|rfl|(simp only[*]<;>rfl)),bf⟩
   |true=>
    have afA:((a.length:Int) !=(0:Int))=false:=by rw[bne,h33];rfl
    go_wp2
    go_ret;exact⟨af _ _ (by first|rfl|(simp only[*]<;>rfl)),bf⟩
theorem ZH(a:aA)(ks:List E)(t:List UInt8)(g o:Nat)(va vk:Value)(w:World)(he:fC w g o (.mk ([109,115,117,98]) a ks t) va vk):Calls Tryz.prog 73 #[.pointer (some ⟨g,o,none⟩)] w fun x w'=>x=.returned (.bool (U.bQ (.mk ([109,115,117,98]) a ks t)))∧ag w w':=by
 obtain⟨A,ca,hva⟩:=he.2.2.2.2.2.1.slice;obtain⟨B,cb,hvb⟩:=he.2.2.2.2.2.2.1.slice;replace hva:va=.slice A a.length ca:=hva;replace hvb:vk=.slice B ks.length cb:=hvb;subst hva;subst hvb;have htl:t.length≤maxLen:=he.2.2.2.2.2.2.2.2;have hl1:a.length≤maxLen:=by obtain⟨_,_,_,h,_⟩:=he.2.2.2.2.2.1;exact h.1
 have hl2:ks.length≤maxLen:=he.2.2.2.2.2.2.1.len;have gX:=I htl;unfold maxLen at hl1 hl2 htl;have HE:=I he;obtain⟨_,a0,a1,a2,a3,_⟩:=he;replace a0:w.cell? ⟨g,o,none⟩=some (.string ⟨([109,115,117,98]:List UInt8).toArray⟩):=a0;replace a3:w.cell? ⟨g,o+3,none⟩=some (.string ⟨t.toArray⟩):=a3;rw[show U.bQ (.mk ([109,115,117,98]) a ks t)=_ from VO];go_enter Tryz.func73,Tryz.ntmps73;go_wp2_with fail
 refine Calls.mono (gP [109,115,117,98] 0 (by rfl) _) ?_;rintro _ ai7 ⟨rfl,Tu⟩;replace Tu:=Tu.symm;subst Tu;go_wp2_with fail
 refine wp_region_quiet_lit (by kernel_rfl) (by kernel_rfl) ?_
 repeat(with_reducible refine wpQuiet_step (fun K hK=>?_);go_simp;first|(refine hK _ ?_;clear hK K)|(apply Exists.intro;refine⟨fun _=>?_,hK _ ?_⟩;(fail);clear hK K))
 refine wpQuiet_nil ?_;rintro _ ⟨nq,rfl⟩;cases h34:(t==([]:List UInt8))with
 |false=>
  have ZI:((⟨t.toArray⟩:ByteArray)==(⟨#[]⟩:ByteArray))=false:=by rw[aC];exact h34
  have afB:((⟨t.toArray⟩:ByteArray) !=(⟨#[]⟩:ByteArray))=true:=by rw[bne,ZI];rfl
  have afC:(ByteArray.toList (⟨t.toArray⟩:ByteArray)).isEmpty=false:=by rw[bD];exact h34
  go_wp2
  go_ret;exact⟨af _ _ (by first|rfl|(simp only[*]<;>rfl)),bf⟩
 |true=>
  have ZI:((⟨t.toArray⟩:ByteArray)==(⟨#[]⟩:ByteArray))=true:=by rw[aC];exact h34
  have afB:((⟨t.toArray⟩:ByteArray) !=(⟨#[]⟩:ByteArray))=false:=by rw[bne,ZI];rfl
  have afC:(ByteArray.toList (⟨t.toArray⟩:ByteArray)).isEmpty=true:=by rw[bD];exact h34
  cases h35:((ks.length:Int)==(2:Int))with
  |false=>
   have afD:((ks.length:Int) !=(2:Int))=true:=by rw[bne,h35];rfl
   go_wp2
   go_ret;exact⟨af _ _ (by first|rfl|(simp only[*]<;>rfl)),bf⟩
  |true=>
   have afD:((ks.length:Int) !=(2:Int))=false:=by rw[bne,h35];rfl
   cases h36:((a.length:Int)==(0:Int))with
   |false=>
    have afE:((a.length:Int) !=(0:Int))=true:=by rw[bne,h36];rfl
    go_wp2
    go_ret;exact⟨af _ _ (by first|rfl|(simp only[*]<;>rfl)),bf⟩
   |true=>
    have afE:((a.length:Int) !=(0:Int))=false:=by rw[bne,h36];rfl
    go_wp2
    go_ret;exact⟨af _ _ (by first|rfl|(simp only[*]<;>rfl)),bf⟩
theorem ZJ(a:aA)(ks:List E)(t:List UInt8)(g o:Nat)(va vk:Value)(w:World)(he:fC w g o (.mk ([109,115,117,112]) a ks t) va vk):Calls Tryz.prog 73 #[.pointer (some ⟨g,o,none⟩)] w fun x w'=>x=.returned (.bool (U.bQ (.mk ([109,115,117,112]) a ks t)))∧ag w w':=by
 obtain⟨A,ca,hva⟩:=he.2.2.2.2.2.1.slice;obtain⟨B,cb,hvb⟩:=he.2.2.2.2.2.2.1.slice;replace hva:va=.slice A a.length ca:=hva;replace hvb:vk=.slice B ks.length cb:=hvb;subst hva;subst hvb;have htl:t.length≤maxLen:=he.2.2.2.2.2.2.2.2;have hl1:a.length≤maxLen:=by obtain⟨_,_,_,h,_⟩:=he.2.2.2.2.2.1;exact h.1
 have hl2:ks.length≤maxLen:=he.2.2.2.2.2.2.1.len;have gX:=I htl;unfold maxLen at hl1 hl2 htl;have HE:=I he;obtain⟨_,a0,a1,a2,a3,_⟩:=he;replace a0:w.cell? ⟨g,o,none⟩=some (.string ⟨([109,115,117,112]:List UInt8).toArray⟩):=a0;replace a3:w.cell? ⟨g,o+3,none⟩=some (.string ⟨t.toArray⟩):=a3;rw[show U.bQ (.mk ([109,115,117,112]) a ks t)=_ from VP];go_enter Tryz.func73,Tryz.ntmps73;go_wp2_with fail
 refine Calls.mono (gP [109,115,117,112] 0 (by rfl) _) ?_;rintro _ ai8 ⟨rfl,Tv⟩;replace Tv:=Tv.symm;subst Tv;go_wp2_with fail
 refine wp_region_quiet_lit (by kernel_rfl) (by kernel_rfl) ?_
 repeat(with_reducible refine wpQuiet_step (fun K hK=>?_);go_simp;first|(refine hK _ ?_;clear hK K)|(apply Exists.intro;refine⟨fun _=>?_,hK _ ?_⟩;(fail);clear hK K))
 refine wpQuiet_nil ?_;rintro _ ⟨nq,rfl⟩;cases h37:(t==([]:List UInt8))with
 |false=>
  have ZK:((⟨t.toArray⟩:ByteArray)==(⟨#[]⟩:ByteArray))=false:=by rw[aC];exact h37
  have afF:((⟨t.toArray⟩:ByteArray) !=(⟨#[]⟩:ByteArray))=true:=by rw[bne,ZK];rfl
  have afG:(ByteArray.toList (⟨t.toArray⟩:ByteArray)).isEmpty=false:=by rw[bD];exact h37
  go_wp2
  go_ret;exact⟨af _ _ (by first|rfl|(simp only[*]<;>rfl)),bf⟩
 |true=>
  have ZK:((⟨t.toArray⟩:ByteArray)==(⟨#[]⟩:ByteArray))=true:=by rw[aC];exact h37
  have afF:((⟨t.toArray⟩:ByteArray) !=(⟨#[]⟩:ByteArray))=false:=by rw[bne,ZK];rfl
  have afG:(ByteArray.toList (⟨t.toArray⟩:ByteArray)).isEmpty=true:=by rw[bD];exact h37
  cases Ed:((ks.length:Int)==(2:Int))with
  |false=>
   have afH:((ks.length:Int) !=(2:Int))=true:=by rw[bne,Ed];rfl
   go_wp2
   go_ret;exact⟨af _ _ (by first|rfl|(simp only[*]<;>rfl)),bf⟩
  |true=>
   have afH:((ks.length:Int) !=(2:Int))=false:=by rw[bne,Ed];rfl
   cases h39:((a.length:Int)==(0:Int))with
   |false=>
    have afI:((a.length:Int) !=(0:Int))=true:=by rw[bne,h39];rfl
    go_wp2
    go_ret;exact⟨af _ _ (by first|rfl|(simp only[*]<;>rfl)),bf⟩
   |true=>
    have afI:((a.length:Int) !=(0:Int))=false:=by rw[bne,h39];rfl
    go_wp2
    go_ret;exact⟨af _ _ (by first|rfl|(simp only[*]<;>rfl)),bf⟩
theorem P8(a:aA)(ks:List E)(t:List UInt8)(g o:Nat)(va vk:Value)(w:World)(he:fC w g o (.mk ([109,115,117,98,115,117,112]) a ks t) va vk):Calls Tryz.prog 73 #[.pointer (some ⟨g,o,none⟩)] w fun x w'=>x=.returned (.bool (U.bQ (.mk ([109,115,117,98,115,117,112]) a ks t)))∧ag w w':=by
 obtain⟨A,ca,hva⟩:=he.2.2.2.2.2.1.slice;obtain⟨B,cb,hvb⟩:=he.2.2.2.2.2.2.1.slice;replace hva:va=.slice A a.length ca:=hva;replace hvb:vk=.slice B ks.length cb:=hvb;subst hva;subst hvb;have htl:t.length≤maxLen:=he.2.2.2.2.2.2.2.2;have hl1:a.length≤maxLen:=by obtain⟨_,_,_,h,_⟩:=he.2.2.2.2.2.1;exact h.1
 have hl2:ks.length≤maxLen:=he.2.2.2.2.2.2.1.len;have gX:=I htl;unfold maxLen at hl1 hl2 htl;have HE:=I he;obtain⟨_,a0,a1,a2,a3,_⟩:=he;replace a0:w.cell? ⟨g,o,none⟩=some (.string ⟨([109,115,117,98,115,117,112]:List UInt8).toArray⟩):=a0;replace a3:w.cell? ⟨g,o+3,none⟩=some (.string ⟨t.toArray⟩):=a3;rw[show U.bQ (.mk ([109,115,117,98,115,117,112]) a ks t)=_ from Oe];go_enter Tryz.func73,Tryz.ntmps73;go_wp2_with fail
 refine Calls.mono (gP [109,115,117,98,115,117,112] 0 (by rfl) _) ?_;rintro _ ai9 ⟨rfl,Tw⟩;replace Tw:=Tw.symm;subst Tw;go_wp2_with fail
 refine wp_region_quiet_lit (by kernel_rfl) (by kernel_rfl) ?_
 repeat(with_reducible refine wpQuiet_step (fun K hK=>?_);go_simp;first|(refine hK _ ?_;clear hK K)|(apply Exists.intro;refine⟨fun _=>?_,hK _ ?_⟩;(fail);clear hK K))
 refine wpQuiet_nil ?_;rintro _ ⟨nq,rfl⟩;cases h40:(t==([]:List UInt8))with
 |false=>
  have ZL:((⟨t.toArray⟩:ByteArray)==(⟨#[]⟩:ByteArray))=false:=by rw[aC];exact h40
  have afJ:((⟨t.toArray⟩:ByteArray) !=(⟨#[]⟩:ByteArray))=true:=by rw[bne,ZL];rfl
  have afK:(ByteArray.toList (⟨t.toArray⟩:ByteArray)).isEmpty=false:=by rw[bD];exact h40
  go_wp2
  go_ret;exact⟨af _ _ (by first|rfl|(simp only[*]<;>rfl)),bf⟩
 |true=>
  have ZL:((⟨t.toArray⟩:ByteArray)==(⟨#[]⟩:ByteArray))=true:=by rw[aC];exact h40
  have afJ:((⟨t.toArray⟩:ByteArray) !=(⟨#[]⟩:ByteArray))=false:=by rw[bne,ZL];rfl
  have afK:(ByteArray.toList (⟨t.toArray⟩:ByteArray)).isEmpty=true:=by rw[bD];exact h40
  cases h41:((ks.length:Int)==(3:Int))with
  |false=>
   have afL:((ks.length:Int) !=(3:Int))=true:=by rw[bne,h41];rfl
   go_wp2
   go_ret;exact⟨af _ _ (by first|rfl|(simp only[*]<;>rfl)),bf⟩
  |true=>
   have afL:((ks.length:Int) !=(3:Int))=false:=by rw[bne,h41];rfl
   cases h42:((a.length:Int)==(0:Int))with
   |false=>
    have afM:((a.length:Int) !=(0:Int))=true:=by rw[bne,h42];rfl
    go_wp2
    go_ret;exact⟨af _ _ (by first|rfl|(simp only[*]<;>rfl)),bf⟩
   |true=>
    have afM:((a.length:Int) !=(0:Int))=false:=by rw[bne,h42];rfl
    go_wp2
    go_ret;exact⟨af _ _ (by first|rfl|(simp only[*]<;>rfl)),bf⟩
theorem VT(a:aA)(ks:List E)(t:List UInt8)(g o:Nat)(va vk:Value)(w:World)(he:fC w g o (.mk ([109,115,113,114,116]) a ks t) va vk):Calls Tryz.prog 73 #[.pointer (some ⟨g,o,none⟩)] w fun x w'=>x=.returned (.bool (U.bQ (.mk ([109,115,113,114,116]) a ks t)))∧ag w w':=by
 obtain⟨A,ca,hva⟩:=he.2.2.2.2.2.1.slice;obtain⟨B,cb,hvb⟩:=he.2.2.2.2.2.2.1.slice;replace hva:va=.slice A a.length ca:=hva;replace hvb:vk=.slice B ks.length cb:=hvb;subst hva;subst hvb;have htl:t.length≤maxLen:=he.2.2.2.2.2.2.2.2;have hl1:a.length≤maxLen:=by obtain⟨_,_,_,h,_⟩:=he.2.2.2.2.2.1;exact h.1
 have hl2:ks.length≤maxLen:=he.2.2.2.2.2.2.1.len;have gX:=I htl;unfold maxLen at hl1 hl2 htl;have HE:=I he;obtain⟨_,a0,a1,a2,a3,_⟩:=he;replace a0:w.cell? ⟨g,o,none⟩=some (.string ⟨([109,115,113,114,116]:List UInt8).toArray⟩):=a0;replace a3:w.cell? ⟨g,o+3,none⟩=some (.string ⟨t.toArray⟩):=a3;rw[show U.bQ (.mk ([109,115,113,114,116]) a ks t)=_ from I8];go_enter Tryz.func73,Tryz.ntmps73;go_wp2_with fail
 refine Calls.mono (gP [109,115,113,114,116] 0 (by rfl) _) ?_;rintro _ ai' ⟨rfl,Tx⟩;replace Tx:=Tx.symm;subst Tx;go_wp2_with fail
 refine wp_region_quiet_lit (by kernel_rfl) (by kernel_rfl) ?_
 repeat(with_reducible refine wpQuiet_step (fun K hK=>?_);go_simp;first|(refine hK _ ?_;clear hK K)|(apply Exists.intro;refine⟨fun _=>?_,hK _ ?_⟩;(fail);clear hK K))
 refine wpQuiet_nil ?_;rintro _ ⟨nq,rfl⟩;cases h43:(t==([]:List UInt8))with
 |false=>
  have ZM:((⟨t.toArray⟩:ByteArray)==(⟨#[]⟩:ByteArray))=false:=by rw[aC];exact h43
  have afN:((⟨t.toArray⟩:ByteArray) !=(⟨#[]⟩:ByteArray))=true:=by rw[bne,ZM];rfl
  have afO:(ByteArray.toList (⟨t.toArray⟩:ByteArray)).isEmpty=false:=by rw[bD];exact h43
  go_wp2
  go_ret;exact⟨af _ _ (by first|rfl|(simp only[*]<;>rfl)),bf⟩
 |true=>
  have ZM:((⟨t.toArray⟩:ByteArray)==(⟨#[]⟩:ByteArray))=true:=by rw[aC];exact h43
  have afN:((⟨t.toArray⟩:ByteArray) !=(⟨#[]⟩:ByteArray))=false:=by rw[bne,ZM];rfl
  have afO:(ByteArray.toList (⟨t.toArray⟩:ByteArray)).isEmpty=true:=by rw[bD];exact h43
  cases h44:((ks.length:Int)==(1:Int))with
  |false=>
   have afP:((ks.length:Int) !=(1:Int))=true:=by rw[bne,h44];rfl
   go_wp2
   go_ret;exact⟨af _ _ (by first|rfl|(simp only[*]<;>rfl)),bf⟩
  |true=>
   have afP:((ks.length:Int) !=(1:Int))=false:=by rw[bne,h44];rfl
   cases h45:((a.length:Int)==(0:Int))with
   |false=>
    have afQ:((a.length:Int) !=(0:Int))=true:=by rw[bne,h45];rfl
    go_wp2
    go_ret;exact⟨af _ _ (by first|rfl|(simp only[*]<;>rfl)),bf⟩
   |true=>
    have afQ:((a.length:Int) !=(0:Int))=false:=by rw[bne,h45];rfl
    go_wp2
    go_ret;exact⟨af _ _ (by first|rfl|(simp only[*]<;>rfl)),bf⟩
theorem VU(a:aA)(ks:List E)(t:List UInt8)(av:List UInt8)(wG:aW a U.cK=av)(hal:av.length≤maxLen)(g o:Nat)(va vk:Value)(w:World)(he:fC w g o (.mk ([109,111,118,101,114]) a ks t) va vk):Calls Tryz.prog 73 #[.pointer (some ⟨g,o,none⟩)] w fun x w'=>x=.returned (.bool (U.bQ (.mk ([109,111,118,101,114]) a ks t)))∧ag w w':=by
 obtain⟨A,ca,hva⟩:=he.2.2.2.2.2.1.slice;obtain⟨B,cb,hvb⟩:=he.2.2.2.2.2.2.1.slice;replace hva:va=.slice A a.length ca:=hva;replace hvb:vk=.slice B ks.length cb:=hvb;subst hva;subst hvb;have htl:t.length≤maxLen:=he.2.2.2.2.2.2.2.2;have hl1:a.length≤maxLen:=by obtain⟨_,_,_,h,_⟩:=he.2.2.2.2.2.1;exact h.1
 have hl2:ks.length≤maxLen:=he.2.2.2.2.2.2.1.len;have gX:=I htl;unfold maxLen at hl1 hl2 htl;have HE:=I he;obtain⟨_,a0,a1,a2,a3,_⟩:=he;replace a0:w.cell? ⟨g,o,none⟩=some (.string ⟨([109,111,118,101,114]:List UInt8).toArray⟩):=a0;replace a3:w.cell? ⟨g,o+3,none⟩=some (.string ⟨t.toArray⟩):=a3;rw[show U.bQ (.mk ([109,111,118,101,114]) a ks t)=_ from I9];rw[wG];have Au:=I wG;have Gh:=I hal;clear wG;go_enter Tryz.func73,Tryz.ntmps73;go_wp2_with fail
 refine Calls.mono (gP [109,111,118,101,114] 0 (by rfl) _) ?_;rintro _ aja ⟨rfl,Ty⟩;replace Ty:=Ty.symm;subst Ty;go_wp2_with fail
 refine wp_region_quiet_lit (by kernel_rfl) (by kernel_rfl) ?_
 repeat(with_reducible refine wpQuiet_step (fun K hK=>?_);go_simp;first|(refine hK _ ?_;clear hK K)|(apply Exists.intro;refine⟨fun _=>?_,hK _ ?_⟩;(fail);clear hK K))
 refine wpQuiet_nil ?_;rintro _ ⟨nq,rfl⟩;cases h46:(t==([]:List UInt8))with
 |false=>
  have ZO:((⟨t.toArray⟩:ByteArray)==(⟨#[]⟩:ByteArray))=false:=by rw[aC];exact h46
  have afR:((⟨t.toArray⟩:ByteArray) !=(⟨#[]⟩:ByteArray))=true:=by rw[bne,ZO];rfl
  have afS:(ByteArray.toList (⟨t.toArray⟩:ByteArray)).isEmpty=false:=by rw[bD];exact h46
  go_wp2
  go_ret;exact⟨af _ _ (by first|rfl|(simp only[*]<;>rfl)),bf⟩
 |true=>
  have ZO:((⟨t.toArray⟩:ByteArray)==(⟨#[]⟩:ByteArray))=true:=by rw[aC];exact h46
  have afR:((⟨t.toArray⟩:ByteArray) !=(⟨#[]⟩:ByteArray))=false:=by rw[bne,ZO];rfl
  have afS:(ByteArray.toList (⟨t.toArray⟩:ByteArray)).isEmpty=true:=by rw[bD];exact h46
  cases h47:((ks.length:Int)==(1:Int))with
  |false=>
   have afT:((ks.length:Int) !=(1:Int))=true:=by rw[bne,h47];rfl
   go_wp2
   go_ret;exact⟨af _ _ (by first|rfl|(simp only[*]<;>rfl)),bf⟩
  |true=>
   have afT:((ks.length:Int) !=(1:Int))=false:=by rw[bne,h47];rfl
   go_wp2_with fail
   refine Calls.mono (show Calls _ _ _ _ (fun x w'=>x=.returned (.string ⟨av.toArray⟩)∧ag _ w')from Au.J▸sP _ U.cK g o _ _ _ (HE.J.fresh bf)) ?_;rintro _ Q5 ⟨rfl,CG⟩;have nQ:=I (show ag w Q5 from by first|exact CG|exact Touch.pre CG|exact Touch.pre (Touch.pre CG)|exact Touch.pI CG|exact Touch.mH CG|exact Touch.pre (Touch.pre (Touch.pre CG)));have VV:World.cell? Q5 ⟨g,o,none⟩=some (.string ⟨#[109,111,118,101,114]⟩):=Touch.cell nQ.J a0 (fun h=>h);have VW:World.cell? Q5 ⟨g,o+1,none⟩=some (.slice A a.length ca):=Touch.cell nQ.J a1 (fun h=>h);have VX:World.cell? Q5 ⟨g,o+2,none⟩=some (.slice B ks.length cb):=Touch.cell nQ.J a2 (fun h=>h);have VY:World.cell? Q5 ⟨g,o+3,none⟩=some (.string ⟨t.toArray⟩):=Touch.cell nQ.J a3 (fun h=>h);clear a0 a1 a2 a3;clear CG;go_wp2_with fail
   refine Calls.mono (tX 10 av 1 (by decide) Gh.J _) ?_;rintro _ VZ ⟨rfl,CJ⟩;have nR:=I (show ag Q5 VZ from by first|exact CJ|exact Touch.pre CJ|exact Touch.pre (Touch.pre CJ)|exact Touch.pI CJ|exact Touch.mH CJ|exact Touch.pre (Touch.pre (Touch.pre CJ)));have ah6:World.cell? VZ ⟨g,o,none⟩=some (.string ⟨#[109,111,118,101,114]⟩):=Touch.cell nR.J VV (fun h=>h);have ah7:World.cell? VZ ⟨g,o+1,none⟩=some (.slice A a.length ca):=Touch.cell nR.J VW (fun h=>h);have ah8:World.cell? VZ ⟨g,o+2,none⟩=some (.slice B ks.length cb):=Touch.cell nR.J VX (fun h=>h);have ah9:World.cell? VZ ⟨g,o+3,none⟩=some (.string ⟨t.toArray⟩):=Touch.cell nR.J VY (fun h=>h);clear VV VW VX VY;clear CJ;cases h48:(eU 10 av 1)with
   |false=>
    go_wp2
    go_ret;exact⟨af _ _ (by first|rfl|(simp only[*]<;>rfl)),(by first|exact(nQ.J.trans nR.J)|exact(nQ.J.trans nR.J).alloc _|exact((nQ.J.trans nR.J).alloc _).alloc _|exact(((nQ.J.trans nR.J).alloc _).alloc _).alloc _|exact(nQ.J.trans nR.J).drewN _|exact((nQ.J.trans nR.J).alloc _).drewN _|exact(((nQ.J.trans nR.J).alloc _).alloc _).drewN _)⟩
   |true=>
    cases h49:((a.length:Int)==(1:Int))with
    |false=>
     have afU:((a.length:Int) !=(1:Int))=true:=by rw[bne,h49];rfl
     go_wp2
     go_ret;exact⟨af _ _ (by first|rfl|(simp only[*]<;>rfl)),(by first|exact(nQ.J.trans nR.J)|exact(nQ.J.trans nR.J).alloc _|exact((nQ.J.trans nR.J).alloc _).alloc _|exact(((nQ.J.trans nR.J).alloc _).alloc _).alloc _|exact(nQ.J.trans nR.J).drewN _|exact((nQ.J.trans nR.J).alloc _).drewN _|exact(((nQ.J.trans nR.J).alloc _).alloc _).drewN _)⟩
    |true=>
     have afU:((a.length:Int) !=(1:Int))=false:=by rw[bne,h49];rfl
     go_wp2
     go_ret;exact⟨af _ _ (by first|rfl|(simp only[*]<;>rfl)),(by first|exact(nQ.J.trans nR.J)|exact(nQ.J.trans nR.J).alloc _|exact((nQ.J.trans nR.J).alloc _).alloc _|exact(((nQ.J.trans nR.J).alloc _).alloc _).alloc _|exact(nQ.J.trans nR.J).drewN _|exact((nQ.J.trans nR.J).alloc _).drewN _|exact(((nQ.J.trans nR.J).alloc _).alloc _).drewN _)⟩
theorem P9(a:aA)(ks:List E)(t:List UInt8)(av bv:List UInt8)(wG:aW a U.fK=av)(hbv:aW a U.dM=bv)(g o:Nat)(va vk:Value)(w:World)(he:fC w g o (.mk ([109,102,101,110,99,101,100]) a ks t) va vk):Calls Tryz.prog 73 #[.pointer (some ⟨g,o,none⟩)] w fun x w'=>x=.returned (.bool (U.bQ (.mk ([109,102,101,110,99,101,100]) a ks t)))∧ag w w':=by
 obtain⟨A,ca,hva⟩:=he.2.2.2.2.2.1.slice;obtain⟨B,cb,hvb⟩:=he.2.2.2.2.2.2.1.slice;replace hva:va=.slice A a.length ca:=hva;replace hvb:vk=.slice B ks.length cb:=hvb;subst hva;subst hvb;have htl:t.length≤maxLen:=he.2.2.2.2.2.2.2.2;have hl1:a.length≤maxLen:=by obtain⟨_,_,_,h,_⟩:=he.2.2.2.2.2.1;exact h.1
 have hl2:ks.length≤maxLen:=he.2.2.2.2.2.2.1.len;have gX:=I htl;unfold maxLen at hl1 hl2 htl;have HE:=I he;obtain⟨_,a0,a1,a2,a3,_⟩:=he;replace a0:w.cell? ⟨g,o,none⟩=some (.string ⟨([109,102,101,110,99,101,100]:List UInt8).toArray⟩):=a0;replace a3:w.cell? ⟨g,o+3,none⟩=some (.string ⟨t.toArray⟩):=a3;rw[show U.bQ (.mk ([109,102,101,110,99,101,100]) a ks t)=_ from EC];rw[wG,hbv];have Au:=I wG;have dX:=I hbv;clear wG hbv;cases h0:(t==([]:List UInt8))with
 |false=>
  have h0s:((⟨t.toArray⟩:ByteArray)==(⟨#[]⟩:ByteArray))=false:=by rw[aC];exact h0
  have h0e:(ByteArray.toList (⟨t.toArray⟩:ByteArray)).isEmpty=false:=by rw[bD];exact h0
  go_enter Tryz.func73,Tryz.ntmps73;go_wp2_with fail
  refine Calls.mono (gP [109,102,101,110,99,101,100] 0 (by rfl) _) ?_;rintro _ ajb ⟨rfl,Tz⟩;replace Tz:=Tz.symm;subst Tz;go_wp2_with fail
  refine wp_region_quiet_lit (by kernel_rfl) (by kernel_rfl) ?_
  repeat(with_reducible refine wpQuiet_step (fun K hK=>?_);go_simp;first|(refine hK _ ?_;clear hK K)|(apply Exists.intro;refine⟨fun _=>?_,hK _ ?_⟩;(fail);clear hK K))
  refine wpQuiet_nil ?_;rintro _ ⟨nq,rfl⟩;go_wp2_with fail
  refine Calls.mono (show Calls _ _ _ _ (fun x w'=>x=.returned (.string ⟨av.toArray⟩)∧ag _ w')from Au.J▸sP _ U.fK g o _ _ _ (HE.J.fresh bf)) ?_;rintro _ w32 ⟨rfl,CK⟩;have rW:=I (show ag w w32 from by first|exact CK|exact Touch.pre CK|exact Touch.pre (Touch.pre CK)|exact Touch.pI CK|exact Touch.mH CK|exact Touch.pre (Touch.pre (Touch.pre CK)));have V3:World.cell? w32 ⟨g,o,none⟩=some (.string ⟨#[109,102,101,110,99,101,100]⟩):=Touch.cell rW.J a0 (fun h=>h);have V4:World.cell? w32 ⟨g,o+1,none⟩=some (.slice A a.length ca):=Touch.cell rW.J a1 (fun h=>h);have V5:World.cell? w32 ⟨g,o+2,none⟩=some (.slice B ks.length cb):=Touch.cell rW.J a2 (fun h=>h);have V6:World.cell? w32 ⟨g,o+3,none⟩=some (.string ⟨t.toArray⟩):=Touch.cell rW.J a3 (fun h=>h);clear a0 a1 a2 a3;clear CK;go_wp2_with fail
  refine Calls.mono (show Calls _ _ _ _ (fun x w'=>x=.returned (.string ⟨bv.toArray⟩)∧ag _ w')from dX.J▸sP _ U.dM g o _ _ _ (HE.J.fresh (by first|exact rW.J|exact rW.J.alloc _|exact(rW.J.alloc _).alloc _|exact((rW.J.alloc _).alloc _).alloc _|exact rW.J.drewN _|exact(rW.J.alloc _).drewN _|exact((rW.J.alloc _).alloc _).drewN _))) ?_;rintro _ V7 ⟨rfl,CL⟩;have zK:=I (show ag w32 V7 from by first|exact CL|exact Touch.pre CL|exact Touch.pre (Touch.pre CL)|exact Touch.pI CL|exact Touch.mH CL|exact Touch.pre (Touch.pre (Touch.pre CL)));have ah':World.cell? V7 ⟨g,o,none⟩=some (.string ⟨#[109,102,101,110,99,101,100]⟩):=Touch.cell zK.J V3 (fun h=>h);have aia:World.cell? V7 ⟨g,o+1,none⟩=some (.slice A a.length ca):=Touch.cell zK.J V4 (fun h=>h);have aib:World.cell? V7 ⟨g,o+2,none⟩=some (.slice B ks.length cb):=Touch.cell zK.J V5 (fun h=>h);have aic:World.cell? V7 ⟨g,o+3,none⟩=some (.string ⟨t.toArray⟩):=Touch.cell zK.J V6 (fun h=>h);clear V3 V4 V5 V6;clear CL;go_wp2
  go_ret;exact⟨af _ _ (by first|rfl|(simp only[*]<;>rfl)),(by first|exact(rW.J.trans zK.J)|exact(rW.J.trans zK.J).alloc _|exact((rW.J.trans zK.J).alloc _).alloc _|exact(((rW.J.trans zK.J).alloc _).alloc _).alloc _|exact(rW.J.trans zK.J).drewN _|exact((rW.J.trans zK.J).alloc _).drewN _|exact(((rW.J.trans zK.J).alloc _).alloc _).drewN _)⟩
 |true=>
  have h0s:((⟨t.toArray⟩:ByteArray)==(⟨#[]⟩:ByteArray))=true:=by rw[aC];exact h0
  have h0e:(ByteArray.toList (⟨t.toArray⟩:ByteArray)).isEmpty=true:=by rw[bD];exact h0
  go_enter Tryz.func73,Tryz.ntmps73;go_wp2_with fail
  refine Calls.mono (gP [109,102,101,110,99,101,100] 0 (by rfl) _) ?_;rintro _ ajc ⟨rfl,TA⟩;replace TA:=TA.symm;subst TA;go_wp2_with fail
  refine wp_region_quiet_lit (by kernel_rfl) (by kernel_rfl) ?_
  repeat(with_reducible refine wpQuiet_step (fun K hK=>?_);go_simp;first|(refine hK _ ?_;clear hK K)|(apply Exists.intro;refine⟨fun _=>?_,hK _ ?_⟩;(fail);clear hK K))
  refine wpQuiet_nil ?_;rintro _ ⟨nq,rfl⟩;go_wp2_with fail
  refine Calls.mono (show Calls _ _ _ _ (fun x w'=>x=.returned (.string ⟨av.toArray⟩)∧ag _ w')from Au.J▸sP _ U.fK g o _ _ _ (HE.J.fresh bf)) ?_;rintro _ Q6 ⟨rfl,CO⟩;have gU:=I (show ag w Q6 from by first|exact CO|exact Touch.pre CO|exact Touch.pre (Touch.pre CO)|exact Touch.pI CO|exact Touch.mH CO|exact Touch.pre (Touch.pre (Touch.pre CO)));have V8:World.cell? Q6 ⟨g,o,none⟩=some (.string ⟨#[109,102,101,110,99,101,100]⟩):=Touch.cell gU.J a0 (fun h=>h);have V9:World.cell? Q6 ⟨g,o+1,none⟩=some (.slice A a.length ca):=Touch.cell gU.J a1 (fun h=>h);have Wh:World.cell? Q6 ⟨g,o+2,none⟩=some (.slice B ks.length cb):=Touch.cell gU.J a2 (fun h=>h);have Wi:World.cell? Q6 ⟨g,o+3,none⟩=some (.string ⟨t.toArray⟩):=Touch.cell gU.J a3 (fun h=>h);clear a0 a1 a2 a3;clear CO;go_wp2_with fail
  refine Calls.mono (show Calls _ _ _ _ (fun x w'=>x=.returned (.string ⟨bv.toArray⟩)∧ag _ w')from dX.J▸sP _ U.dM g o _ _ _ (HE.J.fresh (by first|exact gU.J|exact gU.J.alloc _|exact(gU.J.alloc _).alloc _|exact((gU.J.alloc _).alloc _).alloc _|exact gU.J.drewN _|exact(gU.J.alloc _).drewN _|exact((gU.J.alloc _).alloc _).drewN _))) ?_;rintro _ Q7 ⟨rfl,CP⟩;have iT:=I (show ag Q6 Q7 from by first|exact CP|exact Touch.pre CP|exact Touch.pre (Touch.pre CP)|exact Touch.pI CP|exact Touch.mH CP|exact Touch.pre (Touch.pre (Touch.pre CP)));have Wj:World.cell? Q7 ⟨g,o,none⟩=some (.string ⟨#[109,102,101,110,99,101,100]⟩):=Touch.cell iT.J V8 (fun h=>h);have Wl:World.cell? Q7 ⟨g,o+1,none⟩=some (.slice A a.length ca):=Touch.cell iT.J V9 (fun h=>h);have Wm:World.cell? Q7 ⟨g,o+2,none⟩=some (.slice B ks.length cb):=Touch.cell iT.J Wh (fun h=>h);have Wn:World.cell? Q7 ⟨g,o+3,none⟩=some (.string ⟨t.toArray⟩):=Touch.cell iT.J Wi (fun h=>h);clear V8 V9 Wh Wi;clear CP;cases h50:((ks.length:Int)==(1:Int))with
  |false=>
   have afV:((ks.length:Int) !=(1:Int))=true:=by rw[bne,h50];rfl
   go_wp2
   go_ret;exact⟨af _ _ (by first|rfl|(simp only[*]<;>rfl)),(by first|exact(gU.J.trans iT.J)|exact(gU.J.trans iT.J).alloc _|exact((gU.J.trans iT.J).alloc _).alloc _|exact(((gU.J.trans iT.J).alloc _).alloc _).alloc _|exact(gU.J.trans iT.J).drewN _|exact((gU.J.trans iT.J).alloc _).drewN _|exact(((gU.J.trans iT.J).alloc _).alloc _).drewN _)⟩
  |true=>
   have afV:((ks.length:Int) !=(1:Int))=false:=by rw[bne,h50];rfl
   cases h51:((av.length:Int)==(1:Int))with
   |false=>
    have afW:((av.length:Int) !=(1:Int))=true:=by rw[bne,h51];rfl
    go_wp2
    go_ret;exact⟨af _ _ (by first|rfl|(simp only[*]<;>rfl)),(by first|exact(gU.J.trans iT.J)|exact(gU.J.trans iT.J).alloc _|exact((gU.J.trans iT.J).alloc _).alloc _|exact(((gU.J.trans iT.J).alloc _).alloc _).alloc _|exact(gU.J.trans iT.J).drewN _|exact((gU.J.trans iT.J).alloc _).drewN _|exact(((gU.J.trans iT.J).alloc _).alloc _).drewN _)⟩
   |true=>
    have afW:((av.length:Int) !=(1:Int))=false:=by rw[bne,h51];rfl
    cases h52:((bv.length:Int)==(1:Int))with
    |false=>
     have afX:((bv.length:Int) !=(1:Int))=true:=by rw[bne,h52];rfl
     go_wp2
     go_ret;exact⟨af _ _ (by first|rfl|(simp only[*]<;>rfl)),(by first|exact(gU.J.trans iT.J)|exact(gU.J.trans iT.J).alloc _|exact((gU.J.trans iT.J).alloc _).alloc _|exact(((gU.J.trans iT.J).alloc _).alloc _).alloc _|exact(gU.J.trans iT.J).drewN _|exact((gU.J.trans iT.J).alloc _).drewN _|exact(((gU.J.trans iT.J).alloc _).alloc _).drewN _)⟩
    |true=>
     have afX:((bv.length:Int) !=(1:Int))=false:=by rw[bne,h52];rfl
     have hla:(av.length:Int)=1:=eq_of_beq (by assumption);have hlb:(bv.length:Int)=1:=eq_of_beq (by assumption);have hadd:=fun W:World=>run_string_add_lists (P:=Tryz.prog) W av bv (by omega) (by omega)
     go_wp2_with fail
     refine Calls.mono (tX 11 (av++bv) 1 (by decide) (by unfold maxLen;rw[List.length_append];omega) _) ?_;rintro _ Wo ⟨rfl,CQ⟩;have nS:=I (show ag Q7 Wo from by first|exact CQ|exact Touch.pre CQ|exact Touch.pre (Touch.pre CQ)|exact Touch.pI CQ|exact Touch.mH CQ|exact Touch.pre (Touch.pre (Touch.pre CQ)));have aid:World.cell? Wo ⟨g,o,none⟩=some (.string ⟨#[109,102,101,110,99,101,100]⟩):=Touch.cell nS.J Wj (fun h=>h);have aie:World.cell? Wo ⟨g,o+1,none⟩=some (.slice A a.length ca):=Touch.cell nS.J Wl (fun h=>h);have aif:World.cell? Wo ⟨g,o+2,none⟩=some (.slice B ks.length cb):=Touch.cell nS.J Wm (fun h=>h);have aih:World.cell? Wo ⟨g,o+3,none⟩=some (.string ⟨t.toArray⟩):=Touch.cell nS.J Wn (fun h=>h);clear Wj Wl Wm Wn;clear CQ;cases h53:(eU 11 (av++bv) 1)with
     |false=>
      go_wp2
      go_ret;exact⟨af _ _ (by first|rfl|(simp only[*]<;>rfl)),(by first|exact(gU.J.trans (iT.J.trans nS.J))|exact(gU.J.trans (iT.J.trans nS.J)).alloc _|exact((gU.J.trans (iT.J.trans nS.J)).alloc _).alloc _|exact(((gU.J.trans (iT.J.trans nS.J)).alloc _).alloc _).alloc _|exact(gU.J.trans (iT.J.trans nS.J)).drewN _|exact((gU.J.trans (iT.J.trans nS.J)).alloc _).drewN _|exact(((gU.J.trans (iT.J.trans nS.J)).alloc _).alloc _).drewN _)⟩
     |true=>
      cases h54:((a.length:Int)==(2:Int))with
      |false=>
       have afY:((a.length:Int) !=(2:Int))=true:=by rw[bne,h54];rfl
       go_wp2
       go_ret;exact⟨af _ _ (by first|rfl|(simp only[*]<;>rfl)),(by first|exact(gU.J.trans (iT.J.trans nS.J))|exact(gU.J.trans (iT.J.trans nS.J)).alloc _|exact((gU.J.trans (iT.J.trans nS.J)).alloc _).alloc _|exact(((gU.J.trans (iT.J.trans nS.J)).alloc _).alloc _).alloc _|exact(gU.J.trans (iT.J.trans nS.J)).drewN _|exact((gU.J.trans (iT.J.trans nS.J)).alloc _).drewN _|exact(((gU.J.trans (iT.J.trans nS.J)).alloc _).alloc _).drewN _)⟩
      |true=>
       have afY:((a.length:Int) !=(2:Int))=false:=by rw[bne,h54];rfl
       go_wp2
       go_ret;exact⟨af _ _ (by first|rfl|(simp only[*]<;>rfl)),(by first|exact(gU.J.trans (iT.J.trans nS.J))|exact(gU.J.trans (iT.J.trans nS.J)).alloc _|exact((gU.J.trans (iT.J.trans nS.J)).alloc _).alloc _|exact(((gU.J.trans (iT.J.trans nS.J)).alloc _).alloc _).alloc _|exact(gU.J.trans (iT.J.trans nS.J)).drewN _|exact((gU.J.trans (iT.J.trans nS.J)).alloc _).drewN _|exact(((gU.J.trans (iT.J.trans nS.J)).alloc _).alloc _).drewN _)⟩
end
end Go.Proofs.YtnbeemkfmlfgfaaGreatDoor
