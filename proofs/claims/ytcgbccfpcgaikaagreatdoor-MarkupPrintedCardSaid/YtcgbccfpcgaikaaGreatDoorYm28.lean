/- Part 28 of 46 of a proof. No condition. -/
import Derived.Test.YtcgbccfpcgaikaaGreatDoorYm27
set_option maxRecDepth 100000
set_option maxHeartbeats 2000000
namespace Go.Proofs.YtcgbccfpcgaikaaGreatDoor
section
open Go.RowKit
open U (E aJ oU sW)
def RI(d k c:Nat)(e:E)(w:World)(x:Ending)(w':World):Prop:=x=.returned (.bool (oU d k e))∧Touch (fun b=>b=c) w w'∧∃k':Int,af w' c 3 #[.int .i64 k']∧(oU d k e=true→k'=((k+U.count e:Nat):Int))
def Jg(e:E):Prop:=∀(g o c d k:Nat) (va vk:Value) (w:World),gZ w g o e va vk→af w c 3 #[.int .i64 (k:Int)]→k≤3000→d≤65→Calls Tryz.prog 74 #[.pointer (some ⟨g,o,none⟩),.int .i64 (d:Int),.pointer (some ⟨c,0,none⟩)] w (RI d k c e w)
theorem Ba(l:List UInt8)(w:World)(h:l.length≤9223372036854775807):Calls Tryz.prog 115 #[.string ⟨l.toArray⟩] w fun e w'=>e=.returned (.bool (U.jH l))∧ag w w':=
 (Od ⟨l.toArray⟩ w h).mono fun e w' ⟨h1,h2⟩=>⟨h1,by rw[h2];exact M _ _⟩
theorem DL(l:List UInt8)(w:World)(h:l.length≤9223372036854775807):Calls Tryz.prog 116 #[.string ⟨l.toArray⟩] w fun e w'=>e=.returned (.bool (U.fu l))∧ag w w':=
 (LF ⟨l.toArray⟩ w h).mono fun e w' ⟨h1,h2⟩=>⟨h1,by rw[h2];exact M _ _⟩
theorem jE{d k c:Nat}{e:E}{w w':World}{k':Int}(hv:oU d k e=false)(ht:Touch (fun b=>b=c) w w')(hb:af w' c 3 #[.int .i64 k']):RI d k c e w (.returned (.bool false)) w':=
 ⟨by rw[hv],ht,k',hb,fun h=>by rw[hv]at h;cases h⟩
theorem UO(e:E)(ih:∀x∈e.kids,Jg x):Jg e:=by
 intro g o c d k va vk w he hc hk hd;have HQ:=hid (U.aeS d k e);obtain⟨n,ats,ks,t⟩:=e;obtain⟨hg,h0,h1,h2,h3,ha,hks,hnl,htl⟩:=he;have HE:=hid (show gZ w g o (.mk n ats ks t) va vk from⟨hg,h0,h1,h2,h3,ha,hks,hnl,htl⟩);have hne:g≠c:=HE.out.ne (wS.int hc);have HA:=hid (show gJ w ats va from ha);have HK:=hid (show gK w ks vk from hks);have q9:=hid ih;have aiX:n.length≤maxLen:=hnl;have aiY:t.length≤maxLen:=htl;unfold maxLen at aiX aiY;have hl1:ats.length≤maxLen:=by obtain⟨_,_,_,h,_⟩:=ha;exact h.1
 have hl2:ks.length≤maxLen:=hks.len;unfold maxLen at hl1 hl2;obtain⟨A,ca,hva⟩:=ha.slice;obtain⟨B,cb,hvb⟩:=hks.slice;replace hva:va=.slice A ats.length ca:=hva;replace hvb:vk=.slice B ks.length cb:=hvb;subst hva;subst hvb;replace h0:w.cell? ⟨g,o,none⟩=some (.string ⟨n.toArray⟩):=h0;replace h3:w.cell? ⟨g,o+3,none⟩=some (.string ⟨t.toArray⟩):=h3;obtain⟨q0⟩:Nonempty (PLift (w.cell? ⟨c,0,none⟩=some (.int .i64 (k:Int)))):=⟨⟨hc.cell 0⟩⟩;have q0:=q0.down;have qf:w.frozen? ⟨c,0,none⟩=false:=hc.frozen 0;have qg:c<w.heap.size:=hc.lt;have HC:=hid hc;clear ih ha hks hnl htl hc;have Mc:=hid (show af (w.setCell ⟨c,0,none⟩ (.int .i64 ((k:Int)+1))) c 3 #[.int .i64 ((k:Int)+1)]from HC.out.put 0 (.int .i64 ((k:Int)+1)));have HT1:=hid ((M (fun b=>b=c) w).setCell (p:=⟨c,0,none⟩) (.inl rfl) (.int .i64 ((k:Int)+1)));have kI:=hid (HE.out.turn HT1.out fun b hb=>by rw[show b=c from hb];exact wS.int HC.out);have hkw:(k:Int)≤3000:=by omega
 have hdw:(d:Int)≤65:=by omega
 by_cases hb1:k+1≤3000
 ·by_cases hb2:d≤64
  ·by_cases hb3:ats.length≤8
   ·have d1:decide ((3000:Int)<(k:Int)+1)=false:=dF (by omega)
    have d2:decide ((64:Int)<(d:Int))=false:=dF (by omega);have d3:decide ((8:Int)<(ats.length:Int))=false:=dF (by omega);go_enter Tryz.func74,Tryz.ntmps74;go_wp2_with fail
    generalize hW1:w.setCell ⟨c,0,none⟩ (.int .i64 ((k:Int)+1))=W1 at*;clear hW1 h0 h1 h2 h3 q0 qf qg d1 d2 d3;have F7:=HE;have HC0:=HC;clear HE HC;obtain⟨hgW,h0,h1,h2,h3,_⟩:=kI.out;replace h0:W1.cell? ⟨g,o,none⟩=some (.string ⟨n.toArray⟩):=h0;replace h3:W1.cell? ⟨g,o+3,none⟩=some (.string ⟨t.toArray⟩):=h3;have HOWN:=hid (show U.qF (.mk n ats ks t)=(U.jH n&&U.fu t&&(t.isEmpty||ks.isEmpty)&&decide (ats.length≤8)&&U.jY ats)from rfl);refine(Od ⟨n.toArray⟩ _ (show n.length≤9223372036854775807 by omega)).mono ?_;rintro _ w2 ⟨rfl,hw⟩;replace hw:=hw.symm;subst hw;cases hnm:U.jH n with
    |false=>
     have HV:=hid (show oU d k (.mk n ats ks t)=false by rw[HQ.out,HOWN.out,hnm];simp);go_wp2
     go_ret;exact jE HV.out HT1.out Mc.out
    |true=>
    go_wp2_with fail
    refine(LF ⟨t.toArray⟩ _ (show t.length≤9223372036854775807 by omega)).mono ?_;rintro _ w2 ⟨rfl,hw⟩;replace hw:=hw.symm;subst hw;cases hvl:U.fu t with
    |false=>
     have HV:=hid (show oU d k (.mk n ats ks t)=false by rw[HQ.out,HOWN.out,hvl];simp);go_wp2
     go_ret;exact jE HV.out HT1.out Mc.out
    |true=>
    by_cases hk0:0<ks.length∧t≠[]
    ·obtain⟨hk0,ht0⟩:=hk0
     have HV:=hid (show oU d k (.mk n ats ks t)=false by
      rw[HQ.out,HOWN.out,show t.isEmpty=false from List.isEmpty_eq_false_iff.2 ht0,show ks.isEmpty=false from List.isEmpty_eq_false_iff.2 (List.ne_nil_of_length_pos hk0)];simp)
     have e0:((⟨t.toArray⟩:ByteArray) !=⟨#[]⟩)=true:=by rw[bne,bS];simpa using ht0
     have d5:decide ((0:Int)<(ks.length:Int))=true:=dT (by omega);have et:(!t.isEmpty)=true:=by rw[List.isEmpty_eq_false_iff.2 ht0];rfl
     go_wp2
     go_ret;exact jE HV.out HT1.out Mc.out
    have nK:=hid (show(t.isEmpty||ks.isEmpty)=true by
     rw[Bool.or_eq_true,List.isEmpty_iff,List.isEmpty_iff]
     by_cases ht:t=[]
     ·exact .inl ht
     ·exact .inr (List.eq_nil_of_length_eq_zero (by have:¬0<ks.length:=fun h=>hk0 ⟨h,ht⟩;omega)))
    by_cases ht0:t=[]
    focus
     have et:(!t.isEmpty)=false:=by rw[ht0];rfl
     clear hk0;go_wp2_with fail
    rotate_left
    focus
     have hk1:ks.length=0:=by have:¬0<ks.length:=fun h=>hk0 ⟨h,ht0⟩;omega
     have hk2:¬0<ks.length:=by omega
     have e0:((⟨t.toArray⟩:ByteArray) !=⟨#[]⟩)=true:=by rw[bne,bS];simpa using ht0
     have d5:decide ((0:Int)<(ks.length:Int))=false:=dF (by omega);have et:(!t.isEmpty)=true:=by rw[List.isEmpty_eq_false_iff.2 ht0];rfl
     clear hk0 hk1;go_wp2_with fail
    all_goals
     clear et ht0 h0 h1 h2 h3
     try clear hk2 e0 d5
     go_loopw [65] (fun i wr=>∃j:Nat,i=.int .i64 j∧j≤ats.length∧Hd (U.jY (ats.take j)=true)∧Hd (Touch (fun b=>b=c) w wr)∧Hd (ag W1 wr)∧Hd (af wr c 3 #[.int .i64 ((k:Int)+1)])) (fun i _=>ats.length-(intOf i).toNat)
     case atStart=>exact⟨0,rfl,Nat.zero_le _,U.UC,HT1,M _ _,Mc⟩
     case round=>
      obtain⟨j,rfl,hj,jJ,HT,HF,HC⟩:=hrel
      by_cases c1:j<ats.length
      ·have d1:decide ((j:Int)<(ats.length:Int))=true:=dT (by omega)
       have d1':(j:Int)<(ats.length:Int):=by omega
       have hjc:j≤ca:=by have:=HA.out.cap;omega
       have HA1:=hid (show gJ W1 ats _ from kI.out.2.2.2.2.2.1);obtain⟨ga,oa,rfl,hga,m0,m1,hx1,hx2⟩:=HA1.out.get j c1;have HAJ:=hid (HA1.out.take j hj);have je:=hid hx1;have p8:=hid hx2;have e0:=HF.out.cell m0 (fun h=>h);have f0:=HF.out.cell m1 (fun h=>h);have OD:=(kI.out.fresh HF.out).2.2.1;have HS:=hid (U.Re ats j c1);clear m0 m1 hx1 hx2;generalize ats[j]=x at*;cases hA:U.jH x.1 with
       |false=>
        go_wp2_with fail
        refine bK (fun W=>ag wr W∧af W wr.heap.size 125 #[.string ⟨x.1.toArray⟩,.string ⟨x.2.toArray⟩]) ⟨aF,bH⟩ ?_;rintro w4 ⟨jf,hb4⟩;have eZ:=hid jf;have iB:=hid hb4;have z0:=eZ.out.cell OD (fun h=>h);have zg:=eZ.out.size;clear jf hb4 e0 f0 OD;have g0:=cR z0;have g1:=cR (show w4.cell? ⟨wr.heap.size,0,none⟩=some (.string ⟨x.1.toArray⟩)from iB.out.cell 0);have g2:=cR (show w4.cell? ⟨wr.heap.size,1,none⟩=some (.string ⟨x.2.toArray⟩)from iB.out.cell 1);have C0:=hid (lJ (P:=Tryz.prog) w4 (fun w hw=>(show Calls _ _ _ _ (fun e w'=>e=.returned (.bool false)∧ag w w')from hA▸Ba x.1 w (by have:=je.out;unfold maxLen at this;omega))));refine wp_region_quiet_below (by kernel_rfl) (by kernel_rfl) ?_
        repeat(with_reducible refine wpQuiet_step (fun K hK=>?_);go_simp;first|(refine hK _ ?_;clear hK K)|(apply Exists.intro;refine⟨fun _=>?_,hK _ ?_⟩;(first|with_reducible exact C0.out _ _);clear hK K))
        refine wpQuiet_nil ?_;rintro w5 ⟨⟨_,_⟩,vz⟩;have jO:ag w4 w5:=by rw[vz];exact aZ (below_regrown _ _ _)
        clear vz g0 g1 g2 z0;have eY:=hid (eZ.out.trans jO);clear jO;have HV:=hid (show oU d k (.mk n ats ks t)=false by rw[HQ.out,HOWN.out,U.E9 ats (j+1) (by rw[HS.out,jJ.out,hA];simp)];simp);go_wp2
        go_ret;exact jE HV.out (HT.out.trans (eY.out.mono fun _ h=>h.elim)) (eY.out.blk HC.out fun h=>h)
       |true=>
       cases hB:U.fu x.2 with
       |false=>
        go_wp2_with fail
        refine bK (fun W=>ag wr W∧af W wr.heap.size 125 #[.string ⟨x.1.toArray⟩,.string ⟨x.2.toArray⟩]) ⟨aF,bH⟩ ?_;rintro w4 ⟨jf,hb4⟩;have eZ:=hid jf;have iB:=hid hb4;have z0:=eZ.out.cell OD (fun h=>h);have zg:=eZ.out.size;clear jf hb4 e0 f0 OD;have g0:=cR z0;have g1:=cR (show w4.cell? ⟨wr.heap.size,0,none⟩=some (.string ⟨x.1.toArray⟩)from iB.out.cell 0);have g2:=cR (show w4.cell? ⟨wr.heap.size,1,none⟩=some (.string ⟨x.2.toArray⟩)from iB.out.cell 1);have C0:=hid (lJ (P:=Tryz.prog) w4 (fun w hw=>(show Calls _ _ _ _ (fun e w'=>e=.returned (.bool true)∧ag w w')from hA▸Ba x.1 w (by have:=je.out;unfold maxLen at this;omega))));have C1:=hid (lJ (P:=Tryz.prog) w4 (fun w hw=>(show Calls _ _ _ _ (fun e w'=>e=.returned (.bool false)∧ag w w')from hB▸DL x.2 w (by have:=p8.out;unfold maxLen at this;omega))));refine wp_region_quiet_below (by kernel_rfl) (by kernel_rfl) ?_
        repeat(with_reducible refine wpQuiet_step (fun K hK=>?_);go_simp;first|(refine hK _ ?_;clear hK K)|(apply Exists.intro;refine⟨fun _=>?_,hK _ ?_⟩;(first|with_reducible exact C0.out _ _|with_reducible exact C1.out _ _);clear hK K))
        refine wpQuiet_nil ?_;rintro w5 ⟨⟨_,_⟩,vz⟩;have jO:ag w4 w5:=by rw[vz];exact aZ (below_regrown _ _ _)
        clear vz g0 g1 g2 z0;have eY:=hid (eZ.out.trans jO);clear jO;have HV:=hid (show oU d k (.mk n ats ks t)=false by rw[HQ.out,HOWN.out,U.E9 ats (j+1) (by rw[HS.out,jJ.out,hB];simp)];simp);go_wp2
        go_ret;exact jE HV.out (HT.out.trans (eY.out.mono fun _ h=>h.elim)) (eY.out.blk HC.out fun h=>h)
       |true=>
       cases hC:(ats.take j).any (fun y=>y.1==x.1)with
       |true=>
        go_wp2_with fail
        refine bK (fun W=>ag wr W∧af W wr.heap.size 125 #[.string ⟨x.1.toArray⟩,.string ⟨x.2.toArray⟩]) ⟨aF,bH⟩ ?_;rintro w4 ⟨jf,hb4⟩;have eZ:=hid jf;have iB:=hid hb4;have z0:=eZ.out.cell OD (fun h=>h);have zg:=eZ.out.size;clear jf hb4 e0 f0 OD;have g0:=cR z0;have g1:=cR (show w4.cell? ⟨wr.heap.size,0,none⟩=some (.string ⟨x.1.toArray⟩)from iB.out.cell 0);have g2:=cR (show w4.cell? ⟨wr.heap.size,1,none⟩=some (.string ⟨x.2.toArray⟩)from iB.out.cell 1);have C0:=hid (lJ (P:=Tryz.prog) w4 (fun w hw=>(show Calls _ _ _ _ (fun e w'=>e=.returned (.bool true)∧ag w w')from hA▸Ba x.1 w (by have:=je.out;unfold maxLen at this;omega))));have C1:=hid (lJ (P:=Tryz.prog) w4 (fun w hw=>(show Calls _ _ _ _ (fun e w'=>e=.returned (.bool true)∧ag w w')from hB▸DL x.2 w (by have:=p8.out;unfold maxLen at this;omega))));have C2:=hid (lJ (P:=Tryz.prog) w4 (fun w hw=>(show Calls _ _ _ _ (fun e w'=>e=.returned (.bool true)∧ag w w')from hC▸Kj (ats.take j) x.1 (.slice (some ⟨ga,oa,none⟩) j ca) w ((HAJ.out.fresh (HF.out.trans eZ.out)).fresh hw))));refine wp_region_quiet_below (by kernel_rfl) (by kernel_rfl) ?_
        repeat(with_reducible refine wpQuiet_step (fun K hK=>?_);go_simp;first|(refine hK _ ?_;clear hK K)|(apply Exists.intro;refine⟨fun _=>?_,hK _ ?_⟩;(first|with_reducible exact C0.out _ _|with_reducible exact C1.out _ _|with_reducible exact C2.out _ _);clear hK K))
        refine wpQuiet_nil ?_;rintro w5 ⟨⟨_,_⟩,vz⟩;have jO:ag w4 w5:=by rw[vz];exact aZ (below_regrown _ _ _)
        clear vz g0 g1 g2 z0;have eY:=hid (eZ.out.trans jO);clear jO;have HV:=hid (show oU d k (.mk n ats ks t)=false by rw[HQ.out,HOWN.out,U.E9 ats (j+1) (by rw[HS.out,jJ.out,hC];simp)];simp);go_wp2
        go_ret;exact jE HV.out (HT.out.trans (eY.out.mono fun _ h=>h.elim)) (eY.out.blk HC.out fun h=>h)
       |false=>
        go_wp2_with fail
        refine bK (fun W=>ag wr W∧af W wr.heap.size 125 #[.string ⟨x.1.toArray⟩,.string ⟨x.2.toArray⟩]) ⟨aF,bH⟩ ?_;rintro w4 ⟨jf,hb4⟩;have eZ:=hid jf;have iB:=hid hb4;have z0:=eZ.out.cell OD (fun h=>h);have zg:=eZ.out.size;clear jf hb4 e0 f0 OD;have g0:=cR z0;have g1:=cR (show w4.cell? ⟨wr.heap.size,0,none⟩=some (.string ⟨x.1.toArray⟩)from iB.out.cell 0);have g2:=cR (show w4.cell? ⟨wr.heap.size,1,none⟩=some (.string ⟨x.2.toArray⟩)from iB.out.cell 1);have C0:=hid (lJ (P:=Tryz.prog) w4 (fun w hw=>(show Calls _ _ _ _ (fun e w'=>e=.returned (.bool true)∧ag w w')from hA▸Ba x.1 w (by have:=je.out;unfold maxLen at this;omega))));have C1:=hid (lJ (P:=Tryz.prog) w4 (fun w hw=>(show Calls _ _ _ _ (fun e w'=>e=.returned (.bool true)∧ag w w')from hB▸DL x.2 w (by have:=p8.out;unfold maxLen at this;omega))));have C2:=hid (lJ (P:=Tryz.prog) w4 (fun w hw=>(show Calls _ _ _ _ (fun e w'=>e=.returned (.bool false)∧ag w w')from hC▸Kj (ats.take j) x.1 (.slice (some ⟨ga,oa,none⟩) j ca) w ((HAJ.out.fresh (HF.out.trans eZ.out)).fresh hw))));refine wp_region_quiet_below (by kernel_rfl) (by kernel_rfl) ?_
        repeat(with_reducible refine wpQuiet_step (fun K hK=>?_);go_simp;first|(refine hK _ ?_;clear hK K)|(apply Exists.intro;refine⟨fun _=>?_,hK _ ?_⟩;(first|with_reducible exact C0.out _ _|with_reducible exact C1.out _ _|with_reducible exact C2.out _ _);clear hK K))
        refine wpQuiet_nil ?_;rintro w5 ⟨⟨_,_⟩,vz⟩;have jO:ag w4 w5:=by rw[vz];exact aZ (below_regrown _ _ _)
        clear vz g0 g1 g2 z0;have eY:=hid (eZ.out.trans jO);clear jO;have HS2:=hid (show U.jY (ats.take (j+1))=true by rw[HS.out,jJ.out,hA,hB,hC];rfl);go_wp2
        go_roundw
        case rel=>exact⟨j+1,by go_num,c1,HS2,hid (HT.out.trans (eY.out.mono fun _ h=>h.elim)),hid (HF.out.trans eY.out),hid (eY.out.blk HC.out fun h=>h)⟩
        case measure=>simp[intOf];omega
      ·have d1:decide ((j:Int)<(ats.length:Int))=false:=dF (by omega)
       obtain rfl:j=ats.length:=by omega
       have HAT:=hid (show U.jY ats=true by have:=jJ.out;rwa [List.take_length]at this)
       have HVV:=hid (show oU d k (.mk n ats ks t)=sW (d+1) (k+1) ks by
        rw[HQ.out,HOWN.out,HAT.out,hnm,hvl,nK.out,show decide (ats.length≤8)=true from dT hb3,show decide (k+1≤3000)=true from dT hb1,show decide (d≤64)=true from dT hb2];rfl)
       clear HAT jJ d1 hj;have h2r:wr.cell? ⟨g,o+2,none⟩=some (.slice B ks.length cb):=(kI.out.fresh HF.out).2.2.2.1;go_wp2_with fail
       clear h2r
       go_loopw [97] (fun i wr=>∃j:Nat,i=.int .i64 j∧j≤ks.length∧Hd (sW (d+1) (k+1) (ks.take j)=true)∧Hd (Touch (fun b=>b=c) w wr)∧Hd (af wr c 3 #[.int .i64 ((k+1+U.az (ks.take j):Nat):Int)])) (fun i _=>ks.length-(intOf i).toNat)
       case atStart=>
        refine⟨0,rfl,Nat.zero_le _,?_,HT,?_⟩
        ·show sW (d+1) (k+1) []=true
         unfold sW;rw[U.uE,U.aX,U.az,dT (by omega),dT (by omega)];rfl
        ·have:=HC.out
         show af _ _ _ #[.int .i64 ((k+1+U.az []:Nat):Int)];rw[U.az,Nat.add_zero];exact this
       case round=>
        clear HT HC HF;obtain⟨j,rfl,hj,HV,HT,HC⟩:=hrel;rename_i wr _;have HE2:=hid (F7.out.turn HT.out fun b hb=>by rw[show b=c from hb];exact wS.int HC0.out)
        by_cases c1:j<ks.length
        ·have d1:decide ((j:Int)<(ks.length:Int))=true:=dT (by omega)
         have d1':(j:Int)<(ks.length:Int):=by omega
         have h2r:wr.cell? ⟨g,o+2,none⟩=some (.slice B ks.length cb):=HE2.out.2.2.2.1;have hgr:=HE2.out.1;obtain⟨gk,ok,wa,wk,rfl,jW⟩:=(show gK wr ks _ from HE2.out.2.2.2.2.2.2.1).yw j c1
         have hsm:k+1+U.az (ks.take j)≤3000:=by
          have:=HV.out;unfold sW at this;rw[Bool.and_eq_true,decide_eq_true_eq]at this;exact this.2
         have HS:=hid (U.Xk (d+1) (k+1) ks j c1);have HN:=hid (U.acd (d+1) (k+1) ks (j+1));have yf:=hid (U.uA ks j c1);have hcall:=q9.out ks[j] (List.getElem_mem c1) gk (ok+j*4) c (d+1) _ wa wk wr jW HC.out hsm (by omega);rw[show((d+1:Nat):Int)=(d:Int)+1 by omega]at hcall;have X0:=hid hcall;clear jW hcall;generalize ks[j]=x at*;go_wp2_with fail
         refine X0.out.mono ?_;rintro _ w5 ⟨rfl,jU,k5,hb5,hk5⟩;have iW:=hid (HT.out.trans jU);have eO:=hid hb5;have HK5:=hid hk5;clear jU hb5 hk5;cases hv:oU (d+1) (k+1+U.az (ks.take j)) x with
         |false=>
          have HVF:=hid (show oU d k (.mk n ats ks t)=false by rw[HVV.out];exact HN.out (by rw[HS.out,HV.out,hv];rfl));clear hv;go_wp2
          go_ret;exact jE HVF.out iW.out eO.out
         |true=>
          have HVT:=hid (show sW (d+1) (k+1) (ks.take (j+1))=true by rw[HS.out,HV.out,hv];rfl);have HKK:=hid (HK5.out hv);clear hv;go_wp2
          go_roundw
          case rel=>exact⟨j+1,by go_num,c1,HVT,iW,hid (by rw[yf.out];have:=eO.out;rw[HKK.out]at this;rw[←Nat.add_assoc];exact this)⟩
          case measure=>simp[intOf];omega
        ·have d1:decide ((j:Int)<(ks.length:Int))=false:=dF (by omega)
         obtain rfl:j=ks.length:=by omega
         have HVT:=hid (show oU d k (.mk n ats ks t)=true by rw[HVV.out];have:=HV.out;rwa [List.take_length]at this);go_wp2
         go_ret;refine⟨by rw[HVT.out];rfl,HT.out,_,HC.out,fun _=>?_⟩;rw[List.take_length,U.count,Nat.add_assoc]
   ·have d1:decide ((3000:Int)<(k:Int)+1)=false:=dF (by omega)
    have d2:decide ((64:Int)<(d:Int))=false:=dF (by omega);have d3:decide ((8:Int)<(ats.length:Int))=true:=dT (by omega);have HV:=hid (show oU d k (.mk n ats ks t)=false by rw[HQ.out];unfold U.qF;rw[show decide ((E.attrs (.mk n ats ks t)).length≤8)=false from dF hb3];simp);go_enter Tryz.func74,Tryz.ntmps74;go_wp2
    go_ret;exact jE HV.out HT1.out Mc.out
  ·have d1:decide ((3000:Int)<(k:Int)+1)=false:=dF (by omega)
   have d2:decide ((64:Int)<(d:Int))=true:=dT (by omega);have HV:=hid (show oU d k (.mk n ats ks t)=false by rw[HQ.out,show decide (d≤64)=false from dF hb2];simp);go_enter Tryz.func74,Tryz.ntmps74;go_wp2
   go_ret;exact jE HV.out HT1.out Mc.out
 ·have d1:decide ((3000:Int)<(k:Int)+1)=true:=dT (by omega)
  have HV:=hid (show oU d k (.mk n ats ks t)=false by rw[HQ.out,show decide (k+1≤3000)=false from dF hb1];simp);go_enter Tryz.func74,Tryz.ntmps74;go_wp2
  go_ret;exact jE HV.out HT1.out Mc.out
theorem X3(e:E):Jg e:=U.E.ind (p:=Jg) UO e
end
section
open Go.RowKit
open U (E aJ oU)
theorem Mg(e:E)(va vk:Value)(w:World)(hr:jd w e va vk):Calls Tryz.prog 36 #[ev e va vk] w fun x w'=>x=.returned (.bool (U.valid e))∧ag w w':=by
 obtain⟨A,ca,hva⟩:=hr.1.slice;obtain⟨B,cb,hvk⟩:=hr.2.1.slice;have HR:=hid hr;have HX:=hid (X3 e);subst hva;subst hvk;clear hr;obtain⟨n,ats,ks,t⟩:=e;unfold ev;simp only[E.name,E.attrs,E.kids,E.text]at*;go_enter Tryz.func36,Tryz.ntmps36;go_wp2_with fail
 have hE:gZ ((w.alloc (.cells #[.string ⟨n.toArray⟩,.slice A ats.length ca,.slice B ks.length cb,.string ⟨t.toArray⟩] 55)).alloc (.cells #[.int .i64 0] 3)) w.heap.size 0 (.mk n ats ks t) (.slice A ats.length ca) (.slice B ks.length cb):=by
  have hb:=(af.new w 55 #[.string ⟨n.toArray⟩,.slice A ats.length ca,.slice B ks.length cb,.string ⟨t.toArray⟩]).alloc (.cells #[.int .i64 0] 3);obtain⟨q0,q1,q2,q3,_,_,_,_,hg⟩:=af.four hb;exact⟨hg,q0,q1,q2,q3,HR.out.fresh (((M _ w).alloc _).alloc _)⟩
 refine(HX.out w.heap.size 0 (w.heap.size+1) 1 0 _ _ _ hE (af.new2 _ _ _ _) (by omega) (by omega)).mono ?_;rintro _ w1 ⟨rfl,ht,_,_,_⟩;have HF:=hid (show ag w w1 from(((M (fun _=>False) w).alloc _).alloc _).trans' ht (fun i hi=>by right;have hi:i=w.heap.size+1:=hi;omega));have HVT:=hid (U.ab' (.mk n ats ks t));rw[HVT.out];clear hE ht;go_wp2
 go_ret;exact⟨rfl,HF.out⟩
end
namespace U
end U
namespace U
open Tr (Nd)
theorem OE(x:Nd)(hc:Tr.count x≤10)(hd:Tr.depth x≤10):Tr.valid (.mk 1 [] 0 [x])=((x.kind !=1)&&Tr.form x):=by
 unfold Tr.valid;have h1:decide (Tr.count (.mk 1 [] 0 [x])≤1000)=true:=by rw[Tr.count,Tr.az,Tr.az];exact decide_eq_true (by omega)
 have h2:decide (Tr.depth (.mk 1 [] 0 [x])≤24)=true:=by rw[Tr.depth,Tr.aX,Tr.aX];exact decide_eq_true (by omega)
 rw[h1,h2,Bool.and_true,Bool.and_true,Tr.form,Tr.iV,Tr.iV,Bool.and_true];show(true&&(true&&((x.kind==1) !=true)&&Tr.form x))=_;rw[Bool.true_and,Bool.true_and];cases h:x.kind==1<;>simp[bne,h]
theorem Ag(k:Int)(t:Bytes)(s:Nat)(hs:s≤1):nX k t s=((k !=1)&&(Tr.dR k t&&Tr.bM k 0 s)):=by
 have h:s=0∨s=1:=by omega
 unfold nX
 rcases h with rfl|rfl
 ·rw[OE _ (by rw[Tr.count,List.replicate,Tr.az];omega) (by rw[Tr.depth,List.replicate,Tr.aX];omega),Tr.form,List.replicate,Tr.iV,Bool.and_true];rfl
 ·rw[OE _ (by simp only[Tr.count,List.replicate,Tr.az,kK];omega) (by simp only[Tr.depth,List.replicate,Tr.aX,kK];decide),Tr.form]
  show((k !=1)&&(Tr.dR k t&&Tr.bM k 0 1&&Tr.iV (k==1) [kK]))=_;cases h:k==1 with
  |true=>simp[bne,h]
  |false=>
   rw[show Tr.iV false [kK]=true from by simp only[Tr.iV,kK,Tr.form];rfl,Bool.and_true]
def sN:List Bytes:=[yt,yu,CU,qG,lq,fV,fZ,mW,mX,gN,bI,aV,bE]
def vB:List Bytes:=[gU,aj,bq]
theorem KD:∀n∈sN++vB++[dU],jH n=true:=by decide
def Ia(e:E):Prop:=oq e=true∧proper e=true∧e.name∈sN
theorem acJ(n:Bytes)(hn:n∈vB)(a:aJ)(ks:List E)(t:Bytes)(x:E)(hx:x.name∈sN):Ff (.mk n a ks t) x=true:=by
 obtain⟨m,b,ls,s⟩:=x;have h1:n=gU∨n=aj∨n=bq:=by simpa[vB]using hn
 have h2:∀m∈sN,!(decide (m=gU)||decide (m=aj)||decide (m=bq)||decide (m=dU)):=by decide
 show(if _ then _ else _)=true;rw[if_pos h1];exact h2 m hx
theorem acK(n:Bytes)(hn:n∈vB)(l:List E):lD (.mk n [] l [])=true:=by
 have h1:n=gU∨n=aj∨n=bq:=by simpa[vB]using hn
 rcases h1 with rfl|rfl|rfl<;>rfl
theorem Fp(n:Bytes)(hn:jH n=true)(l:List E):qF (.mk n [] l [])=true:=by
 show(jH n&&fu []&&(([]:Bytes).isEmpty||l.isEmpty)&&decide (0≤8)&&jY [])=true;rw[hn];rfl
theorem zS(n:Bytes)(hn:n∈vB)(l:List E)(h:∀x∈l,Ia x):oq (ax n l)=true∧proper (ax n l)=true:=by
 unfold ax;rw[uj,acK n hn,sD,Fp n (KD n (by simp[hn]))];refine⟨?_,?_⟩
 ·rw[Bool.true_and,vY,List.all_eq_true]
  intro x hx;rw[acJ n hn _ _ _ x (h x hx).2.2,(h x hx).1];rfl
 ·rw[Bool.true_and,o8,List.all_eq_true]
  exact fun x hx=>(h x hx).2.1
theorem rows_ok(n:Bytes)(hn:n∈sN)(h0:n≠bE)(a:aJ)(ls:List (List E))(h:∀l∈ls,∀x∈l,Ia x)(ho:lD (.mk n a (ls.map (ax aj)) [])=true)(ha:(decide (a.length≤8)&&jY a)=true):Ia (.mk n a (ls.map (ax aj)) []):=by
 have hadm:∀m∈sN,m≠bE→¬(m=gU∨m=aj∨m=bq)∧m≠dU:=by decide
 have hr:∀x∈ls.map (ax aj),oq x=true∧proper x=true∧x.name=aj:=by
  intro x hx;obtain⟨l,hl,rfl⟩:=List.mem_map.1 hx;have:=zS aj (by simp[vB]) l (h l hl);exact⟨this.1,this.2,rfl⟩
 refine⟨?_,?_,hn⟩
 ·rw[uj,ho,Bool.true_and,vY,List.all_eq_true]
  intro x hx;obtain⟨h1,_,h3⟩:=hr x hx;obtain⟨m,b,js,s⟩:=x;rw[h1,Bool.and_true];show(if _ then _ else _)=true;rw[if_neg (hadm n hn h0).1,if_neg h0,if_neg (hadm n hn h0).2];exact decide_eq_true h3
 ·rw[sD,Bool.and_eq_true]
  refine⟨?_,?_⟩
  ·show(jH n&&fu []&&(([]:Bytes).isEmpty||(ls.map (ax aj)).isEmpty)&&decide (a.length≤8)&&jY a)=true
   rw[Bool.and_eq_true]at ha;rw[KD n (by simp[hn]),ha.1,ha.2];rfl
  ·rw[o8,List.all_eq_true]
   exact fun x hx=>(hr x hx).2.1
theorem Jh(n:Bytes)(hn:n∈sN)(t:Bytes)(ho:lD (.mk n [] [] t)=true)(ht:fu t=true):Ia (.mk n [] [] t):=by
 refine⟨?_,?_,hn⟩
 ·rw[uj,ho];exact(by rw[E.kids,L9];rfl)
 ·rw[sD,Bool.and_eq_true]
  refine⟨?_,by rw[E.kids,uE]⟩;show(jH n&&fu t&&(t.isEmpty||true)&&decide (0≤8)&&jY [])=true;rw[KD n (by simp[hn]),ht,Bool.or_true];rfl
theorem KE{α:Type}(c:Nat)(hc:0<c)(l:List α)(hd:l.length%c=0):∀r∈grid c l,r.length=c∧∀x∈r,x∈l:=by
 intro r hr;unfold grid at hr;obtain⟨i,hi,rfl⟩:=List.mem_map.1 hr;have hi:=List.mem_range.1 hi;have h1:l.length=l.length/c*c:=by have:=Nat.div_add_mod l.length c;rw[Nat.mul_comm]at this;omega
 have h2:(l.length+c-1)/c=l.length/c:=by
  have:=Ki c (l.length/c) hc;rw[←h1]at this;exact this
 rw[h2]at hi;have h3:(i+1)*c≤l.length/c*c:=Nat.mul_le_mul_right c hi;rw[Nat.add_mul,Nat.one_mul]at h3;refine⟨by rw[List.length_take,List.length_drop];omega,fun x hx=>List.mem_of_mem_drop (List.mem_of_mem_take hx)⟩
theorem Fq{α:Type}(c:Nat)(hc:0<c)(l:List α)(hd:l.length%c=0):(grid c l).length=l.length/c∧(grid c l).flatten=l:=by
 have h1:l.length=l.length/c*c:=by have:=Nat.div_add_mod l.length c;rw[Nat.mul_comm]at this;omega
 have h2:(l.length+c-1)/c=l.length/c:=by
  have:=Ki c (l.length/c) hc;rw[←h1]at this;exact this
 refine⟨by unfold grid;rw[List.length_map,List.length_range,h2],?_⟩;unfold grid;rw[h2]
 have:∀k,k*c≤l.length→((List.range k).map fun r=>(l.drop (r*c)).take c).flatten=l.take (k*c):=by
  intro k
  induction k with
  |zero=>intro _;simp
  |succ k ih=>
   intro hk;rw[Nat.add_mul,Nat.one_mul]at hk⊢;rw[List.range_succ,List.map_append,List.flatten_append,ih (by omega),List.map_singleton,List.flatten_singleton,List.take_add]
 rw[this _ (by omega),List.take_of_length_le (by omega)]
theorem acL(gs:List (List (List E)))(c:Nat)(h0:0<gs.length)(hc:1≤c)(hc2:c≤16)(hl:∀r∈gs,r.length=c)(h:∀r∈gs,∀l∈r,∀x∈l,Ia x):Ia (.mk bE [] (gs.map fun r=>ax dU (r.map (ax bq))) []):=by
 have hr:∀r∈gs,oq (ax dU (r.map (ax bq)))=true∧proper (ax dU (r.map (ax bq)))=true:=by
  intro r hr
  have hx:∀x∈r.map (ax bq),oq x=true∧proper x=true∧x.name=bq:=by
   intro x hx;obtain⟨l,hl,rfl⟩:=List.mem_map.1 hx;have:=zS bq (by simp[vB]) l (h r hr l hl);exact⟨this.1,this.2,rfl⟩
  have ho:lD (ax dU (r.map (ax bq)))=true:=by
   show(true&&(decide (1≤(r.map (ax bq)).length)&&decide ((r.map (ax bq)).length≤16))&&true&&decide (0=0))=true;rw[List.length_map,hl r hr,decide_eq_true hc,decide_eq_true hc2];rfl
  refine⟨?_,?_⟩
  ·rw[uj,ho,Bool.true_and,vY,List.all_eq_true]
   intro x hx';obtain⟨h1,_,h3⟩:=hx x hx';obtain⟨m,b,js,s⟩:=x;rw[h1,Bool.and_true];exact decide_eq_true h3
  ·rw[sD,Bool.and_eq_true]
   refine⟨Fp dU (by decide) _,?_⟩;rw[o8,List.all_eq_true];exact fun x hx'=>(hx x hx').2.1
 refine⟨?_,?_,(show bE∈sN by decide)⟩
 ·have ho:lD (.mk bE [] (gs.map fun r=>ax dU (r.map (ax bq))) [])=true:=by
   show(true&&decide (1≤(gs.map fun r=>ax dU (r.map (ax bq))).length)&&true&&decide (0=0))=true;rw[List.length_map,decide_eq_true (show 1≤gs.length from h0)];rfl
  rw[uj,ho,Bool.true_and,vY,List.all_eq_true];intro x hx;obtain⟨r,hr',rfl⟩:=List.mem_map.1 hx;rw[(hr r hr').1,Bool.and_true];have hlr:=hl r hr'
  match gs,h0,hl with
  |g::gs',_,hl=>
   show(true&&decide ((r.map (ax bq)).length=(g.map (ax bq)).length))=true;rw[List.length_map,List.length_map,hlr,hl g (List.mem_cons_self ..)];simp
 ·rw[sD,Bool.and_eq_true]
  refine⟨Fp bE (by decide) _,?_⟩;rw[o8,List.all_eq_true];intro x hx;obtain⟨r,hr',rfl⟩:=List.mem_map.1 hx;exact(hr r hr').2
theorem UQ:∀n:Fin 256,Tr.character (UInt8.ofNat n.1)=true→aU (UInt8.ofNat n.1)=true:=by decide+kernel
theorem Mh(b:UInt8)(h:Tr.character b=true):aU b=true:=by
 have:=UQ ⟨b.toNat,b.toNat_lt⟩;simp only[UInt8.ofNat_toNat]at this;exact this h
theorem RJ:∀n:Fin 256,Tr.digit (UInt8.ofNat n.1)=true→aU (UInt8.ofNat n.1)=true:=by decide+kernel
theorem DN(b:UInt8)(h:Tr.digit b=true):aU b=true:=by
 have:=RJ ⟨b.toNat,b.toNat_lt⟩;simp only[UInt8.ofNat_toNat]at this;exact this h
theorem RL(b:UInt8)(h:Tr.letter b=true):aU b=true:=Mh b (by unfold Tr.character;rw[h];rfl)
theorem Nb{p q:UInt8→Bool}(h:∀b,p b=true→q b=true)(s:Bytes)(hs:s.all p=true):s.all q=true:=by
 rw[List.all_eq_true]at hs⊢;exact fun b hb=>h b (hs b hb)
theorem aar(s:Bytes)(h1:(s.takeWhile (·≠46)).all Tr.digit=true)(h2:∀d b,s.dropWhile (·≠46)=d::b→b.all Tr.digit=true):s.all aU=true:=by
 induction s with
 |nil=>rfl
 |cons x r ih=>
  rw[List.all_cons,Bool.and_eq_true]
  by_cases hx:x=46
  ·subst hx
   refine⟨by decide,Nb DN r (h2 46 r (by simp[List.dropWhile]))⟩
  ·rw[List.takeWhile_cons_of_pos (by simpa using hx),List.all_cons,Bool.and_eq_true]at h1
   refine⟨DN x h1.1,ih h1.2 fun d b hd=>h2 d b ?_⟩;rw[List.dropWhile_cons_of_pos (by simpa using hx),hd]
theorem tF(k:Int)(s:Bytes)(h:Tr.dR k s=true):fu s=true:=by
 unfold fu;rw[Bool.and_eq_true,decide_eq_true_eq];unfold Tr.dR at h;split at h
 ·unfold Tr.symbol at h
  split at h
  ·exact⟨by rw[List.all_cons,Mh _ h];rfl,by simp⟩
  ·simp only[Bool.and_eq_true,decide_eq_true_eq]at h
   exact⟨Nb RL s h.1.1.1.1,by omega⟩
 split at h
 ·unfold Tr.isNum at h
  simp only[Bool.and_eq_true,decide_eq_true_eq,Bool.or_eq_true]at h;refine⟨?_,by omega⟩
  rcases h.2 with h2|h2
  ·exact Nb DN s h2
  ·split at h2
   ·rename_i d b hd
    simp only[Bool.and_eq_true]at h2;refine aar s h2.1.1.2 fun d' b' hd'=>?_
    rw[hd]at hd';cases hd';exact h2.2
   ·cases h2
 split at h
 ·simp only[Bool.and_eq_true,decide_eq_true_eq]at h
  exact⟨by have:=h.2;unfold Tr.aU at this;exact this,h.1⟩
 split at h
 ·have hm:=List.contains_iff_mem.1 h
  have ha:∀t∈Tr.eu,t.all aU=true∧t.length≤200:=by decide
  exact ha s hm
 split at h
 ·unfold Tr.fence at h
  split at h
  ·rename_i a b
   rw[Bool.and_eq_true]at h;have hd:∀c∈Tr.rz,aU c=true:=by decide
   exact⟨by rw[List.all_cons,List.all_cons,hd a (List.contains_iff_mem.1 h.1),hd b (List.contains_iff_mem.1 h.2)];rfl,by simp⟩
  ·cases h
 ·rw[List.isEmpty_iff.1 h];exact⟨rfl,by simp⟩
end U
end Go.Proofs.YtcgbccfpcgaikaaGreatDoor
