/- Part 26 of 48 of a proof. No condition. -/
import Derived.Test.YtnbeemkfmlfgfaaGreatDoorTm25
set_option maxRecDepth 100000
set_option maxHeartbeats 2000000
namespace Go.Proofs.YtnbeemkfmlfgfaaGreatDoor
section
open Go.RowKit
open U (E aA nY ry)
def Oy(d k c:Nat)(e:E)(w:World)(x:Ending)(w':World):Prop:=x=.returned (.bool (nY d k e))∧Touch (fun b=>b=c) w w'∧∃k':Int,O w' c 3 #[.int .i64 k']∧(nY d k e=true→k'=((k+U.count e:Nat):Int))
def FJ(e:E):Prop:=∀(g o c d k:Nat) (va vk:Value) (w:World),fC w g o e va vk→O w c 3 #[.int .i64 (k:Int)]→k≤3000→d≤65→Calls Tryz.prog 71 #[.pointer (some ⟨g,o,none⟩),.int .i64 (d:Int),.pointer (some ⟨c,0,none⟩)] w (Oy d k c e w)
theorem yT(l:List UInt8)(w:World)(h:l.length≤9223372036854775807):Calls Tryz.prog 133 #[.string ⟨l.toArray⟩] w fun e w'=>e=.returned (.bool (U.eG l))∧ag w w':=
 (KQ ⟨l.toArray⟩ w h).mono fun e w' ⟨h1,h2⟩=>⟨h1,by rw[h2];exact M _ _⟩
theorem Bo(l:List UInt8)(w:World)(h:l.length≤9223372036854775807):Calls Tryz.prog 134 #[.string ⟨l.toArray⟩] w fun e w'=>e=.returned (.bool (U.bG l))∧ag w w':=
 (IC ⟨l.toArray⟩ w h).mono fun e w' ⟨h1,h2⟩=>⟨h1,by rw[h2];exact M _ _⟩
theorem jS{d k c:Nat}{e:E}{w w':World}{k':Int}(hv:nY d k e=false)(ht:Touch (fun b=>b=c) w w')(hb:O w' c 3 #[.int .i64 k']):Oy d k c e w (.returned (.bool false)) w':=
 ⟨by rw[hv],ht,k',hb,fun h=>by rw[hv]at h;cases h⟩
theorem Qd(e:E)(ih:∀x∈e.kids,FJ x):FJ e:=by
 intro g o c d k va vk w he hc hk hd;have HQ:=I (U.abZ d k e);obtain⟨n,ats,ks,t⟩:=e;obtain⟨hg,h0,h1,h2,h3,ha,hks,hnl,htl⟩:=he;have HE:=I (show fC w g o (.mk n ats ks t) va vk from⟨hg,h0,h1,h2,h3,ha,hks,hnl,htl⟩);have hne:g≠c:=HE.J.ne (uS.int hc);have HA:=I (show dW w ats va from ha);have HK:=I (show dL w ks vk from hks);have jw:=I ih;have agc:n.length≤maxLen:=hnl;have agd:t.length≤maxLen:=htl;unfold maxLen at agc agd;have hl1:ats.length≤maxLen:=by obtain⟨_,_,_,h,_⟩:=ha;exact h.1
 have hl2:ks.length≤maxLen:=hks.len;unfold maxLen at hl1 hl2;obtain⟨A,ca,hva⟩:=ha.slice;obtain⟨B,cb,hvb⟩:=hks.slice;replace hva:va=.slice A ats.length ca:=hva;replace hvb:vk=.slice B ks.length cb:=hvb;subst hva;subst hvb;replace h0:w.cell? ⟨g,o,none⟩=some (.string ⟨n.toArray⟩):=h0;replace h3:w.cell? ⟨g,o+3,none⟩=some (.string ⟨t.toArray⟩):=h3;obtain⟨q0⟩:Nonempty (PLift (w.cell? ⟨c,0,none⟩=some (.int .i64 (k:Int)))):=⟨⟨hc.cell 0⟩⟩;have q0:=q0.down;have qf:w.frozen? ⟨c,0,none⟩=false:=hc.frozen 0;have qg:c<w.heap.size:=hc.lt;have HC:=I hc;clear ih ha hks hnl htl hc;have Gj:=I (show O (w.setCell ⟨c,0,none⟩ (.int .i64 ((k:Int)+1))) c 3 #[.int .i64 ((k:Int)+1)]from HC.J.put 0 (.int .i64 ((k:Int)+1)));have HT1:=I ((M (fun b=>b=c) w).setCell (p:=⟨c,0,none⟩) (.inl rfl) (.int .i64 ((k:Int)+1)));have j6:=I (HE.J.turn HT1.J fun b hb=>by rw[show b=c from hb];exact uS.int HC.J);have hkw:(k:Int)≤3000:=by omega
 have hdw:(d:Int)≤65:=by omega
 by_cases hb1:k+1≤3000
 ·by_cases hb2:d≤64
  ·by_cases hb3:ats.length≤8
   ·have d1:decide ((3000:Int)<(k:Int)+1)=false:=dF (by omega)
    have d2:decide ((64:Int)<(d:Int))=false:=dF (by omega);have d3:decide ((8:Int)<(ats.length:Int))=false:=dF (by omega);go_enter Tryz.func71,Tryz.ntmps71;go_wp2_with fail
    generalize hW1:w.setCell ⟨c,0,none⟩ (.int .i64 ((k:Int)+1))=W1 at*;clear hW1 h0 h1 h2 h3 q0 qf qg d1 d2 d3;have nU:=HE;have HC0:=HC;clear HE HC;obtain⟨hgW,h0,h1,h2,h3,_⟩:=j6.J;replace h0:W1.cell? ⟨g,o,none⟩=some (.string ⟨n.toArray⟩):=h0;replace h3:W1.cell? ⟨g,o+3,none⟩=some (.string ⟨t.toArray⟩):=h3;have HOWN:=I (show U.pM (.mk n ats ks t)=(U.eG n&&U.bG t&&(t.isEmpty||ks.isEmpty)&&decide (ats.length≤8)&&U.dQ ats)from rfl);refine(KQ ⟨n.toArray⟩ _ (show n.length≤9223372036854775807 by omega)).mono ?_;rintro _ w2 ⟨rfl,hw⟩;replace hw:=hw.symm;subst hw;cases hnm:U.eG n with
    |false=>
     have HV:=I (show nY d k (.mk n ats ks t)=false by rw[HQ.J,HOWN.J,hnm];simp);go_wp2
     go_ret;exact jS HV.J HT1.J Gj.J
    |true=>
    go_wp2_with fail
    refine(IC ⟨t.toArray⟩ _ (show t.length≤9223372036854775807 by omega)).mono ?_;rintro _ w2 ⟨rfl,hw⟩;replace hw:=hw.symm;subst hw;cases hvl:U.bG t with
    |false=>
     have HV:=I (show nY d k (.mk n ats ks t)=false by rw[HQ.J,HOWN.J,hvl];simp);go_wp2
     go_ret;exact jS HV.J HT1.J Gj.J
    |true=>
    by_cases hk0:0<ks.length∧t≠[]
    ·obtain⟨hk0,ht0⟩:=hk0
     have HV:=I (show nY d k (.mk n ats ks t)=false by
      rw[HQ.J,HOWN.J,show t.isEmpty=false from List.isEmpty_eq_false_iff.2 ht0,show ks.isEmpty=false from List.isEmpty_eq_false_iff.2 (List.ne_nil_of_length_pos hk0)];simp)
     have e0:((⟨t.toArray⟩:ByteArray) !=⟨#[]⟩)=true:=by rw[bne,aC];simpa using ht0
     have d5:decide ((0:Int)<(ks.length:Int))=true:=dT (by omega);have et:(!t.isEmpty)=true:=by rw[List.isEmpty_eq_false_iff.2 ht0];rfl
     go_wp2
     go_ret;exact jS HV.J HT1.J Gj.J
    have DW:=I (show(t.isEmpty||ks.isEmpty)=true by
     rw[Bool.or_eq_true,List.isEmpty_iff,List.isEmpty_iff]
     by_cases ht:t=[]
     ·exact .inl ht
     ·exact .inr (List.eq_nil_of_length_eq_zero (by have:¬0<ks.length:=fun h=>hk0 ⟨h,ht⟩;omega)))
    by_cases ht0:t=[]
    focus
     have et:(!t.isEmpty)=false:=by rw[ht0];rfl
     clear hk0;go_wp2_with fail
    rotate_left
    focus
     have hk1:ks.length=0:=by have:¬0<ks.length:=fun h=>hk0 ⟨h,ht0⟩;omega
     have hk2:¬0<ks.length:=by omega
     have e0:((⟨t.toArray⟩:ByteArray) !=⟨#[]⟩)=true:=by rw[bne,aC];simpa using ht0
     have d5:decide ((0:Int)<(ks.length:Int))=false:=dF (by omega);have et:(!t.isEmpty)=true:=by rw[List.isEmpty_eq_false_iff.2 ht0];rfl
     clear hk0 hk1;go_wp2_with fail
    all_goals
     clear et ht0 h0 h1 h2 h3
     try clear hk2 e0 d5
     go_loopw [65] (fun i wr=>∃j:Nat,i=.int .i64 j∧j≤ats.length∧Hd (U.dQ (ats.take j)=true)∧Hd (Touch (fun b=>b=c) w wr)∧Hd (ag W1 wr)∧Hd (O wr c 3 #[.int .i64 ((k:Int)+1)])) (fun i _=>ats.length-(intOf i).toNat)
     case atStart=>exact⟨0,rfl,Nat.zero_le _,U.PY,HT1,M _ _,Gj⟩
     case round=>
      obtain⟨j,rfl,hj,qU,HT,HF,HC⟩:=hrel
      by_cases c1:j<ats.length
      ·have d1:decide ((j:Int)<(ats.length:Int))=true:=dT (by omega)
       have d1':(j:Int)<(ats.length:Int):=by omega
       have hjc:j≤ca:=by have:=HA.J.cap;omega
       have HA1:=I (show dW W1 ats _ from j6.J.2.2.2.2.2.1);obtain⟨ga,oa,rfl,hga,m0,m1,hx1,hx2⟩:=HA1.J.get j c1;have HAJ:=I (HA1.J.take j hj);have bS:=I hx1;have eT:=I hx2;have e0:=HF.J.cell m0 (fun h=>h);have f0:=HF.J.cell m1 (fun h=>h);have Lj:=(j6.J.fresh HF.J).2.2.1;have HS:=I (U.Eb ats j c1);clear m0 m1 hx1 hx2;generalize ats[j]=x at*;cases hA:U.eG x.1 with
       |false=>
        go_wp2_with fail
        refine aV (fun W=>ag wr W∧O W wr.heap.size 79 #[.string ⟨x.1.toArray⟩,.string ⟨x.2.toArray⟩]) ⟨bf,yz⟩ ?_;rintro w4 ⟨jh,hb4⟩;have dw:=I jh;have iI:=I hb4;have z0:=dw.J.cell Lj (fun h=>h);have zg:=dw.J.size;clear jh hb4 e0 f0 Lj;have g0:=cR z0;have g1:=cR (show w4.cell? ⟨wr.heap.size,0,none⟩=some (.string ⟨x.1.toArray⟩)from iI.J.cell 0);have g2:=cR (show w4.cell? ⟨wr.heap.size,1,none⟩=some (.string ⟨x.2.toArray⟩)from iI.J.cell 1);have C0:=I (iN (P:=Tryz.prog) w4 (fun w hw=>(show Calls _ _ _ _ (fun e w'=>e=.returned (.bool false)∧ag w w')from hA▸yT x.1 w (by have:=bS.J;unfold maxLen at this;omega))));refine wp_region_quiet_below (by kernel_rfl) (by kernel_rfl) ?_
        repeat(with_reducible refine wpQuiet_step (fun K hK=>?_);go_simp;first|(refine hK _ ?_;clear hK K)|(apply Exists.intro;refine⟨fun _=>?_,hK _ ?_⟩;(first|with_reducible exact C0.J _ _);clear hK K))
        refine wpQuiet_nil ?_;rintro w5 ⟨⟨_,_⟩,EJ⟩;have iJ:ag w4 w5:=by rw[EJ];exact bE (below_regrown _ _ _)
        clear EJ g0 g1 g2 z0;have dA:=I (dw.J.trans iJ);clear iJ;have HV:=I (show nY d k (.mk n ats ks t)=false by rw[HQ.J,HOWN.J,U.yN ats (j+1) (by rw[HS.J,qU.J,hA];simp)];simp);go_wp2
        go_ret;exact jS HV.J (HT.J.trans (dA.J.mono fun _ h=>h.elim)) (dA.J.blk HC.J fun h=>h)
       |true=>
       cases hB:U.bG x.2 with
       |false=>
        go_wp2_with fail
        refine aV (fun W=>ag wr W∧O W wr.heap.size 79 #[.string ⟨x.1.toArray⟩,.string ⟨x.2.toArray⟩]) ⟨bf,yz⟩ ?_;rintro w4 ⟨jh,hb4⟩;have dw:=I jh;have iI:=I hb4;have z0:=dw.J.cell Lj (fun h=>h);have zg:=dw.J.size;clear jh hb4 e0 f0 Lj;have g0:=cR z0;have g1:=cR (show w4.cell? ⟨wr.heap.size,0,none⟩=some (.string ⟨x.1.toArray⟩)from iI.J.cell 0);have g2:=cR (show w4.cell? ⟨wr.heap.size,1,none⟩=some (.string ⟨x.2.toArray⟩)from iI.J.cell 1);have C0:=I (iN (P:=Tryz.prog) w4 (fun w hw=>(show Calls _ _ _ _ (fun e w'=>e=.returned (.bool true)∧ag w w')from hA▸yT x.1 w (by have:=bS.J;unfold maxLen at this;omega))));have C1:=I (iN (P:=Tryz.prog) w4 (fun w hw=>(show Calls _ _ _ _ (fun e w'=>e=.returned (.bool false)∧ag w w')from hB▸Bo x.2 w (by have:=eT.J;unfold maxLen at this;omega))));refine wp_region_quiet_below (by kernel_rfl) (by kernel_rfl) ?_
        repeat(with_reducible refine wpQuiet_step (fun K hK=>?_);go_simp;first|(refine hK _ ?_;clear hK K)|(apply Exists.intro;refine⟨fun _=>?_,hK _ ?_⟩;(first|with_reducible exact C0.J _ _|with_reducible exact C1.J _ _);clear hK K))
        refine wpQuiet_nil ?_;rintro w5 ⟨⟨_,_⟩,EJ⟩;have iJ:ag w4 w5:=by rw[EJ];exact bE (below_regrown _ _ _)
        clear EJ g0 g1 g2 z0;have dA:=I (dw.J.trans iJ);clear iJ;have HV:=I (show nY d k (.mk n ats ks t)=false by rw[HQ.J,HOWN.J,U.yN ats (j+1) (by rw[HS.J,qU.J,hB];simp)];simp);go_wp2
        go_ret;exact jS HV.J (HT.J.trans (dA.J.mono fun _ h=>h.elim)) (dA.J.blk HC.J fun h=>h)
       |true=>
       cases hC:(ats.take j).any (fun y=>y.1==x.1)with
       |true=>
        go_wp2_with fail
        refine aV (fun W=>ag wr W∧O W wr.heap.size 79 #[.string ⟨x.1.toArray⟩,.string ⟨x.2.toArray⟩]) ⟨bf,yz⟩ ?_;rintro w4 ⟨jh,hb4⟩;have dw:=I jh;have iI:=I hb4;have z0:=dw.J.cell Lj (fun h=>h);have zg:=dw.J.size;clear jh hb4 e0 f0 Lj;have g0:=cR z0;have g1:=cR (show w4.cell? ⟨wr.heap.size,0,none⟩=some (.string ⟨x.1.toArray⟩)from iI.J.cell 0);have g2:=cR (show w4.cell? ⟨wr.heap.size,1,none⟩=some (.string ⟨x.2.toArray⟩)from iI.J.cell 1);have C0:=I (iN (P:=Tryz.prog) w4 (fun w hw=>(show Calls _ _ _ _ (fun e w'=>e=.returned (.bool true)∧ag w w')from hA▸yT x.1 w (by have:=bS.J;unfold maxLen at this;omega))));have C1:=I (iN (P:=Tryz.prog) w4 (fun w hw=>(show Calls _ _ _ _ (fun e w'=>e=.returned (.bool true)∧ag w w')from hB▸Bo x.2 w (by have:=eT.J;unfold maxLen at this;omega))));have C2:=I (iN (P:=Tryz.prog) w4 (fun w hw=>(show Calls _ _ _ _ (fun e w'=>e=.returned (.bool true)∧ag w w')from hC▸G5 (ats.take j) x.1 (.slice (some ⟨ga,oa,none⟩) j ca) w ((HAJ.J.fresh (HF.J.trans dw.J)).fresh hw))));refine wp_region_quiet_below (by kernel_rfl) (by kernel_rfl) ?_
        repeat(with_reducible refine wpQuiet_step (fun K hK=>?_);go_simp;first|(refine hK _ ?_;clear hK K)|(apply Exists.intro;refine⟨fun _=>?_,hK _ ?_⟩;(first|with_reducible exact C0.J _ _|with_reducible exact C1.J _ _|with_reducible exact C2.J _ _);clear hK K))
        refine wpQuiet_nil ?_;rintro w5 ⟨⟨_,_⟩,EJ⟩;have iJ:ag w4 w5:=by rw[EJ];exact bE (below_regrown _ _ _)
        clear EJ g0 g1 g2 z0;have dA:=I (dw.J.trans iJ);clear iJ;have HV:=I (show nY d k (.mk n ats ks t)=false by rw[HQ.J,HOWN.J,U.yN ats (j+1) (by rw[HS.J,qU.J,hC];simp)];simp);go_wp2
        go_ret;exact jS HV.J (HT.J.trans (dA.J.mono fun _ h=>h.elim)) (dA.J.blk HC.J fun h=>h)
       |false=>
        go_wp2_with fail
        refine aV (fun W=>ag wr W∧O W wr.heap.size 79 #[.string ⟨x.1.toArray⟩,.string ⟨x.2.toArray⟩]) ⟨bf,yz⟩ ?_;rintro w4 ⟨jh,hb4⟩;have dw:=I jh;have iI:=I hb4;have z0:=dw.J.cell Lj (fun h=>h);have zg:=dw.J.size;clear jh hb4 e0 f0 Lj;have g0:=cR z0;have g1:=cR (show w4.cell? ⟨wr.heap.size,0,none⟩=some (.string ⟨x.1.toArray⟩)from iI.J.cell 0);have g2:=cR (show w4.cell? ⟨wr.heap.size,1,none⟩=some (.string ⟨x.2.toArray⟩)from iI.J.cell 1);have C0:=I (iN (P:=Tryz.prog) w4 (fun w hw=>(show Calls _ _ _ _ (fun e w'=>e=.returned (.bool true)∧ag w w')from hA▸yT x.1 w (by have:=bS.J;unfold maxLen at this;omega))));have C1:=I (iN (P:=Tryz.prog) w4 (fun w hw=>(show Calls _ _ _ _ (fun e w'=>e=.returned (.bool true)∧ag w w')from hB▸Bo x.2 w (by have:=eT.J;unfold maxLen at this;omega))));have C2:=I (iN (P:=Tryz.prog) w4 (fun w hw=>(show Calls _ _ _ _ (fun e w'=>e=.returned (.bool false)∧ag w w')from hC▸G5 (ats.take j) x.1 (.slice (some ⟨ga,oa,none⟩) j ca) w ((HAJ.J.fresh (HF.J.trans dw.J)).fresh hw))));refine wp_region_quiet_below (by kernel_rfl) (by kernel_rfl) ?_
        repeat(with_reducible refine wpQuiet_step (fun K hK=>?_);go_simp;first|(refine hK _ ?_;clear hK K)|(apply Exists.intro;refine⟨fun _=>?_,hK _ ?_⟩;(first|with_reducible exact C0.J _ _|with_reducible exact C1.J _ _|with_reducible exact C2.J _ _);clear hK K))
        refine wpQuiet_nil ?_;rintro w5 ⟨⟨_,_⟩,EJ⟩;have iJ:ag w4 w5:=by rw[EJ];exact bE (below_regrown _ _ _)
        clear EJ g0 g1 g2 z0;have dA:=I (dw.J.trans iJ);clear iJ;have HS2:=I (show U.dQ (ats.take (j+1))=true by rw[HS.J,qU.J,hA,hB,hC];rfl);go_wp2
        go_roundw
        case rel=>exact⟨j+1,by go_num,c1,HS2,I (HT.J.trans (dA.J.mono fun _ h=>h.elim)),I (HF.J.trans dA.J),I (dA.J.blk HC.J fun h=>h)⟩
        case measure=>simp[intOf];omega
      ·have d1:decide ((j:Int)<(ats.length:Int))=false:=dF (by omega)
       obtain rfl:j=ats.length:=by omega
       have HAT:=I (show U.dQ ats=true by have:=qU.J;rwa [List.take_length]at this)
       have HVV:=I (show nY d k (.mk n ats ks t)=ry (d+1) (k+1) ks by
        rw[HQ.J,HOWN.J,HAT.J,hnm,hvl,DW.J,show decide (ats.length≤8)=true from dT hb3,show decide (k+1≤3000)=true from dT hb1,show decide (d≤64)=true from dT hb2];rfl)
       clear HAT qU d1 hj;have h2r:wr.cell? ⟨g,o+2,none⟩=some (.slice B ks.length cb):=(j6.J.fresh HF.J).2.2.2.1;go_wp2_with fail
       clear h2r
       go_loopw [97] (fun i wr=>∃j:Nat,i=.int .i64 j∧j≤ks.length∧Hd (ry (d+1) (k+1) (ks.take j)=true)∧Hd (Touch (fun b=>b=c) w wr)∧Hd (O wr c 3 #[.int .i64 ((k+1+U.aj (ks.take j):Nat):Int)])) (fun i _=>ks.length-(intOf i).toNat)
       case atStart=>
        refine⟨0,rfl,Nat.zero_le _,?_,HT,?_⟩
        ·show ry (d+1) (k+1) []=true
         unfold ry;rw[U.jI,U.aP,U.aj,dT (by omega),dT (by omega)];rfl
        ·have:=HC.J
         show O _ _ _ #[.int .i64 ((k+1+U.aj []:Nat):Int)];rw[U.aj,Nat.add_zero];exact this
       case round=>
        clear HT HC HF;obtain⟨j,rfl,hj,HV,HT,HC⟩:=hrel;rename_i wr _;have HE2:=I (nU.J.turn HT.J fun b hb=>by rw[show b=c from hb];exact uS.int HC0.J)
        by_cases c1:j<ks.length
        ·have d1:decide ((j:Int)<(ks.length:Int))=true:=dT (by omega)
         have d1':(j:Int)<(ks.length:Int):=by omega
         have h2r:wr.cell? ⟨g,o+2,none⟩=some (.slice B ks.length cb):=HE2.J.2.2.2.1;have hgr:=HE2.J.1;obtain⟨gk,ok,wa,wk,rfl,eB⟩:=(show dL wr ks _ from HE2.J.2.2.2.2.2.2.1).ru j c1
         have hsm:k+1+U.aj (ks.take j)≤3000:=by
          have:=HV.J;unfold ry at this;rw[Bool.and_eq_true,decide_eq_true_eq]at this;exact this.2
         have HS:=I (U.SE (d+1) (k+1) ks j c1);have HN:=I (U.Y9 (d+1) (k+1) ks (j+1));have vK:=I (U.oo ks j c1);have hcall:=jw.J ks[j] (List.getElem_mem c1) gk (ok+j*4) c (d+1) _ wa wk wr eB HC.J hsm (by omega);rw[show((d+1:Nat):Int)=(d:Int)+1 by omega]at hcall;have aex:=I hcall;clear eB hcall;generalize ks[j]=x at*;go_wp2_with fail
         refine aex.J.mono ?_;rintro _ w5 ⟨rfl,F4,k5,hb5,hk5⟩;have eu:=I (HT.J.trans F4);have bV:=I hb5;have HK5:=I hk5;clear F4 hb5 hk5;cases hv:nY (d+1) (k+1+U.aj (ks.take j)) x with
         |false=>
          have HVF:=I (show nY d k (.mk n ats ks t)=false by rw[HVV.J];exact HN.J (by rw[HS.J,HV.J,hv];rfl));clear hv;go_wp2
          go_ret;exact jS HVF.J eu.J bV.J
         |true=>
          have WM:=I (show ry (d+1) (k+1) (ks.take (j+1))=true by rw[HS.J,HV.J,hv];rfl);have HKK:=I (HK5.J hv);clear hv;go_wp2
          go_roundw
          case rel=>exact⟨j+1,by go_num,c1,WM,eu,I (by rw[vK.J];have:=bV.J;rw[HKK.J]at this;rw[←Nat.add_assoc];exact this)⟩
          case measure=>simp[intOf];omega
        ·have d1:decide ((j:Int)<(ks.length:Int))=false:=dF (by omega)
         obtain rfl:j=ks.length:=by omega
         have WM:=I (show nY d k (.mk n ats ks t)=true by rw[HVV.J];have:=HV.J;rwa [List.take_length]at this);go_wp2
         go_ret;refine⟨by rw[WM.J];rfl,HT.J,_,HC.J,fun _=>?_⟩;rw[List.take_length,U.count,Nat.add_assoc]
   ·have d1:decide ((3000:Int)<(k:Int)+1)=false:=dF (by omega)
    have d2:decide ((64:Int)<(d:Int))=false:=dF (by omega);have d3:decide ((8:Int)<(ats.length:Int))=true:=dT (by omega);have HV:=I (show nY d k (.mk n ats ks t)=false by rw[HQ.J];unfold U.pM;rw[show decide ((E.attrs (.mk n ats ks t)).length≤8)=false from dF hb3];simp);go_enter Tryz.func71,Tryz.ntmps71;go_wp2
    go_ret;exact jS HV.J HT1.J Gj.J
  ·have d1:decide ((3000:Int)<(k:Int)+1)=false:=dF (by omega)
   have d2:decide ((64:Int)<(d:Int))=true:=dT (by omega);have HV:=I (show nY d k (.mk n ats ks t)=false by rw[HQ.J,show decide (d≤64)=false from dF hb2];simp);go_enter Tryz.func71,Tryz.ntmps71;go_wp2
   go_ret;exact jS HV.J HT1.J Gj.J
 ·have d1:decide ((3000:Int)<(k:Int)+1)=true:=dT (by omega)
  have HV:=I (show nY d k (.mk n ats ks t)=false by rw[HQ.J,show decide (k+1≤3000)=false from dF hb1];simp);go_enter Tryz.func71,Tryz.ntmps71;go_wp2
  go_ret;exact jS HV.J HT1.J Gj.J
theorem TL(e:E):FJ e:=U.E.ind (p:=FJ) Qd e
end
section
open Go.RowKit
open U (E aA nY)
theorem CX(e:E)(va vk:Value)(w:World)(hr:bN w e va vk):Calls Tryz.prog 43 #[ev e va vk] w fun x w'=>x=.returned (.bool (U.valid e))∧ag w w':=by
 obtain⟨A,ca,hva⟩:=hr.1.slice;obtain⟨B,cb,hvk⟩:=hr.2.1.slice;have HR:=I hr;have HX:=I (TL e);subst hva;subst hvk;clear hr;obtain⟨n,ats,ks,t⟩:=e;unfold ev;simp only[E.name,E.attrs,E.kids,E.text]at*;go_enter Tryz.func43,Tryz.ntmps43;go_wp2_with fail
 have hE:fC ((w.alloc (.cells #[.string ⟨n.toArray⟩,.slice A ats.length ca,.slice B ks.length cb,.string ⟨t.toArray⟩] 45)).alloc (.cells #[.int .i64 0] 3)) w.heap.size 0 (.mk n ats ks t) (.slice A ats.length ca) (.slice B ks.length cb):=by
  have hb:=(O.new w 45 #[.string ⟨n.toArray⟩,.slice A ats.length ca,.slice B ks.length cb,.string ⟨t.toArray⟩]).alloc (.cells #[.int .i64 0] 3);obtain⟨q0,q1,q2,q3,_,_,_,_,hg⟩:=O.four hb;exact⟨hg,q0,q1,q2,q3,HR.J.fresh (((M _ w).alloc _).alloc _)⟩
 refine(HX.J w.heap.size 0 (w.heap.size+1) 1 0 _ _ _ hE (O.new2 _ _ _ _) (by omega) (by omega)).mono ?_;rintro _ w1 ⟨rfl,ht,_,_,_⟩;have HF:=I (show ag w w1 from(((M (fun _=>False) w).alloc _).alloc _).trans' ht (fun i hi=>by right;have hi:i=w.heap.size+1:=hi;omega));have WM:=I (U.Y8 (.mk n ats ks t));rw[WM.J];clear hE ht;go_wp2
 go_ret;exact⟨rfl,HF.J⟩
end
section
open Go.RowKit
open U (E aA)
theorem TM(e:E)(va vk:Value)(w:World)(hr:bN w e va vk)(hv:U.valid e=true)(hf:(U.mF e).2=true):
  Calls Tryz.prog 23 #[ev e va vk] w fun x w'=>x=.returned (.tuple #[.agg Y,.int .i64 (U.mF e).1,.int .i64 19])∧ag w w':=by
 obtain⟨A,ca,hva⟩:=hr.1.slice;obtain⟨B,cb,hvk⟩:=hr.2.1.slice;have HR:=I hr;have HV:=I (fun(w:World) (h:bN w e va vk)=>CX e va vk w h);have iG:=I (fun(w:World) (g:Nat) (h:fC w g 0 e va vk)=>Lc e g 0 va vk w h (by unfold U.valid at hv;simp only[Bool.and_eq_true,decide_eq_true_eq]at hv;omega));have HVV:=I hv;have Ra:=I hf;generalize hfe:(U.mF e).1=z at*;clear hr hv hf hfe;obtain⟨n,ats,ks,t⟩:=e;replace hva:va=.slice A ats.length ca:=hva;replace hvk:vk=.slice B ks.length cb:=hvk;subst hva;subst hvk;unfold ev at*;simp only[E.name,E.text]at*;go_enter Tryz.func23,Tryz.ntmps23;go_wp2_with fail
 have hb0:=(O.new w 45 #[.string ⟨n.toArray⟩,.slice A ats.length ca,.slice B ks.length cb,.string ⟨t.toArray⟩]).alloc (.cells Y 31);have hb1:=O.new2 w (.cells #[.string ⟨n.toArray⟩,.slice A ats.length ca,.slice B ks.length cb,.string ⟨t.toArray⟩] 45) 31 Y;refine(HV.J _ (HR.J.fresh (((M _ w).alloc _).alloc _))).mono ?_;rintro _ w1 ⟨rfl,hf1⟩;rw[HVV.J];have aF:=I (Touch.pre (Touch.pre hf1));have HB0:=I (hf1.blk hb0 fun h=>h);have HB1:=I (hf1.blk hb1 fun h=>h);clear hf1 hb0 hb1;go_wp2_with fail
 obtain⟨q0,q1,q2,q3,_,_,_,_,hg⟩:=O.four HB0.J;refine(iG.J w1 w.heap.size ⟨hg,q0,q1,q2,q3,HR.J.fresh aF.J⟩).mono ?_;rintro _ w2 ⟨rfl,hf2⟩;rw[Ra.J];have aY:=I (aF.J.trans hf2);have HB2:=I (hf2.blk HB1.J fun h=>h);clear hf2 q0 q1 q2 q3 hg;obtain⟨p0,p1,p2,p3,y0,y1,y2,y3,hg1⟩:=O.four HB2.J;go_wp2_with fail
 obtain⟨r0,r1,r2,r3,_,_,_,_,_⟩:=O.four (HB2.J.dJ (.int .i64 0) (.string ⟨#[]⟩) (.int .i64 0) (.slice none 0 0));simp only[aH]at r0 r1 r2 r3;refine bodyPost_ret (v:=.tuple #[.agg Y,.int .i64 z,.int .i64 19]) (by simp[results,Tryz.results23,go_sem,r0,r1,r2,r3]) rfl ?_;exact⟨rfl,Touch.aH aY.J (.inr (by omega)) _ _ _ _⟩
end
section
open Go.RowKit
open Tr (Nd)
open U (E aA kX jr dR di)
theorem pV(w w':World)(h:ag w w'):kR w w' jr (.agg Y):=⟨_,rfl,h,Nat.zero_le _,fun _ _=>aO.nil _ _⟩
theorem TN(e:E)(va vk:Value)(w:World)(hr:bN w e va vk):
  Calls Tryz.prog 23 #[ev e va vk] w fun x w'=>∃v,x=.returned (.tuple #[v,.int .i64 (kX e).2.1,.int .i64 (kX e).2.2])∧kR w w' (kX e).1 v:=by
 have HNF:=I (show kX e=if U.valid e then(if(U.mF e).2 then(jr,(U.mF e).1,19)else if Tr.valid (dR e)then(dR e,0,0)else(jr,0,6))else(jr,0,1)from rfl);cases EK:U.valid e&&(U.mF e).2 with
 |true=>
  rw[Bool.and_eq_true]at EK;have h1:kX e=(jr,(U.mF e).1,19):=by rw[HNF.J,EK.1,EK.2];rfl
  rw[h1];exact(TM e va vk w hr EK.1 EK.2).mono fun x w' h=>⟨_,h.1,pV _ _ h.2⟩
 |false=>
 obtain⟨A,ca,hva⟩:=hr.1.slice;obtain⟨B,cb,hvk⟩:=hr.2.1.slice;have HR:=I hr;have HV:=I (fun(w:World) (h:bN w e va vk)=>CX e va vk w h);have iG:=I (fun(hv:U.valid e=true) (w:World) (g:Nat) (h:fC w g 0 e va vk)=>Lc e g 0 va vk w h (by unfold U.valid at hv;simp only[Bool.and_eq_true,decide_eq_true_eq]at hv;omega))
 have HIT:=I (fun(hv:U.valid e=true) (hf:(U.mF e).2=false) (w:World) (g:Nat) (h:fC w g 0 e va vk)=>WL e g 0 va vk w h (by
   have hvs:=U.Zt e (decide (e.name=U.bJ)) 0
   have hv1:(U.vis (decide (e.name=U.bJ)) 0 e).1=true:=by
    cases hb:(U.vis (decide (e.name=U.bJ)) 0 e).1 with
    |true=>rfl
    |false=>unfold U.mF at hf;rw[hb]at hf;cases hf
   cases hb:decide (e.name=U.bJ)&&U.mM e with
   |false=>rw[hvs.2 hb]at hv1;cases hv1
   |true=>
    rw[Bool.and_eq_true,decide_eq_true_eq]at hb;exact EI e hb.2 (.inl hb.1)) (by unfold U.valid at hv;simp only[Bool.and_eq_true,decide_eq_true_eq]at hv;omega))
 have Ra:=I EK;have HRW:=I (show dR e=.mk 1 [] 0 (di e.kids)from rfl);clear hr EK;generalize kX e=R at*;generalize hvv:U.valid e=vb at*;generalize hfe:U.mF e=fz at*;obtain⟨fz1,fz2⟩:=fz;generalize hrw:dR e=Re at*;obtain⟨n,ats,ks,t⟩:=e;replace hva:va=.slice A ats.length ca:=hva;replace hvk:vk=.slice B ks.length cb:=hvk;subst hva;subst hvk;unfold ev at*;simp only[E.name,E.text]at*;cases vb with
 |false=>
  have h1:R=(jr,0,1):=HNF.J;rw[h1];go_enter Tryz.func23,Tryz.ntmps23;go_wp2_with fail
  have hb1:=O.new2 w (.cells #[.string ⟨n.toArray⟩,.slice A ats.length ca,.slice B ks.length cb,.string ⟨t.toArray⟩] 45) 31 Y;refine(HV.J _ (HR.J.fresh (((M _ w).alloc _).alloc _))).mono ?_;rintro _ w1 ⟨rfl,hf1⟩;have aF:=I (Touch.pre (Touch.pre hf1));have HB1:=I (hf1.blk hb1 fun h=>h);clear hf1 hb1;obtain⟨p0,p1,p2,p3,y0,y1,y2,y3,hg1⟩:=O.four HB1.J;go_wp2_with fail
  obtain⟨r0,r1,r2,r3,_,_,_,_,_⟩:=O.four (HB1.J.dJ (.int .i64 0) (.string ⟨#[]⟩) (.int .i64 0) (.slice none 0 0));simp only[aH]at r0 r1 r2 r3;refine bodyPost_ret (v:=.tuple #[.agg Y,.int .i64 0,.int .i64 1]) (by simp[results,Tryz.results23,go_sem,r0,r1,r2,r3]) rfl ?_;exact⟨_,rfl,pV _ _ (Touch.aH aF.J (.inr (by omega)) _ _ _ _)⟩
 |true=>
 have h2:fz2=false:=Ra.J;subst h2;go_enter Tryz.func23,Tryz.ntmps23;go_wp2_with fail
 have hb0:=(O.new w 45 #[.string ⟨n.toArray⟩,.slice A ats.length ca,.slice B ks.length cb,.string ⟨t.toArray⟩]).alloc (.cells Y 31);have hb1:=O.new2 w (.cells #[.string ⟨n.toArray⟩,.slice A ats.length ca,.slice B ks.length cb,.string ⟨t.toArray⟩] 45) 31 Y;refine(HV.J _ (HR.J.fresh (((M _ w).alloc _).alloc _))).mono ?_;rintro _ w1 ⟨rfl,hf1⟩;have aF:=I (Touch.pre (Touch.pre hf1));have HB0:=I (hf1.blk hb0 fun h=>h);have HB1:=I (hf1.blk hb1 fun h=>h);clear hf1 hb0 hb1;go_wp2_with fail
 obtain⟨q0,q1,q2,q3,_,_,_,_,hg⟩:=O.four HB0.J;refine(iG.J trivial w1 w.heap.size ⟨hg,q0,q1,q2,q3,HR.J.fresh aF.J⟩).mono ?_;rintro _ w2 ⟨rfl,hf2⟩;have aY:=I (aF.J.trans hf2);have age:=I (hf2.blk HB0.J fun h=>h);have HB2:=I (hf2.blk HB1.J fun h=>h);clear hf2 q0 q1 q2 q3 hg;go_wp2_with fail
 obtain⟨q0,q1,q2,q3,_,_,_,_,hg⟩:=O.four age.J;refine(HIT.J trivial trivial w2 w.heap.size ⟨hg,q0,q1,q2,q3,HR.J.fresh aY.J⟩).mono ?_;rintro _ w3 ⟨v3,rfl,sl,rfl,hf3,htl,kE⟩;obtain⟨Ar,cr,rfl⟩:=kE.now.slice;have bC:=I (aY.J.trans hf3);have HB3:=I (hf3.blk HB2.J fun h=>h);have rD:=I (show aZ (fun k=>k<w2.heap.size) w3 fun W=>aO W Re.kids (.slice Ar Re.kids.length cr)from kE);have gX:=I htl;have hz2:=aY.J.size;have HVA:=I (fun(W:World) (h:aO W Re.kids (.slice Ar Re.kids.length cr))=>D6 Re _ W h htl);have yH:=I HB2.J.lt;clear hf3 kE q0 q1 q2 q3 hg htl hrw HRW;unfold nv;obtain⟨rk,rt,rc,rQ⟩:=Re;simp only[Nd.kind,Nd.text,Nd.ai,Nd.kids]at*;go_wp2_with fail
 have hfa:=(M (fun _=>False) w3).alloc (.cells #[.int .i64 rk,.string ⟨rt.toArray⟩,.int .i64 rc,.slice Ar rQ.length cr] 31);have hbn:=O.new w3 31 #[.int .i64 rk,.string ⟨rt.toArray⟩,.int .i64 rc,.slice Ar rQ.length cr];refine(HVA.J _ (rD.J _ (hfa.mono fun _ h=>h.elim))).mono ?_;rintro _ w4 ⟨rfl,jh⟩;have Z5:=I (hfa.trans jh);have dw:=I (bC.J.trans Z5.J);have iI:=I (Z5.J.blk HB3.J fun h=>h);have Ll:=I (jh.blk hbn fun h=>h);have xC:=I (rD.J.fresh Z5.J);clear jh hfa hbn;obtain⟨p0,p1,p2,p3,y0,y1,y2,y3,hg1⟩:=O.four iI.J;obtain⟨u0,u1,u2,u3,_,_,_,_,hgn⟩:=O.four Ll.J;cases hv:Tr.valid (.mk rk rt rc rQ)with
 |false=>
  have h1:R=(jr,0,6):=by rw[HNF.J,hv];rfl
  have HR1:=I h1;clear hv h1;go_wp2_with fail
  obtain⟨r0,r1,r2,r3,_,_,_,_,_⟩:=O.four (iI.J.dJ (.int .i64 0) (.string ⟨#[]⟩) (.int .i64 0) (.slice none 0 0));simp only[aH]at r0 r1 r2 r3;refine bodyPost_ret (v:=.tuple #[.agg Y,.int .i64 0,.int .i64 6]) (by simp[results,Tryz.results23,go_sem,r0,r1,r2,r3]) rfl ?_;rw[HR1.J];exact⟨_,rfl,pV _ _ (Touch.aH dw.J (.inr (by omega)) _ _ _ _)⟩
 |true=>
  have h1:R=(.mk rk rt rc rQ,0,0):=by rw[HNF.J,hv];rfl
  have HR1:=I h1;clear hv h1;go_wp2_with fail
  obtain⟨r0,r1,r2,r3,_,_,_,_,_⟩:=O.four (iI.J.dJ (.int .i64 rk) (.string ⟨rt.toArray⟩) (.int .i64 rc) (.slice Ar rQ.length cr));simp only[aH]at r0 r1 r2 r3;refine bodyPost_ret (v:=.tuple #[.agg #[.int .i64 rk,.string ⟨rt.toArray⟩,.int .i64 rc,.slice Ar rQ.length cr],.int .i64 0,.int .i64 0]) (by simp[results,Tryz.results23,go_sem,r0,r1,r2,r3]) rfl ?_;rw[HR1.J];refine⟨_,rfl,.slice Ar rQ.length cr,rfl,Touch.aH dw.J (.inr (by omega)) _ _ _ _,gX.J,?_⟩;exact xC.J.step ((M (fun k=>k=w.heap.size+1) w4).aH (.inl rfl) _ _ _ _) (fun i _ hi=>by have hi:i=w.heap.size+1:=hi;have:=yH.J;omega) (fun i _ hi=>by omega)
end
namespace U
end U
end Go.Proofs.YtnbeemkfmlfgfaaGreatDoor
