/- Part 10 of 46 of a proof. No condition. -/
import Derived.Deep.RegionWith
import Derived.Test.YtcgbccfpcgaikaaGreatDoorYm9
set_option maxRecDepth 100000
set_option maxHeartbeats 2000000
namespace Go.Proofs.YtcgbccfpcgaikaaGreatDoor
section
open Go.RowKit
theorem byteSize(t:List UInt8):(ByteArray.mk t.toArray).size=t.length:=by show t.toArray.size=_;simp
theorem qD(t:List UInt8):t.all nP=Tr.aU t:=by
 unfold Tr.aU
 congr 1
theorem WL(k:Int)(t:List UInt8)(cv sl:Value)(w:World)(h10:(k==10)=false)(h11:(k==11)=false)(hm:t.length≤9223372036854775807):
  Calls Tryz.prog 25 #[.agg #[.int .i64 k,.string ⟨t.toArray⟩,cv,sl]] w fun e w'=>e=.returned (.bool (Tr.dR k t))∧ag w w':=by
 have hz:(ByteArray.mk t.toArray).size≤9223372036854775807:=by rw[byteSize];exact hm
 have HZ:=hid hz;clear hz;go_enter Tryz.func25,Tryz.ntmps25;cases h1:(k==(2:Int))with
 |false=>
  have Gy:(k !=(2:Int))=true:=by rw[bne,h1];rfl
  cases h2:(k==(3:Int))with
  |false=>
   have QB:(k !=(3:Int))=true:=by rw[bne,h2];rfl
   cases h3:(k==(4:Int))with
   |false=>
    have D5:(k !=(4:Int))=true:=by rw[bne,h3];rfl
    cases h4:(t==([]:List UInt8))with
    |false=>
     have QO:((⟨t.toArray⟩:ByteArray)==(⟨#[]⟩:ByteArray))=false:=by rw[bS];exact h4
     have h4t:((⟨t.toArray⟩:ByteArray) !=(⟨#[]⟩:ByteArray))=true:=by rw[bne,QO];rfl
     have h4e:(ByteArray.toList (⟨t.toArray⟩:ByteArray)).isEmpty=false:=by rw[uC];exact h4
     go_wp2
     go_ret;exact⟨ai _ _ (by unfold Tr.dR;simp only[←qD];simp_all<;>omega),aF⟩
    |true=>
     have QO:((⟨t.toArray⟩:ByteArray)==(⟨#[]⟩:ByteArray))=true:=by rw[bS];exact h4
     have h4t:((⟨t.toArray⟩:ByteArray) !=(⟨#[]⟩:ByteArray))=false:=by rw[bne,QO];rfl
     have h4e:(ByteArray.toList (⟨t.toArray⟩:ByteArray)).isEmpty=true:=by rw[uC];exact h4
     go_wp2
     go_ret;exact⟨ai _ _ (by unfold Tr.dR;simp only[←qD];simp_all<;>omega),aF⟩
   |true=>
    have D5:(k !=(4:Int))=false:=by rw[bne,h3];rfl
    cases h5:decide ((t.length:Int)≤(200:Int))with
    |false=>
     have h5n:decide (t.length≤200)=false:=by have hx:=h5;simp only[decide_eq_false_iff_not]at hx⊢;omega
     go_wp2
     go_ret;exact⟨ai _ _ (by unfold Tr.dR;simp only[←qD];simp_all<;>omega),aF⟩
    |true=>
     have h5n:decide (t.length≤200)=true:=by have hx:=h5;simp only[decide_eq_true_eq]at hx⊢;omega
     go_wp2_with fail
     refine Calls.mono (Pg ⟨t.toArray⟩ _ HZ.out) ?_;rintro _ Zm ⟨rfl,pM⟩;replace pM:=pM.symm;subst pM;cases h6:(t.all nP)with
     |false=>
      go_wp2
      go_ret;exact⟨ai _ _ (by unfold Tr.dR;simp only[←qD];simp_all<;>omega),aF⟩
     |true=>
      go_wp2
      go_ret;exact⟨ai _ _ (by unfold Tr.dR;simp only[←qD];simp_all<;>omega),aF⟩
  |true=>
   have QB:(k !=(3:Int))=false:=by rw[bne,h2];rfl
   go_wp2_with fail
   refine Calls.mono (Uo ⟨t.toArray⟩ _ HZ.out) ?_;rintro _ w2q ⟨rfl,sU⟩;replace sU:=sU.symm;subst sU;cases h7:(Tr.isNum t)with
   |false=>
    go_wp2
    go_ret;exact⟨ai _ _ (by unfold Tr.dR;simp only[←qD];simp_all<;>omega),aF⟩
   |true=>
    go_wp2
    go_ret;exact⟨ai _ _ (by unfold Tr.dR;simp only[←qD];simp_all<;>omega),aF⟩
 |true=>
  have Gy:(k !=(2:Int))=false:=by rw[bne,h1];rfl
  go_wp2_with fail
  refine Calls.mono (Ul ⟨t.toArray⟩ _ HZ.out) ?_;rintro _ w3 ⟨rfl,hfw3⟩;have bJ:=hid (show ag w w3 from qV hfw3);have jB:af w3 (w.heap.size) 24 #[.int .i64 k,.string (⟨t.toArray⟩:ByteArray),cv,sl]:=Touch.blk hfw3 (by first|exact bH|assumption|exact bD (by assumption)) (fun h=>h);obtain⟨mF,mG,mH,mI,_⟩:=af.four jB;clear hfw3;cases h8:(Tr.symbol t)with
  |false=>
   go_wp2
   go_ret;exact⟨ai _ _ (by unfold Tr.dR;simp only[←qD];simp_all<;>omega),(kV bJ.out)⟩
  |true=>
   go_wp2
   go_ret;exact⟨ai _ _ (by unfold Tr.dR;simp only[←qD];simp_all<;>omega),(kV bJ.out)⟩
theorem WM(k:Int)(hk:k=11)(a b:UInt8)(cv sl:Value)(w:World):
  Calls Tryz.prog 25 #[.agg #[.int .i64 k,.string ⟨#[a,b]⟩,cv,sl]] w fun e w'=>e=.returned (.bool (Tr.dR k [a,b]))∧ag w w':=by
 have hk0:(k==10)=false:=by subst hk;rfl
 have hk1:(k==11)=true:=by subst hk;rfl
 have hk2:(k==2)=false:=by subst hk;rfl
 have hk3:(k==3)=false:=by subst hk;rfl
 have hk4:(k==4)=false:=by subst hk;rfl
 have HT:=hid (show Tr.dR k [a,b]=(Tr.rz.contains a&&Tr.rz.contains b) by subst hk;rfl);have e0:(ByteArray.mk #[a,b])[0]'(show 0<2 by decide)=a:=rfl;have e1:(ByteArray.mk #[a,b])[1]'(show 1<2 by decide)=b:=rfl;have e2:(ByteArray.mk #[a,b]).size=2:=rfl;clear hk;go_enter Tryz.func25,Tryz.ntmps25;go_wp2_with fail
 refine Calls.mono (MV ⟨(Tr.rz).toArray⟩ a _ (by decide)) ?_;rintro _ Zm ⟨rfl,pM⟩;replace pM:=pM.symm;subst pM;cases h1:(Tr.rz.contains a)with
 |false=>
  go_wp2
  go_ret;exact⟨ai _ _ (by rw[HT.out];simp_all),aF⟩
 |true=>
  go_wp2_with fail
  refine Calls.mono (MV ⟨(Tr.rz).toArray⟩ b _ (by decide)) ?_;rintro _ w2q ⟨rfl,sU⟩;replace sU:=sU.symm;subst sU;cases h2:(Tr.rz.contains b)with
  |false=>
   go_wp2
   go_ret;exact⟨ai _ _ (by rw[HT.out];simp_all),aF⟩
  |true=>
   go_wp2
   go_ret;exact⟨ai _ _ (by rw[HT.out];simp_all),aF⟩
theorem QS(k:Int)(hk:k=11)(t:List UInt8)(ht:t.length≠2)(cv sl:Value)(w:World):
  Calls Tryz.prog 25 #[.agg #[.int .i64 k,.string ⟨t.toArray⟩,cv,sl]] w fun e w'=>e=.returned (.bool (Tr.dR k t))∧ag w w':=by
 have hk0:(k==10)=false:=by subst hk;rfl
 have hk1:(k==11)=true:=by subst hk;rfl
 have hk2:(k==2)=false:=by subst hk;rfl
 have hk3:(k==3)=false:=by subst hk;rfl
 have hk4:(k==4)=false:=by subst hk;rfl
 have HT:=hid (show Tr.dR k t=false by
  subst hk;show Tr.fence t=false
  match t,ht with
  |[],_=>rfl
  |[_],_=>rfl
  |[_,_],h=>exact absurd rfl h
  |_::_::_::_,_=>rfl)
 have f1:((t.length:Int)==2)=false:=by rw[beq_eq_false_iff_ne];omega
 have f2:(t.length==2)=false:=by rw[beq_eq_false_iff_ne];exact ht
 have f3:¬(t.length:Int)=2:=by omega
 clear hk ht;go_enter Tryz.func25,Tryz.ntmps25;go_wp2
 go_ret;exact⟨ai _ _ (by rw[HT.out]),aF⟩
theorem Uq(k:Int)(hk:k=10)(t:List UInt8)(cv sl:Value)(w:World):
  Calls Tryz.prog 25 #[.agg #[.int .i64 k,.string ⟨t.toArray⟩,cv,sl]] w fun e w'=>e=.returned (.bool (Tr.dR k t))∧ag w w':=by
 have hk0:(k==10)=true:=by subst hk;rfl
 have hk2:(k==2)=false:=by subst hk;rfl
 have hk3:(k==3)=false:=by subst hk;rfl
 have hk4:(k==4)=false:=by subst hk;rfl
 have HT:=hid (show Tr.dR k t=Tr.eu.contains t by subst hk;rfl);clear hk;go_enter Tryz.func25,Tryz.ntmps25;go_wp2_with fail
 go_region_with (first
  |(go_at_call 46;refine(JJ _).mono ?_;rintro _ w1 ⟨rfl,hf1,hb1⟩;have q1:=af.cell (Touch.blk hf1 (af.new _ _ _) (fun h=>h)) 1;have hb2:af w1 (w.heap.size+1) 9 (D8 Tr.eu):=(by simpa using hb1);have aK:=hid (Touch.trans (((M _ w).alloc _).drew) hf1);clear hf1 hb1)
  |(go_at_call 45;refine(QJ Tr.eu ⟨t.toArray⟩ _ _ (by assumption) (by decide)).mono ?_;rintro _ _ ⟨rfl,rfl⟩))
 all_goals (go_wp2_with fail)
 all_goals go_ret
 all_goals exact⟨ai _ _ (by rw[HT.out];simp),aK.out⟩
theorem abT(k:Int)(t:List UInt8)(cv sl:Value)(w:World)(hm:t.length≤9223372036854775807):
  Calls Tryz.prog 25 #[.agg #[.int .i64 k,.string ⟨t.toArray⟩,cv,sl]] w fun e w'=>e=.returned (.bool (Tr.dR k t))∧ag w w':=by
 by_cases h10:k=10
 ·exact Uq k h10 t cv sl w
 ·by_cases h11:k=11
  ·by_cases h2:t.length=2
   ·match t,h2 with
    |[a,b],_=>exact WM k h11 a b cv sl w
   ·exact QS k h11 t h2 cv sl w
  ·exact WL k t cv sl w (by simpa using h10) (by simpa using h11) hm
theorem abU(k c:Int)(n:Nat)(A:Option Addr)(cap:Nat)(tx:Value)(w:World)(hn:n≤9223372036854775807):
  Calls Tryz.prog 26 #[.agg #[.int .i64 k,tx,.int .i64 c,.slice A n cap]] w fun e w'=>e=.returned (.bool (Tr.bM k c n))∧ag w w':=by
 go_enter Tryz.func26,Tryz.ntmps26;cases h1:(k==(12:Int))with
 |false=>
  have Gy:(k !=(12:Int))=true:=by rw[bne,h1];rfl
  cases h2:(c==(0:Int))with
  |false=>
   have QB:(c !=(0:Int))=true:=by rw[bne,h2];rfl
   go_wp2
   go_ret;exact⟨ai _ _ (by unfold Tr.bM;simp_all<;>omega),aF⟩
  |true=>
   have QB:(c !=(0:Int))=false:=by rw[bne,h2];rfl
   cases h3:(k==(1:Int))with
   |false=>
    have D5:(k !=(1:Int))=true:=by rw[bne,h3];rfl
    cases h4:(k==(2:Int))with
    |false=>
     have QC:(k !=(2:Int))=true:=by rw[bne,h4];rfl
     cases h5:(k==(3:Int))with
     |false=>
      have Zf:(k !=(3:Int))=true:=by rw[bne,h5];rfl
      cases h6:(k==(4:Int))with
      |false=>
       have h6m:(k !=(4:Int))=true:=by rw[bne,h6];rfl
       cases h7:(k==(5:Int))with
       |false=>
        have h7m:(k !=(5:Int))=true:=by rw[bne,h7];rfl
        cases h8:(k==(6:Int))with
        |false=>
         have h8m:(k !=(6:Int))=true:=by rw[bne,h8];rfl
         cases h9:(k==(7:Int))with
         |false=>
          have h9m:(k !=(7:Int))=true:=by rw[bne,h9];rfl
          cases h10:(k==(8:Int))with
          |false=>
           have abK:(k !=(8:Int))=true:=by rw[bne,h10];rfl
           cases h11:(k==(9:Int))with
           |false=>
            have QD:(k !=(9:Int))=true:=by rw[bne,h11];rfl
            cases h12:(k==(10:Int))with
            |false=>
             have ah8:(k !=(10:Int))=true:=by rw[bne,h12];rfl
             cases JF:(k==(11:Int))with
             |false=>
              have ah9:(k !=(11:Int))=true:=by rw[bne,JF];rfl
              go_wp2
              go_ret;exact⟨ai _ _ (by unfold Tr.bM;simp_all<;>omega),aF⟩
             |true=>
              have ah9:(k !=(11:Int))=false:=by rw[bne,JF];rfl
              cases GA:((n:Int)==(1:Int))with
              |false=>
               have ah':((n:Int) !=(1:Int))=true:=by rw[bne,GA];rfl
               have aia:(n==1)=false:=by have hx:=GA;simp only[beq_eq_false_iff_ne,ne_eq]at hx⊢;omega
               go_wp2
               go_ret;exact⟨ai _ _ (by unfold Tr.bM;simp_all<;>omega),aF⟩
              |true=>
               have ah':((n:Int) !=(1:Int))=false:=by rw[bne,GA];rfl
               have aia:(n==1)=true:=by have hx:=GA;simp only[beq_iff_eq]at hx⊢;omega
               go_wp2
               go_ret;exact⟨ai _ _ (by unfold Tr.bM;simp_all<;>omega),aF⟩
            |true=>
             have ah8:(k !=(10:Int))=false:=by rw[bne,h12];rfl
             cases GD:((n:Int)==(1:Int))with
             |false=>
              have aib:((n:Int) !=(1:Int))=true:=by rw[bne,GD];rfl
              have aic:(n==1)=false:=by have hx:=GD;simp only[beq_eq_false_iff_ne,ne_eq]at hx⊢;omega
              go_wp2
              go_ret;exact⟨ai _ _ (by unfold Tr.bM;simp_all<;>omega),aF⟩
             |true=>
              have aib:((n:Int) !=(1:Int))=false:=by rw[bne,GD];rfl
              have aic:(n==1)=true:=by have hx:=GD;simp only[beq_iff_eq]at hx⊢;omega
              go_wp2
              go_ret;exact⟨ai _ _ (by unfold Tr.bM;simp_all<;>omega),aF⟩
           |true=>
            have QD:(k !=(9:Int))=false:=by rw[bne,h11];rfl
            cases h16:((n:Int)==(3:Int))with
            |false=>
             have aid:((n:Int) !=(3:Int))=true:=by rw[bne,h16];rfl
             have aie:(n==3)=false:=by have hx:=h16;simp only[beq_eq_false_iff_ne,ne_eq]at hx⊢;omega
             go_wp2
             go_ret;exact⟨ai _ _ (by unfold Tr.bM;simp_all<;>omega),aF⟩
            |true=>
             have aid:((n:Int) !=(3:Int))=false:=by rw[bne,h16];rfl
             have aie:(n==3)=true:=by have hx:=h16;simp only[beq_iff_eq]at hx⊢;omega
             go_wp2
             go_ret;exact⟨ai _ _ (by unfold Tr.bM;simp_all<;>omega),aF⟩
          |true=>
           have abK:(k !=(8:Int))=false:=by rw[bne,h10];rfl
           cases GG:((n:Int)==(2:Int))with
           |false=>
            have aif:((n:Int) !=(2:Int))=true:=by rw[bne,GG];rfl
            have aih:(n==2)=false:=by have hx:=GG;simp only[beq_eq_false_iff_ne,ne_eq]at hx⊢;omega
            go_wp2
            go_ret;exact⟨ai _ _ (by unfold Tr.bM;simp_all<;>omega),aF⟩
           |true=>
            have aif:((n:Int) !=(2:Int))=false:=by rw[bne,GG];rfl
            have aih:(n==2)=true:=by have hx:=GG;simp only[beq_iff_eq]at hx⊢;omega
            go_wp2
            go_ret;exact⟨ai _ _ (by unfold Tr.bM;simp_all<;>omega),aF⟩
         |true=>
          have h9m:(k !=(7:Int))=false:=by rw[bne,h9];rfl
          cases h18:((n:Int)==(2:Int))with
          |false=>
           have aii:((n:Int) !=(2:Int))=true:=by rw[bne,h18];rfl
           have aij:(n==2)=false:=by have hx:=h18;simp only[beq_eq_false_iff_ne,ne_eq]at hx⊢;omega
           go_wp2
           go_ret;exact⟨ai _ _ (by unfold Tr.bM;simp_all<;>omega),aF⟩
          |true=>
           have aii:((n:Int) !=(2:Int))=false:=by rw[bne,h18];rfl
           have aij:(n==2)=true:=by have hx:=h18;simp only[beq_iff_eq]at hx⊢;omega
           go_wp2
           go_ret;exact⟨ai _ _ (by unfold Tr.bM;simp_all<;>omega),aF⟩
        |true=>
         have h8m:(k !=(6:Int))=false:=by rw[bne,h8];rfl
         cases h19:((n:Int)==(2:Int))with
         |false=>
          have aik:((n:Int) !=(2:Int))=true:=by rw[bne,h19];rfl
          have ail:(n==2)=false:=by have hx:=h19;simp only[beq_eq_false_iff_ne,ne_eq]at hx⊢;omega
          go_wp2
          go_ret;exact⟨ai _ _ (by unfold Tr.bM;simp_all<;>omega),aF⟩
         |true=>
          have aik:((n:Int) !=(2:Int))=false:=by rw[bne,h19];rfl
          have ail:(n==2)=true:=by have hx:=h19;simp only[beq_iff_eq]at hx⊢;omega
          go_wp2
          go_ret;exact⟨ai _ _ (by unfold Tr.bM;simp_all<;>omega),aF⟩
       |true=>
        have h7m:(k !=(5:Int))=false:=by rw[bne,h7];rfl
        cases h20:((n:Int)==(2:Int))with
        |false=>
         have aim:((n:Int) !=(2:Int))=true:=by rw[bne,h20];rfl
         have ain:(n==2)=false:=by have hx:=h20;simp only[beq_eq_false_iff_ne,ne_eq]at hx⊢;omega
         go_wp2
         go_ret;exact⟨ai _ _ (by unfold Tr.bM;simp_all<;>omega),aF⟩
        |true=>
         have aim:((n:Int) !=(2:Int))=false:=by rw[bne,h20];rfl
         have ain:(n==2)=true:=by have hx:=h20;simp only[beq_iff_eq]at hx⊢;omega
         go_wp2
         go_ret;exact⟨ai _ _ (by unfold Tr.bM;simp_all<;>omega),aF⟩
      |true=>
       have h6m:(k !=(4:Int))=false:=by rw[bne,h6];rfl
       cases h21:((n:Int)==(0:Int))with
       |false=>
        have aio:((n:Int) !=(0:Int))=true:=by rw[bne,h21];rfl
        have aip:(n==0)=false:=by have hx:=h21;simp only[beq_eq_false_iff_ne,ne_eq]at hx⊢;omega
        go_wp2
        go_ret;exact⟨ai _ _ (by unfold Tr.bM;simp_all<;>omega),aF⟩
       |true=>
        have aio:((n:Int) !=(0:Int))=false:=by rw[bne,h21];rfl
        have aip:(n==0)=true:=by have hx:=h21;simp only[beq_iff_eq]at hx⊢;omega
        go_wp2
        go_ret;exact⟨ai _ _ (by unfold Tr.bM;simp_all<;>omega),aF⟩
     |true=>
      have Zf:(k !=(3:Int))=false:=by rw[bne,h5];rfl
      cases h22:((n:Int)==(0:Int))with
      |false=>
       have aiq:((n:Int) !=(0:Int))=true:=by rw[bne,h22];rfl
       have air:(n==0)=false:=by have hx:=h22;simp only[beq_eq_false_iff_ne,ne_eq]at hx⊢;omega
       go_wp2
       go_ret;exact⟨ai _ _ (by unfold Tr.bM;simp_all<;>omega),aF⟩
      |true=>
       have aiq:((n:Int) !=(0:Int))=false:=by rw[bne,h22];rfl
       have air:(n==0)=true:=by have hx:=h22;simp only[beq_iff_eq]at hx⊢;omega
       go_wp2
       go_ret;exact⟨ai _ _ (by unfold Tr.bM;simp_all<;>omega),aF⟩
    |true=>
     have QC:(k !=(2:Int))=false:=by rw[bne,h4];rfl
     cases h23:((n:Int)==(0:Int))with
     |false=>
      have ais:((n:Int) !=(0:Int))=true:=by rw[bne,h23];rfl
      have ait:(n==0)=false:=by have hx:=h23;simp only[beq_eq_false_iff_ne,ne_eq]at hx⊢;omega
      go_wp2
      go_ret;exact⟨ai _ _ (by unfold Tr.bM;simp_all<;>omega),aF⟩
     |true=>
      have ais:((n:Int) !=(0:Int))=false:=by rw[bne,h23];rfl
      have ait:(n==0)=true:=by have hx:=h23;simp only[beq_iff_eq]at hx⊢;omega
      go_wp2
      go_ret;exact⟨ai _ _ (by unfold Tr.bM;simp_all<;>omega),aF⟩
   |true=>
    have D5:(k !=(1:Int))=false:=by rw[bne,h3];rfl
    cases h24:decide ((n:Int)≤(200:Int))with
    |false=>
     have aiu:decide (n≤200)=false:=by have hx:=h24;simp only[decide_eq_false_iff_not]at hx⊢;omega
     go_wp2
     go_ret;exact⟨ai _ _ (by unfold Tr.bM;simp_all<;>omega),aF⟩
    |true=>
     have akN:=of_decide_eq_true h24;have aiu:decide (n≤200)=true:=by have hx:=h24;simp only[decide_eq_true_eq]at hx⊢;omega
     go_wp2
     go_ret;exact⟨ai _ _ (by unfold Tr.bM;simp_all<;>omega),aF⟩
 |true=>
  have Gy:(k !=(12:Int))=false:=by rw[bne,h1];rfl
  cases h25:decide ((1:Int)≤c)with
  |false=>
   go_wp2
   go_ret;exact⟨ai _ _ (by unfold Tr.bM;simp_all<;>omega),aF⟩
  |true=>
   have akO:=of_decide_eq_true h25;cases h26:decide (c≤(16:Int))with
   |false=>
    go_wp2
    go_ret;exact⟨ai _ _ (by unfold Tr.bM;simp_all<;>omega),aF⟩
   |true=>
    have akP:=of_decide_eq_true h26;cases h27:decide ((1:Int)≤(n:Int))with
    |false=>
     have aiv:decide (1≤n)=false:=by have hx:=h27;simp only[decide_eq_false_iff_not]at hx⊢;omega
     go_wp2
     go_ret;exact⟨ai _ _ (by unfold Tr.bM;simp_all<;>omega),aF⟩
    |true=>
     have akQ:=of_decide_eq_true h27;have aiv:decide (1≤n)=true:=by have hx:=h27;simp only[decide_eq_true_eq]at hx⊢;omega
     cases h28:decide ((n:Int)≤(256:Int))with
     |false=>
      have aiw:decide (n≤256)=false:=by have hx:=h28;simp only[decide_eq_false_iff_not]at hx⊢;omega
      go_wp2
      go_ret;exact⟨ai _ _ (by unfold Tr.bM;simp_all<;>omega),aF⟩
     |true=>
      have akR:=of_decide_eq_true h28;have aiw:decide (n≤256)=true:=by have hx:=h28;simp only[decide_eq_true_eq]at hx⊢;omega
      cases h29:(((n:Int)%c)==(0:Int))with
      |false=>
       have aix:(((n:Int)%c) !=(0:Int))=true:=by rw[bne,h29];rfl
       go_wp2
       go_ret;exact⟨ai _ _ (by unfold Tr.bM;simp_all<;>omega),aF⟩
      |true=>
       have aix:(((n:Int)%c) !=(0:Int))=false:=by rw[bne,h29];rfl
       go_wp2
       go_ret;exact⟨ai _ _ (by unfold Tr.bM;simp_all<;>omega),aF⟩
theorem Dy(l:List Tr.Nd)(i:Nat)(h:i<l.length):Tr.aX (l.take (i+1))=max (Tr.aX (l.take i)) (Tr.depth l[i]):=by
 induction l generalizing i with
 |nil=>simp at h
 |cons x l ih=>
  cases i with
  |zero=>simp[Tr.aX]
  |succ i=>
   simp only[List.take_succ_cons,Tr.aX,List.getElem_cons_succ];rw[ih i (by simpa using h)];omega
theorem QT(n:Tr.Nd):Tr.depth n≤Tr.count n:=by
 induction n using Tr.Nd.ind with
 |h n ih=>
  have hL:∀l:List Tr.Nd,(∀x∈l,Tr.depth x≤Tr.count x)→Tr.aX l≤Tr.az l:=by
   intro l
   induction l with
   |nil=>intro _;simp[Tr.aX]
   |cons x l ihl=>
    intro h;rw[Tr.aX,Tr.az];have h1:=h x (by simp);have h2:=ihl fun y hy=>h y (by simp[hy])
    omega
  rw[Tr.oN,Tr.aN];have:=hL n.kids ih;omega
theorem NY(l:List Tr.Nd):Tr.aX l≤Tr.az l:=by
 induction l with
 |nil=>simp[Tr.aX]
 |cons x l ihl=>
  rw[Tr.aX,Tr.az];have h1:=QT x;omega
theorem MX(l:List Tr.Nd)(j:Nat):Tr.aX (l.take j)≤Tr.az l:=Nat.le_trans (NY _) (Tr.qy l j)
theorem abV(m:Nat):∀(n:Tr.Nd) (sl:Value) (w:World),Tr.count n≤m→m≤1000000→aD w n.kids sl→n.text.length≤maxLen→
  Calls Tryz.prog 13 #[.agg #[.int .i64 n.kind,.string ⟨n.text.toArray⟩,.int .i64 n.ah,sl]] w fun e w'=>e=.returned (.bool (Tr.form n))∧ag w w':=by
 induction m with
 |zero=>intro n _ _ h;have:=Tr.bX n;omega
 |succ m ih=>
  intro n sl w hc hm hr ht;obtain⟨A,cap,rfl⟩:=hr.slice;have hlen:=hr.len;unfold maxLen at hlen ht;have q9:=hid ih;have HR:=hid hr;have GL:=hid (Tr.kG n);have hkc:Tr.az n.kids≤m:=by have:=Tr.aN n;omega
  have hkl:=Tr.jF n.kids;clear ih hr;generalize n.kids=ks at*;go_enter Tryz.func13,Tryz.ntmps13;go_wp2_with fail
  refine Calls.mono (abT _ n.text _ _ _ (by omega)) ?_;rintro _ w1 ⟨rfl,kH⟩;have aK:=hid (show ag w w1 from qV kH);have bP:af w1 (w.heap.size) 24 #[.int .i64 n.kind,.string (⟨n.text.toArray⟩:ByteArray),.int .i64 n.ah,.slice A ks.length cap]:=Touch.blk kH (by first|exact bH|assumption|exact bD (by assumption)) (fun h=>h);obtain⟨dN,dO,dP,dQ,_⟩:=af.four bP;clear kH;cases h1:(Tr.dR n.kind n.text)with
  |false=>
   go_wp2
   go_ret;exact⟨ai _ _ (by rw[GL.out,show(Tr.dR n.kind n.text)=false from by assumption];rfl),(kV aK.out)⟩
  |true=>
   go_wp2_with fail
   refine Calls.mono (abU _ _ ks.length _ _ _ _ (by omega)) ?_;rintro _ w2 ⟨rfl,hfw2⟩;have bW:=hid (show ag w1 w2 from qV hfw2);have fF:=Touch.blk hfw2 (bD bP) (fun h=>h);clear dN dO dP dQ bP;obtain⟨ig,iq,iw,iy,_⟩:=af.four fF;clear hfw2;cases h2:(Tr.bM n.kind n.ah ks.length)with
   |false=>
    go_wp2
    go_ret;exact⟨ai _ _ (by rw[GL.out,show(Tr.dR n.kind n.text)=true from by assumption,show(Tr.bM n.kind n.ah ks.length)=false from by assumption];rfl),(kV (aK.out.trans bW.out))⟩
   |true=>
    go_wp2
    go_loopw [3] (fun i wr=>∃j:Nat,i=.int .i64 j∧j≤ks.length∧Hd (Tr.iV (n.kind==1) (ks.take j)=true)∧Hd (af wr w.heap.size 24 #[.int .i64 n.kind,.string ⟨n.text.toArray⟩,.int .i64 n.ah,.slice A ks.length cap])∧Hd (ag w wr)) (fun i _=>ks.length-(intOf i).toNat)
    case atStart=>exact⟨0,rfl,Nat.zero_le _,by simp[Tr.iV,Hd],by assumption,aK.out.trans bW.out⟩
    case round=>
     obtain⟨j,rfl,hj,HA,HB,HF⟩:=hrel
     by_cases c1:j<ks.length
     ·have d1:decide ((j:Int)<(ks.length:Int))=true:=dT (by omega)
      have jo:decide (j<ks.length)=true:=dT (by omega);have d1':(j:Int)<(ks.length:Int):=by omega
      obtain⟨g,o,sx,rfl,hg,m0,m1,m2,m3,su⟩:=HR.out.get j c1;have htx:=HR.out.texts j c1;have hcm:=Tr.cB (List.getElem_mem (l:=ks) (n:=j) c1);have HS:=hid (Tr.Lb (n.kind==1) ks j c1);have HN:=hid (Tr.P9 (n.kind==1) ks j c1);have lM:=Touch.cell HF.out m0 (fun h=>h);have pO:=Touch.cell HF.out m1 (fun h=>h);have pQ:=Touch.cell HF.out m2 (fun h=>h);have pR:=Touch.cell HF.out m3 (fun h=>h);have hgr:g<wr.heap.size:=bL lM;have JD:=hid su;clear m0 m1 m2 m3 su hg HR;generalize ks[j]=x at*;obtain⟨nE,nG,nH,nI,_⟩:=af.four HB.out;have qE:af wr w.heap.size 24 #[.int .i64 n.kind,.string (⟨n.text.toArray⟩:ByteArray),.int .i64 n.ah,.slice (some ⟨g,o,none⟩) ks.length cap]:=HB.out;have wV:w.heap.size<wr.heap.size:=af.lt HB.out;cases h3:(x.kind==(1:Int))with
      |false=>
       have D5:(x.kind !=(1:Int))=true:=by rw[bne,h3];rfl
       cases h4:(n.kind==(1:Int))with
       |false=>
        have QC:(n.kind !=(1:Int))=true:=by rw[bne,h4];rfl
        go_wp2
        go_quiet (fail)
        go_wp2
        go_ret;exact⟨ai _ _ (by rw[GL.out,HN.out (by rw[show(x.kind==1)=false from by assumption,show(n.kind==1)=false from by assumption];rfl),Bool.and_false]),(kV HF.out)⟩
       |true=>
        have QC:(n.kind !=(1:Int))=false:=by rw[bne,h4];rfl
        go_wp2_with fail
        refine bK (fun W=>ag wr W∧af W (w.heap.size) 24 #[.int .i64 n.kind,.string (⟨n.text.toArray⟩:ByteArray),.int .i64 n.ah,.slice (some ⟨g,o,none⟩) ks.length cap]) ⟨aF,(by first|exact bH|assumption|exact bD (by assumption))⟩ ?_;rintro w3 ⟨hfw3,D9⟩;have bJ:=hid hfw3;clear hfw3 nE nG nH nI qE;have aeB:=cR (show World.cell? w3 ⟨w.heap.size,0,none⟩=some (.int .i64 n.kind)from af.cell D9 0);have aeC:=cR (show World.cell? w3 ⟨w.heap.size,1,none⟩=some (.string (⟨n.text.toArray⟩:ByteArray))from af.cell D9 1);have aeD:=cR (show World.cell? w3 ⟨w.heap.size,2,none⟩=some (.int .i64 n.ah)from af.cell D9 2);have aeE:=cR (show World.cell? w3 ⟨w.heap.size,3,none⟩=some (.slice (some ⟨g,o,none⟩) ks.length cap)from af.cell D9 3);obtain⟨yh,BK,BM,BN⟩:=xW bJ.out lM pO pQ pR;clear lM pO pQ pR;have aeF:=cR yh;have aeG:=cR BK;have aeH:=cR BM;have aeI:=cR BN;have ag6:=hid (lJ (P:=Tryz.prog) w3 (fun w hw=>q9.out x sx _ (by omega) (by omega) (JD.out.fresh (Touch.trans (HF.out.trans bJ.out) hw)) htx));refine wp_region_quiet_below (by kernel_rfl) (by kernel_rfl) ?_
        repeat(quiet_step (first|with_reducible exact ag6.out _ _))
        refine wpQuiet_nil ?_;rintro w4 ⟨⟨_,_⟩,afC⟩;have ER:ag w3 w4:=by rw[afC];exact aZ (below_regrown _ _ _)
        clear afC aeB aeC aeD aeE aeF aeG aeH aeI;have eZ:=hid (show ag w3 w4 from qV ER);have rq:=Touch.blk ER (bD D9) (fun h=>h);clear D9;obtain⟨vS,vT,vU,vV,_⟩:=af.four rq;obtain⟨zU,GM,GN,GQ⟩:=xW eZ.out yh BK BM BN;clear yh BK BM BN;clear ER;cases h5:(Tr.form x)with
        |false=>
         go_wp2
         go_ret;exact⟨ai _ _ (by rw[GL.out,HN.out (by rw[show(x.kind==1)=false from by assumption,show(n.kind==1)=true from by assumption,show(Tr.form x)=false from by assumption];rfl),Bool.and_false]),(kV (HF.out.trans (bJ.out.trans eZ.out)))⟩
        |true=>
         go_wp2
         go_roundw
         case rel=>exact⟨j+1,by go_num,c1,by have h:Tr.iV (n.kind==1) (ks.take (j+1))=true:=(by rw[HS.out,HA.out,show(x.kind==1)=false from by assumption,show(n.kind==1)=true from by assumption,show(Tr.form x)=true from by assumption];rfl);rw[show(n.kind==1)=true from by assumption]at h;exact h,rq,(HF.out.trans (bJ.out.trans eZ.out))⟩
         case measure=>simp[intOf];omega
      |true=>
       have D5:(x.kind !=(1:Int))=false:=by rw[bne,h3];rfl
       cases h6:(n.kind==(1:Int))with
       |false=>
        have h6m:(n.kind !=(1:Int))=true:=by rw[bne,h6];rfl
        go_wp2_with fail
        refine bK (fun W=>ag wr W∧af W (w.heap.size) 24 #[.int .i64 n.kind,.string (⟨n.text.toArray⟩:ByteArray),.int .i64 n.ah,.slice (some ⟨g,o,none⟩) ks.length cap]) ⟨aF,(by first|exact bH|assumption|exact bD (by assumption))⟩ ?_;rintro w5 ⟨Qt,Ea⟩;have eY:=hid Qt;clear Qt nE nG nH nI qE;have aeJ:=cR (show World.cell? w5 ⟨w.heap.size,0,none⟩=some (.int .i64 n.kind)from af.cell Ea 0);have aeK:=cR (show World.cell? w5 ⟨w.heap.size,1,none⟩=some (.string (⟨n.text.toArray⟩:ByteArray))from af.cell Ea 1);have aeL:=cR (show World.cell? w5 ⟨w.heap.size,2,none⟩=some (.int .i64 n.ah)from af.cell Ea 2);have aeM:=cR (show World.cell? w5 ⟨w.heap.size,3,none⟩=some (.slice (some ⟨g,o,none⟩) ks.length cap)from af.cell Ea 3);obtain⟨zV,Eb,Ec,Ed⟩:=xW eY.out lM pO pQ pR;clear lM pO pQ pR;have aeN:=cR zV;have aeO:=cR Eb;have aeP:=cR Ec;have aeQ:=cR Ed;have ag7:=hid (lJ (P:=Tryz.prog) w5 (fun w hw=>q9.out x sx _ (by omega) (by omega) (JD.out.fresh (Touch.trans (HF.out.trans eY.out) hw)) htx));refine wp_region_quiet_below (by kernel_rfl) (by kernel_rfl) ?_
        repeat(quiet_step (first|with_reducible exact ag7.out _ _))
        refine wpQuiet_nil ?_;rintro w6 ⟨⟨_,_⟩,afD⟩;have abW:ag w5 w6:=by rw[afD];exact aZ (below_regrown _ _ _)
        clear afD aeJ aeK aeL aeM aeN aeO aeP aeQ;have fI:=hid (show ag w5 w6 from qV abW);have EU:=Touch.blk abW (bD Ea) (fun h=>h);clear Ea;obtain⟨MZ,M0,M3,M4,_⟩:=af.four EU;obtain⟨GR,QU,QV,QW⟩:=xW fI.out zV Eb Ec Ed;clear zV Eb Ec Ed;clear abW;cases h7:(Tr.form x)with
        |false=>
         go_wp2
         go_ret;exact⟨ai _ _ (by rw[GL.out,HN.out (by rw[show(x.kind==1)=true from by assumption,show(n.kind==1)=false from by assumption,show(Tr.form x)=false from by assumption];rfl),Bool.and_false]),(kV (HF.out.trans (eY.out.trans fI.out)))⟩
        |true=>
         go_wp2
         go_roundw
         case rel=>exact⟨j+1,by go_num,c1,by have h:Tr.iV (n.kind==1) (ks.take (j+1))=true:=(by rw[HS.out,HA.out,show(x.kind==1)=true from by assumption,show(n.kind==1)=false from by assumption,show(Tr.form x)=true from by assumption];rfl);rw[show(n.kind==1)=false from by assumption]at h;exact h,EU,(HF.out.trans (eY.out.trans fI.out))⟩
         case measure=>simp[intOf];omega
       |true=>
        have h6m:(n.kind !=(1:Int))=false:=by rw[bne,h6];rfl
        go_wp2
        go_quiet (fail)
        go_wp2
        go_ret;exact⟨ai _ _ (by rw[GL.out,HN.out (by rw[show(x.kind==1)=true from by assumption,show(n.kind==1)=true from by assumption];rfl),Bool.and_false]),(kV HF.out)⟩
     ·have d1:decide ((j:Int)<(ks.length:Int))=false:=dF (by omega)
      have jo:decide (j<ks.length)=false:=dF (by omega);obtain rfl:j=ks.length:=by omega
      obtain⟨nE,nG,nH,nI,_⟩:=af.four HB.out;have qE:af wr w.heap.size 24 #[.int .i64 n.kind,.string (⟨n.text.toArray⟩:ByteArray),.int .i64 n.ah,.slice A ks.length cap]:=HB.out;have wV:w.heap.size<wr.heap.size:=af.lt HB.out;go_wp2
      go_ret;exact⟨ai _ _ (by have:=HA.out;rw[List.take_length]at this;rw[GL.out,this,show(Tr.dR n.kind n.text)=true from by assumption,show(Tr.bM n.kind n.ah ks.length)=true from by assumption];rfl),(kV HF.out)⟩
theorem Zo(m:Nat):∀(n:Tr.Nd) (sl:Value) (w:World),Tr.count n≤m→m≤1000000→aD w n.kids sl→n.text.length≤maxLen→
  Calls Tryz.prog 14 #[.agg #[.int .i64 n.kind,.string ⟨n.text.toArray⟩,.int .i64 n.ah,sl]] w fun e w'=>e=.returned (.int .i64 (Tr.count n))∧ag w w':=by
 induction m with
 |zero=>intro n _ _ h;have:=Tr.bX n;omega
 |succ m ih=>
  intro n sl w hc hm hr ht;obtain⟨A,cap,rfl⟩:=hr.slice;have hlen:=hr.len;unfold maxLen at hlen ht;have q9:=hid ih;have HR:=hid hr;have GL:=hid (Tr.aN n);have hkc:Tr.az n.kids≤m:=by have:=Tr.aN n;omega
  have hkl:=Tr.jF n.kids;clear ih hr;generalize n.kids=ks at*;go_enter Tryz.func14,Tryz.ntmps14;go_wp2
  go_loopw [3,4] (fun c i wr=>∃j:Nat,c=.int .i64 ((1+Tr.az (ks.take j):Nat):Int)∧i=.int .i64 j∧j≤ks.length∧Hd (af wr w.heap.size 24 #[.int .i64 n.kind,.string ⟨n.text.toArray⟩,.int .i64 n.ah,.slice A ks.length cap])∧Hd (ag w wr)) (fun _ i _=>ks.length-(intOf i).toNat)
  case atStart=>exact⟨0,by simp[Tr.az],rfl,Nat.zero_le _,af.new _ _ _,(M _ _).alloc _⟩
  case round=>
   obtain⟨j,rfl,rfl,hj,HB,HF⟩:=hrel
   by_cases c1:j<ks.length
   ·have d1:decide ((j:Int)<(ks.length:Int))=true:=dT (by omega)
    have jo:decide (j<ks.length)=true:=dT (by omega);have d1':(j:Int)<(ks.length:Int):=by omega
    obtain⟨g,o,sx,rfl,hg,m0,m1,m2,m3,su⟩:=HR.out.get j c1;have htx:=HR.out.texts j c1;have hcm:=Tr.cB (List.getElem_mem (l:=ks) (n:=j) c1);have HS:=hid (Tr.uA ks j c1);have hct:=Tr.qy ks j;have hcs:Tr.az (ks.take j)+Tr.count ks[j]≤Tr.az ks:=by rw[←HS.out];exact Tr.qy ks (j+1)
    have lM:=Touch.cell HF.out m0 (fun h=>h);have pO:=Touch.cell HF.out m1 (fun h=>h);have pQ:=Touch.cell HF.out m2 (fun h=>h);have pR:=Touch.cell HF.out m3 (fun h=>h);have hgr:g<wr.heap.size:=bL lM;have JD:=hid su;clear m0 m1 m2 m3 su hg HR;generalize ks[j]=x at*;obtain⟨nE,nG,nH,nI,_⟩:=af.four HB.out;have qE:af wr w.heap.size 24 #[.int .i64 n.kind,.string (⟨n.text.toArray⟩:ByteArray),.int .i64 n.ah,.slice (some ⟨g,o,none⟩) ks.length cap]:=HB.out;have wV:w.heap.size<wr.heap.size:=af.lt HB.out;go_wp2_with fail
    refine Calls.mono (q9.out x sx _ (by omega) (by omega) (JD.out.fresh (kV HF.out)) htx) ?_;rintro _ w1 ⟨rfl,kH⟩;have aK:=hid (show ag wr w1 from qV kH);have bP:=Touch.blk kH (bD qE) (fun h=>h);clear nE nG nH nI qE;obtain⟨dN,dO,dP,dQ,_⟩:=af.four bP;obtain⟨pU,yj,yl,ym⟩:=xW aK.out lM pO pQ pR;clear lM pO pQ pR;clear kH;go_wp2
    go_roundw
    case rel=>exact⟨j+1,by rw[HS.out];go_num,by go_num,c1,bP,(HF.out.trans aK.out)⟩
    case measure=>simp[intOf];omega
   ·have d1:decide ((j:Int)<(ks.length:Int))=false:=dF (by omega)
    have jo:decide (j<ks.length)=false:=dF (by omega);obtain rfl:j=ks.length:=by omega
    obtain⟨nE,nG,nH,nI,_⟩:=af.four HB.out;have qE:af wr w.heap.size 24 #[.int .i64 n.kind,.string (⟨n.text.toArray⟩:ByteArray),.int .i64 n.ah,.slice A ks.length cap]:=HB.out;have wV:w.heap.size<wr.heap.size:=af.lt HB.out;go_wp2
    go_ret;exact⟨by rw[GL.out];first|(have:=List.take_length (l:=ks);simp_all)|rfl,(kV HF.out)⟩
theorem Zp(m:Nat):∀(n:Tr.Nd) (sl:Value) (w:World),Tr.count n≤m→m≤1000000→aD w n.kids sl→n.text.length≤maxLen→
  Calls Tryz.prog 15 #[.agg #[.int .i64 n.kind,.string ⟨n.text.toArray⟩,.int .i64 n.ah,sl]] w fun e w'=>e=.returned (.int .i64 (Tr.depth n))∧ag w w':=by
 induction m with
 |zero=>intro n _ _ h;have:=Tr.bX n;omega
 |succ m ih=>
  intro n sl w hc hm hr ht;obtain⟨A,cap,rfl⟩:=hr.slice;have hlen:=hr.len;unfold maxLen at hlen ht;have q9:=hid ih;have HR:=hid hr;have GL:=hid (Tr.oN n);have hkc:Tr.az n.kids≤m:=by have:=Tr.aN n;omega
  have hkl:=Tr.jF n.kids;have hdl:=NY n.kids;clear ih hr;generalize n.kids=ks at*;go_enter Tryz.func15,Tryz.ntmps15;go_wp2
  go_loopw [3,4] (fun c i wr=>∃j:Nat,c=.int .i64 ((Tr.aX (ks.take j):Nat):Int)∧i=.int .i64 j∧j≤ks.length∧Hd (af wr w.heap.size 24 #[.int .i64 n.kind,.string ⟨n.text.toArray⟩,.int .i64 n.ah,.slice A ks.length cap])∧Hd (ag w wr)) (fun _ i _=>ks.length-(intOf i).toNat)
  case atStart=>exact⟨0,by simp[Tr.aX],rfl,Nat.zero_le _,af.new _ _ _,(M _ _).alloc _⟩
  case round=>
   obtain⟨j,rfl,rfl,hj,HB,HF⟩:=hrel
   by_cases c1:j<ks.length
   ·have d1:decide ((j:Int)<(ks.length:Int))=true:=dT (by omega)
    have jo:decide (j<ks.length)=true:=dT (by omega);have d1':(j:Int)<(ks.length:Int):=by omega
    obtain⟨g,o,sx,rfl,hg,m0,m1,m2,m3,su⟩:=HR.out.get j c1;have htx:=HR.out.texts j c1;have hcm:=Tr.cB (List.getElem_mem (l:=ks) (n:=j) c1);have HS:=hid (Dy ks j c1);have hdj:=MX ks j;have hdx:=QT ks[j];have lM:=Touch.cell HF.out m0 (fun h=>h);have pO:=Touch.cell HF.out m1 (fun h=>h);have pQ:=Touch.cell HF.out m2 (fun h=>h);have pR:=Touch.cell HF.out m3 (fun h=>h);have hgr:g<wr.heap.size:=bL lM;have JD:=hid su;clear m0 m1 m2 m3 su hg HR;generalize ks[j]=x at*;obtain⟨nE,nG,nH,nI,_⟩:=af.four HB.out;have qE:af wr w.heap.size 24 #[.int .i64 n.kind,.string (⟨n.text.toArray⟩:ByteArray),.int .i64 n.ah,.slice (some ⟨g,o,none⟩) ks.length cap]:=HB.out;have wV:w.heap.size<wr.heap.size:=af.lt HB.out;go_wp2_with fail
    refine Calls.mono (q9.out x sx _ (by omega) (by omega) (JD.out.fresh (kV HF.out)) htx) ?_;rintro _ w1 ⟨rfl,kH⟩;have aK:=hid (show ag wr w1 from qV kH);have bP:=Touch.blk kH (bD qE) (fun h=>h);clear nE nG nH nI qE;obtain⟨dN,dO,dP,dQ,_⟩:=af.four bP;obtain⟨pU,yj,yl,ym⟩:=xW aK.out lM pO pQ pR;clear lM pO pQ pR;clear kH;go_wp2
    go_roundw
    case rel=>exact⟨j+1,by rw[HS.out];go_num,by go_num,c1,bP,(HF.out.trans aK.out)⟩
    case measure=>simp[intOf];omega
   ·have d1:decide ((j:Int)<(ks.length:Int))=false:=dF (by omega)
    have jo:decide (j<ks.length)=false:=dF (by omega);obtain rfl:j=ks.length:=by omega
    obtain⟨nE,nG,nH,nI,_⟩:=af.four HB.out;have qE:af wr w.heap.size 24 #[.int .i64 n.kind,.string (⟨n.text.toArray⟩:ByteArray),.int .i64 n.ah,.slice A ks.length cap]:=HB.out;have wV:w.heap.size<wr.heap.size:=af.lt HB.out;go_wp2
    go_ret;exact⟨by rw[GL.out];first|(have:=List.take_length (l:=ks);simp_all)|rfl,(kV HF.out)⟩
theorem WN(n:Tr.Nd)(sl:Value)(w:World)(hr:aD w n.kids sl)(ht:n.text.length≤maxLen)(hc:Tr.count n≤1000000):
  Calls Tryz.prog 6 #[.agg #[.int .i64 n.kind,.string ⟨n.text.toArray⟩,.int .i64 n.ah,sl]] w fun e w'=>e=.returned (.bool (Tr.valid n))∧ag w w':=by
 have HR:=hid hr;have HV:=hid (show Tr.valid n=((n.kind==1)&&Tr.form n&&decide (Tr.count n≤1000)&&decide (Tr.depth n≤24))from rfl);have HT:=hid ht;have HC:=hid hc;clear hr ht hc;go_enter Tryz.func6,Tryz.ntmps6;cases h1:(n.kind==(1:Int))with
 |false=>
  have Gy:(n.kind !=(1:Int))=true:=by rw[bne,h1];rfl
  go_wp2
  go_ret;exact⟨ai _ _ (by rw[HV.out,show(n.kind==1)=false from by assumption];simp),aF⟩
 |true=>
  have Gy:(n.kind !=(1:Int))=false:=by rw[bne,h1];rfl
  go_wp2_with fail
  refine Calls.mono (abV _ n sl _ (Nat.le_refl _) HC.out (HR.out.fresh aF) HT.out) ?_;rintro _ w1 ⟨rfl,kH⟩;have aK:=hid (show ag w w1 from qV kH);have bP:af w1 (w.heap.size) 24 #[.int .i64 n.kind,.string (⟨n.text.toArray⟩:ByteArray),.int .i64 n.ah,sl]:=Touch.blk kH (by first|exact bH|assumption|exact bD (by assumption)) (fun h=>h);obtain⟨dN,dO,dP,dQ,_⟩:=af.four bP;clear kH;cases h2:(Tr.form n)with
  |false=>
   go_wp2
   go_ret;exact⟨ai _ _ (by rw[HV.out,show(n.kind==1)=true from by assumption,show(Tr.form n)=false from by assumption];simp),(kV aK.out)⟩
  |true=>
   go_wp2_with fail
   refine Calls.mono (Zo _ n sl _ (Nat.le_refl _) HC.out (HR.out.fresh (kV aK.out)) HT.out) ?_;rintro _ w2 ⟨rfl,hfw2⟩;have bW:=hid (show ag w1 w2 from qV hfw2);have fF:=Touch.blk hfw2 (bD bP) (fun h=>h);clear dN dO dP dQ bP;obtain⟨ig,iq,iw,iy,_⟩:=af.four fF;clear hfw2;cases h3:decide ((Tr.count n:Int)≤(1000:Int))with
   |false=>
    go_wp2
    go_ret;exact⟨ai _ _ (by rw[HV.out,show(n.kind==1)=true from by assumption,show(Tr.form n)=true from by assumption,show decide (Tr.count n≤1000)=false from by have:=of_decide_eq_false (by assumption:decide ((Tr.count n:Int)≤(1000:Int))=false);simp only[decide_eq_false_iff_not];omega];simp),(kV (aK.out.trans bW.out))⟩
   |true=>
    go_wp2_with fail
    refine Calls.mono (Zp _ n sl _ (Nat.le_refl _) HC.out (HR.out.fresh (kV (aK.out.trans bW.out))) HT.out) ?_;rintro _ w3 ⟨rfl,hfw3⟩;have bJ:=hid (show ag w2 w3 from qV hfw3);have jB:=Touch.blk hfw3 (bD fF) (fun h=>h);clear ig iq iw iy fF;obtain⟨mF,mG,mH,mI,_⟩:=af.four jB;clear hfw3;cases h4:decide ((Tr.depth n:Int)≤(24:Int))with
    |false=>
     go_wp2
     go_ret;exact⟨ai _ _ (by rw[HV.out,show(n.kind==1)=true from by assumption,show(Tr.form n)=true from by assumption,show decide (Tr.count n≤1000)=true from by have:=of_decide_eq_true (by assumption:decide ((Tr.count n:Int)≤(1000:Int))=true);simp only[decide_eq_true_eq];omega,show decide (Tr.depth n≤24)=false from by have:=of_decide_eq_false (by assumption:decide ((Tr.depth n:Int)≤(24:Int))=false);simp only[decide_eq_false_iff_not];omega];rfl),(kV (aK.out.trans (bW.out.trans bJ.out)))⟩
    |true=>
     go_wp2
     go_ret;exact⟨ai _ _ (by rw[HV.out,show(n.kind==1)=true from by assumption,show(Tr.form n)=true from by assumption,show decide (Tr.count n≤1000)=true from by have:=of_decide_eq_true (by assumption:decide ((Tr.count n:Int)≤(1000:Int))=true);simp only[decide_eq_true_eq];omega,show decide (Tr.depth n≤24)=true from by have:=of_decide_eq_true (by assumption:decide ((Tr.depth n:Int)≤(24:Int))=true);simp only[decide_eq_true_eq];omega];rfl),(kV (aK.out.trans (bW.out.trans bJ.out)))⟩
end
end Go.Proofs.YtcgbccfpcgaikaaGreatDoor
