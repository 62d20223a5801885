/- Part 10 of 48 of a proof. No condition. -/
import Derived.Test.YtnbeemkfmlfgfaaGreatDoorTm9
set_option maxRecDepth 100000
set_option maxHeartbeats 1000000
namespace Go.Proofs.YtnbeemkfmlfgfaaGreatDoor
section
open Go.RowKit
theorem yM(n:Tr.Nd)(sl:Value)(w:World)(hr:aO w n.kids sl)(ht:n.text.length≤maxLen)(hc:Tr.count n≤1000000):
  Calls Tryz.prog 18 #[.agg #[.int .i64 n.kind,.string ⟨n.text.toArray⟩,.int .i64 n.ai,sl]] w fun e w'=>e=.returned (.bool (Tr.valid n))∧ag w w':=by
 have HR:=I hr;have HV:=I (show Tr.valid n=((n.kind==1)&&Tr.form n&&decide (Tr.count n≤1000)&&decide (Tr.depth n≤24))from rfl);have HT:=I ht;have HC:=I hc;clear hr ht hc;go_enter Tryz.func18,Tryz.ntmps18;cases h1:(n.kind==(1:Int))with
 |false=>
  have xS:(n.kind !=(1:Int))=true:=by rw[bne,h1];rfl
  go_wp2
  go_ret;exact⟨af _ _ (by rw[HV.J,show(n.kind==1)=false from by assumption];simp),bf⟩
 |true=>
  have xS:(n.kind !=(1:Int))=false:=by rw[bne,h1];rfl
  go_wp2_with fail
  refine Calls.mono (Y2 _ n sl _ (Nat.le_refl _) HC.J (HR.J.fresh bf) HT.J) ?_;rintro _ w1 ⟨rfl,nO⟩;have aF:=I (show ag w w1 from qW nO);have qY:O w1 (w.heap.size) 31 #[.int .i64 n.kind,.string (⟨n.text.toArray⟩:ByteArray),.int .i64 n.ai,sl]:=Touch.blk nO (by first|exact yz|assumption|exact uW (by assumption)) (fun h=>h);obtain⟨y7,y8,y9,zb,_⟩:=O.four qY;clear nO;cases h2:(Tr.form n)with
  |false=>
   go_wp2
   go_ret;exact⟨af _ _ (by rw[HV.J,show(n.kind==1)=true from by assumption,show(Tr.form n)=false from by assumption];simp),(lK aF.J)⟩
  |true=>
   go_wp2_with fail
   refine Calls.mono (Vf _ n sl _ (Nat.le_refl _) HC.J (HR.J.fresh (lK aF.J)) HT.J) ?_;rintro _ w2 ⟨rfl,hfw2⟩;have aY:=I (show ag w1 w2 from qW hfw2);have xK:=Touch.blk hfw2 (uW qY) (fun h=>h);clear y7 y8 y9 zb qY;obtain⟨JS,JU,JV,JW,_⟩:=O.four xK;clear hfw2;cases h3:decide ((Tr.count n:Int)≤(1000:Int))with
   |false=>
    go_wp2
    go_ret;exact⟨af _ _ (by rw[HV.J,show(n.kind==1)=true from by assumption,show(Tr.form n)=true from by assumption,show decide (Tr.count n≤1000)=false from by have:=of_decide_eq_false (by assumption:decide ((Tr.count n:Int)≤(1000:Int))=false);simp only[decide_eq_false_iff_not];omega];simp),(lK (aF.J.trans aY.J))⟩
   |true=>
    go_wp2_with fail
    refine Calls.mono (Vg _ n sl _ (Nat.le_refl _) HC.J (HR.J.fresh (lK (aF.J.trans aY.J))) HT.J) ?_;rintro _ w3 ⟨rfl,hfw3⟩;have bC:=I (show ag w2 w3 from qW hfw3);have Ir:=Touch.blk hfw3 (uW xK) (fun h=>h);clear JS JU JV JW xK;obtain⟨QB,QC,QD,QE,_⟩:=O.four Ir;clear hfw3;cases h4:decide ((Tr.depth n:Int)≤(24:Int))with
    |false=>
     go_wp2
     go_ret;exact⟨af _ _ (by rw[HV.J,show(n.kind==1)=true from by assumption,show(Tr.form n)=true from by assumption,show decide (Tr.count n≤1000)=true from by have:=of_decide_eq_true (by assumption:decide ((Tr.count n:Int)≤(1000:Int))=true);simp only[decide_eq_true_eq];omega,show decide (Tr.depth n≤24)=false from by have:=of_decide_eq_false (by assumption:decide ((Tr.depth n:Int)≤(24:Int))=false);simp only[decide_eq_false_iff_not];omega];rfl),(lK (aF.J.trans (aY.J.trans bC.J)))⟩
    |true=>
     go_wp2
     go_ret;exact⟨af _ _ (by rw[HV.J,show(n.kind==1)=true from by assumption,show(Tr.form n)=true from by assumption,show decide (Tr.count n≤1000)=true from by have:=of_decide_eq_true (by assumption:decide ((Tr.count n:Int)≤(1000:Int))=true);simp only[decide_eq_true_eq];omega,show decide (Tr.depth n≤24)=true from by have:=of_decide_eq_true (by assumption:decide ((Tr.depth n:Int)≤(24:Int))=true);simp only[decide_eq_true_eq];omega];rfl),(lK (aF.J.trans (aY.J.trans bC.J)))⟩
end
end Go.Proofs.YtnbeemkfmlfgfaaGreatDoor
