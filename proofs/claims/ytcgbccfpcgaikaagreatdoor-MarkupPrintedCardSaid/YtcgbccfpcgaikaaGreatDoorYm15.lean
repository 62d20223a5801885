/- Part 15 of 46 of a proof. No condition. -/
import Derived.Test.YtcgbccfpcgaikaaGreatDoorYm7
set_option maxRecDepth 100000
set_option maxHeartbeats 1000000
namespace Go.Proofs.YtcgbccfpcgaikaaGreatDoor
section
open Go.RowKit
attribute [local go_sem] Oper.semAt_some
def sV:Array Value:=#[.nilFunc,.nilFunc,.func (.func 55) #[] #[],.func (.func 56) #[] #[],.func (.func 57) #[] #[],.func (.func 58) #[] #[],.func (.func 59) #[] #[],.func (.func 60) #[] #[],.func (.func 60) #[] #[],.func (.func 60) #[] #[],.func (.func 61) #[] #[],.func (.func 62) #[] #[],.func (.func 63) #[] #[]]
def Lv:Array Value:=#[.nilFunc,.nilFunc,.nilFunc,.nilFunc,.nilFunc,.nilFunc,.nilFunc,.nilFunc,.nilFunc,.nilFunc,.nilFunc,.nilFunc,.nilFunc]
theorem M5(w:World):(zeroValue 74).run Tryz.prog w=.ok (.agg Lv) w:=by kernel_rfl
theorem Q7:Tryz.prog.built 74 [(2,.func (.func 55) #[] #[]),(3,.func (.func 56) #[] #[]),(4,.func (.func 57) #[] #[]),(5,.func (.func 58) #[] #[]),(6,.func (.func 59) #[] #[]),(7,.func (.func 60) #[] #[]),(8,.func (.func 60) #[] #[]),(9,.func (.func 60) #[] #[]),(10,.func (.func 61) #[] #[]),(11,.func (.func 62) #[] #[]),(12,.func (.func 63) #[] #[])]=some sV:=by kernel_rfl
theorem LA:(Tryz.prog.info? 74).map (·.size)=some 13:=by kernel_rfl
theorem M6:sV.all (·.oneCell')=true:=by kernel_rfl
theorem Q8(w:World):
  Calls Tryz.prog 29 #[] w fun e w'=>e=.returned (.agg sV)∧ag w w':=by
 have hz:=M5;go_enter Tryz.func29,Tryz.ntmps29
 go_wp2_with (first
  |(refine cK _ Q7 _ rfl rfl rfl (.agg sV) rfl ?_)
  |(refine wpList_store_row rfl 74 _ _ rfl w.heap.size sV rfl rfl 74 Lv (af.new _ _ _) LA rfl M6 ?_))
 refine bodyPost_ret (results_cell_row (fn:=Tryz.f29) (p:=0) rfl _ _ w.heap.size 74 sV (0,0) _ rfl (setRow_heap _ _ _ _ _ _ (af.new _ _ _)) Tryz.underlying74 rfl LA) rfl ?_;exact⟨rfl,((M _ w).alloc _).setRow (.inr (Nat.le_refl _)) _⟩
end
end Go.Proofs.YtcgbccfpcgaikaaGreatDoor
