/- Part 10 of 41 of a proof. No condition. -/
import Derived.Test.YtabjglnjjdcfmaaGreatDoorWe5
set_option maxRecDepth 100000
set_option maxHeartbeats 1000000
namespace Go.Proofs.YtabjglnjjdcfmaaGreatDoor
open _root_.Go.Proofs.Tryz
section
open Go.RowKit
attribute [local go_sem] Oper.semAt_some
def sV:Array Value:=#[.nilFunc,.nilFunc,.func (.func 58) #[] #[],.func (.func 59) #[] #[],.func (.func 60) #[] #[],.func (.func 61) #[] #[],.func (.func 62) #[] #[],.func (.func 63) #[] #[],.func (.func 63) #[] #[],.func (.func 63) #[] #[],.func (.func 64) #[] #[],.func (.func 65) #[] #[],.func (.func 66) #[] #[]]
def Lv:Array Value:=#[.nilFunc,.nilFunc,.nilFunc,.nilFunc,.nilFunc,.nilFunc,.nilFunc,.nilFunc,.nilFunc,.nilFunc,.nilFunc,.nilFunc,.nilFunc]
theorem M5(w:W_):(zeroValue 99).run Tryz.prog w=.ok (.agg Lv) w:=Pg
theorem Q7:Tryz.prog.built 99 [(2,.func (.func 58) #[] #[]),(3,.func (.func 59) #[] #[]),(4,.func (.func 60) #[] #[]),(5,.func (.func 61) #[] #[]),(6,.func (.func 62) #[] #[]),(7,.func (.func 63) #[] #[]),(8,.func (.func 63) #[] #[]),(9,.func (.func 63) #[] #[]),(10,.func (.func 64) #[] #[]),(11,.func (.func 65) #[] #[]),(12,.func (.func 66) #[] #[])]=some sV:=Pg
theorem LA:(Tryz.prog.info? 99).map (·.size)=some 13:=Pg
theorem M6:sV.all (·.oneCell')=true:=Pg
theorem Q8(w:W_):
  C_ 32 #[] w λe w'=>e=.returned (.agg sV)/\ag w w':=by
 have hz:=M5;go_enter func32,ntmps32
 go_wp2_with (first
  |(refine cK _ Q7 _ rfl rfl rfl (.agg sV) rfl ?_)
  |(refine wpList_store_row rfl 99 _ _ rfl w.heap.size sV rfl rfl 99 Lv aqP LA rfl M6 ?_))
 refine bodyPost_ret (results_cell_row (fn:=Tryz.f32) (p:=0) rfl _ _ w.heap.size 99 sV (0,0) _ rfl (setRow_heap _ _ _ _ _ _ aqP) underlying99 rfl LA) rfl ?_;exact⟨rfl,((M _ w).alloc _).setRow ET _⟩
end
end Go.Proofs.YtabjglnjjdcfmaaGreatDoor
