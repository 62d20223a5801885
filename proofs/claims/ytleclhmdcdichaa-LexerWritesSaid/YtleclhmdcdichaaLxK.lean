/- The walk of the lexer's classes. -/
import Derived.Test.YtleclhmdcdichaaLxA
namespace Go.Proofs.Ytleclhmdcdichaa
open Go.RowKit

/-- A table behind the marking of the bytes of a text with a class. -/
def marked (l : List UInt8) (c : Int) (cs : Array Value) : Array Value := l.foldl (fun t b => t.setIfInBounds b.toNat (.int .u8 c)) cs
theorem marked_size (l : List UInt8) (c : Int) : ∀ cs : Array Value, (marked l c cs).size = cs.size := by
  induction l with
  | nil => intro cs; rfl
  | cons b l ih => intro cs; unfold marked at ih ⊢; rw [List.foldl_cons, ih]; simp
theorem marked_snoc (l : List UInt8) (b : UInt8) (c : Int) (cs : Array Value) : marked (l ++ [b]) c cs = (marked l c cs).setIfInBounds b.toNat (.int .u8 c) := by simp [marked]

set_option maxHeartbeats 400000 in
theorem mark_any (s : ByteArray) (c : Int) (g : Nat) (cs : Array Value) (w : World) (hb : Blk w g 42 cs) (hs : cs.size = 256) (hm : s.size ≤ 1000) :
    Calls Try.prog 22 #[.string s, .int .u8 c, .pointer (some ⟨g, 0, none⟩)] w fun e w' => e = .returned (.tuple #[]) ∧ Blk w' g 42 (marked s.data.toList c cs) ∧ Touch (· = g) w w' := by
  have HB := hid hb
  have HS := hid hs
  clear hb hs
  go_enter Try.func22, Try.ntmps22
  go_wp2
  go_loopw [5] (fun i wr => ∃ k : Nat, i = .int .i64 k ∧ k ≤ s.size ∧ Hid (Blk wr g 42 (marked (s.data.toList.take k) c cs)) ∧ Hid (Touch (· = g) w wr)) (fun i _ => s.size - (intOf i).toNat)
  case atStart => exact ⟨0, rfl, Nat.zero_le _, (by have := HB.out; simpa [marked, Hid] using this), Touch.refl _ _⟩
  case round =>
    obtain ⟨k, rfl, hk, HK, HT⟩ := hrel
    by_cases hlt : k < s.size
    · have b1 : decide ((k : Int) < (s.size : Int)) = true := by simp; omega
      have b2 : (k : Int) < (s.size : Int) := by omega
      have b3 : (0 : Int) ≤ (k : Int) := by omega
      have b4 : ((s[k]'hlt).toNat : Int) < 256 := by have := (s[k]'hlt).toNat_lt; omega
      have hsz : (marked (s.data.toList.take k) c cs).size = 256 := (marked_size _ _ _).trans HS.out
      obtain ⟨u, hu⟩ : ∃ u, wr.cell? ⟨g, (s[k]'hlt).toNat, none⟩ = some u := by
        rw [HK.out.cell]
        exact ⟨_, Array.getElem?_eq_getElem (by rw [hsz]; exact (s[k]'hlt).toNat_lt)⟩
      have hf : wr.frozen? ⟨g, (s[k]'hlt).toNat, none⟩ = false := HK.out.frozen _
      have hn : Blk (wr.setCell ⟨g, (s[k]'hlt).toNat, none⟩ (.int .u8 c)) g 42 (marked (s.data.toList.take (k + 1)) c cs) := by
        have hg : s.data.toList.take (k + 1) = s.data.toList.take k ++ [s[k]'hlt] := by
          rw [List.take_succ_eq_append_getElem (by simpa using hlt)]; rfl
        rw [hg, marked_snoc]
        exact HK.out.put _ _
      have HN := hid hn
      clear hn hsz
      go_wp2
      go_roundw
      case rel => exact ⟨k + 1, by go_num, hlt, HN, HT.out.setCell (p := ⟨g, (s[k]'hlt).toNat, none⟩) (.inl rfl) _⟩
      case measure => simp [intOf]; omega
    · have b1 : decide ((k : Int) < (s.size : Int)) = false := by simp; omega
      go_wp2
      go_end0
      refine ⟨rfl, ?_, HT.out⟩
      have := HK.out
      rwa [List.take_of_length_le (by simp; omega)] at this

/-- The table that classes starts with, and the one that it hands back. -/
def zero256 : Array Value := Array.replicate 256 (.int .u8 0)
def tbl1 : Array Value := marked [32, 9, 10] 1 zero256
def tbl2 : Array Value := marked [48, 49, 50, 51, 52, 53, 54, 55, 56, 57] 2 tbl1
def letterBytes : List UInt8 := [97, 98, 99, 100, 101, 102, 103, 104, 105, 106, 107, 108, 109, 110, 111, 112, 113, 114, 115, 116, 117, 118, 119, 120, 121, 122, 65, 66, 67, 68, 69, 70, 71, 72, 73, 74, 75, 76, 77, 78, 79, 80, 81, 82, 83, 84, 85, 86, 87, 88, 89, 90]
def tbl3 : Array Value := marked letterBytes 3 tbl2
def tbl4 : Array Value := marked [43, 45, 42, 47, 61, 60, 62, 44, 59, 58, 33, 124, 39, 63, 126, 64] 4 tbl3
def tbl5 : Array Value := marked [123, 125, 40, 41, 91, 93, 94, 95, 38] 5 tbl4
def clsTable : Array Value := Array.ofFn (n := 256) fun i => Value.int .u8 (Lx.cls i.1 : Nat)
theorem tbl5_eq : tbl5 = clsTable := by kernel_rfl
theorem tbl1_size : tbl1.size = 256 := by simp [tbl1, marked_size, zero256]
theorem tbl2_size : tbl2.size = 256 := (marked_size _ _ _).trans tbl1_size
theorem tbl3_size : tbl3.size = 256 := (marked_size _ _ _).trans tbl2_size
theorem tbl4_size : tbl4.size = 256 := (marked_size _ _ _).trans tbl3_size
theorem tbl5_size : tbl5.size = 256 := (marked_size _ _ _).trans tbl4_size
theorem infoClass : (Try.prog.info? 42).map (·.size) = some 256 := by kernel_rfl
theorem tbl5_one : tbl5.all (·.oneCell') = true := by rw [tbl5_eq]; kernel_rfl
theorem zeroClass (w : World) : (zeroValue 42).run Try.prog w = .ok (.agg zero256) w := by kernel_rfl

set_option maxHeartbeats 400000 in
theorem classes_any (w : World) :
    Calls Try.prog 16 #[] w fun e w' => e = .returned (.agg clsTable) ∧ Fresh w w' := by
  have hz := zeroClass
  go_enter Try.func16, Try.ntmps16
  go_wp2_with fail
  refine (mark_any _ 1 _ zero256 _ (Blk.new2 _ _ _ _) (by simp [zero256]) (by decide)).mono ?_
  rintro e1 w1 ⟨rfl, hb1, ht1⟩
  have hb1' : Blk w1 (w.heap.size + 1) 42 tbl1 := hb1
  have hr1 : Blk w1 w.heap.size 42 zero256 := ht1.blk ((Blk.new w _ _).alloc _) (by omega)
  have hf1 : Fresh w w1 := (((Touch.refl (fun _ => False) w).alloc _).alloc _).trans' ht1 (fun i hi => .inr (by omega))
  have HB1 := hid hb1'
  have HR1 := hid hr1
  have HF1 := hid hf1
  clear hb1 hb1' hr1 hf1 ht1
  go_wp2_with fail
  refine (mark_any _ 2 _ tbl1 _ HB1.out tbl1_size (by decide)).mono ?_
  rintro e2 w2 ⟨rfl, hb1, ht1⟩
  have hb1' : Blk w2 (w.heap.size + 1) 42 tbl2 := hb1
  have hr1 : Blk w2 w.heap.size 42 zero256 := ht1.blk HR1.out (by omega)
  have hf1 : Fresh w w2 := HF1.out.trans' ht1 (fun i hi => .inr (by omega))
  have HB2 := hid hb1'
  have HR2 := hid hr1
  have HF2 := hid hf1
  clear hb1 hb1' hr1 hf1 ht1
  go_wp2_with fail
  refine (mark_any _ 3 _ tbl2 _ HB2.out tbl2_size (by decide)).mono ?_
  rintro e3 w3 ⟨rfl, hb1, ht1⟩
  have hb1' : Blk w3 (w.heap.size + 1) 42 tbl3 := hb1
  have hr1 : Blk w3 w.heap.size 42 zero256 := ht1.blk HR2.out (by omega)
  have hf1 : Fresh w w3 := HF2.out.trans' ht1 (fun i hi => .inr (by omega))
  have HB3 := hid hb1'
  have HR3 := hid hr1
  have HF3 := hid hf1
  clear hb1 hb1' hr1 hf1 ht1
  go_wp2_with fail
  refine (mark_any _ 4 _ tbl3 _ HB3.out tbl3_size (by decide)).mono ?_
  rintro e4 w4 ⟨rfl, hb1, ht1⟩
  have hb1' : Blk w4 (w.heap.size + 1) 42 tbl4 := hb1
  have hr1 : Blk w4 w.heap.size 42 zero256 := ht1.blk HR3.out (by omega)
  have hf1 : Fresh w w4 := HF3.out.trans' ht1 (fun i hi => .inr (by omega))
  have HB4 := hid hb1'
  have HR4 := hid hr1
  have HF4 := hid hf1
  clear hb1 hb1' hr1 hf1 ht1
  go_wp2_with fail
  refine (mark_any _ 5 _ tbl4 _ HB4.out tbl4_size (by decide)).mono ?_
  rintro e5 w5 ⟨rfl, hb1, ht1⟩
  have hb1' : Blk w5 (w.heap.size + 1) 42 tbl5 := hb1
  have hr1 : Blk w5 w.heap.size 42 zero256 := ht1.blk HR4.out (by omega)
  have hf1 : Fresh w w5 := HF4.out.trans' ht1 (fun i hi => .inr (by omega))
  have HB5 := hid hb1'
  have HR5 := hid hr1
  have HF5 := hid hf1
  clear hb1 hb1' hr1 hf1 ht1
  go_wp2_with (first
      | (refine wpList_load_row rfl 42 _ rfl (w.heap.size + 1) rfl 42 tbl5 (0, 0) _ HB5.out Try.underlying42 rfl (infoClass.trans (by rw [tbl5_size])) ?_)
      | (refine wpList_store_row rfl 42 _ _ rfl w.heap.size tbl5 rfl rfl 42 zero256 HR5.out (infoClass.trans (by rw [tbl5_size])) (by rw [tbl5_size]; simp [zero256]) tbl5_one ?_))
  refine bodyPost_ret (results_cell_row (fn := Try.f16) (p := 0) rfl _ _ w.heap.size 42 tbl5 (0, 0) _ rfl (setRow_heap _ _ _ _ _ _ HR5.out) Try.underlying42 rfl (infoClass.trans (by rw [tbl5_size]))) rfl ?_
  exact ⟨by rw [tbl5_eq], HF5.out.setRow (.inr (Nat.le_refl _)) _⟩
end Go.Proofs.Ytleclhmdcdichaa
