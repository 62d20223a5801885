/- Part 44 of 48 of a proof; its texts, joined: NwA, NwB. No condition. -/
import Derived.Test.YtncnoeoicaglaaaGreatVc19
import Derived.Test.YtncnoeoicaglaaaGreatVc6
import Derived.Test.YtncnoeoicaglaaaGreatVc25
import Derived.Test.YtncnoeoicaglaaaGreatVc10

/- The walks of the reference lexer's char, in, digits, letters and long. -/
namespace Go.Proofs.YtncnoeoicaglaaaGreat
open Go.RowKit
def cb (l : List UInt8) (i : Nat) : UInt8 := (l[i]?).getD 0
theorem cb_lt (l : List UInt8) (i : Nat) (h : i < l.length) : cb l i = l[i] := by unfold cb; rw [List.getElem?_eq_getElem h]; rfl
theorem cb_ge (l : List UInt8) (i : Nat) (h : l.length ≤ i) : cb l i = 0 := by unfold cb; rw [List.getElem?_eq_none h]; rfl
theorem run_step (k : Nat) (l : List UInt8) (j : Nat) (hk : Lx.isB k 0 = false) (h : Lx.isB k (cb l j) = true) : j < l.length ∧ Lx.runLen k (l.drop j) = 1 + Lx.runLen k (l.drop (j + 1)) := by
 rcases Nat.lt_or_ge j l.length with hj | hj
 ·refine ⟨hj, ?_⟩
  rw [cb_lt l j hj] at h
  unfold Lx.runLen
  rw [List.drop_eq_getElem_cons hj, List.takeWhile_cons, if_pos h, List.length_cons, Nat.add_comm]
 ·rw [cb_ge l j hj, hk] at h; cases h
theorem run_stop (k : Nat) (l : List UInt8) (j : Nat) (h : Lx.isB k (cb l j) = false) : Lx.runLen k (l.drop j) = 0 := by
 unfold Lx.runLen
 rcases Nat.lt_or_ge j l.length with hj | hj
 ·rw [cb_lt l j hj] at h
  rw [List.drop_eq_getElem_cons hj, List.takeWhile_cons, if_neg (by rw [h]; decide)]
  rfl
 ·rw [List.drop_eq_nil_of_le hj]; rfl
theorem digit_cb (b : UInt8) : Tr.digit b = Lx.isB 2 b := Tr.digit_isB b
theorem letter_cb (b : UInt8) : Tr.letter b = Lx.isB 3 b := Tr.letter_isB b
theorem char18_any (s : ByteArray) (i : Nat) (w : World) (_hm : s.size ≤ 1000000000) (_hi : i ≤ 1000000002) :
  Calls Tryz.prog 49 #[.string s, .int .i64 (i : Int)] w fun e w' => e = .returned (.int .u8 ((cb s.data.toList i).toNat : Int)) ∧ w' = w := by
 have hll : s.data.toList.length = s.size := by simp
 by_cases c1 : i < s.size
 ·have d1 : decide ((i : Int) < (s.size : Int)) = true := by simp; omega
  have d1' : (i : Int) < (s.size : Int) := by omega
  have hc : cb s.data.toList i = s[i]'c1 := cb_lt _ _ (by rw [hll]; exact c1)
  have HC := hid hc
  clear hc hll
  go_enter Tryz.func49, Tryz.ntmps49
  go_wp2_with fail
  go_ret
  exact ⟨by rw [HC.out]; rfl, rfl⟩
 ·have d1 : decide ((i : Int) < (s.size : Int)) = false := by simp; omega
  have hc : cb s.data.toList i = 0 := cb_ge _ _ (by rw [hll]; omega)
  have HC := hid hc
  clear hc hll
  go_enter Tryz.func49, Tryz.ntmps49
  go_wp2_with fail
  go_ret
  exact ⟨by rw [HC.out]; rfl, rfl⟩
theorem char18_at (s : ByteArray) (x : Int) (i : Nat) (w : World) (hm : s.size ≤ 1000000000) (hx : x = (i : Int)) (hi : i ≤ 1000000002) :
  Calls Tryz.prog 49 #[.string s, .int .i64 x] w fun e w' => e = .returned (.int .u8 ((cb s.data.toList i).toNat : Int)) ∧ w' = w := by
 subst hx; exact char18_any s i w hm hi
set_option maxHeartbeats 400000 in
theorem in18_any (s : ByteArray) (c : UInt8) (w : World) (hm : s.size ≤ 9223372036854775807) :
  Calls Tryz.prog 50 #[.string s, .int .u8 (c.toNat : Int)] w fun e w' => e = .returned (.bool (s.data.toList.contains c)) ∧ w' = w := by
 rw [has_not]
 go_enter Tryz.func50, Tryz.ntmps50
 go_wp2_with fail
 go_loopw [5] (fun i wr => ∃ j : Nat, i = .int .i64 j ∧ j ≤ s.size ∧ Hid ((s.data.toList.take j).all (notB c) = true) ∧ wr = w) (fun i _ => s.size - (intOf i).toNat)
 case atStart => exact ⟨0, rfl, Nat.zero_le _, by simp [Hid], rfl⟩
 case round =>
  obtain ⟨j, rfl, hj, HA, rfl⟩ := hrel
  by_cases c1 : j < s.size
  ·have d1 : decide ((j : Int) < (s.size : Int)) = true := by simp; omega
   have d1' : (j : Int) < (s.size : Int) := by omega
   obtain ⟨b, hb⟩ : ∃ b, s[j]'c1 = b := ⟨_, rfl⟩
   have hst := all_snoc' s.data.toList j (by simpa using c1) (notB c)
   have hno := all_no s.data.toList j (by simpa using c1) (notB c)
   have hbl : s.data.toList[j]'(by simpa using c1) = b := hb
   rw [hbl] at hst hno
   have HS := hid hst
   have HN := hid hno
   clear hst hno hbl
   cases h11 : ((b.toNat : Int) == (c.toNat : Int)) with
   | false =>
    have h11m : ((b.toNat : Int) != (c.toNat : Int)) = true := by rw [bne, h11]; rfl
    go_wp2_with fail
    go_roundw
    case rel => exact ⟨j + 1, by go_num, c1, by unfold Hid; rw [HS.out, HA.out]; rw [notB_int]; simp only [*] <;> rfl, trivial⟩
    case measure => simp [intOf]; omega
   | true =>
    have h11m : ((b.toNat : Int) != (c.toNat : Int)) = false := by rw [bne, h11]; rfl
    go_wp2_with fail
    go_ret
    exact ⟨by rw [HN.out (by rw [notB_int]; simp only [*] <;> rfl)]; rfl, rfl⟩
  ·have d1 : decide ((j : Int) < (s.size : Int)) = false := by simp; omega
   go_wp2_with fail
   go_ret
   exact ⟨by rw [all_end s (notB c) j hj c1 HA.out]; rfl, rfl⟩
set_option maxHeartbeats 400000 in
theorem digits18_any (s : ByteArray) (i : Nat) (w : World) (hm : s.size ≤ 1000000000) (hi : i ≤ s.size) :
  Calls Tryz.prog 48 #[.string s, .int .i64 (i : Int)] w fun e w' => e = .returned (.int .i64 ((i + Lx.runLen 2 (s.data.toList.drop i) : Nat) : Int)) ∧ w' = w := by
 have hll : s.data.toList.length = s.size := by simp
 have HLL := hid hll
 clear hll
 go_enter Tryz.func48, Tryz.ntmps48
 go_wp2_with fail
 go_loopw [1] (fun x wr => ∃ j : Nat, x = .int .i64 (j : Int) ∧ j ≤ s.size ∧ Hid (j + Lx.runLen 2 (s.data.toList.drop j) = i + Lx.runLen 2 (s.data.toList.drop i)) ∧ wr = w) (fun x _ => s.size - (intOf x).toNat)
 case atStart => exact ⟨i, rfl, hi, rfl, rfl⟩
 case round =>
  obtain ⟨j, rfl, hj, HJ, rfl⟩ := hrel
  go_wp2_with fail
  refine Calls.mono (char18_any s j _ hm (by omega)) ?_
  rintro _ _ ⟨rfl, rfl⟩
  go_wp2_with fail
  refine Calls.mono (digit_byte (cb s.data.toList j) _) ?_
  rintro _ _ ⟨rfl, rfl⟩
  cases hb : Tr.digit (cb s.data.toList j) with
  | true =>
   obtain ⟨h1, h2⟩ := run_step 2 s.data.toList j (by decide) (by rw [← digit_cb]; exact hb)
   rw [HLL.out] at h1
   have H2 := hid h2
   clear hb h2
   go_wp2_with fail
   go_roundw
   case rel => exact ⟨j + 1, by go_num, by omega, by have := HJ.out; have := H2.out; show _ = _; omega, trivial⟩
   case measure => simp [intOf]; omega
  | false =>
   have h2 := run_stop 2 s.data.toList j (by rw [← digit_cb]; exact hb)
   have H2 := hid h2
   clear hb h2
   go_wp2_with fail
   go_ret
   exact ⟨by have h := HJ.out; rw [H2.out, Nat.add_zero] at h; rw [← h]; rfl, rfl⟩
set_option maxHeartbeats 400000 in
theorem letters18_any (s : ByteArray) (i : Nat) (w : World) (hm : s.size ≤ 1000000000) (hi : i ≤ s.size) :
  Calls Tryz.prog 83 #[.string s, .int .i64 (i : Int)] w fun e w' => e = .returned (.int .i64 ((i + Lx.runLen 3 (s.data.toList.drop i) : Nat) : Int)) ∧ w' = w := by
 have hll : s.data.toList.length = s.size := by simp
 have HLL := hid hll
 clear hll
 go_enter Tryz.func83, Tryz.ntmps83
 go_wp2_with fail
 go_loopw [1] (fun x wr => ∃ j : Nat, x = .int .i64 (j : Int) ∧ j ≤ s.size ∧ Hid (j + Lx.runLen 3 (s.data.toList.drop j) = i + Lx.runLen 3 (s.data.toList.drop i)) ∧ wr = w) (fun x _ => s.size - (intOf x).toNat)
 case atStart => exact ⟨i, rfl, hi, rfl, rfl⟩
 case round =>
  obtain ⟨j, rfl, hj, HJ, rfl⟩ := hrel
  go_wp2_with fail
  refine Calls.mono (char18_any s j _ hm (by omega)) ?_
  rintro _ _ ⟨rfl, rfl⟩
  go_wp2_with fail
  refine Calls.mono (letter_byte (cb s.data.toList j) _) ?_
  rintro _ _ ⟨rfl, rfl⟩
  cases hb : Tr.letter (cb s.data.toList j) with
  | true =>
   obtain ⟨h1, h2⟩ := run_step 3 s.data.toList j (by decide) (by rw [← letter_cb]; exact hb)
   rw [HLL.out] at h1
   have H2 := hid h2
   clear hb h2
   go_wp2_with fail
   go_roundw
   case rel => exact ⟨j + 1, by go_num, by omega, by have := HJ.out; have := H2.out; show _ = _; omega, trivial⟩
   case measure => simp [intOf]; omega
  | false =>
   have h2 := run_stop 3 s.data.toList j (by rw [← letter_cb]; exact hb)
   have H2 := hid h2
   clear hb h2
   go_wp2_with fail
   go_ret
   exact ⟨by have h := HJ.out; rw [H2.out, Nat.add_zero] at h; rw [← h]; rfl, rfl⟩
set_option maxHeartbeats 400000 in
theorem long18_any (t : Lx.PTok) (w : World) :
  Calls Tryz.prog 22 #[.agg #[.int .i64 t.kind, .string ⟨t.text.toArray⟩, .int .i64 t.from_, .int .i64 t.to_]] w fun e w' => e = .returned (.bool (Lx.long ⟨t.kind, t.text⟩)) ∧ Fresh w w' := by
 have HL := hid (show Lx.long ⟨t.kind, t.text⟩ = if t.kind = 4 then decide (16 < t.text.length) else if t.kind = 2 then decide (20 < t.text.length) else if t.kind = 3 then decide (200 < t.text.length) else false from rfl)
 have hd : ∀ m : Nat, decide ((m : Int) < (t.text.length : Int)) = decide (m < t.text.length) := fun m => by rw [Bool.eq_iff_iff]; simp
 have h16 := hd 16
 have h20 := hd 20
 have h200 := hd 200
 clear hd
 by_cases k4 : t.kind = 4
 ·have HR := hid (show Lx.long ⟨t.kind, t.text⟩ = decide (16 < t.text.length) by rw [HL.out, if_pos k4])
  have b4 : ((t.kind : Int) == 4) = true := by rw [beq_iff_eq]; omega
  clear k4
  go_enter Tryz.func22, Tryz.ntmps22
  go_wp2_with fail
  go_ret
  exact ⟨ret_bool' _ _ (by rw [HR.out, Bool.eq_iff_iff, decide_eq_true_iff, decide_eq_true_iff]; omega), (Touch.refl _ _).alloc _⟩
 have b4 : ((t.kind : Int) == 4) = false := by rw [beq_eq_false_iff_ne]; omega
 by_cases k2 : t.kind = 2
 ·have HR := hid (show Lx.long ⟨t.kind, t.text⟩ = decide (20 < t.text.length) by rw [HL.out, if_neg k4, if_pos k2])
  have b2 : ((t.kind : Int) == 2) = true := by rw [beq_iff_eq]; omega
  clear k4 k2
  go_enter Tryz.func22, Tryz.ntmps22
  go_wp2_with fail
  go_ret
  exact ⟨ret_bool' _ _ (by rw [HR.out, Bool.eq_iff_iff, decide_eq_true_iff, decide_eq_true_iff]; omega), (Touch.refl _ _).alloc _⟩
 have b2 : ((t.kind : Int) == 2) = false := by rw [beq_eq_false_iff_ne]; omega
 by_cases k3 : t.kind = 3
 ·have HR := hid (show Lx.long ⟨t.kind, t.text⟩ = decide (200 < t.text.length) by rw [HL.out, if_neg k4, if_neg k2, if_pos k3])
  have b3 : ((t.kind : Int) == 3) = true := by rw [beq_iff_eq]; omega
  clear k4 k2 k3
  go_enter Tryz.func22, Tryz.ntmps22
  go_wp2_with fail
  go_ret
  exact ⟨ret_bool' _ _ (by rw [HR.out, Bool.eq_iff_iff, decide_eq_true_iff, decide_eq_true_iff]; omega), (Touch.refl _ _).alloc _⟩
 have b3 : ((t.kind : Int) == 3) = false := by rw [beq_eq_false_iff_ne]; omega
 have HR := hid (show Lx.long ⟨t.kind, t.text⟩ = false by rw [HL.out, if_neg k4, if_neg k2, if_neg k3])
 clear k4 k2 k3
 go_enter Tryz.func22, Tryz.ntmps22
 go_wp2_with fail
 go_ret
 exact ⟨ret_bool' _ _ (by rw [HR.out]), (Touch.refl _ _).alloc _⟩
end Go.Proofs.YtncnoeoicaglaaaGreat

/- The walk of the reference lexer's quoted. -/
namespace Go.Proofs.YtncnoeoicaglaaaGreat
open Go.RowKit
def Tok18 (a : Nat) (x : Lx.Res) (e : Ending) : Prop :=
 match x with
 | .ok t n => e = .returned (.tuple #[.agg #[.int .i64 t.kind, .string ⟨t.text.toArray⟩, .int .i64 (a : Int), .int .i64 ((a + n : Nat) : Int)], .int .i64 0, .int .i64 0])
 | .err i er => e = .returned (.tuple #[.agg #[.int .i64 0, .string ⟨#[]⟩, .int .i64 0, .int .i64 0], .int .i64 ((a + i : Nat) : Int), .int .i64 (er : Int)])
structure RT (w : World) (acc : List UInt8) (v : Value) (wr : World) : Prop where
 own : wr.ownsRow (w.heap.size + 1) 5 1 v acc.length (Lib.byteCells acc)
 res : Blk wr w.heap.size 34 #[.int .i64 0, .string ⟨#[]⟩, .int .i64 0, .int .i64 0]
 fresh : Fresh w wr
theorem RT.start (w : World) : RT w [] (.slice none 0 0) (w.alloc (.cells #[.int .i64 0, .string ⟨#[]⟩, .int .i64 0, .int .i64 0] 34)) := ⟨World.ownsRow_nil _ _ _ _, Blk.new _ _ _, (Touch.refl _ _).alloc _⟩
theorem RT.slice {w wr : World} {acc : List UInt8} {v : Value} (h : RT w acc v wr) : ∃ A cap, v = .slice A acc.length cap ∧ (acc ≠ [] → ∃ g, A = some ⟨g, 0, none⟩) ∧ (acc = [] → A = none → cap = 0) := by
 rcases h.own.2 with ⟨rfl, h0⟩ | ⟨g, cap, cur, rfl, _⟩
 ·exact ⟨none, 0, by rw [h0], fun hn => absurd (List.length_eq_zero_iff.1 h0) hn, fun _ _ => rfl⟩
 ·exact ⟨_, _, rfl, fun _ => ⟨g, rfl⟩, fun _ h => by cases h⟩
theorem RT.next (c : UInt8) {w wr w' : World} {acc : List UInt8} {v v' : Value} {o : Obj} (h : RT w acc v wr) (hown : w'.ownsRow (w.heap.size + 1) 5 1 v' (acc.length + 1) (Lib.byteCells acc ++ [.int .u8 c.toNat]))
  (hg : (wr.alloc o).grownBy w' v.ownBlock) : RT w (acc ++ [c]) v' w' := by
 refine ⟨?_, ?_, ?_⟩
 ·rw [byteCells_snoc, List.length_append]; exact hown
 ·exact (hg.block _ (h.res.alloc o).lt fun hk => by have := ((h.own.alloc o).lt _ hk.symm).1; omega).trans (h.res.alloc o)
 ·exact (h.fresh.alloc o).grown hg fun g hk => .inr (by have := ((h.own.alloc o).lt g hk).1; omega)
theorem RT.base {w wr : World} {acc : List UInt8} {v : Value} (h : RT w acc v wr) : w.heap.size + 1 ≤ wr.heap.size := h.res.lt
theorem quoP_end (l acc : List UInt8) (j k : Nat) (h : l.length ≤ j) : Lx.quoP (l.drop j) acc k = .err 0 12 := by rw [List.drop_eq_nil_of_le h]; rfl
theorem quoP_cons (l acc : List UInt8) (j k : Nat) (h : j < l.length) : Lx.quoP (l.drop j) acc k =
  if l[j] = 34 then .ok ⟨3, acc⟩ (k + 1)
  else if l[j] < 32 ∨ 126 < l[j] then .err k 3
  else if l[j] = 92 then (if cb l (j + 1) = 34 ∨ cb l (j + 1) = 92 then Lx.quoP (l.drop (j + 2)) (acc ++ [cb l (j + 1)]) (k + 2) else .err k 3)
  else Lx.quoP (l.drop (j + 1)) (acc ++ [l[j]]) (k + 1) := by
 rw [List.drop_eq_getElem_cons h, Lx.quoP.eq_def]
 simp only
 rcases Nat.lt_or_ge (j + 1) l.length with h1 | h1
 ·rw [List.drop_eq_getElem_cons h1, cb_lt l (j + 1) h1]
 ·rw [List.drop_eq_nil_of_le h1, cb_ge l (j + 1) h1]
  simp
theorem u8_lt_of (x y : UInt8) : decide ((x.toNat : Int) < (y.toNat : Int)) = decide (x < y) := by
 rw [Bool.eq_iff_iff, decide_eq_true_iff, decide_eq_true_iff, UInt8.lt_iff_toNat_lt]
 omega
theorem rt_text {w wr : World} {acc : List UInt8} {v : Value} (h : RT w acc v wr) : (convert 22 9 v).run Tryz.prog wr = .ok (.string ⟨acc.toArray⟩) wr := by
 rcases h.own.2 with ⟨rfl, h0⟩ | ⟨g, cap, cur, rfl, _⟩
 ·have := List.length_eq_zero_iff.1 h0
  subst this
  rw [run_convert_bytes_string wr 22 9 5 none 0 0 Tryz.underlying22 Tryz.underlying5 Tryz.underlying9]
  rfl
 ·refine run_convert_bytes_back wr 22 9 5 ⟨g, 0, none⟩ cap acc Tryz.underlying22 Tryz.underlying5 Tryz.underlying9 ?_
  intro j hj
  exact h.own.cells rfl j _ (by unfold Lib.byteCells; rw [List.getElem?_map, List.getElem?_eq_getElem hj]; rfl)
set_option maxRecDepth 100000 in
set_option maxHeartbeats 3000000 in
theorem quoted18_any (s : ByteArray) (a : Nat) (w : World) (hm : s.size ≤ 1000000000) (ha : a < s.size) :
  Calls Tryz.prog 51 #[.string s, .int .i64 (a : Int)] w fun e w' => Tok18 a (Lx.quoP (s.data.toList.drop (a + 1)) [] 1) e ∧ Fresh w w' := by
 obtain ⟨i0, hi, hz0, hz1, hz2⟩ := info_parts infoU8
 have hll : s.data.toList.length = s.size := by simp
 have HLL := hid hll
 clear hll
 have HCH := hid (fun (x : Int) (i : Nat) (w : World) (hx : x = (i : Int)) (hi : i ≤ 1000000002) => char18_at s x i w hm hx hi)
 go_enter Tryz.func51, Tryz.ntmps51
 go_wp2_with fail
 have HS0 := hid (RT.start w)
 go_loopw [7, 8] (fun x i wr => ∃ (j : Nat) (acc : List UInt8), i = .int .i64 (j : Int) ∧ a + 1 ≤ j ∧ j ≤ s.size ∧ acc.length < j ∧ Hid (Lx.quoP (s.data.toList.drop j) acc (j - a) = Lx.quoP (s.data.toList.drop (a + 1)) [] 1) ∧ Hid (RT w acc x wr)) (fun _ i _ => s.size - (intOf i).toNat)
 case atStart => exact ⟨a + 1, [], by go_num, Nat.le_refl _, by omega, by simp, by rw [show a + 1 - a = 1 by omega]; rfl, HS0⟩
 case round =>
  obtain ⟨j, acc, rfl, hk1, hk, hac, HQ, HR⟩ := hrel
  clear HS0
  obtain ⟨A, cap, rfl, hA, hB⟩ := HR.out.slice
  by_cases c1 : j < s.size
  ·have d1 : decide ((j : Int) < (s.size : Int)) = true := by simp only [decide_eq_true_eq]; omega
   have d1' : (j : Int) < (s.size : Int) := by omega
   have d1n : decide (j < s.size) = true := by simp only [decide_eq_true_eq]; omega
   have hq := quoP_cons s.data.toList acc j (j - a) (by rw [HLL.out]; exact c1)
   have hsl : s.data.toList[j]'(by rw [HLL.out]; exact c1) = s[j]'c1 := rfl
   rw [hsl] at hq
   obtain ⟨c, hc⟩ : ∃ c, s[j]'c1 = c := ⟨_, rfl⟩
   rw [hc] at hq
   clear hsl
   by_cases c2 : c = 34
   ·have b2 : ((c.toNat : Int) == 34) = true := u8_eq_of c 34 c2
    have HE := hid (show Lx.quoP (s.data.toList.drop (a + 1)) [] 1 = .ok ⟨3, acc⟩ (j - a + 1) by rw [← HQ.out, hq, if_pos c2])
    clear hq c2
    have hconv := rt_text HR.out
    obtain ⟨p0, p1, p2, p3, z0, z1, z2, z3, hlt⟩ := Blk.four HR.out.res
    go_wp2_with fail
    refine bodyPost_ret (v := .tuple #[.agg #[.int .i64 3, .string ⟨acc.toArray⟩, .int .i64 (a : Int), .int .i64 ((j : Int) + 1)], .int .i64 0, .int .i64 0]) (by simp [results, Tryz.results51, go_sem, p0, p1, p2, p3]) rfl ?_
    exact ⟨by rw [HE.out]; unfold Tok18; simp only; rw [show ((a + (j - a + 1) : Nat) : Int) = (j : Int) + 1 by omega]; rfl, Touch.put4 HR.out.fresh (.inr (Nat.le_refl _)) _ _ _ _⟩
   have b2 : ((c.toNat : Int) == 34) = false := u8_ne_of c 34 c2
   rw [if_neg c2] at hq
   by_cases c3 : c < 32
   ·have b3 : decide ((c.toNat : Int) < 32) = true := by have := u8_lt_of c 32; rw [decide_eq_true c3] at this; exact this
    have b3n : decide (c.toNat < 32) = true := by have h := of_decide_eq_true b3; simp only [decide_eq_true_eq]; omega
    have HE := hid (show Lx.quoP (s.data.toList.drop (a + 1)) [] 1 = .err (j - a) 3 by rw [← HQ.out, hq, if_pos (.inl c3)])
    clear hq c2 c3
    obtain ⟨p0, p1, p2, p3, z0, z1, z2, z3, hlt⟩ := Blk.four HR.out.res
    go_wp2_with fail
    refine bodyPost_ret (v := .tuple #[.agg #[.int .i64 0, .string ⟨#[]⟩, .int .i64 0, .int .i64 0], .int .i64 (j : Int), .int .i64 3]) (by simp [results, Tryz.results51, go_sem, p0, p1, p2, p3]) rfl ?_
    exact ⟨by rw [HE.out]; unfold Tok18; simp only; rw [show ((a + (j - a) : Nat) : Int) = (j : Int) by omega]; rfl, Touch.put4 HR.out.fresh (.inr (Nat.le_refl _)) _ _ _ _⟩
   have b3 : decide ((c.toNat : Int) < 32) = false := by have := u8_lt_of c 32; rw [decide_eq_false c3] at this; exact this
   have b3n : decide (c.toNat < 32) = false := by have h := of_decide_eq_false b3; simp only [decide_eq_false_iff_not]; omega
   by_cases c4 : 126 < c
   ·have b4 : decide ((126 : Int) < (c.toNat : Int)) = true := by have := u8_lt_of 126 c; rw [decide_eq_true c4] at this; exact this
    have b4n : decide (126 < c.toNat) = true := by have h := of_decide_eq_true b4; simp only [decide_eq_true_eq]; omega
    have HE := hid (show Lx.quoP (s.data.toList.drop (a + 1)) [] 1 = .err (j - a) 3 by rw [← HQ.out, hq, if_pos (.inr c4)])
    clear hq c2 c3 c4
    obtain ⟨p0, p1, p2, p3, z0, z1, z2, z3, hlt⟩ := Blk.four HR.out.res
    go_wp2_with fail
    refine bodyPost_ret (v := .tuple #[.agg #[.int .i64 0, .string ⟨#[]⟩, .int .i64 0, .int .i64 0], .int .i64 (j : Int), .int .i64 3]) (by simp [results, Tryz.results51, go_sem, p0, p1, p2, p3]) rfl ?_
    exact ⟨by rw [HE.out]; unfold Tok18; simp only; rw [show ((a + (j - a) : Nat) : Int) = (j : Int) by omega]; rfl, Touch.put4 HR.out.fresh (.inr (Nat.le_refl _)) _ _ _ _⟩
   have b4 : decide ((126 : Int) < (c.toNat : Int)) = false := by have := u8_lt_of 126 c; rw [decide_eq_false c4] at this; exact this
   have b4n : decide (126 < c.toNat) = false := by have h := of_decide_eq_false b4; simp only [decide_eq_false_iff_not]; omega
   rw [if_neg (by rintro (h | h) <;> contradiction)] at hq
   by_cases c5 : c = 92
   ·have b5 : ((c.toNat : Int) == 92) = true := u8_eq_of c 92 c5
    rw [if_pos c5] at hq
    clear c2 c3 c4 c5
    obtain ⟨d, hd⟩ : ∃ d, cb s.data.toList (j + 1) = d := ⟨_, rfl⟩
    rw [hd] at hq
    go_wp2_with fail
    refine Calls.mono (HCH.out _ (j + 1) _ (by omega) (by omega)) ?_
    rintro _ _ ⟨rfl, hw5⟩
    replace hw5 := hw5.symm
    subst hw5
    rw [hd]
    by_cases e34 : d = 34
    ·have f1 : ((d.toNat : Int) != 34) = false := u8_nbne_of d 34 e34
     have hdd : d = 34 ∨ d = 92 := .inl e34
     clear e34
     have hin : j + 1 < s.size := by
      rcases Nat.lt_or_ge (j + 1) s.size with h | h
      ·exact h
      ·have h0 := cb_ge s.data.toList (j + 1) (by rw [HLL.out]; exact h)
       rw [hd] at h0
       subst h0
       rcases hdd with h | h <;> exact absurd h (by decide)
     have hdl : s[j + 1]'hin = d := by rw [← hd]; exact (cb_lt _ _ (by rw [HLL.out]; exact hin)).symm
     have g1 : ((j : Int) + 1) < (s.size : Int) := by omega
     have HE := hid (show Lx.quoP (s.data.toList.drop (j + 2)) (acc ++ [d]) (j + 2 - a) = Lx.quoP (s.data.toList.drop (a + 1)) [] 1 by rw [← HQ.out, hq, if_pos hdd, show j - a + 2 = j + 2 - a by omega])
     clear hq hd hdd
     go_wp2_with (at_builtin; refine wpList_append_own _ rfl _ _ 22 rfl (w.heap.size + 1) 5 i0 (.int .u8 0) 1 1 Tryz.underlying22 hi hz0 hz1 hz2 rfl (by decide) _ _ _ rfl (HR.out.own.alloc _) ⟨wr.heap.size, 0, none⟩ 1 1 [.int .u8 ((d).toNat : Int)] rfl rfl ?c1 ?c2 ?c3 ?c4 ?c5 ?_)
     case c1 => exact one_cell _ _
     case c2 => intro u hu; simp at hu; subst hu; rfl
     case c3 => unfold maxLen; omega
     case c4 => omega
     case c5 => have := HR.out.base; simp; omega
     intro v2 w2 hown2 hgrow2 _
     have HN := hid (RT.next (d) HR.out hown2 hgrow2)
     clear hown2 hgrow2
     obtain ⟨A2, cap2, rfl, hA2, hB2⟩ := HN.out.slice
     go_wp2_with fail
     go_roundw
     case rel => exact ⟨j + 2, acc ++ [d], by go_num, by omega, by omega, by simp; omega, HE, HN⟩
     case measure => simp [intOf]; omega
    have f1 : ((d.toNat : Int) != 34) = true := u8_bne_of d 34 e34
    go_wp2_with fail
    refine Calls.mono (HCH.out _ (j + 1) _ (by omega) (by omega)) ?_
    rintro _ _ ⟨rfl, hw5⟩
    replace hw5 := hw5.symm
    subst hw5
    rw [hd]
    by_cases e92 : d = 92
    ·have f2 : ((d.toNat : Int) != 92) = false := u8_nbne_of d 92 e92
     have hdd : d = 34 ∨ d = 92 := .inr e92
     clear e34 e92
     have hin : j + 1 < s.size := by
      rcases Nat.lt_or_ge (j + 1) s.size with h | h
      ·exact h
      ·have h0 := cb_ge s.data.toList (j + 1) (by rw [HLL.out]; exact h)
       rw [hd] at h0
       subst h0
       rcases hdd with h | h <;> exact absurd h (by decide)
     have hdl : s[j + 1]'hin = d := by rw [← hd]; exact (cb_lt _ _ (by rw [HLL.out]; exact hin)).symm
     have g1 : ((j : Int) + 1) < (s.size : Int) := by omega
     have HE := hid (show Lx.quoP (s.data.toList.drop (j + 2)) (acc ++ [d]) (j + 2 - a) = Lx.quoP (s.data.toList.drop (a + 1)) [] 1 by rw [← HQ.out, hq, if_pos hdd, show j - a + 2 = j + 2 - a by omega])
     clear hq hd hdd
     go_wp2_with (at_builtin; refine wpList_append_own _ rfl _ _ 22 rfl (w.heap.size + 1) 5 i0 (.int .u8 0) 1 1 Tryz.underlying22 hi hz0 hz1 hz2 rfl (by decide) _ _ _ rfl (HR.out.own.alloc _) ⟨wr.heap.size, 0, none⟩ 1 1 [.int .u8 ((d).toNat : Int)] rfl rfl ?c1 ?c2 ?c3 ?c4 ?c5 ?_)
     case c1 => exact one_cell _ _
     case c2 => intro u hu; simp at hu; subst hu; rfl
     case c3 => unfold maxLen; omega
     case c4 => omega
     case c5 => have := HR.out.base; simp; omega
     intro v2 w2 hown2 hgrow2 _
     have HN := hid (RT.next (d) HR.out hown2 hgrow2)
     clear hown2 hgrow2
     obtain ⟨A2, cap2, rfl, hA2, hB2⟩ := HN.out.slice
     go_wp2_with fail
     go_roundw
     case rel => exact ⟨j + 2, acc ++ [d], by go_num, by omega, by omega, by simp; omega, HE, HN⟩
     case measure => simp [intOf]; omega
    have f2 : ((d.toNat : Int) != 92) = true := u8_bne_of d 92 e92
    rw [if_neg (by rintro (h | h) <;> contradiction)] at hq
    have HE := hid (show Lx.quoP (s.data.toList.drop (a + 1)) [] 1 = .err (j - a) 3 by rw [← HQ.out, hq])
    clear hq e34 e92 hd
    obtain ⟨p0, p1, p2, p3, z0, z1, z2, z3, hlt⟩ := Blk.four HR.out.res
    go_wp2_with fail
    refine bodyPost_ret (v := .tuple #[.agg #[.int .i64 0, .string ⟨#[]⟩, .int .i64 0, .int .i64 0], .int .i64 (j : Int), .int .i64 3]) (by simp [results, Tryz.results51, go_sem, p0, p1, p2, p3]) rfl ?_
    exact ⟨by rw [HE.out]; unfold Tok18; simp only; rw [show ((a + (j - a) : Nat) : Int) = (j : Int) by omega]; rfl, Touch.put4 HR.out.fresh (.inr (Nat.le_refl _)) _ _ _ _⟩
   have b5 : ((c.toNat : Int) == 92) = false := u8_ne_of c 92 c5
   rw [if_neg c5] at hq
   have HE := hid (show Lx.quoP (s.data.toList.drop (j + 1)) (acc ++ [c]) (j + 1 - a) = Lx.quoP (s.data.toList.drop (a + 1)) [] 1 by rw [← HQ.out, hq, show j - a + 1 = j + 1 - a by omega])
   clear hq c2 c3 c4 c5
   go_wp2_with (at_builtin; refine wpList_append_own _ rfl _ _ 22 rfl (w.heap.size + 1) 5 i0 (.int .u8 0) 1 1 Tryz.underlying22 hi hz0 hz1 hz2 rfl (by decide) _ _ _ rfl (HR.out.own.alloc _) ⟨wr.heap.size, 0, none⟩ 1 1 [.int .u8 ((c).toNat : Int)] rfl rfl ?c1 ?c2 ?c3 ?c4 ?c5 ?_)
   case c1 => exact one_cell _ _
   case c2 => intro u hu; simp at hu; subst hu; rfl
   case c3 => unfold maxLen; omega
   case c4 => omega
   case c5 => have := HR.out.base; simp; omega
   intro v2 w2 hown2 hgrow2 _
   have HN := hid (RT.next (c) HR.out hown2 hgrow2)
   clear hown2 hgrow2
   obtain ⟨A2, cap2, rfl, hA2, hB2⟩ := HN.out.slice
   go_wp2_with fail
   go_roundw
   case rel => exact ⟨j + 1, acc ++ [c], by go_num, by omega, by omega, by simp; omega, HE, HN⟩
   case measure => simp [intOf]; omega
  ·have d1 : decide ((j : Int) < (s.size : Int)) = false := by simp only [decide_eq_false_iff_not]; omega
   have d1n : decide (j < s.size) = false := by simp only [decide_eq_false_iff_not]; omega
   have HE := hid (show Lx.quoP (s.data.toList.drop (a + 1)) [] 1 = .err 0 12 by rw [← HQ.out]; exact quoP_end _ _ _ _ (by rw [HLL.out]; omega))
   obtain ⟨p0, p1, p2, p3, z0, z1, z2, z3, hlt⟩ := Blk.four HR.out.res
   go_wp2_with fail
   refine bodyPost_ret (v := .tuple #[.agg #[.int .i64 0, .string ⟨#[]⟩, .int .i64 0, .int .i64 0], .int .i64 (a : Int), .int .i64 12]) (by simp [results, Tryz.results51, go_sem, p0, p1, p2, p3]) rfl ?_
   exact ⟨by rw [HE.out]; rfl, Touch.put4 HR.out.fresh (.inr (Nat.le_refl _)) _ _ _ _⟩
end Go.Proofs.YtncnoeoicaglaaaGreat
