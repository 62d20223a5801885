/- Small methods of the printer: mark. -/
import Derived.Test.YtilgpmpiidccjaaPrJ
namespace Go.Proofs.Ytilgpmpiidccjaa
open Go.RowKit

/-- The printer behind some tokens more. -/
def PrAdd (w w' : World) (p B : Nat) (toks : List Lx.PTok) (txt : List UInt8) (l : List Lx.Tok) : Prop :=
  ∃ vt' vb' cs', Pr w' p B vt' vb' cs' (adds l toks txt).1 (adds l toks txt).2 ∧ Touch (PS p B w) w w'

theorem PrAdd.app {a b c : World} {p B : Nat} {toks : List Lx.PTok} {txt : List UInt8} {l m : List Lx.Tok} (h : PrAdd a b p B toks txt l) (k : PrAdd b c p B (adds l toks txt).1 (adds l toks txt).2 m) : PrAdd a c p B toks txt (l ++ m) := by
  obtain ⟨_, _, _, _, ht⟩ := h
  obtain ⟨vt, vb, cs, hp, ht'⟩ := k
  rw [← adds_app] at hp
  exact ⟨vt, vb, cs, hp, PS.trans ht ht'⟩

theorem add_one {w : World} {p B : Nat} {vt vb : Value} {cs : Array Value} {txt : List UInt8} {toks : List Lx.PTok} (h : Pr w p B vt vb cs toks txt) (k : Nat) (t : List UInt8) (hB : B ≤ w.heap.size) (hl : txt.length ≤ 1000000) (ht : t.length ≤ 1000000) (hn : toks.length ≤ 1000000) :
    Calls Try.prog 122 #[.pointer (some ⟨p, 0, none⟩), .int .i64 (k : Int), .string ⟨t.toArray⟩] w fun e w' => e = .returned (.tuple #[]) ∧ PrAdd w w' p B toks txt [⟨k, t⟩] :=
  add_any h k t hB hl ht hn

set_option maxRecDepth 100000 in
theorem mark_any {w : World} {p B : Nat} {vt vb : Value} {cs : Array Value} {txt : List UInt8} {toks : List Lx.PTok} (h : Pr w p B vt vb cs toks txt) (t : List UInt8) (hB : B ≤ w.heap.size) (hl : txt.length ≤ 1000000) (ht : t.length ≤ 1000000) (hn : toks.length ≤ 1000000) :
    Calls Try.prog 124 #[.pointer (some ⟨p, 0, none⟩), .string ⟨t.toArray⟩] w fun e w' => e = .returned (.tuple #[]) ∧ PrAdd w w' p B toks txt [⟨7, t⟩] := by
  have H := hid (add_one h 7 t hB hl ht hn)
  clear h
  go_enter Try.func124, Try.ntmps124
  go_wp2_with fail
  refine H.out.mono ?_
  rintro _ w1 ⟨rfl, h1⟩
  have H1 := hid h1
  clear h1
  go_wp2_with fail
  go_end0
  exact ⟨rfl, H1.out⟩

theorem PrAdd.freshL {a b c : World} {p B : Nat} {toks : List Lx.PTok} {txt : List UInt8} {l : List Lx.Tok} (hf : Fresh a b) (k : PrAdd b c p B toks txt l) : PrAdd a c p B toks txt l := by
  obtain ⟨vt, vb, cs, hp, ht'⟩ := k
  exact ⟨vt, vb, cs, hp, PS.freshL hf ht'⟩

set_option maxRecDepth 100000 in
theorem number_pr {w : World} {p B : Nat} {vt vb : Value} {cs : Array Value} {txt : List UInt8} {toks : List Lx.PTok} (h : Pr w p B vt vb cs toks txt) (x c : Value) (kd : Value) (t : List UInt8) (hB : B ≤ w.heap.size) (hl : txt.length ≤ 1000000) (ht : t.length ≤ 1000000) (hn : toks.length ≤ 1000000) :
    Calls Try.prog 76 #[.pointer (some ⟨p, 0, none⟩), .agg #[kd, .string ⟨t.toArray⟩, c, x]] w fun e w' => e = .returned (.tuple #[]) ∧ PrAdd w w' p B toks txt [⟨2, t⟩] := by
  have hf : ∀ o, Fresh w (w.alloc o) := fun o => (Touch.refl _ w).alloc o
  have H := hid (fun o => add_one (h.fresh (hf o)) 2 t (Nat.le_trans hB (hf o).size) hl ht hn)
  clear h
  go_enter Try.func76, Try.ntmps76
  go_wp2_with fail
  refine (H.out _).mono ?_
  rintro _ w1 ⟨rfl, h1⟩
  have H1 := hid (PrAdd.freshL (hf _) h1)
  clear h1
  go_wp2_with fail
  go_end0
  exact ⟨rfl, H1.out⟩

set_option maxRecDepth 100000 in
theorem quoted_pr {w : World} {p B : Nat} {vt vb : Value} {cs : Array Value} {txt : List UInt8} {toks : List Lx.PTok} (h : Pr w p B vt vb cs toks txt) (x c : Value) (kd : Value) (t : List UInt8) (hB : B ≤ w.heap.size) (hl : txt.length ≤ 1000000) (ht : t.length ≤ 1000000) (hn : toks.length ≤ 1000000) :
    Calls Try.prog 77 #[.pointer (some ⟨p, 0, none⟩), .agg #[kd, .string ⟨t.toArray⟩, c, x]] w fun e w' => e = .returned (.tuple #[]) ∧ PrAdd w w' p B toks txt [⟨3, t⟩] := by
  have hf : ∀ o, Fresh w (w.alloc o) := fun o => (Touch.refl _ w).alloc o
  have H := hid (fun o => add_one (h.fresh (hf o)) 3 t (Nat.le_trans hB (hf o).size) hl ht hn)
  clear h
  go_enter Try.func77, Try.ntmps77
  go_wp2_with fail
  refine (H.out _).mono ?_
  rintro _ w1 ⟨rfl, h1⟩
  have H1 := hid (PrAdd.freshL (hf _) h1)
  clear h1
  go_wp2_with fail
  go_end0
  exact ⟨rfl, H1.out⟩

set_option maxRecDepth 100000 in
theorem symbol_pr {w : World} {p B : Nat} {vt vb : Value} {cs : Array Value} {txt : List UInt8} {toks : List Lx.PTok} (h : Pr w p B vt vb cs toks txt) (x c : Value) (kd : Value) (t : List UInt8) (hB : B ≤ w.heap.size) (hl : txt.length ≤ 1000000) (ht : t.length ≤ 1000000) (hn : toks.length ≤ 1000000) :
    Calls Try.prog 75 #[.pointer (some ⟨p, 0, none⟩), .agg #[kd, .string ⟨t.toArray⟩, c, x]] w fun e w' => e = .returned (.tuple #[]) ∧ PrAdd w w' p B toks txt [⟨if t.length = 1 then 1 else 4, t⟩] := by
  have hf : ∀ o, Fresh w (w.alloc o) := fun o => (Touch.refl _ w).alloc o
  have H := hid (fun k o => add_one (h.fresh (hf o)) k t (Nat.le_trans hB (hf o).size) hl ht hn)
  clear h
  have hsz : (ByteArray.mk t.toArray).size = t.length := by show t.toArray.size = _; simp
  by_cases h1 : t.length = 1
  · have d1 : ((ByteArray.mk t.toArray).size : Int) = 1 := by omega
    have HE := hid (if_pos h1 : (if t.length = 1 then 1 else 4) = (1 : Nat))
    rw [HE.out]
    clear h1
    go_enter Try.func75, Try.ntmps75
    go_wp2_with fail
    refine (H.out 1 _).mono ?_
    rintro _ w1 ⟨rfl, h1⟩
    have H1 := hid (PrAdd.freshL (hf _) h1)
    clear h1
    go_wp2_with fail
    go_end0
    exact ⟨rfl, H1.out⟩
  · have d1 : (((ByteArray.mk t.toArray).size : Int) == 1) = false := by simp; omega
    have d2 : ¬ ((ByteArray.mk t.toArray).size : Int) = 1 := by omega
    have HE := hid (if_neg h1 : (if t.length = 1 then 1 else 4) = (4 : Nat))
    rw [HE.out]
    clear h1
    go_enter Try.func75, Try.ntmps75
    go_wp2_with fail
    refine (H.out 4 _).mono ?_
    rintro _ w1 ⟨rfl, h1⟩
    have H1 := hid (PrAdd.freshL (hf _) h1)
    clear h1
    go_wp2_with fail
    go_end0
    exact ⟨rfl, H1.out⟩
end Go.Proofs.Ytilgpmpiidccjaa
