/- The walks of the lexer's methods token, number. -/
import Derived.Test.YtilgpmpiidccjaaLxA
namespace Go.Proofs.Ytilgpmpiidccjaa
open Go.RowKit

/-- What a reading's result means for the values that a method hands back and for the lexer behind it. -/
def Means (r : Lx.Res) (a : Nat) (p e : Int) (k : Int) (tx : ByteArray) (f t : Int) (b : Bool) (a' p' e' : Int) : Prop :=
  match r with
  | .ok tk n => k = tk.kind ∧ tx = ⟨tk.text.toArray⟩ ∧ f = a ∧ t = (a + n : Nat) ∧ b = true ∧ a' = (a + n : Nat) ∧ p' = p ∧ e' = e
  | .err i er => k = 0 ∧ tx = ByteArray.empty ∧ f = 0 ∧ t = 0 ∧ b = false ∧ a' = a ∧ p' = (a + i : Nat) ∧ e' = er

/-- How a method of the lexer ends: with a token, or with a failure. -/
def LexRes (w : World) (L : Nat) (s : ByteArray) (a : Nat) (p e : Int) (r : Lx.Res) (e' : Ending) (w' : World) : Prop :=
  ∃ (k : Int) (tx : ByteArray) (f t : Int) (b : Bool) (a' p' e2 : Int), e' = .returned (.tuple #[.agg #[.int .i64 k, .string tx, .int .i64 f, .int .i64 t], .bool b]) ∧
    LexAt w' L s a' p' e2 ∧ Touch (· = L) w w' ∧ Means r a p e k tx f t b a' p' e2

theorem LexRes.drewN {w w' : World} {L : Nat} {s : ByteArray} {a : Nat} {p e : Int} {r : Lx.Res} {e' : Ending} (h : LexRes w L s a p e r e' w') (n : Nat) : LexRes w L s a p e r e' (w'.drewN n) := by
  obtain ⟨k, tx, f, t, b, a', p', e2, rfl, h1, h2, h3⟩ := h
  exact ⟨k, tx, f, t, b, a', p', e2, rfl, h1.drewN n, h2.drewN n, h3⟩
theorem str_of (s : ByteArray) : (⟨s.data.toList.toArray⟩ : ByteArray) = s := rfl
theorem str_nil : (⟨([] : List UInt8).toArray⟩ : ByteArray) = ByteArray.empty := rfl

/-- The end of a method that has laid its result's cells in a block ahead of a call and stored what the call handed back. -/
theorem LexRes.close {w w' : World} {L : Nat} {s : ByteArray} {a : Nat} {p e : Int} {r : Lx.Res} {k : Int} {tx : ByteArray} {f t : Int} {b : Bool} {a' p' e2 : Int} (hL : L < w.heap.size)
    (h1 : LexAt w' L s a' p' e2) (h2 : Touch (· = L) w w') (h3 : Means r a p e k tx f t b a' p' e2) :
    LexRes w L s a p e r (.returned (.tuple #[.agg #[.int .i64 k, .string tx, .int .i64 f, .int .i64 t], .bool b])) (put4 w' w.heap.size (.int .i64 k) (.string tx) (.int .i64 f) (.int .i64 t)) :=
  ⟨k, tx, f, t, b, a', p', e2, rfl, Blk.far4 h1 (by omega) _ _ _ _, h2.put4 (.inr (Nat.le_refl _)) _ _ _ _, h3⟩

set_option maxHeartbeats 400000 in
theorem token_any (L : Nat) (s : ByteArray) (a : Nat) (p e : Int) (k : Int) (kd : Nat) (text : ByteArray) (to_ : Int) (n most : Nat) (mostI : Int) (w : World) (h : LexAt w L s a p e) (hk : k = kd) (ht : to_ = (a + n : Nat)) (hmost : mostI = most) :
    Calls Try.prog 106 #[.pointer (some ⟨L, 0, none⟩), .int .i64 k, .string text, .int .i64 to_, .int .i64 mostI] w (LexRes w L s a p e (Lx.lim most ⟨kd, text.data.toList⟩ n)) := by
  obtain ⟨h1, h2, h3, h4, f1, f2, f3, hL⟩ := lex_reads h
  have H := hid h
  have HK := hid hk
  have HT := hid ht
  clear h hk ht
  by_cases hl : mostI < text.size
  · have hr : Lx.lim most ⟨kd, text.data.toList⟩ n = .err 0 6 := by unfold Lx.lim; rw [if_pos (by simp; omega)]
    rw [hr]
    clear hr hmost
    go_enter Try.func106, Try.ntmps106
    go_wp2_with (go_at_call 109; refine (fail_any L s a p e _ _ _ (H.out.alloc _)).mono ?_; rintro e' w' ⟨rfl, hx, ht⟩; obtain ⟨q0, q1, q2, q3, z0, z1, z2, z3, hg⟩ := Blk.four (ht.blk (Blk.new w _ _) (by omega)); have HX := hid hx; have HT := hid ht; clear hx ht)
    (try simp only [Exit.inBlock, Exit.then])
    refine bodyPost_ret (v := .tuple #[.agg #[.int .i64 0, .string ByteArray.empty, .int .i64 0, .int .i64 0], .bool false]) (by simp [results, Try.results106, go_sem, q0, q1, q2, q3]) rfl ?_
    exact LexRes.close hL HX.out HT.out.pre ⟨rfl, rfl, rfl, rfl, rfl, rfl, rfl, rfl⟩
  · have hr : Lx.lim most ⟨kd, text.data.toList⟩ n = .ok ⟨kd, text.data.toList⟩ n := by unfold Lx.lim; rw [if_neg (by simp; omega)]
    rw [hr]
    clear hr hmost
    go_enter Try.func106, Try.ntmps106
    go_wp2
    refine bodyPost_ret (v := .tuple #[.agg #[.int .i64 k, .string text, .int .i64 a, .int .i64 to_], .bool true]) (by simp [results, Try.results106, go_sem]) rfl ?_
    refine ⟨_, _, _, _, _, to_, p, e, rfl, ?_, ?_, HK.out, rfl, rfl, HT.out, rfl, HT.out, rfl, rfl⟩
    · exact (LexAt.setAt H.out to_).alloc _
    · exact ((Touch.refl (· = L) w).setCell (p := ⟨L, 257, none⟩) (.inl rfl) _).alloc _
end Go.Proofs.Ytilgpmpiidccjaa
