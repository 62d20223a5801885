/- The walks of the lexer's small methods: fail, is, run, token. -/
import Derived.Test.YtilgpmpiidccjaaReg
import Derived.Test.YtilgpmpiidccjaaLxM
namespace Go.Proofs.Ytilgpmpiidccjaa
open Go.RowKit

def lexCells (s : ByteArray) (a p e : Int) : Array Value :=
  (Array.ofFn (n := 256) fun i => Value.int .u8 (Lx.cls i.1 : Nat)) ++ #[.string s, .int .i64 a, .int .i64 p, .int .i64 e]

/-- Block L is a lexer over s at a, with a failure. -/
def LexAt (w : World) (L : Nat) (s : ByteArray) (a p e : Int) : Prop := Blk w L 85 (lexCells s a p e)

theorem lexCells_cls (s : ByteArray) (a p e : Int) (i : Nat) (h : i < 256) : (lexCells s a p e)[i]? = some (.int .u8 (Lx.cls i : Nat)) := by
  unfold lexCells
  rw [Array.getElem?_append_left (by simpa using h)]
  simp [h]
theorem lexCells_hi (s : ByteArray) (a p e : Int) (i : Nat) : (lexCells s a p e)[256 + i]? = (#[Value.string s, .int .i64 a, .int .i64 p, .int .i64 e] : Array Value)[i]? := by
  unfold lexCells
  rw [Array.getElem?_append_right (by simp)]
  simp
theorem lexCells_set (s : ByteArray) (a p e : Int) (i : Nat) (u : Value) : (lexCells s a p e).setIfInBounds (256 + i) u = (Array.ofFn (n := 256) fun i => Value.int .u8 (Lx.cls i.1 : Nat)) ++ (#[Value.string s, .int .i64 a, .int .i64 p, .int .i64 e].setIfInBounds i u) := by
  unfold lexCells
  rw [Array.setIfInBounds_append_right (by simp)]
  simp

section
variable {w : World} {L : Nat} {s : ByteArray} {a p e : Int}
theorem LexAt.text (h : LexAt w L s a p e) : w.cell? ⟨L, 256, none⟩ = some (.string s) := (Blk.cell h 256).trans (lexCells_hi s a p e 0)
theorem LexAt.at_ (h : LexAt w L s a p e) : w.cell? ⟨L, 257, none⟩ = some (.int .i64 a) := (Blk.cell h 257).trans (lexCells_hi s a p e 1)
theorem LexAt.place (h : LexAt w L s a p e) : w.cell? ⟨L, 258, none⟩ = some (.int .i64 p) := (Blk.cell h 258).trans (lexCells_hi s a p e 2)
theorem LexAt.err (h : LexAt w L s a p e) : w.cell? ⟨L, 259, none⟩ = some (.int .i64 e) := (Blk.cell h 259).trans (lexCells_hi s a p e 3)
theorem LexAt.cls (h : LexAt w L s a p e) (i : Nat) (hi : i < 256) : w.cell? ⟨L, i, none⟩ = some (.int .u8 (Lx.cls i : Nat)) := (Blk.cell h i).trans (lexCells_cls s a p e i hi)
theorem LexAt.drewN (h : LexAt w L s a p e) (n : Nat) : LexAt (w.drewN n) L s a p e := h
theorem LexAt.alloc (h : LexAt w L s a p e) (o : Obj) : LexAt (w.alloc o) L s a p e := Blk.alloc h o
theorem LexAt.setAt (h : LexAt w L s a p e) (x : Int) : LexAt (w.setCell ⟨L, 257, none⟩ (.int .i64 x)) L s x p e := by
  have := Blk.put h 257 (.int .i64 x)
  rw [show (257 : Nat) = 256 + 1 from rfl, lexCells_set] at this
  exact this
theorem LexAt.setPlace (h : LexAt w L s a p e) (x : Int) : LexAt (w.setCell ⟨L, 258, none⟩ (.int .i64 x)) L s a x e := by
  have := Blk.put h 258 (.int .i64 x)
  rw [show (258 : Nat) = 256 + 2 from rfl, lexCells_set] at this
  exact this
theorem LexAt.setErr (h : LexAt w L s a p e) (x : Int) : LexAt (w.setCell ⟨L, 259, none⟩ (.int .i64 x)) L s a p x := by
  have := Blk.put h 259 (.int .i64 x)
  rw [show (259 : Nat) = 256 + 3 from rfl, lexCells_set] at this
  exact this
theorem LexAt.touch {S : Nat → Prop} {w' : World} (h : LexAt w L s a p e) (ht : Touch S w w') (hn : ¬ S L) : LexAt w' L s a p e := ht.blk h hn
theorem LexAt.lt (h : LexAt w L s a p e) : L < w.heap.size := Blk.lt h
end

theorem lex_reads {w : World} {L : Nat} {s : ByteArray} {a p e : Int} (h : LexAt w L s a p e) : w.cell? ⟨L, 256, none⟩ = some (.string s) ∧ w.cell? ⟨L, 257, none⟩ = some (.int .i64 a) ∧ w.cell? ⟨L, 258, none⟩ = some (.int .i64 p) ∧ w.cell? ⟨L, 259, none⟩ = some (.int .i64 e) ∧
    w.frozen? ⟨L, 257, none⟩ = false ∧ w.frozen? ⟨L, 258, none⟩ = false ∧ w.frozen? ⟨L, 259, none⟩ = false ∧ L < w.heap.size :=
  ⟨h.text, h.at_, h.place, h.err, Blk.frozen h _, Blk.frozen h _, Blk.frozen h _, h.lt⟩

set_option maxHeartbeats 400000 in
theorem fail_any (L : Nat) (s : ByteArray) (a p e pl er : Int) (w : World) (h : LexAt w L s a p e) :
    Calls Try.prog 109 #[.pointer (some ⟨L, 0, none⟩), .int .i64 pl, .int .i64 er] w fun e' w' => e' = .returned (.tuple #[.agg #[.int .i64 0, .string ByteArray.empty, .int .i64 0, .int .i64 0], .bool false]) ∧ LexAt w' L s a pl er ∧ Touch (· = L) w w' := by
  obtain ⟨h1, h2, h3, h4, f1, f2, f3, hL⟩ := lex_reads h
  have H := hid h
  clear h
  go_enter Try.func109, Try.ntmps109
  go_wp2
  refine bodyPost_ret (v := .tuple #[.agg #[.int .i64 0, .string ByteArray.empty, .int .i64 0, .int .i64 0], .bool false]) (by simp [results, Try.results109, go_sem]; rfl) rfl ⟨rfl, ?_, ?_⟩
  · exact ((H.out.setPlace pl).setErr er).alloc _
  · exact (((Touch.refl (· = L) w).setCell (p := ⟨L, 258, none⟩) (.inl rfl) _).setCell (p := ⟨L, 259, none⟩) (.inl rfl) _).alloc _

theorem data_get (s : ByteArray) (k : Nat) (h : k < s.size) : s.data.toList[k]'(by simpa using h) = s[k] := rfl

set_option maxHeartbeats 400000 in
theorem is_any (L : Nat) (s : ByteArray) (a p e : Int) (x c : Int) (w : World) (h : LexAt w L s a p e) (hx : 0 ≤ x) (hc : 0 ≤ c) :
    Calls Try.prog 104 #[.pointer (some ⟨L, 0, none⟩), .int .i64 x, .int .u8 c] w fun e' w' => e' = .returned (.bool (Lx.clsI s.data.toList x.toNat == c)) ∧ ∃ n, w' = w.drewN n := by
  obtain ⟨k, rfl⟩ := Int.eq_ofNat_of_zero_le hx
  have h1 := h.text
  simp only [Int.toNat_natCast]
  by_cases hk : k < s.size
  · have hcl := h.cls s[k].toNat s[k].toNat_lt
    have hr : (Lx.clsI s.data.toList k == c) = (((Lx.cls s[k].toNat : Nat) : Int) == c) := by rw [Lx.clsI_lt _ _ (by simpa using hk)]; rfl
    rw [hr]
    clear hr h
    have hd : decide ((k : Int) < (s.size : Int)) = true := by simp; omega
    have h256 : (s[k].toNat : Int) < 256 := by have := s[k].toNat_lt; omega
    have hk2 : (k : Int) < (s.size : Int) := by omega
    have hk0 : (0 : Int) ≤ (k : Int) := by omega
    go_enter Try.func104, Try.ntmps104
    go_wp2
    go_quiet (fail)
    go_wp2
    go_ret
    exact ⟨rfl, _, rfl⟩
  · have hr : (Lx.clsI s.data.toList k == c) = false := by rw [Lx.clsI_ge _ _ (by simp; omega)]; simp; omega
    rw [hr]
    clear hr h
    have hd : decide ((k : Int) < (s.size : Int)) = false := by simp; omega
    go_enter Try.func104, Try.ntmps104
    go_wp2
    go_quiet (fail)
    go_wp2
    go_ret
    exact ⟨rfl, _, rfl⟩


set_option maxHeartbeats 400000 in
theorem run_any (L : Nat) (s : ByteArray) (a p e : Int) (x c : Int) (w : World) (h : LexAt w L s a p e) (hx : 0 ≤ x) (hc : 0 ≤ c) (hm : s.size ≤ maxLen) :
    Calls Try.prog 61 #[.pointer (some ⟨L, 0, none⟩), .int .i64 x, .int .u8 c] w fun e' w' => e' = .returned (.int .i64 (x.toNat + Lx.runI c s.data.toList x.toNat : Nat)) ∧ ∃ n, w' = w.drewN n := by
  obtain ⟨k, rfl⟩ := Int.eq_ofNat_of_zero_le hx
  simp only [Int.toNat_natCast]
  unfold maxLen at hm
  have H := hid h
  clear h hx
  go_enter Try.func61, Try.ntmps61
  go_wp2
  go_loopw [1] (fun i wr => ∃ j : Nat, i = .int .i64 j ∧ Hid (j + Lx.runI c s.data.toList j = k + Lx.runI c s.data.toList k) ∧ ∃ n, wr = w.drewN n) (fun i _ => s.size - (intOf i).toNat)
  case atStart => exact ⟨k, rfl, rfl, 0, rfl⟩
  case round =>
    obtain ⟨j, rfl, hj, n, rfl⟩ := hrel
    by_cases ht : Lx.clsI s.data.toList j = c
    · obtain ⟨hlt, hs⟩ := Lx.runI_yes c _ j hc ht
      have hlt2 : j < s.size := by simpa using hlt
      have hb : (Lx.clsI s.data.toList j == c) = true := by simpa using ht
      have HS := hid hs
      clear hs ht hlt
      go_wp2_with (go_at_call 104; refine (is_any L s a p e _ _ _ (H.out.drewN _) (by omega) hc).mono ?_; rintro e' w' ⟨rfl, n2, rfl⟩)
      go_roundw
      case rel => exact ⟨j + 1, by go_num, HS.out.trans hj, n + n2, rfl⟩
      case measure => simp [intOf]; omega
    · have hz := Lx.runI_no c _ j ht
      have hb : (Lx.clsI s.data.toList j == c) = false := by simpa using ht
      have HZ := hid hz
      clear hz ht
      go_wp2_with (go_at_call 104; refine (is_any L s a p e _ _ _ (H.out.drewN _) (by omega) hc).mono ?_; rintro e' w' ⟨rfl, n2, rfl⟩)
      go_ret
      exact ⟨ret_int (by rw [← hj.out, HZ.out]; simp), n + n2, rfl⟩

end Go.Proofs.Ytilgpmpiidccjaa
