/- Part 6 of 48 of a proof; its texts, joined: NwM. No condition. -/
import Derived.Test.YtncnoeoicaglaaaGreatVc5

/- The reference's lexer as plain functions: the token first, then whether it is too long. No program in sight. -/
namespace Go.Proofs.YtncnoeoicaglaaaGreat.Lx
def long (t : Tok) : Bool := if t.kind = 4 then decide (16 < t.text.length) else if t.kind = 2 then decide (20 < t.text.length) else if t.kind = 3 then decide (200 < t.text.length) else false
def cut : Res → Res
 | .ok t n => if long t = true then .err 0 6 else .ok t n
 | .err i e => .err i e
def quoP : Bytes → Bytes → Nat → Res
 | [], _, _ => .err 0 12
 | c :: q, acc, i =>
  if c = 34 then .ok ⟨3, acc⟩ (i + 1)
  else if c < 32 ∨ 126 < c then .err i 3
  else if c = 92 then
   match q with
   | [] => .err i 3
   | d :: q' => if d = 34 ∨ d = 92 then quoP q' (acc ++ [d]) (i + 2) else .err i 3
  else quoP q (acc ++ [c]) (i + 1)
def nameP (r : Bytes) : Res :=
 let n := runLen 3 (r.drop 1)
 if (r.drop 1).take n ≠ [102, 101, 110, 99, 101] then .ok ⟨4, (r.drop 1).take n⟩ (1 + n)
 else if delimAt r (1 + n) = true ∧ delimAt r (2 + n) = true then .ok ⟨5, (r.drop (1 + n)).take 2⟩ (3 + n)
 else .err 0 3
def nextP (r : Bytes) : Res :=
 match r with
 | [] => .err 0 3
 | c :: q =>
  if isB 2 c then .ok ⟨2, r.take (numLen r)⟩ (numLen r)
  else if isB 5 c then .ok ⟨7, [c]⟩ 1
  else if c = 34 then quoP q [] 1
  else if c = 92 ∧ q.head? = some 92 then .ok ⟨8, [92, 92]⟩ 2
  else if c = 92 ∧ isAt 3 q 0 = true then nameP r
  else if c = 35 ∧ parAt q = true then .ok ⟨6, q.take 1⟩ 2
  else if isB 3 c ∨ isB 4 c then .ok ⟨1, [c]⟩ 1
  else .err 0 3
theorem cut_lim (k most : Nat) (x : Bytes) (n : Nat) (h : (k = 4 ∧ most = 16) ∨ (k = 2 ∧ most = 20) ∨ (k = 3 ∧ most = 200)) : lim most ⟨k, x⟩ n = cut (.ok ⟨k, x⟩ n) := by
 unfold lim cut long
 rcases h with ⟨rfl, rfl⟩ | ⟨rfl, rfl⟩ | ⟨rfl, rfl⟩
 ·simp only [↓reduceIte, decide_eq_true_eq]
 ·simp only [show ¬ (2 : Nat) = 4 by decide, ↓reduceIte, decide_eq_true_eq]
 ·simp only [show ¬ (3 : Nat) = 4 by decide, show ¬ (3 : Nat) = 2 by decide, ↓reduceIte, decide_eq_true_eq]
theorem cut_other (k : Nat) (x : Bytes) (n : Nat) (h : k ≠ 4 ∧ k ≠ 2 ∧ k ≠ 3) : cut (.ok ⟨k, x⟩ n) = .ok ⟨k, x⟩ n := by
 unfold cut long
 simp only
 rw [if_neg h.1, if_neg h.2.1, if_neg h.2.2]
 rfl
theorem quo_cut : ∀ (q acc : Bytes) (i : Nat), quo q acc i = cut (quoP q acc i)
 | [], acc, i => by rw [quo.eq_def, quoP.eq_def]; rfl
 | [c], acc, i => by
  rw [quo.eq_def, quoP.eq_def]
  simp only
  split
  ·exact cut_lim 3 200 acc _ (.inr (.inr ⟨rfl, rfl⟩))
  ·split
   ·rfl
   ·split
    ·rfl
    ·exact quo_cut [] _ _
 | c :: d :: q, acc, i => by
  rw [quo.eq_def, quoP.eq_def]
  simp only
  split
  ·exact cut_lim 3 200 acc _ (.inr (.inr ⟨rfl, rfl⟩))
  ·split
   ·rfl
   ·split
    ·split
     ·exact quo_cut q _ _
     ·rfl
    ·exact quo_cut (d :: q) _ _
theorem ite_cut {c : Prop} [Decidable c] {x y x' y' : Res} (h1 : x = cut x') (h2 : y = cut y') : (if c then x else y) = cut (if c then x' else y') := by
 by_cases h : c
 ·rw [if_pos h, if_pos h]; exact h1
 ·rw [if_neg h, if_neg h]; exact h2
theorem name_cut (r : Bytes) : name r = cut (nameP r) := by
 unfold name nameP
 exact ite_cut (cut_lim 4 16 _ _ (.inl ⟨rfl, rfl⟩)) (ite_cut (cut_other 5 _ _ (by decide)).symm rfl)
theorem next_cut : ∀ r : Bytes, next r = cut (nextP r)
 | [] => rfl
 | c :: q => by
  have h1 : next (c :: q) = if isB 2 c then number (c :: q) else if isB 5 c then .ok ⟨7, [c]⟩ 1 else if c = 34 then quo q [] 1 else if c = 92 ∧ q.head? = some 92 then .ok ⟨8, [92, 92]⟩ 2
   else if c = 92 ∧ isAt 3 q 0 = true then name (c :: q) else if c = 35 ∧ parAt q = true then .ok ⟨6, q.take 1⟩ 2 else if isB 3 c ∨ isB 4 c then .ok ⟨1, [c]⟩ 1 else .err 0 3 := rfl
  have h2 : nextP (c :: q) = if isB 2 c then .ok ⟨2, (c :: q).take (numLen (c :: q))⟩ (numLen (c :: q)) else if isB 5 c then .ok ⟨7, [c]⟩ 1 else if c = 34 then quoP q [] 1 else if c = 92 ∧ q.head? = some 92 then .ok ⟨8, [92, 92]⟩ 2
   else if c = 92 ∧ isAt 3 q 0 = true then nameP (c :: q) else if c = 35 ∧ parAt q = true then .ok ⟨6, q.take 1⟩ 2 else if isB 3 c ∨ isB 4 c then .ok ⟨1, [c]⟩ 1 else .err 0 3 := rfl
  rw [h1, h2]
  exact ite_cut (cut_lim 2 20 _ _ (.inr (.inl ⟨rfl, rfl⟩))) (ite_cut (cut_other 7 _ _ (by decide)).symm (ite_cut (quo_cut _ _ _) (ite_cut (cut_other 8 _ _ (by decide)).symm
   (ite_cut (name_cut _) (ite_cut (cut_other 6 _ _ (by decide)).symm (ite_cut (cut_other 1 _ _ (by decide)).symm rfl))))))
theorem quoP_pos : ∀ (q acc : Bytes) (i : Nat) (t : Tok) (n : Nat), quoP q acc i = .ok t n → i < n ∧ n ≤ i + q.length
 | [], _, _, _, _, h => by rw [quoP.eq_def] at h; cases h
 | [c], acc, i, t, n, h => by
  rw [quoP.eq_def] at h
  simp only at h
  split at h
  ·cases h; simp
  ·split at h
   ·cases h
   ·split at h
    ·cases h
    ·rw [quoP.eq_def] at h; cases h
 | c :: d :: q, acc, i, t, n, h => by
  rw [quoP.eq_def] at h
  simp only at h
  split at h
  ·cases h; simp
  ·split at h
   ·cases h
   ·split at h
    ·split at h
     ·have := quoP_pos q _ _ _ _ h; simp; omega
     ·cases h
    ·have := quoP_pos (d :: q) _ _ _ _ h; simp at this ⊢; omega
theorem nextP_pos (r : Bytes) (t : Tok) (n : Nat) (h : nextP r = .ok t n) : 0 < n ∧ n ≤ r.length := by
 cases hl : long t with
 | false => exact next_pos r t n (by rw [next_cut, h]; exact if_neg (by rw [hl]; decide))
 | true =>
  cases r with
  | nil => cases h
  | cons c q =>
   unfold nextP at h
   simp only at h
   split at h
   ·rename_i hc
    cases h
    refine ⟨?_, numLen_le _⟩
    have : 0 < runLen 2 (c :: q) := by unfold runLen; rw [List.takeWhile_cons, if_pos hc]; simp
    unfold numLen
    split <;> omega
   ·split at h
    ·cases h; simp
    ·split at h
     ·have := quoP_pos _ _ _ _ _ h; simp; omega
     ·split at h
      ·cases h; cases hl
      ·split at h
       ·unfold nameP at h
        simp only at h
        have hr := runLen_le 3 ((c :: q).drop 1)
        simp only [List.drop_succ_cons, List.drop_zero] at hr
        split at h
        ·cases h
         simp only [List.drop_succ_cons, List.drop_zero, List.length_cons]; omega
        ·split at h
         ·cases h; cases hl
         ·cases h
       ·split at h
        ·cases h; cases hl
        ·split at h
         ·cases h; cases hl
         ·cases h
theorem lexFrom_blank (l : Bytes) (a : Nat) (h : a < l.length) (hb : isB 1 l[a] = true) : lexFrom l (a + 1) = lexFrom l a := by
 have hs : skip l a = skip l (a + 1) := by
  unfold skip
  have hc : clsI l a = 1 := by
   rw [clsI_lt l a h]
   unfold isB at hb
   rw [beq_iff_eq] at hb
   omega
  have := (runI_yes 1 l a (by decide) hc).2
  omega
 unfold lexFrom
 rw [lexGo, lexGo, hs]
theorem skip_none (l : Bytes) (a : Nat) (h : a < l.length) (hb : isB 1 l[a] = false) : skip l a = a := by
 unfold skip
 rw [runI_no 1 l a]
 ·rfl
 ·rw [clsI_lt l a h]
  unfold isB at hb
  rw [beq_eq_false_iff_ne] at hb
  omega
theorem lexFrom_next (l : Bytes) (a : Nat) (h : a < l.length) (hb : isB 1 l[a] = false) : match nextP (l.drop a) with
  | .err i e => lexFrom l a = ([], some (a + i, e))
  | .ok t n => (long t = true → lexFrom l a = ([], some (a, 6))) ∧ (long t = false → lexFrom l a = (⟨t.kind, t.text, a, a + n⟩ :: (lexFrom l (a + n)).1, (lexFrom l (a + n)).2)) := by
 have hs := skip_none l a h hb
 have hn := next_cut (l.drop a)
 cases hx : nextP (l.drop a) with
 | err i e =>
  rw [hx] at hn
  have := lexFrom_err l a i e (by rw [hs]; exact h) (by rw [hs]; exact hn)
  rw [hs] at this
  exact this
 | ok t n =>
  rw [hx] at hn
  simp only
  refine ⟨fun hl => ?_, fun hl => ?_⟩
  ·have h2 : next (l.drop a) = .err 0 6 := by rw [hn]; exact if_pos hl
   have := lexFrom_err l a 0 6 (by rw [hs]; exact h) (by rw [hs]; exact h2)
   rw [hs] at this
   exact this
  ·have h2 : next (l.drop a) = .ok t n := by rw [hn]; exact if_neg (by rw [hl]; decide)
   have := lexFrom_ok l a n t (by rw [hs]; exact h) (by rw [hs]; exact h2)
   rw [hs] at this
   exact this
end Go.Proofs.YtncnoeoicaglaaaGreat.Lx
