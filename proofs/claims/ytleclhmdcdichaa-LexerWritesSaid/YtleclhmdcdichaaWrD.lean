/- The plain side of LexerWrites. -/
import Derived.Test.YtleclhmdcdichaaWrC
namespace Go.Proofs.Ytleclhmdcdichaa
open Go.RowKit

def pad (r : Nat) : List UInt8 := match r with | 0 => [] | 1 => [] | 2 => [32] | 3 => [9, 10] | _ => [32, 32]
def tokAt (ts : List Lx.PTok) (i : Nat) : Lx.Tok := Lx.tok (ts.getD i ⟨0, [], 0, 0⟩)
def sepJ (ts : List Lx.PTok) (i : Nat) : List UInt8 := if 0 < i ∧ Lx.join (tokAt ts (i - 1)) (tokAt ts i) = true then [32] else []
def sepP (zs : List Nat) (i : Nat) : List UInt8 := if h : i < zs.length then pad (zs[i] % 5) else []
def wrL (ts : List Lx.PTok) (zs : List Nat) (k : Nat) : List (List UInt8 × Lx.Tok) := (List.range k).map fun i => (sepJ ts i ++ sepP zs i, tokAt ts i)

theorem flat_app : ∀ (l m : List (List UInt8 × Lx.Tok)), Lx.flat (l ++ m) = Lx.flat l ++ Lx.flat m
  | [], m => rfl
  | (s, t) :: l, m => by simp [Lx.flat, flat_app l m]
theorem flat_wr (ts : List Lx.PTok) (zs : List Nat) (k : Nat) : Lx.flat (wrL ts zs (k + 1)) = Lx.flat (wrL ts zs k) ++ ((sepJ ts k ++ sepP zs k) ++ Lx.spell (tokAt ts k)) := by
  unfold wrL
  rw [List.range_succ, List.map_append, flat_app]
  simp [Lx.flat]

theorem spaced_of : ∀ (l : List (List UInt8 × Lx.Tok)) (o : Option Lx.Tok), (∀ i (h : i < l.length), l[i].1.all (Lx.isB 1) = true ∧ Lx.TokOK l[i].2 ∧ (l[i].1 = [] → ∀ a, (if i = 0 then o else (l[i - 1]?).map (·.2)) = some a → Lx.join a l[i].2 = false)) → Lx.spaced o l
  | [], _, _ => trivial
  | (s, t) :: l, o, h => by
    obtain ⟨h1, h2, h3⟩ := h 0 (by simp)
    refine ⟨h1, h2, fun e a ha => h3 e a (by simpa using ha), spaced_of l (some t) fun i hi => ?_⟩
    obtain ⟨k1, k2, k3⟩ := h (i + 1) (by simpa using hi)
    simp only [List.getElem_cons_succ] at k1 k2 k3
    refine ⟨k1, k2, fun e a ha => k3 e a ?_⟩
    rw [if_neg (by omega)]
    cases i with
    | zero => simpa using ha
    | succ i => simpa using ha

theorem pad_blank (r : Nat) : (pad r).all (Lx.isB 1) = true := by
  unfold pad; split <;> rfl
theorem pad_len (r : Nat) : (pad r).length ≤ 2 := by
  unfold pad; split <;> simp

theorem wr_spaced (ts : List Lx.PTok) (zs : List Nat) (k : Nat) (hk : k ≤ ts.length) (ht : ∀ t ∈ ts, Lx.TokOK (Lx.tok t)) : Lx.spaced none (wrL ts zs k) := by
  refine spaced_of _ none fun i hi => ?_
  have hi' : i < k := by simpa [wrL] using hi
  have e : (wrL ts zs k)[i] = (sepJ ts i ++ sepP zs i, tokAt ts i) := by simp [wrL]
  have hat : ∀ j, j < k → Lx.TokOK (tokAt ts j) := fun j hj => by
    unfold tokAt
    rw [List.getD_eq_getElem?_getD, List.getElem?_eq_getElem (show j < ts.length by omega)]
    exact ht _ (List.getElem_mem _)
  rw [e]
  refine ⟨?_, hat i hi', ?_⟩
  · rw [List.all_append]
    have h1 : (sepJ ts i).all (Lx.isB 1) = true := by unfold sepJ; split <;> rfl
    have h2 : (sepP zs i).all (Lx.isB 1) = true := by
      unfold sepP; split
      · exact pad_blank _
      · rfl
    rw [h1, h2]; rfl
  · intro he a ha
    simp only at he ⊢
    have h1 : sepJ ts i = [] := (List.append_eq_nil_iff.1 he).1
    split at ha
    · cases ha
    · rename_i h0
      have e2 : (wrL ts zs k)[i - 1]? = some (sepJ ts (i - 1) ++ sepP zs (i - 1), tokAt ts (i - 1)) := by
        simp [wrL, show i - 1 < k by omega]
      rw [e2] at ha
      simp only [Option.map_some, Option.some.injEq] at ha
      subst ha
      unfold sepJ at h1
      split at h1
      · cases h1
      · rename_i hn
        cases hj : Lx.join (tokAt ts (i - 1)) (tokAt ts i) with
        | false => rfl
        | true => exact absurd ⟨by omega, hj⟩ hn

theorem wr_len (ts : List Lx.PTok) (zs : List Nat) (m : Nat) (hm : ∀ t ∈ ts, (Lx.spell (Lx.tok t)).length ≤ m) : ∀ k, k ≤ ts.length → (Lx.flat (wrL ts zs k)).length ≤ k * (m + 3)
  | 0, _ => by simp [wrL, Lx.flat]
  | k + 1, hk => by
    have ih := wr_len ts zs m hm k (by omega)
    rw [flat_wr]
    have h1 : (sepJ ts k).length ≤ 1 := by unfold sepJ; split <;> simp
    have h2 : (sepP zs k).length ≤ 2 := by
      unfold sepP; split
      · exact pad_len _
      · simp
    have h3 : (Lx.spell (tokAt ts k)).length ≤ m := by
      unfold tokAt
      rw [List.getD_eq_getElem?_getD, List.getElem?_eq_getElem (show k < ts.length by omega)]
      exact hm _ (List.getElem_mem _)
    simp only [List.length_append]
    rw [Nat.succ_mul]
    omega

theorem wr_same (ts : List Lx.PTok) (zs : List Nat) (ht : ∀ t ∈ ts, Lx.TokOK (Lx.tok t)) : ∃ ys, Lx.lexAll (Lx.flat (wrL ts zs ts.length)) = (ys, none) ∧ ys.length = ts.length ∧ Lx.sameL ts ys false = true := by
  refine ⟨_, Lx.lexAll_flat _ (wr_spaced ts zs _ (Nat.le_refl _) ht), ?_, ?_⟩
  · have := congrArg List.length (Lx.placed_toks (wrL ts zs ts.length) 0)
    simpa [wrL] using this
  · rw [Lx.sameL_iff, Lx.placed_toks, decide_eq_true_iff]
    apply List.ext_getElem
    · simp [wrL]
    · intro i h1 h2
      simp [wrL, tokAt, List.getD_eq_getElem?_getD]
      rw [List.getElem?_eq_getElem (by simpa using h1)]; rfl
end Go.Proofs.Ytleclhmdcdichaa
