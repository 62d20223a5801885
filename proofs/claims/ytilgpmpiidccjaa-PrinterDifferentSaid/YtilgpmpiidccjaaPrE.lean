/- The forms of items; how the tokens of an item begin. -/
import Derived.Test.YtilgpmpiidccjaaPrD
namespace Go.Proofs.Ytilgpmpiidccjaa.Tr
open Lx (Tok)

def IsRow (a : Nd) : Prop := a.kind = 1 ∧ form a = true
inductive View : Nd → Prop
  | sym (t : Bytes) (h : symbol t = true) : View (.mk 2 t 0 [])
  | num (t : Bytes) (h : isNum t = true) : View (.mk 3 t 0 [])
  | text (t : Bytes) (h : (decide (t.length ≤ 200) && printable t) = true) : View (.mk 4 t 0 [])
  | frac (a b : Nd) (ha : IsRow a) (hb : IsRow b) : View (.mk 5 [] 0 [a, b])
  | root (a b : Nd) (ha : IsRow a) (hb : IsRow b) : View (.mk 6 [] 0 [a, b])
  | sub (a b : Nd) (ha : IsRow a) (hb : IsRow b) : View (.mk 7 [] 0 [a, b])
  | sup (a b : Nd) (ha : IsRow a) (hb : IsRow b) : View (.mk 8 [] 0 [a, b])
  | both (a b d : Nd) (ha : IsRow a) (hb : IsRow b) (hd : IsRow d) : View (.mk 9 [] 0 [a, b, d])
  | accent (t : Bytes) (a : Nd) (h : accents.contains t = true) (ha : IsRow a) : View (.mk 10 t 0 [a])
  | fence (t : Bytes) (a : Nd) (h : Tr.fence t = true) (ha : IsRow a) : View (.mk 11 t 0 [a])
  | matrix (c : Int) (ks : List Nd) (hc : 1 ≤ c) (hn : 1 ≤ ks.length) (hm : (ks.length : Int) % c = 0) (h : ∀ k ∈ ks, IsRow k) : View (.mk 12 [] c ks)

theorem rows_of (l : List Nd) (h : formL false l = true) : ∀ x ∈ l, IsRow x := by
  induction l with
  | nil => intro x hx; cases hx
  | cons y l ih =>
    rw [formL, Bool.and_eq_true, Bool.and_eq_true] at h
    obtain ⟨⟨h1, h2⟩, h3⟩ := h
    intro x hx
    rcases List.mem_cons.1 hx with rfl | hx
    · exact ⟨by simpa using h1, h2⟩
    · exact ih h3 x hx
theorem items_of (l : List Nd) (h : formL true l = true) : ∀ x ∈ l, x.kind ≠ 1 ∧ form x = true := by
  induction l with
  | nil => intro x hx; cases hx
  | cons y l ih =>
    rw [formL, Bool.and_eq_true, Bool.and_eq_true] at h
    obtain ⟨⟨h1, h2⟩, h3⟩ := h
    intro x hx
    rcases List.mem_cons.1 hx with rfl | hx
    · exact ⟨by simpa using h1, h2⟩
    · exact ih h3 x hx
theorem IsRow.items {a : Nd} (h : IsRow a) : ∀ x ∈ a.kids, x.kind ≠ 1 ∧ form x = true := by
  obtain ⟨h1, h2⟩ := h
  rw [form_eq, h1, Bool.and_eq_true] at h2
  exact items_of _ h2.2

theorem view_of (n : Nd) (hf : form n = true) (hk : n.kind ≠ 1) : View n := by
  obtain ⟨k, t, c, ks⟩ := n
  rw [form, Bool.and_eq_true, Bool.and_eq_true] at hf
  obtain ⟨⟨h1, h2⟩, h3⟩ := hf
  have hk1 : (k == 1) = false := by rw [beq_eq_false_iff_ne]; exact hk
  rw [hk1] at h3
  have hrows := rows_of ks h3
  unfold kidsOK at h2
  unfold textOK at h1
  by_cases e12 : k = 12
  · subst e12
    simp at h1 h2
    subst h1
    obtain ⟨⟨⟨⟨h4, h5⟩, h6⟩, h7⟩, h8⟩ := h2
    exact .matrix c ks h4 h6 (by omega) hrows
  · rw [if_neg e12] at h2
    by_cases hc : c = 0
    · subst hc
      simp only [ne_eq, not_true_eq_false, if_false] at h2
      have hk' : k ≠ 1 := hk
      rw [if_neg hk'] at h2
      by_cases e2 : k = 2
      · subst e2
        simp at h1 h2
        subst h2
        exact .sym t h1
      · by_cases e3 : k = 3
        · subst e3
          simp at h1 h2
          subst h2
          exact .num t h1
        · by_cases e4 : k = 4
          · subst e4
            simp at h2
            subst h2
            rw [if_neg (by decide), if_neg (by decide), if_pos rfl] at h1
            exact .text t h1
          · rw [if_neg (by omega)] at h2
            rw [if_neg e2, if_neg e3, if_neg e4] at h1
            by_cases e10 : k = 10
            · subst e10
              simp only [if_true] at h1
              rw [if_neg (by decide), if_neg (by decide), if_pos (by decide)] at h2
              match ks, h2, hrows with
              | [a], _, hr => exact .accent t a h1 (hr a (by simp))
            · by_cases e11 : k = 11
              · subst e11
                rw [if_neg (by decide), if_pos rfl] at h1
                rw [if_neg (by decide), if_neg (by decide), if_pos (by decide)] at h2
                match ks, h2, hrows with
                | [a], _, hr => exact .fence t a h1 (hr a (by simp))
              · rw [if_neg e10, if_neg e11] at h1
                have ht : t = [] := by simpa using h1
                subst ht
                by_cases e9 : k = 9
                · subst e9
                  rw [if_neg (by decide), if_pos rfl] at h2
                  match ks, h2, hrows with
                  | [a, b, d], _, hr => exact .both a b d (hr a (by simp)) (hr b (by simp)) (hr d (by simp))
                · by_cases e58 : k = 5 ∨ k = 6 ∨ k = 7 ∨ k = 8
                  · rw [if_pos e58] at h2
                    match ks, h2, hrows with
                    | [a, b], _, hr =>
                      have ha := hr a (by simp)
                      have hb := hr b (by simp)
                      rcases e58 with rfl | rfl | rfl | rfl
                      · exact .frac a b ha hb
                      · exact .root a b ha hb
                      · exact .sub a b ha hb
                      · exact .sup a b ha hb
                  · rw [if_neg e58, if_neg e9, if_neg (by omega)] at h2
                    cases h2
    · rw [if_pos hc] at h2; cases h2
end Go.Proofs.Ytilgpmpiidccjaa.Tr
