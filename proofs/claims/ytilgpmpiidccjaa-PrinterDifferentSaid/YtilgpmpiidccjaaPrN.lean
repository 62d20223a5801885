/- The tokens of a small valid tree fit into a printer. -/
import Derived.Test.YtilgpmpiidccjaaPrL
namespace Go.Proofs.Ytilgpmpiidccjaa
open Tr (Nd View IsRow itemT rowT argT baseT cellsT count countL AllOK)

def cost : List Lx.Tok → Nat
  | [] => 0
  | t :: l => (Lx.spell t).length + 1 + cost l

theorem adds_len : ∀ (l : List Lx.Tok) (toks : List Lx.PTok) (txt : List UInt8), (adds l toks txt).1.length = toks.length + l.length ∧ (adds l toks txt).2.length ≤ txt.length + cost l
  | [], _, _ => ⟨rfl, Nat.le_refl _⟩
  | t :: l, toks, txt => by
    have h := adds_len l (added toks txt t) (txt ++ gap toks t ++ Lx.spell t)
    have hg : (gap toks t).length ≤ 1 := by unfold gap; split <;> simp
    simp only [adds, added, List.length_append, List.length_nil, List.length_cons, cost] at h ⊢
    omega
theorem ok_text (t : Lx.Tok) (h : Lx.TokOK t) : t.text.length ≤ 200 := by
  rcases h with ⟨_, c, h, _⟩ | ⟨_, h, _⟩ | ⟨_, h, _⟩ | ⟨_, h, _⟩ | ⟨_, a, b, h, _⟩ | ⟨_, c, h, _⟩ | ⟨_, c, h, _⟩ | ⟨_, h⟩
  · rw [h]; simp
  · omega
  · exact h
  · omega
  · rw [h]; simp
  · rw [h]; simp
  · rw [h]; simp
  · rw [h]; simp
theorem ok_cost : ∀ l : List Lx.Tok, AllOK l → cost l ≤ 407 * l.length
  | [], _ => Nat.le_refl _
  | t :: l, h => by
    have h1 := ok_cost l fun x hx => h x (by simp [hx])
    have h2 := ok_text t (h t (by simp))
    have h3 := spellL_le t.kind t.text
    have h4 : (Lx.spell t).length ≤ 2 * t.text.length + 6 := h3
    simp only [cost, List.length_cons]
    omega

theorem rowT_len (ks : List Nd) (h : ∀ x ∈ ks, (itemT x).length ≤ 3 * count x) : (rowT ks).length ≤ 3 * countL ks := by
  induction ks with
  | nil => rw [Tr.rowT_nil]; simp
  | cons x ks ih =>
    rw [Tr.rowT_cons, List.length_append, countL]
    have h1 := h x (by simp)
    have h2 := ih fun y hy => h y (by simp [hy])
    omega
theorem argT_len (a : Nd) (h : ∀ x ∈ a.kids, (itemT x).length ≤ 3 * count x) : (argT a).length ≤ 3 * count a - 1 := by
  have hc := Tr.count_kids a
  have hr := rowT_len a.kids h
  rw [Tr.argT_eq]
  split
  · rename_i x hx
    rw [hx] at h hc hr
    have h1 := h x (by simp)
    simp only [countL] at hc
    split
    · omega
    · simp only [List.length_cons, List.length_append, List.length_nil, countL] at hr ⊢; omega
  · simp only [List.length_cons, List.length_append, List.length_nil]; omega
theorem baseT_len (a : Nd) (h : ∀ x ∈ a.kids, (itemT x).length ≤ 3 * count x) : (baseT a).length ≤ 3 * count a - 1 := by
  have hc := Tr.count_kids a
  have hr := rowT_len a.kids h
  rw [Tr.baseT_eq]
  split
  · rename_i x hx
    rw [hx] at h hc hr
    have h1 := h x (by simp)
    simp only [countL] at hc
    split
    · simp only [List.length_cons, List.length_append, List.length_nil, countL] at hr ⊢; omega
    · omega
  · simp only [List.length_cons, List.length_append, List.length_nil]; omega
theorem cellsT_len (c : Int) : ∀ (ks : List Nd) (i : Nat), (∀ k ∈ ks, ∀ x ∈ k.kids, (itemT x).length ≤ 3 * count x) → (cellsT c i ks).length ≤ 3 * countL ks
  | [], _, _ => by rw [cellsT]; simp
  | k :: ks, i, h => by
    have h1 := cellsT_len c ks (i + 1) fun y hy => h y (by simp [hy])
    have h2 := rowT_len k.kids (h k (by simp))
    have h3 := Tr.count_kids k
    rw [cellsT, List.length_append, List.length_append, countL]
    have h4 : (if i = 0 then [] else if (i : Int) % c = 0 then [(⟨8, [92, 92]⟩ : Lx.Tok)] else [Tr.mk7 38]).length ≤ 1 := by
      split
      · simp
      · split <;> simp
    omega
theorem item_len (m : Nat) : ∀ n, count n ≤ m → View n → (itemT n).length ≤ 3 * count n := by
  induction m with
  | zero => intro n h; have := Tr.count_pos n; omega
  | succ m ih =>
    intro n hc v
    have hk : ∀ (k : Int) (t : Tr.Bytes) (c : Int) (ks : List Nd), n = .mk k t c ks → ∀ a ∈ ks, IsRow a → ∀ x ∈ a.kids, (itemT x).length ≤ 3 * count x := fun k t c ks e a ha hr x hx => by
      have h1 := Tr.count_mem hx
      have h2 := Tr.count_kids a
      have h3 := Tr.count_mem ha
      rw [e, count] at hc
      exact ih x (by omega) (hr.views x hx)
    cases v with
    | sym t h => rw [Tr.itemT_sym]; simp [count]; omega
    | num t h => rw [Tr.itemT_num]; simp [count]; omega
    | text t h => rw [Tr.itemT_text]; simp [count]; omega
    | frac a b ha hb =>
      have h1 := argT_len a (hk _ _ _ _ rfl a (by simp) ha)
      have h2 := argT_len b (hk _ _ _ _ rfl b (by simp) hb)
      have h3 := Tr.count_pos a
      have h4 := Tr.count_pos b
      rw [Tr.itemT_frac]
      simp only [List.length_cons, List.length_append, count, countL]
      omega
    | root a b ha hb =>
      have h1 := rowT_len a.kids (hk _ _ _ _ rfl a (by simp) ha)
      have h2 := argT_len b (hk _ _ _ _ rfl b (by simp) hb)
      have h3 := Tr.count_kids a
      have h4 := Tr.count_pos b
      rw [Tr.itemT_root]
      simp only [List.length_cons, List.length_append, count, countL]
      split
      · simp only [List.length_nil]; omega
      · simp only [List.length_cons, List.length_append, List.length_nil]; omega
    | sub a b ha hb =>
      have h1 := baseT_len a (hk _ _ _ _ rfl a (by simp) ha)
      have h2 := argT_len b (hk _ _ _ _ rfl b (by simp) hb)
      have h3 := Tr.count_pos a
      have h4 := Tr.count_pos b
      rw [Tr.itemT_sub]
      simp only [List.length_cons, List.length_append, count, countL]
      omega
    | sup a b ha hb =>
      have h1 := baseT_len a (hk _ _ _ _ rfl a (by simp) ha)
      have h2 := argT_len b (hk _ _ _ _ rfl b (by simp) hb)
      have h3 := Tr.count_pos a
      have h4 := Tr.count_pos b
      rw [Tr.itemT_sup]
      simp only [List.length_cons, List.length_append, count, countL]
      omega
    | both a b d ha hb hd =>
      have h1 := baseT_len a (hk _ _ _ _ rfl a (by simp) ha)
      have h2 := argT_len b (hk _ _ _ _ rfl b (by simp) hb)
      have h3 := argT_len d (hk _ _ _ _ rfl d (by simp) hd)
      have h4 := Tr.count_pos a
      have h5 := Tr.count_pos b
      have h6 := Tr.count_pos d
      rw [Tr.itemT_both]
      simp only [List.length_cons, List.length_append, count, countL]
      omega
    | accent t a h ha =>
      have h1 := argT_len a (hk _ _ _ _ rfl a (by simp) ha)
      rw [Tr.itemT_accent]
      simp only [List.length_cons, count, countL]
      omega
    | fence t a h ha =>
      have h1 := argT_len a (hk _ _ _ _ rfl a (by simp) ha)
      have h2 := rowT_len a.kids (hk _ _ _ _ rfl a (by simp) ha)
      have h3 := Tr.count_kids a
      rw [Tr.itemT_fence]
      split
      · simp only [List.length_cons, List.length_append, List.length_nil, count, countL]; omega
      · simp only [List.length_cons, count, countL]; omega
    | matrix c ks hc1 hn hm h =>
      have h1 := cellsT_len c ks 0 fun k hk' => hk _ _ _ _ rfl k hk' (h k hk')
      rw [Tr.itemT_matrix c ks (by rintro rfl; simp at hn)]
      simp only [List.length_cons, List.length_append, List.length_nil, count]
      omega

theorem row_len (a : Nd) (ha : IsRow a) : (rowT a.kids).length ≤ 3 * count a := by
  have := rowT_len a.kids fun x hx => item_len _ x (Nat.le_refl _) (ha.views x hx)
  have := Tr.count_kids a
  omega
/-- The tokens of a valid tree of at most 800 nodes fit into an empty printer. -/
theorem row_fits (a : Nd) (ha : IsRow a) (hc : count a ≤ 800) : Fits (rowT a.kids) [] [] := by
  have h1 := row_len a ha
  have h2 := ok_cost _ (Tr.row_ok a ha)
  have h3 := adds_len (rowT a.kids) [] []
  simp only [List.length_nil] at h3
  unfold Fits
  omega
end Go.Proofs.Ytilgpmpiidccjaa
