/- An element with one name changed, as plain data: it is refused there. -/
import Derived.Test.YtloipakdnalpdaaMnP
namespace Go.Proofs.Ytloipakdnalpdaa.El

mutual
/-- The element in which the one with number k has another name; the number behind it. -/
def ren (k : Nat) (nm : Bytes) : Nat → E → E × Nat
  | i, .mk n a ks t => (.mk (if i = k then nm else n) a (renL k nm (i + 1) ks).1 t, (renL k nm (i + 1) ks).2)
def renL (k : Nat) (nm : Bytes) : Nat → List E → List E × Nat
  | i, [] => ([], i)
  | i, x :: xs => ((ren k nm i x).1 :: (renL k nm (ren k nm i x).2 xs).1, (renL k nm (ren k nm i x).2 xs).2)
end
theorem ren_eq (k : Nat) (nm : Bytes) (i : Nat) (e : E) : ren k nm i e = (.mk (if i = k then nm else e.name) e.attrs (renL k nm (i + 1) e.kids).1 e.text, (renL k nm (i + 1) e.kids).2) := by cases e; rw [ren]; rfl
theorem renL_snd (k : Nat) (nm : Bytes) (l : List E) (h : ∀ x ∈ l, ∀ i, (ren k nm i x).2 = i + count x) : ∀ i, (renL k nm i l).2 = i + countL l := by
  induction l with
  | nil => intro i; rw [renL, countL]; rfl
  | cons x l ih =>
    intro i
    rw [renL, countL, h x (List.mem_cons_self ..)]
    show (renL k nm (i + count x) l).2 = _
    rw [ih (fun y hy => h y (List.mem_cons_of_mem _ hy))]
    omega
theorem ren_snd (k : Nat) (nm : Bytes) (e : E) : ∀ i, (ren k nm i e).2 = i + count e := by
  induction e using E.ind with
  | h e ih => intro i; rw [ren_eq, count_kids]; show (renL k nm (i + 1) e.kids).2 = _; rw [renL_snd k nm e.kids ih]; omega
theorem renL_snd' (k : Nat) (nm : Bytes) (l : List E) (i : Nat) : (renL k nm i l).2 = i + countL l := renL_snd k nm l (fun x _ i => ren_snd k nm x i) i
theorem renL_len (k : Nat) (nm : Bytes) (l : List E) : ∀ i, (renL k nm i l).1.length = l.length := by
  induction l with
  | nil => intro i; rw [renL]
  | cons x l ih => intro i; rw [renL]; show (_ :: _).length = _; rw [List.length_cons, ih, List.length_cons]
theorem renL_snoc (k : Nat) (nm : Bytes) (l : List E) : ∀ (i j : Nat) (h : j < l.length), (renL k nm i (l.take (j + 1))).1 = (renL k nm i (l.take j)).1 ++ [(ren k nm (i + countL (l.take j)) l[j]).1] := by
  induction l with
  | nil => intro i j h; simp at h
  | cons x l ih =>
    intro i j h
    cases j with
    | zero => simp [renL, countL]
    | succ j =>
      simp only [List.take_succ_cons, renL, countL, List.getElem_cons_succ, List.cons_append]
      rw [ih _ j (by simpa using h), ren_snd, Nat.add_assoc]
theorem ren_out (k : Nat) (nm : Bytes) (e : E) : ∀ i, (k < i ∨ i + count e ≤ k) → (ren k nm i e).1 = e := by
  induction e using E.ind with
  | h e ih =>
    intro i hk
    have hL : ∀ (l : List E), (∀ x ∈ l, x ∈ e.kids) → ∀ i, (k < i ∨ i + countL l ≤ k) → (renL k nm i l).1 = l := by
      intro l
      induction l with
      | nil => intro _ i _; rw [renL]
      | cons x l ihl =>
        intro hm i hk
        rw [countL] at hk
        rw [renL]
        show (ren k nm i x).1 :: (renL k nm (ren k nm i x).2 l).1 = _
        rw [ren_snd, ih x (hm x (List.mem_cons_self ..)) i (by omega), ihl (fun y hy => hm y (List.mem_cons_of_mem _ hy)) _ (by omega)]
    rw [count_kids] at hk
    have := count_pos e
    rw [ren_eq, hL e.kids (fun x hx => hx) _ (by omega), if_neg (by omega)]
    exact (E.eta e).symm
theorem ren_parts (k : Nat) (nm : Bytes) (e : E) (i : Nat) : (ren k nm i e).1.attrs = e.attrs ∧ (ren k nm i e).1.text = e.text ∧ (ren k nm i e).1.kids.length = e.kids.length ∧ (i ≠ k → (ren k nm i e).1.name = e.name) ∧ (i = k → (ren k nm i e).1.name = nm) := by
  rw [ren_eq]
  refine ⟨rfl, rfl, renL_len _ _ _ _, fun h => if_neg h, fun h => if_pos h⟩

def nNone : Bytes := [110, 111, 110, 101]
theorem own_none_name (a : Attrs) (ks : List E) (t : Bytes) : ownF (.mk nNone a ks t) = false := by
  show (t.isEmpty && false && _ && _) = false
  simp
theorem ownF_same (e e' : E) (hn : e'.name = e.name) (ha : e'.attrs = e.attrs) (hk : e'.kids.length = e.kids.length) (ht : e'.text = e.text) : ownF e' = ownF e := by
  obtain ⟨n, a, ks, t⟩ := e
  obtain ⟨n', a', ks', t'⟩ := e'
  simp only [E.name, E.attrs, E.kids, E.text] at hn ha hk ht
  subst hn ha ht
  have : ks'.isEmpty = ks.isEmpty := by rw [Bool.eq_iff_iff, List.isEmpty_iff_length_eq_zero, List.isEmpty_iff_length_eq_zero, hk]
  unfold ownF
  simp only [hk, this]
theorem admF_same (n : Bytes) (a : Attrs) (ks ks' : List E) (t : Bytes) (x x' : E) (hc : colsN ks' = colsN ks) (h0 : 0 < ks.length) (h0' : 0 < ks'.length) (hn : x'.name = x.name) (hk : x'.kids.length = x.kids.length) : admF (.mk n a ks' t) x' = admF (.mk n a ks t) x := by
  obtain ⟨m, b, ls, s⟩ := x
  obtain ⟨m', b', ls', s'⟩ := x'
  simp only [E.name, E.kids] at hn hk
  subst hn
  match ks, ks', h0, h0', hc with
  | .mk _ _ js _ :: r, .mk _ _ js' _ :: r', _, _, hc =>
    have hc : js'.length = js.length := hc
    unfold admF
    simp only [hk, hc]
/-- It is refused at the element that was renamed. -/
theorem ren_vis (k : Nat) (e : E) : ∀ i, i ≤ k → k < i + count e → okT e = true → ∀ adm, (i ≠ k → adm = true) → vis adm i (ren k nNone i e).1 = (false, k + 1) := by
  induction e using E.ind with
  | h e ih =>
    intro i hik hk hok adm hadm
    have hp := ren_parts k nNone e i
    rw [vis_eq]
    by_cases h : i = k
    · have ho : ownF (ren k nNone i e).1 = false := by
        rw [E.eta (ren k nNone i e).1, hp.2.2.2.2 h]
        exact own_none_name _ _ _
      rw [ho, Bool.and_false, h]; rfl
    · rw [okT_eq, Bool.and_eq_true] at hok
      rw [ownF_same e _ (hp.2.2.2.1 h) hp.1 hp.2.2.1 hp.2.1, hok.1, hadm h]
      simp only [Bool.true_and, if_true]
      have hL : ∀ (p : E) (l : List E), (∀ x ∈ l, x ∈ e.kids) → (∀ x ∈ l, ∀ x' : E, x'.name = x.name → x'.kids.length = x.kids.length → admF p x' = true) → (∀ x ∈ l, okT x = true) →
          ∀ i, i ≤ k → k < i + countL l → visL p i (renL k nNone i l).1 = (false, k + 1) := by
        intro p l
        induction l with
        | nil => intro _ _ _ i h1 h2; rw [countL] at h2; omega
        | cons x l ihl =>
          intro hm ha ho i h1 h2
          rw [countL] at h2
          rw [renL, visL]
          have hx := ren_parts k nNone x i
          by_cases hkx : k < i + count x
          · rw [ih x (hm x (List.mem_cons_self ..)) i h1 hkx (ho x (List.mem_cons_self ..)) _ (fun hne => ha x (List.mem_cons_self ..) _ (hx.2.2.2.1 hne) hx.2.2.1)]
          · rw [ren_snd, ren_out k nNone x i (by omega)]
            rw [(vis_spec x _ _).1 (by rw [ha x (List.mem_cons_self ..) x rfl rfl, ho x (List.mem_cons_self ..)]; rfl)]
            exact ihl (fun y hy => hm y (List.mem_cons_of_mem _ hy)) (fun y hy => ha y (List.mem_cons_of_mem _ hy)) (fun y hy => ho y (List.mem_cons_of_mem _ hy)) _ (by omega) (by omega)
      have hall := hok.2
      rw [okL_all, List.all_eq_true] at hall
      have hkids : (ren k nNone i e).1.kids = (renL k nNone (i + 1) e.kids).1 := by rw [ren_eq]; rfl
      rw [hkids]
      rw [count_kids] at hk
      refine hL _ e.kids (fun x hx => hx) (fun x hx x' hn hl => ?_) (fun x hx => by have := hall x hx; rw [Bool.and_eq_true] at this; exact this.2) (i + 1) (by omega) (by omega)
      have hax : admF e x = true := by have := hall x hx; rw [Bool.and_eq_true] at this; exact this.1
      have hne : 0 < e.kids.length := List.length_pos_of_mem hx
      rw [E.eta (ren k nNone i e).1, hp.2.2.2.1 h, hp.1, hp.2.1, hkids]
      rw [← hax]
      conv => rhs; rw [E.eta e]
      refine admF_same _ _ _ _ _ x x' ?_ hne (by rw [renL_len]; exact hne) hn hl |>.trans ?_
      · match hks : e.kids, hne with
        | y :: r, _ =>
          rw [renL]
          show colsN ((ren k nNone (i + 1) y).1 :: _) = _
          have := (ren_parts k nNone y (i + 1)).2.2.1
          obtain ⟨yn, ya, yk, yt⟩ := y
          rcases hr : (ren k nNone (i + 1) (E.mk yn ya yk yt)).1 with ⟨zn, za, zk, zt⟩
          rw [hr] at this
          exact this
      · rfl
theorem ren_fault (k : Nat) (e : E) (hk : k < count e) (hok : okT e = true) (hn : e.name = nMath) : faultF (ren k nNone 0 e).1 = ((k : Int), true) := by
  have hp := ren_parts k nNone e 0
  have hv := ren_vis k e 0 (Nat.zero_le _) (by omega) hok (decide ((ren k nNone 0 e).1.name = nMath)) (fun h => by rw [hp.2.2.2.1 h, hn]; rfl)
  unfold faultF
  rw [hv]
  show ((((k + 1 : Nat) : Int) - 1), true) = _
  congr 1
  omega
theorem ren_count (k : Nat) (nm : Bytes) (e : E) : ∀ i, count (ren k nm i e).1 = count e ∧ depth (ren k nm i e).1 = depth e ∧ (nameOK nm = true → proper e = true → proper (ren k nm i e).1 = true) := by
  induction e using E.ind with
  | h e ih =>
    intro i
    have hL : ∀ (l : List E), (∀ x ∈ l, x ∈ e.kids) → ∀ i, countL (renL k nm i l).1 = countL l ∧ depthL (renL k nm i l).1 = depthL l ∧ (nameOK nm = true → properL l = true → properL (renL k nm i l).1 = true) := by
      intro l
      induction l with
      | nil => intro _ i; rw [renL]; exact ⟨rfl, rfl, fun _ h => h⟩
      | cons x l ihl =>
        intro hm i
        obtain ⟨h1, h2, h3⟩ := ih x (hm x (List.mem_cons_self ..)) i
        obtain ⟨h4, h5, h6⟩ := ihl (fun y hy => hm y (List.mem_cons_of_mem _ hy)) (ren k nm i x).2
        rw [renL]
        show countL (_ :: _) = _ ∧ depthL (_ :: _) = _ ∧ (_ → _ → properL (_ :: _) = true)
        rw [countL, countL, depthL, depthL, properL, properL, h1, h2, h4, h5]
        refine ⟨rfl, rfl, fun hn hp => ?_⟩
        rw [Bool.and_eq_true] at hp ⊢
        exact ⟨h3 hn hp.1, h6 hn hp.2⟩
    obtain ⟨h1, h2, h3⟩ := hL e.kids (fun x hx => hx) (i + 1)
    rw [ren_eq, count_kids, depth_kids, proper_eq, proper_eq, count_kids e, depth_kids e]
    refine ⟨congrArg (1 + ·) h1, congrArg (· + 1) h2, fun hn hp => ?_⟩
    rw [Bool.and_eq_true] at hp ⊢
    refine ⟨?_, h3 hn hp.2⟩
    have ho := hp.1
    have hl : ((renL k nm (i + 1) e.kids).1).isEmpty = e.kids.isEmpty := by rw [Bool.eq_iff_iff, List.isEmpty_iff_length_eq_zero, List.isEmpty_iff_length_eq_zero, renL_len]
    show (nameOK (if i = k then nm else e.name) && valueOK e.text && (e.text.isEmpty || ((renL k nm (i + 1) e.kids).1).isEmpty) && decide (e.attrs.length ≤ 8) && attrsOK e.attrs) = true
    replace ho : (nameOK e.name && valueOK e.text && (e.text.isEmpty || e.kids.isEmpty) && decide (e.attrs.length ≤ 8) && attrsOK e.attrs) = true := ho
    rw [hl]
    by_cases h : i = k
    · rw [if_pos h, hn]
      simp only [Bool.and_eq_true, Bool.true_and] at ho ⊢
      exact ⟨⟨⟨ho.1.1.1.2, ho.1.1.2⟩, ho.1.2⟩, ho.2⟩
    · rw [if_neg h]
      exact ho
theorem ren_valid (k : Nat) (nm : Bytes) (e : E) (i : Nat) (hn : nameOK nm = true) (h : valid e = true) : valid (ren k nm i e).1 = true := by
  obtain ⟨h1, h2, h3⟩ := ren_count k nm e i
  unfold valid at h ⊢
  rw [h1, h2]
  simp only [Bool.and_eq_true] at h ⊢
  exact ⟨⟨h3 hn h.1.1, h.1.2⟩, h.2⟩
end Go.Proofs.Ytloipakdnalpdaa.El
