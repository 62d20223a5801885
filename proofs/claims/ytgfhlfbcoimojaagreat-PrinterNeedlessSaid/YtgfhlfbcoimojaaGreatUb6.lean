/- Part 6 of 53 of a proof; its texts, joined: NuG. No condition. -/
import Derived.Test.YtgfhlfbcoimojaaGreatUb5

/- The parser against the printer, by induction. No program in sight. -/
namespace Go.Proofs.YtgfhlfbcoimojaaGreat.Np
open Lx (PTok Tok)
open Tr (Nd View IsRow mk7 rowT itemT argT baseT cellsT leaf scripted sFrac sRoot sMatrix)
theorem Cmp.swap {B mb A ma C mc : List Tok} (hb : Cmp B mb) (ha : Cmp A ma) (hc : Cmp C mc) : Cmp (B ++ mk7 95 :: (A ++ mk7 94 :: C)) (mb ++ mk7 94 :: (mc ++ mk7 95 :: ma)) := by
 refine ⟨?_, ?_, ?_, ?_⟩
 ·rcases hb.df with rfl | ⟨p, a, x, a', y, rfl, rfl, hd⟩
  ·exact .inr ⟨B, mk7 95, _, mk7 94, _, rfl, rfl, .inr (.inl ⟨rfl, rfl⟩)⟩
  ·exact .inr ⟨p, a, x ++ mk7 95 :: (A ++ mk7 94 :: C), a', y ++ mk7 94 :: (mc ++ mk7 95 :: ma), by simp, by simp, hd⟩
 ·have h1 := hb.wt
  have h2 := ha.wt
  have h3 := hc.wt
  simp only [wt_app, Np.wt]
  omega
 ·have h1 := hb.br
  have h2 := ha.br
  have h3 := hc.br
  simp only [br_app, Np.br]
  omega
 ·simp only [qs_app, Np.qs, hb.qs, ha.qs, hc.qs]
  omega
theorem Cmp.hollow {c m e : List Tok} {t : Tok} {a : Tok} {x : List Tok} (h : Cmp c m) (hc : c = a :: x) (ha : a ≠ mk7 91) (he : Cmp [] e) : Cmp (t :: c) (t :: (mk7 91 :: (e ++ mk7 93 :: m))) := by
 refine ⟨.inr ⟨[t], a, x, mk7 91, e ++ mk7 93 :: m, by rw [hc]; rfl, rfl, .inr (.inr (.inr ⟨rfl, ha⟩))⟩, ?_, ?_, ?_⟩
 ·have h1 := h.wt
  simp only [Np.wt, wt_app]
  omega
 ·have h1 := h.br
  simp only [Np.br, br_app]
  omega
 ·have h1 := h.qs
  have h2 : 0 = Np.qs e := he.qs
  simp only [Np.qs, qs_app, h1, ← h2]
  simp [Lx.spell, Lx.spellL, mk7]
theorem arg_head (a : Nd) (ha : IsRow a) : ∃ t x, argT a = t :: x ∧ t ≠ mk7 91 := by
 rw [Tr.argT_eq]
 split
 ·rename_i x hx
  split
  ·rename_i hl
   have v := ha.views x (by rw [hx]; simp)
   cases v with
   | sym t h =>
    refine ⟨_, _, Tr.itemT_sym t, ?_⟩
    split <;> simp [mk7]
   | num t h => exact ⟨_, _, Tr.itemT_num t, by simp [mk7]⟩
   | text t h => exact ⟨_, _, Tr.itemT_text t, by simp [mk7]⟩
   | _ => simp [leaf, Nd.kind] at hl
  ·exact ⟨_, _, rfl, by decide⟩
 ·exact ⟨_, _, rfl, by decide⟩
structure CmpS (en f : Nat) : Prop where
 row : ∀ op l ks r, pRow en f op l = .ok ks r → G l → (∀ x ∈ ks, View x) → ∃ p, l = p ++ r ∧ Cmp (rowT ks) (tk p)
 within : ∀ b op o l ks r, pIn en f b op (o :: l) = .ok ks r → G l → (∀ x ∈ ks, View x) → ∃ p t, l = p ++ t :: r ∧ Lx.tok t = mk7 b ∧ Cmp (rowT ks) (tk p)
 arg : ∀ op l a r, pArg en f op l = .ok a r → G l → IsRow a → ∃ p, l = p ++ r ∧ Cmp (argT a) (tk p)
 args : ∀ n op l ks r, pArgs en f n op l = .ok ks r → ks.length = n ∧ (G l → (∀ a ∈ ks, IsRow a) → ∃ p, l = p ++ r ∧ Cmp (ks.flatMap argT) (tk p))
 script : ∀ b op l so r, pScript en f b op l = .ok so r → (so = none ∧ r = l) ∨ ∃ a, so = some a ∧ (G l → IsRow a → ∃ t p, l = t :: (p ++ r) ∧ Lx.tok t = mk7 b ∧ Cmp (argT a) (tk p))
 item : ∀ op l ks r, pItem en f op l = .ok ks r → G l → (∀ x ∈ ks, View x) → ∃ u p, ks = [u] ∧ l = p ++ r ∧ Cmp (itemT u) (tk p)
 prim : ∀ op l ks r, pPrim en f op l = .ok ks r → G l → (∀ x ∈ ks, View x) → (isM 123 l = false → ∃ u p, ks = [u] ∧ scripted u = false ∧ l = p ++ r ∧ Cmp (itemT u) (tk p)) ∧ (isM 123 l = true → ∃ o p t, l = o :: (p ++ t :: r) ∧ Lx.tok o = mk7 123 ∧ Lx.tok t = mk7 125 ∧ Cmp (rowT ks) (tk p))
 name : ∀ op t r ks r', pName en f op t r = .ok ks r' → G (t :: r) → t.kind = 4 → (∀ x ∈ ks, View x) → ∃ u p, ks = [u] ∧ scripted u = false ∧ r = p ++ r' ∧ Cmp (itemT u) (Lx.tok t :: tk p)
 cells : ∀ op ks0 b c l ks C r, pCells en f op ks0 b c l = .ok (ks, C) r → G l → (∀ k ∈ ks, IsRow k) → (b = 0 ∨ (1 ≤ c ∧ b % c = 0 ∧ b ≤ ks0.length)) →
  ∃ k0 ks', ks = ks0 ++ k0 :: ks' ∧ (b = 0 → ks0.length < C) ∧ (b ≠ 0 → C = c ∧ ks0.length < b + c) ∧ ∃ p t, l = p ++ t :: r ∧ Lx.tok t = mk7 125 ∧ Cmp (rowT k0.kids ++ cellsT (C : Int) (ks0.length + 1) ks') (tk p)
theorem bind_ok {α β : Type} {x : R α} {k : α → List PTok → R β} {b : β} {r : List PTok} (h : x.bind k = .ok b r) : ∃ a r', x = .ok a r' ∧ k a r' = .ok b r := by
 cases x with
 | ok a r' => exact ⟨a, r', rfl, h⟩
 | err i e => cases h
 | out => cases h
theorem map_ok {α β : Type} {x : R α} {k : α → β} {b : β} {r : List PTok} (h : x.map k = .ok b r) : ∃ a, x = .ok a r ∧ k a = b := by
 obtain ⟨a, r', h1, h2⟩ := bind_ok h
 cases h2
 exact ⟨a, h1, rfl⟩
theorem plain_name {t : PTok} {r r' : List PTok} {ks : List Nd} (h : plainName t r = .ok ks r') (hk : t.kind = 4) : ks = [.mk 2 t.text 0 []] ∧ r' = r ∧ itemT (.mk 2 t.text 0 []) = [Lx.tok t] := by
 unfold plainName at h
 split at h
 ·cases h
 ·rename_i hl
  cases h
  refine ⟨rfl, rfl, ?_⟩
  rw [Tr.itemT_sym, if_neg hl]
  unfold Lx.tok
  rw [hk]
theorem slot_row' {ks : List Nd} (h : IsRow (slot ks)) : ∀ x ∈ ks, View x := h.views
theorem cells_pre (en : Nat) : ∀ (f : Nat) (op : List Nat) (ks0 : List Nd) (b c : Nat) (l : List PTok) (ks : List Nd) (C : Nat) (r : List PTok), pCells en f op ks0 b c l = .ok (ks, C) r → ∃ ks', ks = ks0 ++ ks'
 | 0, _, _, _, _, _, _, _, _, h => by rw [pCells] at h; cases h
 | f + 1, op, ks0, b, c, l, ks, C, r, h => by
  rw [pCells] at h
  obtain ⟨items, r1, _, h5⟩ := bind_ok h
  split at h5
  ·obtain ⟨ks', e⟩ := cells_pre en f _ _ _ _ _ _ _ _ h5
   exact ⟨slot items :: ks', by rw [e]; simp⟩
  ·split at h5
   ·cases h5
   ·split at h5
    ·cases h5
    ·split at h5
     ·cases h5
      exact ⟨[slot items], rfl⟩
     ·obtain ⟨ks', e⟩ := cells_pre en f _ _ _ _ _ _ _ _ h5
      exact ⟨slot items :: ks', by rw [e]; simp⟩
theorem mod_line {C b j : Nat} (h1 : b % C = 0) (h2 : b ≤ j) (h3 : j + 1 < b + C) : (j + 1) % C ≠ 0 := by
 obtain ⟨q, hq⟩ : ∃ q, b = C * q := ⟨b / C, (Nat.mul_div_cancel' (Nat.dvd_of_mod_eq_zero h1)).symm⟩
 obtain ⟨d, hd⟩ : ∃ d, j + 1 = C * q + d := ⟨j + 1 - b, by omega⟩
 rw [hd, Nat.mul_add_mod, Nat.mod_eq_of_lt (by omega)]
 omega
theorem cellsT_mid {C : Nat} {i : Nat} {n : Nd} {ns : List Nd} (h0 : i ≠ 0) (h : i % C ≠ 0) : cellsT (C : Int) i (n :: ns) = mk7 38 :: (rowT n.kids ++ cellsT (C : Int) (i + 1) ns) := by
 rw [cellsT, if_neg h0, if_neg (by rw [show (i : Int) % (C : Int) = ((i % C : Nat) : Int) from (Int.natCast_emod i C).symm]; omega)]
 rfl
theorem cellsT_end {C : Nat} {i : Nat} {n : Nd} {ns : List Nd} (h0 : i ≠ 0) (h : i % C = 0) : cellsT (C : Int) i (n :: ns) = ⟨8, [92, 92]⟩ :: (rowT n.kids ++ cellsT (C : Int) (i + 1) ns) := by
 rw [cellsT, if_neg h0, if_pos (by rw [show (i : Int) % (C : Int) = ((i % C : Nat) : Int) from (Int.natCast_emod i C).symm, h]; rfl)]
 rfl
set_option maxHeartbeats 1000000 in
theorem cmps (en : Nat) : ∀ f, CmpS en f
 | 0 => by
  constructor
  ·intro op l ks r h; rw [pRow] at h; cases h
  ·intro b op o l ks r h; rw [pIn] at h; cases h
  ·intro op l a r h; rw [pArg] at h; cases h
  ·intro n op l ks r h; rw [pArgs] at h; cases h
  ·intro b op l so r h; rw [pScript] at h; cases h
  ·intro op l ks r h; rw [pItem] at h; cases h
  ·intro op l ks r h; rw [pPrim] at h; cases h
  ·intro op t r ks r' h; rw [pName] at h; cases h
  ·intro op ks0 b c l ks C r h; rw [pCells] at h; cases h
 | f + 1 => by
  have ih := cmps en f
  constructor
  ·intro op l ks r h hg hv
   rw [pRow] at h
   split at h
   ·cases h
   ·split at h
    ·cases h
     exact ⟨[], rfl, by rw [Tr.rowT_nil]; exact Cmp.refl _⟩
    ·obtain ⟨more, r1, h1, h2⟩ := bind_ok h
     obtain ⟨items, h3, rfl⟩ := map_ok h2
     obtain ⟨u, p, rfl, rfl, hc⟩ := ih.item _ _ _ _ h1 hg fun x hx => hv x (List.mem_append_left _ hx)
     obtain ⟨q, rfl, hc2⟩ := ih.row _ _ _ _ h3 hg.app.2 fun x hx => hv x (List.mem_append_right _ hx)
     refine ⟨p ++ q, by simp, ?_⟩
     rw [tk_app, show [u] ++ items = u :: items from rfl, Tr.rowT_cons]
     exact hc.app hc2
  ·intro b op o l ks r h hg hv
   rw [pIn] at h
   obtain ⟨items, r1, h1, h2⟩ := bind_ok h
   split at h2
   ·rename_i hm
    cases h2
    obtain ⟨t, r2, rfl, ht⟩ := isM_tok hm
    obtain ⟨p, hp, hc⟩ := ih.row _ _ _ _ h1 hg hv
    exact ⟨p, t, hp, ht, hc⟩
   ·cases h2
  ·intro op l a r h hg hr
   cases l with
   | nil => rw [pArg] at h; cases h
   | cons t l =>
    rw [pArg] at h
    split at h
    ·rename_i x hx
     cases h
     obtain ⟨e1, e2, _⟩ := leaf_item hx (hg t (by simp))
     refine ⟨[t], rfl, ?_⟩
     rw [argT_leaf e2, e1]
     exact Cmp.refl _
    ·split at h
     ·rename_i hm
      obtain ⟨ks, h1, rfl⟩ := map_ok h
      obtain ⟨o, l', e, ho⟩ := isM_tok hm
      cases e
      obtain ⟨p, t', rfl, ht', hc⟩ := ih.within _ _ _ _ _ _ h1 hg.tail (slot_row' hr)
      refine ⟨t :: (p ++ [t']), by simp, ?_⟩
      rw [tk_cons, tk_app, ho, tk_cons, ht']
      exact argT_wrap hc (slot_row' hr)
     ·split at h
      ·rename_i hs
       obtain ⟨ks, h1, rfl⟩ := map_ok h
       obtain ⟨rfl, rfl, e⟩ := plain_name h1 hs.1
       refine ⟨[t], rfl, ?_⟩
       rw [argT_leaf rfl, e]
       exact Cmp.refl _
      ·cases h
  ·intro n op l ks r h
   cases n with
   | zero =>
    rw [pArgs] at h
    cases h
    exact ⟨rfl, fun _ _ => ⟨[], rfl, Cmp.refl _⟩⟩
   | succ n =>
    rw [pArgs] at h
    obtain ⟨a, r1, h1, h2⟩ := bind_ok h
    obtain ⟨ks', h3, rfl⟩ := map_ok h2
    obtain ⟨hl, hk⟩ := ih.args _ _ _ _ _ h3
    refine ⟨by simp [hl], fun hg hr => ?_⟩
    obtain ⟨p, rfl, hc⟩ := ih.arg _ _ _ _ h1 hg (hr a (by simp))
    obtain ⟨q, rfl, hc2⟩ := hk hg.app.2 fun x hx => hr x (by simp [hx])
    refine ⟨p ++ q, by simp, ?_⟩
    rw [tk_app, List.flatMap_cons]
    exact hc.app hc2
  ·intro b op l so r h
   rw [pScript] at h
   split at h
   ·rename_i hm
    obtain ⟨a, h1, rfl⟩ := map_ok h
    refine .inr ⟨a, rfl, fun hg hr => ?_⟩
    obtain ⟨t, l', rfl, ht⟩ := isM_tok hm
    obtain ⟨p, hp, hc⟩ := ih.arg _ _ _ _ h1 hg.tail hr
    exact ⟨t, p, by rw [show l' = p ++ r from hp], ht, hc⟩
   ·cases h
    exact .inl ⟨rfl, rfl⟩
  ·intro op l ks r h hg hv
   rw [pItem] at h
   obtain ⟨base, r1, h1, hx1⟩ := bind_ok h
   obtain ⟨so1, r2, h2, hx2⟩ := bind_ok hx1
   obtain ⟨so2, r3, h3, h5⟩ := bind_ok hx2
   clear h hx1 hx2
   have hbase : (∀ x ∈ base, View x) → ∃ pb, l = pb ++ r1 ∧ Cmp (baseT (slot base)) (tk pb) := fun hb => by
    obtain ⟨g1, g2⟩ := ih.prim _ _ _ _ h1 hg hb
    cases hm : isM 123 l with
    | false =>
     obtain ⟨u, p, rfl, hs, rfl, hc⟩ := g1 hm
     exact ⟨p, rfl, by rw [baseT_one hs]; exact hc⟩
    | true =>
     obtain ⟨o, p, t, rfl, ho, ht, hc⟩ := g2 hm
     refine ⟨o :: (p ++ [t]), by simp, ?_⟩
     rw [tk_cons, tk_app, tk_cons, ho, ht]
     exact baseT_wrap hc hb
   rcases ih.script _ _ _ _ _ h2 with ⟨rfl, rfl⟩ | ⟨a, rfl, hsa⟩
   ·rcases ih.script _ _ _ _ _ h3 with ⟨rfl, rfl⟩ | ⟨b, rfl, hsb⟩
    ·simp only [Option.isSome_none, Bool.false_and, Bool.false_eq_true, if_false, scripts] at h5
     split at h5
     ·cases h5
     ·rename_i hm
      cases h5
      obtain ⟨u, p, rfl, hs, rfl, hc⟩ := (ih.prim _ _ _ _ h1 hg hv).1 (by simpa using hm)
      exact ⟨u, p, rfl, rfl, hc⟩
    ·simp only [Option.isSome_some, Option.isNone_none, Bool.and_self, if_true] at h5
     obtain ⟨so3, r4, h4, h6⟩ := bind_ok h5
     clear h5
     rcases ih.script _ _ _ _ _ h4 with ⟨rfl, rfl⟩ | ⟨a, rfl, hsa⟩
     ·simp only [scripts] at h6
      cases h6
      have v := hv _ (List.mem_singleton.2 rfl)
      cases v with
      | sup _ _ hb ha =>
       obtain ⟨pb, rfl, hc⟩ := hbase (slot_row' hb)
       obtain ⟨t, p, rfl, ht, hc2⟩ := hsb hg.app.2 ha
       refine ⟨_, pb ++ t :: p, rfl, by simp, ?_⟩
       rw [Tr.itemT_sup, tk_app, tk_cons, ht]
       exact hc.app (hc2.cons _)
     ·simp only [scripts] at h6
      cases h6
      have v := hv _ (List.mem_singleton.2 rfl)
      cases v with
      | both _ _ _ hb ha hd =>
       obtain ⟨pb, rfl, hc⟩ := hbase (slot_row' hb)
       obtain ⟨t, p, rfl, ht, hc2⟩ := hsb hg.app.2 hd
       obtain ⟨t', p', rfl, ht', hc3⟩ := hsa hg.app.2.tail.app.2 ha
       refine ⟨_, pb ++ t :: (p ++ t' :: p'), rfl, by simp, ?_⟩
       rw [Tr.itemT_both, tk_app, tk_cons, tk_app, tk_cons, ht, ht']
       exact Cmp.swap hc hc3 hc2
   ·simp only [Option.isNone_some, Bool.and_false, Bool.false_eq_true, if_false] at h5
    rcases ih.script _ _ _ _ _ h3 with ⟨rfl, rfl⟩ | ⟨b, rfl, hsb⟩
    ·simp only [scripts] at h5
     cases h5
     have v := hv _ (List.mem_singleton.2 rfl)
     cases v with
     | sub _ _ hb ha =>
      obtain ⟨pb, rfl, hc⟩ := hbase (slot_row' hb)
      obtain ⟨t, p, rfl, ht, hc2⟩ := hsa hg.app.2 ha
      refine ⟨_, pb ++ t :: p, rfl, by simp, ?_⟩
      rw [Tr.itemT_sub, tk_app, tk_cons, ht]
      exact hc.app (hc2.cons _)
    ·simp only [scripts] at h5
     cases h5
     have v := hv _ (List.mem_singleton.2 rfl)
     cases v with
     | both _ _ _ hb ha hd =>
      obtain ⟨pb, rfl, hc⟩ := hbase (slot_row' hb)
      obtain ⟨t, p, rfl, ht, hc2⟩ := hsa hg.app.2 ha
      obtain ⟨t', p', rfl, ht', hc3⟩ := hsb hg.app.2.tail.app.2 hd
      refine ⟨_, pb ++ t :: (p ++ t' :: p'), rfl, by simp, ?_⟩
      rw [Tr.itemT_both, tk_app, tk_cons, tk_app, tk_cons, ht, ht']
      exact hc.app ((hc2.app (hc3.cons _)).cons _)
  ·intro op l ks r h hg hv
   cases l with
   | nil => rw [pPrim] at h; cases h
   | cons t l =>
    rw [pPrim] at h
    split at h
    ·rename_i x hx
     cases h
     obtain ⟨e1, e2, e3⟩ := leaf_item hx (hg t (by simp))
     refine ⟨fun _ => ⟨x, [t], rfl, e3, rfl, by rw [e1]; exact Cmp.refl _⟩, fun hm => ?_⟩
     obtain ⟨o, l', e, ho⟩ := isM_tok hm
     cases e
     have hk : t.kind = 7 := congrArg Tok.kind ho
     unfold leafOf at hx
     rw [if_neg (by omega), if_neg (by omega), if_neg (by omega)] at hx
     cases hx
    ·rename_i hx
     split at h
     ·rename_i h4
      have hn : isM 123 (t :: l) = false := by simp [isM, h4]
      obtain ⟨u, p, rfl, hs, rfl, hc⟩ := ih.name _ _ _ _ _ h hg h4 hv
      exact ⟨fun _ => ⟨u, t :: p, rfl, hs, rfl, hc⟩, fun hm => by rw [hn] at hm; cases hm⟩
     ·split at h
      ·rename_i h5
       have hn : isM 123 (t :: l) = false := by simp [isM, h5]
       obtain ⟨ks', h1, rfl⟩ := map_ok h
       obtain ⟨hl, hk⟩ := ih.args _ _ _ _ _ h1
       have v := hv _ (List.mem_singleton.2 rfl)
       match ks', hl with
       | [a], _ =>
        cases v with
        | fence _ _ hf ha =>
         obtain ⟨p, rfl, hc⟩ := hk hg.tail (by simpa using ha)
         refine ⟨fun _ => ⟨_, t :: p, rfl, rfl, rfl, ?_⟩, fun hm => by rw [hn] at hm; cases hm⟩
         rw [tk_cons]
         refine fence_cmp h5 ?_
         simpa using hc
      ·split at h
       ·rename_i hm
        have hn : isM 123 (t :: l) = false := by
         obtain ⟨o, l', e, ho⟩ := isM_tok hm
         cases e
         have hk : t.text = [40] := congrArg Tok.text ho
         simp [isM, hk]
        obtain ⟨ks', h1, rfl⟩ := map_ok h
        obtain ⟨o, l', e, ho⟩ := isM_tok hm
        cases e
        have v := hv _ (List.mem_singleton.2 rfl)
        cases v with
        | fence _ _ hf ha =>
         obtain ⟨p, t', rfl, ht', hc⟩ := ih.within _ _ _ _ _ _ h1 hg.tail (slot_row' ha)
         refine ⟨fun _ => ⟨_, t :: (p ++ [t']), rfl, rfl, by simp, ?_⟩, fun hm => by rw [hn] at hm; cases hm⟩
         rw [Tr.itemT_fence, if_pos (.inl rfl), tk_cons, tk_app, tk_cons, ho, ht']
         exact hc.braced _ _
       ·split at h
        ·rename_i hm
         have hn : isM 123 (t :: l) = false := by
          obtain ⟨o, l', e, ho⟩ := isM_tok hm
          cases e
          have hk : t.text = [91] := congrArg Tok.text ho
          simp [isM, hk]
         obtain ⟨ks', h1, rfl⟩ := map_ok h
         obtain ⟨o, l', e, ho⟩ := isM_tok hm
         cases e
         have v := hv _ (List.mem_singleton.2 rfl)
         cases v with
         | fence _ _ hf ha =>
          obtain ⟨p, t', rfl, ht', hc⟩ := ih.within _ _ _ _ _ _ h1 hg.tail (slot_row' ha)
          refine ⟨fun _ => ⟨_, t :: (p ++ [t']), rfl, rfl, by simp, ?_⟩, fun hm => by rw [hn] at hm; cases hm⟩
          rw [Tr.itemT_fence, if_pos (.inr rfl), tk_cons, tk_app, tk_cons, ho, ht']
          exact hc.braced _ _
        ·split at h
         ·rename_i hm
          obtain ⟨o, l', e, ho⟩ := isM_tok hm
          cases e
          obtain ⟨p, t', rfl, ht', hc⟩ := ih.within _ _ _ _ _ _ h hg.tail hv
          exact ⟨fun hn => absurd (hm.symm.trans hn) (by decide), fun _ => ⟨t, p, t', rfl, ho, ht', hc⟩⟩
         ·cases h
  ·intro op t r ks r' h hg hk hv
   have htk : Lx.tok t = Tr.name t.text := by unfold Lx.tok Tr.name; rw [hk]
   rw [pName] at h
   split at h
   ·rename_i ht
    obtain ⟨ks', h1, rfl⟩ := map_ok h
    obtain ⟨hl, hk2⟩ := ih.args _ _ _ _ _ h1
    have v := hv _ (List.mem_singleton.2 rfl)
    match ks', hl with
    | [a, b], _ =>
     cases v with
     | frac _ _ ha hb =>
      obtain ⟨p, rfl, hc⟩ := hk2 hg.tail (by simpa using ⟨ha, hb⟩)
      refine ⟨_, p, rfl, rfl, rfl, ?_⟩
      rw [Tr.itemT_frac, htk, ht]
      refine Cmp.cons _ ?_
      simpa using hc
   ·split at h
    ·rename_i ht
     split at h
     ·rename_i hm
      obtain ⟨d, r1, h1, h2⟩ := bind_ok h
      obtain ⟨ks', h3, rfl⟩ := map_ok h2
      obtain ⟨hl, hk2⟩ := ih.args _ _ _ _ _ h3
      obtain ⟨o, l', rfl, ho⟩ := isM_tok hm
      have v := hv _ (List.mem_singleton.2 rfl)
      match ks', hl with
      | [a], _ =>
       cases v with
       | root _ _ hd ha =>
        obtain ⟨p, t', rfl, ht', hc⟩ := ih.within _ _ _ _ _ _ h1 hg.tail.tail (slot_row' hd)
        obtain ⟨q, rfl, hc2⟩ := hk2 (G.tail (G.app (p := p) hg.tail.tail).2) (by simpa using ha)
        refine ⟨_, o :: (p ++ t' :: q), rfl, rfl, by simp, ?_⟩
        rw [Tr.itemT_root, htk, ht, tk_cons, tk_app, tk_cons, ho, ht']
        have hc3 : Cmp (argT a) (tk q) := by simpa using hc2
        show Cmp (Tr.name sRoot :: ((if d = [] then [] else mk7 91 :: (rowT d ++ [mk7 93])) ++ argT a)) _
        split
        ·rename_i hd0
         subst hd0
         rw [Tr.rowT_nil] at hc
         obtain ⟨x, y, e, hx⟩ := arg_head a ha
         exact Cmp.hollow hc3 e hx hc
        ·have := (hc.braced (mk7 91) (mk7 93)).app hc3
         refine Cmp.cons _ ?_
         simpa using this
     ·obtain ⟨ks', h3, rfl⟩ := map_ok h
      obtain ⟨hl, hk2⟩ := ih.args _ _ _ _ _ h3
      have v := hv _ (List.mem_singleton.2 rfl)
      match ks', hl with
      | [a], _ =>
       cases v with
       | root _ _ hd ha =>
        obtain ⟨q, rfl, hc2⟩ := hk2 hg.tail (by simpa using ha)
        refine ⟨_, q, rfl, rfl, rfl, ?_⟩
        rw [Tr.itemT_root, htk, ht]
        show Cmp (Tr.name sRoot :: ((if ([] : List Nd) = [] then [] else _) ++ argT a)) _
        rw [if_pos rfl]
        refine Cmp.cons _ ?_
        simpa using hc2
    ·split at h
     ·rename_i ht
      split at h
      ·rename_i hm
       obtain ⟨pc, h1, rfl⟩ := map_ok h
       obtain ⟨kc, C⟩ := pc
       obtain ⟨o, l', rfl, ho⟩ := isM_tok hm
       have v := hv _ (List.mem_singleton.2 rfl)
       cases v with
       | matrix _ _ hc1 hn hmod hrows =>
        obtain ⟨k0, ks', e, _, _, p, t', rfl, ht', hc⟩ := ih.cells _ _ _ _ _ _ _ _ h1 hg.tail.tail hrows (.inl rfl)
        rw [List.nil_append] at e
        subst e
        refine ⟨_, o :: (p ++ [t']), rfl, rfl, by simp, ?_⟩
        rw [Tr.itemT_matrix _ _ (by simp), htk, ht, tk_cons, tk_app, tk_cons, ho, ht', cellsT, if_pos rfl, List.nil_append]
        exact (hc.braced _ _).cons _
      ·cases h
     ·split at h
      ·rename_i ht
       obtain ⟨ks', h3, rfl⟩ := map_ok h
       obtain ⟨hl, hk2⟩ := ih.args _ _ _ _ _ h3
       have v := hv _ (List.mem_singleton.2 rfl)
       match ks', hl with
       | [a], _ =>
        cases v with
        | accent _ _ hx ha =>
         obtain ⟨q, rfl, hc2⟩ := hk2 hg.tail (by simpa using ha)
         refine ⟨_, q, rfl, rfl, rfl, ?_⟩
         rw [Tr.itemT_accent, htk]
         refine Cmp.cons _ ?_
         simpa using hc2
      ·obtain ⟨rfl, rfl, e⟩ := plain_name h hk
       exact ⟨_, [], rfl, rfl, rfl, by rw [e]; exact Cmp.refl _⟩
  ·intro op ks0 b c l ks C r h hg hr hb
   rw [pCells] at h
   obtain ⟨items, r1, h1, h5⟩ := bind_ok h
   clear h
   have hlen : (ks0 ++ [slot items]).length = ks0.length + 1 := by simp
   split at h5
   ·rename_i hm
    obtain ⟨t, r2, rfl, ht⟩ := isM_tok hm
    obtain ⟨kp, hkp⟩ := cells_pre _ _ _ _ _ _ _ _ _ _ h5
    have hrow : IsRow (slot items) := hr _ (by rw [hkp]; simp)
    obtain ⟨p1, rfl, hc1⟩ := ih.row _ _ _ _ h1 hg (slot_row' hrow)
    obtain ⟨k0, ks', e, g1, g2, p2, t2, rfl, ht2, hc2⟩ := ih.cells _ _ _ _ _ _ _ _ h5 hg.app.2.tail hr (hb.imp id fun h => ⟨h.1, h.2.1, by rw [hlen]; omega⟩)
    rw [hlen] at g1 g2 hc2
    refine ⟨slot items, k0 :: ks', by rw [e]; simp, fun h0 => by have := g1 h0; omega, fun h0 => ⟨(g2 h0).1, by have := (g2 h0).2; omega⟩, p1 ++ t :: p2, t2, by simp, ht2, ?_⟩
    have hmod : (ks0.length + 1) % C ≠ 0 := by
     by_cases h0 : b = 0
     ·rw [Nat.mod_eq_of_lt (g1 h0)]; omega
     ·obtain ⟨e1, e2⟩ := g2 h0
      rcases hb with hb | ⟨hb1, hb2, hb3⟩
      ·exact absurd hb h0
      ·rw [e1]; exact mod_line hb2 hb3 e2
    rw [cellsT_mid (by omega) hmod, tk_app, tk_cons, ht]
    exact hc1.app (hc2.cons _)
   ·split at h5
    ·cases h5
    ·rename_i hnb
     split at h5
     ·cases h5
     ·rename_i hcol
      have hcol' : ks0.length + 1 - b = colN b c (ks0.length + 1) := by omega
      split at h5
      ·rename_i hbrk
       have hm : isM 125 r1 = true := by
        cases hm : isM 125 r1 with
        | true => rfl
        | false => exact absurd ⟨hbrk, hm⟩ hnb
       cases h5
       obtain ⟨t, r2, rfl, ht⟩ := isM_tok hm
       have hrow : IsRow (slot items) := hr _ (by simp)
       obtain ⟨p1, rfl, hc1⟩ := ih.row _ _ _ _ h1 hg (slot_row' hrow)
       refine ⟨slot items, [], rfl, fun h0 => by rw [colN, if_pos h0]; omega, fun h0 => ?_, p1, t, rfl, ht, ?_⟩
       ·rw [colN, if_neg h0] at hcol' ⊢
        exact ⟨rfl, by rcases hb with hb | ⟨hb1, hb2, hb3⟩ <;> omega⟩
       ·rw [cellsT, List.append_nil]
        exact hc1
      ·rename_i hbrk
       obtain ⟨kp, hkp⟩ := cells_pre _ _ _ _ _ _ _ _ _ _ h5
       have hrow : IsRow (slot items) := hr _ (by rw [hkp]; simp)
       obtain ⟨p1, rfl, hc1⟩ := ih.row _ _ _ _ h1 hg (slot_row' hrow)
       obtain ⟨t, r2, rfl, ht⟩ := break_tok hg.app.2 (by simpa using hbrk)
       have hc' : 1 ≤ colN b c (ks0.length + 1) ∧ (ks0.length + 1) % colN b c (ks0.length + 1) = 0 := by
        by_cases h0 : b = 0
        ·rw [colN, if_pos h0]
         exact ⟨by omega, Nat.mod_self _⟩
        ·rw [colN, if_neg h0] at hcol' ⊢
         rcases hb with hb | ⟨hb1, hb2, hb3⟩
         ·exact absurd hb h0
         ·refine ⟨hb1, ?_⟩
          rw [show ks0.length + 1 = b + c by omega, Nat.add_mod_right, hb2]
       obtain ⟨k0, ks', e, g1, g2, p2, t2, rfl, ht2, hc2⟩ := ih.cells _ _ _ _ _ _ _ _ h5 hg.app.2.tail hr (.inr ⟨hc'.1, hc'.2, by rw [hlen]; omega⟩)
       rw [hlen] at g1 g2 hc2
       obtain ⟨e1, e2⟩ := g2 (by omega)
       refine ⟨slot items, k0 :: ks', by rw [e]; simp, fun h0 => by rw [e1, colN, if_pos h0]; omega, fun h0 => ?_, p1 ++ t :: p2, t2, by simp, ht2, ?_⟩
       ·rw [e1]
        rw [colN, if_neg h0] at hcol' ⊢
        exact ⟨rfl, by rcases hb with hb | ⟨hb1, hb2, hb3⟩ <;> omega⟩
       ·rw [cellsT_end (by omega) (by rw [e1]; exact hc'.2), tk_app, tk_cons, ht]
        exact hc1.app (hc2.cons _)
theorem parse_cmp (en : Nat) (l : List PTok) (ks r : List _) (h : parseT en l = .ok ks r) (hg : G l) (hv : ∀ x ∈ ks, View x) : Cmp (rowT ks) (tk l) := by
 unfold parseT at h
 obtain ⟨items, r1, h1, h2⟩ := bind_ok h
 split at h2
 ·rename_i he
  cases h2
  rw [List.isEmpty_iff] at he
  subst he
  obtain ⟨p, hp, hc⟩ := (cmps en _).row _ _ _ _ h1 hg hv
  rw [List.append_nil] at hp
  rw [hp]
  exact hc
 ·cases h2
end Go.Proofs.YtgfhlfbcoimojaaGreat.Np
