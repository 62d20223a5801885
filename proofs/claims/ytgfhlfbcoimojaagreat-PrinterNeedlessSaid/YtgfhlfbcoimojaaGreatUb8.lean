/- Part 8 of 53 of a proof; its texts, joined: NpT, NpU. No condition. -/
import Derived.Test.YtgfhlfbcoimojaaGreatUb3
import Derived.Test.YtgfhlfbcoimojaaGreatUb4

/- What the plain reader reads the parser reads too. -/
namespace Go.Proofs.YtgfhlfbcoimojaaGreat.Np
open Lx (PTok Tok)
open Tr (Nd Ev mk7 expect sFrac sRoot sMatrix)
def bare (ts : List Tok) : List PTok := ts.map fun t => ⟨t.kind, t.text, 0, 0⟩
theorem bare_cons (t : Tok) (r : List Tok) : bare (t :: r) = ⟨t.kind, t.text, 0, 0⟩ :: bare r := rfl
theorem expect_some {t : Tok} {ts r : List Tok} (h : expect t ts = some r) : ts = t :: r := by
 cases ts with
 | nil => cases h
 | cons x l =>
  simp only [expect] at h
  by_cases hx : x = t
  ·rw [if_pos hx] at h; cases h; rw [hx]
  ·rw [if_neg hx] at h; cases h
theorem isM_expect (b : UInt8) (ts : List Tok) : isM b (bare ts) = (expect (mk7 b) ts).isSome := by
 cases ts with
 | nil => rfl
 | cons x l =>
  simp only [expect]
  by_cases hx : x = mk7 b
  ·rw [if_pos hx]; subst hx; simp [bare_cons, isM, mk7]
  ·rw [if_neg hx]
   simp only [bare_cons, isM]
   by_cases hk : x.kind = 7
   ·have : x.text ≠ [b] := fun ht => hx (by obtain ⟨k, t⟩ := x; simp at hk ht; rw [hk, ht]; rfl)
    simp [this]
   ·simp [hk]
theorem special_plain {t : List UInt8} (h : Tr.plainN t = true) : t.length ≠ 1 ∧ special t = false := by
 unfold Tr.plainN at h
 simp only [Bool.and_eq_true, Bool.not_eq_true', beq_eq_false_iff_ne] at h
 obtain ⟨⟨⟨⟨h1, h2⟩, h3⟩, h4⟩, h5⟩ := h
 refine ⟨h1, ?_⟩
 unfold special accented
 rw [h5]
 simp [h2, h3, h4]
def okEnd (op : List Nat) (r : List Tok) : Prop := (r = [] ∧ op = []) ∨ stops (bare r) = true
structure Reads (f : Nat) : Prop where
 arg : ∀ ts a r, Tr.pArg f ts = some (a, r) → ∀ op, Ev fun F => pArg 0 F op (bare ts) = .ok a (bare r)
 row : ∀ ts ks r, Tr.pRow f ts = some (ks, r) → ∀ op, okEnd op r → Ev fun F => pRow 0 F op (bare ts) = .ok ks (bare r)
 base : ∀ ts ks r, Tr.pBase f ts = some (ks, r) → ∀ op, Ev fun F => pPrim 0 F op (bare ts) = .ok ks (bare r)
 item : ∀ ts u r, Tr.pItem f ts = some (u, r) → isM 95 (bare r) = false → ∀ op, Ev fun F => pItem 0 F op (bare ts) = .ok [u] (bare r)
theorem within_of {b o : UInt8} {ts r : List Tok} {ks : List Nd} (hb : stops (bare (mk7 b :: r)) = true) (h : ∀ op, okEnd op (mk7 b :: r) → Ev fun F => pRow 0 F op (bare ts) = .ok ks (bare (mk7 b :: r))) (op : List Nat) :
  Ev fun F => pIn 0 F b op (bare (mk7 o :: ts)) = .ok ks (bare r) := by
 refine Ev.succ ((h (op ++ [0]) (.inr hb)).mono fun F h1 => ?_)
 rw [pIn]
 show R.bind (pRow 0 F (op ++ [0]) (bare ts)) _ = _
 rw [h1]
 show (if isM b (bare (mk7 b :: r)) then _ else _) = _
 rw [isM_expect, Tr.expect_same]
 rfl
theorem Reads.argS {f : Nat} (ih : Reads f) (ts : List Tok) (a : Nd) (r : List Tok) (h : Tr.pArg (f + 1) ts = some (a, r)) (op : List Nat) : Ev fun F => pArg 0 F op (bare ts) = .ok a (bare r) := by
 cases ts with
 | nil => simp [Tr.pArg] at h
 | cons x l =>
  rw [Tr.pArg] at h
  split at h
  ·rename_i hk
   cases h
   refine Ev.succ (Ev.of fun F => ?_)
   rcases hk with hk | ⟨hk, hp⟩
   ·simp [bare_cons, pArg, leafOf, hk, slot, Tr.row]
   ·obtain ⟨p1, p2⟩ := special_plain hp
    simp [bare_cons, pArg, leafOf, hk, slot, Tr.row, isM, p1, p2, plainName, R.map, R.bind]
  ·split at h
   ·rename_i hk
    cases h
    exact Ev.succ (Ev.of fun F => by simp [bare_cons, pArg, leafOf, hk, slot, Tr.row])
   ·split at h
    ·rename_i hk
     cases h
     exact Ev.succ (Ev.of fun F => by simp [bare_cons, pArg, leafOf, hk, slot, Tr.row])
    ·split at h
     ·rename_i hk
      subst hk
      simp only [Option.bind_eq_some_iff, Option.map_eq_some_iff] at h
      obtain ⟨⟨ks, r1⟩, h1, r2, h2, h3⟩ := h
      cases h3
      have e := expect_some h2
      simp only at e
      subst e
      refine Ev.succ ((within_of (o := 123) (by rfl) (fun op ho => ih.row _ _ _ h1 op ho) op).mono fun F h4 => ?_)
      rw [bare_cons, pArg]
      simp only [leafOf, mk7]
      rw [bare_cons] at h4
      simp [isM, mk7, R.map, R.bind, slot, Tr.row] at h4 ⊢
      rw [h4]
     ·cases h
theorem start_kinds {x : Tok} (h : Tr.startTok x = true) : x.kind ≠ 8 ∧ (x.kind = 7 → x.text = [40] ∨ x.text = [91] ∨ x.text = [123]) := by
 unfold Tr.startTok at h
 simp only [Bool.or_eq_true, Bool.and_eq_true, beq_iff_eq] at h
 rcases h with ((((h | h) | h) | h) | h) | ⟨h, h2⟩
 all_goals (refine ⟨by omega, fun hk => ?_⟩)
 all_goals first | omega | (rcases h2 with (h2 | h2) | h2 <;> simp [h2])
theorem start_nostop {ts : List Tok} (h : Tr.starts ts = true) : (bare ts).isEmpty = false ∧ stops (bare ts) = false ∧ isM 95 (bare ts) = false := by
 cases ts with
 | nil => cases h
 | cons x l =>
  obtain ⟨h1, h2⟩ := start_kinds (x := x) h
  refine ⟨rfl, ?_, ?_⟩
  ·simp only [stops, isBreak, isM, bare_cons]
   by_cases hk : x.kind = 7
   ·rcases h2 hk with ht | ht | ht <;> simp [hk, ht]
   ·simp [hk, h1]
  ·simp only [isM, bare_cons]
   by_cases hk : x.kind = 7
   ·rcases h2 hk with ht | ht | ht <;> simp [hk, ht]
   ·simp [hk]
theorem end_no95 {op : List Nat} {r : List Tok} (h : okEnd op r) : isM 95 (bare r) = false := by
 rcases h with ⟨rfl, _⟩ | h
 ·rfl
 ·cases r with
  | nil => cases h
  | cons x l =>
   simp only [stops, isBreak, isM, bare_cons, Bool.or_eq_true, Bool.and_eq_true, beq_iff_eq] at h ⊢
   rcases h with (((h | ⟨h, h'⟩) | ⟨h, h'⟩) | ⟨h, h'⟩) | ⟨h, h'⟩
   all_goals simp [h]
   all_goals simp [h']
theorem Reads.rowS {f : Nat} (ih : Reads f) (ts : List Tok) (ks : List Nd) (r : List Tok) (h : Tr.pRow (f + 1) ts = some (ks, r)) (op : List Nat) (ho : okEnd op r) : Ev fun F => pRow 0 F op (bare ts) = .ok ks (bare r) := by
 rw [Tr.pRow] at h
 split at h
 ·rename_i hs
  simp only [Option.bind_eq_some_iff, Option.map_eq_some_iff] at h
  obtain ⟨⟨u, r1⟩, h1, ⟨q, r2⟩, h2, h3⟩ := h
  cases h3
  obtain ⟨e1, e2, _⟩ := start_nostop hs
  have hn : isM 95 (bare r1) = false := by
   cases f with
   | zero => rw [Tr.pRow] at h2; cases h2
   | succ f =>
    rw [Tr.pRow] at h2
    split at h2
    ·rename_i hs2; exact (start_nostop hs2).2.2
    ·cases h2; exact end_no95 ho
  refine Ev.succ (((ih.item _ _ _ h1 hn op).and (ih.row _ _ _ h2 op ho)).mono fun F ⟨h4, h5⟩ => ?_)
  rw [pRow, if_neg (by simp [e1]), if_neg (by simp [e1, e2]), h4]
  show R.map (pRow 0 F op (bare r1)) _ = _
  rw [h5]
  rfl
 ·cases h
  refine Ev.succ (Ev.of fun F => ?_)
  rw [pRow]
  rcases ho with ⟨rfl, rfl⟩ | ho
  ·rfl
  ·have hne : (bare ts).isEmpty = false := by
    cases ts with
    | nil => cases ho
    | cons x l => rfl
   rw [if_neg (by simp [hne]), if_pos (.inr ho)]
theorem Reads.scriptS {f : Nat} (ih : Reads f) {b : UInt8} {ts r1 : List Tok} {a : Nd} {r : List Tok} (he : expect (mk7 b) ts = some r1) (h : Tr.pArg f r1 = some (a, r)) (op : List Nat) : Ev fun F => pScript 0 F b op (bare ts) = .ok (some a) (bare r) := by
 have e := expect_some he
 subst e
 refine Ev.succ ((ih.arg _ _ _ h op).mono fun F h1 => ?_)
 rw [pScript, isM_expect, he]
 show R.map (pArg 0 F op (bare r1)) some = _
 rw [h1]
 rfl
theorem script_none {b : UInt8} {ts : List Tok} (h : isM b (bare ts) = false) (op : List Nat) : Ev fun F => pScript 0 F b op (bare ts) = .ok none (bare ts) :=
 Ev.succ (Ev.of fun F => by rw [pScript, if_neg (by simp [h])])
theorem no_expect {b : UInt8} {ts : List Tok} (h : expect (mk7 b) ts = none) : isM b (bare ts) = false := by rw [isM_expect, h]; rfl
theorem group_isM (ts : List Tok) : isM 123 (bare ts) = Tr.groupAt ts := by
 cases ts with
 | nil => rfl
 | cons x l =>
  rw [isM_expect]
  simp only [expect, Tr.groupAt]
  by_cases h : x = mk7 123 <;> simp [h]
theorem Reads.itemS {f : Nat} (ih : Reads f) (ts : List Tok) (u : Nd) (r : List Tok) (h : Tr.pItem (f + 1) ts = some (u, r)) (h95 : isM 95 (bare r) = false) (op : List Nat) : Ev fun F => pItem 0 F op (bare ts) = .ok [u] (bare r) := by
 rw [Tr.pItem] at h
 simp only [Option.bind_eq_some_iff] at h
 obtain ⟨⟨base, p⟩, h1, h⟩ := h
 simp only at h
 have HB := ih.base _ _ _ h1 op
 split at h
 ·rename_i r1 he
  simp only [Option.bind_eq_some_iff] at h
  obtain ⟨⟨q, q2⟩, h2, h⟩ := h
  simp only at h
  have HS := ih.scriptS he h2 op
  split at h
  ·rename_i r2 he2
   simp only [Option.map_eq_some_iff] at h
   obtain ⟨⟨s, s2⟩, h3, h⟩ := h
   cases h
   refine Ev.succ ((HB.and (HS.and (ih.scriptS he2 h3 op))).mono fun F ⟨k1, k2, k3⟩ => ?_)
   rw [pItem, k1]
   simp only [R.bind, k2, k3]
   rfl
  ·rename_i he2
   cases h
   refine Ev.succ ((HB.and (HS.and (script_none (no_expect he2) op))).mono fun F ⟨k1, k2, k3⟩ => ?_)
   rw [pItem, k1]
   simp only [R.bind, k2, k3]
   rfl
 ·rename_i he
  split at h
  ·rename_i r1 he2
   simp only [Option.map_eq_some_iff] at h
   obtain ⟨⟨q, q2⟩, h2, h⟩ := h
   cases h
   refine Ev.succ ((HB.and ((script_none (no_expect he) op).and ((ih.scriptS he2 h2 op).and (script_none h95 op)))).mono fun F ⟨k1, k2, k3, k4⟩ => ?_)
   rw [pItem, k1]
   simp only [R.bind, k2, k3, k4]
   rfl
  ·rename_i he2
   split at h
   ·split at h
    ·cases h
    ·rename_i hg
     cases h
     refine Ev.succ ((HB.and ((script_none (no_expect he) op).and (script_none (no_expect he2) op))).mono fun F ⟨k1, k2, k3⟩ => ?_)
     rw [pItem, k1]
     simp only [R.bind, k2, k3, group_isM]
     rw [Bool.not_eq_true] at hg
     rw [hg]
     rfl
   ·cases h
theorem Reads.argsS1 {f : Nat} (ih : Reads f) {ts r : List Tok} {a : Nd} (h : Tr.pArg f ts = some (a, r)) (op : List Nat) : Ev fun F => pArgs 0 F 1 op (bare ts) = .ok [a] (bare r) := by
 refine Ev.succ (Ev.mono ((ih.arg _ _ _ h op).and (⟨1, fun F hF => by obtain ⟨g, rfl⟩ : ∃ g, F = g + 1 := ⟨F - 1, by omega⟩; rw [pArgs]⟩ : Ev fun F => pArgs 0 F 0 op (bare r) = .ok [] (bare r))) fun F ⟨h1, h2⟩ => ?_)
 rw [pArgs, h1]
 show R.map (pArgs 0 F 0 op (bare r)) _ = _
 rw [h2]
 rfl
theorem Reads.argsS2 {f : Nat} (ih : Reads f) {ts r r' : List Tok} {a b : Nd} (h : Tr.pArg f ts = some (a, r)) (h' : Tr.pArg f r = some (b, r')) (op : List Nat) : Ev fun F => pArgs 0 F 2 op (bare ts) = .ok [a, b] (bare r') := by
 refine Ev.succ (Ev.mono ((ih.arg _ _ _ h op).and (ih.argsS1 h' op)) fun F ⟨h1, h2⟩ => ?_)
 rw [pArgs, h1]
 show R.map (pArgs 0 F 1 op (bare r)) _ = _
 rw [h2]
 rfl
theorem colsOf_nonneg : ∀ cs : List (Nd × Bool), 0 ≤ Tr.colsOf cs
 | [] => Int.le_refl _
 | (_, b) :: l => by
  have := colsOf_nonneg l
  rw [Tr.colsOf]
  split <;> omega
def CellsRead (f : Nat) : Prop := ∀ (ts : List Tok) (cs : List (Nd × Bool)) (r1 r2 : List Tok), Tr.pCells f ts = some (cs, r1) → expect (mk7 125) r1 = some r2 → cs.map (·.2) = Tr.ends (Tr.colsOf cs) cs.length →
 ∀ op, Ev fun F => pCells 0 F op [] 0 0 (bare ts) = .ok (cs.map (·.1), (Tr.colsOf cs).toNat) (bare r2)
theorem Reads.nameS {f : Nat} (ih : Reads f) (hm : CellsRead f) (x : Tok) (ts : List Tok) (ks : List Nd) (r : List Tok) (hk : x.kind = 4) (h : Tr.pBase (f + 1) (x :: ts) = some (ks, r)) (op : List Nat) :
  Ev fun F => pName 0 F op ⟨x.kind, x.text, 0, 0⟩ (bare ts) = .ok ks (bare r) := by
 rw [Tr.pBase, if_neg (by omega), if_neg (by omega), if_neg (by omega), if_neg (by omega), if_pos hk] at h
 split at h
 ·rename_i ht
  simp only [Option.bind_eq_some_iff, Option.map_eq_some_iff] at h
  obtain ⟨⟨a, r1⟩, h1, ⟨b, r2⟩, h2, h3⟩ := h
  cases h3
  refine Ev.succ ((ih.argsS2 h1 h2 op).mono fun F k1 => ?_)
  rw [pName, if_pos ht, k1]
  rfl
 ·rename_i n1
  split at h
  ·rename_i ht
   split at h
   ·rename_i r1 he
    simp only [Option.bind_eq_some_iff, Option.map_eq_some_iff] at h
    obtain ⟨⟨d, r2⟩, h1, r3, h2, ⟨a, r4⟩, h3, h4⟩ := h
    cases h4
    have e1 := expect_some he
    have e2 := expect_some h2
    simp only at e2
    subst e1 e2
    refine Ev.succ (((within_of (o := 91) (by rfl) (fun op ho => ih.row _ _ _ h1 op ho) op).and (ih.argsS1 h3 op)).mono fun F ⟨k1, k2⟩ => ?_)
    rw [pName, if_neg n1, if_pos ht, isM_expect, he, Option.isSome_some, if_pos rfl, k1]
    show R.map (pArgs 0 F 1 op (bare r3)) _ = _
    rw [k2]
    rfl
   ·rename_i he
    simp only [Option.map_eq_some_iff] at h
    obtain ⟨⟨a, r1⟩, h1, h2⟩ := h
    cases h2
    refine Ev.succ ((ih.argsS1 h1 op).mono fun F k1 => ?_)
    rw [pName, if_neg n1, if_pos ht, no_expect he, if_neg (by decide), k1]
    rfl
  ·rename_i n2
   split at h
   ·rename_i ht
    simp only [Option.bind_eq_some_iff] at h
    obtain ⟨r1, h1, ⟨cs, r2⟩, h2, r3, h3, h4⟩ := h
    simp only at h3 h4
    split at h4
    ·rename_i hE
     cases h4
     have e := expect_some h1
     subst e
     refine Ev.succ ((hm _ _ _ _ h2 h3 hE (op ++ [0])).mono fun F k1 => ?_)
     rw [pName, if_neg n1, if_neg n2, if_pos ht, isM_expect, h1, Option.isSome_some, if_pos rfl]
     show R.map (pCells 0 F (op ++ [0]) [] 0 0 (bare r1)) _ = _
     rw [k1]
     have := colsOf_nonneg cs
     simp only [R.map, R.bind, Int.toNat_of_nonneg this]
    ·cases h4
   ·rename_i n3
    split at h
    ·rename_i ht
     simp only [Option.map_eq_some_iff] at h
     obtain ⟨⟨a, r1⟩, h1, h2⟩ := h
     cases h2
     refine Ev.succ ((ih.argsS1 h1 op).mono fun F k1 => ?_)
     rw [pName, if_neg n1, if_neg n2, if_neg n3, if_pos (show accented x.text = true from ht), k1]
     rfl
    ·rename_i n4
     split at h
     ·cases h
     ·rename_i n5
      cases h
      refine Ev.succ (Ev.of fun F => ?_)
      rw [pName, if_neg n1, if_neg n2, if_neg n3, if_neg (show ¬ accented x.text = true from n4), plainName, if_neg n5]
theorem Reads.baseS {f : Nat} (ih : Reads f) (hm : CellsRead f) (ts : List Tok) (ks : List Nd) (r : List Tok) (h : Tr.pBase (f + 1) ts = some (ks, r)) (op : List Nat) : Ev fun F => pPrim 0 F op (bare ts) = .ok ks (bare r) := by
 cases ts with
 | nil => simp [Tr.pBase] at h
 | cons x l =>
  by_cases hk4 : x.kind = 4
  ·refine Ev.succ ((ih.nameS hm x l ks r hk4 h op).mono fun F k1 => ?_)
   rw [bare_cons, pPrim]
   simp [leafOf, hk4] at k1 ⊢
   exact k1
  ·rw [Tr.pBase] at h
   split at h
   ·rename_i hk; cases h
    exact Ev.succ (Ev.of fun F => by simp [bare_cons, pPrim, leafOf, hk])
   ·split at h
    ·rename_i hk; cases h
     exact Ev.succ (Ev.of fun F => by simp [bare_cons, pPrim, leafOf, hk])
    ·split at h
     ·rename_i hk; cases h
      exact Ev.succ (Ev.of fun F => by simp [bare_cons, pPrim, leafOf, hk])
     ·split at h
      ·rename_i hk
       simp only [Option.map_eq_some_iff] at h
       obtain ⟨⟨a, r1⟩, h1, h2⟩ := h
       cases h2
       refine Ev.succ ((ih.argsS1 h1 op).mono fun F k1 => ?_)
       simp [bare_cons, pPrim, leafOf, hk, k1, R.map, R.bind]
      ·split at h
       ·
        rename_i hx
        subst hx
        simp only [Option.bind_eq_some_iff, Option.map_eq_some_iff] at h
        obtain ⟨⟨d, r2⟩, h1, r3, h2, h4⟩ := h
        cases h4
        have e2 := expect_some h2
        simp only at e2
        subst e2
        refine Ev.succ ((within_of (o := 40) (by rfl) (fun op ho => ih.row _ _ _ h1 op ho) op).mono fun F k1 => ?_)
        rw [bare_cons] at k1 ⊢
        simp [pPrim, leafOf, mk7, isM, R.map, R.bind] at k1 ⊢
        rw [k1]
        rfl
       ·split at h
        ·
         rename_i hx
         subst hx
         simp only [Option.bind_eq_some_iff, Option.map_eq_some_iff] at h
         obtain ⟨⟨d, r2⟩, h1, r3, h2, h4⟩ := h
         cases h4
         have e2 := expect_some h2
         simp only at e2
         subst e2
         refine Ev.succ ((within_of (o := 91) (by rfl) (fun op ho => ih.row _ _ _ h1 op ho) op).mono fun F k1 => ?_)
         rw [bare_cons] at k1 ⊢
         simp [pPrim, leafOf, mk7, isM, R.map, R.bind] at k1 ⊢
         rw [k1]
         rfl
        ·split at h
         ·
          rename_i hx
          subst hx
          simp only [Option.bind_eq_some_iff, Option.map_eq_some_iff] at h
          obtain ⟨⟨d, r2⟩, h1, r3, h2, h4⟩ := h
          cases h4
          have e2 := expect_some h2
          simp only at e2
          subst e2
          refine Ev.succ ((within_of (o := 123) (by rfl) (fun op ho => ih.row _ _ _ h1 op ho) op).mono fun F k1 => ?_)
          rw [bare_cons] at k1 ⊢
          simp [pPrim, leafOf, mk7, isM] at k1 ⊢
          rw [k1]
         ·cases h
end Go.Proofs.YtgfhlfbcoimojaaGreat.Np

/- The cells of a matrix; whatever the plain reader reads the parser reads. -/
namespace Go.Proofs.YtgfhlfbcoimojaaGreat.Np
open Lx (PTok Tok)
open Tr (Nd Ev mk7 expect sFrac sRoot sMatrix)
theorem line_end {C q n : Nat} (h1 : C * q ≤ n) (h2 : n < C * q + C) (h : (n + 1) % C = 0) : n + 1 = C * q + C := by
 obtain ⟨r, hr⟩ : ∃ r, n + 1 = C * q + r := ⟨n + 1 - C * q, by omega⟩
 rw [hr, Nat.mul_add_mod] at h
 by_cases hc : r < C
 ·rw [Nat.mod_eq_of_lt hc] at h; omega
 ·omega
theorem line_mid {C q n : Nat} (h2 : n < C * q + C) (h : (n + 1) % C ≠ 0) : n + 1 < C * q + C := by
 rcases Nat.lt_or_ge (n + 1) (C * q + C) with h3 | h3
 ·exact h3
 ·exfalso
  have : n + 1 = C * q + C := by omega
  rw [this, Nat.mul_add_mod, Nat.mod_self] at h
  exact h rfl
theorem cellsS (C : Nat) (hC : 1 ≤ C) : ∀ f, (∀ g, g < f → Reads g) → ∀ ts cs r1 r2, Tr.pCells f ts = some (cs, r1) → expect (mk7 125) r1 = some r2 → ∀ (ks : List Nd) (q c : Nat), C * q ≤ ks.length → ks.length < C * q + C → (C * q = 0 ∨ c = C) →
  (∀ i (h : i < cs.length), cs[i].2 = decide ((ks.length + i + 1) % C = 0)) → ∀ op, Ev fun F => pCells 0 F op ks (C * q) c (bare ts) = .ok (ks ++ cs.map (·.1), C) (bare r2)
 | 0, _, _, _, _, _, h, _, _, _, _, _, _, _, _, _ => by rw [Tr.pCells] at h; cases h
 | f + 1, ih, ts, cs, r1, r2, h, he, ks, q, c, h1, h2, hc, hf, op => by
  have e1 := expect_some he
  subst e1
  rw [Tr.pCells] at h
  simp only [Option.bind_eq_some_iff] at h
  obtain ⟨⟨items, p⟩, hr, h⟩ := h
  simp only at h
  have hrow := (ih f (Nat.lt_succ_self _)).row _ _ _ hr
  split at h
  ·rename_i r hx
   simp only [Option.map_eq_some_iff] at h
   obtain ⟨⟨qq, q2⟩, h3, h4⟩ := h
   cases h4
   have e2 := expect_some hx
   subst e2
   have hf0 := hf 0 (by simp)
   simp only [List.getElem_cons_zero, Nat.add_zero] at hf0
   have hn : (ks.length + 1) % C ≠ 0 := by simpa using hf0.symm
   have hrec := cellsS C hC f (fun g hg => ih g (by omega)) _ _ _ _ h3 he (ks ++ [slot items]) q c (by simp; omega) (by have := line_mid h2 hn; simp; omega) hc (fun i hi => by
    have := hf (i + 1) (by simpa using hi)
    simp only [List.getElem_cons_succ] at this
    rw [this, List.length_append, List.length_singleton, show ks.length + (i + 1) + 1 = ks.length + 1 + i + 1 by omega]) op
   refine Ev.succ (((hrow op (.inr (by rfl))).and hrec).mono fun F ⟨k1, k2⟩ => ?_)
   rw [pCells, k1]
   simp only [R.bind]
   rw [if_pos (by simp [bare_cons, isM, mk7]), bare_cons, List.tail_cons, k2]
   simp [slot, Tr.row]
  ·rename_i hx
   have hcol : ks.length + 1 = C * q + C → colN (C * q) c (ks.length + 1) = C := fun hl => by
    unfold colN
    split
    ·omega
    ·rcases hc with hc | hc
     ·contradiction
     ·exact hc
   split at h
   ·rename_i r hx2
    simp only [Option.map_eq_some_iff] at h
    obtain ⟨⟨qq, q2⟩, h3, h4⟩ := h
    cases h4
    have e2 := expect_some hx2
    subst e2
    have hf0 := hf 0 (by simp)
    simp only [List.getElem_cons_zero, Nat.add_zero] at hf0
    have hn : (ks.length + 1) % C = 0 := by simpa using hf0.symm
    have hl := line_end h1 h2 hn
    have hq : ks.length + 1 = C * (q + 1) := by rw [hl, Nat.mul_succ]
    have hrec := cellsS C hC f (fun g hg => ih g (by omega)) _ _ _ _ h3 he (ks ++ [slot items]) (q + 1) C (by simp; omega) (by simp; omega) (.inr rfl) (fun i hi => by
     have := hf (i + 1) (by simpa using hi)
     simp only [List.getElem_cons_succ] at this
     rw [this, List.length_append, List.length_singleton, show ks.length + (i + 1) + 1 = ks.length + 1 + i + 1 by omega]) op
    refine Ev.succ (((hrow op (.inr (by rfl))).and hrec).mono fun F ⟨k1, k2⟩ => ?_)
    rw [pCells, k1]
    simp only [R.bind]
    rw [hcol hl, if_neg (by simp [bare_cons, isM]), if_neg (by simp [bare_cons, isBreak]), if_neg (by omega), if_neg (by simp [bare_cons, isBreak]), hq, bare_cons, List.tail_cons, k2]
    simp [slot, Tr.row]
   ·rename_i hx2
    cases h
    have hf0 := hf 0 (by simp)
    simp only [List.getElem_cons_zero, Nat.add_zero] at hf0
    have hn : (ks.length + 1) % C = 0 := by simpa using hf0.symm
    have hl := line_end h1 h2 hn
    refine Ev.succ ((hrow op (.inr (by rfl))).mono fun F k1 => ?_)
    rw [pCells, k1]
    simp only [R.bind]
    rw [hcol hl, if_neg (by simp [bare_cons, isM, mk7]), if_neg (by simp [bare_cons, isBreak, isM, mk7]), if_neg (by omega), if_pos (by simp [bare_cons, isBreak, mk7]), bare_cons, List.tail_cons]
    simp [slot, Tr.row]
theorem cells_ne : ∀ f ts cs r, Tr.pCells f ts = some (cs, r) → cs ≠ []
 | 0, _, _, _, h => by rw [Tr.pCells] at h; cases h
 | f + 1, ts, cs, r, h => by
  rw [Tr.pCells] at h
  simp only [Option.bind_eq_some_iff] at h
  obtain ⟨⟨items, p⟩, hr, h⟩ := h
  simp only at h
  split at h
  ·simp only [Option.map_eq_some_iff] at h
   obtain ⟨_, _, h4⟩ := h
   cases h4; exact List.cons_ne_nil _ _
  ·split at h
   ·simp only [Option.map_eq_some_iff] at h
    obtain ⟨_, _, h4⟩ := h
    cases h4; exact List.cons_ne_nil _ _
   ·cases h; exact List.cons_ne_nil _ _
theorem cellsRead (f : Nat) (ih : ∀ g, g < f → Reads g) : CellsRead f := fun ts cs r1 r2 h he hE op => by
 have hne := cells_ne f ts cs r1 h
 have hpos : 1 ≤ Tr.colsOf cs := by
  cases cs with
  | nil => exact absurd rfl hne
  | cons x l =>
   obtain ⟨n, b⟩ := x
   have := colsOf_nonneg l
   rw [Tr.colsOf]
   split <;> omega
 obtain ⟨C, hC⟩ : ∃ C : Nat, Tr.colsOf cs = (C : Int) := ⟨(Tr.colsOf cs).toNat, by omega⟩
 rw [hC] at hE hpos ⊢
 have := cellsS C (by omega) f ih ts cs r1 r2 h he [] 0 0 (by simp) (by simp; omega) (.inl (by simp)) (fun i hi => by
  have h1 : (cs.map (·.2))[i]? = (Tr.ends (C : Int) cs.length)[i]? := by rw [hE]
  simp only [Tr.ends, List.getElem?_map, List.getElem?_range hi, List.getElem?_eq_getElem hi, Option.map_some, Option.some.injEq] at h1
  rw [h1, List.length_nil, Nat.zero_add, decide_eq_decide, show ((i : Int) + 1) % (C : Int) = (((i + 1) % C : Nat) : Int) by rw [Int.natCast_emod]; rfl]
  omega) op
 simpa using this
theorem reads : ∀ f, ∀ g, g ≤ f → Reads g
 | 0 => fun g hg => by
  obtain rfl : g = 0 := by omega
  constructor <;> intro ts a r h <;> first | (rw [Tr.pArg] at h; cases h) | (rw [Tr.pRow] at h; cases h) | (rw [Tr.pBase] at h; cases h) | (rw [Tr.pItem] at h; cases h) | skip
  all_goals (first | (simp [Tr.pArg] at h) | (simp [Tr.pBase] at h))
 | f + 1 => fun g hg => by
  rcases Nat.lt_or_ge g (f + 1) with h | h
  ·exact reads f g (by omega)
  ·obtain rfl : g = f + 1 := by omega
   have ih := reads f f (Nat.le_refl _)
   have hm := cellsRead f fun g hg => reads f g (by omega)
   exact ⟨ih.argS, ih.rowS, ih.baseS hm, ih.itemS⟩
end Go.Proofs.YtgfhlfbcoimojaaGreat.Np
