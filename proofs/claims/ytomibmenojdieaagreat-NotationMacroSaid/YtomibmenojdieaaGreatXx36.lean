/- Part 36 of 42 of a proof; its texts, joined: NyR, NmL, NyS. No condition. -/
import Derived.Test.YtomibmenojdieaaGreatXx35
import Derived.Test.YtomibmenojdieaaGreatXx30
import Derived.Test.YtomibmenojdieaaGreatXx9
import Derived.Test.YtomibmenojdieaaGreatXx16
set_option maxRecDepth 100000
set_option maxHeartbeats 2000000
namespace Go.Proofs.YtomibmenojdieaaGreat
open Go.RowKit
open Tr (Nd)
open Lx (PTok)
theorem new_any_n (A : Option Addr) (n cp en P : Nat) (q : Option Addr) (w : World) : Calls Tryz.prog 27 #[.slice A n cp, .int .i64 (en : Int), .pointer q, .int .i64 (P : Int)] w fun e w' =>
  e = .returned (.pointer (some ⟨w.heap.size, 0, none⟩)) ∧ Fresh w w' ∧ Blk w' w.heap.size 78 #[.slice A n cp, .int .i64 0, .int .i64 (en : Int), .slice none 0 0, .pointer q, .int .i64 (P : Int), .map (some (w.heap.size + 1)), .int .i64 0, .bool false] ∧ w'.heap[w.heap.size + 1]? = some (.map (namedEs w.heap.size).toArray 9) := by
 have hmf : ∀ (fn : Fn) (first cap : Array Value) (w : World), (Instr.makeFunc fn first cap).run Tryz.prog w = .ok (.func fn first cap) w := fun _ _ _ _ => rfl
 have hmm : ∀ W : World, (Instr.makeMap 76 none).run Tryz.prog W = .ok (.map (some W.heap.size)) (W.alloc (.map #[] 0)) := fun W => run_makeMap_plain W 76
 have hsz : (w.alloc (.cells #[.slice A n cp, .int .i64 0, .int .i64 (en : Int), .slice none 0 0, .pointer q, .int .i64 (P : Int), .map none, .int .i64 0, .bool false] 78)).heap.size = w.heap.size + 1 := by simp
 have h0 : (Instr.mapUpdate 76 (.map (some (w.heap.size + 1))) (.string ⟨#[102, 114, 97, 99]⟩) (.func (.func 42) #[.pointer (some ⟨w.heap.size, 0, none⟩)] #[])).run Tryz.prog ((w.alloc (.cells #[.slice A n cp, .int .i64 0, .int .i64 (en : Int), .slice none 0 0, .pointer q, .int .i64 (P : Int), .map none, .int .i64 0, .bool false] 78)).alloc (.map #[] 0)) = .ok () ((w.alloc (.cells #[.slice A n cp, .int .i64 0, .int .i64 (en : Int), .slice none 0 0, .pointer q, .int .i64 (P : Int), .map none, .int .i64 0, .bool false] 78)).alloc (.map (mwE w.heap.size 1).toArray 1)) := by
  have := ins_n (w.alloc (.cells #[.slice A n cp, .int .i64 0, .int .i64 (en : Int), .slice none 0 0, .pointer q, .int .i64 (P : Int), .map none, .int .i64 0, .bool false] 78)) w.heap.size 0 [102, 114, 97, 99] 42 rfl rfl;rw [hsz] at this;exact this
 have h1 : (Instr.mapUpdate 76 (.map (some (w.heap.size + 1))) (.string ⟨#[114, 111, 111, 116]⟩) (.func (.func 43) #[.pointer (some ⟨w.heap.size, 0, none⟩)] #[])).run Tryz.prog ((w.alloc (.cells #[.slice A n cp, .int .i64 0, .int .i64 (en : Int), .slice none 0 0, .pointer q, .int .i64 (P : Int), .map none, .int .i64 0, .bool false] 78)).alloc (.map (mwE w.heap.size 1).toArray 1)) = .ok () ((w.alloc (.cells #[.slice A n cp, .int .i64 0, .int .i64 (en : Int), .slice none 0 0, .pointer q, .int .i64 (P : Int), .map none, .int .i64 0, .bool false] 78)).alloc (.map (mwE w.heap.size 2).toArray 2)) := by
  have := ins_n (w.alloc (.cells #[.slice A n cp, .int .i64 0, .int .i64 (en : Int), .slice none 0 0, .pointer q, .int .i64 (P : Int), .map none, .int .i64 0, .bool false] 78)) w.heap.size 1 [114, 111, 111, 116] 43 rfl rfl;rw [hsz] at this;exact this
 have h2 : (Instr.mapUpdate 76 (.map (some (w.heap.size + 1))) (.string ⟨#[109, 97, 116, 114, 105, 120]⟩) (.func (.func 44) #[.pointer (some ⟨w.heap.size, 0, none⟩)] #[])).run Tryz.prog ((w.alloc (.cells #[.slice A n cp, .int .i64 0, .int .i64 (en : Int), .slice none 0 0, .pointer q, .int .i64 (P : Int), .map none, .int .i64 0, .bool false] 78)).alloc (.map (mwE w.heap.size 2).toArray 2)) = .ok () ((w.alloc (.cells #[.slice A n cp, .int .i64 0, .int .i64 (en : Int), .slice none 0 0, .pointer q, .int .i64 (P : Int), .map none, .int .i64 0, .bool false] 78)).alloc (.map (mwE w.heap.size 3).toArray 3)) := by
  have := ins_n (w.alloc (.cells #[.slice A n cp, .int .i64 0, .int .i64 (en : Int), .slice none 0 0, .pointer q, .int .i64 (P : Int), .map none, .int .i64 0, .bool false] 78)) w.heap.size 2 [109, 97, 116, 114, 105, 120] 44 rfl rfl;rw [hsz] at this;exact this
 have h3 : (Instr.mapUpdate 76 (.map (some (w.heap.size + 1))) (.string ⟨#[104, 97, 116]⟩) (.func (.func 45) #[.pointer (some ⟨w.heap.size, 0, none⟩)] #[])).run Tryz.prog ((w.alloc (.cells #[.slice A n cp, .int .i64 0, .int .i64 (en : Int), .slice none 0 0, .pointer q, .int .i64 (P : Int), .map none, .int .i64 0, .bool false] 78)).alloc (.map (mwE w.heap.size 3).toArray 3)) = .ok () ((w.alloc (.cells #[.slice A n cp, .int .i64 0, .int .i64 (en : Int), .slice none 0 0, .pointer q, .int .i64 (P : Int), .map none, .int .i64 0, .bool false] 78)).alloc (.map (mwE w.heap.size 4).toArray 4)) := by
  have := ins_n (w.alloc (.cells #[.slice A n cp, .int .i64 0, .int .i64 (en : Int), .slice none 0 0, .pointer q, .int .i64 (P : Int), .map none, .int .i64 0, .bool false] 78)) w.heap.size 3 [104, 97, 116] 45 rfl rfl;rw [hsz] at this;exact this
 have h4 : (Instr.mapUpdate 76 (.map (some (w.heap.size + 1))) (.string ⟨#[98, 97, 114]⟩) (.func (.func 45) #[.pointer (some ⟨w.heap.size, 0, none⟩)] #[])).run Tryz.prog ((w.alloc (.cells #[.slice A n cp, .int .i64 0, .int .i64 (en : Int), .slice none 0 0, .pointer q, .int .i64 (P : Int), .map none, .int .i64 0, .bool false] 78)).alloc (.map (mwE w.heap.size 4).toArray 4)) = .ok () ((w.alloc (.cells #[.slice A n cp, .int .i64 0, .int .i64 (en : Int), .slice none 0 0, .pointer q, .int .i64 (P : Int), .map none, .int .i64 0, .bool false] 78)).alloc (.map (mwE w.heap.size 5).toArray 5)) := by
  have := ins_n (w.alloc (.cells #[.slice A n cp, .int .i64 0, .int .i64 (en : Int), .slice none 0 0, .pointer q, .int .i64 (P : Int), .map none, .int .i64 0, .bool false] 78)) w.heap.size 4 [98, 97, 114] 45 rfl rfl;rw [hsz] at this;exact this
 have h5 : (Instr.mapUpdate 76 (.map (some (w.heap.size + 1))) (.string ⟨#[118, 101, 99]⟩) (.func (.func 45) #[.pointer (some ⟨w.heap.size, 0, none⟩)] #[])).run Tryz.prog ((w.alloc (.cells #[.slice A n cp, .int .i64 0, .int .i64 (en : Int), .slice none 0 0, .pointer q, .int .i64 (P : Int), .map none, .int .i64 0, .bool false] 78)).alloc (.map (mwE w.heap.size 5).toArray 5)) = .ok () ((w.alloc (.cells #[.slice A n cp, .int .i64 0, .int .i64 (en : Int), .slice none 0 0, .pointer q, .int .i64 (P : Int), .map none, .int .i64 0, .bool false] 78)).alloc (.map (mwE w.heap.size 6).toArray 6)) := by
  have := ins_n (w.alloc (.cells #[.slice A n cp, .int .i64 0, .int .i64 (en : Int), .slice none 0 0, .pointer q, .int .i64 (P : Int), .map none, .int .i64 0, .bool false] 78)) w.heap.size 5 [118, 101, 99] 45 rfl rfl;rw [hsz] at this;exact this
 have h6 : (Instr.mapUpdate 76 (.map (some (w.heap.size + 1))) (.string ⟨#[100, 111, 116]⟩) (.func (.func 45) #[.pointer (some ⟨w.heap.size, 0, none⟩)] #[])).run Tryz.prog ((w.alloc (.cells #[.slice A n cp, .int .i64 0, .int .i64 (en : Int), .slice none 0 0, .pointer q, .int .i64 (P : Int), .map none, .int .i64 0, .bool false] 78)).alloc (.map (mwE w.heap.size 6).toArray 6)) = .ok () ((w.alloc (.cells #[.slice A n cp, .int .i64 0, .int .i64 (en : Int), .slice none 0 0, .pointer q, .int .i64 (P : Int), .map none, .int .i64 0, .bool false] 78)).alloc (.map (mwE w.heap.size 7).toArray 7)) := by
  have := ins_n (w.alloc (.cells #[.slice A n cp, .int .i64 0, .int .i64 (en : Int), .slice none 0 0, .pointer q, .int .i64 (P : Int), .map none, .int .i64 0, .bool false] 78)) w.heap.size 6 [100, 111, 116] 45 rfl rfl;rw [hsz] at this;exact this
 have h7 : (Instr.mapUpdate 76 (.map (some (w.heap.size + 1))) (.string ⟨#[116, 105, 108, 100, 101]⟩) (.func (.func 45) #[.pointer (some ⟨w.heap.size, 0, none⟩)] #[])).run Tryz.prog ((w.alloc (.cells #[.slice A n cp, .int .i64 0, .int .i64 (en : Int), .slice none 0 0, .pointer q, .int .i64 (P : Int), .map none, .int .i64 0, .bool false] 78)).alloc (.map (mwE w.heap.size 7).toArray 7)) = .ok () ((w.alloc (.cells #[.slice A n cp, .int .i64 0, .int .i64 (en : Int), .slice none 0 0, .pointer q, .int .i64 (P : Int), .map none, .int .i64 0, .bool false] 78)).alloc (.map (mwE w.heap.size 8).toArray 8)) := by
  have := ins_n (w.alloc (.cells #[.slice A n cp, .int .i64 0, .int .i64 (en : Int), .slice none 0 0, .pointer q, .int .i64 (P : Int), .map none, .int .i64 0, .bool false] 78)) w.heap.size 7 [116, 105, 108, 100, 101] 45 rfl rfl;rw [hsz] at this;exact this
 have h8 : (Instr.mapUpdate 76 (.map (some (w.heap.size + 1))) (.string ⟨#[99, 104, 101, 99, 107]⟩) (.func (.func 45) #[.pointer (some ⟨w.heap.size, 0, none⟩)] #[])).run Tryz.prog ((w.alloc (.cells #[.slice A n cp, .int .i64 0, .int .i64 (en : Int), .slice none 0 0, .pointer q, .int .i64 (P : Int), .map none, .int .i64 0, .bool false] 78)).alloc (.map (mwE w.heap.size 8).toArray 8)) = .ok () ((w.alloc (.cells #[.slice A n cp, .int .i64 0, .int .i64 (en : Int), .slice none 0 0, .pointer q, .int .i64 (P : Int), .map none, .int .i64 0, .bool false] 78)).alloc (.map (mwE w.heap.size 9).toArray 9)) := by
  have := ins_n (w.alloc (.cells #[.slice A n cp, .int .i64 0, .int .i64 (en : Int), .slice none 0 0, .pointer q, .int .i64 (P : Int), .map none, .int .i64 0, .bool false] 78)) w.heap.size 8 [99, 104, 101, 99, 107] 45 rfl rfl;rw [hsz] at this;exact this
 clear hsz;go_enter Tryz.func27, Tryz.ntmps27;go_wp2_with fail
 go_ret;refine ⟨rfl, ((Touch.refl _ w).alloc _).alloc _, (Blk.new w 78 #[.slice A n cp, .int .i64 0, .int .i64 (en : Int), .slice none 0 0, .pointer q, .int .i64 (P : Int), .map (some (w.heap.size + 1)), .int .i64 0, .bool false]).alloc _, ?_⟩;have := heap_alloc_new (w.alloc (.cells #[.slice A n cp, .int .i64 0, .int .i64 (en : Int), .slice none 0 0, .pointer q, .int .i64 (P : Int), .map (some (w.heap.size + 1)), .int .i64 0, .bool false] 78)) (.map (mwE w.heap.size 9).toArray 9);rw [show (w.alloc (.cells #[.slice A n cp, .int .i64 0, .int .i64 (en : Int), .slice none 0 0, .pointer q, .int .i64 (P : Int), .map (some (w.heap.size + 1)), .int .i64 0, .bool false] 78)).heap.size = w.heap.size + 1 by simp] at this;exact this
end Go.Proofs.YtomibmenojdieaaGreat
namespace Go.Proofs.YtomibmenojdieaaGreat.Mcr
open Tr (Nd)
open Np (slot)
def readS (P : Nat) (tb : Table) (l : Bytes) : R (List Nd × Bool) := match Lx.lexAll l with
 | (ts, none) => parseT ⟨l.length, P, tb⟩ ts
 | (_, some (p, e)) => .err p e
theorem readS_ends (P : Nat) (tb : Table) (l : Bytes) : readS P tb l ≠ .out := by
 unfold readS;split
 ·exact parseT_ends _ _
 ·intro h; cases h
def parseF (tb : Table) (l : Bytes) : Nd × Nat × Nat := match readS 0 tb l with
 | .ok (ks, fits) _ => if fits = false ∨ Tr.valid (slot ks) = false then (nilNd, 0, 6) else (slot ks, 0, 0)
 | .err i e => (nilNd, i, e)
 | .out => (nilNd, 0, 0)
def addF (tb : Table) (name : Bytes) (P : Nat) (tree : Nd) : Table × Nat :=
 if name.length < 2 ∨ Tr.symbol name = false ∨ templF tree P = false then (tb, 1)
 else if (getF tb name).isSome then (tb, 9)
 else if 64 ≤ tb.length then (tb, 6)
 else (tb ++ [⟨name, P, tree⟩], 0)
structure Def where
 name : Bytes
 params : Int
 body : Bytes
def defineF (tb : Table) (d : Def) : Option Table :=
 if d.params < 0 ∨ 4 < d.params then none
 else match readS d.params.toNat tb d.body with
  | .ok (ks, fits) _ => if fits = false ∨ templF (slot ks) d.params.toNat = false then none
   else if (addF tb d.name d.params.toNat (slot ks)).2 = 0 then some (addF tb d.name d.params.toNat (slot ks)).1 else none
  | _ => none
def loadF : Table → List Def → Option Table
 | tb, [] => some tb
 | tb, d :: ds => match defineF tb d with
  | some tb' => loadF tb' ds
  | none => none
theorem addF_ok {tb : Table} {name : Bytes} {P : Nat} {t : Nd} (h : (addF tb name P t).2 = 0) : (addF tb name P t).1 = tb ++ [⟨name, P, t⟩] ∧ getF tb name = none ∧ tb.length < 64 ∧ templF t P = true := by
 unfold addF at h ⊢;split
 ·rename_i c; rw [if_pos c] at h; cases h
 ·rename_i c
  rw [if_neg c] at h;split
  ·rename_i d; rw [if_pos d] at h; cases h
  ·rename_i d
   rw [if_neg d] at h;split
   ·rename_i e; rw [if_pos e] at h; cases h
   ·refine ⟨rfl, by simpa using d, by omega, ?_⟩
    cases hx : templF t (P : Int) with
    | true => rfl
    | false => exact absurd (.inr (.inr hx)) c
end Go.Proofs.YtomibmenojdieaaGreat.Mcr
namespace Go.Proofs.YtomibmenojdieaaGreat
open Go.RowKit
open Tr (Nd)
open Lx (PTok)
open Mcr (R pRow pIn pScript pItem pPrim pArgs pName pCells pArg)
attribute [local go_sem] stillV stillUpon
theorem lim_err_ne {most : Nat} {t : Lx.Tok} {n i e : Nat} (h : Lx.lim most t n = .err i e) : e ≠ 0 := by
 unfold Lx.lim at h;split at h
 ·cases h; decide
 ·cases h
theorem quo_err_ne : ∀ (q acc : Lx.Bytes) (i a e : Nat), Lx.quo q acc i = .err a e → e ≠ 0
 | [], acc, i, a, e, h => by cases h; decide
 | c :: q, acc, i, a, e, h => by
  rw [Lx.quo.eq_def] at h;simp only at h;split at h
  ·exact lim_err_ne h
  ·split at h
   ·cases h; decide
   ·split at h
    ·split at h
     ·cases h; decide
     ·rename_i d q'
      split at h
      ·exact quo_err_ne q' _ _ a e h
      ·cases h; decide
    ·exact quo_err_ne q _ _ a e h
theorem next_err_ne (r : Lx.Bytes) (i e : Nat) (h : Lx.next r = .err i e) : e ≠ 0 := by
 cases r with
 | nil => cases h; decide
 | cons c q =>
  rw [Lx.next] at h;split at h
  ·exact lim_err_ne h
  ·split at h
   ·cases h
   ·split at h
    ·exact quo_err_ne q _ _ i e h
    ·split at h
     ·cases h
     ·split at h
      ·unfold Lx.name at h
       simp only at h;split at h
       ·exact lim_err_ne h
       ·split at h
        ·cases h
        ·cases h; decide
      ·split at h
       ·cases h
       ·split at h
        ·cases h
        ·cases h; decide
theorem lexGo_err_ne (l : Lx.Bytes) : ∀ (f a p e : Nat), (Lx.lexGo l f a).2 = some (p, e) → e ≠ 0
 | 0, a, p, e, h => by cases h
 | f + 1, a, p, e, h => by
  rw [Lx.lexGo] at h;split at h
  ·cases h
  ·split at h
   ·rename_i i e' hn
    simp only [Option.some.injEq, Prod.mk.injEq] at h;rw [← h.2];exact next_err_ne _ _ _ hn
   ·exact lexGo_err_ne l f _ p e h
theorem lexAll_err_ne (l : Lx.Bytes) (p e : Nat) (h : (Lx.lexAll l).2 = some (p, e)) : e ≠ 0 := lexGo_err_ne l _ 0 p e h
theorem lexAll_ok (l : Lx.Bytes) : ∀ t ∈ (Lx.lexAll l).1, Lx.TokOK (Lx.tok t) := Lx.lexGo_ok l _ 0
theorem tokOK_len {t : Lx.Tok} (h : Lx.TokOK t) : t.text.length ≤ maxLen := by
 have : t.text.length ≤ 200 := by
  rcases h with ⟨_, _, e, _⟩ | ⟨_, h, _⟩ | ⟨_, h, _⟩ | ⟨_, h, _⟩ | ⟨_, a, b, e, _⟩ | ⟨_, _, e, _⟩ | ⟨_, _, e, _⟩ | ⟨_, e⟩
  all_goals first | (rw [e]; simp) | omega
 unfold maxLen;omega
theorem tokOK_kind {t : Lx.Tok} (h : Lx.TokOK t) : t.kind ≠ 0 := by
 rcases h with ⟨h, _⟩ | ⟨h, _⟩ | ⟨h, _⟩ | ⟨h, _⟩ | ⟨h, _⟩ | ⟨h, _⟩ | ⟨h, _⟩ | ⟨h, _⟩ <;> omega
theorem tokOK_par {t : Lx.Tok} (h : Lx.TokOK t) (hk : t.kind = 6) : ∃ b : UInt8, t.text = [b] ∧ 49 ≤ b ∧ b ≤ 57 := by
 rcases h with ⟨h, _⟩ | ⟨h, _⟩ | ⟨h, _⟩ | ⟨h, _⟩ | ⟨h, _⟩ | ⟨_, d, e, h1, h2⟩ | ⟨h, _⟩ | ⟨h, _⟩
 all_goals first | omega | skip
 refine ⟨d, e, h1, ?_⟩;rw [UInt8.le_iff_toNat_le] at h2 ⊢;exact Nat.le_trans h2 (by decide)
def ParseE (w : World) (X : R (List Nd × Bool)) (e : Ending) (w' : World) : Prop :=
 match X with
 | .ok x _ => ∃ A cp, e = .returned (.tuple #[.agg #[.int .i64 1, .string ⟨#[]⟩, .int .i64 0, .slice A x.1.length cp], .bool x.2, failV 0 0]) ∧ TreT w.heap.size w' x.1 (.slice A x.1.length cp) ∧ Fresh w w'
 | .err i er => er ≠ 0 ∧ e = .returned (.tuple #[.agg zeroN, .bool false, failV i er]) ∧ Fresh w w'
 | .out => True
theorem TabV.up {W : World} {g g' : Nat} {tb : Mcr.Table} {tp : Value} (h : TabV W g tb tp) (hg : W.heap.size ≤ g') : TabV W g' tb tp :=
 h.imp id fun ⟨gt, bm, nv, sls, h1, h2⟩ => ⟨gt, bm, nv, sls, h1, h2.blk, h2.map, h2.tree, h2.txt, fun e => by have := h2.blk.lt; omega, fun e => by
  have := h2.map;rw [Array.getElem?_eq_none (by omega)] at this;cases this⟩
theorem Mp.toFresh {g B : Nat} {w a b : World} (hf : Fresh w a) (hm : Mp g B a b) (hg : w.heap.size ≤ g) (hB : w.heap.size ≤ B) : Fresh w b :=
 hf.trans' hm fun i hi => .inr (by rcases hi with rfl | ⟨h, _⟩ <;> omega)
theorem setCell_same {w : World} {g i : Nat} {t : TypeId} {cs : Array Value} {v : Value} (h : Blk w g t cs) (hv : cs[i]? = some v) : w.setCell ⟨g, i, none⟩ v = w := by
 have hh : (w.setCell ⟨g, i, none⟩ v).heap = w.heap := by
  apply Array.ext_getElem?
  intro k
  by_cases hk : k = g
  ·subst hk
   have h1 := h.put i v;unfold Blk at h h1;rw [h1, h]
   congr 2
   apply Array.ext_getElem?
   intro j;rw [Array.getElem?_setIfInBounds];split
   ·rename_i e
    subst e;split
    ·exact hv.symm
    ·rename_i hl
     rw [Array.getElem?_eq_none (by omega)] at hv;cases hv
   ·rfl
  ·exact Below.heap_setCell w ⟨g, i, none⟩ v k hk
 have : w.setCell ⟨g, i, none⟩ v = { w with heap := (w.setCell ⟨g, i, none⟩ v).heap } := rfl;rw [this, hh]
theorem put2_same {w : World} {g : Nat} {t : TypeId} {x y : Value} (h : Blk w g t #[x, y]) : (w.setCell ⟨g, 0, none⟩ x).setCell ⟨g, 1, none⟩ y = w := by
 have h0 : w.setCell ⟨g, 0, none⟩ x = w := setCell_same h rfl;rw [h0];exact setCell_same h rfl
theorem size_toList (s : ByteArray) : s.data.toList.length = s.size := by simp
theorem parse_any (s : ByteArray) (P : Nat) (hP : P ≤ 4) (tb : Mcr.Table) (tp : Option Addr) (w : World) (hT : TabV w w.heap.size tb (.pointer tp)) (hm : s.size ≤ 140737488355328) (hc : (Lx.lexAll s.data.toList).1.length ≤ 8000) : Calls Tryz.prog 14 #[.string s, .pointer tp, .int .i64 (P : Int)] w (ParseE w (Mcr.readS P tb s.data.toList)) := by
 have hok := lexAll_ok s.data.toList;have hern := lexAll_err_ne s.data.toList;have HTAB := hid hT;unfold Mcr.readS;clear hT;cases hl : Lx.lexAll s.data.toList with
 | mk ts o =>
 rw [hl] at hc hok hern;cases o with
 | some pe =>
  obtain ⟨p, er⟩ := pe;have HER := hid (hern p er rfl);have e0 := fail_ne HER.out;have HTK := hid (fun (w' : World) => Tokens_err (s := s) (w := w') (p := p) (er := er) (by rw [hl]) hm (by rw [hl]; exact hc));clear hern hok hl hc;refine Calls.via fun Q hQ => ?_
  have HQ := hid hQ;clear hQ;go_enter Tryz.func14, Tryz.ntmps14;go_wp2_with fail
  refine (HTK.out _).mono ?_;rintro _ w1 ⟨hf, rfl⟩;have HF := hid (Touch.pre (Touch.pre hf));have HBN := hid (hf.blk ((Blk.new w 35 zeroN).alloc (.cells #[.int .i64 0, .int .i64 0] 48)) (fun h => h));have HBF := hid (hf.blk (Blk.new2 w (.cells zeroN 35) 48 #[.int .i64 0, .int .i64 0]) (fun h => h));clear hf;obtain ⟨p0, p1, p2, p3, y0, y1, y2, y3, hlt0⟩ := Blk.four HBN.out;obtain ⟨q0, q1, z0, z1, hlt1⟩ := Blk.two HBF.out;go_wp2_with fail
  have hne : w.heap.size ≠ w.heap.size + 1 := by omega
  have n1 := (HBN.out.self4 (.int .i64 0) (.string ⟨#[]⟩) (.int .i64 0) (.slice none 0 0)).far2 hne (.int .i64 (p : Int)) (.int .i64 (er : Int));have n2 := (HBF.out.far4 (Ne.symm hne) (.int .i64 0) (.string ⟨#[]⟩) (.int .i64 0) (.slice none 0 0)).self2 (.int .i64 (p : Int)) (.int .i64 (er : Int));have hf5 : Fresh w _ := (HF.out.put4 (g := w.heap.size) (.inr (Nat.le_refl _)) (.int .i64 0) (.string ⟨#[]⟩) (.int .i64 0) (.slice none 0 0)).put2 (g := w.heap.size + 1) (.inr (by omega)) (.int .i64 (p : Int)) (.int .i64 (er : Int));obtain ⟨g0, g1, g2, g3, _⟩ := Blk.four n1;obtain ⟨f0, f1, _⟩ := Blk.two n2;simp only [put2, put4] at g0 g1 g2 g3 f0 f1 hf5
  (try simp only [Exit.inBlock, Exit.then])
  refine bodyPost_ret (v := .tuple #[.agg zeroN, .bool false, failV p er]) (by simp [failV, results, Tryz.results14, go_sem, f0, f1, g0, g1, g2, g3]) rfl ?_;exact HQ.out _ _ ⟨HER.out, rfl, hf5⟩
 | none =>
  have HTK := hid (fun (w' : World) => Tokens_ok (s := s) (w := w') hl hm hc);have HOK := hid hok;have HC := hid hc;clear hern hok hl;simp only
  rw [size_toList];have HND := hid (Mcr.parseT_ends ⟨s.size, P, tb⟩ ts);refine Calls.via fun Q hQ => ?_
  have HQ := hid hQ;clear hQ;go_enter Tryz.func14, Tryz.ntmps14;go_wp2_with fail
  refine (HTK.out _).mono ?_;rintro _ w1 ⟨hf, v, rfl, hown⟩;have HTR := hid (owns_row hown);obtain ⟨At, ct, rfl⟩ := own_slc hown;have HOWN := hid hown;have HF1 := hid (Touch.pre (Touch.pre hf));have HBN1 := hid (hf.blk ((Blk.new w 35 zeroN).alloc (.cells #[.int .i64 0, .int .i64 0] 48)) (fun h => h));have HBF1 := hid (hf.blk (Blk.new2 w (.cells zeroN 35) 48 #[.int .i64 0, .int .i64 0]) (fun h => h));have HS1 := hid (show w.heap.size + 1 < w1.heap.size from HBF1.out.lt);clear hf hown;go_wp2_with fail
  refine (new_any_n At ts.length ct s.size P tp w1).mono ?_;rintro _ w3 ⟨rfl, hf3, hb3, hmap3⟩
  have HGD := hid (show Cf.Good ⟨w1.heap.size, w3, .slice At ts.length ct, .map (some (w1.heap.size + 1)), s.size, ts, P, tb, .pointer tp⟩ from
   ⟨HTR.out.fresh hf3, hb3.lt, fun gt o n cap e => by
    simp only at e;exact Nat.ne_of_lt (HOWN.out.lt gt (by rw [e]; rfl)).2, by have := HC.out; show ts.length ≤ 100000; omega, hm, fun t ht => tokOK_len (HOK.out t ht), fun t ht => tokOK_kind (HOK.out t ht), fun t ht hk => tokOK_par (HOK.out t ht) hk, hP, ((HTAB.out.up (g' := w1.heap.size) HF1.out.size).fresh (HF1.out.trans hf3)), ⟨_, hb3⟩⟩)
  obtain ⟨c, hcc⟩ : ∃ c : Cf, c = ⟨w1.heap.size, w3, .slice At ts.length ct, .map (some (w1.heap.size + 1)), s.size, ts, P, tb, .pointer tp⟩ := ⟨_, rfl⟩;rw [← hcc] at HGD;have HG := hid (show c.g = w1.heap.size from by rw [hcc]);have HW := hid (show c.W0 = w3 from by rw [hcc]);have HEN := hid (show c.en = s.size from by rw [hcc]);have HCT := hid (show c.T = ts from by rw [hcc]);have HCE := hid (show c.E = ⟨s.size, P, tb⟩ from by rw [hcc]);have HTP := hid (show c.tp = .pointer tp from by rw [hcc]);have HCP := hid (show c.P = P from by rw [hcc]);have HTV := hid (show c.tv = .slice At ts.length ct from by rw [hcc])
  have HNM := hid (show c.Named (w1.heap.size + 1) from by
   rw [hcc];exact ⟨rfl, hmap3, fun e => by have e' : w1.heap.size + 1 = w1.heap.size := e; omega⟩)
  have HP3 := hid (show Ps c ⟨0, 0, false⟩ [] w3 from by
   rw [hcc];exact ⟨Touch.refl _ _, ⟨.slice none 0 0, hb3, World.ownsRow_nil _ _ _ _⟩, Nat.zero_le _, Nat.zero_le _⟩)
  have HF3 := hid (HF1.out.trans hf3);have HBN3 := hid (hf3.blk HBN1.out fun h => h);have HBF3 := hid (hf3.blk HBF1.out fun h => h);have HS3 := hid (show w1.heap.size < w3.heap.size from hb3.lt);clear hcc hf3 hb3 hmap3;have hne := HND.out;unfold Mcr.parseT at hne HQ;have HNE := hid hne
  have HROW := hid (show pRow ⟨s.size, P, tb⟩ (8 * ts.length + 8) [] ⟨ts, 0, false⟩ ≠ .out → Calls Tryz.prog 28 #[.pointer (some ⟨w1.heap.size, 0, none⟩)] w3 (ItemsE c ⟨0, 0, false⟩ [] (pRow ⟨s.size, P, tb⟩ (8 * ts.length + 8) [] ⟨ts, 0, false⟩) w3) from fun h => by
   have h1 := row_any_n c HGD.out (w1.heap.size + 1) HNM.out (8 * ts.length + 8) (by have := HC.out; omega) ⟨0, 0, false⟩ [] w3 HP3.out (Nat.le_refl _);unfold pp0 Cf.at at h1;rw [HG.out, HCE.out, HCT.out, List.drop_zero] at h1;exact h1 h)
  clear hne;go_wp2_with fail
  refine (HROW.out (fun h => HNE.out (by rw [h] <;> rfl))).mono ?_;intro e w4 hres;have hparts := hres.parts (fun h => HNE.out (by rw [h] <;> rfl));clear hres;generalize pRow ⟨s.size, P, tb⟩ (8 * ts.length + 8) [] ⟨ts, 0, false⟩ = X at HNE HQ hparts;clear HROW;obtain ⟨A, n, cp, i, er, rfl, hm4, hend⟩ := hparts;have hd4 : w.heap.size + 1 < c.g := by rw [HG.out]; exact HS1.out
  have HM4 := hid hm4;have HBN4 := hid (hm4.blk HBN3.out (by omega) (by decide));have HBF4 := hid (hm4.blk HBF3.out (by omega) (by decide));have HF4 := hid (hm4.toFresh HF3.out (by omega) (by rw [HW.out]; have := HF3.out.size; omega));clear hm4;obtain ⟨q0, q1, z0, z1, hlt1⟩ := Blk.two HBF4.out
  rcases hend with ⟨items, rest, k', rfl, rfl, rfl, rfl, htr, hdr, hkk, hp⟩ | ⟨rfl, he0⟩
  case inr =>
   have HE0 := hid he0;have e0 := fail_ne he0;have e0p : ¬ (er : Int) = 0 := by omega
   clear he0;unfold failV;go_wp2_with fail
   have hbf5 := HBF4.out.self2 (.int .i64 (i : Int)) (.int .i64 (er : Int));have hbn5 := HBN4.out.far2 (L := w.heap.size) (g := w.heap.size + 1) (by omega) (.int .i64 (i : Int)) (.int .i64 (er : Int));have hf5 : Fresh w _ := HF4.out.put2 (g := w.heap.size + 1) (.inr (by omega)) (.int .i64 (i : Int)) (.int .i64 (er : Int));have ht5 := touch2 w4 (w.heap.size + 1) (.int .i64 (i : Int)) (.int .i64 (er : Int));simp only [put2] at hbf5 hbn5 hf5 ht5;generalize (World.setCell (World.setCell w4 ⟨w.heap.size + 1, 0, none⟩ _) ⟨w.heap.size + 1, 1, none⟩ _) = W5 at hbf5 hbn5 hf5 ht5 ⊢;have HBF5 := hid hbf5;have HBN5 := hid hbn5;have HF5 := hid hf5;have HT5 := hid ht5;clear hbf5 hbn5 hf5 ht5 q0 q1 z0 z1 hlt1;have r0 : W5.cell? ⟨w.heap.size + 1, 1, none⟩ = some (.int .i64 (er : Int)) := HBF5.out.cell 1;have hl5 := HBF5.out.lt
   go_quiet (fail)
   clear r0 hl5;have HBF6 := hid (HBF5.out.drewN nq);have HBN6 := hid (HBN5.out.drewN nq);have HF6 := hid (HF5.out.drewN nq);generalize W5.drewN nq = W6 at HBF6 HBN6 HF6 ⊢;obtain ⟨q0, q1, z0, z1, hlt1⟩ := Blk.two HBF6.out;go_wp2_with fail
   clear q0 q1 z0 z1 hlt1;refine wp_region_in (fun W => Blk W (w.heap.size + 1) 48 #[.int .i64 (i : Int), .int .i64 (er : Int)] ∧ Blk W w.heap.size 35 zeroN) [(0, true), (1, true), (2, false), (3, true), (4, false)] (by kernel_rfl) (fun _ _ d _ _ h => by cases d <;> exact h) (by kernel_rfl) ⟨HBF6.out.drewN 1, HBN6.out.drewN 1⟩ ?_;refine wpSeq_plain rfl (fun K hK => ?_);rw [if_pos (by rfl)];refine ⟨.agg zeroN, fun W hW => ?_, hK _ ?_⟩
   ·go_simp
   clear hK K;refine wpSeq_plain rfl (fun K hK => ?_);rw [if_pos (by rfl)];refine ⟨.agg #[.int .i64 (i : Int), .int .i64 (er : Int)], fun W hW => ?_, hK _ ?_⟩
   ·obtain ⟨h1, _⟩ := hW
    obtain ⟨p0, p1, _⟩ := Blk.two h1;go_simp
   clear hK K;obtain ⟨p0, p1, p2, p3, y0, y1, y2, y3, hlt0⟩ := Blk.four (HBN6.out.drewN 1);refine wpSeq_lone rfl (fun K hK => ?_);go_wp2_with fail
   have hne : w.heap.size ≠ w.heap.size + 1 := by omega
   have n1 := (HBN6.out.drewN 1).self4 (.int .i64 0) (.string ⟨#[]⟩) (.int .i64 0) (.slice none 0 0);have n2 := (HBF6.out.drewN 1).far4 (Ne.symm hne) (.int .i64 0) (.string ⟨#[]⟩) (.int .i64 0) (.slice none 0 0);have hm7 : Fresh w _ := (HF6.out.drewN 1).put4 (g := w.heap.size) (.inr (Nat.le_refl _)) (.int .i64 0) (.string ⟨#[]⟩) (.int .i64 0) (.slice none 0 0);simp only [put4] at n1 n2 hm7;generalize (World.setCell (World.setCell (World.setCell (World.setCell (W6.drewN 1) ⟨w.heap.size, 0, none⟩ _) ⟨w.heap.size, 1, none⟩ _) ⟨w.heap.size, 2, none⟩ _) ⟨w.heap.size, 3, none⟩ _) = W7 at n1 n2 hm7 ⊢;refine hK _ _ ⟨n2, n1⟩ ?_;clear hK K p0 p1 p2 p3 y0 y1 y2 y3 hlt0;have HN1 := hid n1;have HN2 := hid n2;have HM7 := hid hm7;clear n1 n2 hm7;refine wpSeq_plain rfl (fun K hK => ?_);rw [if_pos (by rfl)];refine ⟨.bool false, fun W hW => ?_, hK _ ?_⟩
   ·go_simp
   clear hK K;obtain ⟨q0, q1, z0, z1, hlt1⟩ := Blk.two HN2.out;refine wpSeq_lone rfl (fun K hK => ?_);go_wp2_with fail
   have m1 := HN1.out.far2 hne (.int .i64 (i : Int)) (.int .i64 (er : Int));have m2 := HN2.out.self2 (.int .i64 (i : Int)) (.int .i64 (er : Int));have hm8 : Fresh w _ := HM7.out.put2 (g := w.heap.size + 1) (.inr (by omega)) (.int .i64 (i : Int)) (.int .i64 (er : Int));simp only [put2] at m1 m2 hm8;generalize (World.setCell (World.setCell W7 ⟨w.heap.size + 1, 0, none⟩ _) ⟨w.heap.size + 1, 1, none⟩ _) = W8 at m1 m2 hm8 ⊢;refine hK _ _ ⟨m2, m1⟩ ?_;clear hK K q0 q1 z0 z1 hlt1;refine wpSeq_end ?_;go_wp2_with fail
   obtain ⟨g0, g1, g2, g3, _⟩ := Blk.four m1;obtain ⟨f0, f1, _⟩ := Blk.two m2
   (try simp only [Exit.inBlock, Exit.then])
   refine bodyPost_ret (v := .tuple #[.agg zeroN, .bool false, failV i er]) (by simp [failV, results, Tryz.results14, go_sem, f0, f1, g0, g1, g2, g3]) rfl ?_;exact HQ.out _ _ ⟨HE0.out, rfl, hm8⟩
  have HTRE := hid htr;have HP4 := hid hp;have HDR := hid hdr;clear htr hp hdr;unfold failV;go_wp2_with fail
  rw [put2_same HBF4.out];clear q0 q1 z0 z1 hlt1;obtain ⟨ov, hb4, _⟩ := HP4.out.box;rw [HG.out, HTV.out] at hb4;have hkl : k'.p ≤ ts.length := by have := HP4.out.le; rw [HCT.out] at this; exact this
  have HKL := hid hkl;have HB4 := hid hb4;have r0 : w4.cell? ⟨w.heap.size + 1, 1, none⟩ = some (.int .i64 0) := HBF4.out.cell 1;have r1 : w4.cell? ⟨w1.heap.size, 0, none⟩ = some (.slice At ts.length ct) := hb4.cell 0;have r2 : w4.cell? ⟨w1.heap.size, 1, none⟩ = some (.int .i64 (k'.p : Int)) := hb4.cell 1;have hl4 := HBF4.out.lt;have hl5 := hb4.lt;clear hb4 hkl
  by_cases hlast : k'.p < ts.length
  ·have c1 : (k'.p : Int) < (ts.length : Int) := by omega
   have c2 : decide ((k'.p : Int) < (ts.length : Int)) = true := decide_eq_true (by omega)
   have HX := hid (show (if rest.l.isEmpty then R.ok (items, !rest.b) rest else Mcr.refuse ⟨s.size, P, tb⟩ rest) = .err (Np.place c.en (c.at k').l) 3 from by
    rw [← HDR.out, if_neg (fun h => by have h2 := List.isEmpty_iff.1 h; rw [Cf.at_l, HCT.out, List.drop_eq_nil_iff] at h2; omega), HEN.out];rfl)
   go_quiet (fail)
   clear r0 r1 r2 hl4 hl5 c1 c2;have HP6 := hid (HP4.out.fresh ((Touch.refl _ w4).drewN nq));have HBF6 := hid (HBF4.out.drewN nq);have HBN6 := hid (HBN4.out.drewN nq);have HF6 := hid (HF4.out.drewN nq);generalize w4.drewN nq = w6 at HP6 HBF6 HBN6 HF6 ⊢;have HRF := hid (refuse_any_n c HGD.out k' [] w6 HP6.out);unfold pp0 at HRF;rw [HG.out] at HRF;go_wp2_with fail
   refine HRF.out.mono ?_;rintro _ w7 ⟨rfl, hf⟩;have HBF7 := hid (hf.blk HBF6.out fun h => h);have HBN7 := hid (hf.blk HBN6.out fun h => h);have HF7 := hid (HF6.out.trans hf);clear hf;simp only [Mcr.R.bind] at HQ;rw [HX.out] at HQ;generalize Np.place c.en (c.at k').l = pl at HQ ⊢;have HBF4 := HBF7;have HBN4 := HBN7;have HF4 := HF7;obtain ⟨q0, q1, z0, z1, hlt1⟩ := Blk.two HBF7.out;unfold failV;go_wp2_with fail
   have hbf5 := HBF7.out.self2 (.int .i64 (pl : Int)) (.int .i64 3);have hbn5 := HBN7.out.far2 (L := w.heap.size) (g := w.heap.size + 1) (by omega) (.int .i64 (pl : Int)) (.int .i64 3);have hf5 : Fresh w _ := HF7.out.put2 (g := w.heap.size + 1) (.inr (by omega)) (.int .i64 (pl : Int)) (.int .i64 3);simp only [put2] at hbf5 hbn5 hf5;generalize (World.setCell (World.setCell w7 ⟨w.heap.size + 1, 0, none⟩ _) ⟨w.heap.size + 1, 1, none⟩ _) = W8 at hbf5 hbn5 hf5 ⊢;have HBF8 := hid hbf5;have HBN8 := hid hbn5;have HF8 := hid hf5;clear hbf5 hbn5 hf5 q0 q1 z0 z1 hlt1;refine wp_region_in (fun W => Blk W (w.heap.size + 1) 48 #[.int .i64 (pl : Int), .int .i64 3] ∧ Blk W w.heap.size 35 zeroN) [(0, true), (1, true), (2, false), (3, true), (4, false)] (by kernel_rfl) (fun _ _ d _ _ h => by cases d <;> exact h) (by kernel_rfl) ⟨HBF8.out.drewN 1, HBN8.out.drewN 1⟩ ?_;refine wpSeq_plain rfl (fun K hK => ?_);rw [if_pos (by rfl)];refine ⟨.agg zeroN, fun W hW => ?_, hK _ ?_⟩
   ·go_simp
   clear hK K;refine wpSeq_plain rfl (fun K hK => ?_);rw [if_pos (by rfl)];refine ⟨.agg #[.int .i64 (pl : Int), .int .i64 3], fun W hW => ?_, hK _ ?_⟩
   ·obtain ⟨h1, _⟩ := hW
    obtain ⟨p0, p1, _⟩ := Blk.two h1;go_simp
   clear hK K;obtain ⟨p0, p1, p2, p3, y0, y1, y2, y3, hlt0⟩ := Blk.four (HBN8.out.drewN 1);refine wpSeq_lone rfl (fun K hK => ?_);go_wp2_with fail
   have hne : w.heap.size ≠ w.heap.size + 1 := by omega
   have n1 := (HBN8.out.drewN 1).self4 (.int .i64 0) (.string ⟨#[]⟩) (.int .i64 0) (.slice none 0 0);have n2 := (HBF8.out.drewN 1).far4 (Ne.symm hne) (.int .i64 0) (.string ⟨#[]⟩) (.int .i64 0) (.slice none 0 0);have hm7 : Fresh w _ := (HF8.out.drewN 1).put4 (g := w.heap.size) (.inr (Nat.le_refl _)) (.int .i64 0) (.string ⟨#[]⟩) (.int .i64 0) (.slice none 0 0);simp only [put4] at n1 n2 hm7;generalize (World.setCell (World.setCell (World.setCell (World.setCell (W8.drewN 1) ⟨w.heap.size, 0, none⟩ _) ⟨w.heap.size, 1, none⟩ _) ⟨w.heap.size, 2, none⟩ _) ⟨w.heap.size, 3, none⟩ _) = W7 at n1 n2 hm7 ⊢;refine hK _ _ ⟨n2, n1⟩ ?_;clear hK K p0 p1 p2 p3 y0 y1 y2 y3 hlt0;have HN1 := hid n1;have HN2 := hid n2;have HM7 := hid hm7;clear n1 n2 hm7;refine wpSeq_plain rfl (fun K hK => ?_);rw [if_pos (by rfl)];refine ⟨.bool false, fun W hW => ?_, hK _ ?_⟩
   ·go_simp
   clear hK K;obtain ⟨q0, q1, z0, z1, hlt1⟩ := Blk.two HN2.out;refine wpSeq_lone rfl (fun K hK => ?_);go_wp2_with fail
   have m1 := HN1.out.far2 hne (.int .i64 (pl : Int)) (.int .i64 3);have m2 := HN2.out.self2 (.int .i64 (pl : Int)) (.int .i64 3);have hm8 : Fresh w _ := HM7.out.put2 (g := w.heap.size + 1) (.inr (by omega)) (.int .i64 (pl : Int)) (.int .i64 3);simp only [put2] at m1 m2 hm8;generalize (World.setCell (World.setCell W7 ⟨w.heap.size + 1, 0, none⟩ _) ⟨w.heap.size + 1, 1, none⟩ _) = W8 at m1 m2 hm8 ⊢;refine hK _ _ ⟨m2, m1⟩ ?_;clear hK K q0 q1 z0 z1 hlt1;refine wpSeq_end ?_;go_wp2_with fail
   obtain ⟨g0, g1, g2, g3, _⟩ := Blk.four m1;obtain ⟨f0, f1, _⟩ := Blk.two m2
   (try simp only [Exit.inBlock, Exit.then])
   refine bodyPost_ret (v := .tuple #[.agg zeroN, .bool false, failV pl 3]) (by simp [failV, results, Tryz.results14, go_sem, f0, f1, g0, g1, g2, g3]) rfl ?_;exact HQ.out _ _ ⟨by decide, rfl, hm8⟩
  ·have c1 : ¬ (k'.p : Int) < (ts.length : Int) := by omega
   have c2 : decide ((k'.p : Int) < (ts.length : Int)) = false := decide_eq_false (by omega)
   have HX := hid (show (if rest.l.isEmpty then R.ok (items, !rest.b) rest else Mcr.refuse ⟨s.size, P, tb⟩ rest) = .ok (items, !k'.b) rest from by
    rw [← HDR.out, if_pos (by rw [Cf.at_l, HCT.out, List.drop_eq_nil_of_le (by omega)]; rfl)];rfl)
   simp only [Mcr.R.bind] at HQ;rw [HX.out] at HQ
   go_quiet (fail)
   clear r0 r1 r2 hl4 hl5 c1 c2;have HBF6 := hid (HBF4.out.drewN nq);have HBN6 := hid (HBN4.out.drewN nq);have HB6 := hid (HB4.out.drewN nq);have HF6 := hid (HF4.out.drewN nq);have HT6 := hid (HTRE.out.fresh ((Touch.refl _ w4).drewN nq));generalize w4.drewN nq = w6 at HBF6 HBN6 HB6 HF6 HT6 ⊢;obtain ⟨q0, q1, z0, z1, hlt1⟩ := Blk.two HBF6.out;go_wp2_with fail
   clear q0 q1 z0 z1 hlt1;refine wp_region_in (fun W => Blk W w1.heap.size 78 #[.slice At ts.length ct, .int .i64 (k'.p : Int), .int .i64 (c.en : Int), ov, c.tp, .int .i64 (c.P : Int), c.mv, .int .i64 (k'.n : Int), .bool k'.b]) [(0, true), (2, true), (3, true), (4, true), (5, true), (6, true), (7, true), (1, false), (8, false), (9, true), (10, false)] (by kernel_rfl) (fun _ _ d _ _ h => by cases d <;> exact h) (by kernel_rfl) (HB6.out.drewN 1) ?_;refine wpSeq_plain rfl (fun K hK => ?_);rw [if_pos (by rfl)];refine ⟨.slice A items.length cp, fun W hW => ?_, hK _ ?_⟩
   ·have h8 := hW.cell 8
    have hlw := hW.lt;go_simp
   clear hK K;refine wpSeq_plain rfl (fun K hK => ?_);rw [if_pos (by rfl)];refine ⟨.pointer (some ⟨w1.heap.size, 0, none⟩), fun W hW => ?_, hK _ ?_⟩
   ·have h8 := hW.cell 8
    have hlw := hW.lt;go_simp
   clear hK K;refine wpSeq_plain rfl (fun K hK => ?_);rw [if_pos (by rfl)];refine ⟨.pointer (some ⟨w1.heap.size, 0, none⟩), fun W hW => ?_, hK _ ?_⟩
   ·have h8 := hW.cell 8
    have hlw := hW.lt;go_simp
   clear hK K;refine wpSeq_plain rfl (fun K hK => ?_);rw [if_pos (by rfl)];refine ⟨.pointer (some ⟨w1.heap.size, 8, none⟩), fun W hW => ?_, hK _ ?_⟩
   ·have h8 := hW.cell 8
    have hlw := hW.lt;go_simp
   clear hK K;refine wpSeq_plain rfl (fun K hK => ?_);rw [if_pos (by rfl)];refine ⟨.bool k'.b, fun W hW => ?_, hK _ ?_⟩
   ·have h8 := hW.cell 8
    have hlw := hW.lt;go_simp
   clear hK K;refine wpSeq_plain rfl (fun K hK => ?_);rw [if_pos (by rfl)];refine ⟨.bool (!k'.b), fun W hW => ?_, hK _ ?_⟩
   ·have h8 := hW.cell 8
    have hlw := hW.lt;go_simp
   clear hK K;refine wpSeq_plain rfl (fun K hK => ?_);rw [if_pos (by rfl)];refine ⟨.agg #[.int .i64 0, .int .i64 0], fun W hW => ?_, hK _ ?_⟩
   ·have h8 := hW.cell 8
    have hlw := hW.lt;go_simp
   clear hK K;refine wpSeq_lone rfl (fun K hK => ?_);go_wp2_with fail
   refine (slot_any_n A items.length cp _).mono ?_;rintro _ w7 ⟨rfl, hf⟩;have hf' : Fresh w6 w7 := Touch.ofN hf;have HBF7 := hid (hf'.blk HBF6.out fun h => h);have HBN7 := hid (hf'.blk HBN6.out fun h => h);have HB7 := hid (hf'.blk HB6.out fun h => h);have HF7 := hid (HF6.out.trans hf');have HT7 := hid (HT6.out.fresh hf');go_wp2_with fail
   refine hK _ _ HB7.out ?_;clear hK K hf hf';obtain ⟨p0, p1, p2, p3, y0, y1, y2, y3, hlt0⟩ := Blk.four HBN7.out;refine wpSeq_lone rfl (fun K hK => ?_);go_wp2_with fail
   have hne : w.heap.size ≠ w.heap.size + 1 := by omega
   have n1 := HBN7.out.self4 (.int .i64 1) (.string ⟨#[]⟩) (.int .i64 0) (.slice A items.length cp);have n2 := HBF7.out.far4 (Ne.symm hne) (.int .i64 1) (.string ⟨#[]⟩) (.int .i64 0) (.slice A items.length cp);have n3 := HB7.out.far4 (L := w1.heap.size) (g := w.heap.size) (by have := HS1.out; omega) (.int .i64 1) (.string ⟨#[]⟩) (.int .i64 0) (.slice A items.length cp);have hf8 : Fresh w _ := HF7.out.put4 (g := w.heap.size) (.inr (Nat.le_refl _)) (.int .i64 1) (.string ⟨#[]⟩) (.int .i64 0) (.slice A items.length cp);have ht8 := HT7.out.far (touch4 w7 w.heap.size (.int .i64 1) (.string ⟨#[]⟩) (.int .i64 0) (.slice A items.length cp)) (by have := HS1.out; have := HS3.out; omega);simp only [put4] at n1 n2 n3 hf8 ht8;generalize (World.setCell (World.setCell (World.setCell (World.setCell w7 ⟨w.heap.size, 0, none⟩ _) ⟨w.heap.size, 1, none⟩ _) ⟨w.heap.size, 2, none⟩ _) ⟨w.heap.size, 3, none⟩ _) = W8 at n1 n2 n3 hf8 ht8 ⊢;refine hK _ _ n3 ?_;clear hK K p0 p1 p2 p3 y0 y1 y2 y3 hlt0;have HN1 := hid n1;have HN2 := hid n2;have HN3 := hid n3;have HF8 := hid hf8;have HT8 := hid ht8;clear n1 n2 n3 hf8 ht8;refine wpSeq_plain rfl (fun K hK => ?_);rw [if_pos (by rfl)];refine ⟨.bool (!k'.b), fun W hW => ?_, hK _ ?_⟩
   ·go_simp
   clear hK K;obtain ⟨q0, q1, z0, z1, hlt1⟩ := Blk.two HN2.out;refine wpSeq_lone rfl (fun K hK => ?_);go_wp2_with fail
   rw [put2_same HN2.out];refine hK _ _ HN3.out ?_;clear hK K q0 q1 z0 z1 hlt1;refine wpSeq_end ?_;go_wp2_with fail
   obtain ⟨g0, g1, g2, g3, _⟩ := Blk.four HN1.out;obtain ⟨f0, f1, _⟩ := Blk.two HN2.out
   (try simp only [Exit.inBlock, Exit.then])
   refine bodyPost_ret (v := .tuple #[.agg #[.int .i64 1, .string ⟨#[]⟩, .int .i64 0, .slice A items.length cp], .bool (!k'.b), failV 0 0]) (by simp [failV, results, Tryz.results14, go_sem, f0, f1, g0, g1, g2, g3]) rfl ?_;exact HQ.out _ _ ⟨A, cp, rfl, HT8.out.base (by have := HS1.out; have := HS3.out; omega), HF8.out⟩
end Go.Proofs.YtomibmenojdieaaGreat
