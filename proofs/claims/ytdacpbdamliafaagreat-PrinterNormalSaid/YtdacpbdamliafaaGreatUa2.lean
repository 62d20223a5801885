/- Part 2 of 12 of a proof; its texts, joined: NpF, NpS, Base, Row, TrR, Reg, RegB, NdA, NdB, NdC, NdD, NdE, PrA. No condition. -/
import Derived.Test.YtdacpbdamliafaaGreatUa1
import Derived.Test.YtdacpbdamliafaaGreatRows
import Derived.WalkKit
import Derived.WalkSpells
import Derived.WalkLawsBesides
import Derived.Deep.QuietTactic
import Derived.BigQuiet
import Derived.Deep.Draws
import Derived.StillTailTactics
import Derived.Deep.RegionHeld3
import Derived.ProofKit
import Derived.ChangeMaps5
import Derived.WideKeyArgs
import Derived.Lib.SmallJoins
import Derived.Lib.QuietBelow
import Derived.Test.YtdacpbdamliafaaGreatShelf
import Derived.Laws.Rows

/- The parser comes to an end: how much fuel it takes. -/
namespace Go.Proofs.YtdacpbdamliafaaGreat.Np
open Lx (PTok)
open Tr (Nd)
def Fine {α : Type} (x : R α) (n : Nat) : Prop :=
 match x with
 | .ok _ r => r.length < n
 | .err _ _ => True
 | .out => False
theorem Fine.bind {α β : Type} {x : R α} {k : α → List PTok → R β} {n m : Nat} (h : Fine x n) (hk : ∀ a r, r.length < n → Fine (k a r) m) : Fine (x.bind k) m := by
 cases x with
 | ok a r => exact hk a r h
 | err i e => trivial
 | out => exact h.elim
theorem Fine.map {α β : Type} {x : R α} {k : α → β} {n m : Nat} (h : Fine x n) (hm : n ≤ m) : Fine (x.map k) m := h.bind fun _ _ hr => Nat.lt_of_lt_of_le hr hm
theorem Fine.mono {α : Type} {x : R α} {n m : Nat} (h : Fine x n) (hm : n ≤ m) : Fine x m := by
 cases x with
 | ok a r => exact Nat.lt_of_lt_of_le h hm
 | err i e => trivial
 | out => exact h.elim
theorem Fine.refuse {α : Type} (en : Nat) (l : List PTok) (n : Nat) : Fine (refuse en l : R α) n := trivial
theorem isM_pos {b : UInt8} {l : List PTok} (h : isM b l = true) : l.tail.length < l.length := by
 cases l with
 | nil => cases h
 | cons t r => simp
theorem Fine.scripts (g : Bool) (en : Nat) (b : List Nd) (x y : Option Nd) (l : List PTok) (n : Nat) (h : l.length < n) : Fine (scripts g en b x y l) n := by
 unfold Np.scripts
 split
 ·exact h
 ·exact h
 ·exact h
 ·split
  ·trivial
  ·exact h
theorem Fine.plainName (t : PTok) (r : List PTok) (n : Nat) (h : r.length < n) : Fine (plainName t r) n := by
 unfold Np.plainName
 split
 ·trivial
 ·exact h
structure Good (en f : Nat) : Prop where
 row : ∀ op l, 8 * l.length + 5 ≤ f → Fine (pRow en f op l) (l.length + 1)
 within : ∀ b op l, l.tail.length < l.length → 8 * l.length + 2 ≤ f → Fine (pIn en f b op l) l.length
 arg : ∀ op l, 8 * l.length + 3 ≤ f → Fine (pArg en f op l) l.length
 args : ∀ n op l, 8 * l.length + 4 + n ≤ f → Fine (pArgs en f n op l) (l.length + 1)
 script : ∀ b op l, 8 * l.length + 4 ≤ f → Fine (pScript en f b op l) (l.length + 1)
 item : ∀ op l, 8 * l.length + 4 ≤ f → Fine (pItem en f op l) l.length
 prim : ∀ op l, 8 * l.length + 3 ≤ f → Fine (pPrim en f op l) l.length
 name : ∀ op t r, 8 * r.length + 7 ≤ f → Fine (pName en f op t r) (r.length + 1)
 cells : ∀ op ks b c l, 8 * l.length + 6 ≤ f → Fine (pCells en f op ks b c l) (l.length + 1)
theorem good (en : Nat) : ∀ f, Good en f
 | 0 => by constructor <;> (intros; exfalso; omega)
 | f + 1 => by
  have ih := good en f
  constructor
  ·intro op l h
   rw [pRow]
   split
   ·trivial
   ·split
    ·exact Nat.lt_succ_self _
    ·exact (ih.item op l (by omega)).bind fun a r hr => (ih.row op r (by omega)).map (by omega)
  ·intro b op l hl h
   rw [pIn]
   refine (ih.row _ l.tail (by omega)).bind fun a r hr => ?_
   split
   ·show r.tail.length < l.length
    rw [List.length_tail]
    omega
   ·trivial
  ·intro op l h
   rw [pArg.eq_def]
   cases l with
   | nil => trivial
   | cons t r =>
    simp only
    split
    ·show r.length < _; simp
    ·split
     ·exact (ih.within 125 op (t :: r) (by simp) (by omega)).map (Nat.le_refl _)
     ·split
      ·exact (Fine.plainName t r (t :: r).length (by simp)).map (Nat.le_refl _)
      ·trivial
  ·intro n op l h
   cases n with
   | zero => rw [pArgs]; exact Nat.lt_succ_self _
   | succ n =>
    rw [pArgs]
    exact (ih.arg op l (by omega)).bind fun a r hr => (ih.args n op r (by omega)).map (by omega)
  ·intro b op l h
   rw [pScript]
   split
   ·rename_i hm
    have := isM_pos hm
    exact (ih.arg op l.tail (by omega)).map (by omega)
   ·exact Nat.lt_succ_self _
  ·intro op l h
   rw [pItem]
   refine (ih.prim op l (by omega)).bind fun a r hr => (ih.script 95 op r (by omega)).bind fun sub r hr => (ih.script 94 op r (by omega)).bind fun sup r hr => ?_
   split
   ·exact (ih.script 95 op r (by omega)).bind fun sub r hr => Fine.scripts _ _ _ _ _ _ _ (by omega)
   ·exact Fine.scripts _ _ _ _ _ _ _ (by omega)
  ·intro op l h
   rw [pPrim.eq_def]
   cases l with
   | nil => trivial
   | cons t r =>
    simp only
    have hl : (t :: r).length = r.length + 1 := rfl
    have ht : (t :: r).tail.length < (t :: r).length := by simp
    split
    ·show r.length < _; simp
    ·split
     ·exact (ih.name op t r (by omega)).mono (by omega)
     ·split
      ·exact (ih.args 1 op r (by omega)).map (by omega)
      ·split
       ·exact (ih.within 41 op (t :: r) ht (by omega)).map (Nat.le_refl _)
       ·split
        ·exact (ih.within 93 op (t :: r) ht (by omega)).map (Nat.le_refl _)
        ·split
         ·exact ih.within 125 op (t :: r) ht (by omega)
         ·trivial
  ·intro op t r h
   rw [pName]
   split
   ·exact (ih.args 2 op r (by omega)).map (Nat.le_refl _)
   ·split
    ·split
     ·rename_i hm
      exact (ih.within 93 op r (isM_pos hm) (by omega)).bind fun d r' hr => (ih.args 1 op r' (by omega)).map (by omega)
     ·exact (ih.args 1 op r (by omega)).map (Nat.le_refl _)
    ·split
     ·split
      ·rename_i hm
       have := isM_pos hm
       exact (ih.cells _ _ _ _ r.tail (by omega)).map (by omega)
      ·trivial
     ·split
      ·exact (ih.args 1 op r (by omega)).map (Nat.le_refl _)
      ·exact Fine.plainName _ _ _ (Nat.lt_succ_self _)
  ·intro op ks b c l h
   rw [pCells]
   refine (ih.row op l (by omega)).bind fun items r hr => ?_
   have ht : r.tail.length ≤ r.length := by rw [List.length_tail]; omega
   split
   ·rename_i hm
    have := isM_pos hm
    exact (ih.cells _ _ _ _ r.tail (by omega)).mono (by omega)
   ·split
    ·trivial
    ·split
     ·trivial
     ·split
      ·show r.tail.length < _; omega
      ·cases r with
       | nil => rename_i h2; exact absurd rfl h2
       | cons x r =>
        have hx : (x :: r).length = r.length + 1 := rfl
        exact (ih.cells _ _ _ _ r (by omega)).mono (by omega)
theorem parseT_ends (en : Nat) (l : List PTok) : parseT en l ≠ .out := by
 have h := (good en (8 * l.length + 8)).row [] l (by omega)
 unfold parseT
 cases hx : pRow en (8 * l.length + 8) [] l with
 | ok a r =>
  show (if r.isEmpty then R.ok a r else refuse en r) ≠ _
  split <;> (intro h; cases h)
 | err i e => intro h; cases h
 | out => rw [hx] at h; exact h.elim
end Go.Proofs.YtdacpbdamliafaaGreat.Np

/- The parser sees no places: tokens alike are read alike, with the same error. -/
namespace Go.Proofs.YtdacpbdamliafaaGreat.Np
open Lx (PTok)
open Tr (Nd)
def Al (l l' : List PTok) : Prop := l.map Lx.tok = l'.map Lx.tok
def Sim {α : Type} (x y : R α) : Prop :=
 match x, y with
 | .ok a r, .ok a' r' => a = a' ∧ Al r r'
 | .err _ e, .err _ e' => e = e'
 | .out, .out => True
 | _, _ => False
theorem Sim.bind {α β : Type} {x y : R α} {k k' : α → List PTok → R β} (h : Sim x y) (hk : ∀ a r r', Al r r' → Sim (k a r) (k' a r')) : Sim (x.bind k) (y.bind k') := by
 cases x <;> cases y <;> first | exact h.elim | skip
 ·obtain ⟨rfl, hr⟩ := h
  exact hk _ _ _ hr
 ·exact h
 ·trivial
theorem Sim.map {α β : Type} {x y : R α} {k : α → β} (h : Sim x y) : Sim (x.map k) (y.map k) := h.bind fun _ _ _ hr => ⟨rfl, hr⟩
theorem Sim.refuse {α : Type} (en en' : Nat) (l l' : List PTok) : Sim (refuse en l : R α) (refuse en' l') := rfl
theorem Al.nil {l' : List PTok} (h : Al [] l') : l' = [] := by
 cases l' with
 | nil => rfl
 | cons t r => cases h
theorem Al.cons {t : PTok} {r l' : List PTok} (h : Al (t :: r) l') : ∃ t' r', l' = t' :: r' ∧ t.kind = t'.kind ∧ t.text = t'.text ∧ Al r r' := by
 cases l' with
 | nil => cases h
 | cons t' r' =>
  have h1 := List.cons.inj (show Lx.tok t :: r.map Lx.tok = Lx.tok t' :: r'.map Lx.tok from h)
  exact ⟨t', r', rfl, congrArg Lx.Tok.kind h1.1, congrArg Lx.Tok.text h1.1, h1.2⟩
theorem Al.tail {l l' : List PTok} (h : Al l l') : Al l.tail l'.tail := by
 cases l with
 | nil => rw [h.nil]; rfl
 | cons t r => obtain ⟨t', r', rfl, _, _, h⟩ := h.cons; exact h
theorem Al.isM {l l' : List PTok} (h : Al l l') (b : UInt8) : isM b l = isM b l' := by
 cases l with
 | nil => rw [h.nil]
 | cons t r => obtain ⟨t', r', rfl, h1, h2, h⟩ := h.cons; simp only [Np.isM, h1, h2]
theorem Al.isBreak {l l' : List PTok} (h : Al l l') : isBreak l = isBreak l' := by
 cases l with
 | nil => rw [h.nil]
 | cons t r => obtain ⟨t', r', rfl, h1, h2, h⟩ := h.cons; simp only [Np.isBreak, h1]
theorem Al.isEmpty {l l' : List PTok} (h : Al l l') : l.isEmpty = l'.isEmpty := by
 cases l with
 | nil => rw [h.nil]
 | cons t r => obtain ⟨t', r', rfl, h1, h2, h⟩ := h.cons; rfl
theorem Al.stops {l l' : List PTok} (h : Al l l') : stops l = stops l' := by
 unfold Np.stops
 rw [h.isBreak, h.isM, h.isM, h.isM, h.isM]
theorem leafOf_al {t t' : PTok} (h1 : t.kind = t'.kind) (h2 : t.text = t'.text) : leafOf t = leafOf t' := by
 unfold leafOf
 rw [h1, h2]
theorem Sim.scripts (g : Bool) (en en' : Nat) (b : List Nd) (x y : Option Nd) {l l' : List PTok} (h : Al l l') : Sim (scripts g en b x y l) (scripts g en' b x y l') := by
 unfold Np.scripts
 split
 ·exact ⟨rfl, h⟩
 ·exact ⟨rfl, h⟩
 ·exact ⟨rfl, h⟩
 ·split
  ·rfl
  ·exact ⟨rfl, h⟩
theorem Sim.plainName {t t' : PTok} {r r' : List PTok} (h2 : t.text = t'.text) (h : Al r r') : Sim (plainName t r) (plainName t' r') := by
 unfold Np.plainName
 rw [h2]
 split
 ·rfl
 ·exact ⟨rfl, h⟩
structure Alike (en en' f : Nat) : Prop where
 row : ∀ op op' l l', Al l l' → (op = [] ↔ op' = []) → Sim (pRow en f op l) (pRow en' f op' l')
 within : ∀ b op op' l l', Al l l' → Sim (pIn en f b op l) (pIn en' f b op' l')
 arg : ∀ op op' l l', Al l l' → Sim (pArg en f op l) (pArg en' f op' l')
 args : ∀ n op op' l l', Al l l' → Sim (pArgs en f n op l) (pArgs en' f n op' l')
 script : ∀ b op op' l l', Al l l' → Sim (pScript en f b op l) (pScript en' f b op' l')
 item : ∀ op op' l l', Al l l' → Sim (pItem en f op l) (pItem en' f op' l')
 prim : ∀ op op' l l', Al l l' → Sim (pPrim en f op l) (pPrim en' f op' l')
 name : ∀ op op' t t' r r', t.text = t'.text → Al r r' → Sim (pName en f op t r) (pName en' f op' t' r')
 cells : ∀ op op' ks b c l l', Al l l' → (op = [] ↔ op' = []) → Sim (pCells en f op ks b c l) (pCells en' f op' ks b c l')
theorem alike (en en' : Nat) : ∀ f, Alike en en' f
 | 0 => by constructor <;> (intros; trivial)
 | f + 1 => by
  have ih := alike en en' f
  constructor
  ·intro op op' l l' h ho
   rw [pRow, pRow, h.isEmpty, h.stops]
   have hc : (l'.isEmpty = true ∧ op ≠ []) ↔ (l'.isEmpty = true ∧ op' ≠ []) := by rw [ne_eq, ne_eq, ho]
   by_cases c1 : l'.isEmpty = true ∧ op' ≠ []
   ·rw [if_pos c1, if_pos (hc.2 c1)]; rfl
   ·rw [if_neg c1, if_neg (fun x => c1 (hc.1 x))]
    split
    ·exact ⟨rfl, h⟩
    ·exact (ih.item op op' l l' h).bind fun a r r' hr => (ih.row op op' r r' hr ho).map
  ·intro b op op' l l' h
   rw [pIn, pIn]
   refine (ih.row _ _ _ _ h.tail (by simp)).bind fun a r r' hr => ?_
   rw [hr.isM]
   split
   ·exact ⟨rfl, hr.tail⟩
   ·rfl
  ·intro op op' l l' h
   cases l with
   | nil => rw [h.nil, pArg, pArg]; rfl
   | cons t r =>
    obtain ⟨t', r', rfl, h1, h2, hr⟩ := h.cons
    rw [pArg, pArg, leafOf_al h1 h2, h.isM, h1, h2]
    split
    ·exact ⟨rfl, hr⟩
    ·split
     ·exact (ih.within 125 op op' _ _ h).map
     ·split
      ·exact (Sim.plainName h2 hr).map
      ·rfl
  ·intro n op op' l l' h
   cases n with
   | zero => rw [pArgs, pArgs]; exact ⟨rfl, h⟩
   | succ n =>
    rw [pArgs, pArgs]
    exact (ih.arg op op' l l' h).bind fun a r r' hr => (ih.args n op op' r r' hr).map
  ·intro b op op' l l' h
   rw [pScript, pScript, h.isM]
   split
   ·exact (ih.arg op op' _ _ h.tail).map
   ·exact ⟨rfl, h⟩
  ·intro op op' l l' h
   rw [pItem, pItem, h.isM]
   refine (ih.prim op op' l l' h).bind fun a r r' hr => (ih.script 95 op op' r r' hr).bind fun sub r r' hr => (ih.script 94 op op' r r' hr).bind fun sup r r' hr => ?_
   split
   ·exact (ih.script 95 op op' r r' hr).bind fun sub r r' hr => Sim.scripts _ _ _ _ _ _ hr
   ·exact Sim.scripts _ _ _ _ _ _ hr
  ·intro op op' l l' h
   cases l with
   | nil => rw [h.nil, pPrim, pPrim]; rfl
   | cons t r =>
    obtain ⟨t', r', rfl, h1, h2, hr⟩ := h.cons
    rw [pPrim, pPrim, leafOf_al h1 h2, h.isM, h.isM, h.isM, h1, h2]
    split
    ·exact ⟨rfl, hr⟩
    ·split
     ·exact ih.name op op' t t' r r' h2 hr
     ·split
      ·exact (ih.args 1 op op' r r' hr).map
      ·split
       ·exact (ih.within 41 op op' _ _ h).map
       ·split
        ·exact (ih.within 93 op op' _ _ h).map
        ·split
         ·exact ih.within 125 op op' _ _ h
         ·rfl
  ·intro op op' t t' r r' h2 h
   rw [pName, pName, h2, h.isM, h.isM]
   split
   ·exact (ih.args 2 op op' r r' h).map
   ·split
    ·split
     ·exact (ih.within 93 op op' r r' h).bind fun d r r' hr => (ih.args 1 op op' r r' hr).map
     ·exact (ih.args 1 op op' r r' h).map
    ·split
     ·split
      ·exact (ih.cells _ _ _ _ _ _ _ h.tail (by simp)).map
      ·rfl
     ·split
      ·exact (ih.args 1 op op' r r' h).map
      ·exact Sim.plainName h2 h
  ·intro op op' ks b c l l' h ho
   rw [pCells, pCells]
   refine (ih.row op op' l l' h ho).bind fun items r r' hr => ?_
   rw [hr.isM, hr.isM, hr.isBreak]
   split
   ·exact ih.cells _ _ _ _ _ _ _ hr.tail ho
   ·split
    ·rfl
    ·split
     ·rfl
     ·split
      ·exact ⟨rfl, hr.tail⟩
      ·exact ih.cells _ _ _ _ _ _ _ hr.tail ho
theorem parseT_alike (en en' : Nat) (l l' : List PTok) (h : Al l l') : Sim (parseT en l) (parseT en' l') := by
 have hl : l.length = l'.length := by
  have := congrArg List.length h
  simpa using this
 unfold parseT
 rw [hl]
 refine ((alike en en' _).row [] [] l l' h Iff.rfl).bind fun a r r' hr => ?_
 rw [hr.isEmpty]
 split
 ·exact ⟨rfl, hr⟩
 ·rfl
end Go.Proofs.YtdacpbdamliafaaGreat.Np

/- Words for memory used by all walks of this seat: a block known whole, and which blocks a call may turn. -/
namespace Go.Proofs.YtdacpbdamliafaaGreat
open Go.RowKit
theorem ret_int {k : IntKind} {a b : Int} (h : a = b) : Ending.returned (.int k a) = .returned (.int k b) := by rw [h]
theorem ret_bool {a b : Bool} (h : a = b) : Ending.returned (.bool a) = .returned (.bool b) := by rw [h]
theorem hid {p : Prop} (h : p) : Hid p := h
def Blk (w : World) (g : Nat) (t : TypeId) (cs : Array Value) : Prop := w.heap[g]? = some (.cells cs t (0, 0))
theorem Blk.lt {w : World} {g : Nat} {t : TypeId} {cs : Array Value} (h : Blk w g t cs) : g < w.heap.size := (Array.getElem?_eq_some_iff.1 h).1
theorem Blk.cell {w : World} {g : Nat} {t : TypeId} {cs : Array Value} (h : Blk w g t cs) (i : Nat) : w.cell? ⟨g, i, none⟩ = cs[i]? := by
 unfold Blk at h; simp [World.cell?, h]
theorem Blk.frozen {w : World} {g : Nat} {t : TypeId} {cs : Array Value} (h : Blk w g t cs) (i : Nat) : w.frozen? ⟨g, i, none⟩ = false := by
 unfold Blk at h; simp [World.frozen?, h]
theorem Blk.new (w : World) (t : TypeId) (cs : Array Value) : Blk (w.alloc (.cells cs t)) w.heap.size t cs := heap_alloc_new w _
theorem Blk.new2 (w : World) (o : Obj) (t : TypeId) (cs : Array Value) : Blk ((w.alloc o).alloc (.cells cs t)) (w.heap.size + 1) t cs := by
 have := Blk.new (w.alloc o) t cs
 simpa using this
theorem Blk.drewN {w : World} {g : Nat} {t : TypeId} {cs : Array Value} (h : Blk w g t cs) (n : Nat) : Blk (w.drewN n) g t cs := h
theorem Blk.alloc {w : World} {g : Nat} {t : TypeId} {cs : Array Value} (h : Blk w g t cs) (o : Obj) : Blk (w.alloc o) g t cs := (Below.heap_alloc w o g h.lt).trans h
theorem Blk.put {w : World} {g : Nat} {t : TypeId} {cs : Array Value} (h : Blk w g t cs) (i : Nat) (u : Value) : Blk (w.setCell ⟨g, i, none⟩ u) g t (cs.setIfInBounds i u) := by
 unfold Blk at h ⊢
 simp [World.setCell, Array.getElem?_modify, h]
theorem Blk.far {w : World} {g : Nat} {t : TypeId} {cs : Array Value} (h : Blk w g t cs) {p : Addr} (hp : g ≠ p.block) (u : Value) : Blk (w.setCell p u) g t cs := (Below.heap_setCell w p u g hp).trans h
theorem Blk.four {w : World} {g : Nat} {t : TypeId} {x0 x1 x2 x3 : Value} (h : Blk w g t #[x0, x1, x2, x3]) :
  w.cell? ⟨g, 0, none⟩ = some x0 ∧ w.cell? ⟨g, 1, none⟩ = some x1 ∧ w.cell? ⟨g, 2, none⟩ = some x2 ∧ w.cell? ⟨g, 3, none⟩ = some x3 ∧
  w.frozen? ⟨g, 0, none⟩ = false ∧ w.frozen? ⟨g, 1, none⟩ = false ∧ w.frozen? ⟨g, 2, none⟩ = false ∧ w.frozen? ⟨g, 3, none⟩ = false ∧ g < w.heap.size :=
 ⟨h.cell 0, h.cell 1, h.cell 2, h.cell 3, h.frozen 0, h.frozen 1, h.frozen 2, h.frozen 3, h.lt⟩
structure Touch (S : Nat → Prop) (w w' : World) : Prop where
 os : w'.os = w.os
 tape : w'.tape = w.tape
 output : w'.output = w.output
 size : w.heap.size ≤ w'.heap.size
 block : ∀ k, k < w.heap.size → ¬ S k → w'.heap[k]? = w.heap[k]?
namespace Touch
variable {S S' : Nat → Prop} {a b c w w' : World}
theorem refl (S : Nat → Prop) (w : World) : Touch S w w := ⟨rfl, rfl, rfl, Nat.le_refl _, fun _ _ _ => rfl⟩
theorem trans' (h : Touch S a b) (k : Touch S' b c) (hS : ∀ i, S' i → S i ∨ a.heap.size ≤ i) : Touch S a c :=
 ⟨k.os.trans h.os, k.tape.trans h.tape, k.output.trans h.output, Nat.le_trans h.size k.size, fun i hi hn =>
  (k.block i (Nat.lt_of_lt_of_le hi h.size) (fun hs => (hS i hs).elim hn (fun hle => absurd hi (by omega)))).trans (h.block i hi hn)⟩
theorem trans (h : Touch S a b) (k : Touch S b c) : Touch S a c := h.trans' k fun _ hs => .inl hs
theorem mono (h : Touch S a b) (hS : ∀ i, S i → S' i) : Touch S' a b := ⟨h.os, h.tape, h.output, h.size, fun i hi hn => h.block i hi (fun hs => hn (hS i hs))⟩
theorem drew (h : Touch S a w) : Touch S a w.drew := ⟨h.os, h.tape, h.output, h.size, h.block⟩
theorem drewN (h : Touch S a w) (n : Nat) : Touch S a (w.drewN n) := ⟨h.os, h.tape, h.output, h.size, h.block⟩
theorem alloc (h : Touch S a w) (o : Obj) : Touch S a (w.alloc o) :=
 h.trans ⟨rfl, rfl, rfl, by simp, fun i hi _ => Below.heap_alloc _ _ _ hi⟩
theorem setCell (h : Touch S a w) {p : Addr} (hp : S p.block ∨ a.heap.size ≤ p.block) (u : Value) : Touch S a (w.setCell p u) :=
 ⟨h.os, h.tape, h.output, by simpa [World.setCell] using h.size, fun i hi hn => (Below.heap_setCell w p u i (by
  rintro rfl
  exact hp.elim hn (fun hle => absurd hi (by omega)))).trans (h.block i hi hn)⟩
theorem grown (h : Touch S a w) {row : Option Nat} (hg : w.grownBy w' row) (hr : ∀ g, row = some g → S g ∨ a.heap.size ≤ g) : Touch S a w' :=
 ⟨hg.os.trans h.os, hg.tape.trans h.tape, hg.output.trans h.output, Nat.le_trans h.size hg.size, fun i hi hn =>
  (hg.block i (Nat.lt_of_lt_of_le hi h.size) (fun e => (hr i e.symm).elim hn (fun hle => absurd hi (by omega)))).trans (h.block i hi hn)⟩
theorem below (h : Touch S a w) {B : Nat} (hB : B ≤ a.heap.size) (hS : ∀ i, S i → B ≤ i) : Below B a w :=
 ⟨h.os, h.tape, h.output, h.size, fun i hi => h.block i (by omega) (fun hs => by have := hS i hs; omega)⟩
theorem of_below {B : Nat} (h : Below B a w) (hS : ∀ i, B ≤ i → i < a.heap.size → S i) : Touch S a w :=
 ⟨h.os, h.tape, h.output, h.size, fun i hi hn => h.block i (by
  rcases Nat.lt_or_ge i B with h' | h'
  ·exact h'
  ·exact absurd (hS i h' hi) hn)⟩
theorem blk (h : Touch S w w') {g : Nat} {t : TypeId} {cs : Array Value} (hb : Blk w g t cs) (hn : ¬ S g) : Blk w' g t cs := (h.block g hb.lt hn).trans hb
theorem cell (h : Touch S w w') {p : Addr} {v : Value} (hc : w.cell? p = some v) (hn : ¬ S p.block) : w'.cell? p = some v := by
 have hlt : p.block < w.heap.size := by
  rcases Nat.lt_or_ge p.block w.heap.size with h' | h'
  ·exact h'
  ·simp [World.cell?, Array.getElem?_eq_none h'] at hc
 exact (World.cell?_of_block (w := w) (h.block p.block hlt hn)).trans hc
theorem frozen (h : Touch S w w') {p : Addr} (hlt : p.block < w.heap.size) (hn : ¬ S p.block) : w'.frozen? p = w.frozen? p :=
 World.frozen?_of_block (w := w) (h.block p.block hlt hn)
end Touch
theorem Touch.setRow {S : Nat → Prop} {a w : World} (h : Touch S a w) {g : Nat} (hg : S g ∨ a.heap.size ≤ g) (cs : Array Value) : Touch S a (w.setRow g cs) :=
 ⟨h.os, h.tape, h.output, by simpa [World.setRow] using h.size, fun i hi hn => (setRow_other w g i cs (by
  rintro rfl
  exact hg.elim hn (fun hle => absurd hi (by omega)))).trans (h.block i hi hn)⟩
def put4 (w : World) (g : Nat) (x0 x1 x2 x3 : Value) : World := (((w.setCell ⟨g, 0, none⟩ x0).setCell ⟨g, 1, none⟩ x1).setCell ⟨g, 2, none⟩ x2).setCell ⟨g, 3, none⟩ x3
theorem Blk.far4 {w : World} {L g : Nat} {t : TypeId} {cs : Array Value} (h : Blk w L t cs) (hne : L ≠ g) (x0 x1 x2 x3 : Value) : Blk (put4 w g x0 x1 x2 x3) L t cs :=
 (((h.far (p := ⟨g, 0, none⟩) hne _).far (p := ⟨g, 1, none⟩) hne _).far (p := ⟨g, 2, none⟩) hne _).far (p := ⟨g, 3, none⟩) hne _
theorem Touch.put4 {S : Nat → Prop} {w w' : World} {g : Nat} (h : Touch S w w') (hg : S g ∨ w.heap.size ≤ g) (x0 x1 x2 x3 : Value) : Touch S w (put4 w' g x0 x1 x2 x3) :=
 (((h.setCell (p := ⟨g, 0, none⟩) hg _).setCell (p := ⟨g, 1, none⟩) hg _).setCell (p := ⟨g, 2, none⟩) hg _).setCell (p := ⟨g, 3, none⟩) hg _
theorem Touch.pre {S : Nat → Prop} {w w' : World} {o : Obj} (h : Touch S (w.alloc o) w') : Touch S w w' := ((Touch.refl S w).alloc o).trans h
theorem Touch.preN {S : Nat → Prop} {w w' : World} {o : Obj} {n : Nat} (h : Touch S ((w.alloc o).drewN n) w') : Touch S w w' := (((Touch.refl S w).alloc o).drewN n).trans h
theorem Touch.ofN {S : Nat → Prop} {w w' : World} {n : Nat} (h : Touch S (w.drewN n) w') : Touch S w w' := ((Touch.refl S w).drewN n).trans h
abbrev Fresh (w w' : World) : Prop := Touch (fun _ => False) w w'
theorem Fresh.below {w w' : World} (h : Fresh w w') : Below w.heap.size w w' := Touch.below h (Nat.le_refl _) (fun _ hf => hf.elim)
theorem fresh_of_below {w w' : World} (h : Below w.heap.size w w') : Fresh w w' := Touch.of_below h fun _ h1 h2 => absurd h2 (by omega)
structure Wd (b c : World) : Prop where
 frs : Fresh b c
instance wdRefl (b : World) : Nonempty (Wd b b) := ⟨⟨Touch.refl _ _⟩⟩
instance wdAlloc (b c : World) (o : Obj) [h : Nonempty (Wd b c)] : Nonempty (Wd b (c.alloc o)) := h.elim fun h => ⟨⟨h.frs.alloc o⟩⟩
instance wdDrew (b c : World) (n : Nat) [h : Nonempty (Wd b c)] : Nonempty (Wd b (c.drewN n)) := h.elim fun h => ⟨⟨h.frs.drewN n⟩⟩
theorem frA {a b c : World} (h : Fresh a b) [hw : Nonempty (Wd b c)] : Fresh a c := hw.elim fun k => h.trans k.frs
theorem preA {a b c : World} (h : Fresh b c) [hw : Nonempty (Wd a b)] : Fresh a c := hw.elim fun k => k.frs.trans h
theorem blkA {b c : World} {g : Nat} {t : TypeId} {cs : Array Value} (h : Blk b g t cs) [hw : Nonempty (Wd b c)] : Blk c g t cs := hw.elim fun k => k.frs.blk h fun h => h
structure Bn (w : World) (g : Nat) (t : TypeId) (cs : Array Value) : Prop where
 blk : Blk w g t cs
theorem Blk.new3' (w : World) (o o' : Obj) (t : TypeId) (cs : Array Value) : Blk (((w.alloc o).alloc o').alloc (.cells cs t)) (w.heap.size + 1 + 1) t cs := by
 have := Blk.new2 (w.alloc o) o' t cs
 simpa using this
instance bnNew (w : World) (t : TypeId) (cs : Array Value) : Nonempty (Bn (w.alloc (.cells cs t)) w.heap.size t cs) := ⟨⟨Blk.new _ _ _⟩⟩
instance bnNew2 (w : World) (o : Obj) (t : TypeId) (cs : Array Value) : Nonempty (Bn ((w.alloc o).alloc (.cells cs t)) (w.heap.size + 1) t cs) := ⟨⟨Blk.new2 _ _ _ _⟩⟩
instance bnNew3 (w : World) (o o' : Obj) (t : TypeId) (cs : Array Value) : Nonempty (Bn (((w.alloc o).alloc o').alloc (.cells cs t)) (w.heap.size + 1 + 1) t cs) := ⟨⟨Blk.new3' _ _ _ _ _⟩⟩
instance bnAlloc (w : World) (o : Obj) (g : Nat) (t : TypeId) (cs : Array Value) [h : Nonempty (Bn w g t cs)] : Nonempty (Bn (w.alloc o) g t cs) := h.elim fun h => ⟨⟨h.blk.alloc o⟩⟩
instance bnDrew (w : World) (n : Nat) (g : Nat) (t : TypeId) (cs : Array Value) [h : Nonempty (Bn w g t cs)] : Nonempty (Bn (w.drewN n) g t cs) := h.elim fun h => ⟨⟨h.blk.drewN n⟩⟩
theorem blkN {w : World} {g : Nat} {t : TypeId} {cs : Array Value} [h : Nonempty (Bn w g t cs)] : Blk w g t cs := h.elim fun h => h.blk
theorem mv4 {w w' : World} {a b c d : Addr} {x y z u : Value} (h : Fresh w w') (h0 : w.cell? a = some x) (h1 : w.cell? b = some y) (h2 : w.cell? c = some z) (h3 : w.cell? d = some u) :
  w'.cell? a = some x ∧ w'.cell? b = some y ∧ w'.cell? c = some z ∧ w'.cell? d = some u := ⟨h.cell h0 (fun h => h), h.cell h1 (fun h => h), h.cell h2 (fun h => h), h.cell h3 (fun h => h)⟩
end Go.Proofs.YtdacpbdamliafaaGreat

/- A general law for the rows of this seat: a law that returns true and only makes new memory leaves its arguments reading as they did. -/
namespace Go.Proofs.YtdacpbdamliafaaGreat
open Go.ChangeShapes Go.WideShapes Go.ChangeAt Go.RowKit
open Go.ChangeMaps (open_string shut_string)
theorem Tryz.ownKnob : ownKnob Tryz.prog.godebug = none := by kernel_rfl
theorem Tryz.laidOut : laidOutB Tryz.prog = true := by kernel_rfl
section
variable {H : Type} {enc : TypeId × Value → H} {P : Program}
theorem post_of_below {f : Func} {s : ChangeSpec} {apart fresh handsOn again : Bool} {W W' : World} {args : Array Value} {v : Value} {ds gs : List (DataW H)} {before pa pv : List MemPlace}
  (hW : DataW.Whole enc P f.params.toList s.vars apart W args.toList ds gs before)
  (hres : ∀ (b : Nat) (sp : Nat → Bool) (hd : Bool), DataW.TrodAll enc P W' b sp hd f.resultTypes.toList (v.resultList f.resultTypes.size) (s.fn H (ds ++ gs)).results [])
  (hargs : ∀ sp : Nat → Bool, (∀ p ∈ before, sp p.block = true) → DataW.TrodAll enc P W' 0 sp true f.params.toList args.toList (s.fn H (ds ++ gs)).args pa)
  (hvars : ∀ sp : Nat → Bool, (∀ p ∈ before, sp p.block = true) → DataW.TrodVars enc P W' sp s.vars (s.fn H (ds ++ gs)).vars pv)
  (hps : before = pa ++ pv) (hb : Below W.heap.size W W')
  (hok : ∀ (j : Nat) (t : TypeId) (r : Value), f.resultTypes[j]? = some t → (v.resultList f.resultTypes.size)[j]? = some r → Value.okWide P W' .any 0 t r) :
  s.post enc P f apart fresh handsOn again W args v W' := by
 have hlt : ∀ p ∈ before, p.block < W.heap.size := fun p hp => hW.lt p hp
 have hold : ∀ p ∈ before, (fun b => decide (b < W.heap.size)) p.block = true := fun p hp => by simpa using hlt p hp
 refine ⟨ds, gs, before, [], pa, pv, hW, hres _ _ _, hargs _ hold, hvars _ hold, World.keptBut_mono (fun p hp => ⟨hp, ?_⟩) (hb.frame (· ∈ before)), fun _ => ?_⟩
 ·rw [hps, List.mem_append] at hp
  exact Or.inr hp
 ·obtain ⟨_, _, _, _, _, hz, hn⟩ := hW
  refine ⟨hok, _, _, ([] ++ pa) ++ pv, ⟨[] ++ pa, pv, trodAll_append (hargs _ (fun _ _ => rfl)) (hres _ _ _), hvars _ (fun _ _ => rfl), rfl, ?_, ?_⟩, ?_⟩
  ·intro b off hp
   have hin : MemPlace.cell b off ∈ before := by rw [hps]; simpa using hp
   rw [hb.frozen (hlt _ hin)]
   exact hz b off hin
  ·intro ha
   have := hn ha
   rw [hps] at this
   simpa using this
  ·intro p hp _
   rw [hps]
   simpa using hp
theorem trodAll_stays (hl : laidOutB P = true) {W W' : World} {sp' : Nat → Bool} (hb : Below W.heap.size W W') : ∀ {ts : List TypeId} {vs : List Value} {ds : List (DataW H)} {ps : List MemPlace}, (∀ t ∈ ts, P.readableRec t = true ∧ t < P.types.size) →
  DataW.TrodAll enc P W 0 (fun _ => true) true ts vs ds ps → (∀ x ∈ ps, x.block < W.heap.size) → (∀ x ∈ ps, sp' x.block = true) → DataW.TrodAll enc P W' 0 sp' true ts vs ds ps
 | [], [], [], _, _, h, _, _ => h
 | _ :: _, _ :: _, _ :: _, _, ht, ⟨p, q, h1, h2, e⟩, hlt, hs => by
  subst e
  exact ⟨p, q, WideElems.Trod_stays hl (ht _ (List.mem_cons_self ..)).1 (ht _ (List.mem_cons_self ..)).2 h1 (fun x hx => hb.same (hlt x (List.mem_append_left _ hx))) (fun x hx => hs x (List.mem_append_left _ hx)),
   trodAll_stays hl hb (fun t h => ht t (List.mem_cons_of_mem _ h)) h2 (fun x hx => hlt x (List.mem_append_right _ hx)) (fun x hx => hs x (List.mem_append_right _ hx)), rfl⟩
theorem post_true {f : Func} {s : ChangeSpec} {W W' : World} {args : Array Value} {ds : List (DataW H)} {before : List MemPlace} {tb : TypeId} (hl : laidOutB P = true)
  (htb : P.underlying tb = some .bool) (hres : f.resultTypes = #[tb]) (hp : (f.params.toList.all fun t => P.readableRec t && decide (t < P.types.size)) = true) (hv : s.vars = [])
  (hfn : s.fn H ds = ({ results := [.lit (.bool true)], args := ds } : Left H))
  (hW : DataW.Whole enc P f.params.toList s.vars false W args.toList ds [] before) (hb : Fresh W W') : s.post enc P f false true false false W args (.bool true) W' := by
 have hW' := hW
 obtain ⟨p, q, hA, hV, rfl, hfz, hnd⟩ := hW
 have hlt := hW'.lt
 rw [hv] at hV
 obtain ⟨_, rfl⟩ := trodVars_none hV
 have hpt : ∀ t ∈ f.params.toList, P.readableRec t = true ∧ t < P.types.size := fun t ht => by
  have := List.all_eq_true.1 hp t ht
  simpa using this
 refine post_of_below (pa := p) (pv := []) (gs := []) hW' ?_ ?_ ?_ rfl hb.below ?_
 ·intro b sp hd
  rw [hres, List.append_nil, hfn]
  exact trodAll_mk1 (shut_bool htb _)
 ·intro sp hs
  rw [List.append_nil, hfn]
  exact trodAll_stays hl hb.below hpt hA (fun x hx => hlt x (List.mem_append_left _ hx)) (fun x hx => hs x (List.mem_append_left _ hx))
 ·intro sp hs
  rw [hv, List.append_nil, hfn]
  rfl
 ·exact ok_one (f := f) (t := tb) hres rfl (okWide_bool_mk htb _)
end
end Go.Proofs.YtdacpbdamliafaaGreat

/- Formula trees in memory. -/
namespace Go.Proofs.YtdacpbdamliafaaGreat
open Go.ChangeShapes Go.WideShapes Go.ChangeAt Go.RowKit
inductive RepL (W : World) : List Tr.Nd → Value → Prop
 | nil (A : Option Addr) (cap : Nat) : RepL W [] (.slice A 0 cap)
 | row (g o cap : Nat) (ks : List Tr.Nd) (sl : Nat → Value) (hg : g < W.heap.size) (hl : ks.length ≤ maxLen) (ht : ∀ i (hi : i < ks.length), ks[i].text.length ≤ maxLen)
   (h0 : ∀ i (hi : i < ks.length), W.cell? ⟨g, o + i * 4, none⟩ = some (.int .i64 ks[i].kind))
   (h1 : ∀ i (hi : i < ks.length), W.cell? ⟨g, o + i * 4 + 1, none⟩ = some (.string ⟨ks[i].text.toArray⟩))
   (h2 : ∀ i (hi : i < ks.length), W.cell? ⟨g, o + i * 4 + 2, none⟩ = some (.int .i64 ks[i].cols))
   (h3 : ∀ i, i < ks.length → W.cell? ⟨g, o + i * 4 + 3, none⟩ = some (sl i))
   (hk : ∀ i (hi : i < ks.length), RepL W ks[i].kids (sl i)) : RepL W ks (.slice (some ⟨g, o, none⟩) ks.length cap)
def RepN (W : World) (n : Tr.Nd) (v : Value) : Prop := ∃ sl, v = .agg #[.int .i64 n.kind, .string ⟨n.text.toArray⟩, .int .i64 n.cols, sl] ∧ RepL W n.kids sl
theorem RepL.fresh {W W' : World} {ks : List Tr.Nd} {v : Value} (h : RepL W ks v) (hf : Fresh W W') : RepL W' ks v := by
 induction h with
 | nil A cap => exact .nil A cap
 | row g o cap ks sl hg hl ht h0 h1 h2 h3 hk ih =>
  exact .row g o cap ks sl (Nat.lt_of_lt_of_le hg hf.size) hl ht (fun i hi => hf.cell (h0 i hi) (fun h => h)) (fun i hi => hf.cell (h1 i hi) (fun h => h)) (fun i hi => hf.cell (h2 i hi) (fun h => h)) (fun i hi => hf.cell (h3 i hi) (fun h => h)) ih
theorem RepN.fresh {W W' : World} {n : Tr.Nd} {v : Value} (h : RepN W n v) (hf : Fresh W W') : RepN W' n v := by
 obtain ⟨sl, h1, h2⟩ := h
 exact ⟨sl, h1, h2.fresh hf⟩
theorem RepL.slice {W : World} {ks : List Tr.Nd} {v : Value} (h : RepL W ks v) : ∃ A cap, v = .slice A ks.length cap := by
 cases h with
 | nil A cap => exact ⟨A, cap, rfl⟩
 | row g o cap _ sl => exact ⟨_, cap, rfl⟩
theorem RepL.len {W : World} {ks : List Tr.Nd} {v : Value} (h : RepL W ks v) : ks.length ≤ maxLen := by
 cases h with
 | nil A cap => exact Nat.zero_le _
 | row g o cap _ sl hg hl => exact hl
theorem RepL.texts {W : World} {ks : List Tr.Nd} {v : Value} (h : RepL W ks v) (i : Nat) (hi : i < ks.length) : ks[i].text.length ≤ maxLen := by
 cases h with
 | nil A cap => simp at hi
 | row g o cap _ sl hg hl ht => exact ht i hi
theorem RepL.get {W : World} {ks : List Tr.Nd} {A : Option Addr} {len cap : Nat} (h : RepL W ks (.slice A len cap)) (i : Nat) (hi : i < ks.length) :
  ∃ g o sl, A = some ⟨g, o, none⟩ ∧ g < W.heap.size ∧ W.cell? ⟨g, o + i * 4, none⟩ = some (.int .i64 ks[i].kind) ∧ W.cell? ⟨g, o + i * 4 + 1, none⟩ = some (.string ⟨ks[i].text.toArray⟩) ∧
   W.cell? ⟨g, o + i * 4 + 2, none⟩ = some (.int .i64 ks[i].cols) ∧ W.cell? ⟨g, o + i * 4 + 3, none⟩ = some sl ∧ RepL W ks[i].kids sl := by
 generalize hv : Value.slice A len cap = v at h
 cases h with
 | nil A cap => simp at hi
 | row g o cap _ sl hg hl ht h0 h1 h2 h3 hk =>
  cases hv
  exact ⟨g, o, sl i, rfl, hg, h0 i hi, h1 i hi, h2 i hi, h3 i hi, hk i hi⟩
theorem cells4 {W : World} {base : Nat} {a : Addr} {cs : List Value} (h : W.cells? base a 4 = some cs) : ∃ c0 c1 c2 c3, cs = [c0, c1, c2, c3] ∧ a.spot = none ∧ a.block < W.heap.size ∧
  W.cell? ⟨a.block, a.off, none⟩ = some c0 ∧ W.cell? ⟨a.block, a.off + 1, none⟩ = some c1 ∧ W.cell? ⟨a.block, a.off + 2, none⟩ = some c2 ∧ W.cell? ⟨a.block, a.off + 3, none⟩ = some c3 := by
 obtain ⟨_, hl, hc⟩ := World.cells?_some h
 match cs, hl with
 | [c0, c1, c2, c3], _ =>
  have e0 := hc 0 (by decide)
  have e1 := hc 1 (by decide)
  have e2 := hc 2 (by decide)
  have e3 := hc 3 (by decide)
  obtain ⟨g, o, s⟩ := a
  have hs : s = none := by
   cases s with
   | none => rfl
   | some x =>
    simp only [Addr.add, if_true, List.getElem?_cons_zero] at e0
    unfold World.cell? at e0
    split at e0
    ·simp at e0
    ·cases e0
  subst hs
  have hlt := block_lt_of_cell (a := ⟨g, o, none⟩) (v := c0) (by simpa [Addr.add] using e0)
  exact ⟨c0, c1, c2, c3, rfl, rfl, hlt, by simpa [Addr.add] using e0, by simpa [Addr.add] using e1, by simpa [Addr.add] using e2, by simpa [Addr.add] using e3⟩
section
variable {H : Type} {enc : TypeId × Value → H}
theorem open_node4 {w : World} {base : Nat} {sp : Nat → Bool} {hd : Bool} {fuel : Nat} {c0 c1 c2 c3 : Value} {y : DataW H × List MemPlace} (h : DataW.trod enc Tryz.prog w base sp hd fuel 24 [c0, c1, c2, c3] = some y) :
  ∃ (k c : Int) (s : ByteArray) (n : Nat) (z : DataW H × List MemPlace), n < fuel ∧ c0 = .int .i64 k ∧ c1 = .string s ∧ c2 = .int .i64 c ∧ s.size ≤ maxLen ∧ DataW.trod enc Tryz.prog w base sp hd n 22 [c3] = some z := by
 obtain ⟨xs, n, hfuel, _, _, hlen, hf⟩ := DataW.trod_struct Tryz.underlying24 h
 have e0 := hf 0 _ rfl
 have e1 := hf 1 _ rfl
 have e2 := hf 2 _ rfl
 have e3 := hf 3 _ rfl
 match xs, hlen with
 | [y0, y1, y2, y3], _ =>
  obtain ⟨k, g0, _⟩ := DataW.trod_int Tryz.underlying3 (by exact e0)
  obtain ⟨s, g1, _, hsz⟩ := DataW.trod_string Tryz.underlying9 (by exact e1)
  obtain ⟨c, g2, _⟩ := DataW.trod_int Tryz.underlying3 (by exact e2)
  have hC1 : Tryz.prog.cellsOf 3 = 1 := by kernel_rfl
  have hC2 : Tryz.prog.cellsOf 9 = 1 := by kernel_rfl
  have hC3 : Tryz.prog.cellsOf 22 = 1 := by kernel_rfl
  simp [hC1] at g0
  simp [hC2] at g1
  simp [hC1] at g2
  refine ⟨k, c, s, n, y3, by omega, g0, g1, g2, hsz, ?_⟩
  simpa [hC3] using e3
theorem open_nodes {w : World} {base : Nat} {sp : Nat → Bool} {hd : Bool} : ∀ (fuel : Nat) (cs : List Value) (y : DataW H × List MemPlace), DataW.trod enc Tryz.prog w base sp hd fuel 22 cs = some y → ∃ ks v, cs = [v] ∧ RepL w ks v := by
 intro fuel
 induction fuel using Nat.strongRecOn with
 | _ fuel ih =>
  intro cs y h
  rcases DataW.trod_slice Tryz.underlying22 h with ⟨rfl, _⟩ | ⟨a, len, cap, elems, rest, n, hn, rfl, _, hb, hl, hm, hlen, hel, _, _⟩
  ·exact ⟨[], _, rfl, .nil _ _⟩
  ·have hC : Tryz.prog.cellsOf 24 = 4 := by kernel_rfl
   rw [hC] at hel
   have each : ∀ i, i < len → ∃ (t : Tr.Nd) (sl : Value), a.spot = none ∧ a.block < w.heap.size ∧ w.cell? ⟨a.block, a.off + i * 4, none⟩ = some (.int .i64 t.kind) ∧ w.cell? ⟨a.block, a.off + i * 4 + 1, none⟩ = some (.string ⟨t.text.toArray⟩) ∧
     w.cell? ⟨a.block, a.off + i * 4 + 2, none⟩ = some (.int .i64 t.cols) ∧ w.cell? ⟨a.block, a.off + i * 4 + 3, none⟩ = some sl ∧ RepL w t.kids sl ∧ t.text.length ≤ maxLen := by
    intro i hi
    have h0 := hel i hi
    rw [List.getElem?_eq_getElem (by omega), Option.bind_eq_some_iff] at h0
    obtain ⟨cs', hcs, hy⟩ := h0
    obtain ⟨c0, c1, c2, c3, rfl, hs, hlt, e0, e1, e2, e3⟩ := cells4 hcs
    obtain ⟨k, c, s, m, z, hm', rfl, rfl, rfl, hsz, hz⟩ := open_node4 hy
    obtain ⟨ks, v, hv, hr⟩ := ih m (by omega) _ _ hz
    cases hv
    have hsp : a.spot = none ∨ 0 < i := by
     rcases Nat.eq_zero_or_pos i with h | h
     ·subst h; left; simpa [Addr.add] using hs
     ·exact .inr h
    have hblk : (a.add (i * 4)).block = a.block := by unfold Addr.add; split <;> rfl
    have hoff : (a.add (i * 4)).off = a.off + i * 4 := by
     unfold Addr.add
     split
     ·omega
     ·rfl
    rw [hblk, hoff] at e0 e1 e2 e3
    rw [hblk] at hlt
    have hs0 : a.spot = none := by
     rcases hsp with h | h
     ·exact h
     ·have h00 := hel 0 (by omega)
      rw [List.getElem?_eq_getElem (by omega), Option.bind_eq_some_iff] at h00
      obtain ⟨cs0, hcs0, _⟩ := h00
      obtain ⟨_, _, _, _, _, hs', _⟩ := cells4 hcs0
      simpa [Addr.add] using hs'
    exact ⟨.mk k s.data.toList c ks, c3, hs0, hlt, e0, e1, e2, e3, hr, by show s.data.toList.length ≤ maxLen; simpa using hsz⟩
   cases hl0 : len with
   | zero => subst hl0; exact ⟨[], _, rfl, .nil _ _⟩
   | succ l =>
    rw [← hl0]
    have hpos : 0 < len := by omega
    have he : ∃ f : Nat → Tr.Nd × Value, ∀ i, i < len → w.cell? ⟨a.block, a.off + i * 4, none⟩ = some (.int .i64 (f i).1.kind) ∧ w.cell? ⟨a.block, a.off + i * 4 + 1, none⟩ = some (.string ⟨(f i).1.text.toArray⟩) ∧
     w.cell? ⟨a.block, a.off + i * 4 + 2, none⟩ = some (.int .i64 (f i).1.cols) ∧ w.cell? ⟨a.block, a.off + i * 4 + 3, none⟩ = some (f i).2 ∧ RepL w (f i).1.kids (f i).2 ∧ (f i).1.text.length ≤ maxLen := by
     refine ⟨fun i => if h : i < len then ⟨Classical.choose (each i h), Classical.choose (Classical.choose_spec (each i h))⟩ else ⟨.mk 0 [] 0 [], .bool false⟩, fun i hi => ?_⟩
     simp only [dif_pos hi]
     exact (Classical.choose_spec (Classical.choose_spec (each i hi))).2.2
    obtain ⟨f, hf⟩ := he
    obtain ⟨_, _, hs, hlt, _⟩ := each 0 hpos
    obtain ⟨g, o, s⟩ := a
    simp only at hs hlt hf
    subst hs
    have hln : ((List.range len).map fun i => (f i).1).length = len := by simp
    refine ⟨(List.range len).map fun i => (f i).1, _, rfl, ?_⟩
    have := RepL.row (W := w) g o cap ((List.range len).map fun i => (f i).1) (fun i => (f i).2) hlt (by rw [hln]; omega) (fun i hi => by simpa using (hf i (by simpa using hi)).2.2.2.2.2)
     (fun i hi => by simpa using (hf i (by simpa using hi)).1) (fun i hi => by simpa using (hf i (by simpa using hi)).2.1) (fun i hi => by simpa using (hf i (by simpa using hi)).2.2.1)
     (fun i hi => by simpa using (hf i (by simpa using hi)).2.2.2.1) (fun i hi => by simpa using (hf i (by simpa using hi)).2.2.2.2.1)
    rw [hln] at this
    exact this
set_option maxRecDepth 100000 in
theorem open_node {w : World} {base b0 : Nat} {sp : Nat → Bool} {hd : Bool} {v : Value} {d : DataW H} {p : List MemPlace} (hv : Value.okWide Tryz.prog w .any b0 24 v) (h : DataW.Trod enc Tryz.prog w base sp hd 24 v d p) :
  ∃ n, RepN w n v ∧ n.text.length ≤ maxLen := by
 obtain ⟨cs, rfl, hsz⟩ := okWide_struct Tryz.underlying24 hv
 have hC : Tryz.prog.cellsOf 24 = 4 := by kernel_rfl
 rw [hC] at hsz
 obtain ⟨fuel, hf⟩ := h
 obtain ⟨l, rfl⟩ : ∃ l : List Value, cs = l.toArray := ⟨cs.toList, by simp⟩
 match l, hsz with
 | [c0, c1, c2, c3], _ =>
  obtain ⟨k, c, s, m, z, _, rfl, rfl, rfl, hsz, hz⟩ := open_node4 hf
  obtain ⟨ks, v, hv, hr⟩ := open_nodes m _ _ hz
  cases hv
  exact ⟨.mk k s.data.toList c ks, ⟨c3, rfl, hr⟩, by show s.data.toList.length ≤ maxLen; simpa using hsz⟩
end
end Go.Proofs.YtdacpbdamliafaaGreat

/- A law on regions that draw their order: quiet stretches between operations that come up alone. One walk serves every order. -/
namespace Go.Proofs.YtdacpbdamliafaaGreat
open Go.RowKit
section
variable {P : Program} {ops : Array Oper} {md : Region.Mode} {C : World → Prop}
structure Closed (md : Region.Mode) (ops : Array Oper) (listed : Array Bool) : Prop where
 size : listed.size = ops.size
 closed : ∀ j oj, ops[j]? = some oj → listed.getD j false = true → ∀ e ∈ oj.after, Region.binds md e = true → listed.getD e.on false = true
theorem Closed.put {i : Nat} {listed : Array Bool} (inv : Closed md ops listed) (hi : i ∈ Region.ready md ops listed) : Closed md ops (listed.setIfInBounds i true) := by
 obtain ⟨_, oi, hoi, hall⟩ := mem_ready.1 hi
 refine ⟨by simp [inv.size], fun j oj hj hl e he hb => ?_⟩
 by_cases hij : i = j
 ·subst hij
  have : oj = oi := Option.some.inj (hj.symm.trans hoi)
  subst this
  exact getD_set_true (hall e he hb)
 ·rw [getD_set_ne false hij] at hl
  exact getD_set_true (inv.closed j oj hj hl e he hb)
def sinkL (md : Region.Mode) (ops : Array Oper) : List Nat → Option Nat → Bool
 | [], _ => true
 | q :: qs, t => (qs.any (fun j => Region.waitsFor md ops j q) || (match t with | some t => Region.waitsFor md ops t q | none => true)) && sinkL md ops qs t
def shutB (md : Region.Mode) (ops : Array Oper) (qs : List Nat) (t : Option Nat) (listed : Array Bool) : Bool :=
 (List.range ops.size).all (fun u => listed.getD u false || qs.contains u || t == some u || (List.range ops.size).any (fun v => Region.waitsFor md ops u v && !listed.getD v false && !qs.contains v))
 && sinkL md ops qs t
theorem sink_spec {t : Nat} {listed : Array Bool} (inv : Closed md ops listed) : ∀ (qs : List Nat), sinkL md ops qs (some t) = true → (∃ q ∈ qs, listed.getD q false = false) → ∃ v, Region.waitsFor md ops t v = true ∧ listed.getD v false = false
 | [], _, h => by obtain ⟨q, hq, _⟩ := h; cases hq
 | q :: qs, hs, h => by
  simp only [sinkL, Bool.and_eq_true, Bool.or_eq_true] at hs
  by_cases hr : ∃ q ∈ qs, listed.getD q false = false
  ·exact sink_spec inv qs hs.2 hr
  ·obtain ⟨x, hx, hxl⟩ := h
   have hxq : x = q := by
    rcases List.mem_cons.1 hx with h1 | h1
    ·exact h1
    ·exact absurd ⟨x, h1, hxl⟩ hr
   subst hxq
   rcases hs.1 with h1 | h1
   ·obtain ⟨j, hj, hw⟩ := List.any_eq_true.1 h1
    obtain ⟨oj, hoj, e, he, hb, hon⟩ := Region.waitsFor_spec hw
    cases hl : listed.getD j false with
    | true =>
     have h2 := inv.closed j oj hoj hl e he hb
     rw [hon, hxl] at h2
     cases h2
    | false => exact absurd ⟨j, hj, hl⟩ hr
   ·exact ⟨x, h1, hxl⟩
theorem ready_waits {u v : Nat} {listed : Array Bool} (hu : u ∈ Region.ready md ops listed) (hw : Region.waitsFor md ops u v = true) : listed.getD v false = true := by
 obtain ⟨_, ou, hou, hall⟩ := mem_ready.1 hu
 obtain ⟨o', ho', e, he, hb, hon⟩ := Region.waitsFor_spec hw
 have : o' = ou := Option.some.inj (ho'.symm.trans hou)
 subst this
 have := hall e he hb
 rwa [hon] at this
theorem shut_spec {qs : List Nat} {t : Option Nat} {listed0 listed : Array Bool} (h : shutB md ops qs t listed0 = true) (inv : Closed md ops listed)
  (h1 : ∀ j, listed0.getD j false = true → listed.getD j false = true) (h2 : ∀ j, listed.getD j false = true → listed0.getD j false = true ∨ j ∈ qs)
  (hq : ∃ q ∈ qs, listed.getD q false = false) : ∀ u ∈ Region.ready md ops listed, u ∈ qs := by
 intro u hu
 simp only [shutB, Bool.and_eq_true] at h
 obtain ⟨hun, ou, hou, _⟩ := mem_ready.1 hu
 have hlt : u < ops.size := (Array.getElem?_eq_some_iff.1 hou).1
 have hx := List.all_eq_true.1 h.1 u (List.mem_range.2 hlt)
 simp only [Bool.or_eq_true] at hx
 rcases hx with ((hx | hx) | hx) | hx
 ·have := h1 u hx
  rw [getD_both hun] at this
  cases this
 ·simpa using hx
 ·have ht : t = some u := by simpa using hx
  subst ht
  obtain ⟨v, hw, hv⟩ := sink_spec inv qs h.2 hq
  rw [ready_waits hu hw] at hv
  cases hv
 ·obtain ⟨v, hv, hx⟩ := List.any_eq_true.1 hx
  simp only [Bool.and_eq_true, Bool.not_eq_true'] at hx
  have hl := ready_waits hu hx.1.1
  rcases h2 v hl with h3 | h3
  ·rw [hx.1.2] at h3; cases h3
  ·simp [h3] at hx
def wpAnyZ (P : Program) (md : Region.Mode) (ops : Array Oper) (C : World → Prop) (qs : List Nat) (L : Array Bool → Act → Prop) : Nat → Array Bool → Act → Prop
 | 0, listed, a => L listed a
 | f + 1, listed, a => Region.ready md ops listed ≠ [] ∧ ∀ i ∈ Region.ready md ops listed, i ∈ qs ∧ qOp P ops C i (wpAnyZ P md ops C qs L f (listed.setIfInBounds i true)) a
theorem wpAny_of_Z {qs : List Nat} {g : Nat} {L : Array Bool → Act → Prop} {Q' : Exit → Act → World → Prop} (hL : ∀ listed a w, C w → L listed a → wpAny P md ops Q' g listed a w) :
  ∀ (f : Nat) (listed : Array Bool) (a : Act) (w : World), C w → wpAnyZ P md ops C qs L f listed a → wpAny P md ops Q' (f + g) listed a w
 | 0, listed, a, w, hC, h => by rw [Nat.zero_add]; exact hL _ _ _ hC h
 | f + 1, listed, a, w, hC, h => by
  rw [show f + 1 + g = (f + g) + 1 by omega]
  exact ⟨fun h0 => absurd h0 h.1, fun i hi => wpOp_of_qOp hC (fun a' w' hC' h' => wpAny_of_Z hL f _ a' w' hC' h') (h.2 i hi).2⟩
structure ZInv (md : Region.Mode) (ops : Array Oper) (qs : List Nat) (listed0 listed : Array Bool) : Prop where
 closed : Closed md ops listed
 sub : ∀ j, listed0.getD j false = true → listed.getD j false = true
 sup : ∀ j, listed.getD j false = true → listed0.getD j false = true ∨ j ∈ qs
theorem ZInv.put {qs : List Nat} {listed0 listed : Array Bool} {i : Nat} (inv : ZInv md ops qs listed0 listed) (hi : i ∈ Region.ready md ops listed) (hq : i ∈ qs) : ZInv md ops qs listed0 (listed.setIfInBounds i true) :=
 ⟨inv.closed.put hi, fun j hj => getD_set_true (inv.sub j hj), fun j hj => by
  by_cases hij : i = j
  ·subst hij; exact .inr hq
  ·rw [getD_set_ne false hij] at hj; exact inv.sup j hj⟩
theorem wpAnyZ_first {qs : List Nat} {t : Option Nat} {listed0 : Array Bool} {i : Nat} {oi : Oper} {v : Value} {L : Array Bool → Act → Prop} (hi : ops[i]? = some oi) (hsel : ∀ (j : Nat) (o : Oper) cs b, ops[j]? = some o → o.op ≠ .select cs b)
  (hs : shutB md ops qs t listed0 = true) (hin : i ∈ qs) (hdone : ∀ listed a, L listed a → ∀ j ∈ Region.ready md ops listed, j ∉ qs) :
  ∀ (f : Nat) (listed : Array Bool) (a : Act), ZInv md ops qs listed0 listed →
   (∀ j oj, ops[j]? = some oj → j ≠ i → listed.getD j true = false → (∀ e ∈ oj.after, Region.binds md e = true → e.on ≠ i) → oi.apart ops oj = true) →
   i ∈ Region.ready md ops listed → YieldsIn P ops C oi v a →
   wpAnyZ P md ops C qs L f (listed.setIfInBounds i true) (a.put oi.dst v) → wpAnyZ P md ops C qs L (f + 1) listed a := by
 intro f
 induction f with
 | zero =>
  intro listed a inv _ hr hy H
  have hun := (mem_ready.1 hr).1
  refine ⟨fun h => (by rw [h] at hr; cases hr), fun j hj => ?_⟩
  have hjn := shut_spec hs inv.closed inv.sub inv.sup ⟨i, hin, getD_both hun⟩ j hj
  refine ⟨hjn, ?_⟩
  by_cases hji : j = i
  ·subst hji; exact hy.qOp hi H
  ·exact absurd hjn (hdone _ _ H j (ready_mono hj hji))
 | succ f ih =>
  intro listed a inv hfree hr hy H
  have hun := (mem_ready.1 hr).1
  refine ⟨fun h => (by rw [h] at hr; cases hr), fun j hj => ?_⟩
  have hjn := shut_spec hs inv.closed inv.sub inv.sup ⟨i, hin, getD_both hun⟩ j hj
  refine ⟨hjn, ?_⟩
  by_cases hji : j = i
  ·subst hji; exact hy.qOp hi H
  ·have h1 := (H.2 j (ready_mono hj hji)).2
   obtain ⟨hjun, oj, hoj, hall⟩ := mem_ready.1 hj
   have hnot : ∀ e ∈ oj.after, Region.binds md e = true → e.on ≠ i := fun e he hb heq => by
    have h1 := hall e he hb
    rw [heq, getD_both hun] at h1
    cases h1
   have h2 := qOp_put hoj (hfree j oj hoj hji hjun hnot) (fun cs b => hsel i oi cs b hi) (fun cs b => hsel j oj cs b hoj) hy h1
   have hfree' : ∀ k ok, ops[k]? = some ok → k ≠ i → (listed.setIfInBounds j true).getD k true = false →
     (∀ e ∈ ok.after, Region.binds md e = true → e.on ≠ i) → oi.apart ops ok = true := fun k ok hk hki hun hno => by
    refine hfree k ok hk hki ?_ hno
    by_cases hjk : j = k
    ·subst hjk; exact hjun
    ·rw [getD_set_ne true hjk] at hun; exact hun
   refine qOp_mono (fun a' h3 => ih (listed.setIfInBounds j true) a' (inv.put hj hjn) hfree' (ready_mono hr (Ne.symm hji)) h3.1 ?_) h2
   rw [Array.setIfInBounds_comm _ _ hji]
   exact h3.2
def setAll : List Nat → Array Bool → Array Bool
 | [], x => x
 | k :: l, x => setAll l (x.setIfInBounds k true)
def lexZ (md : Region.Mode) (ops : Array Oper) : List Nat → Array Bool → Bool
 | [], _ => true
 | k :: l, listed => (Region.ready md ops listed).contains k && Region.free md ops listed k && lexZ md ops l (listed.setIfInBounds k true)
def pick (l : List Oper) : List Nat → List Oper
 | [] => []
 | k :: r => match l[k]? with
  | some o => o :: pick l r
  | none => pick l r
theorem setAll_true {k : Nat} : ∀ (l : List Nat) (x : Array Bool), x.getD k false = true → (setAll l x).getD k false = true
 | [], _, h => h
 | _ :: l, _, h => setAll_true l _ (getD_set_true h)
theorem setAll_mem {k : Nat} : ∀ (l : List Nat) (x : Array Bool), k ∈ l → k < x.size → (setAll l x).getD k false = true
 | j :: l, x, h, hk => by
  rcases List.mem_cons.1 h with h1 | h1
  ·subst h1; exact setAll_true l _ (by simp [hk])
  ·exact setAll_mem l _ h1 (by simpa using hk)
theorem wpAnyZ_lex {l0 : List Oper} {qs : List Nat} {t : Option Nat} {listed0 : Array Bool} {Lq : Act → Prop} {fin : Array Bool} (hsel : Region.noSelect l0.toArray = true) (hs : shutB md l0.toArray qs t listed0 = true)
  (hfin : ∀ j ∈ Region.ready md l0.toArray fin, j ∉ qs) :
  ∀ (l : List Nat) (listed : Array Bool) (a : Act), (∀ k ∈ l, k ∈ qs) → ZInv md l0.toArray qs listed0 listed → lexZ md l0.toArray l listed = true → setAll l listed = fin →
  wpQuiet P l0.toArray C Lq (pick l0 l) a → wpAnyZ P md l0.toArray C qs (fun listed' a' => listed' = fin ∧ Lq a') l.length listed a
 | [], listed, a, _, _, _, hf, h => ⟨hf, h⟩
 | k :: l, listed, a, hq, inv, hB, hf, h => by
  simp only [lexZ, Bool.and_eq_true] at hB
  obtain ⟨⟨hr, hfr⟩, hB'⟩ := hB
  have hr' : k ∈ Region.ready md l0.toArray listed := by simpa using hr
  obtain ⟨_, o, ho, _⟩ := mem_ready.1 hr'
  have ho' : l0[k]? = some o := by simpa using ho
  have hpick : pick l0 (k :: l) = o :: pick l0 l := by simp [pick, ho']
  rw [hpick] at h
  have hst : qOp P l0.toArray C k (wpQuiet P l0.toArray C Lq (pick l0 l)) a := by unfold qOp; rw [ho]; exact h
  obtain ⟨v, hy, hK⟩ := yieldsIn_of_qOp ho hst
  have hkq := hq k (by simp)
  exact wpAnyZ_first ho (Region.noSelect_spec hsel) hs hkq (fun listed' a' hL => by rw [hL.1]; exact hfin) l.length listed a inv (Region.free_spec ho hfr) hr' hy
   (wpAnyZ_lex hsel hs hfin l _ _ (fun x hx => hq x (by simp [hx])) (inv.put hr' hkq) hB' hf hK)
theorem closed_after {qs : List Nat} {listed0 : Array Bool} : ∀ (l : List Nat) (listed : Array Bool), (∀ k ∈ l, k ∈ qs) → ZInv md ops qs listed0 listed → lexZ md ops l listed = true → ZInv md ops qs listed0 (setAll l listed)
 | [], _, _, inv, _ => inv
 | k :: l, listed, hq, inv, hB => by
  simp only [lexZ, Bool.and_eq_true] at hB
  exact closed_after l _ (fun x hx => hq x (by simp [hx])) (inv.put (by simpa using hB.1.1) (hq k (by simp))) hB.2
def segsB (md : Region.Mode) (ops : Array Oper) : List (List Nat × Nat) → List Nat → Array Bool → Bool
 | [], last, listed => shutB md ops last none listed && lexZ md ops last listed && (Region.ready md ops (setAll last listed)).isEmpty
 | (qs, t) :: segs, last, listed => shutB md ops qs (some t) listed && lexZ md ops qs listed && decide (Region.ready md ops (setAll qs listed) = [t]) && !qs.contains t &&
   segsB md ops segs last ((setAll qs listed).setIfInBounds t true)
def segsN : List (List Nat × Nat) → List Nat → Nat
 | [], last => last.length
 | (qs, _) :: segs, last => qs.length + (segsN segs last + 1)
def wpSegs (P : Program) (l : List Oper) (Q : Exit → Act → World → Prop) : List (List Nat × Nat) → List Nat → Act → World → Prop
 | [], last, a, w => wpQuiet P l.toArray (fun w' => ∃ n, w' = w.drewN n) (fun a' => ∀ w', (∃ n, w' = w.drewN n) → Q .normal a' w') (pick l last) a
 | (qs, t) :: segs, last, a, w => wpQuiet P l.toArray (fun w' => ∃ n, w' = w.drewN n)
   (fun a' => ∀ w', (∃ n, w' = w.drewN n) → wpList P l.toArray (Exit.then (wpSegs P l Q segs last) Q) (pick l [t]) a' w') (pick l qs) a
theorem wpOp_of_single {l : List Oper} {t : Nat} {o : Oper} {K : Act → World → Prop} {Q : Exit → Act → World → Prop} {a : Act} {w : World} (ho : l.toArray[t]? = some o)
  (h : wpList P l.toArray (Exit.then K Q) (pick l [t]) a w) : wpOp P l.toArray Q t K a w := by
 have ho' : l[t]? = some o := by simpa using ho
 have hp : pick l [t] = [o] := by simp [pick, ho']
 rw [hp] at h
 unfold wpOp
 rw [ho]
 exact h
theorem wpAny_of_segs {l : List Oper} {Q : Exit → Act → World → Prop} (hsel : Region.noSelect l.toArray = true) : ∀ (segs : List (List Nat × Nat)) (last : List Nat) (listed : Array Bool) (a : Act) (w w0 : World),
  Closed md l.toArray listed → segsB md l.toArray segs last listed = true → (∃ n, w = w0.drewN n) → wpSegs P l Q segs last a w0 → wpAny P md l.toArray Q (segsN segs last) listed a w
 | [], last, listed, a, w, w0, inv, hB, hC, h => by
  simp only [segsB, Bool.and_eq_true, List.isEmpty_iff] at hB
  obtain ⟨⟨hs, hl⟩, hr⟩ := hB
  have hz : ZInv md l.toArray last listed listed := ⟨inv, fun _ h => h, fun _ h => .inl h⟩
  have := wpAnyZ_lex (P := P) (C := fun w' => ∃ n, w' = w0.drewN n) (fin := setAll last listed) (Lq := fun a' => ∀ w', (∃ n, w' = w0.drewN n) → Q .normal a' w') hsel hs (by rw [hr]; simp) last listed a (fun _ h => h) hz hl rfl h
  refine wpAny_of_Z (g := 0) (fun listed' a' w' hC' hL => ?_) last.length listed a w hC this
  exact wpAny_done (by rw [hL.1]; exact hr) (hL.2 w' hC') 0
 | (qs, t) :: segs, last, listed, a, w, w0, inv, hB, hC, h => by
  simp only [segsB, Bool.and_eq_true, decide_eq_true_eq, Bool.not_eq_true'] at hB
  obtain ⟨⟨⟨⟨hs, hl⟩, hr⟩, ht⟩, hB'⟩ := hB
  have hz : ZInv md l.toArray qs listed listed := ⟨inv, fun _ h => h, fun _ h => .inl h⟩
  have hz' := closed_after qs listed (fun _ h => h) hz hl
  have htr : t ∈ Region.ready md l.toArray (setAll qs listed) := by rw [hr]; simp
  have htn : t ∉ qs := by simpa using ht
  obtain ⟨_, ot, hot, _⟩ := mem_ready.1 htr
  have := wpAnyZ_lex (P := P) (C := fun w' => ∃ n, w' = w0.drewN n) (fin := setAll qs listed) (Lq := fun a' => ∀ w', (∃ n, w' = w0.drewN n) → wpList P l.toArray (Exit.then (wpSegs P l Q segs last) Q) (pick l [t]) a' w') hsel hs
   (by rw [hr]; intro j hj; rw [List.mem_singleton.1 hj]; exact htn) qs listed a (fun _ h => h) hz hl rfl h
  refine wpAny_of_Z (g := segsN segs last + 1) (fun listed' a' w' hC' hL => ?_) qs.length listed a w hC this
  refine wpAny_all (rs := [t]) (by rw [hL.1]; exact hr) (by simp) (fun i hi => ?_)
  rw [List.mem_singleton.1 hi, hL.1]
  exact wpOp_mono (fun a'' w'' h'' => wpAny_of_segs hsel segs last _ a'' w'' w'' (hz'.closed.put htr) hB' ⟨0, rfl⟩ h'') (wpOp_of_single hot (hL.2 w' hC'))
theorem getD_repl (m j : Nat) : (Array.replicate m false).getD j false = false := by
 rcases Nat.lt_or_ge j m with h | h
 ·simp [h]
 ·simp [h]
theorem wp_region_segs {id : Nat} {Q : Exit → Act → World → Prop} {a : Act} {w : World} {l : List Oper} (segs : List (List Nat × Nat)) (last : List Nat) (hm : P.follows .mixedOrders = true)
  (hB : (Region.noSelect l.toArray && decide (segsN segs last = l.toArray.size) && segsB .any l.toArray segs last (Array.replicate l.toArray.size false)) = true)
  (h : wpSegs P l Q segs last a w) : (Code.region id l.toArray true).wp P Q a w := by
 simp only [Bool.and_eq_true, decide_eq_true_eq] at hB
 obtain ⟨⟨hsel, hn⟩, hB⟩ := hB
 refine wp_region_any hm ?_
 rw [← hn]
 rw [← hn] at hB
 exact wpAny_of_segs hsel segs last _ a _ w ⟨by simp [hn], fun j oj _ hl => by rw [getD_repl] at hl; cases hl⟩ hB ⟨1, rfl⟩ h
end
end Go.Proofs.YtdacpbdamliafaaGreat

/- The law of Reg over whatever class of worlds the quiet stretches end in; and at the class of worlds that have only grown. -/
namespace Go.Proofs.YtdacpbdamliafaaGreat
open Go.RowKit
section
variable {P : Program} {ops : Array Oper} {md : Region.Mode} {C : World → Prop}
def wpSegsC (Cl : World → World → Prop) (P : Program) (l : List Oper) (Q : Exit → Act → World → Prop) : List (List Nat × Nat) → List Nat → Act → World → Prop
 | [], last, a, w => wpQuiet P l.toArray (fun w' => Cl w w') (fun a' => ∀ w', Cl w w' → Q .normal a' w') (pick l last) a
 | (qs, t) :: segs, last, a, w => wpQuiet P l.toArray (fun w' => Cl w w')
   (fun a' => ∀ w', Cl w w' → wpList P l.toArray (Exit.then (wpSegsC Cl P l Q segs last) Q) (pick l [t]) a' w') (pick l qs) a
theorem wpAny_of_segsC {Cl : World → World → Prop} (hrefl : ∀ w, Cl w w) {l : List Oper} {Q : Exit → Act → World → Prop} (hsel : Region.noSelect l.toArray = true) : ∀ (segs : List (List Nat × Nat)) (last : List Nat) (listed : Array Bool) (a : Act) (w w0 : World),
  Closed md l.toArray listed → segsB md l.toArray segs last listed = true → Cl w0 w → wpSegsC Cl P l Q segs last a w0 → wpAny P md l.toArray Q (segsN segs last) listed a w
 | [], last, listed, a, w, w0, inv, hB, hC, h => by
  simp only [segsB, Bool.and_eq_true, List.isEmpty_iff] at hB
  obtain ⟨⟨hs, hl⟩, hr⟩ := hB
  have hz : ZInv md l.toArray last listed listed := ⟨inv, fun _ h => h, fun _ h => .inl h⟩
  have := wpAnyZ_lex (P := P) (C := fun w' => Cl w0 w') (fin := setAll last listed) (Lq := fun a' => ∀ w', Cl w0 w' → Q .normal a' w') hsel hs (by rw [hr]; simp) last listed a (fun _ h => h) hz hl rfl h
  refine wpAny_of_Z (g := 0) (fun listed' a' w' hC' hL => ?_) last.length listed a w hC this
  exact wpAny_done (by rw [hL.1]; exact hr) (hL.2 w' hC') 0
 | (qs, t) :: segs, last, listed, a, w, w0, inv, hB, hC, h => by
  simp only [segsB, Bool.and_eq_true, decide_eq_true_eq, Bool.not_eq_true'] at hB
  obtain ⟨⟨⟨⟨hs, hl⟩, hr⟩, ht⟩, hB'⟩ := hB
  have hz : ZInv md l.toArray qs listed listed := ⟨inv, fun _ h => h, fun _ h => .inl h⟩
  have hz' := closed_after qs listed (fun _ h => h) hz hl
  have htr : t ∈ Region.ready md l.toArray (setAll qs listed) := by rw [hr]; simp
  have htn : t ∉ qs := by simpa using ht
  obtain ⟨_, ot, hot, _⟩ := mem_ready.1 htr
  have := wpAnyZ_lex (P := P) (C := fun w' => Cl w0 w') (fin := setAll qs listed) (Lq := fun a' => ∀ w', Cl w0 w' → wpList P l.toArray (Exit.then (wpSegsC Cl P l Q segs last) Q) (pick l [t]) a' w') hsel hs
   (by rw [hr]; intro j hj; rw [List.mem_singleton.1 hj]; exact htn) qs listed a (fun _ h => h) hz hl rfl h
  refine wpAny_of_Z (g := segsN segs last + 1) (fun listed' a' w' hC' hL => ?_) qs.length listed a w hC this
  refine wpAny_all (rs := [t]) (by rw [hL.1]; exact hr) (by simp) (fun i hi => ?_)
  rw [List.mem_singleton.1 hi, hL.1]
  exact wpOp_mono (fun a'' w'' h'' => wpAny_of_segsC hrefl hsel segs last _ a'' w'' w'' (hz'.closed.put htr) hB' (hrefl _) h'') (wpOp_of_single hot (hL.2 w' hC'))
theorem wp_region_segsC (Cl : World → World → Prop) (hrefl : ∀ w, Cl w w) (hdrew : ∀ w, Cl w (w.drewN 1)) {id : Nat} {Q : Exit → Act → World → Prop} {a : Act} {w : World} {l : List Oper} (segs : List (List Nat × Nat)) (last : List Nat) (hm : P.follows .mixedOrders = true)
  (hB : (Region.noSelect l.toArray && decide (segsN segs last = l.toArray.size) && segsB .any l.toArray segs last (Array.replicate l.toArray.size false)) = true)
  (h : wpSegsC Cl P l Q segs last a w) : (Code.region id l.toArray true).wp P Q a w := by
 simp only [Bool.and_eq_true, decide_eq_true_eq] at hB
 obtain ⟨⟨hsel, hn⟩, hB⟩ := hB
 refine wp_region_any hm ?_
 rw [← hn]
 rw [← hn] at hB
 exact wpAny_of_segsC hrefl hsel segs last _ a _ w ⟨by simp [hn], fun j oj _ hl => by rw [getD_repl] at hl; cases hl⟩ hB (hdrew w) h
end
def Growing (w w' : World) : Prop := ∃ p : Regrown, w' = Go.Sort.grow (redrawn w p.d) p.os
theorem Growing.refl (w : World) : Growing w w := ⟨⟨w.drawn, #[]⟩, by rw [Go.Sort.grow_empty]; rfl⟩
theorem Growing.drew (w : World) : Growing w (w.drewN 1) := ⟨⟨w.drawn + 1, #[]⟩, by rw [Go.Sort.grow_empty]; rfl⟩
theorem wp_region_segs_below {P : Program} {id : Nat} {Q : Exit → Act → World → Prop} {a : Act} {w : World} {l : List Oper} (segs : List (List Nat × Nat)) (last : List Nat) (hm : P.follows .mixedOrders = true)
  (hB : (Region.noSelect l.toArray && decide (segsN segs last = l.toArray.size) && segsB .any l.toArray segs last (Array.replicate l.toArray.size false)) = true)
  (h : wpSegsC (fun w w' => ∃ p : Regrown, w' = Go.Sort.grow (redrawn w p.d) p.os) P l Q segs last a w) : (Code.region id l.toArray true).wp P Q a w :=
 wp_region_segsC _ Growing.refl Growing.drew segs last hm hB h
theorem calmP {P : Program} {f : Nat} {args : Array Value} {v : Value} (h : ∀ w, Calls P f args w fun e w' => e = .returned v ∧ Fresh w w') (W : World) :
  ∀ d os, Calls P f args (Go.Sort.grow (redrawn W d) os) fun e w'' => e = .returned v ∧ ∃ p : Regrown, w'' = Go.Sort.grow (redrawn W p.d) p.os :=
 fun _ _ => Calls.regrown_of ((h _).mono fun _ _ h => ⟨h.1, h.2.below⟩)
end Go.Proofs.YtdacpbdamliafaaGreat

/- The walks of the reference's left, Few, Equal and SameItems. -/
namespace Go.Proofs.YtdacpbdamliafaaGreat
open Go.RowKit
theorem forget_world {p : World → Prop} {W : World} (F : World → Prop) (hF : F W) (h : ∀ W', F W' → p W') : p W := h W hF
theorem Blk.new3 (w : World) (o o' : Obj) (t : TypeId) (cs : Array Value) : Blk (((w.alloc o).alloc o').alloc (.cells cs t)) (w.heap.size + 1 + 1) t cs := by
 have := Blk.new2 (w.alloc o) o' t cs
 simpa using this
theorem calmF {P : Program} {f : Nat} {args : Array Value} {v : Value} (W : World) (h : ∀ w, Fresh W w → Calls P f args w fun e w' => e = .returned v ∧ Fresh w w') :
  ∀ d os, Calls P f args (Go.Sort.grow (redrawn W d) os) fun e w'' => e = .returned v ∧ ∃ p : Regrown, w'' = Go.Sort.grow (redrawn W p.d) p.os :=
 fun _ _ => Calls.regrown_of ((h _ (fresh_of_below (below_regrown _ _ _))).mono fun _ _ h => ⟨h.1, h.2.below⟩)
theorem str_eq' (a b : ByteArray) : (a == b) = (a.data.toList == b.data.toList) := by
 show (a.data == b.data) = _
 simp
def leftF (n : Tr.Nd) (most : Int) : Int := if (Tr.count n : Int) ≤ most then most - Tr.count n else -1
def leftL (l : List Tr.Nd) (most : Int) : Int := if (1 + Tr.countL l : Int) ≤ most then most - 1 - Tr.countL l else -1
theorem ret_i64 (a b : Int) (h : a = b) : Ending.returned (.int .i64 a) = .returned (.int .i64 b) := by rw [h]
set_option maxHeartbeats 1000000 in
theorem left_any (m : Nat) : ∀ (n : Tr.Nd) (sl : Value) (most : Int) (w : World), Tr.count n ≤ m → RepL w n.kids sl → 0 ≤ most → most ≤ 1000000 →
  Calls Tryz.prog 66 #[.agg #[.int .i64 n.kind, .string ⟨n.text.toArray⟩, .int .i64 n.cols, sl], .int .i64 most] w fun e w' => e = .returned (.int .i64 (leftF n most)) ∧ Fresh w w' := by
 induction m with
 | zero => intro n _ _ _ h; have := Tr.count_pos n; omega
 | succ m ih =>
  intro n sl most w hm hr h0 h1
  obtain ⟨A, cap, rfl⟩ := hr.slice
  have hlen := hr.len
  unfold maxLen at hlen
  have HIH := hid ih
  have HR := hid hr
  have hk : Tr.countL n.kids ≤ m := by have := Tr.count_kids n; omega
  have HN := hid (Tr.count_kids n)
  clear ih hr hm
  generalize hks : n.kids = ks at *
  clear hks
  go_enter Tryz.func66, Tryz.ntmps66
  go_wp2_with fail
  go_loopw [1, 5] (fun x i wr => ∃ (j : Nat) (cur : Int), i = .int .i64 j ∧ x = .int .i64 cur ∧ j ≤ ks.length ∧ Hid (cur = leftL (ks.take j) most) ∧ Hid (Blk wr w.heap.size 24 #[.int .i64 n.kind, .string ⟨n.text.toArray⟩, .int .i64 n.cols, .slice A ks.length cap]) ∧ Hid (Fresh w wr)) (fun _ i _ => ks.length - (intOf i).toNat)
  case atStart => exact ⟨0, most - 1, rfl, by simp, Nat.zero_le _, by unfold leftL; simp [Tr.countL, Hid]; omega, Blk.new _ _ _, (Touch.refl _ w).alloc _⟩
  case round =>
   obtain ⟨j, cur, rfl, rfl, hj, HC, HB, HF⟩ := hrel
   obtain ⟨q0, q1, q2, q3, _, _, _, _, hg⟩ := Blk.four HB.out
   have hcur : -1 ≤ cur ∧ cur ≤ 1000000 := by rw [HC.out]; unfold leftL; split <;> omega
   obtain ⟨hcl, hcu⟩ := hcur
   by_cases c1 : j < ks.length
   ·have d1 : decide ((j : Int) < (ks.length : Int)) = true := by simp; omega
    have d1' : (j : Int) < (ks.length : Int) := by omega
    by_cases c2 : 0 ≤ cur
    ·have d2 : decide ((0 : Int) ≤ cur) = true := by simp; omega
     obtain ⟨g, o, sl, rfl, hg', m0, m1, m2, m3, hrk⟩ := HR.out.get j c1
     have p0 := HF.out.cell m0 (fun h => h)
     have p1 := HF.out.cell m1 (fun h => h)
     have p2 := HF.out.cell m2 (fun h => h)
     have p3 := HF.out.cell m3 (fun h => h)
     have hcnt := Tr.count_mem (List.getElem_mem (l := ks) (n := j) c1)
     have HTK := hid (Tr.countL_take ks j c1)
     have HRK := hid hrk
     clear m0 m1 m2 m3 hrk
     generalize ks[j] = x at *
     go_wp2_with fail
     refine (HIH.out x sl cur _ (by omega) (HRK.out.fresh HF.out) c2 hcu).mono ?_
     rintro e1 w1 ⟨rfl, hf⟩
     have HF1 := hid hf
     have HB1 := hid (hf.blk HB.out (fun h => h))
     clear hf q0 q1 q2 q3 p0 p1 p2 p3
     go_wp2_with fail
     go_roundw
     case rel =>
      refine ⟨j + 1, leftF x cur, by go_num, rfl, c1, ?_, HB1, HF.out.trans HF1.out⟩
      unfold Hid
      have h1 := HC.out
      unfold leftL at h1 ⊢
      unfold leftF
      rw [HTK.out]
      split at h1 <;> split <;> split <;> omega
     case measure => simp [intOf]; omega
    ·have d2 : decide ((0 : Int) ≤ cur) = false := by simp; omega
     go_wp2_with fail
     go_ret
     refine ⟨ret_i64 _ _ ?_, HF.out⟩
     clear q0 q1 q2 q3
     have h1 := HC.out
     have h2 := Tr.countL_le ks j
     unfold leftL at h1
     unfold leftF
     rw [HN.out]
     split at h1 <;> split <;> omega
   ·have d1 : decide ((j : Int) < (ks.length : Int)) = false := by simp; omega
    obtain rfl : j = ks.length := by omega
    go_wp2_with fail
    go_ret
    refine ⟨ret_i64 _ _ ?_, HF.out⟩
    have h1 := HC.out
    rw [List.take_length] at h1
    rw [h1]
    unfold leftL leftF
    rw [HN.out]
    split <;> split <;> omega
end Go.Proofs.YtdacpbdamliafaaGreat

/- The walks of the reference's Few, Equal and SameItems. -/
namespace Go.Proofs.YtdacpbdamliafaaGreat
open Go.RowKit
theorem ret_bool' (a b : Bool) (h : a = b) : Ending.returned (.bool a) = .returned (.bool b) := by rw [h]
theorem left_top (n : Tr.Nd) (sl : Value) (most : Int) (w : World) (hr : RepL w n.kids sl) (h0 : 0 ≤ most) (h1 : most ≤ 1000000) :
  Calls Tryz.prog 66 #[.agg #[.int .i64 n.kind, .string ⟨n.text.toArray⟩, .int .i64 n.cols, sl], .int .i64 most] w fun e w' => e = .returned (.int .i64 (leftF n most)) ∧ Fresh w w' := left_any _ n sl most w (Nat.le_refl _) hr h0 h1
theorem few_any (n : Tr.Nd) (sl : Value) (most : Int) (w : World) (hr : RepL w n.kids sl) (h0 : 0 ≤ most) (h1 : most ≤ 1000000) :
  Calls Tryz.prog 38 #[.agg #[.int .i64 n.kind, .string ⟨n.text.toArray⟩, .int .i64 n.cols, sl], .int .i64 most] w fun e w' => e = .returned (.bool (decide ((Tr.count n : Int) ≤ most))) ∧ Fresh w w' := by
 have HR := hid hr
 clear hr
 go_enter Tryz.func38, Tryz.ntmps38
 go_wp2_with fail
 refine Calls.mono (left_top n sl most _ (HR.out.fresh (frA (Touch.refl _ _))) h0 h1) ?_
 rintro _ w1 ⟨rfl, hfw1⟩
 have HF1 := hid (show Fresh w w1 from preA hfw1)
 have B0_w1 : Blk w1 (w.heap.size) 24 #[.int .i64 n.kind, .string (⟨n.text.toArray⟩ : ByteArray), .int .i64 n.cols, sl] := Touch.blk hfw1 (by first | exact blkN | assumption | exact blkA (by assumption)) (fun h => h)
 obtain ⟨q0_0_w1, q0_1_w1, q0_2_w1, q0_3_w1, _⟩ := Blk.four B0_w1
 clear hfw1
 go_wp2_with fail
 go_ret
 refine ⟨ret_bool' _ _ ?_, HF1.out⟩
 rw [Bool.eq_iff_iff, decide_eq_true_iff, decide_eq_true_iff]
 unfold leftF
 split <;> omega
theorem few21_any (n : Tr.Nd) (sl : Value) (w : World) (hr : RepL w n.kids sl) :
  Calls Tryz.prog 32 #[.agg #[.int .i64 n.kind, .string ⟨n.text.toArray⟩, .int .i64 n.cols, sl]] w fun e w' => e = .returned (.bool (decide ((Tr.count n : Int) ≤ 300))) ∧ Fresh w w' := by
 have HR := hid hr
 clear hr
 go_enter Tryz.func32, Tryz.ntmps32
 go_wp2_with fail
 refine Calls.mono (few_any n sl (300 : Int) _ (HR.out.fresh (frA (Touch.refl _ _))) (by decide) (by decide)) ?_
 rintro _ w2 ⟨rfl, hfw2⟩
 have HF2 := hid (show Fresh w w2 from preA hfw2)
 have B0_w2 : Blk w2 (w.heap.size) 24 #[.int .i64 n.kind, .string (⟨n.text.toArray⟩ : ByteArray), .int .i64 n.cols, sl] := Touch.blk hfw2 (by first | exact blkN | assumption | exact blkA (by assumption)) (fun h => h)
 have q0_0_w2 : World.cell? w2 ⟨w.heap.size, 0, none⟩ = some (.int .i64 n.kind) := Blk.cell B0_w2 0
 have q0_1_w2 : World.cell? w2 ⟨w.heap.size, 1, none⟩ = some (.string (⟨n.text.toArray⟩ : ByteArray)) := Blk.cell B0_w2 1
 have q0_2_w2 : World.cell? w2 ⟨w.heap.size, 2, none⟩ = some (.int .i64 n.cols) := Blk.cell B0_w2 2
 have q0_3_w2 : World.cell? w2 ⟨w.heap.size, 3, none⟩ = some (sl) := Blk.cell B0_w2 3
 clear hfw2
 go_wp2_with fail
 go_ret
 exact ⟨rfl, HF2.out⟩
theorem equal_step (n m : Tr.Nd) (sl sm : Value) (w : World) (hi : ∀ w', Fresh w w' → Calls Tryz.prog 30 #[sl, sm] w' fun e w'' => e = .returned (.bool (Tr.eqL n.kids m.kids)) ∧ Fresh w' w'') :
  Calls Tryz.prog 28 #[.agg #[.int .i64 n.kind, .string ⟨n.text.toArray⟩, .int .i64 n.cols, sl], .agg #[.int .i64 m.kind, .string ⟨m.text.toArray⟩, .int .i64 m.cols, sm]] w fun e w' => e = .returned (.bool (Tr.eqN n m)) ∧ Fresh w w' := by
 have HI := hid hi
 clear hi
 have HE := hid (Tr.eqN_eq n m)
 go_enter Tryz.func28, Tryz.ntmps28
 cases h1 : (n.kind == m.kind) with
 | false =>
  have h1m : (n.kind != m.kind) = true := by rw [bne, h1]; rfl
  go_wp2_with fail
  go_ret
  exact ⟨ret_bool' _ _ (by rw [HE.out]; simp_all), (frA (Touch.refl _ _))⟩
 | true =>
  have h1m : (n.kind != m.kind) = false := by rw [bne, h1]; rfl
  cases h2 : (n.text == m.text) with
  | false =>
   have h2s : ((⟨n.text.toArray⟩ : ByteArray) == (⟨m.text.toArray⟩ : ByteArray)) = false := by rw [str_eq']; exact h2
   have h2t : ((⟨n.text.toArray⟩ : ByteArray) != (⟨m.text.toArray⟩ : ByteArray)) = true := by rw [bne, h2s]; rfl
   go_wp2_with fail
   go_ret
   exact ⟨ret_bool' _ _ (by rw [HE.out]; simp_all), (frA (Touch.refl _ _))⟩
  | true =>
   have h2s : ((⟨n.text.toArray⟩ : ByteArray) == (⟨m.text.toArray⟩ : ByteArray)) = true := by rw [str_eq']; exact h2
   have h2t : ((⟨n.text.toArray⟩ : ByteArray) != (⟨m.text.toArray⟩ : ByteArray)) = false := by rw [bne, h2s]; rfl
   cases h3 : (n.cols == m.cols) with
   | false =>
    have h3m : (n.cols != m.cols) = true := by rw [bne, h3]; rfl
    go_wp2_with fail
    go_ret
    exact ⟨ret_bool' _ _ (by rw [HE.out]; simp_all), (frA (Touch.refl _ _))⟩
   | true =>
    have h3m : (n.cols != m.cols) = false := by rw [bne, h3]; rfl
    go_wp2_with fail
    refine Calls.mono (HI.out _ (frA (Touch.refl _ _))) ?_
    rintro _ w3 ⟨rfl, hfw3⟩
    have HF3 := hid (show Fresh w w3 from preA hfw3)
    have B0_w3 : Blk w3 (w.heap.size) 24 #[.int .i64 n.kind, .string (⟨n.text.toArray⟩ : ByteArray), .int .i64 n.cols, sl] := Touch.blk hfw3 (by first | exact blkN | assumption | exact blkA (by assumption)) (fun h => h)
    have B1_w3 : Blk w3 (w.heap.size + 1) 24 #[.int .i64 m.kind, .string (⟨m.text.toArray⟩ : ByteArray), .int .i64 m.cols, sm] := Touch.blk hfw3 (by first | exact blkN | assumption | exact blkA (by assumption)) (fun h => h)
    obtain ⟨q0_0_w3, q0_1_w3, q0_2_w3, q0_3_w3, _⟩ := Blk.four B0_w3
    obtain ⟨q1_0_w3, q1_1_w3, q1_2_w3, q1_3_w3, _⟩ := Blk.four B1_w3
    clear hfw3
    go_wp2_with fail
    go_ret
    exact ⟨ret_bool' _ _ (by rw [HE.out]; simp_all), (frA HF3.out)⟩
theorem eqL_snoc : ∀ (xs ys : List Tr.Nd) (k : Nat) (hx : k < xs.length) (hy : k < ys.length), Tr.eqL (xs.take (k + 1)) (ys.take (k + 1)) = (Tr.eqL (xs.take k) (ys.take k) && Tr.eqN xs[k] ys[k])
 | x :: xs, y :: ys, 0, _, _ => by simp [Tr.eqL]
 | x :: xs, y :: ys, k + 1, hx, hy => by
  simp only [List.take_succ_cons, Tr.eqL, List.getElem_cons_succ]
  rw [eqL_snoc xs ys k (by simpa using hx) (by simpa using hy), Bool.and_assoc]
 | [], _, _, hx, _ => by simp at hx
 | _ :: _, [], _, _, hy => by simp at hy
theorem eqL_no : ∀ (xs ys : List Tr.Nd) (k : Nat) (hx : k < xs.length) (hy : k < ys.length), Tr.eqN xs[k] ys[k] = false → Tr.eqL xs ys = false
 | x :: xs, y :: ys, 0, _, _, h => by simp only [List.getElem_cons_zero] at h; rw [Tr.eqL, h, Bool.false_and]
 | x :: xs, y :: ys, k + 1, hx, hy, h => by
  simp only [List.getElem_cons_succ] at h
  rw [Tr.eqL, eqL_no xs ys k (by simpa using hx) (by simpa using hy) h, Bool.and_false]
 | [], _, _, hx, _, _ => by simp at hx
 | _ :: _, [], _, _, hy, _ => by simp at hy
set_option maxRecDepth 100000 in
set_option maxHeartbeats 1000000 in
theorem same_step (ks ls : List Tr.Nd) (v1 v2 : Value) (w : World) (h1 : RepL w ks v1) (h2 : RepL w ls v2)
  (hi : ∀ x ∈ ks, ∀ (y : Tr.Nd) (sx sy : Value) (w' : World), RepL w' x.kids sx → RepL w' y.kids sy → Calls Tryz.prog 28 #[.agg #[.int .i64 x.kind, .string ⟨x.text.toArray⟩, .int .i64 x.cols, sx], .agg #[.int .i64 y.kind, .string ⟨y.text.toArray⟩, .int .i64 y.cols, sy]] w' fun e w'' => e = .returned (.bool (Tr.eqN x y)) ∧ Fresh w' w'') :
  Calls Tryz.prog 30 #[v1, v2] w fun e w' => e = .returned (.bool (Tr.eqL ks ls)) ∧ Fresh w w' := by
 have HI := hid hi
 clear hi
 have hlen := h1.len
 unfold maxLen at hlen
 obtain ⟨A, cap, rfl⟩ := h1.slice
 obtain ⟨B, cbp, rfl⟩ := h2.slice
 have HR1 := hid h1
 have HR2 := hid h2
 clear h1 h2
 have HLL := hid (Tr.eqL_len ks ls)
 by_cases c0 : ks.length = ls.length
 ·have b0 : ((ks.length : Int) == (ls.length : Int)) = true := by rw [c0]; simp
  have b0' : ((ks.length : Int) != (ls.length : Int)) = false := by rw [bne, b0]; rfl
  have C0 := hid c0
  clear c0
  go_enter Tryz.func30, Tryz.ntmps30
  go_wp2_with fail
  go_loopw [5] (fun i wr => ∃ j : Nat, i = .int .i64 j ∧ j ≤ ks.length ∧ Hid (Tr.eqL (ks.take j) (ls.take j) = true) ∧ Hid (Fresh w wr)) (fun i _ => ks.length - (intOf i).toNat)
  case atStart => exact ⟨0, rfl, Nat.zero_le _, by simp [Tr.eqL, Hid], Touch.refl _ _⟩
  case round =>
   obtain ⟨j, rfl, hj, HA, HF⟩ := hrel
   by_cases c1 : j < ks.length
   ·have d1 : decide ((j : Int) < (ks.length : Int)) = true := by simp; omega
    have d1' : (j : Int) < (ks.length : Int) := by omega
    have c1y : j < ls.length := by rw [← C0.out]; exact c1
    have d1y : (j : Int) < (ls.length : Int) := by omega
    obtain ⟨g, o, sx, rfl, hg, m0, m1, m2, m3, hrk⟩ := HR1.out.get j c1
    obtain ⟨g', o', sy, rfl, hg', n0, n1, n2, n3, hrl⟩ := HR2.out.get j c1y
    have HS := hid (eqL_snoc ks ls j c1 c1y)
    have HN := hid (eqL_no ks ls j c1 c1y)
    have HX := hid (HI.out ks[j] (List.getElem_mem c1) ls[j] sx sy)
    have a0 := HF.out.cell m0 (fun h => h)
    have a1 := HF.out.cell m1 (fun h => h)
    have a2 := HF.out.cell m2 (fun h => h)
    have a3 := HF.out.cell m3 (fun h => h)
    have b0 := HF.out.cell n0 (fun h => h)
    have b1 := HF.out.cell n1 (fun h => h)
    have b2 := HF.out.cell n2 (fun h => h)
    have b3 := HF.out.cell n3 (fun h => h)
    have HRK := hid hrk
    have HRL := hid hrl
    clear m0 m1 m2 m3 n0 n1 n2 n3 hrk hrl HI HR1 HR2
    generalize ks[j] = x at *
    generalize ls[j] = y at *
    go_wp2_with fail
    refine forget_world (fun W => Fresh wr W) (frA (Touch.refl _ _)) ?_
    rintro w4 hfw4
    have HF4 := hid hfw4
    clear hfw4
    obtain ⟨a0_w4, a1_w4, a2_w4, a3_w4⟩ := mv4 HF4.out a0 a1 a2 a3
    obtain ⟨b0_w4, b1_w4, b2_w4, b3_w4⟩ := mv4 HF4.out b0 b1 b2 b3
    clear a0 a1 a2 a3 b0 b1 b2 b3
    have ga0_w4 := cell_regrown a0_w4
    have ga1_w4 := cell_regrown a1_w4
    have ga2_w4 := cell_regrown a2_w4
    have ga3_w4 := cell_regrown a3_w4
    have gb0_w4 := cell_regrown b0_w4
    have gb1_w4 := cell_regrown b1_w4
    have gb2_w4 := cell_regrown b2_w4
    have gb3_w4 := cell_regrown b3_w4
    have C0_w4 := hid (calmF (P := Tryz.prog) w4 (fun w hw => HX.out _ (HRK.out.fresh (Touch.trans (HF.out.trans HF4.out) hw)) (HRL.out.fresh (Touch.trans (HF.out.trans HF4.out) hw))))
    refine wp_region_quiet_below (by kernel_rfl) (by kernel_rfl) ?_
    repeat (quiet_step (first | with_reducible exact C0_w4.out _ _))
    refine wpQuiet_nil ?_
    rintro w5 ⟨⟨_, _⟩, hWw5⟩
    have hfw5 : Fresh w4 w5 := by rw [hWw5]; exact fresh_of_below (below_regrown _ _ _)
    clear hWw5 ga0_w4 ga1_w4 ga2_w4 ga3_w4 gb0_w4 gb1_w4 gb2_w4 gb3_w4
    have HF5 := hid (show Fresh w4 w5 from preA hfw5)
    obtain ⟨a0_w5, a1_w5, a2_w5, a3_w5⟩ := mv4 HF5.out a0_w4 a1_w4 a2_w4 a3_w4
    obtain ⟨b0_w5, b1_w5, b2_w5, b3_w5⟩ := mv4 HF5.out b0_w4 b1_w4 b2_w4 b3_w4
    clear a0_w4 a1_w4 a2_w4 a3_w4 b0_w4 b1_w4 b2_w4 b3_w4
    clear hfw5
    cases h4 : Tr.eqN x y with
    | false =>
     go_wp2_with fail
     go_ret
     exact ⟨by rw [HN.out (by assumption)]; rfl, (HF.out.trans (HF4.out.trans HF5.out))⟩
    | true =>
     go_wp2_with fail
     go_roundw
     case rel => exact ⟨j + 1, by go_num, c1, by unfold Hid; rw [HS.out, HA.out]; simpa using (by assumption), (HF.out.trans (HF4.out.trans HF5.out))⟩
     case measure => simp [intOf]; omega
   ·have d1 : decide ((j : Int) < (ks.length : Int)) = false := by simp; omega
    obtain rfl : j = ks.length := by omega
    go_wp2_with fail
    go_ret
    refine ⟨?_, HF.out⟩
    have := HA.out
    rw [List.take_length, C0.out, List.take_length] at this
    rw [this]; rfl
 ·have b0 : ((ks.length : Int) == (ls.length : Int)) = false := by rw [beq_eq_false_iff_ne]; omega
  have b0' : ((ks.length : Int) != (ls.length : Int)) = true := by rw [bne, b0]; rfl
  have HLN := hid (HLL.out c0)
  clear c0
  go_enter Tryz.func30, Tryz.ntmps30
  go_wp2_with fail
  go_ret
  exact ⟨by rw [HLN.out]; rfl, Touch.refl _ _⟩
theorem equal_any (m : Nat) : ∀ (n : Tr.Nd) (y : Tr.Nd) (sl sm : Value) (w : World), Tr.count n ≤ m → RepL w n.kids sl → RepL w y.kids sm →
  Calls Tryz.prog 28 #[.agg #[.int .i64 n.kind, .string ⟨n.text.toArray⟩, .int .i64 n.cols, sl], .agg #[.int .i64 y.kind, .string ⟨y.text.toArray⟩, .int .i64 y.cols, sm]] w fun e w' => e = .returned (.bool (Tr.eqN n y)) ∧ Fresh w w' := by
 induction m with
 | zero => intro n _ _ _ _ h; have := Tr.count_pos n; omega
 | succ m ih =>
  intro n y sl sm w hc h1 h2
  refine equal_step n y sl sm w fun w' hf => same_step n.kids y.kids sl sm w' (h1.fresh hf) (h2.fresh hf) fun x hx z sx sz w'' g1 g2 => ih x z sx sz w'' ?_ g1 g2
  have := Tr.count_mem hx
  have := Tr.count_kids n
  omega
end Go.Proofs.YtdacpbdamliafaaGreat

/- The walks of node's predicates on texts. -/
namespace Go.Proofs.YtdacpbdamliafaaGreat
open Go.RowKit
theorem all_snoc' (l : List UInt8) (j : Nat) (h : j < l.length) (p : UInt8 → Bool) : (l.take (j + 1)).all p = ((l.take j).all p && p l[j]) := by
 rw [List.take_add_one, List.getElem?_eq_getElem h, List.all_append]; simp only [Option.toList_some, List.all_cons, List.all_nil, Bool.and_true]
theorem all_no (l : List UInt8) (j : Nat) (h : j < l.length) (p : UInt8 → Bool) (hn : p l[j] = false) : l.all p = false := by
 rw [List.all_eq_false]
 exact ⟨l[j], List.getElem_mem _, by rw [hn]; decide⟩
theorem isEmpty_str (s : ByteArray) : s.toList.isEmpty = (s.data.toList == []) := by
 rw [ByteArray.toList_eq]
 cases s.data.toList <;> rfl
theorem all_end (s : ByteArray) (p : UInt8 → Bool) (j : Nat) (hj : j ≤ s.size) (hn : ¬ j < s.size) (h : (s.data.toList.take j).all p = true) : s.data.toList.all p = true := by
 have : s.data.toList.length = s.size := by simp
 rwa [List.take_of_length_le (by omega)] at h
theorem letter_or_256 : ∀ n : Fin 256, Tr.letter (UInt8.ofNat n.1) = (!decide (bits .or .u8 (n.1 : Int) 32 < (97 : Int)) && !decide ((122 : Int) < bits .or .u8 (n.1 : Int) 32)) := by decide +kernel
theorem letter_or (b : UInt8) : Tr.letter b = (!decide (bits .or .u8 (b.toNat : Int) 32 < (97 : Int)) && !decide ((122 : Int) < bits .or .u8 (b.toNat : Int) 32)) := by
 have := letter_or_256 ⟨b.toNat, b.toNat_lt⟩
 simpa using this
theorem digit_256 : ∀ n : Fin 256, Tr.digit (UInt8.ofNat n.1) = (!decide ((n.1 : Int) < (48 : Int)) && !decide ((57 : Int) < (n.1 : Int))) := by decide +kernel
theorem digit_or (b : UInt8) : Tr.digit b = (!decide ((b.toNat : Int) < (48 : Int)) && !decide ((57 : Int) < (b.toNat : Int))) := by
 have := digit_256 ⟨b.toNat, b.toNat_lt⟩
 simpa using this
def plainB (b : UInt8) : Bool := decide (32 ≤ b) && decide (b ≤ 126)
theorem plain_256 : ∀ n : Fin 256, plainB (UInt8.ofNat n.1) = (!decide ((n.1 : Int) < (32 : Int)) && !decide ((126 : Int) < (n.1 : Int))) := by decide +kernel
theorem plain_or (b : UInt8) : plainB b = (!decide ((b.toNat : Int) < (32 : Int)) && !decide ((126 : Int) < (b.toNat : Int))) := by
 have := plain_256 ⟨b.toNat, b.toNat_lt⟩
 simpa using this
set_option maxHeartbeats 400000 in
theorem letters_any (s : ByteArray) (w : World) (hm : s.size ≤ 9223372036854775807) :
  Calls Tryz.prog 156 #[.string s] w fun e w' => e = .returned (.bool (s.data.toList.all Tr.letter)) ∧ w' = w := by
 go_enter Tryz.func156, Tryz.ntmps156
 go_wp2_with fail
 go_loopw [3] (fun i wr => ∃ j : Nat, i = .int .i64 j ∧ j ≤ s.size ∧ Hid ((s.data.toList.take j).all Tr.letter = true) ∧ wr = w) (fun i _ => s.size - (intOf i).toNat)
 case atStart => exact ⟨0, rfl, Nat.zero_le _, by simp [Hid], rfl⟩
 case round =>
  obtain ⟨j, rfl, hj, HA, rfl⟩ := hrel
  by_cases c1 : j < s.size
  ·have d1 : decide ((j : Int) < (s.size : Int)) = true := by simp; omega
   have d1' : (j : Int) < (s.size : Int) := by omega
   obtain ⟨b, hb⟩ : ∃ b, s[j]'c1 = b := ⟨_, rfl⟩
   have hst := all_snoc' s.data.toList j (by simpa using c1) Tr.letter
   have hno := all_no s.data.toList j (by simpa using c1) Tr.letter
   have hbl : s.data.toList[j]'(by simpa using c1) = b := hb
   rw [hbl] at hst hno
   have HS := hid hst
   have HN := hid hno
   clear hst hno hbl
   cases h1 : decide ((bits .or .u8 (b.toNat : Int) (32 : Int)) < (97 : Int)) with
   | false =>
    cases h2 : decide ((122 : Int) < (bits .or .u8 (b.toNat : Int) (32 : Int))) with
    | false =>
     go_wp2_with fail
     go_roundw
     case rel => exact ⟨j + 1, by go_num, c1, by unfold Hid; rw [HS.out, HA.out]; rw [letter_or]; simp_all, trivial⟩
     case measure => simp [intOf]; omega
    | true =>
     go_wp2_with fail
     go_ret
     exact ⟨by rw [HN.out (by rw [letter_or]; simp_all)]; rfl, rfl⟩
   | true =>
    go_wp2_with fail
    go_ret
    exact ⟨by rw [HN.out (by rw [letter_or]; simp_all)]; rfl, rfl⟩
  ·have d1 : decide ((j : Int) < (s.size : Int)) = false := by simp; omega
   go_wp2_with fail
   go_ret
   exact ⟨by rw [all_end s Tr.letter j hj c1 HA.out]; rfl, rfl⟩
set_option maxHeartbeats 400000 in
theorem digits_any (s : ByteArray) (w : World) (hm : s.size ≤ 9223372036854775807) :
  Calls Tryz.prog 160 #[.string s] w fun e w' => e = .returned (.bool (s.data.toList.all Tr.digit && !(s.data.toList == []))) ∧ w' = w := by
 go_enter Tryz.func160, Tryz.ntmps160
 go_wp2_with fail
 go_loopw [3] (fun i wr => ∃ j : Nat, i = .int .i64 j ∧ j ≤ s.size ∧ Hid ((s.data.toList.take j).all Tr.digit = true) ∧ wr = w) (fun i _ => s.size - (intOf i).toNat)
 case atStart => exact ⟨0, rfl, Nat.zero_le _, by simp [Hid], rfl⟩
 case round =>
  obtain ⟨j, rfl, hj, HA, rfl⟩ := hrel
  by_cases c1 : j < s.size
  ·have d1 : decide ((j : Int) < (s.size : Int)) = true := by simp; omega
   have d1' : (j : Int) < (s.size : Int) := by omega
   obtain ⟨b, hb⟩ : ∃ b, s[j]'c1 = b := ⟨_, rfl⟩
   have hst := all_snoc' s.data.toList j (by simpa using c1) Tr.digit
   have hno := all_no s.data.toList j (by simpa using c1) Tr.digit
   have hbl : s.data.toList[j]'(by simpa using c1) = b := hb
   rw [hbl] at hst hno
   have HS := hid hst
   have HN := hid hno
   clear hst hno hbl
   cases h3 : decide ((b.toNat : Int) < (48 : Int)) with
   | false =>
    cases h4 : decide ((57 : Int) < (b.toNat : Int)) with
    | false =>
     have h4n : decide (57 < b.toNat) = false := by have hx := h4; simp only [decide_eq_false_iff_not] at hx ⊢; omega
     go_wp2_with fail
     go_roundw
     case rel => exact ⟨j + 1, by go_num, c1, by unfold Hid; rw [HS.out, HA.out]; rw [digit_or]; simp_all, trivial⟩
     case measure => simp [intOf]; omega
    | true =>
     have h4n : decide (57 < b.toNat) = true := by have hx := h4; simp only [decide_eq_true_eq] at hx ⊢; omega
     go_wp2_with fail
     go_ret
     exact ⟨by rw [HN.out (by rw [digit_or]; simp_all)]; rfl, rfl⟩
   | true =>
    go_wp2_with fail
    go_ret
    exact ⟨by rw [HN.out (by rw [digit_or]; simp_all)]; rfl, rfl⟩
  ·have d1 : decide ((j : Int) < (s.size : Int)) = false := by simp; omega
   cases h5 : (s.data.toList == ([] : List UInt8)) with
   | false =>
    have h5s : (s == (⟨#[]⟩ : ByteArray)) = false := by rw [str_eq']; exact h5
    have h5t : (s != (⟨#[]⟩ : ByteArray)) = true := by rw [bne, h5s]; rfl
    have h5e : (ByteArray.toList s).isEmpty = false := by rw [isEmpty_str]; exact h5
    go_wp2_with fail
    go_ret
    exact ⟨ret_bool' _ _ (Eq.symm (by rw [all_end s Tr.digit j hj c1 HA.out, Bool.true_and]; simp only [*]; rfl)), rfl⟩
   | true =>
    have h5s : (s == (⟨#[]⟩ : ByteArray)) = true := by rw [str_eq']; exact h5
    have h5t : (s != (⟨#[]⟩ : ByteArray)) = false := by rw [bne, h5s]; rfl
    have h5e : (ByteArray.toList s).isEmpty = true := by rw [isEmpty_str]; exact h5
    go_wp2_with fail
    go_ret
    exact ⟨ret_bool' _ _ (Eq.symm (by rw [all_end s Tr.digit j hj c1 HA.out, Bool.true_and]; simp only [*]; rfl)), rfl⟩
set_option maxHeartbeats 400000 in
theorem plain_any (s : ByteArray) (w : World) (hm : s.size ≤ 9223372036854775807) :
  Calls Tryz.prog 117 #[.string s] w fun e w' => e = .returned (.bool (s.data.toList.all plainB && decide ((s.size : Int) ≤ (200 : Int)))) ∧ w' = w := by
 go_enter Tryz.func117, Tryz.ntmps117
 go_wp2_with fail
 go_loopw [3] (fun i wr => ∃ j : Nat, i = .int .i64 j ∧ j ≤ s.size ∧ Hid ((s.data.toList.take j).all plainB = true) ∧ wr = w) (fun i _ => s.size - (intOf i).toNat)
 case atStart => exact ⟨0, rfl, Nat.zero_le _, by simp [Hid], rfl⟩
 case round =>
  obtain ⟨j, rfl, hj, HA, rfl⟩ := hrel
  by_cases c1 : j < s.size
  ·have d1 : decide ((j : Int) < (s.size : Int)) = true := by simp; omega
   have d1' : (j : Int) < (s.size : Int) := by omega
   obtain ⟨b, hb⟩ : ∃ b, s[j]'c1 = b := ⟨_, rfl⟩
   have hst := all_snoc' s.data.toList j (by simpa using c1) plainB
   have hno := all_no s.data.toList j (by simpa using c1) plainB
   have hbl : s.data.toList[j]'(by simpa using c1) = b := hb
   rw [hbl] at hst hno
   have HS := hid hst
   have HN := hid hno
   clear hst hno hbl
   cases h6 : decide ((b.toNat : Int) < (32 : Int)) with
   | false =>
    cases h7 : decide ((126 : Int) < (b.toNat : Int)) with
    | false =>
     have h7n : decide (126 < b.toNat) = false := by have hx := h7; simp only [decide_eq_false_iff_not] at hx ⊢; omega
     go_wp2_with fail
     go_roundw
     case rel => exact ⟨j + 1, by go_num, c1, by unfold Hid; rw [HS.out, HA.out]; rw [plain_or]; simp_all, trivial⟩
     case measure => simp [intOf]; omega
    | true =>
     have h7n : decide (126 < b.toNat) = true := by have hx := h7; simp only [decide_eq_true_eq] at hx ⊢; omega
     go_wp2_with fail
     go_ret
     exact ⟨by rw [HN.out (by rw [plain_or]; simp_all)]; rfl, rfl⟩
   | true =>
    go_wp2_with fail
    go_ret
    exact ⟨by rw [HN.out (by rw [plain_or]; simp_all)]; rfl, rfl⟩
  ·have d1 : decide ((j : Int) < (s.size : Int)) = false := by simp; omega
   cases h8 : decide ((s.size : Int) ≤ (200 : Int)) with
   | false =>
    go_wp2_with fail
    go_ret
    exact ⟨ret_bool' _ _ (Eq.symm (by rw [all_end s plainB j hj c1 HA.out, Bool.true_and]; assumption)), rfl⟩
   | true =>
    go_wp2_with fail
    go_ret
    exact ⟨ret_bool' _ _ (Eq.symm (by rw [all_end s plainB j hj c1 HA.out, Bool.true_and]; assumption)), rfl⟩
set_option maxHeartbeats 400000 in
theorem accent_any (s : ByteArray) (w : World) :
  Calls Tryz.prog 118 #[.string s] w fun e w' => e = .returned (.bool (Tr.accents.contains s.data.toList)) ∧ w' = w := by
 go_enter Tryz.func118, Tryz.ntmps118
 cases h9 : (s.data.toList == ([104, 97, 116] : List UInt8)) with
 | false =>
  have h9s : (s == (⟨#[104, 97, 116]⟩ : ByteArray)) = false := by rw [str_eq']; exact h9
  have h9t : (s != (⟨#[104, 97, 116]⟩ : ByteArray)) = true := by rw [bne, h9s]; rfl
  have h9l : (ByteArray.toList s == [104, 97, 116]) = false := by rw [ByteArray.toList_eq]; exact h9
  cases h10 : (s.data.toList == ([98, 97, 114] : List UInt8)) with
  | false =>
   have h10s : (s == (⟨#[98, 97, 114]⟩ : ByteArray)) = false := by rw [str_eq']; exact h10
   have h10t : (s != (⟨#[98, 97, 114]⟩ : ByteArray)) = true := by rw [bne, h10s]; rfl
   have h10l : (ByteArray.toList s == [98, 97, 114]) = false := by rw [ByteArray.toList_eq]; exact h10
   cases h11 : (s.data.toList == ([118, 101, 99] : List UInt8)) with
   | false =>
    have h11s : (s == (⟨#[118, 101, 99]⟩ : ByteArray)) = false := by rw [str_eq']; exact h11
    have h11t : (s != (⟨#[118, 101, 99]⟩ : ByteArray)) = true := by rw [bne, h11s]; rfl
    have h11l : (ByteArray.toList s == [118, 101, 99]) = false := by rw [ByteArray.toList_eq]; exact h11
    cases h12 : (s.data.toList == ([100, 111, 116] : List UInt8)) with
    | false =>
     have h12s : (s == (⟨#[100, 111, 116]⟩ : ByteArray)) = false := by rw [str_eq']; exact h12
     have h12t : (s != (⟨#[100, 111, 116]⟩ : ByteArray)) = true := by rw [bne, h12s]; rfl
     have h12l : (ByteArray.toList s == [100, 111, 116]) = false := by rw [ByteArray.toList_eq]; exact h12
     cases h13 : (s.data.toList == ([116, 105, 108, 100, 101] : List UInt8)) with
     | false =>
      have h13s : (s == (⟨#[116, 105, 108, 100, 101]⟩ : ByteArray)) = false := by rw [str_eq']; exact h13
      have h13t : (s != (⟨#[116, 105, 108, 100, 101]⟩ : ByteArray)) = true := by rw [bne, h13s]; rfl
      have h13l : (ByteArray.toList s == [116, 105, 108, 100, 101]) = false := by rw [ByteArray.toList_eq]; exact h13
      cases h14 : (s.data.toList == ([99, 104, 101, 99, 107] : List UInt8)) with
      | false =>
       have h14s : (s == (⟨#[99, 104, 101, 99, 107]⟩ : ByteArray)) = false := by rw [str_eq']; exact h14
       have h14t : (s != (⟨#[99, 104, 101, 99, 107]⟩ : ByteArray)) = true := by rw [bne, h14s]; rfl
       have h14l : (ByteArray.toList s == [99, 104, 101, 99, 107]) = false := by rw [ByteArray.toList_eq]; exact h14
       go_wp2_with fail
       go_ret
       exact ⟨ret_bool' _ _ (by simp only [Tr.accents, List.contains_cons, List.contains_nil, *] <;> rfl), rfl⟩
      | true =>
       have h14s : (s == (⟨#[99, 104, 101, 99, 107]⟩ : ByteArray)) = true := by rw [str_eq']; exact h14
       have h14t : (s != (⟨#[99, 104, 101, 99, 107]⟩ : ByteArray)) = false := by rw [bne, h14s]; rfl
       have h14l : (ByteArray.toList s == [99, 104, 101, 99, 107]) = true := by rw [ByteArray.toList_eq]; exact h14
       go_wp2_with fail
       go_ret
       exact ⟨ret_bool' _ _ (by simp only [Tr.accents, List.contains_cons, List.contains_nil, *] <;> rfl), rfl⟩
     | true =>
      have h13s : (s == (⟨#[116, 105, 108, 100, 101]⟩ : ByteArray)) = true := by rw [str_eq']; exact h13
      have h13t : (s != (⟨#[116, 105, 108, 100, 101]⟩ : ByteArray)) = false := by rw [bne, h13s]; rfl
      have h13l : (ByteArray.toList s == [116, 105, 108, 100, 101]) = true := by rw [ByteArray.toList_eq]; exact h13
      go_wp2_with fail
      go_ret
      exact ⟨ret_bool' _ _ (by simp only [Tr.accents, List.contains_cons, List.contains_nil, *] <;> rfl), rfl⟩
    | true =>
     have h12s : (s == (⟨#[100, 111, 116]⟩ : ByteArray)) = true := by rw [str_eq']; exact h12
     have h12t : (s != (⟨#[100, 111, 116]⟩ : ByteArray)) = false := by rw [bne, h12s]; rfl
     have h12l : (ByteArray.toList s == [100, 111, 116]) = true := by rw [ByteArray.toList_eq]; exact h12
     go_wp2_with fail
     go_ret
     exact ⟨ret_bool' _ _ (by simp only [Tr.accents, List.contains_cons, List.contains_nil, *] <;> rfl), rfl⟩
   | true =>
    have h11s : (s == (⟨#[118, 101, 99]⟩ : ByteArray)) = true := by rw [str_eq']; exact h11
    have h11t : (s != (⟨#[118, 101, 99]⟩ : ByteArray)) = false := by rw [bne, h11s]; rfl
    have h11l : (ByteArray.toList s == [118, 101, 99]) = true := by rw [ByteArray.toList_eq]; exact h11
    go_wp2_with fail
    go_ret
    exact ⟨ret_bool' _ _ (by simp only [Tr.accents, List.contains_cons, List.contains_nil, *] <;> rfl), rfl⟩
  | true =>
   have h10s : (s == (⟨#[98, 97, 114]⟩ : ByteArray)) = true := by rw [str_eq']; exact h10
   have h10t : (s != (⟨#[98, 97, 114]⟩ : ByteArray)) = false := by rw [bne, h10s]; rfl
   have h10l : (ByteArray.toList s == [98, 97, 114]) = true := by rw [ByteArray.toList_eq]; exact h10
   go_wp2_with fail
   go_ret
   exact ⟨ret_bool' _ _ (by simp only [Tr.accents, List.contains_cons, List.contains_nil, *] <;> rfl), rfl⟩
 | true =>
  have h9s : (s == (⟨#[104, 97, 116]⟩ : ByteArray)) = true := by rw [str_eq']; exact h9
  have h9t : (s != (⟨#[104, 97, 116]⟩ : ByteArray)) = false := by rw [bne, h9s]; rfl
  have h9l : (ByteArray.toList s == [104, 97, 116]) = true := by rw [ByteArray.toList_eq]; exact h9
  go_wp2_with fail
  go_ret
  exact ⟨ret_bool' _ _ (by simp only [Tr.accents, List.contains_cons, List.contains_nil, *] <;> rfl), rfl⟩
set_option maxHeartbeats 400000 in
theorem keyword_any (s : ByteArray) (w : World) :
  Calls Tryz.prog 158 #[.string s] w fun e w' => e = .returned (.bool (Tr.keywords.contains s.data.toList)) ∧ w' = w := by
 go_enter Tryz.func158, Tryz.ntmps158
 cases h15 : (s.data.toList == ([102, 114, 97, 99] : List UInt8)) with
 | false =>
  have h15s : (s == (⟨#[102, 114, 97, 99]⟩ : ByteArray)) = false := by rw [str_eq']; exact h15
  have h15t : (s != (⟨#[102, 114, 97, 99]⟩ : ByteArray)) = true := by rw [bne, h15s]; rfl
  have h15l : (ByteArray.toList s == [102, 114, 97, 99]) = false := by rw [ByteArray.toList_eq]; exact h15
  cases h16 : (s.data.toList == ([114, 111, 111, 116] : List UInt8)) with
  | false =>
   have h16s : (s == (⟨#[114, 111, 111, 116]⟩ : ByteArray)) = false := by rw [str_eq']; exact h16
   have h16t : (s != (⟨#[114, 111, 111, 116]⟩ : ByteArray)) = true := by rw [bne, h16s]; rfl
   have h16l : (ByteArray.toList s == [114, 111, 111, 116]) = false := by rw [ByteArray.toList_eq]; exact h16
   cases h17 : (s.data.toList == ([109, 97, 116, 114, 105, 120] : List UInt8)) with
   | false =>
    have h17s : (s == (⟨#[109, 97, 116, 114, 105, 120]⟩ : ByteArray)) = false := by rw [str_eq']; exact h17
    have h17t : (s != (⟨#[109, 97, 116, 114, 105, 120]⟩ : ByteArray)) = true := by rw [bne, h17s]; rfl
    have h17l : (ByteArray.toList s == [109, 97, 116, 114, 105, 120]) = false := by rw [ByteArray.toList_eq]; exact h17
    cases h18 : (s.data.toList == ([102, 101, 110, 99, 101] : List UInt8)) with
    | false =>
     have h18s : (s == (⟨#[102, 101, 110, 99, 101]⟩ : ByteArray)) = false := by rw [str_eq']; exact h18
     have h18t : (s != (⟨#[102, 101, 110, 99, 101]⟩ : ByteArray)) = true := by rw [bne, h18s]; rfl
     have h18l : (ByteArray.toList s == [102, 101, 110, 99, 101]) = false := by rw [ByteArray.toList_eq]; exact h18
     go_wp2_with fail
     go_ret
     exact ⟨ret_bool' _ _ (by simp only [Tr.keywords, List.contains_cons, List.contains_nil, *] <;> rfl), rfl⟩
    | true =>
     have h18s : (s == (⟨#[102, 101, 110, 99, 101]⟩ : ByteArray)) = true := by rw [str_eq']; exact h18
     have h18t : (s != (⟨#[102, 101, 110, 99, 101]⟩ : ByteArray)) = false := by rw [bne, h18s]; rfl
     have h18l : (ByteArray.toList s == [102, 101, 110, 99, 101]) = true := by rw [ByteArray.toList_eq]; exact h18
     go_wp2_with fail
     go_ret
     exact ⟨ret_bool' _ _ (by simp only [Tr.keywords, List.contains_cons, List.contains_nil, *] <;> rfl), rfl⟩
   | true =>
    have h17s : (s == (⟨#[109, 97, 116, 114, 105, 120]⟩ : ByteArray)) = true := by rw [str_eq']; exact h17
    have h17t : (s != (⟨#[109, 97, 116, 114, 105, 120]⟩ : ByteArray)) = false := by rw [bne, h17s]; rfl
    have h17l : (ByteArray.toList s == [109, 97, 116, 114, 105, 120]) = true := by rw [ByteArray.toList_eq]; exact h17
    go_wp2_with fail
    go_ret
    exact ⟨ret_bool' _ _ (by simp only [Tr.keywords, List.contains_cons, List.contains_nil, *] <;> rfl), rfl⟩
  | true =>
   have h16s : (s == (⟨#[114, 111, 111, 116]⟩ : ByteArray)) = true := by rw [str_eq']; exact h16
   have h16t : (s != (⟨#[114, 111, 111, 116]⟩ : ByteArray)) = false := by rw [bne, h16s]; rfl
   have h16l : (ByteArray.toList s == [114, 111, 111, 116]) = true := by rw [ByteArray.toList_eq]; exact h16
   go_wp2_with fail
   go_ret
   exact ⟨ret_bool' _ _ (by simp only [Tr.keywords, List.contains_cons, List.contains_nil, *] <;> rfl), rfl⟩
 | true =>
  have h15s : (s == (⟨#[102, 114, 97, 99]⟩ : ByteArray)) = true := by rw [str_eq']; exact h15
  have h15t : (s != (⟨#[102, 114, 97, 99]⟩ : ByteArray)) = false := by rw [bne, h15s]; rfl
  have h15l : (ByteArray.toList s == [102, 114, 97, 99]) = true := by rw [ByteArray.toList_eq]; exact h15
  go_wp2_with fail
  go_ret
  exact ⟨ret_bool' _ _ (by simp only [Tr.keywords, List.contains_cons, List.contains_nil, *] <;> rfl), rfl⟩
set_option maxHeartbeats 400000 in
theorem empty_any (s : ByteArray) (w : World) :
  Calls Tryz.prog 114 #[.string s] w fun e w' => e = .returned (.bool (s.data.toList.isEmpty)) ∧ w' = w := by
 go_enter Tryz.func114, Tryz.ntmps114
 cases h19 : (s.data.toList == ([] : List UInt8)) with
 | false =>
  have h19s : (s == (⟨#[]⟩ : ByteArray)) = false := by rw [str_eq']; exact h19
  have h19t : (s != (⟨#[]⟩ : ByteArray)) = true := by rw [bne, h19s]; rfl
  have h19e : (ByteArray.toList s).isEmpty = false := by rw [isEmpty_str]; exact h19
  go_wp2_with fail
  go_ret
  exact ⟨ret_bool' _ _ (by cases hs : s.data.toList <;> simp_all), rfl⟩
 | true =>
  have h19s : (s == (⟨#[]⟩ : ByteArray)) = true := by rw [str_eq']; exact h19
  have h19t : (s != (⟨#[]⟩ : ByteArray)) = false := by rw [bne, h19s]; rfl
  have h19e : (ByteArray.toList s).isEmpty = true := by rw [isEmpty_str]; exact h19
  go_wp2_with fail
  go_ret
  exact ⟨ret_bool' _ _ (by cases hs : s.data.toList <;> simp_all), rfl⟩
end Go.Proofs.YtdacpbdamliafaaGreat

/- The walks of node's Symbol, fence and Number. -/
namespace Go.Proofs.YtdacpbdamliafaaGreat
open Go.RowKit
theorem idx_contains (l : List UInt8) (c : UInt8) : decide ((0 : Int) ≤ Lib.indexByte l c) = l.contains c := by
 induction l with
 | nil => rfl
 | cons b l ih =>
  rw [Lib.indexByte, List.contains_cons]
  cases h : b == c with
  | true =>
   have : b = c := by simpa using h
   subst this
   simp
  | false =>
   have h2 : (c == b) = false := by
    rw [beq_eq_false_iff_ne] at h ⊢; exact fun e => h e.symm
   rw [h2, Bool.false_or, ← ih]
   have hlo : -1 ≤ Lib.indexByte l c := by
    clear ih
    induction l with
    | nil => show (-1 : Int) ≤ -1; decide
    | cons b l ih => rw [Lib.indexByte]; split <;> (try split) <;> omega
   cases h3 : Lib.indexByte l c == -1 with
   | true =>
    have : Lib.indexByte l c = -1 := by simpa using h3
    rw [this]; rfl
   | false =>
    have : Lib.indexByte l c ≠ -1 := by simpa using h3
    simp only [Bool.false_eq_true, if_false]
    rw [Bool.eq_iff_iff, decide_eq_true_iff, decide_eq_true_iff]; omega
theorem str_one (s : ByteArray) (h : s.size = 1) : ∃ c, s = ⟨#[c]⟩ := by
 obtain ⟨⟨l⟩⟩ := s
 match l, h with
 | [c], _ => exact ⟨c, rfl⟩
theorem str_two (s : ByteArray) (h : s.size = 2) : ∃ a b, s = ⟨#[a, b]⟩ := by
 obtain ⟨⟨l⟩⟩ := s
 match l, h with
 | [a, b], _ => exact ⟨a, b, rfl⟩
theorem contains_one (l : List UInt8) (c : UInt8) (w : World) :
  Calls Tryz.prog 157 #[.string ⟨l.toArray⟩, .string ⟨#[c]⟩] w fun e w' => e = .returned (.bool (l.contains c)) ∧ w' = w := by
 have := Tryz.strings_Contains_one ⟨l.toArray⟩ c w
 rw [← idx_contains]; exact this
theorem indexByte_byte (l : List UInt8) (c : UInt8) (w : World) :
  Calls Tryz.prog 161 #[.string ⟨l.toArray⟩, .int .u8 (c.toNat : Int)] w fun e w' => e = .returned (.int .i64 (Lib.indexByte l c)) ∧ w' = w := by
 have := Tryz.strings_IndexByte ⟨l.toArray⟩ (c.toNat : Int) w
 simpa using this
theorem signs_perm (c : UInt8) : Tr.signs.contains c = ([43, 45, 42, 47, 61, 60, 62, 44, 59, 58, 33, 124, 39, 63, 126, 64] : List UInt8).contains c := rfl
theorem delims_256 : ∀ n : Fin 256, Tr.delims.contains (UInt8.ofNat n.1) = ([40, 41, 91, 93, 123, 125, 60, 62, 47, 124, 46] : List UInt8).contains (UInt8.ofNat n.1) := by decide +kernel
theorem delims_perm (c : UInt8) : Tr.delims.contains c = ([40, 41, 91, 93, 123, 125, 60, 62, 47, 124, 46] : List UInt8).contains c := by
 have := delims_256 ⟨c.toNat, c.toNat_lt⟩
 simpa using this
theorem symbol_any (s : ByteArray) (w : World) (hm : s.size ≤ 9223372036854775807) :
  Calls Tryz.prog 115 #[.string s] w fun e w' => e = .returned (.bool (Tr.symbol s.data.toList)) ∧ w' = w := by
 by_cases h1 : s.size = 1
 ·obtain ⟨c, rfl⟩ := str_one s h1
  clear h1 hm
  have hsz : (ByteArray.size ⟨#[c]⟩ : Int) = 1 := rfl
  have hsp : Tr.symbol (ByteArray.data ⟨#[c]⟩).toList = (([c] : List UInt8).all Tr.letter || ([43, 45, 42, 47, 61, 60, 62, 44, 59, 58, 33, 124, 39, 63, 126, 64] : List UInt8).contains c) := by
   show (Tr.letter c || Tr.signs.contains c) = ((Tr.letter c && true) || _)
   rw [Bool.and_true, signs_perm]
  have HSP := hid hsp
  clear hsp
  go_enter Tryz.func115, Tryz.ntmps115
  go_wp2_with fail
  refine Calls.mono (letters_any (⟨#[c]⟩ : ByteArray) _ (by first | assumption | exact (show 1 ≤ 9223372036854775807 by decide))) ?_
  rintro _ _ ⟨rfl, rfl⟩
  cases h1 : (([c] : List UInt8).all Tr.letter) with
  | false =>
   go_wp2_with fail
   refine Calls.mono (contains_one ([43, 45, 42, 47, 61, 60, 62, 44, 59, 58, 33, 124, 39, 63, 126, 64] : List UInt8) c _) ?_
   rintro _ _ ⟨rfl, rfl⟩
   cases h2 : (([43, 45, 42, 47, 61, 60, 62, 44, 59, 58, 33, 124, 39, 63, 126, 64] : List UInt8).contains c) with
   | false =>
    go_wp2_with fail
    go_ret
    exact ⟨ret_bool' _ _ (by rw [HSP.out] <;> (simp only [*] <;> rfl)), rfl⟩
   | true =>
    go_wp2_with fail
    go_ret
    exact ⟨ret_bool' _ _ (by rw [HSP.out] <;> (simp only [*] <;> rfl)), rfl⟩
  | true =>
   go_wp2_with fail
   go_ret
   exact ⟨ret_bool' _ _ (by rw [HSP.out] <;> (simp only [*] <;> rfl)), rfl⟩
 ·have h1' : ((s.size : Int) == (1 : Int)) = false := by rw [beq_eq_false_iff_ne]; omega
  have hsp : Tr.symbol s.data.toList = (decide ((2 : Int) ≤ (s.size : Int)) && (decide ((s.size : Int) ≤ (16 : Int)) && (s.data.toList.all Tr.letter && ((!Tr.keywords.contains s.data.toList) && !Tr.accents.contains s.data.toList)))) := by
   have hl : s.data.toList.length = s.size := by simp
   have e1 : decide ((2 : Int) ≤ (s.size : Int)) = decide (2 ≤ s.data.toList.length) := by rw [hl, Bool.eq_iff_iff, decide_eq_true_iff, decide_eq_true_iff]; omega
   have e2 : decide ((s.size : Int) ≤ (16 : Int)) = decide (s.data.toList.length ≤ 16) := by rw [hl, Bool.eq_iff_iff, decide_eq_true_iff, decide_eq_true_iff]; omega
   rw [e1, e2]
   rw [← hl] at h1
   generalize s.data.toList = l at *
   match l, h1 with
   | [], _ => rfl
   | [c], h1 => exact absurd rfl h1
   | a :: b :: l, _ =>
    show ((a :: b :: l).all Tr.letter && decide (2 ≤ (a :: b :: l).length) && decide ((a :: b :: l).length ≤ 16) && !Tr.keywords.contains (a :: b :: l) && !Tr.accents.contains (a :: b :: l)) = _
    generalize (a :: b :: l).all Tr.letter = x1
    generalize decide (2 ≤ (a :: b :: l).length) = x2
    generalize decide ((a :: b :: l).length ≤ 16) = x3
    generalize Tr.keywords.contains (a :: b :: l) = x4
    generalize Tr.accents.contains (a :: b :: l) = x5
    cases x1 <;> cases x2 <;> cases x3 <;> cases x4 <;> cases x5 <;> rfl
  have HSP := hid hsp
  clear hsp h1
  go_enter Tryz.func115, Tryz.ntmps115
  cases h3 : decide ((2 : Int) ≤ (s.size : Int)) with
  | false =>
   have h3n : decide (2 ≤ s.size) = false := by have hx := h3; simp only [decide_eq_false_iff_not] at hx ⊢; omega
   go_wp2_with fail
   go_ret
   exact ⟨ret_bool' _ _ (by rw [HSP.out] <;> (simp only [*] <;> rfl)), rfl⟩
  | true =>
   have h3n : decide (2 ≤ s.size) = true := by have hx := h3; simp only [decide_eq_true_eq] at hx ⊢; omega
   cases h4 : decide ((s.size : Int) ≤ (16 : Int)) with
   | false =>
    go_wp2_with fail
    go_ret
    exact ⟨ret_bool' _ _ (by rw [HSP.out] <;> (simp only [*] <;> rfl)), rfl⟩
   | true =>
    go_wp2_with fail
    refine Calls.mono (letters_any s _ (by first | assumption | exact (show 1 ≤ 9223372036854775807 by decide))) ?_
    rintro _ _ ⟨rfl, rfl⟩
    cases h5 : (s.data.toList.all Tr.letter) with
    | false =>
     go_wp2_with fail
     go_ret
     exact ⟨ret_bool' _ _ (by rw [HSP.out] <;> (simp only [*] <;> rfl)), rfl⟩
    | true =>
     go_wp2_with fail
     refine Calls.mono (keyword_any s _) ?_
     rintro _ _ ⟨rfl, rfl⟩
     cases h6 : (Tr.keywords.contains s.data.toList) with
     | false =>
      go_wp2_with fail
      refine Calls.mono (accent_any s _) ?_
      rintro _ _ ⟨rfl, rfl⟩
      cases h7 : (Tr.accents.contains s.data.toList) with
      | false =>
       go_wp2_with fail
       go_ret
       exact ⟨ret_bool' _ _ (by rw [HSP.out] <;> (simp only [*] <;> rfl)), rfl⟩
      | true =>
       go_wp2_with fail
       go_ret
       exact ⟨ret_bool' _ _ (by rw [HSP.out] <;> (simp only [*] <;> rfl)), rfl⟩
     | true =>
      go_wp2_with fail
      go_ret
      exact ⟨ret_bool' _ _ (by rw [HSP.out] <;> (simp only [*] <;> rfl)), rfl⟩
theorem fence_any (s : ByteArray) (w : World) :
  Calls Tryz.prog 119 #[.string s] w fun e w' => e = .returned (.bool (Tr.fence s.data.toList)) ∧ w' = w := by
 by_cases h1 : s.size = 2
 ·obtain ⟨a, b, rfl⟩ := str_two s h1
  clear h1
  have hsz : (ByteArray.size ⟨#[a, b]⟩ : Int) = 2 := rfl
  have hsp : Tr.fence (ByteArray.data ⟨#[a, b]⟩).toList = (decide ((0 : Int) ≤ (Lib.indexByte ([40, 41, 91, 93, 123, 125, 60, 62, 47, 124, 46] : List UInt8) a)) && decide ((0 : Int) ≤ (Lib.indexByte ([40, 41, 91, 93, 123, 125, 60, 62, 47, 124, 46] : List UInt8) b))) := by
   rw [idx_contains, idx_contains, ← delims_perm, ← delims_perm]
   first | done | rfl
  have HSP := hid hsp
  clear hsp
  go_enter Tryz.func119, Tryz.ntmps119
  go_wp2_with fail
  refine Calls.mono (indexByte_byte ([40, 41, 91, 93, 123, 125, 60, 62, 47, 124, 46] : List UInt8) a _) ?_
  rintro _ _ ⟨rfl, rfl⟩
  cases h8 : decide ((0 : Int) ≤ (Lib.indexByte ([40, 41, 91, 93, 123, 125, 60, 62, 47, 124, 46] : List UInt8) a)) with
  | false =>
   go_wp2_with fail
   go_ret
   exact ⟨ret_bool' _ _ (by rw [HSP.out] <;> (simp only [*] <;> rfl)), rfl⟩
  | true =>
   go_wp2_with fail
   refine Calls.mono (indexByte_byte ([40, 41, 91, 93, 123, 125, 60, 62, 47, 124, 46] : List UInt8) b _) ?_
   rintro _ _ ⟨rfl, rfl⟩
   cases h9 : decide ((0 : Int) ≤ (Lib.indexByte ([40, 41, 91, 93, 123, 125, 60, 62, 47, 124, 46] : List UInt8) b)) with
   | false =>
    go_wp2_with fail
    go_ret
    exact ⟨ret_bool' _ _ (by rw [HSP.out] <;> (simp only [*] <;> rfl)), rfl⟩
   | true =>
    go_wp2_with fail
    go_ret
    exact ⟨ret_bool' _ _ (by rw [HSP.out] <;> (simp only [*] <;> rfl)), rfl⟩
 ·have h1' : ((s.size : Int) == (2 : Int)) = false := by rw [beq_eq_false_iff_ne]; omega
  have hsp : Tr.fence s.data.toList = false := by
   have hl : s.data.toList.length = s.size := by simp
   rw [← hl] at h1
   generalize s.data.toList = l at *
   match l, h1 with
   | [], _ => rfl
   | [_], _ => rfl
   | [_, _], h1 => exact absurd rfl h1
   | _ :: _ :: _ :: _, _ => rfl
  have HSP := hid hsp
  clear hsp h1
  go_enter Tryz.func119, Tryz.ntmps119
  go_wp2_with fail
  go_ret
  exact ⟨ret_bool' _ _ (by rw [HSP.out] <;> (simp only [*] <;> rfl)), rfl⟩
def cutP (l : List UInt8) : List UInt8 × List UInt8 × Bool :=
 if (0 : Int) ≤ Lib.indexByte l 46 then (l.take (Lib.indexByte l 46).toNat, l.drop ((Lib.indexByte l 46).toNat + 1), true) else (l, [], false)
theorem idx_lt (l : List UInt8) (c : UInt8) : Lib.indexByte l c < l.length := by
 induction l with
 | nil => show (-1 : Int) < 0; decide
 | cons b l ih =>
  rw [Lib.indexByte, List.length_cons]
  split
  ·omega
  ·split <;> omega
theorem str_ext (s : ByteArray) (l : List UInt8) (h : s.data.toList = l) : s = ⟨l.toArray⟩ := by
 apply ByteArray.ext
 apply Array.toList_inj.1
 rw [h]
theorem extract_take (s : ByteArray) (k : Nat) : s.extract 0 k = ⟨(s.data.toList.take k).toArray⟩ := by
 apply str_ext
 rw [Lib.extract_data]
 simp
theorem extract_drop (s : ByteArray) (k : Nat) : s.extract k s.size = ⟨(s.data.toList.drop k).toArray⟩ := by
 apply str_ext
 rw [Lib.extract_to_end]
theorem ret_t3 (a b a' b' : ByteArray) (c c' : Bool) (h1 : a = a') (h2 : b = b') (h3 : c = c') : Ending.returned (.tuple #[.string a, .string b, .bool c]) = .returned (.tuple #[.string a', .string b', .bool c']) := by rw [h1, h2, h3]
set_option maxHeartbeats 400000 in
theorem cut_point (s : ByteArray) (w : World) (hm : s.size ≤ 9223372036854775807) :
  Calls Tryz.prog 184 #[.string s, .string ⟨#[46]⟩] w fun e w' => e = .returned (.tuple #[.string ⟨(cutP s.data.toList).1.toArray⟩, .string ⟨(cutP s.data.toList).2.1.toArray⟩, .bool (cutP s.data.toList).2.2]) ∧ ∃ n, w' = w.drewN n := by
 have hl : s.data.toList.length = s.size := by simp
 have hlt := idx_lt s.data.toList 46
 have hc := hid (show cutP s.data.toList = _ from rfl)
 have HIX := hid (Tryz.stringslite_Index_one s 46)
 rw [hl] at hlt
 clear hl
 unfold cutP at hc ⊢
 generalize hix : Lib.indexByte s.data.toList 46 = i at *
 clear hix
 by_cases h0 : 0 ≤ i
 ·have d0 : decide ((0 : Int) ≤ i) = true := by simp; omega
  obtain ⟨k, rfl⟩ : ∃ k : Nat, i = k := ⟨i.toNat, by omega⟩
  clear h0 hc
  go_enter Tryz.func184, Tryz.ntmps184
  go_wp2_with fail
  refine (HIX.out _).mono ?_
  rintro _ _ ⟨rfl, rfl⟩
  have d1 : (k : Int) ≤ (s.size : Int) := by omega
  have d2 : (k : Int) + 1 ≤ (s.size : Int) := by omega
  have d3 : k ≤ s.size := by omega
  have d4 : k + 1 ≤ s.size := by omega
  go_wp2_with fail
  go_quiet (fail)
  go_wp2_with fail
  go_ret3
  refine ⟨ret_t3 _ _ _ _ _ _ ?_ ?_ ?_, _, rfl⟩
  ·exact extract_take s k
  ·exact extract_drop s (k + 1)
  ·rfl
 ·have d0 : decide ((0 : Int) ≤ i) = false := by simp; omega
  rw [if_neg h0]
  go_enter Tryz.func184, Tryz.ntmps184
  go_wp2_with fail
  refine (HIX.out _).mono ?_
  rintro _ _ ⟨rfl, rfl⟩
  clear hc h0
  go_wp2_with fail
  go_ret3
  refine ⟨?_, 0, rfl⟩
  first | rfl | exact ret_t3 _ _ _ _ _ _ rfl rfl rfl
theorem cut_any (s : ByteArray) (w : World) (hm : s.size ≤ 9223372036854775807) :
  Calls Tryz.prog 159 #[.string s, .string ⟨#[46]⟩] w fun e w' => e = .returned (.tuple #[.string ⟨(cutP s.data.toList).1.toArray⟩, .string ⟨(cutP s.data.toList).2.1.toArray⟩, .bool (cutP s.data.toList).2.2]) ∧ Fresh w w' := by
 go_enter Tryz.func159, Tryz.ntmps159
 go_wp2_with fail
 refine (cut_point s _ hm).mono ?_
 rintro _ _ ⟨rfl, n, rfl⟩
 go_wp2_with fail
 go_ret3
 exact ⟨rfl, (Touch.refl _ _).drewN _⟩
def digitsNE (l : List UInt8) : Bool := l.all Tr.digit && !(l == [])
theorem digits_ne (l : List UInt8) (w : World) (hm : ByteArray.size ⟨l.toArray⟩ ≤ 9223372036854775807) :
  Calls Tryz.prog 160 #[.string ⟨l.toArray⟩] w fun e w' => e = .returned (.bool (digitsNE l)) ∧ w' = w := digits_any ⟨l.toArray⟩ w hm
theorem cutP_nil : cutP [] = ([], [], false) := rfl
theorem cutP_cons (b : UInt8) (l : List UInt8) : cutP (b :: l) = if b = 46 then ([], l, true) else (b :: (cutP l).1, (cutP l).2.1, (cutP l).2.2) := by
 unfold cutP
 rw [Lib.indexByte]
 by_cases h : b = 46
 ·subst h; simp
 ·have h' : (b == 46) = false := by simpa using h
  rw [h', if_neg h]
  simp only [Bool.false_eq_true, if_false]
  have hlo : -1 ≤ Lib.indexByte l 46 := by
   induction l with
   | nil => show (-1 : Int) ≤ -1; decide
   | cons b l ih => rw [Lib.indexByte]; split <;> (try split) <;> omega
  by_cases h2 : Lib.indexByte l 46 = -1
  ·rw [h2]; simp
  ·have h3 : (Lib.indexByte l 46 == -1) = false := by simpa using h2
   rw [h3]
   simp only [Bool.false_eq_true, if_false]
   rw [if_pos (by omega), if_pos (by omega)]
   have e : (Lib.indexByte l 46 + 1).toNat = (Lib.indexByte l 46).toNat + 1 := by omega
   rw [e]
   simp
theorem digit_ne_point (b : UInt8) (h : Tr.digit b = true) : b ≠ 46 := by rintro rfl; revert h; decide
theorem cut_span (l : List UInt8) : (l.takeWhile (· ≠ 46) = (cutP l).1 ∧ l.dropWhile (· ≠ 46) = if (cutP l).2.2 then 46 :: (cutP l).2.1 else []) ∧ ((cutP l).2.2 = false → (cutP l).1 = l ∧ (cutP l).2.1 = []) := by
 induction l with
 | nil => exact ⟨⟨rfl, rfl⟩, fun _ => ⟨rfl, rfl⟩⟩
 | cons b l ih =>
  rw [cutP_cons]
  obtain ⟨h1, h2⟩ := ih
  by_cases h : b = 46
  ·subst h
   rw [if_pos rfl]
   exact ⟨⟨rfl, rfl⟩, fun h => by cases h⟩
  ·rw [if_neg h]
   refine ⟨⟨?_, ?_⟩, fun hx => ?_⟩
   ·rw [List.takeWhile_cons, if_pos (by simpa using h), h1.1]
   ·rw [List.dropWhile_cons, if_pos (by simpa using h), h1.2]
   ·obtain ⟨e1, e2⟩ := h2 hx
    exact ⟨by rw [e1], e2⟩
theorem isNum_cut (l : List UInt8) : Tr.isNum l = (decide (l.length ≤ 20) && (digitsNE (cutP l).1 && (!(cutP l).2.2 || digitsNE (cutP l).2.1))) := by
 obtain ⟨h1, h2⟩ := cut_span l
 unfold Tr.isNum
 rw [h1.1, h1.2]
 have hall : (cutP l).2.2 = true → l.all Tr.digit = false := by
  clear h1 h2
  induction l with
  | nil => intro h; cases h
  | cons b l ih =>
   rw [cutP_cons]
   by_cases h : b = 46
   ·subst h; intro _; rfl
   ·rw [if_neg h]
    intro hx
    rw [List.all_cons, ih hx, Bool.and_false]
 have hne : (cutP l).2.2 = true → l ≠ [] := by rintro h rfl; cases h
 cases hc : (cutP l).2.2 with
 | false =>
  obtain ⟨e1, e2⟩ := h2 hc
  rw [e1]
  unfold digitsNE
  cases l with
  | nil => rfl
  | cons b l => simp
 | true =>
  rw [hall hc]
  unfold digitsNE
  generalize (cutP l).1 = a
  generalize (cutP l).2.1 = b
  have := hne hc
  cases a <;> cases b <;> simp [this, Bool.and_assoc]
theorem cutP_len (l : List UInt8) : (cutP l).1.length ≤ l.length ∧ (cutP l).2.1.length ≤ l.length := by
 unfold cutP
 split
 ·simp only [List.length_take, List.length_drop]; omega
 ·simp
set_option maxHeartbeats 400000 in
theorem numText_any (s : ByteArray) (w : World) (hm : s.size ≤ 9223372036854775807) :
  Calls Tryz.prog 116 #[.string s] w fun e w' => e = .returned (.bool (Tr.isNum s.data.toList)) ∧ Fresh w w' := by
 have hl : s.data.toList.length = s.size := by simp
 have hcl := cutP_len s.data.toList
 rw [hl] at hcl
 have hm1 : ByteArray.size ⟨(cutP s.data.toList).2.1.toArray⟩ ≤ 9223372036854775807 := by show (cutP s.data.toList).2.1.toArray.size ≤ _; simp; omega
 have hm2 : ByteArray.size ⟨(cutP s.data.toList).1.toArray⟩ ≤ 9223372036854775807 := by show (cutP s.data.toList).1.toArray.size ≤ _; simp; omega
 have hsp : Tr.isNum s.data.toList = (decide ((s.size : Int) ≤ (20 : Int)) && (digitsNE (cutP s.data.toList).1 && (!(cutP s.data.toList).2.2 || digitsNE (cutP s.data.toList).2.1))) := by
  rw [isNum_cut, hl]; congr 1; rw [Bool.eq_iff_iff, decide_eq_true_iff, decide_eq_true_iff]; omega
 have HSP := hid hsp
 clear hsp hl hcl
 go_enter Tryz.func116, Tryz.ntmps116
 go_wp2_with fail
 refine Calls.mono (cut_any s _ hm) ?_
 rintro _ w8 ⟨rfl, hfw8⟩
 have HF8 := hid (show Fresh w w8 from preA hfw8)
 clear hfw8
 cases h10 : decide ((s.size : Int) ≤ (20 : Int)) with
 | false =>
  go_wp2_with fail
  go_ret
  exact ⟨ret_bool' _ _ (by rw [HSP.out] <;> (simp only [*] <;> rfl)), (frA HF8.out)⟩
 | true =>
  go_wp2_with fail
  refine Calls.mono (digits_ne (cutP s.data.toList).1 _ hm2) ?_
  rintro _ _ ⟨rfl, rfl⟩
  cases h11 : (digitsNE (cutP s.data.toList).1) with
  | false =>
   go_wp2_with fail
   go_ret
   exact ⟨ret_bool' _ _ (by rw [HSP.out] <;> (simp only [*] <;> rfl)), (frA HF8.out)⟩
  | true =>
   cases h12 : (cutP s.data.toList).2.2 with
   | false =>
    go_wp2_with fail
    go_ret
    exact ⟨ret_bool' _ _ (by rw [HSP.out] <;> (simp only [*] <;> rfl)), (frA HF8.out)⟩
   | true =>
    go_wp2_with fail
    refine Calls.mono (digits_ne (cutP s.data.toList).2.1 _ hm1) ?_
    rintro _ _ ⟨rfl, rfl⟩
    cases h13 : (digitsNE (cutP s.data.toList).2.1) with
    | false =>
     go_wp2_with fail
     go_ret
     exact ⟨ret_bool' _ _ (by rw [HSP.out] <;> (simp only [*] <;> rfl)), (frA HF8.out)⟩
    | true =>
     go_wp2_with fail
     go_ret
     exact ⟨ret_bool' _ _ (by rw [HSP.out] <;> (simp only [*] <;> rfl)), (frA HF8.out)⟩
end Go.Proofs.YtdacpbdamliafaaGreat

/- The walk of node's kinds. -/
namespace Go.Proofs.YtdacpbdamliafaaGreat
open Go.RowKit
attribute [local go_sem] Oper.semAt_some
def kindV1 : Value := .agg #[.string ⟨#[114, 111, 119]⟩, .int .i64 0, .func (.func 114) #[] #[]]
theorem built_kind1 : Tryz.prog.built 134 [(0, .string ⟨#[114, 111, 119]⟩), (1, .int .i64 0), (2, .func (.func 114) #[] #[])] = some #[.string ⟨#[114, 111, 119]⟩, .int .i64 0, .func (.func 114) #[] #[]] := by kernel_rfl
def kindV2 : Value := .agg #[.string ⟨#[115, 121, 109]⟩, .int .i64 0, .func (.func 115) #[] #[]]
theorem built_kind2 : Tryz.prog.built 134 [(0, .string ⟨#[115, 121, 109]⟩), (1, .int .i64 0), (2, .func (.func 115) #[] #[])] = some #[.string ⟨#[115, 121, 109]⟩, .int .i64 0, .func (.func 115) #[] #[]] := by kernel_rfl
def kindV3 : Value := .agg #[.string ⟨#[110, 117, 109]⟩, .int .i64 0, .func (.func 116) #[] #[]]
theorem built_kind3 : Tryz.prog.built 134 [(0, .string ⟨#[110, 117, 109]⟩), (1, .int .i64 0), (2, .func (.func 116) #[] #[])] = some #[.string ⟨#[110, 117, 109]⟩, .int .i64 0, .func (.func 116) #[] #[]] := by kernel_rfl
def kindV4 : Value := .agg #[.string ⟨#[116, 101, 120, 116]⟩, .int .i64 0, .func (.func 117) #[] #[]]
theorem built_kind4 : Tryz.prog.built 134 [(0, .string ⟨#[116, 101, 120, 116]⟩), (1, .int .i64 0), (2, .func (.func 117) #[] #[])] = some #[.string ⟨#[116, 101, 120, 116]⟩, .int .i64 0, .func (.func 117) #[] #[]] := by kernel_rfl
def kindV5 : Value := .agg #[.string ⟨#[102, 114, 97, 99]⟩, .int .i64 2, .func (.func 114) #[] #[]]
theorem built_kind5 : Tryz.prog.built 134 [(0, .string ⟨#[102, 114, 97, 99]⟩), (1, .int .i64 2), (2, .func (.func 114) #[] #[])] = some #[.string ⟨#[102, 114, 97, 99]⟩, .int .i64 2, .func (.func 114) #[] #[]] := by kernel_rfl
def kindV6 : Value := .agg #[.string ⟨#[114, 111, 111, 116]⟩, .int .i64 2, .func (.func 114) #[] #[]]
theorem built_kind6 : Tryz.prog.built 134 [(0, .string ⟨#[114, 111, 111, 116]⟩), (1, .int .i64 2), (2, .func (.func 114) #[] #[])] = some #[.string ⟨#[114, 111, 111, 116]⟩, .int .i64 2, .func (.func 114) #[] #[]] := by kernel_rfl
def kindV7 : Value := .agg #[.string ⟨#[115, 117, 98]⟩, .int .i64 2, .func (.func 114) #[] #[]]
theorem built_kind7 : Tryz.prog.built 134 [(0, .string ⟨#[115, 117, 98]⟩), (1, .int .i64 2), (2, .func (.func 114) #[] #[])] = some #[.string ⟨#[115, 117, 98]⟩, .int .i64 2, .func (.func 114) #[] #[]] := by kernel_rfl
def kindV8 : Value := .agg #[.string ⟨#[115, 117, 112]⟩, .int .i64 2, .func (.func 114) #[] #[]]
theorem built_kind8 : Tryz.prog.built 134 [(0, .string ⟨#[115, 117, 112]⟩), (1, .int .i64 2), (2, .func (.func 114) #[] #[])] = some #[.string ⟨#[115, 117, 112]⟩, .int .i64 2, .func (.func 114) #[] #[]] := by kernel_rfl
def kindV9 : Value := .agg #[.string ⟨#[98, 111, 116, 104]⟩, .int .i64 3, .func (.func 114) #[] #[]]
theorem built_kind9 : Tryz.prog.built 134 [(0, .string ⟨#[98, 111, 116, 104]⟩), (1, .int .i64 3), (2, .func (.func 114) #[] #[])] = some #[.string ⟨#[98, 111, 116, 104]⟩, .int .i64 3, .func (.func 114) #[] #[]] := by kernel_rfl
def kindV10 : Value := .agg #[.string ⟨#[97, 99, 99, 101, 110, 116]⟩, .int .i64 1, .func (.func 118) #[] #[]]
theorem built_kind10 : Tryz.prog.built 134 [(0, .string ⟨#[97, 99, 99, 101, 110, 116]⟩), (1, .int .i64 1), (2, .func (.func 118) #[] #[])] = some #[.string ⟨#[97, 99, 99, 101, 110, 116]⟩, .int .i64 1, .func (.func 118) #[] #[]] := by kernel_rfl
def kindV11 : Value := .agg #[.string ⟨#[102, 101, 110, 99, 101]⟩, .int .i64 1, .func (.func 119) #[] #[]]
theorem built_kind11 : Tryz.prog.built 134 [(0, .string ⟨#[102, 101, 110, 99, 101]⟩), (1, .int .i64 1), (2, .func (.func 119) #[] #[])] = some #[.string ⟨#[102, 101, 110, 99, 101]⟩, .int .i64 1, .func (.func 119) #[] #[]] := by kernel_rfl
def kindV12 : Value := .agg #[.string ⟨#[109, 97, 116, 114, 105, 120]⟩, .int .i64 0, .func (.func 114) #[] #[]]
theorem built_kind12 : Tryz.prog.built 134 [(0, .string ⟨#[109, 97, 116, 114, 105, 120]⟩), (1, .int .i64 0), (2, .func (.func 114) #[] #[])] = some #[.string ⟨#[109, 97, 116, 114, 105, 120]⟩, .int .i64 0, .func (.func 114) #[] #[]] := by kernel_rfl
def kindCells : Array Value := #[.string ⟨#[]⟩, .int .i64 0, .nilFunc, .string ⟨#[114, 111, 119]⟩, .int .i64 0, .func (.func 114) #[] #[], .string ⟨#[115, 121, 109]⟩, .int .i64 0, .func (.func 115) #[] #[], .string ⟨#[110, 117, 109]⟩, .int .i64 0, .func (.func 116) #[] #[], .string ⟨#[116, 101, 120, 116]⟩, .int .i64 0, .func (.func 117) #[] #[], .string ⟨#[102, 114, 97, 99]⟩, .int .i64 2, .func (.func 114) #[] #[], .string ⟨#[114, 111, 111, 116]⟩, .int .i64 2, .func (.func 114) #[] #[], .string ⟨#[115, 117, 98]⟩, .int .i64 2, .func (.func 114) #[] #[], .string ⟨#[115, 117, 112]⟩, .int .i64 2, .func (.func 114) #[] #[], .string ⟨#[98, 111, 116, 104]⟩, .int .i64 3, .func (.func 114) #[] #[], .string ⟨#[97, 99, 99, 101, 110, 116]⟩, .int .i64 1, .func (.func 118) #[] #[], .string ⟨#[102, 101, 110, 99, 101]⟩, .int .i64 1, .func (.func 119) #[] #[], .string ⟨#[109, 97, 116, 114, 105, 120]⟩, .int .i64 0, .func (.func 114) #[] #[]]
def zeroKinds : Array Value := #[.string ⟨#[]⟩, .int .i64 0, .nilFunc, .string ⟨#[]⟩, .int .i64 0, .nilFunc, .string ⟨#[]⟩, .int .i64 0, .nilFunc, .string ⟨#[]⟩, .int .i64 0, .nilFunc, .string ⟨#[]⟩, .int .i64 0, .nilFunc, .string ⟨#[]⟩, .int .i64 0, .nilFunc, .string ⟨#[]⟩, .int .i64 0, .nilFunc, .string ⟨#[]⟩, .int .i64 0, .nilFunc, .string ⟨#[]⟩, .int .i64 0, .nilFunc, .string ⟨#[]⟩, .int .i64 0, .nilFunc, .string ⟨#[]⟩, .int .i64 0, .nilFunc, .string ⟨#[]⟩, .int .i64 0, .nilFunc, .string ⟨#[]⟩, .int .i64 0, .nilFunc]
theorem zeroKinds_run (w : World) : (zeroValue 135).run Tryz.prog w = .ok (.agg zeroKinds) w := by kernel_rfl
theorem built_kinds : Tryz.prog.built 135 [(1, kindV1), (2, kindV2), (3, kindV3), (4, kindV4), (5, kindV5), (6, kindV6), (7, kindV7), (8, kindV8), (9, kindV9), (10, kindV10), (11, kindV11), (12, kindV12)] = some kindCells := by kernel_rfl
theorem infoKinds : (Tryz.prog.info? 135).map (·.size) = some 39 := by kernel_rfl
theorem kindCells_one : kindCells.all (·.oneCell') = true := by kernel_rfl
theorem wpList_build_kind {t : TypeId} {cs : Array Value} {ops : Array Oper} {rest : List Oper} {o : Oper} {a : Act} {w : World} {Q : Exit → Act → World → Prop} (vs : List (Nat × Value)) (hb : Tryz.prog.built t vs = some cs) (xs : Array (Nat × Operand)) (hg : o.guard = none) (ho : o.op = .build t xs)
  (hx : (xs.map fun p => (p.1, a.eval p.2)) = vs.toArray) (v : Value) (hv : v = .agg cs) (h : wpList Tryz.prog ops Q rest (a.put o.dst v) w) : wpList Tryz.prog ops Q (o :: rest) a w := by
 subst hv
 refine wpList_plain hg fun K hK => ?_
 unfold Oper.wp execOp
 simp only [ho, Sem.run_bind, hx]
 rw [run_build w t vs.toArray _ hb]
 simp only [Result.andThen_ok]
 exact hK _ _ h
set_option maxRecDepth 100000 in
set_option maxHeartbeats 1000000 in
theorem kinds_any (w : World) :
  Calls Tryz.prog 84 #[] w fun e w' => e = .returned (.agg kindCells) ∧ Fresh w w' := by
 have hz := zeroKinds_run
 go_enter Tryz.func84, Tryz.ntmps84
 go_wp2_with (first
  | (refine wpList_build_kind _ built_kind1 _ rfl rfl rfl kindV1 rfl ?_)
  | (refine wpList_build_kind _ built_kind2 _ rfl rfl rfl kindV2 rfl ?_)
  | (refine wpList_build_kind _ built_kind3 _ rfl rfl rfl kindV3 rfl ?_)
  | (refine wpList_build_kind _ built_kind4 _ rfl rfl rfl kindV4 rfl ?_)
  | (refine wpList_build_kind _ built_kind5 _ rfl rfl rfl kindV5 rfl ?_)
  | (refine wpList_build_kind _ built_kind6 _ rfl rfl rfl kindV6 rfl ?_)
  | (refine wpList_build_kind _ built_kind7 _ rfl rfl rfl kindV7 rfl ?_)
  | (refine wpList_build_kind _ built_kind8 _ rfl rfl rfl kindV8 rfl ?_)
  | (refine wpList_build_kind _ built_kind9 _ rfl rfl rfl kindV9 rfl ?_)
  | (refine wpList_build_kind _ built_kind10 _ rfl rfl rfl kindV10 rfl ?_)
  | (refine wpList_build_kind _ built_kind11 _ rfl rfl rfl kindV11 rfl ?_)
  | (refine wpList_build_kind _ built_kind12 _ rfl rfl rfl kindV12 rfl ?_)
  | (refine wpList_build_kind _ built_kinds _ rfl rfl rfl (.agg kindCells) rfl ?_)
  | (refine wpList_store_row rfl 135 _ _ rfl w.heap.size kindCells rfl rfl 135 zeroKinds (Blk.new _ _ _) infoKinds rfl kindCells_one ?_))
 refine bodyPost_ret (results_cell_row (fn := Tryz.f84) (p := 0) rfl _ _ w.heap.size 135 kindCells (0, 0) _ rfl (setRow_heap _ _ _ _ _ _ (Blk.new _ _ _)) Tryz.underlying135 rfl infoKinds) rfl ?_
 exact ⟨rfl, ((Touch.refl _ w).alloc _).setRow (.inr (Nat.le_refl _)) _⟩
end Go.Proofs.YtdacpbdamliafaaGreat

/- The walk of printer.visitors. -/
namespace Go.Proofs.YtdacpbdamliafaaGreat
open Go.RowKit
attribute [local go_sem] Oper.semAt_some
def visitCells : Array Value := #[.nilFunc, .nilFunc, .func (.func 125) #[] #[], .func (.func 126) #[] #[], .func (.func 127) #[] #[], .func (.func 128) #[] #[], .func (.func 129) #[] #[], .func (.func 130) #[] #[], .func (.func 130) #[] #[], .func (.func 130) #[] #[], .func (.func 131) #[] #[], .func (.func 132) #[] #[], .func (.func 133) #[] #[]]
def zeroVisits : Array Value := #[.nilFunc, .nilFunc, .nilFunc, .nilFunc, .nilFunc, .nilFunc, .nilFunc, .nilFunc, .nilFunc, .nilFunc, .nilFunc, .nilFunc, .nilFunc]
theorem zeroVisits_run (w : World) : (zeroValue 145).run Tryz.prog w = .ok (.agg zeroVisits) w := by kernel_rfl
theorem built_visits : Tryz.prog.built 145 [(2, .func (.func 125) #[] #[]), (3, .func (.func 126) #[] #[]), (4, .func (.func 127) #[] #[]), (5, .func (.func 128) #[] #[]), (6, .func (.func 129) #[] #[]), (7, .func (.func 130) #[] #[]), (8, .func (.func 130) #[] #[]), (9, .func (.func 130) #[] #[]), (10, .func (.func 131) #[] #[]), (11, .func (.func 132) #[] #[]), (12, .func (.func 133) #[] #[])] = some visitCells := by kernel_rfl
theorem infoVisits : (Tryz.prog.info? 145).map (·.size) = some 13 := by kernel_rfl
theorem visitCells_one : visitCells.all (·.oneCell') = true := by kernel_rfl
set_option maxRecDepth 100000 in
set_option maxHeartbeats 1000000 in
theorem visitors_any (w : World) :
  Calls Tryz.prog 96 #[] w fun e w' => e = .returned (.agg visitCells) ∧ Fresh w w' := by
 have hz := zeroVisits_run
 go_enter Tryz.func96, Tryz.ntmps96
 go_wp2_with (first
  | (refine wpList_build_kind _ built_visits _ rfl rfl rfl (.agg visitCells) rfl ?_)
  | (refine wpList_store_row rfl 145 _ _ rfl w.heap.size visitCells rfl rfl 145 zeroVisits (Blk.new _ _ _) infoVisits rfl visitCells_one ?_))
 refine bodyPost_ret (results_cell_row (fn := Tryz.f96) (p := 0) rfl _ _ w.heap.size 145 visitCells (0, 0) _ rfl (setRow_heap _ _ _ _ _ _ (Blk.new _ _ _)) Tryz.underlying145 rfl infoVisits) rfl ?_
 exact ⟨rfl, ((Touch.refl _ w).alloc _).setRow (.inr (Nat.le_refl _)) _⟩
end Go.Proofs.YtdacpbdamliafaaGreat
