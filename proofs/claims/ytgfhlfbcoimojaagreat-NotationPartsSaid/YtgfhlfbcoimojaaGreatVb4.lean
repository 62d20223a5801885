/- Part 4 of 45 of a proof; its texts, joined: NpS. No condition. -/
import Derived.Test.YtgfhlfbcoimojaaGreatVb3

/- The parser sees no places: tokens alike are read alike, with the same error. -/
namespace Go.Proofs.YtgfhlfbcoimojaaGreat.Np
open Lx (PTok)
open Tr (Nd)
def Al (l l' : List PTok) : Prop := l.map Lx.tok = l'.map Lx.tok
def Sim {α : Type} (x y : R α) : Prop :=
 match x, y with
 | .ok a r, .ok a' r' => a = a' ∧ Al r r'
 | .err _ e, .err _ e' => e = e'
 | .out, .out => True
 | _, _ => False
theorem Sim.bind {α β : Type} {x y : R α} {k k' : α → List PTok → R β} (h : Sim x y) (hk : ∀ a r r', Al r r' → Sim (k a r) (k' a r')) : Sim (x.bind k) (y.bind k') := by
 cases x <;> cases y <;> first | exact h.elim | skip
 ·obtain ⟨rfl, hr⟩ := h
  exact hk _ _ _ hr
 ·exact h
 ·trivial
theorem Sim.map {α β : Type} {x y : R α} {k : α → β} (h : Sim x y) : Sim (x.map k) (y.map k) := h.bind fun _ _ _ hr => ⟨rfl, hr⟩
theorem Sim.refuse {α : Type} (en en' : Nat) (l l' : List PTok) : Sim (refuse en l : R α) (refuse en' l') := rfl
theorem Al.nil {l' : List PTok} (h : Al [] l') : l' = [] := by
 cases l' with
 | nil => rfl
 | cons t r => cases h
theorem Al.cons {t : PTok} {r l' : List PTok} (h : Al (t :: r) l') : ∃ t' r', l' = t' :: r' ∧ t.kind = t'.kind ∧ t.text = t'.text ∧ Al r r' := by
 cases l' with
 | nil => cases h
 | cons t' r' =>
  have h1 := List.cons.inj (show Lx.tok t :: r.map Lx.tok = Lx.tok t' :: r'.map Lx.tok from h)
  exact ⟨t', r', rfl, congrArg Lx.Tok.kind h1.1, congrArg Lx.Tok.text h1.1, h1.2⟩
theorem Al.tail {l l' : List PTok} (h : Al l l') : Al l.tail l'.tail := by
 cases l with
 | nil => rw [h.nil]; rfl
 | cons t r => obtain ⟨t', r', rfl, _, _, h⟩ := h.cons; exact h
theorem Al.isM {l l' : List PTok} (h : Al l l') (b : UInt8) : isM b l = isM b l' := by
 cases l with
 | nil => rw [h.nil]
 | cons t r => obtain ⟨t', r', rfl, h1, h2, h⟩ := h.cons; simp only [Np.isM, h1, h2]
theorem Al.isBreak {l l' : List PTok} (h : Al l l') : isBreak l = isBreak l' := by
 cases l with
 | nil => rw [h.nil]
 | cons t r => obtain ⟨t', r', rfl, h1, h2, h⟩ := h.cons; simp only [Np.isBreak, h1]
theorem Al.isEmpty {l l' : List PTok} (h : Al l l') : l.isEmpty = l'.isEmpty := by
 cases l with
 | nil => rw [h.nil]
 | cons t r => obtain ⟨t', r', rfl, h1, h2, h⟩ := h.cons; rfl
theorem Al.stops {l l' : List PTok} (h : Al l l') : stops l = stops l' := by
 unfold Np.stops
 rw [h.isBreak, h.isM, h.isM, h.isM, h.isM]
theorem leafOf_al {t t' : PTok} (h1 : t.kind = t'.kind) (h2 : t.text = t'.text) : leafOf t = leafOf t' := by
 unfold leafOf
 rw [h1, h2]
theorem Sim.scripts (g : Bool) (en en' : Nat) (b : List Nd) (x y : Option Nd) {l l' : List PTok} (h : Al l l') : Sim (scripts g en b x y l) (scripts g en' b x y l') := by
 unfold Np.scripts
 split
 ·exact ⟨rfl, h⟩
 ·exact ⟨rfl, h⟩
 ·exact ⟨rfl, h⟩
 ·split
  ·rfl
  ·exact ⟨rfl, h⟩
theorem Sim.plainName {t t' : PTok} {r r' : List PTok} (h2 : t.text = t'.text) (h : Al r r') : Sim (plainName t r) (plainName t' r') := by
 unfold Np.plainName
 rw [h2]
 split
 ·rfl
 ·exact ⟨rfl, h⟩
structure Alike (en en' f : Nat) : Prop where
 row : ∀ op op' l l', Al l l' → (op = [] ↔ op' = []) → Sim (pRow en f op l) (pRow en' f op' l')
 within : ∀ b op op' l l', Al l l' → Sim (pIn en f b op l) (pIn en' f b op' l')
 arg : ∀ op op' l l', Al l l' → Sim (pArg en f op l) (pArg en' f op' l')
 args : ∀ n op op' l l', Al l l' → Sim (pArgs en f n op l) (pArgs en' f n op' l')
 script : ∀ b op op' l l', Al l l' → Sim (pScript en f b op l) (pScript en' f b op' l')
 item : ∀ op op' l l', Al l l' → Sim (pItem en f op l) (pItem en' f op' l')
 prim : ∀ op op' l l', Al l l' → Sim (pPrim en f op l) (pPrim en' f op' l')
 name : ∀ op op' t t' r r', t.text = t'.text → Al r r' → Sim (pName en f op t r) (pName en' f op' t' r')
 cells : ∀ op op' ks b c l l', Al l l' → (op = [] ↔ op' = []) → Sim (pCells en f op ks b c l) (pCells en' f op' ks b c l')
theorem alike (en en' : Nat) : ∀ f, Alike en en' f
 | 0 => by constructor <;> (intros; trivial)
 | f + 1 => by
  have ih := alike en en' f
  constructor
  ·intro op op' l l' h ho
   rw [pRow, pRow, h.isEmpty, h.stops]
   have hc : (l'.isEmpty = true ∧ op ≠ []) ↔ (l'.isEmpty = true ∧ op' ≠ []) := by rw [ne_eq, ne_eq, ho]
   by_cases c1 : l'.isEmpty = true ∧ op' ≠ []
   ·rw [if_pos c1, if_pos (hc.2 c1)]; rfl
   ·rw [if_neg c1, if_neg (fun x => c1 (hc.1 x))]
    split
    ·exact ⟨rfl, h⟩
    ·exact (ih.item op op' l l' h).bind fun a r r' hr => (ih.row op op' r r' hr ho).map
  ·intro b op op' l l' h
   rw [pIn, pIn]
   refine (ih.row _ _ _ _ h.tail (by simp)).bind fun a r r' hr => ?_
   rw [hr.isM]
   split
   ·exact ⟨rfl, hr.tail⟩
   ·rfl
  ·intro op op' l l' h
   cases l with
   | nil => rw [h.nil, pArg, pArg]; rfl
   | cons t r =>
    obtain ⟨t', r', rfl, h1, h2, hr⟩ := h.cons
    rw [pArg, pArg, leafOf_al h1 h2, h.isM, h1, h2]
    split
    ·exact ⟨rfl, hr⟩
    ·split
     ·exact (ih.within 125 op op' _ _ h).map
     ·split
      ·exact (Sim.plainName h2 hr).map
      ·rfl
  ·intro n op op' l l' h
   cases n with
   | zero => rw [pArgs, pArgs]; exact ⟨rfl, h⟩
   | succ n =>
    rw [pArgs, pArgs]
    exact (ih.arg op op' l l' h).bind fun a r r' hr => (ih.args n op op' r r' hr).map
  ·intro b op op' l l' h
   rw [pScript, pScript, h.isM]
   split
   ·exact (ih.arg op op' _ _ h.tail).map
   ·exact ⟨rfl, h⟩
  ·intro op op' l l' h
   rw [pItem, pItem, h.isM]
   refine (ih.prim op op' l l' h).bind fun a r r' hr => (ih.script 95 op op' r r' hr).bind fun sub r r' hr => (ih.script 94 op op' r r' hr).bind fun sup r r' hr => ?_
   split
   ·exact (ih.script 95 op op' r r' hr).bind fun sub r r' hr => Sim.scripts _ _ _ _ _ _ hr
   ·exact Sim.scripts _ _ _ _ _ _ hr
  ·intro op op' l l' h
   cases l with
   | nil => rw [h.nil, pPrim, pPrim]; rfl
   | cons t r =>
    obtain ⟨t', r', rfl, h1, h2, hr⟩ := h.cons
    rw [pPrim, pPrim, leafOf_al h1 h2, h.isM, h.isM, h.isM, h1, h2]
    split
    ·exact ⟨rfl, hr⟩
    ·split
     ·exact ih.name op op' t t' r r' h2 hr
     ·split
      ·exact (ih.args 1 op op' r r' hr).map
      ·split
       ·exact (ih.within 41 op op' _ _ h).map
       ·split
        ·exact (ih.within 93 op op' _ _ h).map
        ·split
         ·exact ih.within 125 op op' _ _ h
         ·rfl
  ·intro op op' t t' r r' h2 h
   rw [pName, pName, h2, h.isM, h.isM]
   split
   ·exact (ih.args 2 op op' r r' h).map
   ·split
    ·split
     ·exact (ih.within 93 op op' r r' h).bind fun d r r' hr => (ih.args 1 op op' r r' hr).map
     ·exact (ih.args 1 op op' r r' h).map
    ·split
     ·split
      ·exact (ih.cells _ _ _ _ _ _ _ h.tail (by simp)).map
      ·rfl
     ·split
      ·exact (ih.args 1 op op' r r' h).map
      ·exact Sim.plainName h2 h
  ·intro op op' ks b c l l' h ho
   rw [pCells, pCells]
   refine (ih.row op op' l l' h ho).bind fun items r r' hr => ?_
   rw [hr.isM, hr.isM, hr.isBreak]
   split
   ·exact ih.cells _ _ _ _ _ _ _ hr.tail ho
   ·split
    ·rfl
    ·split
     ·rfl
     ·split
      ·exact ⟨rfl, hr.tail⟩
      ·exact ih.cells _ _ _ _ _ _ _ hr.tail ho
theorem parseT_alike (en en' : Nat) (l l' : List PTok) (h : Al l l') : Sim (parseT en l) (parseT en' l') := by
 have hl : l.length = l'.length := by
  have := congrArg List.length h
  simpa using this
 unfold parseT
 rw [hl]
 refine ((alike en en' _).row [] [] l l' h Iff.rfl).bind fun a r r' hr => ?_
 rw [hr.isEmpty]
 split
 ·exact ⟨rfl, hr⟩
 ·rfl
end Go.Proofs.YtgfhlfbcoimojaaGreat.Np
