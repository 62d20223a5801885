/- Part 30 of 42 of a proof; its texts, joined: NmF, NmP, NyO. No condition. -/
import Derived.Test.YtomibmenojdieaaGreatXx18
import Derived.Test.YtomibmenojdieaaGreatXx29
set_option maxRecDepth 100000
set_option maxHeartbeats 2000000
namespace Go.Proofs.YtomibmenojdieaaGreat.Mcr
open Lx (PTok)
open Tr (Nd)
open Np (isM isBreak)
def Fine {α : Type} (x : R α) (n : Nat) : Prop :=
 match x with
 | .ok _ r => r.l.length < n
 | .err _ _ => True
 | .out => False
theorem Fine.bind {α β : Type} {x : R α} {k : α → St → R β} {n m : Nat} (h : Fine x n) (hk : ∀ a r, r.l.length < n → Fine (k a r) m) : Fine (x.bind k) m := by
 cases x with
 | ok a r => exact hk a r h
 | err i e => trivial
 | out => exact h.elim
theorem Fine.map {α β : Type} {x : R α} {k : α → β} {n m : Nat} (h : Fine x n) (hm : n ≤ m) : Fine (x.map k) m := h.bind fun _ _ hr => Nat.lt_of_lt_of_le hr hm
theorem Fine.mono {α : Type} {x : R α} {n m : Nat} (h : Fine x n) (hm : n ≤ m) : Fine x m := by
 cases x with
 | ok a r => exact Nat.lt_of_lt_of_le h hm
 | err i e => trivial
 | out => exact h.elim
theorem Fine.refuse {α : Type} (E : En) (s : St) (n : Nat) : Fine (refuse E s : R α) n := trivial
theorem isM_pos {b : UInt8} {l : List PTok} (h : isM b l = true) : l.tail.length < l.length := by
 cases l with
 | nil => cases h
 | cons t r => simp
theorem Fine.scripts (g : Bool) (E : En) (b : List Nd) (x y : Option Nd) (s : St) (n : Nat) (h : s.l.length < n) : Fine (scripts g E b x y s) n := by
 unfold Mcr.scripts;split
 ·exact h
 ·exact h
 ·exact h
 ·split
  ·trivial
  ·exact h
theorem Fine.plainName (t : PTok) (r : St) (n : Nat) (h : r.l.length < n) : Fine (plainName t r) n := by
 unfold Mcr.plainName;split
 ·trivial
 ·exact h
theorem Fine.expandS (E : En) (t : PTok) (n0 : Nat) (b0 z : Bool) (as_ : List Nd) (s : St) (n : Nat) (h : s.l.length < n) : Fine (expandS E t n0 b0 z as_ s) n := by
 unfold Mcr.expandS;split
 ·trivial
 ·split
  ·trivial
  ·split
   ·exact h
   ·exact h
structure Good (E : En) (f : Nat) : Prop where
 row : ∀ op s, 8 * s.l.length + 5 ≤ f → Fine (pRow E f op s) (s.l.length + 1)
 within : ∀ b op s, s.l.tail.length < s.l.length → 8 * s.l.length + 2 ≤ f → Fine (pIn E f b op s) s.l.length
 arg : ∀ op s, 8 * s.l.length + 3 ≤ f → Fine (pArg E f op s) s.l.length
 args : ∀ n op s, 8 * s.l.length + 4 + n ≤ f → Fine (pArgs E f n op s) (s.l.length + 1)
 fill : ∀ n op z as_ s, 8 * s.l.length + 4 ≤ f → Fine (pFill E f n op z as_ s) (s.l.length + 1)
 mac : ∀ n op t s, 8 * s.l.length + 5 ≤ f → Fine (pMac E f n op t s) (s.l.length + 1)
 script : ∀ b op s, 8 * s.l.length + 4 ≤ f → Fine (pScript E f b op s) (s.l.length + 1)
 item : ∀ op s, 8 * s.l.length + 4 ≤ f → Fine (pItem E f op s) s.l.length
 prim : ∀ op s, 8 * s.l.length + 3 ≤ f → Fine (pPrim E f op s) s.l.length
 name : ∀ op t s, 8 * s.l.length + 7 ≤ f → Fine (pName E f op t s) (s.l.length + 1)
 cells : ∀ op ks b c s, 8 * s.l.length + 6 ≤ f → Fine (pCells E f op ks b c s) (s.l.length + 1)
theorem good (E : En) : ∀ f, Good E f
 | 0 => by constructor <;> (intros; exfalso; omega)
 | f + 1 => by
  have ih := good E f;constructor
  ·intro op s h
   rw [pRow];split
   ·trivial
   ·split
    ·exact Nat.lt_succ_self _
    ·exact (ih.item op s (by omega)).bind fun a r hr => (ih.row op r (by omega)).map (by omega)
  ·intro b op s hl h
   rw [pIn];have e : s.up.l = s.l.tail := rfl;refine (ih.row _ s.up (by rw [e]; omega)).bind fun a r hr => ?_
   rw [e] at hr;split
   ·show r.l.tail.length < s.l.length
    rw [List.length_tail];omega
   ·trivial
  ·intro op s h
   rw [pArg.eq_def];obtain ⟨l, n, b⟩ := s;cases l with
   | nil => trivial
   | cons t r =>
    simp only at h ⊢;have hl : (t :: r).length = r.length + 1 := rfl;split
    ·show r.length < _; omega
    ·split
     ·exact (ih.within 125 op ⟨t :: r, n, b⟩ (by simp) (by show 8 * (t :: r).length + 2 ≤ f; omega)).map (Nat.le_refl _)
     ·split
      ·split
       ·split
        ·trivial
        ·exact (ih.mac 0 op t ⟨r, n, b⟩ (by show 8 * r.length + 5 ≤ f; omega)).map (Nat.le_refl _)
       ·exact (Fine.plainName t ⟨r, n, b⟩ (t :: r).length (by show r.length < _; omega)).map (Nat.le_refl _)
      ·trivial
  ·intro n op s h
   cases n with
   | zero => rw [pArgs]; exact Nat.lt_succ_self _
   | succ n =>
    rw [pArgs];exact (ih.arg op s (by omega)).bind fun a r hr => (ih.args n op r (by omega)).map (by omega)
  ·intro n op z as_ s h
   cases n with
   | zero => rw [pFill]; exact Nat.lt_succ_self _
   | succ n =>
    rw [pFill];exact (ih.arg op ⟨s.l, 0, false⟩ (by show 8 * s.l.length + 3 ≤ f; omega)).bind fun a r hr => (ih.fill n op _ _ r (by have hr' : r.l.length < s.l.length := hr; omega)).mono (by have hr' : r.l.length < s.l.length := hr; omega)
  ·intro n op t s h
   rw [pMac];exact (ih.fill n op true [] s (by omega)).bind fun p r hr => Fine.expandS _ _ _ _ _ _ _ _ hr
  ·intro b op s h
   rw [pScript];split
   ·rename_i hm
    have := isM_pos hm;have e : s.up.l = s.l.tail := rfl;exact (ih.arg op s.up (by rw [e]; omega)).map (by rw [e]; omega)
   ·exact Nat.lt_succ_self _
  ·intro op s h
   rw [pItem];refine (ih.prim op s (by omega)).bind fun a r hr => (ih.script 95 op r (by omega)).bind fun sub r hr => (ih.script 94 op r (by omega)).bind fun sup r hr => ?_
   split
   ·exact (ih.script 95 op r (by omega)).bind fun sub r hr => Fine.scripts _ _ _ _ _ _ _ (by omega)
   ·exact Fine.scripts _ _ _ _ _ _ _ (by omega)
  ·intro op s h
   rw [pPrim.eq_def];obtain ⟨l, n, b⟩ := s;cases l with
   | nil => trivial
   | cons t r =>
    simp only at h ⊢;have hl : (t :: r).length = r.length + 1 := rfl;have ht : (St.mk (t :: r) n b).l.tail.length < (St.mk (t :: r) n b).l.length := by simp
    have hs : 8 * (St.mk (t :: r) n b).l.length + 2 ≤ f := by show 8 * (t :: r).length + 2 ≤ f; omega
    have hu : 8 * (St.mk (t :: r) n b).up.l.length + 7 ≤ f := by show 8 * r.length + 7 ≤ f; omega
    split
    ·show r.length < _; omega
    ·split
     ·exact (ih.name op t (St.mk (t :: r) n b).up hu).mono (by show r.length + 1 ≤ _; omega)
     ·split
      ·exact (ih.args 1 op (St.mk (t :: r) n b).up (by omega)).map (by show r.length + 1 ≤ _; omega)
      ·split
       ·exact (ih.within 41 op _ ht hs).map (Nat.le_refl _)
       ·split
        ·exact (ih.within 93 op _ ht hs).map (Nat.le_refl _)
        ·split
         ·exact ih.within 125 op _ ht hs
         ·trivial
  ·intro op t s h
   rw [pName];split
   ·exact (ih.args 2 op s (by omega)).map (Nat.le_refl _)
   ·split
    ·split
     ·rename_i hm
      exact (ih.within 93 op s (isM_pos hm) (by omega)).bind fun d r' hr => (ih.args 1 op r' (by omega)).map (by omega)
     ·exact (ih.args 1 op s (by omega)).map (Nat.le_refl _)
    ·split
     ·split
      ·rename_i hm
       have := isM_pos hm;have e : s.up.l = s.l.tail := rfl;exact (ih.cells _ _ _ _ s.up (by rw [e]; omega)).map (by rw [e]; omega)
      ·trivial
     ·split
      ·exact (ih.args 1 op s (by omega)).map (Nat.le_refl _)
      ·split
       ·exact ih.mac _ op t s (by omega)
       ·exact Fine.plainName _ _ _ (Nat.lt_succ_self _)
  ·intro op ks b c s h
   rw [pCells];refine (ih.row op s (by omega)).bind fun items r hr => ?_
   have e : r.up.l = r.l.tail := rfl;have ht : r.l.tail.length ≤ r.l.length := by rw [List.length_tail]; omega
   split
   ·rename_i hm
    have := isM_pos hm;exact (ih.cells _ _ _ _ r.up (by rw [e]; omega)).mono (by rw [e]; omega)
   ·split
    ·trivial
    ·split
     ·trivial
     ·split
      ·show r.l.tail.length < _; omega
      ·rename_i hb
       have : r.l.tail.length < r.l.length := by
        cases hc : r.l with
        | nil => rw [hc] at hb; exact absurd rfl hb
        | cons x y => simp
       exact (ih.cells _ _ _ _ r.up (by rw [e]; omega)).mono (by rw [e]; omega)
theorem parseT_ends (E : En) (l : List PTok) : parseT E l ≠ .out := by
 have h := (good E (8 * l.length + 8)).row [] ⟨l, 0, false⟩ (by show 8 * l.length + 5 ≤ _; omega);unfold parseT;cases hx : pRow E (8 * l.length + 8) [] ⟨l, 0, false⟩ with
 | ok a r =>
  show (if r.l.isEmpty then R.ok (a, !r.b) r else refuse E r) ≠ _;split <;> (intro h; cases h)
 | err i e => intro h; cases h
 | out => rw [hx] at h; exact h.elim
end Go.Proofs.YtomibmenojdieaaGreat.Mcr
namespace Go.Proofs.YtomibmenojdieaaGreat.Mcr
open Tr (Nd)
open Np (isM isBreak slot)
mutual
theorem plainR_cnt (P : Int) : ∀ (n : Nd) (d m : Nat) (z : Bool), (plainR P d n (m, z)).2.2 = true → z = true ∧ (plainR P d n (m, z)).2.1 = m + Tr.count n ∧ (plainR P d n (m, z)).2.1 ≤ 1000
 | .mk k t c ks, d, m, z, h => by
  rw [plainR] at h ⊢
  by_cases c1 : 1000 < m + 1 ∨ 24 < d
  ·rw [if_pos c1] at h; cases h
  ·rw [if_neg c1] at h ⊢
   simp only at h ⊢;rw [Tr.count];cases hp : placeN (.mk k t c ks) with
   | none =>
    rw [hp] at h;simp only at h ⊢;obtain ⟨h1, h2, h3⟩ := plainL_cnt P ks (d + 1) (m + 1) z h (by omega);exact ⟨h1, by omega, h3⟩
   | some j =>
    rw [hp] at h;simp only at h ⊢;obtain ⟨h1, h2, h3⟩ := plainL_cnt P ks (d + 1) (m + 1) _ h (by omega);rw [Bool.and_eq_true] at h1;exact ⟨h1.1, by omega, h3⟩
theorem plainL_cnt (P : Int) : ∀ (ks : List Nd) (d m : Nat) (z : Bool), (plainL P d ks (m, z)).2.2 = true → m ≤ 1000 → z = true ∧ (plainL P d ks (m, z)).2.1 = m + Tr.countL ks ∧ (plainL P d ks (m, z)).2.1 ≤ 1000
 | [], d, m, z, h, hm => by
  rw [plainL] at h ⊢;exact ⟨h, by simp [Tr.countL], hm⟩
 | x :: xs, d, m, z, h, hm => by
  rw [plainL] at h ⊢
  by_cases c1 : z = false
  ·rw [if_pos c1] at h; rw [c1] at h; cases h
  ·rw [if_neg c1] at h ⊢
   simp only at h ⊢;cases hr : (plainR P d x (m, z)).2 with
   | mk m1 z1 =>
    rw [hr] at h
    have hz1 : z1 = true := by
     cases z1 with
     | true => rfl
     | false =>
      have : plainL P d xs (m1, false) = ([], (m1, false)) := by
       cases xs with
       | nil => rw [plainL]
       | cons y ys => rw [plainL, if_pos rfl]
      rw [this] at h;cases h
    have h1 := plainR_cnt P x d m z (by rw [hr]; exact hz1);rw [hr] at h1;obtain ⟨_, h3, h4⟩ := h1;have h5 := plainL_cnt P xs d m1 z1 h h4;rw [Tr.countL];refine ⟨by simpa using c1, ?_, h5.2.2⟩;have := h5.2.1;have h6 : m1 = m + Tr.count x := h3;omega
end
theorem templ_cnt {n : Nd} {P : Int} (h : templF n P = true) : Tr.count n ≤ 1000 := by
 unfold templF at h;split at h
 ·cases h
 ·rw [Bool.and_eq_true] at h
  obtain ⟨_, h2, h3⟩ := plainR_cnt P n 1 0 true h.1;omega
theorem fillF_ok {t : Nd} {args : List Nd} (h : (fillF t args).2 = 0) : (fillF t args).1 = slot (fillL args t.kids) ∧ templF (slot (fillL args t.kids)) 4 = true ∧ templF t args.length = true ∧ args.all (fun a => templF a 4) = true := by
 unfold fillF at h ⊢;split at h
 ·cases h
 ·rename_i c1
  split at h
  ·cases h
  ·rename_i c2
   split at h
   ·cases h
   ·rename_i c3
    rw [if_neg c1, if_neg c2, if_neg c3];exact ⟨rfl, by simpa using c3, by simpa using c1, by simpa using c2⟩
theorem fillF_cnt {t : Nd} {args : List Nd} (h : (fillF t args).2 = 0) : Tr.count (fillF t args).1 ≤ 1000 := by
 rw [(fillF_ok h).1];exact templ_cnt (fillF_ok h).2.1
theorem expandF_cnt {tb : Table} {s : Bytes} {args : List Nd} (h : (expandF tb s args).2 = 0) : Tr.count (expandF tb s args).1 ≤ 1000 := by
 unfold expandF at h ⊢;split
 ·rename_i hg; rw [hg] at h; cases h
 ·rename_i m hg
  rw [hg] at h;simp only at h;split
  ·rename_i c; rw [if_pos c] at h; cases h
  ·rename_i c; rw [if_neg c] at h; exact fillF_cnt h
def Few (x : R (List Nd)) : Prop := ∀ ks r, x = .ok ks r → ks.length ≤ 1000
theorem Few.map {α : Type} {x : R α} {g : α → List Nd} (hg : ∀ a, (g a).length ≤ 1000) : Few (x.map g) := fun ks r h => by
 cases x with
 | ok a s => cases h; exact hg a
 | err i e => cases h
 | out => cases h
theorem Few.bind {α : Type} {x : R α} {g : α → St → R (List Nd)} (hg : ∀ a s, Few (g a s)) : Few (x.bind g) := fun ks r h => by
 cases x with
 | ok a s => exact hg a s ks r h
 | err i e => cases h
 | out => cases h
theorem Few.err (i e : Nat) : Few (.err i e) := fun ks r h => by cases h
theorem Few.out : Few .out := fun ks r h => by cases h
theorem Few.ok {ks : List Nd} {s : St} (h : ks.length ≤ 1000) : Few (.ok ks s) := fun ms r e => by cases e; exact h
theorem few_expandS (E : En) (t : Lx.PTok) (n0 : Nat) (b0 z : Bool) (as_ : List Nd) (s : St) : Few (expandS E t n0 b0 z as_ s) := by
 unfold expandS;split
 ·exact Few.err _ _
 ·split
  ·exact Few.err _ _
  ·rename_i h
   split
   ·exact Few.ok (by simp)
   ·refine Few.ok ?_
    have h1 := expandF_cnt (tb := E.tb) (s := t.text) (args := as_) (by simpa using h);have h2 := Tr.countL_len (expandF E.tb t.text as_).1.kids;rw [Tr.count_kids] at h1;omega
theorem few_plainName (t : Lx.PTok) (s : St) : Few (plainName t s) := by
 unfold plainName;split
 ·exact Few.err _ _
 ·exact Few.ok (by simp)
theorem few_mac (E : En) (f n : Nat) (op : List Nat) (t : Lx.PTok) (s : St) : Few (pMac E f n op t s) := by
 cases f with
 | zero => rw [pMac]; exact Few.out
 | succ f => rw [pMac]; exact Few.bind fun _ _ => few_expandS _ _ _ _ _ _ _
theorem few_name (E : En) (f : Nat) (op : List Nat) (t : Lx.PTok) (s : St) : Few (pName E f op t s) := by
 cases f with
 | zero => rw [pName]; exact Few.out
 | succ f =>
  rw [pName];split
  ·exact Few.map fun _ => by simp
  ·split
   ·split
    ·exact Few.bind fun _ _ => Few.map fun _ => by simp
    ·exact Few.map fun _ => by simp
   ·split
    ·split
     ·exact Few.map fun _ => by simp
     ·exact Few.err _ _
    ·split
     ·exact Few.map fun _ => by simp
     ·split
      ·exact few_mac _ _ _ _ _ _
      ·exact few_plainName _ _
theorem few_prim (E : En) (f : Nat) (op : List Nat) (s : St) (hg : isM 123 s.l = false) : Few (pPrim E f op s) := by
 cases f with
 | zero => rw [pPrim]; exact Few.out
 | succ f =>
  rw [pPrim.eq_def];obtain ⟨l, n, b⟩ := s;cases l with
  | nil => exact Few.err _ _
  | cons t l =>
   simp only
   split
   ·exact Few.ok (by simp)
   ·split
    ·exact few_name _ _ _ _ _
    ·split
     ·exact Few.map fun _ => by simp
     ·split
      ·exact Few.map fun _ => by simp
      ·split
       ·exact Few.map fun _ => by simp
       ·rw [if_neg (by simp at hg ⊢; exact hg)]
        exact Few.err _ _
theorem few_scripts {g : Bool} {E : En} {base : List Nd} {x y : Option Nd} {s : St} (hb : g = false → base.length ≤ 1000) : Few (scripts g E base x y s) := by
 unfold scripts;split
 ·exact Few.ok (by simp)
 ·exact Few.ok (by simp)
 ·exact Few.ok (by simp)
 ·cases g with
  | true => exact Few.err _ _
  | false => exact Few.ok (hb rfl)
theorem few_item (E : En) (f : Nat) (op : List Nat) (s : St) : Few (pItem E f op s) := by
 cases f with
 | zero => rw [pItem]; exact Few.out
 | succ f =>
  rw [pItem];cases hp : pPrim E f op s with
  | err i e => exact Few.err _ _
  | out => exact Few.out
  | ok base r1 =>
   have hb : isM 123 s.l = false → base.length ≤ 1000 := fun hg => few_prim E f op s hg base r1 hp
   show Few ((pScript E f 95 op r1).bind _);refine Few.bind fun sub r => Few.bind fun sup r => ?_
   split
   ·exact Few.bind fun _ _ => few_scripts hb
   ·exact few_scripts hb
end Go.Proofs.YtomibmenojdieaaGreat.Mcr
namespace Go.Proofs.YtomibmenojdieaaGreat
open Go.RowKit
open Tr (Nd)
open Lx (PTok)
open Mcr (R pRow pIn pScript pItem pPrim pArgs pName pCells pArg)
attribute [local go_sem] stillV stillUpon
def RowSt (c : Cf) (F : Nat) (op : List Nat) (k : Kp) (w : World) (B : Nat) (X : R (List Nd)) (v : Value) (wr : World) (f : Nat) : Prop := ∃ (k1 : Kp) (ks : List Nd) (A : Option Addr) (cp : Nat), v = .slice A ks.length cp ∧ Blk wr w.heap.size 48 #[.int .i64 0, .int .i64 0] ∧ Grow (fun _ => False) wr w.heap.size B ks (.slice A ks.length cp) ∧ Ps c k1 op wr ∧ k.p ≤ k1.p ∧ Mp c.g c.W0.heap.size w wr ∧ B ≤ wr.heap.size ∧
 f ≤ F ∧ ks.length + 1000 * f ≤ 1000 * F ∧ X = (pRow c.E f op (c.at k1)).map fun l => ks ++ l
noncomputable def rowMu (c : Cf) (F : Nat) (op : List Nat) (k : Kp) (w : World) (B : Nat) (X : R (List Nd)) (v : Value) (wr : World) : Nat := least (RowSt c F op k w B X v wr)
theorem row_n (c : Cf) (hc : c.Good) (F : Nat) (hF : F ≤ 1000000) (hitem : ∀ f', f' < F → ItemN c f') : RowN c F := by
 intro k op w h hop hne;obtain ⟨i, hi, hz0, hz1, hz2⟩ := info_parts infoNodeN;have HIT := hid hitem;have HT := hid (fun (k' : Kp) (w' : World) (hp : Ps c k' op w') => tok_any_n c hc k' op w' hp);have HA := hid (fun (b : UInt8) (k' : Kp) (w' : World) (hp : Ps c k' op w') => at_any_n c hc k' op b w' hp);have HKNZ := hid hc.knz;have htl := hc.tl;have H := hid h;have HOP := hid hop;have HFF := hid hF;have hgl : c.g < w.heap.size := h.glt;have HW0 := hid h.low.size;have HNE := hid hne;refine Calls.via fun Q hQ => ?_
 have HQ := hid hQ;clear hne hitem h hop hc hQ hF;generalize hX : pRow c.E F op (c.at k) = X at HNE HQ;have HX := hid hX;clear hX;unfold pp0;go_enter Tryz.func28, Tryz.ntmps28;go_wp2_with fail
 have hf1 : Fresh w (w.alloc (.cells #[.int .i64 0, .int .i64 0] 48)) := (Touch.refl _ _).alloc _;have hbf : Blk (w.alloc (.cells #[.int .i64 0, .int .i64 0] 48)) w.heap.size 48 #[.int .i64 0, .int .i64 0] := Blk.new _ _ _;have hsw1 : (w.alloc (.cells #[.int .i64 0, .int .i64 0] 48)).heap.size = w.heap.size + 1 := by simp
 generalize (w.alloc (.cells #[.int .i64 0, .int .i64 0] 48)) = W1 at hf1 hbf hsw1 ⊢;have HF1 := hid hf1;have HBF1 := hid hbf;have HSZ1 := hid hsw1;clear hf1 hbf hsw1
 go_loopw [4] (fun j wr0 => ∃ (wr : World) (m : Nat), wr = wr0 ∧ Hid (RowSt c F op k w W1.heap.size X j wr m)) (fun j wr => rowMu c F op k w W1.heap.size X j wr)
 case atStart =>
  refine ⟨_, F, rfl, hid ⟨k, [], none, 0, rfl, HBF1.out, Grow.nil _ _ _ _, H.out.fresh HF1.out, Nat.le_refl _, Mp.fresh HF1.out, Nat.le_refl _, Nat.le_refl _, by simp, ?_⟩⟩;rw [← HX.out];cases pRow c.E F op (c.at k) <;> rfl
 case round =>
  obtain ⟨wr, m0, rfl, hst0⟩ := hrel;obtain ⟨k1, ks, A, cp, rfl, hbf, hg, hp, hkk, hm, hsz, hle, hkl, hxx⟩ := least_spec hst0.out;have HBF := hid hbf;have HG := hid hg;have HP := hid hp;have HM := hid hm;have HXX := hid hxx
  obtain ⟨f', hf'⟩ : ∃ f', rowMu c F op k w W1.heap.size X (.slice A ks.length cp) wr = f' + 1 := by
   rcases Nat.eq_zero_or_pos (rowMu c F op k w W1.heap.size X (.slice A ks.length cp) wr) with h0 | h0
   ·exfalso
    have h1 := HXX.out;rw [show least (RowSt c F op k w W1.heap.size X (.slice A ks.length cp) wr) = 0 from h0, pRow] at h1;exact HNE.out h1
   ·exact ⟨rowMu c F op k w W1.heap.size X (.slice A ks.length cp) wr - 1, by omega⟩
  have HXS := hid (show X = (pRow c.E (f' + 1) op (c.at k1)).map fun l => ks ++ l from by rw [← hf']; exact HXX.out);have HF' := hid (show f' + 1 ≤ F ∧ ks.length + 1000 * (f' + 1) ≤ 1000 * F from ⟨by rw [← hf']; exact hle, by rw [← hf']; exact hkl⟩);have HMU := hid hf';have HKK := hid hkk;have HSZ := hid hsz;have hlr : w.heap.size < wr.heap.size := HBF.out.lt;have HGL := hid (show c.g < wr.heap.size from Nat.lt_trans hgl hlr);clear HXX hf' hle hkk hsz hkl hxx hst0 hbf hg hp hm;have HT1 := hid (HT.out k1 wr HP.out);have HA1 := hid (fun (b : UInt8) (w' : World) (hf : Fresh wr w') => HA.out b k1 w' (HP.out.fresh hf));cases hl : (c.at k1).l with
  | nil =>
   rw [hl] at HT1;unfold tokV at HT1
   dsimp only at HT1
   have HL := hid hl;clear hl
   rcases List.eq_nil_or_concat op with hop0 | ⟨op', x, hop0⟩
   ·have HXO := hid (show X = .ok ks (c.at k1) from by
     rw [HXS.out, pRow, HL.out, hop0];simp [Mcr.R.map, Mcr.R.bind])
    obtain ⟨ov, hb, ho⟩ := HP.out.box;obtain ⟨Ao, co, rfl⟩ := own_slc ho;rw [hop0, List.length_nil] at hb;have HB := hid hb;clear hb ho hop0;go_wp2_with fail
    refine HT1.out.mono ?_;rintro _ w1 ⟨rfl, hf⟩;have HFA := hid hf;have HBA := hid (HFA.out.blk HBF.out fun h => h);have hb1 := hf.blk HB.out fun h => h
    have q3 := hb1.cell 3;have hg1 := hb1.lt;obtain ⟨p0, p1, y0, y1, hlt⟩ := Blk.two HBA.out;clear hf hb1;go_wp2_with fail
    have htr := (((HG.out.tree (by have := HSZ1.out; omega)).fresh HFA.out).other HBA.out (by decide) (touch2 w1 w.heap.size (.int .i64 0) (.int .i64 0))).fresh ((Touch.refl _ _).alloc (.cells #[.int .i64 0, .string ⟨#[]⟩, .int .i64 (c.en : Int), .int .i64 (c.en : Int)] 107));have hps := ((HP.out.fresh HFA.out).put2 HBA.out (by decide) (by omega) HW0.out (.int .i64 0) (.int .i64 0)).fresh ((Touch.refl _ _).alloc (.cells #[.int .i64 0, .string ⟨#[]⟩, .int .i64 (c.en : Int), .int .i64 (c.en : Int)] 107));have hm9 : Mp c.g c.W0.heap.size w _ := ((HM.out.fr HFA.out).put2 (g := w.heap.size) (.inr (Nat.le_refl _)) (.int .i64 0) (.int .i64 0)).alloc (.cells #[.int .i64 0, .string ⟨#[]⟩, .int .i64 (c.en : Int), .int .i64 (c.en : Int)] 107);have hb9 := ((HBA.out).self2 (.int .i64 0) (.int .i64 0)).alloc (.cells #[.int .i64 0, .string ⟨#[]⟩, .int .i64 (c.en : Int), .int .i64 (c.en : Int)] 107);obtain ⟨f0, f1, _⟩ := Blk.two hb9;simp only [put2] at htr hps hm9 f0 f1
    (try simp only [Exit.inBlock, Exit.then])
    refine bodyPost_ret (v := .tuple #[.slice A ks.length cp, failV 0 0]) (by simp [failV, results, Tryz.results28, go_sem, f0, f1]) rfl ?_;rw [HXO.out] at HQ;exact HQ.out _ _ ⟨A, cp, k1, rfl, htr, rfl, HKK.out, hps, hm9⟩
   ·rw [List.concat_eq_append] at hop0
    obtain ⟨ov, hb, ho⟩ := HP.out.box
    have HXE := hid (show X = .err x 12 from by
     rw [HXS.out, pRow, HL.out, if_pos ⟨rfl, by rw [hop0]; simp⟩, hop0];simp [Mcr.R.map, Mcr.R.bind])
    obtain ⟨go, co, rfl, hco⟩ : ∃ go cp, ov = .slice (some ⟨go, 0, none⟩) (op'.length + 1) cp ∧ op'.length + 1 ≤ cp := by
     rcases ho.2 with ⟨_, h2⟩ | ⟨g, cap, cur, h1, _, _, h2, _⟩
     ·rw [hop0] at h2; simp at h2
     ·rw [hop0, List.length_append, List.length_singleton] at h1 h2
      exact ⟨_, _, h1, h2⟩
    have hmax : op'.length + 1 ≤ 100000 := by
     have h1 := HOP.out;have h2 := HP.out.le;rw [hop0, List.length_append, List.length_singleton] at h1;have := HKK.out;omega
    have HCX := hid (show wr.cell? ⟨go, op'.length, none⟩ = some (.int .i64 (x : Int)) from by
     have := ho.cells (g := go) rfl op'.length (.int .i64 (x : Int)) (by rw [hop0]; simp)
     rwa [Addr.add_mid, Nat.zero_add] at this)
    have HGO := hid (show go < wr.heap.size from bL HCX.out);have HB := hid hb;have HCO := hid hco;clear hb ho hop0 hco;go_wp2_with fail
    refine HT1.out.mono ?_;rintro _ w1 ⟨rfl, hf⟩;have HFA := hid hf;have hb1 := hf.blk HB.out fun h => h
    have q3 := hb1.cell 3;have hg1 := hb1.lt;have d1 : decide ((op'.length : Int) + 1 > 0) = true := decide_eq_true (by omega);have d2 : (0 : Int) < (op'.length : Int) + 1 := by omega
    clear hf hb1;go_wp2_with fail
    have hfb := HFA.out.alloc (.cells #[.int .i64 0, .string ⟨#[]⟩, .int .i64 (c.en : Int), .int .i64 (c.en : Int)] 107);generalize (w1.alloc (.cells #[.int .i64 0, .string ⟨#[]⟩, .int .i64 (c.en : Int), .int .i64 (c.en : Int)] 107)) = w2 at hfb ⊢;clear q3 hg1 d1 d2;have r3 := cR (((hfb.blk HB.out fun h => h).cell 3).trans rfl);have rx := cR (hfb.cell HCX.out fun h => h);have hg2 : c.g < w2.heap.size := Nat.lt_of_lt_of_le HGL.out hfb.size;have hgo : go < w2.heap.size := Nat.lt_of_lt_of_le HGO.out hfb.size;have e1 : ((op'.length : Int) + 1) - 1 = (op'.length : Int) := by omega
    have e2 : IntKind.i64.wrap ((op'.length : Int)) = (op'.length : Int) := IntWalk.i64_in _ (by omega);have e3 : (op'.length : Int) < (op'.length : Int) + 1 := by omega
    have e4 : (0 : Int) ≤ (op'.length : Int) := by omega
    have HBA := hid (hfb.blk HBF.out fun h => h);have HMA := hid (HM.out.fr hfb);clear hfb;refine wp_region_mix [([(0, true), (1, true), (2, true), (3, true), (4, true), (5, true), (6, true), (7, true), (8, true), (9, true), (10, true), (11, true), (12, true), (13, true)], 14)] [] (by kernel_rfl) (fun _ _ d _ _ h => by cases d <;> exact h) (by kernel_rfl) ?_;refine wpMix_seg ?_
    repeat (refine wpSeq_plain rfl (fun K hK => ?_); go_simp; refine hK _ ?_; clear hK K)
    clear r3 rx e1 e2 e3 e4 hgo hg2;obtain ⟨p0, p1, y0, y1, hlt⟩ := Blk.two (HBA.out.drewN 1);refine wpSeq_shut rfl (fun K hK => ?_);go_wp2_with fail
    refine wpMix_end ?_;go_wp2_with fail
    have hb5 := ((HBA.out.drewN 1).self2 (.int .i64 (x : Int)) (.int .i64 12));have hm5 : Mp c.g c.W0.heap.size w _ := (HMA.out.drewN 1).put2 (g := w.heap.size) (.inr (Nat.le_refl _)) (.int .i64 (x : Int)) (.int .i64 12);obtain ⟨f0, f1, _⟩ := Blk.two hb5;simp only [put2] at f0 f1 hm5
    (try simp only [Exit.inBlock, Exit.then])
    refine bodyPost_ret (v := .tuple #[.slice none 0 0, failV x 12]) (by simp [failV, results, Tryz.results28, go_sem, f0, f1]) rfl ?_;rw [HXE.out] at HQ;exact HQ.out _ _ ⟨by decide, none, 0, 0, rfl, hm5⟩
  | cons t r =>
   rw [hl] at HT1;unfold tokV at HT1
   dsimp only at HT1
   have HL := hid hl;have hmem : t ∈ c.T := List.mem_of_mem_drop (i := k1.p) (by rw [← Cf.at_l, hl]; simp);have hk0 := HKNZ.out t hmem;have e0 : ((t.kind : Int) == 0) = false := by rw [beq_eq_false_iff_ne]; omega
   have e0p : ¬ ((t.kind : Int) = 0) := by omega
   have HXC := hid (show Np.stops (t :: r) = true → X = .ok ks (c.at k1) from fun hs => by
    rw [HXS.out, pRow, HL.out, if_neg (by simp), if_pos (.inr hs)];simp [Mcr.R.map, Mcr.R.bind])
   clear hl hmem hk0
   by_cases h8 : t.kind = 8
   ·have HXO := hid (HXC.out (by simp [Np.stops, Np.isBreak, h8]))
    rw [show ((t.kind : Nat) : Int) = 8 from by omega] at HT1;clear h8 e0 e0p;go_wp2_with fail
    refine HT1.out.mono ?_;rintro _ w1 ⟨rfl, hf⟩;have HFA := hid hf;have HBA := hid (HFA.out.blk HBF.out fun h => h);clear hf;obtain ⟨p0, p1, y0, y1, hlt⟩ := Blk.two HBA.out;go_wp2_with fail
    have htr := (((HG.out.tree (by have := HSZ1.out; omega)).fresh HFA.out).other HBA.out (by decide) (touch2 w1 w.heap.size (.int .i64 0) (.int .i64 0))).fresh ((Touch.refl _ _).alloc (.cells #[.int .i64 8, .string ⟨t.text.toArray⟩, .int .i64 (t.from_ : Int), .int .i64 (t.to_ : Int)] 107));have hps := ((HP.out.fresh HFA.out).put2 HBA.out (by decide) (by omega) HW0.out (.int .i64 0) (.int .i64 0)).fresh ((Touch.refl _ _).alloc (.cells #[.int .i64 8, .string ⟨t.text.toArray⟩, .int .i64 (t.from_ : Int), .int .i64 (t.to_ : Int)] 107));have hm9 : Mp c.g c.W0.heap.size w _ := ((HM.out.fr HFA.out).put2 (g := w.heap.size) (.inr (Nat.le_refl _)) (.int .i64 0) (.int .i64 0)).alloc (.cells #[.int .i64 8, .string ⟨t.text.toArray⟩, .int .i64 (t.from_ : Int), .int .i64 (t.to_ : Int)] 107);have hb9 := ((HBA.out).self2 (.int .i64 0) (.int .i64 0)).alloc (.cells #[.int .i64 8, .string ⟨t.text.toArray⟩, .int .i64 (t.from_ : Int), .int .i64 (t.to_ : Int)] 107);obtain ⟨f0, f1, _⟩ := Blk.two hb9;simp only [put2] at htr hps hm9 f0 f1
    (try simp only [Exit.inBlock, Exit.then])
    refine bodyPost_ret (v := .tuple #[.slice A ks.length cp, failV 0 0]) (by simp [failV, results, Tryz.results28, go_sem, f0, f1]) rfl ?_;rw [HXO.out] at HQ;exact HQ.out _ _ ⟨A, cp, k1, rfl, htr, rfl, HKK.out, hps, hm9⟩
   ·have e8 := kind_no _ 8 h8
    have e8p : ¬ ((t.kind : Int) = 8) := by omega
    have H8 := hid (show Np.isBreak (t :: r) = false from by simp [Np.isBreak, h8]);clear h8;go_wp2_with fail
    refine HT1.out.mono ?_;rintro _ w1 ⟨rfl, hf⟩;have HFA := hid hf;have HBA := hid (HFA.out.blk HBF.out fun h => h);clear hf;go_wp2_with fail
    refine (HA1.out 41 _ (HFA.out.alloc (.cells #[.int .i64 (t.kind : Int), .string ⟨t.text.toArray⟩, .int .i64 (t.from_ : Int), .int .i64 (t.to_ : Int)] 107))).mono ?_;rw [HL.out];rintro _ w2 ⟨rfl, hf⟩;have HF2 := hid ((HFA.out.alloc (.cells #[.int .i64 (t.kind : Int), .string ⟨t.text.toArray⟩, .int .i64 (t.from_ : Int), .int .i64 (t.to_ : Int)] 107)).trans hf);have HB2 := hid (hf.blk (HBA.out.alloc (.cells #[.int .i64 (t.kind : Int), .string ⟨t.text.toArray⟩, .int .i64 (t.from_ : Int), .int .i64 (t.to_ : Int)] 107)) fun h => h);clear hf;cases m41 : Np.isM 41 (t :: r) with
    | true =>
     have HXO := hid (HXC.out (by simp [Np.stops, m41]));obtain ⟨p0, p1, y0, y1, hlt⟩ := Blk.two HB2.out;go_wp2_with fail
     have htr := (((HG.out.tree (by have := HSZ1.out; omega)).fresh HF2.out).other HB2.out (by decide) (touch2 w2 w.heap.size (.int .i64 0) (.int .i64 0)));have hps := ((HP.out.fresh HF2.out).put2 HB2.out (by decide) (by omega) HW0.out (.int .i64 0) (.int .i64 0));have hm9 : Mp c.g c.W0.heap.size w _ := ((HM.out.fr HF2.out).put2 (g := w.heap.size) (.inr (Nat.le_refl _)) (.int .i64 0) (.int .i64 0));have hb9 := ((HB2.out).self2 (.int .i64 0) (.int .i64 0));obtain ⟨f0, f1, _⟩ := Blk.two hb9;simp only [put2] at htr hps hm9 f0 f1
     (try simp only [Exit.inBlock, Exit.then])
     refine bodyPost_ret (v := .tuple #[.slice A ks.length cp, failV 0 0]) (by simp [failV, results, Tryz.results28, go_sem, f0, f1]) rfl ?_;rw [HXO.out] at HQ;exact HQ.out _ _ ⟨A, cp, k1, rfl, htr, rfl, HKK.out, hps, hm9⟩
    | false =>
     go_wp2_with fail
     refine (HA1.out 93 _ HF2.out).mono ?_;rw [HL.out];rintro _ w3 ⟨rfl, hf⟩;have HF3 := hid (HF2.out.trans hf);have HB3 := hid (hf.blk HB2.out fun h => h);clear hf;cases m93 : Np.isM 93 (t :: r) with
     | true =>
      have HXO := hid (HXC.out (by simp [Np.stops, m93]));obtain ⟨p0, p1, y0, y1, hlt⟩ := Blk.two HB3.out;go_wp2_with fail
      have htr := (((HG.out.tree (by have := HSZ1.out; omega)).fresh HF3.out).other HB3.out (by decide) (touch2 w3 w.heap.size (.int .i64 0) (.int .i64 0)));have hps := ((HP.out.fresh HF3.out).put2 HB3.out (by decide) (by omega) HW0.out (.int .i64 0) (.int .i64 0));have hm9 : Mp c.g c.W0.heap.size w _ := ((HM.out.fr HF3.out).put2 (g := w.heap.size) (.inr (Nat.le_refl _)) (.int .i64 0) (.int .i64 0));have hb9 := ((HB3.out).self2 (.int .i64 0) (.int .i64 0));obtain ⟨f0, f1, _⟩ := Blk.two hb9;simp only [put2] at htr hps hm9 f0 f1
      (try simp only [Exit.inBlock, Exit.then])
      refine bodyPost_ret (v := .tuple #[.slice A ks.length cp, failV 0 0]) (by simp [failV, results, Tryz.results28, go_sem, f0, f1]) rfl ?_;rw [HXO.out] at HQ;exact HQ.out _ _ ⟨A, cp, k1, rfl, htr, rfl, HKK.out, hps, hm9⟩
     | false =>
      go_wp2_with fail
      refine (HA1.out 125 _ HF3.out).mono ?_;rw [HL.out];rintro _ w4 ⟨rfl, hf⟩;have HF4 := hid (HF3.out.trans hf);have HB4 := hid (hf.blk HB3.out fun h => h);clear hf;cases m125 : Np.isM 125 (t :: r) with
      | true =>
       have HXO := hid (HXC.out (by simp [Np.stops, m125]));obtain ⟨p0, p1, y0, y1, hlt⟩ := Blk.two HB4.out;go_wp2_with fail
       have htr := (((HG.out.tree (by have := HSZ1.out; omega)).fresh HF4.out).other HB4.out (by decide) (touch2 w4 w.heap.size (.int .i64 0) (.int .i64 0)));have hps := ((HP.out.fresh HF4.out).put2 HB4.out (by decide) (by omega) HW0.out (.int .i64 0) (.int .i64 0));have hm9 : Mp c.g c.W0.heap.size w _ := ((HM.out.fr HF4.out).put2 (g := w.heap.size) (.inr (Nat.le_refl _)) (.int .i64 0) (.int .i64 0));have hb9 := ((HB4.out).self2 (.int .i64 0) (.int .i64 0));obtain ⟨f0, f1, _⟩ := Blk.two hb9;simp only [put2] at htr hps hm9 f0 f1
       (try simp only [Exit.inBlock, Exit.then])
       refine bodyPost_ret (v := .tuple #[.slice A ks.length cp, failV 0 0]) (by simp [failV, results, Tryz.results28, go_sem, f0, f1]) rfl ?_;rw [HXO.out] at HQ;exact HQ.out _ _ ⟨A, cp, k1, rfl, htr, rfl, HKK.out, hps, hm9⟩
      | false =>
       go_wp2_with fail
       refine (HA1.out 38 _ HF4.out).mono ?_;rw [HL.out];rintro _ w5 ⟨rfl, hf⟩;have HF5 := hid (HF4.out.trans hf);have HB5 := hid (hf.blk HB4.out fun h => h);clear hf;cases m38 : Np.isM 38 (t :: r) with
       | true =>
        have HXO := hid (HXC.out (by simp [Np.stops, m38]));obtain ⟨p0, p1, y0, y1, hlt⟩ := Blk.two HB5.out;go_wp2_with fail
        have htr := (((HG.out.tree (by have := HSZ1.out; omega)).fresh HF5.out).other HB5.out (by decide) (touch2 w5 w.heap.size (.int .i64 0) (.int .i64 0)));have hps := ((HP.out.fresh HF5.out).put2 HB5.out (by decide) (by omega) HW0.out (.int .i64 0) (.int .i64 0));have hm9 : Mp c.g c.W0.heap.size w _ := ((HM.out.fr HF5.out).put2 (g := w.heap.size) (.inr (Nat.le_refl _)) (.int .i64 0) (.int .i64 0));have hb9 := ((HB5.out).self2 (.int .i64 0) (.int .i64 0));obtain ⟨f0, f1, _⟩ := Blk.two hb9;simp only [put2] at htr hps hm9 f0 f1
        (try simp only [Exit.inBlock, Exit.then])
        refine bodyPost_ret (v := .tuple #[.slice A ks.length cp, failV 0 0]) (by simp [failV, results, Tryz.results28, go_sem, f0, f1]) rfl ?_;rw [HXO.out] at HQ;exact HQ.out _ _ ⟨A, cp, k1, rfl, htr, rfl, HKK.out, hps, hm9⟩
       | false =>
        go_wp2_with fail
        have HNS := hid (show Np.stops (t :: r) = false from by simp [Np.stops, H8.out, m41, m93, m125, m38])
        have HXI := hid (show X = ((pItem c.E f' op (c.at k1)).bind fun more r => (pRow c.E f' op r).map fun items => more ++ items).map fun l => ks ++ l from by
         rw [HXS.out, pRow, HL.out, if_neg (by simp), if_neg (by simp [HNS.out])])
        refine (HIT.out f' (by have := HF'.out; omega) k1 op w5 (HP.out.fresh HF5.out) (by have := HOP.out; have := HKK.out; (try simp only [Kp.up_p] at *); omega) (fun h => HNE.out (by rw [HXI.out, h]; rfl))).mono ?_;intro e w6 hres;have hone : ∀ items rest, pItem c.E f' op (c.at k1) = .ok items rest → items.length ≤ 1000 := fun items rest h => Mcr.few_item _ _ _ _ _ _ h
        have hparts := hres.parts (fun h => HNE.out (by rw [HXI.out, h]; rfl));clear hres;generalize pItem c.E f' op (c.at k1) = Y at HXI hparts hone;obtain ⟨A1, n1, cp1, i1, er1, rfl, hm, hend⟩ := hparts;have HM6 := hid ((HM.out.fr HF5.out).trans hm);have HB6 := hid (hm.blk HB5.out (by omega) (by decide));have HS6 := hid (show w.heap.size < w6.heap.size from HB6.out.lt);have HMM := hid hm;have HD5 := hid HF5.out;clear hm
        rcases hend with ⟨items, rest, k', rfl, rfl, rfl, rfl, htr, hdr, hkk2, hp⟩ | ⟨rfl, he0⟩
        case inr =>
         have HE0 := hid he0;have e0 := fail_ne he0;clear he0 hone;have HXE := hid (show X = .err i1 er1 from by rw [HXI.out]; rfl);unfold failV;go_wp2_with fail
         have hbe := Blk.new w6 48 #[.int .i64 (i1 : Int), .int .i64 (er1 : Int)];have hbr := HB6.out.alloc (.cells #[.int .i64 (i1 : Int), .int .i64 (er1 : Int)] 48);have hmr := HM6.out.alloc (.cells #[.int .i64 (i1 : Int), .int .i64 (er1 : Int)] 48);generalize (w6.alloc (.cells #[.int .i64 (i1 : Int), .int .i64 (er1 : Int)] 48)) = W5 at hbe hbr hmr ⊢;have r0 := cR (hbe.cell 0 |>.trans rfl);have r1 := cR (hbe.cell 1 |>.trans rfl);have hlt3 := hbe.lt;have HBR := hid hbr;have HMR := hid hmr;clear hbe hbr hmr;refine wp_region_mix [([(0, true), (1, true)], 2)] [] (by kernel_rfl) (fun _ _ d _ _ h => by cases d <;> exact h) (by kernel_rfl) ?_;refine wpMix_seg ?_
         repeat (refine wpSeq_plain rfl (fun K hK => ?_); go_simp; refine hK _ ?_; clear hK K)
         obtain ⟨p0, p1, y0, y1, hlt⟩ := Blk.two (HBR.out.drewN 1);refine wpSeq_shut rfl (fun K hK => ?_);go_wp2_with fail
         refine wpMix_end ?_;go_wp2_with fail
         have hb5 : Blk _ (w.heap.size) 48 #[.int .i64 (i1 : Int), .int .i64 (er1 : Int)] := ((HBR.out.drewN 1).put 0 (.int .i64 (i1 : Int))).put 1 (.int .i64 (er1 : Int));have hm5 := ((HMR.out.drewN 1).setCell (p := ⟨w.heap.size, 0, none⟩) (.inr (by show w.heap.size ≤ w.heap.size; omega)) (.int .i64 (i1 : Int))).setCell (p := ⟨w.heap.size, 1, none⟩) (.inr (by show w.heap.size ≤ w.heap.size; omega)) (.int .i64 (er1 : Int));obtain ⟨f0, f1, _⟩ := Blk.two hb5
         (try simp only [Exit.inBlock, Exit.then])
         refine bodyPost_ret (v := .tuple #[.slice none 0 0, failV i1 er1]) (by simp [failV, results, Tryz.results28, go_sem, f0, f1]) rfl ?_;rw [HXE.out] at HQ;exact HQ.out _ _ ⟨HE0.out, none, 0, 0, rfl, hm5⟩
        have HL1 := hid (hone items rest rfl);clear hone
        have HXN := hid (show X = (pRow c.E f' op (c.at k')).map fun l => (ks ++ items) ++ l from by
         rw [HXI.out, hdr];show R.map (R.map (pRow c.E f' op rest) (fun items' => items ++ items')) (fun l => ks ++ l) = R.map (pRow c.E f' op rest) _;cases pRow c.E f' op rest <;> simp [Mcr.R.map, Mcr.R.bind])
        have HTRK := hid htr;have HP6 := hid hp;have HK2 := hid hkk2;have HG6 := hid (show Grow (fun _ => False) w6 w.heap.size W1.heap.size ks (.slice A ks.length cp) from (HG.out.fresh HF5.out).mv HMM.out (by have := HSZ1.out; omega) (fun _ h => h.elim) (fun b hb => .inr (.inr (PT.nty (HP.out.fresh HF5.out) hb))))
        have HOB := hid (show ∀ b, (Value.slice A ks.length cp).ownBlock = some b → b < w5.heap.size from fun b hb => by
         obtain ⟨cs, h1, _⟩ := HG.out;obtain ⟨_, cur, h4⟩ := owns_type h1 hb;exact Nat.lt_of_lt_of_le (Array.getElem?_eq_some_iff.1 h4).1 HF5.out.size)
        clear hdr htr hp hkk2;unfold failV;have HLK := hid (show ks.length + items.length < 2 ^ 40 by have := HF'.out; have := HL1.out; have := HFF.out; omega)
        go_wp2_with (at_builtin; refine wpList_append_growL rfl (.tmp 71) (.tmp 72) rfl i _ hi hz0 hz1 hz2 rfl (B0 := w.heap.size) (B := W1.heap.size) (B1 := w5.heap.size) (ks := ks) (ms := items) (v := .slice A ks.length cp) (y := .slice A1 items.length cp1) (HG6.out.fresh ((Touch.refl _ _).alloc _)) (by simp [Act.eval]) (by simp [Act.eval]) (HTRK.out.fresh ((Touch.refl _ _).alloc _)) (by have := HD5.out.size; omega) (fun _ h => h.elim) HOB.out HLK.out (by have := HSZ.out; have := HD5.out.size; have := HMM.out.size; simp; omega) ?_; intro A8 cp8 W8 hg8 ht8; refine Stay.mk ?_)
        have hp8 := ht8.ps (HP6.out.fresh ((Touch.refl _ _).alloc (.cells #[.int .i64 0, .int .i64 0] 48))) (by have := HSZ1.out; have := HW0.out; omega) (by have := HSZ1.out; omega);have hm8 := ht8.mp (HM6.out.fr ((Touch.refl _ _).alloc (.cells #[.int .i64 0, .int .i64 0] 48))) (by have := HSZ1.out; omega);have hb8 := ht8.blk1 (HB6.out.alloc (.cells #[.int .i64 0, .int .i64 0] 48)) (by have := HSZ1.out; omega);have hs8 : W1.heap.size ≤ W8.heap.size := by have := ht8.size; have := HSZ.out; have := HD5.out.size; have := HMM.out.size; simp at *; omega
        have HNEW := hid (show RowSt c F op k w W1.heap.size X (.slice A8 (ks.length + items.length) cp8) W8 f' from ⟨k', ks ++ items, A8, cp8, by rw [List.length_append], hb8, by rw [List.length_append]; exact hg8, hp8, Nat.le_trans HKK.out HK2.out, hm8, hs8, by have := HF'.out; omega, by have := HF'.out; have := HL1.out; rw [List.length_append]; omega, HXN.out⟩);clear hp8 hm8 hb8 hs8 hg8 ht8;refine Stay.go ?_;go_wp2_with fail
        refine ⟨⟨_, _, rfl, HNEW⟩, ?_⟩;have h1 : rowMu c F op k w W1.heap.size X (.slice A8 (ks.length + items.length) cp8) W8 ≤ f' := least_le HNEW.out;have h2 := HMU.out;omega
end Go.Proofs.YtomibmenojdieaaGreat
