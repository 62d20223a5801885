/- Part 12 of 12 of a proof; its texts, joined: NuB, NuE, NuF, NuC. No condition. -/
import Derived.Test.YtdacpbdamliafaaGreatUa11
import Derived.Test.YtdacpbdamliafaaGreatUa2
import Derived.Test.YtdacpbdamliafaaGreatUa1

/- The statement PrinterInverse: for all trees the law returns true, and the tree reads as it did. No condition. -/
namespace Go.Proofs.YtdacpbdamliafaaGreat
open Go.ChangeShapes Go.WideShapes Go.ChangeAt Go.RowKit
open Go.ChangeMaps (open_string shut_string)
open Tr (Nd)
open Np (R)
def noNd : Nd := .mk 0 [] 0 []
def pN : R (List Nd) → Nd
 | .ok items _ => if Tr.valid (Np.slot items) then Np.slot items else noNd
 | _ => noNd
def pI : R (List Nd) → Nat
 | .err i _ => i
 | _ => 0
def pE : R (List Nd) → Nat
 | .ok items _ => if Tr.valid (Np.slot items) then 0 else 6
 | .err _ e => e
 | .out => 0
theorem pN_text (X : R (List Nd)) : (pN X).text.length ≤ maxLen := by
 unfold pN
 split
 ·split <;> exact Nat.zero_le _
 ·exact Nat.zero_le _
theorem parse_call (s : ByteArray) (w : World) (hm : s.size ≤ 1000000000) (hc : (Lx.lexAll s.data.toList).1.length ≤ 8000) : Calls Tryz.prog 24 #[.string s, .pointer none] w fun e w' =>
  ∃ A cap, e = .returned (.tuple #[nv (pN (parseS s.data.toList)) (.slice A (pN (parseS s.data.toList)).kids.length cap), .int .i64 (pI (parseS s.data.toList) : Int), .int .i64 (pE (parseS s.data.toList) : Int)]) ∧ RepL w' (pN (parseS s.data.toList)).kids (.slice A (pN (parseS s.data.toList)).kids.length cap) ∧ Fresh w w' := by
 refine (parseX_any s w hm hc).mono ?_
 intro e w' h
 have hne := parseS_ends s.data.toList
 generalize parseS s.data.toList = X at h hne
 cases X with
 | out => exact absurd rfl hne
 | err i er =>
  obtain ⟨_, rfl, hf⟩ := h
  exact ⟨none, 0, rfl, .nil _ _, hf⟩
 | ok items rest =>
  rcases h with ⟨hv, A, cp, rfl, htr, hf⟩ | ⟨hv, rfl, hf⟩
  ·have e1 : pN (.ok items rest) = Np.slot items := by simp [pN, hv]
   have e2 : pE (.ok items rest) = 0 := by simp [pE, hv]
   rw [e1, e2]
   exact ⟨A, cp, rfl, htr.rep, hf⟩
  ·have e1 : pN (.ok items rest) = noNd := by simp [pN, hv]
   have e2 : pE (.ok items rest) = 6 := by simp [pE, hv]
   rw [e1, e2]
   exact ⟨none, 0, rfl, .nil _ _, hf⟩
theorem parse_of_print (n : Nd) (w : World) (hv : Tr.valid n = true) (hc : Tr.count n ≤ 1000) : Calls Tryz.prog 24 #[.string ⟨(printS n).toArray⟩, .pointer none] w fun e w' =>
  ∃ A cap, e = .returned (.tuple #[nv n (.slice A n.kids.length cap), .int .i64 0, .int .i64 0]) ∧ RepL w' n.kids (.slice A n.kids.length cap) ∧ Fresh w w' := by
 have hr := Tr.valid_row n hv
 have hp : printS n = Tr.wtext (Tr.rowT n.kids) := by unfold printS; rw [if_pos hv]
 have hx : parseS (printS n) = .ok n.kids [] := by rw [hp]; exact parse_printed n hr
 have hl := printed_len n hr
 have ht := printed_toks n hr
 rw [← hp] at hl ht
 have h := parse_call ⟨(printS n).toArray⟩ w (by show (printS n).toArray.size ≤ _; rw [List.size_toArray]; omega) (by show (Lx.lexAll (printS n)).1.length ≤ _; omega)
 have e0 : (⟨(printS n).toArray⟩ : ByteArray).data.toList = printS n := rfl
 rw [e0, hx] at h
 have e1 : pN (.ok n.kids []) = n := by simp [pN, slot_row n hr, hv]
 have e2 : pE (.ok n.kids []) = 0 := by simp [pE, slot_row n hr, hv]
 rw [e1, e2] at h
 exact h
theorem count_rep {n : Nd} : Tr.eqN n n = true := (Tr.eqN_iff n n).2 rfl
set_option maxRecDepth 100000 in
set_option maxHeartbeats 1000000 in
theorem inverse_any (n : Nd) (sl : Value) (w : World) (hr : RepL w n.kids sl) (ht : n.text.length ≤ maxLen) :
  Calls Tryz.prog 8 #[nv n sl] w fun e w' => e = .returned (.bool true) ∧ Fresh w w' := by
 have HR := hid hr
 have HP := hid (fun (w : World) (hr : RepL w n.kids sl) (hc : (Tr.count n : Int) ≤ 300) => print_any n sl w hr ht (by omega))
 have HQ := hid (fun (w : World) (hv : Tr.valid n = true) (hc : (Tr.count n : Int) ≤ 300) => parse_of_print n w hv (by omega))
 obtain ⟨A, cap, rfl⟩ := hr.slice
 clear hr ht
 go_enter Tryz.func8, Tryz.ntmps8
 go_wp2_with fail
 have hb0 := Blk.new w 24 #[.int .i64 n.kind, .string ⟨n.text.toArray⟩, .int .i64 n.cols, .slice A n.kids.length cap]
 refine (awake21_any _).mono ?_
 rintro _ w1 ⟨rfl, hf1⟩
 have HF1 := hid (Touch.pre hf1)
 have HB1 := hid (hf1.blk hb0 fun h => h)
 obtain ⟨p0, p1, p2, p3, _, _, _, _, hlt⟩ := Blk.four HB1.out
 clear hf1 hb0
 go_wp2_with fail
 refine (few21_any n (.slice A n.kids.length cap) _ (HR.out.fresh HF1.out)).mono ?_
 rintro _ w2 ⟨rfl, hf2⟩
 have HF2 := hid (HF1.out.trans hf2)
 have HB2 := hid (hf2.blk HB1.out fun h => h)
 clear hf2 p0 p1 p2 p3 hlt
 obtain ⟨p0, p1, p2, p3, _, _, _, _, hlt⟩ := Blk.four HB2.out
 cases h1 : decide ((Tr.count n : Int) ≤ 300) with
 | false =>
  go_wp2_with fail
  refine (awake21_any _).mono ?_
  rintro _ w3 ⟨rfl, hf3⟩
  have HF3 := hid (HF2.out.trans hf3)
  clear hf3
  go_wp2_with fail
  go_ret
  exact ⟨rfl, HF3.out⟩
 | true =>
  have h1p := of_decide_eq_true h1
  go_wp2_with fail
  refine (HP.out _ (HR.out.fresh HF2.out) h1p).mono ?_
  rintro _ w3 ⟨rfl, hf3⟩
  have HF3 := hid (HF2.out.trans hf3)
  have HB3 := hid (hf3.blk HB2.out fun h => h)
  clear hf3 p0 p1 p2 p3 hlt
  obtain ⟨p0, p1, p2, p3, _, _, _, _, hlt⟩ := Blk.four HB3.out
  cases hv : Tr.valid n with
  | false =>
   have e1 : printE n = 1 := by unfold printE; rw [if_neg (by simp [hv])]
   have e2 : printS n = [] := by unfold printS; rw [if_neg (by simp [hv])]
   rw [e1, e2]
   go_wp2_with fail
   go_ret
   exact ⟨rfl, HF3.out⟩
  | true =>
   have e1 : printE n = 0 := by unfold printE; rw [if_pos hv]
   rw [e1]
   clear e1
   go_wp2_with fail
   refine (HQ.out _ hv h1p).mono ?_
   rintro _ w4 ⟨A4, cap4, rfl, hr4, hf4⟩
   have HF4 := hid (HF3.out.trans hf4)
   have HB4 := hid (hf4.blk HB3.out fun h => h)
   have HR4 := hid hr4
   clear hf4 hr4 p0 p1 p2 p3 hlt
   have HB5 := hid (HB4.out.alloc (.cells #[.int .i64 n.kind, .string ⟨n.text.toArray⟩, .int .i64 n.cols, .slice A4 n.kids.length cap4] 24))
   obtain ⟨p0, p1, p2, p3, _, _, _, _, hlt⟩ := Blk.four HB4.out
   go_wp2_with fail
   refine (equal_any _ n n _ _ _ (Nat.le_refl _) (HR4.out.fresh ((Touch.refl _ _).alloc _)) (HR.out.fresh (HF4.out.alloc _))).mono ?_
   rintro _ w5 ⟨rfl, hf5⟩
   have HF5 := hid ((HF4.out.alloc _).trans hf5)
   rw [count_rep]
   clear hf5 p0 p1 p2 p3 hlt
   go_wp2_with fail
   go_ret
   exact ⟨rfl, HF5.out⟩
set_option maxRecDepth 100000 in
theorem printerInverse_lifted (os : Os) (started : os.Started) (H : Type) (enc : TypeId × Value → H) :
  ReturnsInHanded {} Tryz.checked os 8 .any (Rows.printerInverseSpec.pre6 enc Tryz.prog Tryz.f8 Rows.printerInverseRow.domain false) (Rows.printerInverseSpec.post enc Tryz.prog Tryz.f8 false true false false) := by
 refine returnsInHanded_of_change (C := Tryz.checked) Tryz.ownKnob started (by kernel_rfl) Tryz.func8
  (ChangeSpec.witness6 (enc := enc) (C := Tryz.checked) false ⟨#[], #[.agg #[.int .i64 0, .string ⟨#[]⟩, .int .i64 0, .slice none 0 0]], []⟩ 8 (by kernel_rfl) (by kernel_rfl) (by kernel_rfl) (by kernel_rfl)) ?_
 intro W base args ds gs before hval0 hW hcnd _
 have hval : ∀ (j : Nat) t v, Tryz.f8.params[j]? = some t → args[j]? = some v → Value.okWide Tryz.prog W .any base t v := hval0
 have hW' := hW
 obtain ⟨p, q, hA0, hV, rfl, hfz, hnd⟩ := hW
 have hA : DataW.TrodAll enc Tryz.prog W 0 (fun _ => true) true Tryz.f8.params.toList args.toList ds p := hA0
 rw [Tryz.params8] at hA hval
 obtain ⟨v0, d0, rfl, rfl, h0⟩ := trodAll_one hA
 obtain ⟨rfl, rfl⟩ := trodVars_none hV
 obtain ⟨n0, ⟨s0, rfl, r0⟩, t0⟩ := open_node (hval 0 24 v0 rfl rfl) h0
 refine (inverse_any n0 s0 W r0 t0).mono fun e W' ⟨he, hw⟩ => ?_
 exact ⟨_, he, post_true Tryz.laidOut Tryz.underlying4 (by kernel_rfl) (by kernel_rfl) rfl rfl hW' hw⟩
theorem PrinterInverse_holds : Rows.PrinterInverseSaid :=
 OpenClaim.holds_of_wide 8 Tryz.f8 rfl rfl rfl rfl rfl rfl rfl ⟨rfl, rfl, rfl, rfl, rfl⟩ rfl rfl rfl rfl rfl (by kernel_rfl) Tryz.func8 (by kernel_rfl)
  (of_decide_eq_true (by kernel_rfl)) (by unfold Func.isWrapper; first | (rw [if_pos (by decide +kernel)]; kernel_rfl) | (rw [if_neg (by decide +kernel)]; exact ⟨rfl, rfl⟩))
  (fun os started H enc _ => printerInverse_lifted os started H enc)
end Go.Proofs.YtdacpbdamliafaaGreat

/- The errors of the parser: none is the error of no number, and each place is in the text. No program in sight. -/
namespace Go.Proofs.YtdacpbdamliafaaGreat.Np
open Lx (PTok)
open Tr (Nd)
def Sub (r l : List PTok) : Prop := ∀ t ∈ r, t ∈ l
def ErrOK {α : Type} (en : Nat) (l : List PTok) (x : R α) : Prop :=
 match x with
 | .ok _ r => Sub r l
 | .err i e => e ≠ 0 ∧ i ≤ en
 | .out => True
theorem ErrOK.bind {α β : Type} {en : Nat} {l : List PTok} {x : R α} {k : α → List PTok → R β} (h : ErrOK en l x) (hk : ∀ a r, Sub r l → ErrOK en l (k a r)) : ErrOK en l (x.bind k) := by
 cases x with
 | ok a r => exact hk a r h
 | err i e => exact h
 | out => trivial
theorem ErrOK.map {α β : Type} {en : Nat} {l : List PTok} {x : R α} {k : α → β} (h : ErrOK en l x) : ErrOK en l (x.map k) := h.bind fun _ _ h => h
theorem ErrOK.sub {α : Type} {en : Nat} {l m : List PTok} {x : R α} (h : ErrOK en l x) (hs : Sub l m) : ErrOK en m x := by
 cases x with
 | ok a r => exact fun t ht => hs t (h t ht)
 | err i e => exact h
 | out => trivial
theorem ErrOK.refuse {α : Type} {en : Nat} {l m : List PTok} (h : ∀ t ∈ l, t.from_ ≤ en) : ErrOK en m (refuse en l : R α) := by
 refine ⟨by decide, ?_⟩
 cases l with
 | nil => exact Nat.le_refl _
 | cons t r => exact h t (by simp)
theorem Sub.tail (l : List PTok) : Sub l.tail l := fun _ ht => List.mem_of_mem_tail ht
theorem Sub.refl (l : List PTok) : Sub l l := fun _ h => h
theorem Sub.cons (t : PTok) (r : List PTok) : Sub r (t :: r) := fun _ h => List.mem_cons_of_mem _ h
theorem place_le {en : Nat} {l : List PTok} (h : ∀ t ∈ l, t.from_ ≤ en) : place en l ≤ en := by
 cases l with
 | nil => exact Nat.le_refl _
 | cons t r => exact h t (by simp)
def In (en : Nat) (l : List PTok) : Prop := ∀ t ∈ l, t.from_ ≤ en
def Ops (en : Nat) (op : List Nat) : Prop := ∀ x ∈ op, x ≤ en
theorem In.sub {en : Nat} {l r : List PTok} (h : In en l) (hs : Sub r l) : In en r := fun t ht => h t (hs t ht)
theorem Ops.snoc {en x : Nat} {op : List Nat} (h : Ops en op) (hx : x ≤ en) : Ops en (op ++ [x]) := fun y hy => by
 rcases List.mem_append.1 hy with hy | hy
 ·exact h y hy
 ·rw [List.mem_singleton.1 hy]; exact hx
theorem scripts_err {g : Bool} {en : Nat} {b : List Nd} {x y : Option Nd} {l : List PTok} (h : In en l) : ErrOK en l (scripts g en b x y l) := by
 unfold scripts
 split
 ·exact Sub.refl l
 ·exact Sub.refl l
 ·exact Sub.refl l
 ·split
  ·exact ErrOK.refuse h
  ·exact Sub.refl l
theorem plain_err {en : Nat} {t : PTok} {r : List PTok} (h : In en (t :: r)) : ErrOK en (t :: r) (plainName t r) := by
 unfold plainName
 split
 ·exact ⟨by decide, h t (by simp)⟩
 ·exact Sub.cons t r
structure Errs (en f : Nat) : Prop where
 row : ∀ op l, Ops en op → In en l → ErrOK en l (pRow en f op l)
 within : ∀ b op l, Ops en op → In en l → ErrOK en l (pIn en f b op l)
 arg : ∀ op l, Ops en op → In en l → ErrOK en l (pArg en f op l)
 args : ∀ n op l, Ops en op → In en l → ErrOK en l (pArgs en f n op l)
 script : ∀ b op l, Ops en op → In en l → ErrOK en l (pScript en f b op l)
 item : ∀ op l, Ops en op → In en l → ErrOK en l (pItem en f op l)
 prim : ∀ op l, Ops en op → In en l → ErrOK en l (pPrim en f op l)
 name : ∀ op t r, Ops en op → In en (t :: r) → ErrOK en (t :: r) (pName en f op t r)
 cells : ∀ op ks b c l, Ops en op → In en l → ErrOK en l (pCells en f op ks b c l)
theorem errs (en : Nat) : ∀ f, Errs en f
 | 0 => by constructor <;> (intros; trivial)
 | f + 1 => by
  have ih := errs en f
  constructor
  ·intro op l ho hl
   rw [pRow]
   split
   ·refine ⟨by decide, ?_⟩
    rw [List.getLastD_eq_getLast?]
    cases hg : op.getLast? with
    | none => exact Nat.zero_le _
    | some x => exact ho x (List.mem_of_getLast? hg)
   ·split
    ·exact Sub.refl l
    ·exact (ih.item op l ho hl).bind fun a r hr => ((ih.row op r ho (hl.sub hr)).sub hr).map
  ·intro b op l ho hl
   rw [pIn]
   refine ((ih.row _ _ (ho.snoc (place_le hl)) (hl.sub (Sub.tail l))).sub (Sub.tail l)).bind fun a r hr => ?_
   split
   ·exact fun t ht => hr t (Sub.tail r t ht)
   ·exact ErrOK.refuse (hl.sub hr)
  ·intro op l ho hl
   cases l with
   | nil => rw [pArg]; exact ErrOK.refuse hl
   | cons t r =>
    rw [pArg]
    split
    ·exact Sub.cons t r
    ·split
     ·exact (ih.within _ _ _ ho hl).map
     ·split
      ·exact (plain_err hl).map
      ·exact ErrOK.refuse hl
  ·intro n op l ho hl
   cases n with
   | zero => rw [pArgs]; exact Sub.refl l
   | succ n => rw [pArgs]; exact (ih.arg op l ho hl).bind fun a r hr => ((ih.args n op r ho (hl.sub hr)).sub hr).map
  ·intro b op l ho hl
   rw [pScript]
   split
   ·exact ((ih.arg op _ ho (hl.sub (Sub.tail l))).sub (Sub.tail l)).map
   ·exact Sub.refl l
  ·intro op l ho hl
   rw [pItem]
   refine (ih.prim op l ho hl).bind fun a r hr => ((ih.script 95 op r ho (hl.sub hr)).sub hr).bind fun sub r hr => ((ih.script 94 op r ho (hl.sub hr)).sub hr).bind fun sup r hr => ?_
   split
   ·exact ((ih.script 95 op r ho (hl.sub hr)).sub hr).bind fun sub r hr => (scripts_err (hl.sub hr)).sub hr
   ·exact (scripts_err (hl.sub hr)).sub hr
  ·intro op l ho hl
   cases l with
   | nil => rw [pPrim]; exact ErrOK.refuse hl
   | cons t r =>
    rw [pPrim]
    split
    ·exact Sub.cons t r
    ·split
     ·exact ih.name op t r ho hl
     ·split
      ·exact ((ih.args 1 op r ho (hl.sub (Sub.cons t r))).sub (Sub.cons t r)).map
      ·split
       ·exact (ih.within _ _ _ ho hl).map
       ·split
        ·exact (ih.within _ _ _ ho hl).map
        ·split
         ·exact ih.within _ _ _ ho hl
         ·exact ErrOK.refuse hl
  ·intro op t r ho hl
   have hr := hl.sub (Sub.cons t r)
   rw [pName]
   split
   ·exact ((ih.args 2 op r ho hr).sub (Sub.cons t r)).map
   ·split
    ·split
     ·exact ((ih.within _ _ _ ho hr).sub (Sub.cons t r)).bind fun d r' h => ((ih.args 1 op r' ho (hl.sub h)).sub h).map
     ·exact ((ih.args 1 op r ho hr).sub (Sub.cons t r)).map
    ·split
     ·split
      ·exact ((ih.cells _ _ _ _ _ (ho.snoc (place_le hr)) (hr.sub (Sub.tail r))).sub (fun t' h => List.mem_cons_of_mem _ (Sub.tail r t' h))).map
      ·exact ErrOK.refuse hr
     ·split
      ·exact ((ih.args 1 op r ho hr).sub (Sub.cons t r)).map
      ·exact plain_err hl
  ·intro op ks b c l ho hl
   rw [pCells]
   refine (ih.row op l ho hl).bind fun items r hr => ?_
   have ht : Sub r.tail l := fun t h => hr t (Sub.tail r t h)
   split
   ·exact (ih.cells _ _ _ _ _ ho (hl.sub ht)).sub ht
   ·split
    ·exact ErrOK.refuse (hl.sub hr)
    ·split
     ·exact ⟨by decide, place_le (hl.sub hr)⟩
     ·split
      ·exact ht
      ·exact (ih.cells _ _ _ _ _ ho (hl.sub ht)).sub ht
theorem parseT_err (en : Nat) (l : List PTok) (hl : In en l) (i e : Nat) (h : parseT en l = .err i e) : e ≠ 0 ∧ i ≤ en := by
 have h1 : ErrOK en l (parseT en l) := by
  unfold parseT
  refine ((errs en _).row [] l (fun _ h => by cases h) hl).bind fun items r hr => ?_
  split
  ·exact hr
  ·exact ErrOK.refuse (hl.sub hr)
 rw [h] at h1
 exact h1
end Go.Proofs.YtdacpbdamliafaaGreat.Np

/- The errors of a text. No program in sight. -/
namespace Go.Proofs.YtdacpbdamliafaaGreat
open Np (R)
open Tr (Nd)
theorem lexGo_from (l : Lx.Bytes) : ∀ (f a : Nat), ∀ t ∈ (Lx.lexGo l f a).1, t.from_ ≤ l.length
 | 0, a, t, h => by cases h
 | f + 1, a, t, h => by
  rw [Lx.lexGo] at h
  split at h
  ·cases h
  ·split at h
   ·cases h
   ·rcases List.mem_cons.1 h with rfl | h
    ·simp only; omega
    ·exact lexGo_from l f _ t h
theorem parseS_err (l : List UInt8) (i e : Nat) (h : parseS l = .err i e) : e ≠ 0 ∧ i ≤ l.length := by
 unfold parseS at h
 split at h
 ·rename_i ts hl
  refine Np.parseT_err l.length ts (fun t ht => ?_) i e h
  refine lexGo_from l _ 0 t (?_ : t ∈ (Lx.lexAll l).1)
  rw [hl]
  exact ht
 ·rename_i ts p er hl
  cases h
  exact ⟨lexAll_err_ne l _ _ (by rw [hl]), Lx.lexAll_err_le l _ _ (by rw [hl])⟩
end Go.Proofs.YtdacpbdamliafaaGreat

/- The statement PrinterNormal: for all texts the law returns true, and the text reads as it did. No condition. -/
namespace Go.Proofs.YtdacpbdamliafaaGreat
open Go.ChangeShapes Go.WideShapes Go.ChangeAt Go.RowKit
open Go.ChangeMaps (open_string shut_string)
open Tr (Nd)
open Np (R)
theorem pE_valid {X : R (List Nd)} (h : pE X = 0) (hne : X ≠ .out) (he : ∀ i e, X = .err i e → e ≠ 0) : Tr.valid (pN X) = true := by
 cases X with
 | out => exact absurd rfl hne
 | err i e => exact absurd h (he i e rfl)
 | ok items r =>
  cases hv : Tr.valid (Np.slot items) with
  | true => simp [pN, hv]
  | false => simp [pE, hv] at h
theorem valid_count {n : Nd} (h : Tr.valid n = true) : Tr.count n ≤ 1000 := by
 unfold Tr.valid at h
 simp only [Bool.and_eq_true, decide_eq_true_eq] at h
 exact h.1.2
set_option maxRecDepth 100000 in
set_option maxHeartbeats 1000000 in
theorem normal_any (s : ByteArray) (w : World) : Calls Tryz.prog 9 #[.string s] w fun e w' => e = .returned (.bool true) ∧ Fresh w w' := by
 by_cases hs : s.size ≤ 600
 ·have c1 : ¬ ((600 : Int) < (s.size : Int)) := by omega
  have c2 : decide ((600 : Int) < (s.size : Int)) = false := decide_eq_false c1
  have HP := hid (fun (w : World) => parse_call s w (by omega) (by have := Lx.lexAll_count s.data.toList; rw [size_toList] at this; omega))
  have HNE := hid (parseS_ends s.data.toList)
  have HER := hid (fun i e h => (parseS_err s.data.toList i e h).1)
  generalize parseS s.data.toList = X at HP HNE HER
  go_enter Tryz.func9, Tryz.ntmps9
  go_wp2_with fail
  refine (awake21_any _).mono ?_
  rintro _ w1 ⟨rfl, hf1⟩
  have HF1 := hid hf1
  clear hf1
  go_wp2_with fail
  clear c1 c2
  refine (HP.out _).mono ?_
  rintro _ w2 ⟨A, cap, rfl, hr, hf2⟩
  have HF2 := hid (HF1.out.trans hf2)
  have HR2 := hid hr
  have HTX := hid (pN_text X)
  have HV := hid (fun h => pE_valid (X := X) h HNE.out HER.out)
  clear hf2 hr HP
  generalize pN X = n at HV HTX HR2 ⊢
  generalize pE X = er at HV ⊢
  by_cases he : er = 0
  ·have hv := HV.out he
   subst he
   have hcn := valid_count hv
   have HP := hid (fun (w : World) (sl : Value) (hr : RepL w n.kids sl) => print_any n sl w hr HTX.out hcn)
   have HQ := hid (fun (w : World) => parse_of_print n w hv hcn)
   have e1 : printE n = 0 := by unfold printE; rw [if_pos hv]
   rw [e1] at HP
   have HB3 := hid (Blk.new w2 24 #[.int .i64 n.kind, .string ⟨n.text.toArray⟩, .int .i64 n.cols, .slice A n.kids.length cap])
   have HF3 := hid (HF2.out.alloc (.cells #[.int .i64 n.kind, .string ⟨n.text.toArray⟩, .int .i64 n.cols, .slice A n.kids.length cap] 24))
   have HR3 := hid (HR2.out.fresh ((Touch.refl _ _).alloc (.cells #[.int .i64 n.kind, .string ⟨n.text.toArray⟩, .int .i64 n.cols, .slice A n.kids.length cap] 24)))
   clear e1 hv hcn
   go_wp2_with fail
   refine (HP.out _ _ HR3.out).mono ?_
   rintro _ w3 ⟨rfl, hf3⟩
   have HF4 := hid (HF3.out.trans hf3)
   have HB4 := hid (hf3.blk HB3.out fun h => h)
   have HR4 := hid (HR3.out.fresh hf3)
   clear hf3
   go_wp2_with fail
   refine (HQ.out _).mono ?_
   rintro _ w4 ⟨A5, cap5, rfl, hr5, hf5⟩
   have HF5 := hid (HF4.out.trans hf5)
   have HB5 := hid (hf5.blk HB4.out fun h => h)
   have HR5 := hid (HR4.out.fresh hf5)
   have HS5 := hid hr5
   clear hf5 hr5
   have HB6 := hid (HB5.out.alloc (.cells #[.int .i64 n.kind, .string ⟨n.text.toArray⟩, .int .i64 n.cols, .slice A5 n.kids.length cap5] 24))
   have HC6 := hid (Blk.new w4 24 #[.int .i64 n.kind, .string ⟨n.text.toArray⟩, .int .i64 n.cols, .slice A5 n.kids.length cap5])
   have HF6 := hid (HF5.out.alloc (.cells #[.int .i64 n.kind, .string ⟨n.text.toArray⟩, .int .i64 n.cols, .slice A5 n.kids.length cap5] 24))
   have HR6 := hid (HR5.out.fresh ((Touch.refl _ _).alloc (.cells #[.int .i64 n.kind, .string ⟨n.text.toArray⟩, .int .i64 n.cols, .slice A5 n.kids.length cap5] 24)))
   have HS6 := hid (HS5.out.fresh ((Touch.refl _ _).alloc (.cells #[.int .i64 n.kind, .string ⟨n.text.toArray⟩, .int .i64 n.cols, .slice A5 n.kids.length cap5] 24)))
   go_wp2_with fail
   refine (HP.out _ _ HS6.out).mono ?_
   rintro _ w5 ⟨rfl, hf7⟩
   have HF7 := hid (HF6.out.trans hf7)
   have HR7 := hid (HR6.out.fresh hf7)
   have HS7 := hid (HS6.out.fresh hf7)
   obtain ⟨p0, p1, p2, p3, _, _, _, _, hlt⟩ := Blk.four (hf7.blk HB6.out fun h => h)
   obtain ⟨q0, q1, q2, q3, _, _, _, _, hlt2⟩ := Blk.four (hf7.blk HC6.out fun h => h)
   clear hf7
   go_wp2_with fail
   refine (equal_any _ n n _ _ _ (Nat.le_refl _) HR7.out HS7.out).mono ?_
   rintro _ w8 ⟨rfl, hf8⟩
   have HF8 := hid (HF7.out.trans hf8)
   rw [count_rep]
   clear hf8 p0 p1 p2 p3 hlt q0 q1 q2 q3 hlt2
   go_wp2_with fail
   go_ret
   exact ⟨rfl, HF8.out⟩
  ·have e0 := fail_ne he
   clear he
   go_wp2_with fail
   go_ret
   exact ⟨rfl, HF2.out.alloc _⟩
 ·have c1 : (600 : Int) < (s.size : Int) := by omega
  have c2 : decide ((600 : Int) < (s.size : Int)) = true := decide_eq_true c1
  go_enter Tryz.func9, Tryz.ntmps9
  go_wp2_with fail
  refine (awake21_any _).mono ?_
  rintro _ w1 ⟨rfl, hf1⟩
  have HF1 := hid hf1
  clear hf1
  go_wp2_with fail
  refine (awake21_any _).mono ?_
  rintro _ w2 ⟨rfl, hf2⟩
  have HF2 := hid (HF1.out.trans hf2)
  clear hf2
  go_wp2_with fail
  go_ret
  exact ⟨rfl, HF2.out⟩
set_option maxRecDepth 100000 in
theorem printerNormal_lifted (os : Os) (started : os.Started) (H : Type) (enc : TypeId × Value → H) :
  ReturnsInHanded {} Tryz.checked os 9 .any (Rows.printerNormalSpec.pre6 enc Tryz.prog Tryz.f9 Rows.printerNormalRow.domain false) (Rows.printerNormalSpec.post enc Tryz.prog Tryz.f9 false true false false) := by
 refine returnsInHanded_of_change (C := Tryz.checked) Tryz.ownKnob started (by kernel_rfl) Tryz.func9
  (ChangeSpec.witness6 (enc := enc) (C := Tryz.checked) false ⟨#[], #[.string ⟨#[]⟩], []⟩ 8 (by kernel_rfl) (by kernel_rfl) (by kernel_rfl) (by kernel_rfl)) ?_
 intro W base args ds gs before hval0 hW hcnd _
 have hval : ∀ (j : Nat) t v, Tryz.f9.params[j]? = some t → args[j]? = some v → Value.okWide Tryz.prog W .any base t v := hval0
 have hW' := hW
 obtain ⟨p, q, hA0, hV, rfl, hfz, hnd⟩ := hW
 have hA : DataW.TrodAll enc Tryz.prog W 0 (fun _ => true) true Tryz.f9.params.toList args.toList ds p := hA0
 rw [Tryz.params9] at hA hval
 obtain ⟨v0, d0, rfl, rfl, h0⟩ := trodAll_one hA
 obtain ⟨rfl, rfl⟩ := trodVars_none hV
 obtain ⟨s0, rfl, _, _, _⟩ := open_string Tryz.underlying9 (hval 0 9 v0 rfl rfl) h0
 refine (normal_any s0 W).mono fun e W' ⟨he, hw⟩ => ?_
 exact ⟨_, he, post_true Tryz.laidOut Tryz.underlying4 (by kernel_rfl) (by kernel_rfl) rfl rfl hW' hw⟩
theorem PrinterNormal_holds : Rows.PrinterNormalSaid :=
 OpenClaim.holds_of_wide 9 Tryz.f9 rfl rfl rfl rfl rfl rfl rfl ⟨rfl, rfl, rfl, rfl, rfl⟩ rfl rfl rfl rfl rfl (by kernel_rfl) Tryz.func9 (by kernel_rfl)
  (of_decide_eq_true (by kernel_rfl)) (by unfold Func.isWrapper; first | (rw [if_pos (by decide +kernel)]; kernel_rfl) | (rw [if_neg (by decide +kernel)]; exact ⟨rfl, rfl⟩))
  (fun os started H enc _ => printerNormal_lifted os started H enc)
end Go.Proofs.YtdacpbdamliafaaGreat
