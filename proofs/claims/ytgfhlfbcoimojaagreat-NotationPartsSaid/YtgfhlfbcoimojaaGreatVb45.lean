/- Part 45 of 45 of a proof; its texts, joined: NuE, NuF, NvC, NvF. No condition. -/
import Derived.Test.YtgfhlfbcoimojaaGreatVb3
import Derived.Test.YtgfhlfbcoimojaaGreatVb42
import Derived.Test.YtgfhlfbcoimojaaGreatVb43
import Derived.Test.YtgfhlfbcoimojaaGreatVb44
import Derived.Test.YtgfhlfbcoimojaaGreatVb20
import Derived.Test.YtgfhlfbcoimojaaGreatVb14
import Derived.Test.YtgfhlfbcoimojaaGreatVb8
import Derived.Test.YtgfhlfbcoimojaaGreatVb32
import Derived.Test.YtgfhlfbcoimojaaGreatVb5
import Derived.SizedLaws

/- The errors of the parser: none is the error of no number, and each place is in the text. No program in sight. -/
namespace Go.Proofs.YtgfhlfbcoimojaaGreat.Np
open Lx (PTok)
open Tr (Nd)
def Sub (r l : List PTok) : Prop := ∀ t ∈ r, t ∈ l
def ErrOK {α : Type} (en : Nat) (l : List PTok) (x : R α) : Prop :=
 match x with
 | .ok _ r => Sub r l
 | .err i e => e ≠ 0 ∧ i ≤ en
 | .out => True
theorem ErrOK.bind {α β : Type} {en : Nat} {l : List PTok} {x : R α} {k : α → List PTok → R β} (h : ErrOK en l x) (hk : ∀ a r, Sub r l → ErrOK en l (k a r)) : ErrOK en l (x.bind k) := by
 cases x with
 | ok a r => exact hk a r h
 | err i e => exact h
 | out => trivial
theorem ErrOK.map {α β : Type} {en : Nat} {l : List PTok} {x : R α} {k : α → β} (h : ErrOK en l x) : ErrOK en l (x.map k) := h.bind fun _ _ h => h
theorem ErrOK.sub {α : Type} {en : Nat} {l m : List PTok} {x : R α} (h : ErrOK en l x) (hs : Sub l m) : ErrOK en m x := by
 cases x with
 | ok a r => exact fun t ht => hs t (h t ht)
 | err i e => exact h
 | out => trivial
theorem ErrOK.refuse {α : Type} {en : Nat} {l m : List PTok} (h : ∀ t ∈ l, t.from_ ≤ en) : ErrOK en m (refuse en l : R α) := by
 refine ⟨by decide, ?_⟩
 cases l with
 | nil => exact Nat.le_refl _
 | cons t r => exact h t (by simp)
theorem Sub.tail (l : List PTok) : Sub l.tail l := fun _ ht => List.mem_of_mem_tail ht
theorem Sub.refl (l : List PTok) : Sub l l := fun _ h => h
theorem Sub.cons (t : PTok) (r : List PTok) : Sub r (t :: r) := fun _ h => List.mem_cons_of_mem _ h
theorem place_le {en : Nat} {l : List PTok} (h : ∀ t ∈ l, t.from_ ≤ en) : place en l ≤ en := by
 cases l with
 | nil => exact Nat.le_refl _
 | cons t r => exact h t (by simp)
def In (en : Nat) (l : List PTok) : Prop := ∀ t ∈ l, t.from_ ≤ en
def Ops (en : Nat) (op : List Nat) : Prop := ∀ x ∈ op, x ≤ en
theorem In.sub {en : Nat} {l r : List PTok} (h : In en l) (hs : Sub r l) : In en r := fun t ht => h t (hs t ht)
theorem Ops.snoc {en x : Nat} {op : List Nat} (h : Ops en op) (hx : x ≤ en) : Ops en (op ++ [x]) := fun y hy => by
 rcases List.mem_append.1 hy with hy | hy
 ·exact h y hy
 ·rw [List.mem_singleton.1 hy]; exact hx
theorem scripts_err {g : Bool} {en : Nat} {b : List Nd} {x y : Option Nd} {l : List PTok} (h : In en l) : ErrOK en l (scripts g en b x y l) := by
 unfold scripts
 split
 ·exact Sub.refl l
 ·exact Sub.refl l
 ·exact Sub.refl l
 ·split
  ·exact ErrOK.refuse h
  ·exact Sub.refl l
theorem plain_err {en : Nat} {t : PTok} {r : List PTok} (h : In en (t :: r)) : ErrOK en (t :: r) (plainName t r) := by
 unfold plainName
 split
 ·exact ⟨by decide, h t (by simp)⟩
 ·exact Sub.cons t r
structure Errs (en f : Nat) : Prop where
 row : ∀ op l, Ops en op → In en l → ErrOK en l (pRow en f op l)
 within : ∀ b op l, Ops en op → In en l → ErrOK en l (pIn en f b op l)
 arg : ∀ op l, Ops en op → In en l → ErrOK en l (pArg en f op l)
 args : ∀ n op l, Ops en op → In en l → ErrOK en l (pArgs en f n op l)
 script : ∀ b op l, Ops en op → In en l → ErrOK en l (pScript en f b op l)
 item : ∀ op l, Ops en op → In en l → ErrOK en l (pItem en f op l)
 prim : ∀ op l, Ops en op → In en l → ErrOK en l (pPrim en f op l)
 name : ∀ op t r, Ops en op → In en (t :: r) → ErrOK en (t :: r) (pName en f op t r)
 cells : ∀ op ks b c l, Ops en op → In en l → ErrOK en l (pCells en f op ks b c l)
theorem errs (en : Nat) : ∀ f, Errs en f
 | 0 => by constructor <;> (intros; trivial)
 | f + 1 => by
  have ih := errs en f
  constructor
  ·intro op l ho hl
   rw [pRow]
   split
   ·refine ⟨by decide, ?_⟩
    rw [List.getLastD_eq_getLast?]
    cases hg : op.getLast? with
    | none => exact Nat.zero_le _
    | some x => exact ho x (List.mem_of_getLast? hg)
   ·split
    ·exact Sub.refl l
    ·exact (ih.item op l ho hl).bind fun a r hr => ((ih.row op r ho (hl.sub hr)).sub hr).map
  ·intro b op l ho hl
   rw [pIn]
   refine ((ih.row _ _ (ho.snoc (place_le hl)) (hl.sub (Sub.tail l))).sub (Sub.tail l)).bind fun a r hr => ?_
   split
   ·exact fun t ht => hr t (Sub.tail r t ht)
   ·exact ErrOK.refuse (hl.sub hr)
  ·intro op l ho hl
   cases l with
   | nil => rw [pArg]; exact ErrOK.refuse hl
   | cons t r =>
    rw [pArg]
    split
    ·exact Sub.cons t r
    ·split
     ·exact (ih.within _ _ _ ho hl).map
     ·split
      ·exact (plain_err hl).map
      ·exact ErrOK.refuse hl
  ·intro n op l ho hl
   cases n with
   | zero => rw [pArgs]; exact Sub.refl l
   | succ n => rw [pArgs]; exact (ih.arg op l ho hl).bind fun a r hr => ((ih.args n op r ho (hl.sub hr)).sub hr).map
  ·intro b op l ho hl
   rw [pScript]
   split
   ·exact ((ih.arg op _ ho (hl.sub (Sub.tail l))).sub (Sub.tail l)).map
   ·exact Sub.refl l
  ·intro op l ho hl
   rw [pItem]
   refine (ih.prim op l ho hl).bind fun a r hr => ((ih.script 95 op r ho (hl.sub hr)).sub hr).bind fun sub r hr => ((ih.script 94 op r ho (hl.sub hr)).sub hr).bind fun sup r hr => ?_
   split
   ·exact ((ih.script 95 op r ho (hl.sub hr)).sub hr).bind fun sub r hr => (scripts_err (hl.sub hr)).sub hr
   ·exact (scripts_err (hl.sub hr)).sub hr
  ·intro op l ho hl
   cases l with
   | nil => rw [pPrim]; exact ErrOK.refuse hl
   | cons t r =>
    rw [pPrim]
    split
    ·exact Sub.cons t r
    ·split
     ·exact ih.name op t r ho hl
     ·split
      ·exact ((ih.args 1 op r ho (hl.sub (Sub.cons t r))).sub (Sub.cons t r)).map
      ·split
       ·exact (ih.within _ _ _ ho hl).map
       ·split
        ·exact (ih.within _ _ _ ho hl).map
        ·split
         ·exact ih.within _ _ _ ho hl
         ·exact ErrOK.refuse hl
  ·intro op t r ho hl
   have hr := hl.sub (Sub.cons t r)
   rw [pName]
   split
   ·exact ((ih.args 2 op r ho hr).sub (Sub.cons t r)).map
   ·split
    ·split
     ·exact ((ih.within _ _ _ ho hr).sub (Sub.cons t r)).bind fun d r' h => ((ih.args 1 op r' ho (hl.sub h)).sub h).map
     ·exact ((ih.args 1 op r ho hr).sub (Sub.cons t r)).map
    ·split
     ·split
      ·exact ((ih.cells _ _ _ _ _ (ho.snoc (place_le hr)) (hr.sub (Sub.tail r))).sub (fun t' h => List.mem_cons_of_mem _ (Sub.tail r t' h))).map
      ·exact ErrOK.refuse hr
     ·split
      ·exact ((ih.args 1 op r ho hr).sub (Sub.cons t r)).map
      ·exact plain_err hl
  ·intro op ks b c l ho hl
   rw [pCells]
   refine (ih.row op l ho hl).bind fun items r hr => ?_
   have ht : Sub r.tail l := fun t h => hr t (Sub.tail r t h)
   split
   ·exact (ih.cells _ _ _ _ _ ho (hl.sub ht)).sub ht
   ·split
    ·exact ErrOK.refuse (hl.sub hr)
    ·split
     ·exact ⟨by decide, place_le (hl.sub hr)⟩
     ·split
      ·exact ht
      ·exact (ih.cells _ _ _ _ _ ho (hl.sub ht)).sub ht
theorem parseT_err (en : Nat) (l : List PTok) (hl : In en l) (i e : Nat) (h : parseT en l = .err i e) : e ≠ 0 ∧ i ≤ en := by
 have h1 : ErrOK en l (parseT en l) := by
  unfold parseT
  refine ((errs en _).row [] l (fun _ h => by cases h) hl).bind fun items r hr => ?_
  split
  ·exact hr
  ·exact ErrOK.refuse (hl.sub hr)
 rw [h] at h1
 exact h1
end Go.Proofs.YtgfhlfbcoimojaaGreat.Np

/- The errors of a text. No program in sight. -/
namespace Go.Proofs.YtgfhlfbcoimojaaGreat
open Np (R)
open Tr (Nd)
theorem lexGo_from (l : Lx.Bytes) : ∀ (f a : Nat), ∀ t ∈ (Lx.lexGo l f a).1, t.from_ ≤ l.length
 | 0, a, t, h => by cases h
 | f + 1, a, t, h => by
  rw [Lx.lexGo] at h
  split at h
  ·cases h
  ·split at h
   ·cases h
   ·rcases List.mem_cons.1 h with rfl | h
    ·simp only; omega
    ·exact lexGo_from l f _ t h
theorem parseS_err (l : List UInt8) (i e : Nat) (h : parseS l = .err i e) : e ≠ 0 ∧ i ≤ l.length := by
 unfold parseS at h
 split at h
 ·rename_i ts hl
  refine Np.parseT_err l.length ts (fun t ht => ?_) i e h
  refine lexGo_from l _ 0 t (?_ : t ∈ (Lx.lexAll l).1)
  rw [hl]
  exact ht
 ·rename_i ts p er hl
  cases h
  exact ⟨lexAll_err_ne l _ _ (by rw [hl]), Lx.lexAll_err_le l _ _ (by rw [hl])⟩
end Go.Proofs.YtgfhlfbcoimojaaGreat

/- The statement NotationParts walked. -/
namespace Go.Proofs.YtgfhlfbcoimojaaGreat
open Go.RowKit
open Tr (Nd)
open Np (R)
theorem infoNode20 : (Tryz.prog.info? 26).map (fun i => (i.zero, i.size, i.bytes)) = some (some (.agg #[.int .i64 0, .string ⟨#[]⟩, .int .i64 0, .slice none 0 0]), 4, 56) := by kernel_rfl
theorem toRow20_any (A : Option Addr) (n cap : Nat) (w : World) : Calls Tryz.prog 22 #[.slice A n cap] w fun e w' => e = .returned (.agg #[.int .i64 1, .string ⟨#[]⟩, .int .i64 0, .slice A n cap]) ∧ Fresh w w' := by
 go_enter Tryz.func22, Tryz.ntmps22
 go_wp2_with fail
 exact bodyPost_ret (v := .agg #[.int .i64 1, .string ⟨#[]⟩, .int .i64 0, .slice A n cap]) (by simp [results, Tryz.results22, go_sem]) rfl ⟨rfl, (Touch.refl _ _).alloc _⟩
theorem validItems_any (ks : List Nd) (A : Option Addr) (cap : Nat) (w : World) (hr : RepL w ks (.slice A ks.length cap)) (hc : Tr.countL ks ≤ 100000) :
  Calls Tryz.prog 13 #[.slice A ks.length cap] w fun e w' => e = .returned (.bool (Tr.valid (Np.slot ks))) ∧ Fresh w w' := by
 have HR := hid hr
 have HC := hid (show Tr.count (Np.slot ks) ≤ 1000000 by unfold Np.slot; rw [Tr.count]; omega)
 clear hr hc
 go_enter Tryz.func13, Tryz.ntmps13
 go_wp2_with fail
 refine (toRow20_any _ _ _ _).mono ?_
 rintro _ w1 ⟨rfl, hf1⟩
 have HF1 := hid hf1
 clear hf1
 go_wp2_with fail
 refine (rValid_any (Np.slot ks) _ _ (HR.out.fresh HF1.out) (Nat.zero_le _) HC.out).mono ?_
 rintro _ w2 ⟨rfl, hf2⟩
 have HF2 := hid (HF1.out.trans hf2)
 clear hf2
 go_wp2_with fail
 go_ret
 exact ⟨rfl, HF2.out⟩
theorem sameItems_any (ks ls : List Nd) (v1 v2 : Value) (w : World) (h1 : RepL w ks v1) (h2 : RepL w ls v2) :
  Calls Tryz.prog 14 #[v1, v2] w fun e w' => e = .returned (.bool (Tr.eqL ks ls)) ∧ Fresh w w' :=
 same_step ks ls v1 v2 w h1 h2 fun x _ y sx sy w' hx hy => equal_any _ x y sx sy w' (Nat.le_refl _) hx hy
def Sq (w3 W : World) (e : TypeId) (size : Nat) (v : Value) (n : Nat) (cs : List Value) : Prop := Fresh w3 W ∧ W.ownsRow w3.heap.size e size v n cs
section
variable {w3 W W' : World} {e : TypeId} {size n m : Nat} {v v' : Value} {cs ds : List Value}
theorem sq_empty {g : Nat} (h : Blk W g e #[]) (hB : w3.heap.size ≤ g) : W.ownsRow w3.heap.size e size (.slice (some ⟨g, 0, none⟩) 0 0) 0 [] :=
 ⟨by simp, .inr ⟨g, 0, #[], rfl, hB, h, Nat.le_refl _, by unfold maxLen; omega, by simp, by simp⟩⟩
theorem Sq.e1 (w3 : World) (e : TypeId) (size : Nat) : Sq w3 ((w3.alloc (.cells #[] e)).drew) e size (.slice (some ⟨w3.heap.size, 0, none⟩) 0 0) 0 [] := ⟨((Touch.refl _ _).alloc _).drew, sq_empty (W := (w3.alloc (.cells #[] e)).drew) (Blk.new w3 e #[]) (Nat.le_refl _)⟩
theorem sq_e0 (w3 : World) (n : Nat) (e : TypeId) (size : Nat) : Sq w3 ((w3.drewN n).alloc (.cells #[] e)) e size (.slice (some ⟨w3.heap.size, 0, none⟩) 0 0) 0 [] := ⟨((Touch.refl _ _).drewN n).alloc _, sq_empty (W := (w3.drewN n).alloc (.cells #[] e)) (Blk.new (w3.drewN n) e #[]) (Nat.le_refl _)⟩
theorem Sq.append (h : Sq w3 W e size v n cs) (ho : W'.ownsRow w3.heap.size e size v' m ds) (hg : W.grownBy W' v.ownBlock) : Sq w3 W' e size v' m ds := ⟨h.1.grown hg fun g hg => .inr (h.2.lt g hg).1, ho⟩
theorem Sq.cell (h : Sq w3 W e size v n cs) {p : Addr} {u : Value} (hc : w3.cell? p = some u) : W.cell? p = some u := h.1.cell hc (fun h => h)
theorem Sq.slice (h : Sq w3 W e size v n cs) : ∃ A c, v = .slice A n c := by
 rcases h.2.2 with ⟨h1, h2⟩ | ⟨g, cap, cur, h1, _⟩
 ·exact ⟨none, 0, by rw [h1, h2]⟩
 ·exact ⟨_, _, h1⟩
end
theorem RepL.src20 {W : World} {ks : List Nd} {v : Value} (h : RepL W ks v) : ∃ cs, NodesAt W ks cs ∧ Src W 4 v ks.length cs := by
 obtain ⟨A, cap, rfl⟩ := h.slice
 obtain ⟨_, cs, hc, hA⟩ := h.cells
 refine ⟨cs, hc, A, cap, rfl, hc.length, ?_⟩
 rcases hA with rfl | ⟨g, o, rfl, _, hx⟩
 ·have h0 : cs = [] := hc
  cases A with
  | none => exact .inl ⟨rfl, rfl, h0⟩
  | some ad => exact .inr ⟨ad, rfl, fun j u hu => by rw [h0] at hu; simp at hu⟩
 ·exact .inr ⟨_, rfl, fun j u hu => by rw [Addr.add_mid]; exact hx j u hu⟩
theorem join_rep {w3 W : World} {ks ms : List Nd} {v : Value} {csa csb : List Value} (h : Sq w3 W 26 4 v (ks.length + ms.length) (csa ++ csb)) (na : NodesAt w3 ks csa) (nb : NodesAt w3 ms csb) : RepL W (ks ++ ms) v := by
 have ho := h.2
 rw [← List.length_append] at ho
 exact ((na.append nb).fresh h.1).own ho
theorem countL_app20 (l m : List Nd) : Tr.countL (l ++ m) = Tr.countL l + Tr.countL m := by
 induction l with
 | nil => simp [Tr.countL]
 | cons x l ih => rw [List.cons_append, Tr.countL, Tr.countL, ih]; omega
theorem eqL_self (l : List Nd) : Tr.eqL l l = true := by
 have h := count_rep (n := Np.slot l)
 unfold Np.slot at h
 rw [Tr.eqN, Bool.and_eq_true] at h
 exact h.2
theorem pE_cases (X : R (List Nd)) (hne : X ≠ .out) (he : ∀ i e, X = .err i e → e ≠ 0) : pE X ≠ 0 ∨ ∃ ks r, X = .ok ks r ∧ Tr.valid (Np.slot ks) = true ∧ pE X = 0 ∧ pN X = Np.slot ks := by
 cases X with
 | out => exact absurd rfl hne
 | err i e => exact .inl (he i e rfl)
 | ok ks r =>
  cases hv : Tr.valid (Np.slot ks) with
  | true => exact .inr ⟨ks, r, rfl, hv, by simp [pE, hv], by simp [pN, hv]⟩
  | false => exact .inl (by simp [pE, hv])
theorem pI_le (l : List UInt8) : pI (parseS l) ≤ l.length := by
 cases h : parseS l with
 | out => exact Nat.zero_le _
 | err i e => exact (parseS_err l i e h).2
 | ok ks r => exact Nat.zero_le _
theorem join_str (a b : ByteArray) : a ++ (⟨#[32]⟩ : ByteArray) ++ b = ⟨(a.data.toList ++ 32 :: b.data.toList).toArray⟩ := by
 apply ByteArray.ext
 simp [ByteArray.data_append]
end Go.Proofs.YtgfhlfbcoimojaaGreat

/- The statement NotationParts: for all texts the law returns true, and the texts read as they did. No condition. -/
namespace Go.Proofs.YtgfhlfbcoimojaaGreat
open Go.ChangeShapes Go.WideShapes Go.ChangeAt Go.RowKit
open Go.ChangeMaps (open_string shut_string)
open Tr (Nd)
open Np (R)
attribute [local go_sem] stillV stillUpon
theorem both_call (a b : ByteArray) (ks1 ks2 : List Nd) (r1 r2 : List Lx.PTok) (w : World) (h1 : parseS a.data.toList = .ok ks1 r1) (h2 : parseS b.data.toList = .ok ks2 r2) (hv : Tr.valid (Np.slot (ks1 ++ ks2)) = true) (hs : a.size + b.size ≤ 600) :
  Calls Tryz.prog 8 #[.string ⟨(a.data.toList ++ 32 :: b.data.toList).toArray⟩, .pointer none] w fun e w' =>
  ∃ A cap, e = .returned (.tuple #[nv (Np.slot (ks1 ++ ks2)) (.slice A (ks1 ++ ks2).length cap), .int .i64 0, .int .i64 0]) ∧ RepL w' (ks1 ++ ks2) (.slice A (ks1 ++ ks2).length cap) ∧ Fresh w w' := by
 have hp := parseS_two _ _ _ _ _ _ h1 h2
 have hla : a.data.toList.length = a.size := by simp
 have hlb : b.data.toList.length = b.size := by simp
 have hlen : (a.data.toList ++ 32 :: b.data.toList).length = a.size + b.size + 1 := by rw [List.length_append, List.length_cons, hla, hlb]; omega
 have hc := Lx.lexAll_count (a.data.toList ++ 32 :: b.data.toList)
 have h := parse_call ⟨(a.data.toList ++ 32 :: b.data.toList).toArray⟩ w (by show (a.data.toList ++ 32 :: b.data.toList).toArray.size ≤ _; rw [List.size_toArray]; omega) (by show (Lx.lexAll (a.data.toList ++ 32 :: b.data.toList)).1.length ≤ _; omega)
 have e0 : (⟨(a.data.toList ++ 32 :: b.data.toList).toArray⟩ : ByteArray).data.toList = a.data.toList ++ 32 :: b.data.toList := rfl
 rw [e0, hp] at h
 have e1 : pN (.ok (ks1 ++ ks2) []) = Np.slot (ks1 ++ ks2) := by simp [pN, hv]
 have e2 : pE (.ok (ks1 ++ ks2) []) = 0 := by simp [pE, hv]
 rw [e1, e2] at h
 exact h
set_option maxRecDepth 100000 in
set_option maxHeartbeats 4000000 in
theorem nparts_any (a b : ByteArray) (w : World) (ha : a.size ≤ 140737488351232) (hb : b.size ≤ 140737488351232) : Calls Tryz.prog 4 #[.string a, .string b] w fun e w' => e = .returned (.bool true) ∧ Fresh w w' := by
 by_cases hs : a.size + b.size ≤ 600
 ·have c2 : decide ((600 : Int) < (a.size : Int) + (b.size : Int)) = false := by simp only [decide_eq_false_iff_not]; omega
  have hla : a.data.toList.length = a.size := by simp
  have hlb : b.data.toList.length = b.size := by simp
  have HP := hid (fun (w : World) => parse_call a w (by omega) (by have := Lx.lexAll_count a.data.toList; omega))
  have HQ := hid (fun (w : World) => parse_call b w (by omega) (by have := Lx.lexAll_count b.data.toList; omega))
  have hia := pI_le a.data.toList
  have hib := pI_le b.data.toList
  have HCA := hid (pE_cases (parseS a.data.toList) (parseS_ends _) (fun i e h => (parseS_err _ i e h).1))
  have HCB := hid (pE_cases (parseS b.data.toList) (parseS_ends _) (fun i e h => (parseS_err _ i e h).1))
  have HBO := hid (fun (ks1 ks2 : List Nd) (r1 r2 : List Lx.PTok) (w : World) h1 h2 hv => both_call a b ks1 ks2 r1 r2 w h1 h2 hv hs)
  have hka := pN_count (parseS a.data.toList)
  have hkb := pN_count (parseS b.data.toList)
  rw [hla] at hia
  rw [hlb] at hib
  obtain ⟨X, hX⟩ : ∃ X, parseS a.data.toList = X := ⟨_, rfl⟩
  obtain ⟨Y, hY⟩ : ∃ Y, parseS b.data.toList = Y := ⟨_, rfl⟩
  have HJ := hid (join_str a b)
  rw [hX] at HP HCA hia hka
  rw [hY] at HQ HCB hib hkb
  have HX := hid hX
  have HY := hid hY
  have ia1 : decide ((pI X : Int) < 0) = false := by simp
  have ib1 : decide ((pI Y : Int) < 0) = false := by simp
  have ia2 : decide ((a.size : Int) < (pI X : Int)) = false := by simp only [decide_eq_false_iff_not]; omega
  have ib2 : decide ((b.size : Int) < (pI Y : Int)) = false := by simp only [decide_eq_false_iff_not]; omega
  have ia2n : decide (a.size < pI X) = false := by simp only [decide_eq_false_iff_not]; omega
  have ib2n : decide (b.size < pI Y) = false := by simp only [decide_eq_false_iff_not]; omega
  clear hX hY hla hlb hia hib
  obtain ⟨i0, hi, hz0, hz1, hz2⟩ := info_parts infoNode20
  go_enter Tryz.func4, Tryz.ntmps4
  go_wp2_with fail
  refine (awake20_any _).mono ?_
  rintro _ w1 ⟨rfl, hf1⟩
  have HF1 := hid hf1
  clear hf1
  go_wp2_with fail
  refine (HP.out _).mono ?_
  rintro _ w2 ⟨A, ca, rfl, hra, hf2⟩
  have HF2 := hid (HF1.out.trans hf2)
  have HRA := hid hra
  clear hf2 hra HP
  obtain ⟨n, hn⟩ : ∃ n, pN X = n := ⟨_, rfl⟩
  obtain ⟨m, hm⟩ : ∃ m, pN Y = m := ⟨_, rfl⟩
  rw [hn] at HRA hka ⊢
  rw [hm] at HQ hkb
  have HN := hid hn
  have HM := hid hm
  clear hn hm
  have HBX := hid (Blk.new w2 26 #[.int .i64 n.kind, .string ⟨n.text.toArray⟩, .int .i64 n.cols, .slice A n.kids.length ca])
  go_wp2_with fail
  refine (HQ.out _).mono ?_
  rintro _ w3 ⟨B, cb', rfl, hrb, hf3⟩
  have HF3 := hid ((HF2.out.alloc (.cells #[.int .i64 n.kind, .string ⟨n.text.toArray⟩, .int .i64 n.cols, .slice A n.kids.length ca] 26)).trans hf3)
  have HBX3 := hid (hf3.blk HBX.out fun h => h)
  have HRA3 := hid (HRA.out.fresh (Touch.pre hf3))
  have HRB := hid hrb
  clear hf3 hrb HQ HBX HRA
  go_wp2_with fail
  have hl2 := HBX3.out.lt
  have hl3 : w2.heap.size < w3.heap.size + 1 := by omega
  have k3 := cell_regrown ((HBX3.out.alloc (.cells #[.int .i64 m.kind, .string ⟨m.text.toArray⟩, .int .i64 m.cols, .slice B m.kids.length cb'] 26)).cell 3 |>.trans rfl)
  have j3 := cell_regrown ((Blk.new w3 26 #[.int .i64 m.kind, .string ⟨m.text.toArray⟩, .int .i64 m.cols, .slice B m.kids.length cb']).cell 3 |>.trans rfl)
  have hf4 := HF3.out.alloc (.cells #[.int .i64 m.kind, .string ⟨m.text.toArray⟩, .int .i64 m.cols, .slice B m.kids.length cb'] 26)
  have hra4 := HRA3.out.fresh ((Touch.refl (fun _ => False) w3).alloc (.cells #[.int .i64 m.kind, .string ⟨m.text.toArray⟩, .int .i64 m.cols, .slice B m.kids.length cb'] 26))
  have hrb4 := HRB.out.fresh ((Touch.refl (fun _ => False) w3).alloc (.cells #[.int .i64 m.kind, .string ⟨m.text.toArray⟩, .int .i64 m.cols, .slice B m.kids.length cb'] 26))
  generalize w3.alloc (.cells #[.int .i64 m.kind, .string ⟨m.text.toArray⟩, .int .i64 m.cols, .slice B m.kids.length cb'] 26) = W4 at k3 j3 hf4 hra4 hrb4 ⊢
  have HF4 := hid hf4
  have HRA4 := hid hra4
  have HRB4 := hid hrb4
  clear hf4 hra4 hrb4
  refine wp_region_mix [([(1, true), (2, true), (4, true), (5, true), (0, false), (3, false)], 6)] [(7, true)] (by kernel_rfl) (fun _ _ d _ _ h => by cases d <;> exact h) (by kernel_rfl) ?_
  refine wpMix_seg ?_
  repeat (refine wpSeq_plain rfl (fun K hK => ?_); go_simp; refine hK _ ?_; clear hK K)
  refine wpSeq_lone rfl (fun K hK => ?_)
  go_wp2_with fail
  have hsq5 := sq_e0 W4 1 26 4
  refine hK _ _ (growing_fresh hsq5.1) ?_
  generalize ((W4.drewN 1).alloc (.cells #[] 26)) = W5 at hsq5 ⊢
  have HSQ5 := hid hsq5
  clear hsq5 hK K
  obtain ⟨csa, hna, hsa⟩ := HRA4.out.src20
  obtain ⟨csb, hnb, hsb⟩ := HRB4.out.src20
  have NA := hid hna
  have NB := hid hnb
  have SA := hid hsa
  have SB := hid hsb
  have OA := hid hna.oneCell
  have OB := hid hnb.oneCell
  clear hna hnb hsa hsb
  have hla := Tr.countL_len n.kids
  have hlb := Tr.countL_len m.kids
  have hca := Tr.count_kids n
  have hcb := Tr.count_kids m
  refine wpSeq_lone rfl (fun K hK => ?_)
  go_wp2_with (at_builtin; refine wpList_append_src _ rfl (.tmp 56) (.tmp 58) 24 rfl W4.heap.size 26 i0 _ 4 56 Tryz.underlying24 hi hz0 hz1 hz2 rfl (by decide) (.slice (some ⟨W4.heap.size, 0, none⟩) 0 0) 0 [] (by simp [Act.eval]) HSQ5.out.2 (.slice A n.kids.length ca) n.kids.length csa (by simp [Act.eval]) (SA.out.fresh HSQ5.out.1) OA.out (by unfold maxLen; omega) (by omega) (Touch.size HSQ5.out.1) ?_; intro v1 w6 ho6 hg6 _; refine Stay.mk ?_)
  rw [Nat.zero_add, List.nil_append] at ho6
  have hsq6 := HSQ5.out.append ho6 hg6
  obtain ⟨A6, c6, rfl⟩ := hsq6.slice
  have HSQ6 := hid hsq6
  clear hsq6 ho6 hg6
  refine Stay.go ?_
  go_wp2_with fail
  refine hK _ _ (growing_fresh HSQ6.out.1) ?_
  clear hK K
  refine wpSeq_shut rfl (fun K hK => ?_)
  go_wp2_with (at_builtin; refine wpList_append_src _ rfl (.tmp 59) (.tmp 61) 24 rfl W4.heap.size 26 i0 _ 4 56 Tryz.underlying24 hi hz0 hz1 hz2 rfl (by decide) (.slice A6 n.kids.length c6) n.kids.length csa (by simp [Act.eval]) HSQ6.out.2 (.slice B m.kids.length cb') m.kids.length csb (by simp [Act.eval]) (SB.out.fresh HSQ6.out.1) OB.out (by unfold maxLen; omega) (by omega) (Touch.size HSQ6.out.1) ?_; intro v2 w7 ho7 hg7 _; refine Stay.mk ?_)
  have hsq7 := HSQ6.out.append ho7 hg7
  have hr7 := join_rep hsq7 NA.out NB.out
  obtain ⟨A7, c7, rfl⟩ := hsq7.slice
  rw [← List.length_append] at hr7
  have HF7 := hid (HF4.out.trans hsq7.1)
  have HR7 := hid hr7
  clear hsq7 ho7 hg7 hr7 k3 j3 HSQ5 HSQ6 SA SB OA OB NA NB
  refine Stay.go ?_
  go_wp2_with fail
  refine wpMix_last ?_
  repeat (refine wpSeq_plain rfl (fun K hK => ?_); go_simp; refine hK _ ?_; clear hK K)
  refine wpSeq_end ?_
  obtain ⟨ex, hex⟩ : ∃ ex, pE X = ex := ⟨_, rfl⟩
  obtain ⟨ey, hey⟩ : ∃ ey, pE Y = ey := ⟨_, rfl⟩
  rw [hex] at HCA ⊢
  rw [hey] at HCB ⊢
  clear hex hey
  rcases HCA.out with h0 | ⟨ks, r, hxk, _, h0, hnk⟩
  ·have e0 := fail_ne h0
   have e1 : (!((ex : Int) == 0)) = true := by rw [e0]; rfl
   have e2 : ((ex : Int) != 0) = true := e1
   clear h0
   go_wp2_with fail
   go_ret
   exact ⟨rfl, HF7.out⟩
  subst h0
  rcases HCB.out with h0 | ⟨ls, q, hyk, _, h0, hmk⟩
  ·have e0 := fail_ne h0
   have e1 : (!((ey : Int) == 0)) = true := by rw [e0]; rfl
   have e2 : ((ey : Int) != 0) = true := e1
   clear h0
   go_wp2_with fail
   go_ret
   exact ⟨rfl, HF7.out⟩
  subst h0
  have hnk2 : n.kids = ks := by rw [← HN.out, hnk]; rfl
  have hmk2 : m.kids = ls := by rw [← HM.out, hmk]; rfl
  have HXK := hid (show parseS a.data.toList = .ok n.kids r by rw [HX.out, hxk, hnk2])
  have HYK := hid (show parseS b.data.toList = .ok m.kids q by rw [HY.out, hyk, hmk2])
  clear hxk hyk hnk hmk hnk2 hmk2 HCA HCB
  have HCC := hid (show Tr.countL (n.kids ++ m.kids) ≤ 100000 by rw [countL_app20]; omega)
  go_wp2_with fail
  have hva := validItems_any _ _ _ w7 HR7.out HCC.out
  rw [List.length_append] at hva
  refine hva.mono ?_
  clear hva
  rintro _ w8 ⟨rfl, hf8⟩
  have HF8 := hid (HF7.out.trans hf8)
  have HR8 := hid (HR7.out.fresh hf8)
  clear hf8 HR7
  cases hv : Tr.valid (Np.slot (n.kids ++ m.kids)) with
  | false =>
   go_wp2_with fail
   go_ret
   exact ⟨rfl, HF8.out⟩
  | true =>
   go_wp2_with fail
   have HE := hid (HBO.out n.kids m.kids r q w8 HXK.out HYK.out hv)
   rw [HJ.out]
   refine HE.out.mono ?_
   rintro _ w9 ⟨A9, c9, rfl, hr9, hf9⟩
   have HF9 := hid ((HF8.out.trans hf9).alloc (.cells #[.int .i64 1, .string ⟨#[]⟩, .int .i64 0, .slice A9 (n.kids ++ m.kids).length c9] 26))
   have HR9 := hid (hr9.fresh ((Touch.refl (fun _ => False) w9).alloc (.cells #[.int .i64 1, .string ⟨#[]⟩, .int .i64 0, .slice A9 (n.kids ++ m.kids).length c9] 26)))
   have HS9 := hid (HR8.out.fresh (hf9.alloc (.cells #[.int .i64 1, .string ⟨#[]⟩, .int .i64 0, .slice A9 (n.kids ++ m.kids).length c9] 26)))
   rw [List.length_append] at HF9 HR9 HS9 ⊢
   clear hf9 hr9
   go_wp2_with fail
   refine (sameItems_any _ _ _ _ _ HR9.out HS9.out).mono ?_
   rintro _ w10 ⟨rfl, hf10⟩
   rw [eqL_self]
   have HF10 := hid (HF9.out.trans hf10)
   clear hf10
   go_wp2_with fail
   go_ret
   exact ⟨rfl, HF10.out⟩
 ·have c2 : decide ((600 : Int) < (a.size : Int) + (b.size : Int)) = true := by simp only [decide_eq_true_eq]; omega
  go_enter Tryz.func4, Tryz.ntmps4
  go_wp2_with fail
  refine (awake20_any _).mono ?_
  rintro _ w1 ⟨rfl, hf1⟩
  have HF1 := hid hf1
  clear hf1
  go_wp2_with fail
  refine (awake20_any _).mono ?_
  rintro _ w2 ⟨rfl, hf2⟩
  have HF2 := hid (HF1.out.trans hf2)
  clear hf2
  go_wp2_with fail
  go_ret
  exact ⟨rfl, HF2.out⟩
set_option maxRecDepth 100000 in
theorem notationParts_lifted (os : Os) (started : os.Started) (H : Type) (enc : TypeId × Value → H) :
  ReturnsInHanded {} Tryz.checked os 4 .any (Rows.notationPartsSpec.pre6 enc Tryz.prog Tryz.f4 Rows.notationPartsRow.domain false) (Rows.notationPartsSpec.post enc Tryz.prog Tryz.f4 false true false false) := by
 refine returnsInHanded_of_change_sized (C := Tryz.checked) Tryz.ownKnob started (by kernel_rfl) Tryz.func4
  (ChangeSpec.witness6 (enc := enc) (C := Tryz.checked) false ⟨#[], #[.string ⟨#[]⟩, .string ⟨#[]⟩], []⟩ 8 (by kernel_rfl) (by kernel_rfl) (by kernel_rfl) (by kernel_rfl)) ?_
 intro W base args ds gs before hval0 hW hcnd hsz0 _
 have hval : ∀ (j : Nat) t v, Tryz.f4.params[j]? = some t → args[j]? = some v → Value.okWide Tryz.prog W .any base t v := hval0
 have hW' := hW
 obtain ⟨p, q, hA0, hV, rfl, hfz, hnd⟩ := hW
 have hA : DataW.TrodAll enc Tryz.prog W 0 (fun _ => true) true Tryz.f4.params.toList args.toList ds p := hA0
 have hsz : (DataW.weightsEach Tryz.prog (Tryz.f4.params.toList ++ Rows.notationPartsSpec.plain.varTypes Tryz.prog) (ds ++ gs)).all (· ≤ reachBytes) = true := hsz0
 rw [Tryz.params4] at hA hval hsz
 obtain ⟨v0, v1, d0, d1, p0, p1, rfl, rfl, rfl, h0, h1⟩ := trodAll_two hA
 obtain ⟨rfl, rfl⟩ := trodVars_none hV
 obtain ⟨s0, rfl, rfl, _, _⟩ := open_string Tryz.underlying9 (hval 0 9 v0 rfl rfl) h0
 have z0 : s0.size ≤ 140737488351232 := by have h := sized_string hsz (j := 0) (t := 9) (bytes := s0.data.toList) rfl rfl; rw [show s0.data.toList.length = s0.size by simp] at h; exact h
 obtain ⟨s1, rfl, rfl, _, _⟩ := open_string Tryz.underlying9 (hval 1 9 v1 rfl rfl) h1
 have z1 : s1.size ≤ 140737488351232 := by have h := sized_string hsz (j := 1) (t := 9) (bytes := s1.data.toList) rfl rfl; rw [show s1.data.toList.length = s1.size by simp] at h; exact h
 refine (nparts_any s0 s1 W z0 z1).mono fun e W' ⟨he, hw⟩ => ?_
 exact ⟨_, he, post_true Tryz.laidOut Tryz.underlying4 (by kernel_rfl) (by kernel_rfl) rfl rfl hW' hw⟩
theorem NotationParts_holds : Rows.NotationPartsSaid :=
 OpenClaim.holds_of_wide 4 Tryz.f4 rfl rfl rfl rfl rfl rfl rfl ⟨rfl, rfl, rfl, rfl, rfl⟩ rfl rfl rfl rfl rfl (by kernel_rfl) Tryz.func4 (by kernel_rfl)
  (of_decide_eq_true (by kernel_rfl)) (by unfold Func.isWrapper; first | (rw [if_pos (by decide +kernel)]; kernel_rfl) | (rw [if_neg (by decide +kernel)]; exact ⟨rfl, rfl⟩))
  (fun os started H enc _ => notationParts_lifted os started H enc)
end Go.Proofs.YtgfhlfbcoimojaaGreat
