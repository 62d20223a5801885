/- Part 10 of 48 of a proof; its texts, joined: SpB, Tkr, App. No condition. -/
import Derived.Test.YtncnoeoicaglaaaGreatVc9
import Derived.Test.YtncnoeoicaglaaaGreatVc1
import Derived.Test.YtncnoeoicaglaaaGreatVc7
import Derived.Maps.AppendAt
import Derived.Deep.RegionLaw
import Derived.Deep.RegionHeld3
import Derived.Deep.DeepCutAuto

/- The walks of Joins, and of the reference's Letter, Joins, Quoted, Spell. -/
namespace Go.Proofs.YtncnoeoicaglaaaGreat
open Go.RowKit
def letB (b : UInt8) : Bool := Lx.isB 3 b
def joinsL (ka kb : Int) (tb : List UInt8) : Bool := (ka == 2 && kb == 2) || (ka == 4 && kb == 1 && (match tb with | [] => false | b :: _ => Lx.isB 3 b))
theorem letter_of_256 : ∀ n : Fin 256, (Lx.cls n.1 == 3) = (decide (97 ≤ n.1 ∧ n.1 ≤ 122) || decide (65 ≤ n.1 ∧ n.1 ≤ 90)) := by decide +kernel
theorem or32_of_256 : ∀ n : Fin 256, (Lx.cls n.1 == 3) = (decide ((97 : Int) ≤ bits .or .u8 (n.1 : Int) 32) && decide (bits .or .u8 (n.1 : Int) 32 ≤ (122 : Int))) := by decide +kernel
set_option maxHeartbeats 400000 in
theorem rLetter_any (x : Int) (b : UInt8) (hx : x = b.toNat) (w : World) :
  Calls Tryz.prog 23 #[.int .u8 x] w fun e w' => e = .returned (.bool (Lx.isB 3 b)) ∧ w' = w := by
 have h := letter_of_256 ⟨b.toNat, b.toNat_lt⟩
 have hb : Lx.isB 3 b = (Lx.cls b.toNat == 3) := rfl
 rw [hb, h]
 have HX := hid hx
 clear h hb hx
 by_cases c1 : 97 ≤ b.toNat ∧ b.toNat ≤ 122
 ·have b1 : decide (97 ≤ x) = true := by rw [HX.out]; simp; omega
  have b2 : decide (x ≤ 122) = true := by rw [HX.out]; simp; omega
  have hr := hid (show (decide (97 ≤ b.toNat ∧ b.toNat ≤ 122) || decide (65 ≤ b.toNat ∧ b.toNat ≤ 90)) = true by simp [c1])
  clear c1
  go_enter Tryz.func23, Tryz.ntmps23
  go_wp2
  go_ret
  exact ⟨by rw [hr.out]; rfl, rfl⟩
 ·by_cases c2 : 65 ≤ b.toNat ∧ b.toNat ≤ 90
  ·have b1 : decide (97 ≤ x) = false := by rw [HX.out]; simp; omega
   have b3 : decide (65 ≤ x) = true := by rw [HX.out]; simp; omega
   have b4 : decide (x ≤ 90) = true := by rw [HX.out]; simp; omega
   have hr := hid (show (decide (97 ≤ b.toNat ∧ b.toNat ≤ 122) || decide (65 ≤ b.toNat ∧ b.toNat ≤ 90)) = true by simp [c2])
   clear c1 c2
   go_enter Tryz.func23, Tryz.ntmps23
   go_wp2
   go_ret
   exact ⟨by rw [hr.out]; rfl, rfl⟩
  ·have hr := hid (show (decide (97 ≤ b.toNat ∧ b.toNat ≤ 122) || decide (65 ≤ b.toNat ∧ b.toNat ≤ 90)) = false by simp [c1, c2])
   by_cases d1 : 97 ≤ b.toNat
   ·have b1 : decide (97 ≤ x) = true := by rw [HX.out]; simp; omega
    have b2 : decide (x ≤ 122) = false := by rw [HX.out]; simp; omega
    have b3 : decide (65 ≤ x) = true := by rw [HX.out]; simp; omega
    have b4 : decide (x ≤ 90) = false := by rw [HX.out]; simp; omega
    clear c1 c2 d1
    go_enter Tryz.func23, Tryz.ntmps23
    go_wp2
    go_ret
    exact ⟨by rw [hr.out]; rfl, rfl⟩
   ·have b1 : decide (97 ≤ x) = false := by rw [HX.out]; simp; omega
    by_cases d2 : 65 ≤ b.toNat
    ·have b3 : decide (65 ≤ x) = true := by rw [HX.out]; simp; omega
     have b4 : decide (x ≤ 90) = false := by rw [HX.out]; simp; omega
     clear c1 c2 d1 d2
     go_enter Tryz.func23, Tryz.ntmps23
     go_wp2
     go_ret
     exact ⟨by rw [hr.out]; rfl, rfl⟩
    ·have b3 : decide (65 ≤ x) = false := by rw [HX.out]; simp; omega
     clear c1 c2 d1 d2
     go_enter Tryz.func23, Tryz.ntmps23
     go_wp2
     go_ret
     exact ⟨by rw [hr.out]; rfl, rfl⟩
theorem isEmpty_toList (s : ByteArray) : s.toList.isEmpty = decide (s.size = 0) := by
 rw [ByteArray.toList_eq, Bool.eq_iff_iff, List.isEmpty_iff_length_eq_zero, decide_eq_true_iff]
 simp
theorem head_list (s : ByteArray) (h : 0 < s.size) : s.data.toList = (s[0]'h) :: s.data.toList.drop 1 := by
 have := List.drop_eq_getElem_cons (l := s.data.toList) (i := 0) (by simpa using h)
 rw [List.drop_zero] at this
 exact this
theorem nil_list (s : ByteArray) (h : s.size = 0) : s.data.toList = [] := by
 apply List.eq_nil_of_length_eq_zero; simpa using h
theorem bool_ret (b c : Bool) (h : b = c) : Ending.returned (.bool b) = .returned (.bool c) := by rw [h]
set_option maxHeartbeats 400000 in
theorem joins_any (ka fa ta kb fb tb' : Int) (sa sb : ByteArray) (w : World) :
  Calls Tryz.prog 143 #[.agg #[.int .i64 ka, .string sa, .int .i64 fa, .int .i64 ta], .agg #[.int .i64 kb, .string sb, .int .i64 fb, .int .i64 tb']] w fun e w' => e = .returned (.bool (joinsL ka kb sb.data.toList)) ∧ Fresh w w' := by
 by_cases c1 : ka = 2
 ·subst c1
  by_cases c2 : kb = 2
  ·subst c2
   have hr := hid (show joinsL 2 2 sb.data.toList = true from rfl)
   go_enter Tryz.func143, Tryz.ntmps143
   go_wp2
   go_ret
   exact ⟨by rw [hr.out]; rfl, ((Touch.refl _ w).alloc _).alloc _⟩
  ·have b2 : (kb == 2) = false := by simpa using c2
   have hr := hid (show joinsL 2 kb sb.data.toList = false by unfold joinsL; rw [b2]; rfl)
   clear c2
   go_enter Tryz.func143, Tryz.ntmps143
   go_wp2
   go_ret
   exact ⟨by rw [hr.out]; rfl, ((Touch.refl _ w).alloc _).alloc _⟩
 ·have b1 : (ka == 2) = false := by simpa using c1
  by_cases c2 : ka = 4
  ·subst c2
   clear b1 c1
   by_cases c3 : kb = 1
   ·subst c3
    by_cases c4 : sb.size = 0
    ·have hr := hid (show joinsL 4 1 sb.data.toList = false by rw [nil_list sb c4]; rfl)
     have b4 : sb.toList.isEmpty = true := by rw [isEmpty_toList, decide_eq_true_iff]; exact c4
     clear c4
     go_enter Tryz.func143, Tryz.ntmps143
     go_wp2
     go_ret
     exact ⟨by rw [hr.out]; rfl, ((Touch.refl _ w).alloc _).alloc _⟩
    ·have h0 : 0 < sb.size := by omega
     have hr : joinsL 4 1 sb.data.toList = (decide ((97 : Int) ≤ bits .or .u8 ((sb[0]'h0).toNat : Int) 32) && decide (bits .or .u8 ((sb[0]'h0).toNat : Int) 32 ≤ (122 : Int))) := by
      rw [head_list sb h0]; exact or32_of_256 ⟨(sb[0]'h0).toNat, (sb[0]'h0).toNat_lt⟩
     rw [hr]
     clear hr c4
     have b4 : sb.toList.isEmpty = false := by rw [isEmpty_toList, decide_eq_false_iff_not]; omega
     cases d1 : decide ((97 : Int) ≤ bits .or .u8 ((sb[0]'h0).toNat : Int) 32) with
     | true =>
      go_enter Tryz.func143, Tryz.ntmps143
      go_wp2
      go_ret
      exact ⟨rfl, ((Touch.refl _ w).alloc _).alloc _⟩
     | false =>
      go_enter Tryz.func143, Tryz.ntmps143
      go_wp2
      go_ret
      exact ⟨rfl, ((Touch.refl _ w).alloc _).alloc _⟩
   ·have b2 : (kb != 1) = true := by rw [bne_iff_ne]; exact c3
    have hr := hid (show joinsL 4 kb sb.data.toList = false by unfold joinsL; rw [beq_eq_false_iff_ne.2 c3]; rfl)
    clear c3
    go_enter Tryz.func143, Tryz.ntmps143
    go_wp2
    go_ret
    exact ⟨by rw [hr.out]; rfl, ((Touch.refl _ w).alloc _).alloc _⟩
  ·have b2 : (ka != 4) = true := by rw [bne_iff_ne]; exact c2
   have hr := hid (show joinsL ka kb sb.data.toList = false by unfold joinsL; rw [b1, beq_eq_false_iff_ne.2 c2]; rfl)
   clear c1 c2
   go_enter Tryz.func143, Tryz.ntmps143
   go_wp2
   go_ret
   exact ⟨by rw [hr.out]; rfl, ((Touch.refl _ w).alloc _).alloc _⟩
set_option maxHeartbeats 400000 in
theorem rJoins_any (ka fa ta kb fb tb' : Int) (sa sb : ByteArray) (w : World) :
  Calls Tryz.prog 8 #[.agg #[.int .i64 ka, .string sa, .int .i64 fa, .int .i64 ta], .agg #[.int .i64 kb, .string sb, .int .i64 fb, .int .i64 tb']] w fun e w' => e = .returned (.bool (joinsL ka kb sb.data.toList)) ∧ Fresh w w' := by
 by_cases c1 : ka = 4
 ·subst c1
  by_cases c2 : kb = 1
  ·subst c2
   by_cases c4 : sb.size = 0
   ·have hr := hid (show joinsL 4 1 sb.data.toList = false by rw [nil_list sb c4]; rfl)
    have b4 : decide (0 < sb.size) = false := by rw [decide_eq_false_iff_not]; omega
    clear c4
    go_enter Tryz.func8, Tryz.ntmps8
    go_wp2
    go_ret
    exact ⟨by rw [hr.out]; rfl, ((Touch.refl _ w).alloc _).alloc _⟩
   ·have h0 : 0 < sb.size := by omega
    have hr := hid (show joinsL 4 1 sb.data.toList = Lx.isB 3 (sb[0]'h0) by rw [head_list sb h0]; rfl)
    have b4 : decide (0 < sb.size) = true := by rw [decide_eq_true_iff]; omega
    clear c4
    go_enter Tryz.func8, Tryz.ntmps8
    go_wp2_with fail
    refine (rLetter_any _ (sb[0]'h0) rfl _).mono ?_
    rintro e1 w1 ⟨rfl, rfl⟩
    go_wp2_with fail
    go_ret
    exact ⟨by rw [hr.out]; rfl, ((Touch.refl _ w).alloc _).alloc _⟩
  ·have b2 : (kb == 1) = false := by simpa using c2
   have hr := hid (show joinsL 4 kb sb.data.toList = false by unfold joinsL; rw [b2]; rfl)
   clear c2
   go_enter Tryz.func8, Tryz.ntmps8
   go_wp2
   go_ret
   exact ⟨by rw [hr.out]; rfl, ((Touch.refl _ w).alloc _).alloc _⟩
 ·have b1 : (ka == 4) = false := by simpa using c1
  by_cases c2 : ka = 2
  ·subst c2
   by_cases c3 : kb = 2
   ·subst c3
    have hr := hid (show joinsL 2 2 sb.data.toList = true from rfl)
    clear c1 b1
    go_enter Tryz.func8, Tryz.ntmps8
    go_wp2
    go_ret
    exact ⟨by rw [hr.out]; rfl, ((Touch.refl _ w).alloc _).alloc _⟩
   ·have b3 : (kb == 2) = false := by simpa using c3
    have hr := hid (show joinsL 2 kb sb.data.toList = false by unfold joinsL; rw [b3]; rfl)
    clear c1 b1 c3
    go_enter Tryz.func8, Tryz.ntmps8
    go_wp2
    go_ret
    exact ⟨by rw [hr.out]; rfl, ((Touch.refl _ w).alloc _).alloc _⟩
  ·have b2 : (ka == 2) = false := by simpa using c2
   have hr := hid (show joinsL ka kb sb.data.toList = false by unfold joinsL; rw [b1, b2]; rfl)
   clear c1 c2
   go_enter Tryz.func8, Tryz.ntmps8
   go_wp2
   go_ret
   exact ⟨by rw [hr.out]; rfl, ((Touch.refl _ w).alloc _).alloc _⟩
end Go.Proofs.YtncnoeoicaglaaaGreat

/- Rows of tokens in memory. -/
namespace Go.Proofs.YtncnoeoicaglaaaGreat
open Go.RowKit
def ptokCells (x : Lx.PTok) : List Value := [.int .i64 x.kind, .string ⟨x.text.toArray⟩, .int .i64 x.from_, .int .i64 x.to_]
def TokRow (W : World) (v : Value) (ts : List Lx.PTok) : Prop :=
 ∃ A cap, v = .slice A ts.length cap ∧ ∀ i (hi : i < ts.length), ∃ g o, A = some ⟨g, o, none⟩ ∧ g < W.heap.size ∧
  W.cell? ⟨g, o + i * 4, none⟩ = some (.int .i64 ts[i].kind) ∧ W.cell? ⟨g, o + i * 4 + 1, none⟩ = some (.string ⟨ts[i].text.toArray⟩) ∧ W.cell? ⟨g, o + i * 4 + 2, none⟩ = some (.int .i64 ts[i].from_) ∧ W.cell? ⟨g, o + i * 4 + 3, none⟩ = some (.int .i64 ts[i].to_)
theorem TokRow.fresh {W W' : World} {v : Value} {ts : List Lx.PTok} (h : TokRow W v ts) (hf : Fresh W W') : TokRow W' v ts := by
 obtain ⟨A, cap, hv, hc⟩ := h
 refine ⟨A, cap, hv, fun i hi => ?_⟩
 obtain ⟨g, o, h1, h2, h3, h4, h5, h6⟩ := hc i hi
 exact ⟨g, o, h1, Nat.lt_of_lt_of_le h2 hf.size, hf.cell h3 (fun h => h), hf.cell h4 (fun h => h), hf.cell h5 (fun h => h), hf.cell h6 (fun h => h)⟩
theorem owns_cells {W : World} {B e : Nat} {v : Value} {ts : List Lx.PTok} (h : W.ownsRow B e 4 v ts.length (ts.flatMap ptokCells)) (i : Nat) (hi : i < ts.length) :
  ∃ g cap, v = .slice (some ⟨g, 0, none⟩) ts.length cap ∧ B ≤ g ∧ g < W.heap.size ∧ ∀ j u, (ptokCells ts[i])[j]? = some u → W.cell? ⟨g, 4 * i + j, none⟩ = some u := by
 rcases h.2 with ⟨_, h0⟩ | ⟨g, cap, cur, hv, hB, r⟩
 ·omega
 ·subst hv
  refine ⟨g, cap, rfl, hB, (h.lt g rfl).2, fun j u hu => ?_⟩
  have hcl := h.cells (g := g) rfl (4 * i + j) u ?_
  ·rw [Addr.add_mid, Nat.zero_add] at hcl; exact hcl
  ·have hj : j < 4 := by have := (List.getElem?_eq_some_iff.1 hu).1; simpa [ptokCells] using this
   clear h r
   induction ts generalizing i with
   | nil => simp at hi
   | cons x l ih =>
    cases i with
    | zero => rw [List.flatMap_cons, List.getElem?_append_left (by simp [ptokCells]; omega)]; simpa using hu
    | succ i =>
     rw [List.flatMap_cons, List.getElem?_append_right (by simp [ptokCells]; omega)]
     have := ih i (by simpa using hi) (by simpa using hu)
     rw [← this]; congr 1; simp [ptokCells]; omega
theorem owns_row {W : World} {B e : Nat} {v : Value} {ts : List Lx.PTok} (h : W.ownsRow B e 4 v ts.length (ts.flatMap ptokCells)) : TokRow W v ts := by
 obtain ⟨A, cap, hv⟩ : ∃ A cap, v = .slice A ts.length cap := by
  rcases h.2 with ⟨h1, h2⟩ | ⟨g, cap, cur, h1, _⟩
  ·exact ⟨none, 0, by rw [h1, h2]⟩
  ·exact ⟨_, _, h1⟩
 refine ⟨A, cap, hv, fun i hi => ?_⟩
 obtain ⟨g, cap', h1, h2, h3, h4⟩ := owns_cells h i hi
 rw [hv] at h1
 cases h1
 refine ⟨g, 0, rfl, h3, ?_⟩
 rw [Nat.zero_add, Nat.mul_comm i 4]
 exact ⟨h4 0 _ rfl, h4 1 _ rfl, h4 2 _ rfl, h4 3 _ rfl⟩
theorem TokRow.nil (W : World) : TokRow W (.slice none 0 0) [] := ⟨none, 0, rfl, fun i hi => by simp at hi⟩
theorem infoRTok : (Tryz.prog.info? 34).map (fun i => (i.zero, i.size, i.bytes)) = some (some (.agg #[.int .i64 0, .string ⟨#[]⟩, .int .i64 0, .int .i64 0]), 4, 40) := by kernel_rfl
end Go.Proofs.YtncnoeoicaglaaaGreat

/- An append to a row of the call's own, whatever the source: nothing, or cells at an address. -/
namespace Go.Proofs.YtncnoeoicaglaaaGreat
open Go.RowKit
def Stay (p : Prop) : Prop := p
theorem Stay.mk {p : Prop} (h : Stay p) : p := h
theorem Stay.go {p : Prop} (h : p) : Stay p := h
def Src (w : World) (size : Nat) (y : Value) (m : Nat) (news : List Value) : Prop :=
 ∃ A c, y = .slice A m c ∧ news.length = m * size ∧ ((A = none ∧ m = 0 ∧ news = []) ∨ ∃ ad, A = some ad ∧ ∀ j u, news[j]? = some u → w.cell? (ad.add j) = some u)
theorem Src.fresh {w w' : World} {size m : Nat} {y : Value} {news : List Value} (h : Src w size y m news) (hf : Fresh w w') : Src w' size y m news := by
 obtain ⟨A, c, h1, h2, h3⟩ := h
 refine ⟨A, c, h1, h2, h3.imp id ?_⟩
 rintro ⟨ad, ha, hc⟩
 exact ⟨ad, ha, fun j u hu => hf.cell (hc j u hu) (fun h => h)⟩
theorem Src.of_own {w : World} {base e size n : Nat} {v : Value} {xs : List Value} (h : w.ownsRow base e size v n xs) : Src w size v n xs := by
 rcases h.2 with ⟨h1, h2⟩ | ⟨g, cap, cur, h1, _⟩
 ·refine ⟨none, 0, by rw [h1, h2], h.1, .inl ⟨rfl, h2, ?_⟩⟩
  have := h.1
  rw [h2, Nat.zero_mul] at this
  exact List.length_eq_zero_iff.1 this
 ·exact ⟨some ⟨g, 0, none⟩, cap, h1, h.1, .inr ⟨_, rfl, h.cells (by rw [h1]; rfl)⟩⟩
theorem Src.of_blk {w : World} {g : Nat} {t : TypeId} {cs : Array Value} {size m c : Nat} (h : Blk w g t cs) (hs : cs.size = m * size) : Src w size (.slice (some ⟨g, 0, none⟩) m c) m cs.toList :=
 ⟨_, _, rfl, by simpa using hs, .inr ⟨_, rfl, fun j u hu => by rw [Addr.add_mid, Nat.zero_add, h.cell]; simpa using hu⟩⟩
section
variable {P : Program} (w : World)
theorem run_append_src (base : Nat) (t ty e : TypeId) (i : TypeInfo) (z : Value) (size bytes : Nat) (ht : P.underlying t = some (.slice e)) (hi : P.info? e = some i) (hz : i.zero = some z)
  (hsize : i.size = size) (hby : i.bytes = bytes) (hzs : z.cells.size = size) (hsz : 0 < size)
  (v : Value) (n : Nat) (xs : List Value) (hown : w.ownsRow base e size v n xs) (y : Value) (m : Nat) (news : List Value) (hsrc : Src w size y m news) (h1 : ∀ u ∈ news, u.oneCell' = true)
  (h63 : n + m ≤ maxLen) (hbytes : (n + m) * bytes ≤ 140737488355328) (hbase : base ≤ w.heap.size) :
  ∃ v' w', (Builtin.append_ #[t, t] ty #[v, y]).run P w = .ok v' w' ∧ w'.ownsRow base e size v' (n + m) (xs ++ news) ∧ w.grownBy w' v.ownBlock ∧ (v'.ownBlock = v.ownBlock ∨ v'.ownBlock = some w.heap.size) := by
 obtain ⟨A, c, rfl, hl, hA⟩ := hsrc
 rcases hA with ⟨rfl, rfl, rfl⟩ | ⟨ad, rfl, hc⟩
 ·refine ⟨v, w, ?_, by simpa using hown, World.grownBy.refl w _, .inl rfl⟩
  rcases hown.2 with ⟨rfl, rfl⟩ | ⟨g, cap, cur, rfl, _, _, hnc, _⟩
  ·simp [Builtin.append_, run_underlying ht, sizeOf, typeInfo, hi, Builtin.lenOf, Builtin.firstCells]
  ·simp [Builtin.append_, run_underlying ht, sizeOf, typeInfo, hi, Builtin.lenOf, Builtin.firstCells, hnc, storeCells]
 ·obtain ⟨v', w', hrun, h2, h3, _, h5⟩ := run_append_own_at (P := P) w base t ty e i z size bytes ht hi hz hsize hby hzs hsz v n xs hown ad m c news hl hc h1 h63 hbytes hbase
  exact ⟨v', w', hrun, h2, h3, h5⟩
theorem wp_append_src {o : Oper} {a : Act} {K : Act → World → Prop} {Q : Exit → Act → World → Prop} (s x : Operand) (t : TypeId)
  (ho : o.op = .call { callee := .builtin .append, args := #[s, x], argTypes := #[t, t] })
  (base : Nat) (e : TypeId) (i : TypeInfo) (z : Value) (size bytes : Nat) (ht : P.underlying t = some (.slice e)) (hi : P.info? e = some i) (hz : i.zero = some z)
  (hsize : i.size = size) (hby : i.bytes = bytes) (hzs : z.cells.size = size) (hsz : 0 < size)
  (v : Value) (n : Nat) (xs : List Value) (hs : a.eval s = v) (hown : w.ownsRow base e size v n xs)
  (y : Value) (m : Nat) (news : List Value) (hx : a.eval x = y) (hsrc : Src w size y m news) (h1 : ∀ u ∈ news, u.oneCell' = true)
  (h63 : n + m ≤ maxLen) (hbytes : (n + m) * bytes ≤ 140737488355328) (hbase : base ≤ w.heap.size)
  (h : ∀ v' w', w'.ownsRow base e size v' (n + m) (xs ++ news) → w.grownBy w' v.ownBlock → (v'.ownBlock = v.ownBlock ∨ v'.ownBlock = some w.heap.size) → K (a.put o.dst v') w') : o.wp P a w K Q := by
 obtain ⟨v', w', hrun, h2, h3, h4⟩ := run_append_src (P := P) w base t o.type e i z size bytes ht hi hz hsize hby hzs hsz v n xs hown y m news hsrc h1 h63 hbytes hbase
 unfold Oper.wp execOp
 simp only [ho, resolve, invoke, builtin, Sem.run_bind, Sem.run_pure, Result.andThen_ok, List.map_toArray, List.map_cons, List.map_nil, hs, hx, hrun]
 exact h v' w' h2 h3 h4
theorem wpList_append_src {ops : Array Oper} {rest : List Oper} {o : Oper} {a : Act} {Q : Exit → Act → World → Prop} (hgd : o.guard = none) (s x : Operand) (t : TypeId)
  (ho : o.op = .call { callee := .builtin .append, args := #[s, x], argTypes := #[t, t] })
  (base : Nat) (e : TypeId) (i : TypeInfo) (z : Value) (size bytes : Nat) (ht : P.underlying t = some (.slice e)) (hi : P.info? e = some i) (hz : i.zero = some z)
  (hsize : i.size = size) (hby : i.bytes = bytes) (hzs : z.cells.size = size) (hsz : 0 < size)
  (v : Value) (n : Nat) (xs : List Value) (hs : a.eval s = v) (hown : w.ownsRow base e size v n xs)
  (y : Value) (m : Nat) (news : List Value) (hx : a.eval x = y) (hsrc : Src w size y m news) (h1 : ∀ u ∈ news, u.oneCell' = true)
  (h63 : n + m ≤ maxLen) (hbytes : (n + m) * bytes ≤ 140737488355328) (hbase : base ≤ w.heap.size)
  (h : ∀ v' w', w'.ownsRow base e size v' (n + m) (xs ++ news) → w.grownBy w' v.ownBlock → (v'.ownBlock = v.ownBlock ∨ v'.ownBlock = some w.heap.size) → wpList P ops Q rest (a.put o.dst v') w') : wpList P ops Q (o :: rest) a w :=
 wpList_plain hgd fun _ hK => wp_append_src w s x t ho base e i z size bytes ht hi hz hsize hby hzs hsz v n xs hs hown y m news hx hsrc h1 h63 hbytes hbase fun v' w' h2 h3 h4 => hK _ _ (h v' w' h2 h3 h4)
theorem step_append_src {ops : Array Oper} {o : Oper} {a : Act} {K : Act → World → Prop} {Q : Exit → Act → World → Prop} {E : Prop} (hgd : o.guard = none) (s x : Operand) (t : TypeId)
  (ho : o.op = .call { callee := .builtin .append, args := #[s, x], argTypes := #[t, t] })
  (base : Nat) (e : TypeId) (i : TypeInfo) (z : Value) (size bytes : Nat) (ht : P.underlying t = some (.slice e)) (hi : P.info? e = some i) (hz : i.zero = some z)
  (hsize : i.size = size) (hby : i.bytes = bytes) (hzs : z.cells.size = size) (hsz : 0 < size)
  (v : Value) (n : Nat) (xs : List Value) (hs : a.eval s = v) (hown : w.ownsRow base e size v n xs)
  (y : Value) (m : Nat) (news : List Value) (hx : a.eval x = y) (hsrc : Src w size y m news) (h1 : ∀ u ∈ news, u.oneCell' = true)
  (h63 : n + m ≤ maxLen) (hbytes : (n + m) * bytes ≤ 140737488355328) (hbase : base ≤ w.heap.size)
  (h : ∀ v' w', w'.ownsRow base e size v' (n + m) (xs ++ news) → w.grownBy w' v.ownBlock → (v'.ownBlock = v.ownBlock ∨ v'.ownBlock = some w.heap.size) → K (a.put o.dst v') w') :
  if Region.wanted o (yielded ops a.tmps) = true then Oper.wp P o a w K Q else E := by
 have hw : Region.wanted o (yielded ops a.tmps) = true := by simp [Region.wanted, hgd]
 rw [if_pos hw]
 exact wp_append_src w s x t ho base e i z size bytes ht hi hz hsize hby hzs hsz v n xs hs hown y m news hx hsrc h1 h63 hbytes hbase h
end
end Go.Proofs.YtncnoeoicaglaaaGreat
