/- Part 7 of 42 of a proof; its texts, joined: SpA, SpB, RegC, Tkr, RegE, RegF. No condition. -/
import Derived.Test.YtncnoeoicaglaaaGreatVs1
import Derived.Test.YtncnoeoicaglaaaGreatVs6
import Derived.Test.YtncnoeoicaglaaaGreatVs5
import Derived.OrdersHeld
set_option maxRecDepth 100000
set_option maxHeartbeats 1000000
namespace Go.Proofs.YtncnoeoicaglaaaGreat
open Go.RowKit
theorem app_str (l : List UInt8) (t : ByteArray) : ((⟨l.toArray⟩ : ByteArray) ++ t) = ⟨(l ++ t.data.toList).toArray⟩ := by
 apply ByteArray.ext
 simp [ByteArray.data_append]
structure SpAt (w : World) (k : Int) (t : ByteArray) (f to_ : Int) (acc : List UInt8) (cs : Array Value) (v : Value) (wr : World) : Prop where
 tok : Blk wr w.heap.size 134 #[.int .i64 k, .string t, .int .i64 f, .int .i64 to_]
 bld : Bld wr (w.heap.size + 2) (w.heap.size + 1) 0 81 cs v acc
 size : cs.size = 2
 touch : Fresh w wr
theorem SpAt.next {w : World} {k : Int} {t : ByteArray} {f to_ : Int} {acc : List UInt8} {cs : Array Value} {v : Value} {wr w' : World} (Q : SpAt w k t f to_ acc cs v wr) {c : UInt8} {v' : Value}
  (hb : Bld w' (w.heap.size + 2) (w.heap.size + 1) 0 81 ((cs.setIfInBounds 0 (.pointer (some ⟨w.heap.size + 1, 0, none⟩))).setIfInBounds (0 + 1) v') v' (acc ++ [c]))
  (ht : Touch (fun k => k = w.heap.size + 1 ∨ v.ownBlock = some k) wr w') :
  SpAt w k t f to_ (acc ++ [c]) ((cs.setIfInBounds 0 (.pointer (some ⟨w.heap.size + 1, 0, none⟩))).setIfInBounds (0 + 1) v') v' w' := by
 have hlt := Q.bld.own.lt;refine ⟨ht.blk Q.tok ?_, hb, by simp [Q.size], Q.touch.trans' ht ?_⟩
 ·rintro (h1 | h1)
  ·omega
  ·have := (hlt _ h1).1; omega
 ·rintro i (h1 | h1)
  ·right; omega
  ·right; have := (hlt _ h1).1; omega
theorem spell_text (t : ByteArray) (f to_ : Int) (w : World) (hm : t.size ≤ 1000000000) :
  Calls Tryz.prog 147 #[.agg #[.int .i64 3, .string t, .int .i64 f, .int .i64 to_]] w fun e w' => e = .returned (.string ⟨(Lx.quoteL t.data.toList).toArray⟩) ∧ Fresh w w' := by
 have hll : t.data.toList.length = t.size := by simp
 have HLL := hid hll;clear hll;go_enter Tryz.func147, Tryz.ntmps147;go_wp2_with fail
 have hs0 : SpAt w 3 t f to_ [] #[.pointer none, .slice none 0 0] (.slice none 0 0) ((w.alloc (.cells #[.int .i64 3, .string t, .int .i64 f, .int .i64 to_] 134)).alloc (.cells #[.pointer none, .slice none 0 0] 81)) :=
  ⟨(Blk.new w _ _).alloc _, ⟨Blk.new2 _ _ _ _, .inl rfl, rfl, World.ownsRow_nil _ _ _ _, by simp [Value.ownBlock], fun _ => rfl⟩, rfl, ((Touch.refl _ w).alloc _).alloc _⟩
 have HS0 := hid hs0;clear hs0;refine (writeByte_any HS0.out.bld (by rw [HS0.out.size]; exact liesBuilder) _ 34 rfl (by simp) (by simp)).mono ?_;rintro e1 w1 ⟨rfl, v1, hb1, ht1⟩;have HS1 := hid (HS0.out.next hb1 ht1);clear hb1 ht1 HS0;have hq := Blk.four HS1.out.tok;obtain ⟨q0, q1, q2, q3, z0, z1, z2, z3, hg⟩ := hq;go_wp2_with fail
 go_loopw [4] (fun i wr => ∃ (j : Nat) (acc : List UInt8) (cs : Array Value) (v : Value), i = .int .i64 j ∧ j ≤ t.size ∧ acc.length ≤ 2 * j + 1 ∧ Hid (acc = 34 :: Lx.esc (t.data.toList.take j)) ∧ Hid (SpAt w 3 t f to_ acc cs v wr)) (fun i _ => t.size - (intOf i).toNat)
 case atStart => exact ⟨0, _, _, _, rfl, Nat.zero_le _, by simp, by simp [Lx.esc, Hid], HS1⟩
 case round =>
  obtain ⟨j, acc, cs, v, rfl, hj, hacc, HA, HS⟩ := hrel;clear q0 q1 q2 q3 z0 z1 z2 z3 hg HS1;obtain ⟨q0, q1, q2, q3, z0, z1, z2, z3, hg⟩ := Blk.four HS.out.tok;have hbl := HS.out.bld.lt
  by_cases c1 : j < t.size
  ·have b1 : decide ((j : Int) < (t.size : Int)) = true := by simp; omega
   have b1' : (j : Int) < (t.size : Int) := by omega
   have b1'' : (0 : Int) ≤ (j : Int) := by omega
   have htk : t.data.toList.take (j + 1) = t.data.toList.take j ++ [t[j]'c1] := by
    rw [List.take_succ_eq_append_getElem (by rw [HLL.out]; exact c1)]; rfl
   have HTK := hid htk;clear htk
   by_cases c2 : t[j]'c1 = 34
   ·have b2 : (((t[j]'c1).toNat : Int) == 34) = true := u8_eq_of _ 34 c2
    have HE := hid (show Lx.escB (t[j]'c1) = [92, t[j]'c1] by unfold Lx.escB; rw [if_pos (.inl c2)]);clear c2;go_wp2_with fail
    refine (writeByte_any HS.out.bld (by rw [HS.out.size]; exact liesBuilder) _ 92 rfl (by omega) (by omega)).mono ?_;rintro e2 w2 ⟨rfl, v2, hb2, ht2⟩;have HS2 := hid (HS.out.next hb2 ht2);clear hb2 ht2;clear q0 q1 q2 q3 z0 z1 z2 z3 hg;obtain ⟨q0, q1, q2, q3, z0, z1, z2, z3, hg⟩ := Blk.four HS2.out.tok;have hbl2 := HS2.out.bld.lt;go_wp2_with fail
    refine (writeByte_any HS2.out.bld (by rw [HS2.out.size]; exact liesBuilder) _ (t[j]'c1) rfl (by simp; omega) (by omega)).mono ?_;rintro e3 w3 ⟨rfl, v3, hb3, ht3⟩;have HS3 := hid (HS2.out.next hb3 ht3);clear hb3 ht3;go_wp2_with fail
    go_roundw
    case rel => exact ⟨j + 1, _, _, _, by go_num, c1, by simp; omega, by rw [HTK.out, Lx.esc_snoc, HE.out, HA.out]; simp [Hid], HS3⟩
    case measure => simp [intOf]; omega
   ·have b2 : (((t[j]'c1).toNat : Int) == 34) = false := u8_ne_of _ 34 c2
    by_cases c3 : t[j]'c1 = 92
    ·have b3 : (((t[j]'c1).toNat : Int) == 92) = true := u8_eq_of _ 92 c3
     have HE := hid (show Lx.escB (t[j]'c1) = [92, t[j]'c1] by unfold Lx.escB; rw [if_pos (.inr c3)]);clear c2 c3;go_wp2_with fail
     refine (writeByte_any HS.out.bld (by rw [HS.out.size]; exact liesBuilder) _ 92 rfl (by omega) (by omega)).mono ?_;rintro e2 w2 ⟨rfl, v2, hb2, ht2⟩;have HS2 := hid (HS.out.next hb2 ht2);clear hb2 ht2;clear q0 q1 q2 q3 z0 z1 z2 z3 hg;obtain ⟨q0, q1, q2, q3, z0, z1, z2, z3, hg⟩ := Blk.four HS2.out.tok;have hbl2 := HS2.out.bld.lt;go_wp2_with fail
     refine (writeByte_any HS2.out.bld (by rw [HS2.out.size]; exact liesBuilder) _ (t[j]'c1) rfl (by simp; omega) (by omega)).mono ?_;rintro e3 w3 ⟨rfl, v3, hb3, ht3⟩;have HS3 := hid (HS2.out.next hb3 ht3);clear hb3 ht3;go_wp2_with fail
     go_roundw
     case rel => exact ⟨j + 1, _, _, _, by go_num, c1, by simp; omega, by rw [HTK.out, Lx.esc_snoc, HE.out, HA.out]; simp [Hid], HS3⟩
     case measure => simp [intOf]; omega
    ·have b3 : (((t[j]'c1).toNat : Int) == 92) = false := u8_ne_of _ 92 c3
     have HE := hid (show Lx.escB (t[j]'c1) = [t[j]'c1] by unfold Lx.escB; rw [if_neg (fun h => h.elim c2 c3)]);clear c2 c3;go_wp2_with fail
     refine (writeByte_any HS.out.bld (by rw [HS.out.size]; exact liesBuilder) _ (t[j]'c1) rfl (by omega) (by omega)).mono ?_;rintro e3 w3 ⟨rfl, v3, hb3, ht3⟩;have HS3 := hid (HS.out.next hb3 ht3);clear hb3 ht3;go_wp2_with fail
     go_roundw
     case rel => exact ⟨j + 1, _, _, _, by go_num, c1, by simp; omega, by rw [HTK.out, Lx.esc_snoc, HE.out, HA.out]; simp [Hid], HS3⟩
     case measure => simp [intOf]; omega
  ·have b1 : decide ((j : Int) < (t.size : Int)) = false := by simp; omega
   have htk : t.data.toList.take j = t.data.toList := List.take_of_length_le (by rw [HLL.out]; omega);have HTK := hid htk;clear htk;go_wp2_with fail
   refine (writeByte_any HS.out.bld (by rw [HS.out.size]; exact liesBuilder) _ 34 rfl (by omega) (by omega)).mono ?_;rintro e2 w2 ⟨rfl, v2, hb2, ht2⟩;have HS2 := hid (HS.out.next hb2 ht2);clear hb2 ht2;go_wp2_with fail
   refine (bstring_any HS2.out.bld).mono ?_;rintro e3 w3 ⟨rfl, ht3⟩;have HF := hid (show Fresh w w3 from HS2.out.touch.trans' ht3 (fun i hk => by have := (HS2.out.bld.own.lt _ hk).1; right; omega));clear ht3;go_wp2_with fail
   go_ret;refine ⟨?_, HF.out⟩;rw [HA.out, HTK.out]; rfl
theorem spell_any (k : Int) (t : ByteArray) (f to_ : Int) (w : World) (hm : t.size ≤ 1000000000) :
  Calls Tryz.prog 147 #[.agg #[.int .i64 k, .string t, .int .i64 f, .int .i64 to_]] w fun e w' => e = .returned (.string ⟨(Lx.spellL k t.data.toList).toArray⟩) ∧ Fresh w w' := by
 by_cases k3 : k = 3
 ·subst k3
  exact spell_text t f to_ w hm
 have b3 : (k == 3) = false := by simpa using k3
 by_cases k4 : k = 4
 ·subst k4
  clear b3 k3;go_enter Tryz.func147, Tryz.ntmps147
  go_wp2
  go_ret;exact ⟨by rw [app_str [92] t]; rfl, (Touch.refl _ w).alloc _⟩
 have b4 : (k == 4) = false := by simpa using k4
 by_cases k5 : k = 5
 ·subst k5
  clear b3 k3 b4 k4;go_enter Tryz.func147, Tryz.ntmps147
  go_wp2
  go_ret;exact ⟨by rw [app_str [92, 102, 101, 110, 99, 101] t]; rfl, (Touch.refl _ w).alloc _⟩
 have b5 : (k == 5) = false := by simpa using k5
 by_cases k6 : k = 6
 ·subst k6
  clear b3 k3 b4 k4 b5 k5;go_enter Tryz.func147, Tryz.ntmps147
  go_wp2
  go_ret;exact ⟨by rw [app_str [35] t]; rfl, (Touch.refl _ w).alloc _⟩
 have b6 : (k == 6) = false := by simpa using k6
 have hsp : Lx.spellL k t.data.toList = t.data.toList := by unfold Lx.spellL; rw [if_neg k3, if_neg k4, if_neg k5, if_neg k6]
 have HSP := hid hsp;clear hsp k3 k4 k5 k6;go_enter Tryz.func147, Tryz.ntmps147
 go_wp2
 go_ret;exact ⟨by rw [HSP.out]; rfl, (Touch.refl _ w).alloc _⟩
def joinsL (ka kb : Int) (tb : List UInt8) : Bool := (ka == 2 && kb == 2) || (ka == 4 && kb == 1 && (match tb with | [] => false | b :: _ => Lx.isB 3 b))
theorem or32_of_256 : ∀ n : Fin 256, (Lx.cls n.1 == 3) = (decide ((97 : Int) ≤ bits .or .u8 (n.1 : Int) 32) && decide (bits .or .u8 (n.1 : Int) 32 ≤ (122 : Int))) := by decide +kernel
theorem isEmpty_toList (s : ByteArray) : s.toList.isEmpty = decide (s.size = 0) := by
 rw [ByteArray.toList_eq, Bool.eq_iff_iff, List.isEmpty_iff_length_eq_zero, decide_eq_true_iff];simp
theorem head_list (s : ByteArray) (h : 0 < s.size) : s.data.toList = (s[0]'h) :: s.data.toList.drop 1 := by
 have := List.drop_eq_getElem_cons (l := s.data.toList) (i := 0) (by simpa using h);rw [List.drop_zero] at this;exact this
theorem nil_list (s : ByteArray) (h : s.size = 0) : s.data.toList = [] := by
 apply List.eq_nil_of_length_eq_zero; simpa using h
theorem joins_any (ka fa ta kb fb tb' : Int) (sa sb : ByteArray) (w : World) :
  Calls Tryz.prog 143 #[.agg #[.int .i64 ka, .string sa, .int .i64 fa, .int .i64 ta], .agg #[.int .i64 kb, .string sb, .int .i64 fb, .int .i64 tb']] w fun e w' => e = .returned (.bool (joinsL ka kb sb.data.toList)) ∧ Fresh w w' := by
 by_cases c1 : ka = 2
 ·subst c1
  by_cases c2 : kb = 2
  ·subst c2
   have hr := hid (show joinsL 2 2 sb.data.toList = true from rfl);go_enter Tryz.func143, Tryz.ntmps143
   go_wp2
   go_ret;exact ⟨by rw [hr.out]; rfl, ((Touch.refl _ w).alloc _).alloc _⟩
  ·have b2 : (kb == 2) = false := by simpa using c2
   have hr := hid (show joinsL 2 kb sb.data.toList = false by unfold joinsL; rw [b2]; rfl);clear c2;go_enter Tryz.func143, Tryz.ntmps143
   go_wp2
   go_ret;exact ⟨by rw [hr.out]; rfl, ((Touch.refl _ w).alloc _).alloc _⟩
 ·have b1 : (ka == 2) = false := by simpa using c1
  by_cases c2 : ka = 4
  ·subst c2
   clear b1 c1
   by_cases c3 : kb = 1
   ·subst c3
    by_cases c4 : sb.size = 0
    ·have hr := hid (show joinsL 4 1 sb.data.toList = false by rw [nil_list sb c4]; rfl)
     have b4 : sb.toList.isEmpty = true := by rw [isEmpty_toList, decide_eq_true_iff]; exact c4
     clear c4;go_enter Tryz.func143, Tryz.ntmps143
     go_wp2
     go_ret;exact ⟨by rw [hr.out]; rfl, ((Touch.refl _ w).alloc _).alloc _⟩
    ·have h0 : 0 < sb.size := by omega
     have hr : joinsL 4 1 sb.data.toList = (decide ((97 : Int) ≤ bits .or .u8 ((sb[0]'h0).toNat : Int) 32) && decide (bits .or .u8 ((sb[0]'h0).toNat : Int) 32 ≤ (122 : Int))) := by
      rw [head_list sb h0]; exact or32_of_256 ⟨(sb[0]'h0).toNat, (sb[0]'h0).toNat_lt⟩
     rw [hr];clear hr c4;have b4 : sb.toList.isEmpty = false := by rw [isEmpty_toList, decide_eq_false_iff_not]; omega
     cases d1 : decide ((97 : Int) ≤ bits .or .u8 ((sb[0]'h0).toNat : Int) 32) with
     | true =>
      go_enter Tryz.func143, Tryz.ntmps143
      go_wp2
      go_ret;exact ⟨rfl, ((Touch.refl _ w).alloc _).alloc _⟩
     | false =>
      go_enter Tryz.func143, Tryz.ntmps143
      go_wp2
      go_ret;exact ⟨rfl, ((Touch.refl _ w).alloc _).alloc _⟩
   ·have b2 : (kb != 1) = true := by rw [bne_iff_ne]; exact c3
    have hr := hid (show joinsL 4 kb sb.data.toList = false by unfold joinsL; rw [beq_eq_false_iff_ne.2 c3]; rfl);clear c3;go_enter Tryz.func143, Tryz.ntmps143
    go_wp2
    go_ret;exact ⟨by rw [hr.out]; rfl, ((Touch.refl _ w).alloc _).alloc _⟩
  ·have b2 : (ka != 4) = true := by rw [bne_iff_ne]; exact c2
   have hr := hid (show joinsL ka kb sb.data.toList = false by unfold joinsL; rw [b1, beq_eq_false_iff_ne.2 c2]; rfl);clear c1 c2;go_enter Tryz.func143, Tryz.ntmps143
   go_wp2
   go_ret;exact ⟨by rw [hr.out]; rfl, ((Touch.refl _ w).alloc _).alloc _⟩
section
variable {P : Program} {ops : Array Oper} {md : Region.Mode} {C : World → Prop} {Q : Exit → Act → World → Prop}
def stillUpon (w : World) (v : Value) : Result Next → Prop
 | .ok (.value u) w' => w' = w ∧ u = v
 | _ => False
def stillV (P : Program) (o : Oper) (a : Act) (C : World → Prop) (next : Act → Prop) : Prop := ∃ v, (∀ w, C w → stillUpon w v ((execOp a.eval o).run P w)) ∧ next (a.put o.dst v)
theorem stillUpon_ok {w : World} {v : Value} {r : Result Next} (h : stillUpon w v r) : r = .ok (.value v) w := by
 cases r with
 | ok n w' =>
  cases n <;> simp only [stillUpon] at h
  obtain ⟨rfl, rfl⟩ := h;rfl
 | halt x w' => exact h.elim
def wpAnyU (P : Program) (md : Region.Mode) (ops : Array Oper) (Q : Exit → Act → World → Prop) (C : World → Prop) (ns : List Nat) (L : Array Bool → Act → World → Prop) : Nat → Array Bool → Act → World → Prop
 | 0, listed, a, w => L listed a w
 | f + 1, listed, a, w => Region.ready md ops listed ≠ [] ∧ ∀ i ∈ Region.ready md ops listed, i ∈ ns ∧ wpOp P ops Q i (fun a' w' => C w' ∧ wpAnyU P md ops Q C ns L f (listed.setIfInBounds i true) a' w') a w
theorem wpAny_of_U {ns : List Nat} {g : Nat} {L : Array Bool → Act → World → Prop} (hL : ∀ listed a w, C w → L listed a w → wpAny P md ops Q g listed a w) :
  ∀ (f : Nat) (listed : Array Bool) (a : Act) (w : World), C w → wpAnyU P md ops Q C ns L f listed a w → wpAny P md ops Q (f + g) listed a w
 | 0, listed, a, w, hC, h => by rw [Nat.zero_add]; exact hL _ _ _ hC h
 | f + 1, listed, a, w, _, h => by
  rw [show f + 1 + g = (f + g) + 1 by omega];exact ⟨fun h0 => absurd h0 h.1, fun i hi => wpOp_mono (fun a' w' h' => wpAny_of_U hL f _ a' w' h'.1 h'.2) (h.2 i hi).2⟩
theorem wpAnyU_first {ns : List Nat} {t : Option Nat} {listed0 : Array Bool} {i : Nat} {oi : Oper} {v : Value} {L : Array Bool → Act → World → Prop} (hi : ops[i]? = some oi) (hsel : ∀ (j : Nat) (o : Oper) cs b, ops[j]? = some o → o.op ≠ .select cs b)
  (hQ : ∀ c a w, Q (.panic c) (a.put oi.dst v) w → Q (.panic c) a w)
  (hs : shutB md ops ns t listed0 = true) (hin : i ∈ ns) (hdone : ∀ listed a w, L listed a w → ∀ j ∈ Region.ready md ops listed, j ∉ ns) :
  ∀ (f : Nat) (listed : Array Bool) (a : Act) (w : World), ZInv md ops ns listed0 listed →
   (∀ j oj, ops[j]? = some oj → j ≠ i → listed.getD j true = false → (∀ e ∈ oj.after, Region.binds md e = true → e.on ≠ i) → oi.apart ops oj = true) →
   i ∈ Region.ready md ops listed → YieldsIf P ops C oi v a → C w →
   wpAnyU P md ops Q C ns L f (listed.setIfInBounds i true) (a.put oi.dst v) w → wpAnyU P md ops Q C ns L (f + 1) listed a w := by
 intro f
 induction f with
 | zero =>
  intro listed a w inv _ hr hy hC H;have hun := (mem_ready.1 hr).1;refine ⟨fun h => (by rw [h] at hr; cases hr), fun j hj => ?_⟩;have hjn := shut_spec hs inv.closed inv.sub inv.sup ⟨i, hin, getD_both hun⟩ j hj;refine ⟨hjn, ?_⟩
  by_cases hji : j = i
  ·subst hji; exact hy.wpOp hi hC ⟨hC, H⟩
  ·exact absurd hjn (hdone _ _ _ H j (ready_mono hj hji))
 | succ f ih =>
  intro listed a w inv hfree hr hy hC H;have hun := (mem_ready.1 hr).1;refine ⟨fun h => (by rw [h] at hr; cases hr), fun j hj => ?_⟩;have hjn := shut_spec hs inv.closed inv.sub inv.sup ⟨i, hin, getD_both hun⟩ j hj;refine ⟨hjn, ?_⟩
  by_cases hji : j = i
  ·subst hji; exact hy.wpOp hi hC ⟨hC, H⟩
  ·have h1 := (H.2 j (ready_mono hj hji)).2
   obtain ⟨hjun, oj, hoj, hall⟩ := mem_ready.1 hj
   have hnot : ∀ e ∈ oj.after, Region.binds md e = true → e.on ≠ i := fun e he hb heq => by
    have h1 := hall e he hb;rw [heq, getD_both hun] at h1;cases h1
   have h2 := wpOp_putIf hoj (hfree j oj hoj hji hjun hnot) (fun cs b => hsel i oi cs b hi) (fun cs b => hsel j oj cs b hoj) hQ hy h1
   have hfree' : ∀ k ok, ops[k]? = some ok → k ≠ i → (listed.setIfInBounds j true).getD k true = false →
     (∀ e ∈ ok.after, Region.binds md e = true → e.on ≠ i) → oi.apart ops ok = true := fun k ok hk hki hun hno => by
    refine hfree k ok hk hki ?_ hno
    by_cases hjk : j = k
    ·subst hjk; exact hjun
    ·rw [getD_set_ne true hjk] at hun; exact hun
   refine wpOp_mono (fun a' w' h3 => ⟨h3.2.1, ih (listed.setIfInBounds j true) a' w' (inv.put hj hjn) hfree' (ready_mono hr (Ne.symm hji)) h3.1 h3.2.1 ?_⟩) h2;rw [Array.setIfInBounds_comm _ _ hji];exact h3.2.2
def wpSeq (P : Program) (l : List Oper) (Q : Exit → Act → World → Prop) (C : World → Prop) (L : Act → World → Prop) : List (Nat × Bool) → Act → World → Prop
 | [], a, w => L a w
 | (i, true) :: r, a, w => match l[i]? with
  | some o => if Region.wanted o (yielded l.toArray a.tmps) then stillV P o a C (fun a' => wpSeq P l Q C L r a' w) else wpSeq P l Q C L r (a.put o.dst undef) w
  | none => wpSeq P l Q C L r a w
 | (i, false) :: r, a, w => wpList P l.toArray (Exit.then (fun a' w' => C w' ∧ wpSeq P l Q C L r a' w') Q) (pick l [i]) a w
theorem wpSeq_plain {l : List Oper} {L : Act → World → Prop} {i : Nat} {o : Oper} {r : List (Nat × Bool)} {a : Act} {w : World} (ho : l[i]? = some o)
  (h : ∀ K : Act → Prop, (∀ a, wpSeq P l Q C L r a w → K a) → if Region.wanted o (yielded l.toArray a.tmps) then stillV P o a C K else K (a.put o.dst undef)) : wpSeq P l Q C L ((i, true) :: r) a w := by
 unfold wpSeq;rw [ho];exact h _ (fun _ h => h)
theorem wpSeq_lone {l : List Oper} {L : Act → World → Prop} {i : Nat} {o : Oper} {r : List (Nat × Bool)} {a : Act} {w : World} (ho : l[i]? = some o)
  (h : ∀ K : Act → World → Prop, (∀ a w, C w → wpSeq P l Q C L r a w → K a w) → wpList P l.toArray (Exit.then K Q) [o] a w) : wpSeq P l Q C L ((i, false) :: r) a w := by
 unfold wpSeq;have hp : pick l [i] = [o] := by simp [pick, ho]
 rw [hp];exact h _ (fun _ _ h1 h2 => ⟨h1, h2⟩)
def wpMix (Cl : World → World → Prop) (P : Program) (l : List Oper) (Q : Exit → Act → World → Prop) : List (List (Nat × Bool) × Nat) → List (Nat × Bool) → Act → World → World → Prop
 | [], last, a, w0, w => wpSeq P l Q (Cl w0) (fun a' w' => Q .normal a' w') last a w
 | (s, t) :: segs, last, a, w0, w => wpSeq P l Q (Cl w0) (fun a' w' => wpList P l.toArray (Exit.then (fun a'' w'' => wpMix Cl P l Q segs last a'' w'' w'') Q) (pick l [t]) a' w') s a w
theorem wpSeq_shut {l : List Oper} {Cl : World → World → Prop} {t : Nat} {o : Oper} {segs : List (List (Nat × Bool) × Nat)} {last : List (Nat × Bool)} {a : Act} {w : World} (ho : l[t]? = some o)
  (h : ∀ K : Act → World → Prop, (∀ a w, wpMix Cl P l Q segs last a w w → K a w) → wpList P l.toArray (Exit.then K Q) [o] a w) : wpSeq P l Q C (fun a' w' => wpList P l.toArray (Exit.then (fun a'' w'' => wpMix Cl P l Q segs last a'' w'' w'') Q) (pick l [t]) a' w') [] a w := by
 unfold wpSeq;have hp : pick l [t] = [o] := by simp [pick, ho]
 rw [hp];exact h _ (fun _ _ h1 => h1)
def seqB (md : Region.Mode) (ops : Array Oper) : List (Nat × Bool) → Array Bool → Bool
 | [], _ => true
 | (k, true) :: r, listed => (Region.ready md ops listed).contains k && Region.free md ops listed k && seqB md ops r (listed.setIfInBounds k true)
 | (k, false) :: r, listed => decide (Region.ready md ops listed = [k]) && seqB md ops r (listed.setIfInBounds k true)
theorem wpAnyU_seq {l0 : List Oper} {ns : List Nat} {t : Option Nat} {listed0 : Array Bool} {Lq : Act → World → Prop} {fin : Array Bool} (hsel : Region.noSelect l0.toArray = true) (hQ : ∀ c a d v w, Q (.panic c) (Act.put a d v) w → Q (.panic c) a w)
  (hs : shutB md l0.toArray ns t listed0 = true) (hfin : ∀ j ∈ Region.ready md l0.toArray fin, j ∉ ns) :
  ∀ (s : List (Nat × Bool)) (listed : Array Bool) (a : Act) (w : World), (∀ k ∈ s, k.1 ∈ ns) → ZInv md l0.toArray ns listed0 listed → seqB md l0.toArray s listed = true → setAll (s.map (·.1)) listed = fin → C w →
  wpSeq P l0 Q C Lq s a w → wpAnyU P md l0.toArray Q C ns (fun listed' a' w' => listed' = fin ∧ Lq a' w') s.length listed a w
 | [], listed, a, w, _, _, _, hf, _, h => ⟨hf, h⟩
 | (k, true) :: r, listed, a, w, hq, inv, hB, hf, hC, h => by
  simp only [seqB, Bool.and_eq_true] at hB;obtain ⟨⟨hr, hfr⟩, hB'⟩ := hB;have hr' : k ∈ Region.ready md l0.toArray listed := by simpa using hr
  obtain ⟨_, o, ho, _⟩ := mem_ready.1 hr';have ho' : l0[k]? = some o := by simpa using ho
  unfold wpSeq at h;rw [ho'] at h;have hkq := hq (k, true) (by simp)
  obtain ⟨v, hy, hK⟩ : ∃ v, YieldsIf P l0.toArray C o v a ∧ wpSeq P l0 Q C Lq r (a.put o.dst v) w := by
   by_cases hw : Region.wanted o (yielded l0.toArray a.tmps) = true
   ·simp only [hw, if_true] at h
    obtain ⟨v, h1, h2⟩ := h;exact ⟨v, .inl ⟨hw, fun w hw => stillUpon_ok (h1 w hw)⟩, h2⟩
   ·simp only [hw] at h
    exact ⟨undef, .inr ⟨by simpa using hw, rfl⟩, h⟩
  exact wpAnyU_first ho (Region.noSelect_spec hsel) (fun c a w => hQ c a o.dst v w) hs hkq (fun listed' a' w' hL => by rw [hL.1]; exact hfin) r.length listed a w inv (Region.free_spec ho hfr) hr' hy hC
   (wpAnyU_seq hsel hQ hs hfin r _ _ w (fun x hx => hq x (by simp [hx])) (inv.put hr' hkq) hB' hf hC hK)
 | (k, false) :: r, listed, a, w, hq, inv, hB, hf, hC, h => by
  simp only [seqB, Bool.and_eq_true, decide_eq_true_eq] at hB;obtain ⟨hr, hB'⟩ := hB;have hr' : k ∈ Region.ready md l0.toArray listed := by rw [hr]; simp
  obtain ⟨_, o, ho, _⟩ := mem_ready.1 hr';have hkq := hq (k, false) (by simp);refine ⟨by rw [hr]; simp, fun i hi => ?_⟩;rw [hr] at hi;rw [List.mem_singleton.1 hi];unfold wpSeq at h;exact ⟨hkq, wpOp_mono (fun a' w' h' => ⟨h'.1, wpAnyU_seq hsel hQ hs hfin r _ a' w' (fun x hx => hq x (by simp [hx])) (inv.put hr' hkq) hB' hf h'.1 h'.2⟩) (wpOp_of_single ho h)⟩
theorem seq_inv {ns : List Nat} {listed0 : Array Bool} : ∀ (s : List (Nat × Bool)) (listed : Array Bool), (∀ k ∈ s, k.1 ∈ ns) → ZInv md ops ns listed0 listed → seqB md ops s listed = true → ZInv md ops ns listed0 (setAll (s.map (·.1)) listed)
 | [], _, _, inv, _ => inv
 | (k, true) :: r, listed, hq, inv, hB => by
  simp only [seqB, Bool.and_eq_true] at hB;exact seq_inv r _ (fun x hx => hq x (by simp [hx])) (inv.put (by simpa using hB.1.1) (hq (k, true) (by simp))) hB.2
 | (k, false) :: r, listed, hq, inv, hB => by
  simp only [seqB, Bool.and_eq_true, decide_eq_true_eq] at hB;exact seq_inv r _ (fun x hx => hq x (by simp [hx])) (inv.put (by rw [hB.1]; simp) (hq (k, false) (by simp))) hB.2
def mixB (md : Region.Mode) (ops : Array Oper) : List (List (Nat × Bool) × Nat) → List (Nat × Bool) → Array Bool → Bool
 | [], last, listed => shutB md ops (last.map (·.1)) none listed && seqB md ops last listed && (Region.ready md ops (setAll (last.map (·.1)) listed)).isEmpty
 | (s, t) :: segs, last, listed => shutB md ops (s.map (·.1)) (some t) listed && seqB md ops s listed && decide (Region.ready md ops (setAll (s.map (·.1)) listed) = [t]) && !(s.map (·.1)).contains t &&
   mixB md ops segs last ((setAll (s.map (·.1)) listed).setIfInBounds t true)
def mixN : List (List (Nat × Bool) × Nat) → List (Nat × Bool) → Nat
 | [], last => last.length
 | (s, _) :: segs, last => s.length + (mixN segs last + 1)
theorem wpMix_seg {Cl : World → World → Prop} {l : List Oper} {a : Act} {w0 w : World} {s : List (Nat × Bool)} {t : Nat} {segs : List (List (Nat × Bool) × Nat)} {last : List (Nat × Bool)}
  (h : wpSeq P l Q (Cl w0) (fun a' w' => wpList P l.toArray (Exit.then (fun a'' w'' => wpMix Cl P l Q segs last a'' w'' w'') Q) (pick l [t]) a' w') s a w) : wpMix Cl P l Q ((s, t) :: segs) last a w0 w := h
theorem wpMix_last {Cl : World → World → Prop} {l : List Oper} {a : Act} {w0 w : World} {last : List (Nat × Bool)} (h : wpSeq P l Q (Cl w0) (fun a' w' => Q .normal a' w') last a w) : wpMix Cl P l Q [] last a w0 w := h
theorem wpSeq_end {l : List Oper} {L : Act → World → Prop} {a : Act} {w : World} (h : L a w) : wpSeq P l Q C L [] a w := h
theorem wpMix_end {Cl : World → World → Prop} {l : List Oper} {a : Act} {w0 w : World} (h : Q .normal a w) : wpMix Cl P l Q [] [] a w0 w := h
theorem wpAny_of_mix {Cl : World → World → Prop} (hrefl : ∀ w, Cl w w) {l : List Oper} (hsel : Region.noSelect l.toArray = true) (hQ : ∀ c a d v w, Q (.panic c) (Act.put a d v) w → Q (.panic c) a w) :
  ∀ (segs : List (List (Nat × Bool) × Nat)) (last : List (Nat × Bool)) (listed : Array Bool) (a : Act) (w0 w : World),
  Closed md l.toArray listed → mixB md l.toArray segs last listed = true → Cl w0 w → wpMix Cl P l Q segs last a w0 w → wpAny P md l.toArray Q (mixN segs last) listed a w
 | [], last, listed, a, w0, w, inv, hB, hC, h => by
  simp only [mixB, Bool.and_eq_true, List.isEmpty_iff] at hB;obtain ⟨⟨hs, hl⟩, hr⟩ := hB;have hz : ZInv md l.toArray (last.map (·.1)) listed listed := ⟨inv, fun _ h => h, fun _ h => .inl h⟩;have := wpAnyU_seq (P := P) (C := Cl w0) (Q := Q) (fin := setAll (last.map (·.1)) listed) (Lq := fun a' w' => Q .normal a' w') hsel hQ hs (by rw [hr]; simp) last listed a w (fun k hk => List.mem_map.2 ⟨k, hk, rfl⟩) hz hl rfl hC h;exact wpAny_of_U (g := 0) (fun listed' a' w' _ hL => wpAny_done (by rw [hL.1]; exact hr) hL.2 0) last.length listed a w hC this
 | (s, t) :: segs, last, listed, a, w0, w, inv, hB, hC, h => by
  simp only [mixB, Bool.and_eq_true, decide_eq_true_eq, Bool.not_eq_true'] at hB;obtain ⟨⟨⟨⟨hs, hl⟩, hr⟩, ht⟩, hB'⟩ := hB;have hz : ZInv md l.toArray (s.map (·.1)) listed listed := ⟨inv, fun _ h => h, fun _ h => .inl h⟩;have hmem : ∀ k ∈ s, k.1 ∈ s.map (·.1) := fun k hk => List.mem_map.2 ⟨k, hk, rfl⟩
  have hz' := seq_inv s listed hmem hz hl;have htr : t ∈ Region.ready md l.toArray (setAll (s.map (·.1)) listed) := by rw [hr]; simp
  have htn : t ∉ s.map (·.1) := by
   intro hx;rw [List.contains_iff_mem.2 hx] at ht;cases ht
  obtain ⟨_, ot, hot, _⟩ := mem_ready.1 htr
  have := wpAnyU_seq (P := P) (C := Cl w0) (Q := Q) (fin := setAll (s.map (·.1)) listed) (Lq := fun a' w' => wpList P l.toArray (Exit.then (fun a'' w'' => wpMix Cl P l Q segs last a'' w'' w'') Q) (pick l [t]) a' w') hsel hQ hs
   (by rw [hr]; intro j hj; rw [List.mem_singleton.1 hj]; exact htn) s listed a w hmem hz hl rfl hC h
  refine wpAny_of_U (g := mixN segs last + 1) (fun listed' a' w' _ hL => ?_) s.length listed a w hC this;refine wpAny_all (rs := [t]) (by rw [hL.1]; exact hr) (by simp) (fun i hi => ?_);rw [List.mem_singleton.1 hi, hL.1];exact wpOp_mono (fun a'' w'' h'' => wpAny_of_mix hrefl hsel hQ segs last _ a'' w'' w'' (hz'.closed.put htr) hB' (hrefl w'') h'') (wpOp_of_single hot hL.2)
theorem wp_region_mix {id : Nat} {a : Act} {w : World} {l : List Oper} (segs : List (List (Nat × Bool) × Nat)) (last : List (Nat × Bool)) (hm : P.follows .mixedOrders = true) (hQ : ∀ c a d v w, Q (.panic c) (Act.put a d v) w → Q (.panic c) a w)
  (hB : (Region.noSelect l.toArray && decide (mixN segs last = l.toArray.size) && mixB .any l.toArray segs last (Array.replicate l.toArray.size false)) = true)
  (h : wpMix (fun w w' => ∃ p : Regrown, w' = Go.Sort.grow (redrawn w p.d) p.os) P l Q segs last a w (w.drewN 1)) : (Code.region id l.toArray true).wp P Q a w := by
 simp only [Bool.and_eq_true, decide_eq_true_eq] at hB;obtain ⟨⟨hsel, hn⟩, hB⟩ := hB;refine wp_region_any hm ?_;rw [← hn];rw [← hn] at hB;exact wpAny_of_mix Growing.refl hsel hQ segs last _ a w _ ⟨by simp [hn], fun j oj _ hl => by rw [getD_repl] at hl; cases hl⟩ hB (Growing.drew w) h
end
theorem growing_fresh {w w' : World} (h : Fresh w w') : ∃ p : Regrown, w' = Go.Sort.grow (redrawn w p.d) p.os := regrown_of_below h.below
def ptokCells (x : Lx.PTok) : List Value := [.int .i64 x.kind, .string ⟨x.text.toArray⟩, .int .i64 x.from_, .int .i64 x.to_]
def TokRow (W : World) (v : Value) (ts : List Lx.PTok) : Prop :=
 ∃ A cap, v = .slice A ts.length cap ∧ ∀ i (hi : i < ts.length), ∃ g o, A = some ⟨g, o, none⟩ ∧ g < W.heap.size ∧
  W.cell? ⟨g, o + i * 4, none⟩ = some (.int .i64 ts[i].kind) ∧ W.cell? ⟨g, o + i * 4 + 1, none⟩ = some (.string ⟨ts[i].text.toArray⟩) ∧ W.cell? ⟨g, o + i * 4 + 2, none⟩ = some (.int .i64 ts[i].from_) ∧ W.cell? ⟨g, o + i * 4 + 3, none⟩ = some (.int .i64 ts[i].to_)
theorem TokRow.fresh {W W' : World} {v : Value} {ts : List Lx.PTok} (h : TokRow W v ts) (hf : Fresh W W') : TokRow W' v ts := by
 obtain ⟨A, cap, hv, hc⟩ := h;refine ⟨A, cap, hv, fun i hi => ?_⟩;obtain ⟨g, o, h1, h2, h3, h4, h5, h6⟩ := hc i hi;exact ⟨g, o, h1, Nat.lt_of_lt_of_le h2 hf.size, hf.cell h3 (fun h => h), hf.cell h4 (fun h => h), hf.cell h5 (fun h => h), hf.cell h6 (fun h => h)⟩
theorem owns_cells {W : World} {B e : Nat} {v : Value} {ts : List Lx.PTok} (h : W.ownsRow B e 4 v ts.length (ts.flatMap ptokCells)) (i : Nat) (hi : i < ts.length) :
  ∃ g cap, v = .slice (some ⟨g, 0, none⟩) ts.length cap ∧ B ≤ g ∧ g < W.heap.size ∧ ∀ j u, (ptokCells ts[i])[j]? = some u → W.cell? ⟨g, 4 * i + j, none⟩ = some u := by
 rcases h.2 with ⟨_, h0⟩ | ⟨g, cap, cur, hv, hB, r⟩
 ·omega
 ·subst hv
  refine ⟨g, cap, rfl, hB, (h.lt g rfl).2, fun j u hu => ?_⟩;have hcl := h.cells (g := g) rfl (4 * i + j) u ?_
  ·rw [Addr.add_mid, Nat.zero_add] at hcl; exact hcl
  ·have hj : j < 4 := by have := (List.getElem?_eq_some_iff.1 hu).1; simpa [ptokCells] using this
   clear h r
   induction ts generalizing i with
   | nil => simp at hi
   | cons x l ih =>
    cases i with
    | zero => rw [List.flatMap_cons, List.getElem?_append_left (by simp [ptokCells]; omega)]; simpa using hu
    | succ i =>
     rw [List.flatMap_cons, List.getElem?_append_right (by simp [ptokCells]; omega)];have := ih i (by simpa using hi) (by simpa using hu);rw [← this]; congr 1; simp [ptokCells]; omega
theorem owns_row {W : World} {B e : Nat} {v : Value} {ts : List Lx.PTok} (h : W.ownsRow B e 4 v ts.length (ts.flatMap ptokCells)) : TokRow W v ts := by
 obtain ⟨A, cap, hv⟩ : ∃ A cap, v = .slice A ts.length cap := by
  rcases h.2 with ⟨h1, h2⟩ | ⟨g, cap, cur, h1, _⟩
  ·exact ⟨none, 0, by rw [h1, h2]⟩
  ·exact ⟨_, _, h1⟩
 refine ⟨A, cap, hv, fun i hi => ?_⟩;obtain ⟨g, cap', h1, h2, h3, h4⟩ := owns_cells h i hi;rw [hv] at h1;cases h1;refine ⟨g, 0, rfl, h3, ?_⟩;rw [Nat.zero_add, Nat.mul_comm i 4];exact ⟨h4 0 _ rfl, h4 1 _ rfl, h4 2 _ rfl, h4 3 _ rfl⟩
theorem TokRow.nil (W : World) : TokRow W (.slice none 0 0) [] := ⟨none, 0, rfl, fun i hi => by simp at hi⟩
section
variable {P : Program} {md : Region.Mode} {Q : Exit → Act → World → Prop}
def wpPre (P : Program) (l : List Oper) (L : Act → Prop) : List Nat → Act → Prop
 | [], a => L a
 | i :: r, a => match l[i]? with
  | some o => if Region.wanted o (yielded l.toArray a.tmps) then stillV P o a (fun _ => True) (fun a' => wpPre P l L r a') else wpPre P l L r (a.put o.dst undef)
  | none => wpPre P l L r a
theorem wpPre_step {l : List Oper} {L : Act → Prop} {i : Nat} {o : Oper} {r : List Nat} {a : Act} (ho : l[i]? = some o)
  (h : ∀ K : Act → Prop, (∀ a, wpPre P l L r a → K a) → if Region.wanted o (yielded l.toArray a.tmps) then stillV P o a (fun _ => True) K else K (a.put o.dst undef)) : wpPre P l L (i :: r) a := by
 unfold wpPre;rw [ho];exact h _ (fun _ h => h)
theorem wpPre_end {l : List Oper} {L : Act → Prop} {a : Act} (h : L a) : wpPre P l L [] a := h
def preB (md : Region.Mode) (ops : Array Oper) : List Nat → Array Bool → Bool
 | [], _ => true
 | k :: r, listed => (Region.ready md ops listed).contains k && Region.free md ops listed k && preB md ops r (listed.setIfInBounds k true)
theorem pre_closed {l : List Oper} : ∀ (pre : List Nat) (listed : Array Bool), Closed md l.toArray listed → preB md l.toArray pre listed = true → Closed md l.toArray (setAll pre listed)
 | [], _, inv, _ => inv
 | k :: r, listed, inv, hB => by
  simp only [preB, Bool.and_eq_true] at hB;exact pre_closed r _ (inv.put (by simpa using hB.1.1)) hB.2
theorem wpAny_pre {l : List Oper} (hsel : Region.noSelect l.toArray = true) (hQ : ∀ c a d v w, Q (.panic c) (Act.put a d v) w → Q (.panic c) a w) {w : World} {f : Nat} {L : Act → Prop} :
  ∀ (pre : List Nat) (listed : Array Bool) (a : Act), preB md l.toArray pre listed = true → (∀ a', L a' → wpAny P md l.toArray Q f (setAll pre listed) a' w) → wpPre P l L pre a → wpAny P md l.toArray Q (pre.length + f) listed a w
 | [], listed, a, _, hL, h => by rw [List.length_nil, Nat.zero_add]; exact hL a h
 | k :: r, listed, a, hB, hL, h => by
  simp only [preB, Bool.and_eq_true] at hB;obtain ⟨⟨hr, hfr⟩, hB'⟩ := hB;have hr' : k ∈ Region.ready md l.toArray listed := by simpa using hr
  obtain ⟨_, o, ho, _⟩ := mem_ready.1 hr';have ho' : l[k]? = some o := by simpa using ho
  unfold wpPre at h;rw [ho'] at h
  obtain ⟨v, hy, hK⟩ : ∃ v, Yields P l.toArray o v a ∧ wpPre P l L r (a.put o.dst v) := by
   by_cases hw : Region.wanted o (yielded l.toArray a.tmps) = true
   ·simp only [hw, if_true] at h
    obtain ⟨v, h1, h2⟩ := h;exact ⟨v, .inl ⟨hw, fun w => stillUpon_ok (h1 w trivial)⟩, h2⟩
   ·simp only [hw] at h
    exact ⟨undef, .inr ⟨by simpa using hw, rfl⟩, h⟩
  rw [List.length_cons, show r.length + 1 + f = (r.length + f) + 1 by omega];exact wpAny_take ho hsel hfr hr (fun c a w => hQ c a o.dst v w) hy (wpAny_pre hsel hQ r _ _ hB' hL hK)
theorem wp_region_pre {id : Nat} {a : Act} {w : World} {l : List Oper} (pre : List Nat) (segs : List (List (Nat × Bool) × Nat)) (last : List (Nat × Bool)) (hm : P.follows .mixedOrders = true) (hQ : ∀ c a d v w, Q (.panic c) (Act.put a d v) w → Q (.panic c) a w)
  (hB : (Region.noSelect l.toArray && decide (pre.length + mixN segs last = l.toArray.size) && preB .any l.toArray pre (Array.replicate l.toArray.size false) && mixB .any l.toArray segs last (setAll pre (Array.replicate l.toArray.size false))) = true)
  (h : wpPre P l (fun a' => wpMix (fun w w' => ∃ p : Regrown, w' = Go.Sort.grow (redrawn w p.d) p.os) P l Q segs last a' w (w.drewN 1)) pre a) : (Code.region id l.toArray true).wp P Q a w := by
 simp only [Bool.and_eq_true, decide_eq_true_eq] at hB;obtain ⟨⟨⟨hsel, hn⟩, hp⟩, hB⟩ := hB;refine wp_region_any hm ?_;rw [← hn];rw [← hn] at hp hB;refine wpAny_pre hsel hQ pre _ a hp (fun a' h' => ?_) h;exact wpAny_of_mix Growing.refl hsel hQ segs last _ a' w _ (pre_closed pre _ ⟨by simp [hn], fun j oj _ hl => by rw [getD_repl] at hl; cases hl⟩ hp) hB (Growing.drew w) h'
end
theorem wp_region_in {P : Program} {Q : Exit → Act → World → Prop} {id : Nat} {a : Act} {w : World} {l : List Oper} (C : World → Prop) (last : List (Nat × Bool)) (hm : P.follows .mixedOrders = true) (hQ : ∀ c a d v w, Q (.panic c) (Act.put a d v) w → Q (.panic c) a w)
  (hB : (Region.noSelect l.toArray && decide (last.length = l.toArray.size) && (shutB .any l.toArray (last.map (·.1)) none (Array.replicate l.toArray.size false) && seqB .any l.toArray last (Array.replicate l.toArray.size false) && (Region.ready .any l.toArray (setAll (last.map (·.1)) (Array.replicate l.toArray.size false))).isEmpty)) = true)
  (hC : C (w.drewN 1)) (h : wpSeq P l Q C (fun a' w' => Q .normal a' w') last a (w.drewN 1)) : (Code.region id l.toArray true).wp P Q a w := by
 simp only [Bool.and_eq_true, decide_eq_true_eq, List.isEmpty_iff] at hB;obtain ⟨⟨hsel, hn⟩, ⟨hs, hl⟩, hr⟩ := hB;refine wp_region_any hm ?_;rw [← hn];rw [← hn] at hs hl hr;have inv : Closed .any l.toArray (Array.replicate last.length false) := ⟨by simp [hn], fun j oj _ hl => by rw [getD_repl] at hl; cases hl⟩;have hz : ZInv .any l.toArray (last.map (·.1)) (Array.replicate last.length false) (Array.replicate last.length false) := ⟨inv, fun _ h => h, fun _ h => .inl h⟩;have := wpAnyU_seq (P := P) (C := C) (Q := Q) (fin := setAll (last.map (·.1)) (Array.replicate last.length false)) (Lq := fun a' w' => Q .normal a' w') hsel hQ hs (by rw [hr]; simp) last _ a (w.drewN 1) (fun k hk => List.mem_map.2 ⟨k, hk, rfl⟩) hz hl rfl hC h;exact wpAny_of_U (g := 0) (fun listed' a' w' _ hL => wpAny_done (by rw [hL.1]; exact hr) hL.2 0) last.length _ a _ hC this
end Go.Proofs.YtncnoeoicaglaaaGreat
