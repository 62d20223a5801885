/- The walk of the reference's Same. -/
import Derived.Test.YtleclhmdcdichaaWrA
namespace Go.Proofs.Ytleclhmdcdichaa
open Go.RowKit

theorem sameL_snoc : ∀ (xs ys : List Lx.PTok) (p : Bool) (k : Nat) (hx : k < xs.length) (hy : k < ys.length), Lx.sameL (xs.take (k + 1)) (ys.take (k + 1)) p = (Lx.sameL (xs.take k) (ys.take k) p && Lx.sameT xs[k] ys[k] p)
  | x :: xs, y :: ys, p, 0, _, _ => by simp [Lx.sameL]
  | x :: xs, y :: ys, p, k + 1, hx, hy => by
    simp only [List.take_succ_cons, Lx.sameL, List.getElem_cons_succ]
    rw [sameL_snoc xs ys p k (by simpa using hx) (by simpa using hy), Bool.and_assoc]
  | [], _, _, _, hx, _ => by simp at hx
  | _ :: _, [], _, _, _, hy => by simp at hy
theorem sameL_len : ∀ (xs ys : List Lx.PTok) (p : Bool), xs.length ≠ ys.length → Lx.sameL xs ys p = false
  | [], [], _, h => absurd rfl h
  | x :: xs, y :: ys, p, h => by rw [Lx.sameL, sameL_len xs ys p (by simpa using h), Bool.and_false]
  | [], _ :: _, _, _ => rfl
  | _ :: _, [], _, _ => rfl
theorem sameL_no : ∀ (xs ys : List Lx.PTok) (p : Bool) (k : Nat) (hx : k < xs.length) (hy : k < ys.length), Lx.sameT xs[k] ys[k] p = false → Lx.sameL xs ys p = false
  | x :: xs, y :: ys, p, 0, _, _, h => by simp only [List.getElem_cons_zero] at h; rw [Lx.sameL, h, Bool.false_and]
  | x :: xs, y :: ys, p, k + 1, hx, hy, h => by
    simp only [List.getElem_cons_succ] at h
    rw [Lx.sameL, sameL_no xs ys p k (by simpa using hx) (by simpa using hy) h, Bool.and_false]
  | [], _, _, _, hx, _, _ => by simp at hx
  | _ :: _, [], _, _, _, hy, _ => by simp at hy

theorem str_bne (a b : List UInt8) : ((⟨a.toArray⟩ : ByteArray) != ⟨b.toArray⟩) = !(a == b) := by
  show (!(a.toArray == b.toArray)) = _
  simp
theorem nat_bne (a b : Nat) : ((a : Int) != (b : Int)) = !(a == b) := by
  rw [Bool.eq_iff_iff, bne_iff_ne]
  simp [Int.ofNat_inj]

set_option maxRecDepth 100000 in
set_option maxHeartbeats 2000000 in
theorem rSame_any (v1 v2 : Value) (xs ys : List Lx.PTok) (p : Bool) (w : World) (h1 : TokRow w v1 xs) (h2 : TokRow w v2 ys) (hm : xs.length ≤ 1000000) :
    Calls Try.prog 14 #[v1, v2, .bool p] w fun e w' => e = .returned (.bool (Lx.sameL xs ys p)) ∧ Fresh w w' := by
  obtain ⟨A, cap, rfl, hc⟩ := h1
  obtain ⟨B, cbp, rfl, hd⟩ := h2
  have HC := hid hc
  have HD := hid hd
  clear hc hd
  by_cases c0 : xs.length = ys.length
  · have b0 : ((xs.length : Int) != (ys.length : Int)) = false := by rw [nat_bne, beq_iff_eq.2 c0]; rfl
    have C0 := hid c0
    clear c0
    go_enter Try.func14, Try.ntmps14
    go_wp2_with fail
    clear b0
    go_loopw [7] (fun i wr => ∃ k : Nat, i = .int .i64 k ∧ k ≤ xs.length ∧ Hid (Lx.sameL (xs.take k) (ys.take k) p = true) ∧ Hid (Fresh w wr)) (fun i _ => xs.length - (intOf i).toNat)
    case atStart => exact ⟨0, rfl, Nat.zero_le _, by simp [Lx.sameL, Hid], Touch.refl _ _⟩
    case round =>
      obtain ⟨k, rfl, hk, HA, HF⟩ := hrel
      by_cases c1 : k < xs.length
      · have d1 : decide ((k : Int) < (xs.length : Int)) = true := by simp; omega
        have c1y : k < ys.length := by rw [← C0.out]; exact c1
        obtain ⟨g, o, rfl, hg, m0, m1, m2, m3⟩ := HC.out k c1
        obtain ⟨g', o', rfl, hg', n0, n1, n2, n3⟩ := HD.out k c1y
        have q0 := HF.out.cell m0 (fun h => h)
        have q1 := HF.out.cell m1 (fun h => h)
        have q2 := HF.out.cell m2 (fun h => h)
        have q3 := HF.out.cell m3 (fun h => h)
        have r0 := HF.out.cell n0 (fun h => h)
        have r1 := HF.out.cell n1 (fun h => h)
        have r2 := HF.out.cell n2 (fun h => h)
        have r3 := HF.out.cell n3 (fun h => h)
        clear m0 m1 m2 m3 n0 n1 n2 n3 HC HD
        have HS := hid (sameL_snoc xs ys p k c1 c1y)
        have HN := hid (sameL_no xs ys p k c1 c1y)
        have d1' : (k : Int) < (xs.length : Int) := by omega
        have d1y : (k : Int) < (ys.length : Int) := by omega
        generalize xs[k] = tk at *
        generalize ys[k] = tl at *
        have e0 := nat_bne tk.kind tl.kind
        have e1 := str_bne tk.text tl.text
        have e2 := nat_bne tk.from_ tl.from_
        have e3 := nat_bne tk.to_ tl.to_
        have hT : Lx.sameT tk tl p = ((tk.kind == tl.kind) && (tk.text == tl.text) && (!p || ((tk.from_ == tl.from_) && (tk.to_ == tl.to_)))) := rfl
        have HT := hid hT
        clear hT
        generalize (tk.kind == tl.kind) = B0 at *
        generalize hb1 : (tk.text == tl.text) = B1 at *
        generalize (tk.from_ == tl.from_) = B2 at *
        generalize (tk.to_ == tl.to_) = B3 at *
        cases B0 with
        | false =>
          simp only [Bool.not_false] at e0
          go_wp2_with fail
          go_quiet (fail)
          go_wp2_with fail
          go_ret
          exact ⟨by rw [HN.out (by rw [HT.out]; rfl)]; rfl, HF.out.drewN _⟩
        | true =>
          simp only [Bool.not_true] at e0
          cases B1 with
          | false =>
            simp only [Bool.not_false] at e1
            go_wp2_with fail
            go_quiet (fail)
            go_wp2_with fail
            go_ret
            exact ⟨by rw [HN.out (by rw [HT.out]; rfl)]; rfl, HF.out.drewN _⟩
          | true =>
            simp only [Bool.not_true] at e1
            cases p with
            | false =>
              go_wp2_with fail
              go_quiet (fail)
              go_wp2_with fail
              go_roundw
              case rel => exact ⟨k + 1, by go_num, c1, by rw [HS.out, HA.out, HT.out]; rfl, HF.out.drewN _⟩
              case measure => simp [intOf]; omega
            | true =>
              cases B2 with
              | false =>
                simp only [Bool.not_false] at e2
                go_wp2_with fail
                go_quiet (fail)
                go_wp2_with fail
                go_ret
                exact ⟨by rw [HN.out (by rw [HT.out]; rfl)]; rfl, HF.out.drewN _⟩
              | true =>
                simp only [Bool.not_true] at e2
                cases B3 with
                | false =>
                  simp only [Bool.not_false] at e3
                  go_wp2_with fail
                  go_quiet (fail)
                  go_wp2_with fail
                  go_ret
                  exact ⟨by rw [HN.out (by rw [HT.out]; rfl)]; rfl, HF.out.drewN _⟩
                | true =>
                  simp only [Bool.not_true] at e3
                  go_wp2_with fail
                  go_quiet (fail)
                  go_wp2_with fail
                  go_roundw
                  case rel => exact ⟨k + 1, by go_num, c1, by rw [HS.out, HA.out, HT.out]; rfl, HF.out.drewN _⟩
                  case measure => simp [intOf]; omega
      · have d1 : decide ((k : Int) < (xs.length : Int)) = false := by simp; omega
        obtain rfl : k = xs.length := by omega
        go_wp2_with fail
        go_ret
        refine ⟨?_, HF.out⟩
        have := HA.out
        rw [List.take_length, C0.out, List.take_length] at this
        rw [this]; rfl
  · have b0 : ((xs.length : Int) != (ys.length : Int)) = true := by rw [nat_bne, beq_eq_false_iff_ne.2 c0]; rfl
    have HR := hid (sameL_len xs ys p c0)
    clear c0
    go_enter Try.func14, Try.ntmps14
    go_wp2_with fail
    go_ret
    exact ⟨by rw [HR.out]; rfl, Touch.refl _ _⟩
end Go.Proofs.Ytleclhmdcdichaa
