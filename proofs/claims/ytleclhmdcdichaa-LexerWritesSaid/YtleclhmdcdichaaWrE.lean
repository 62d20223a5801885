/- The walk of LexerWrites. -/
import Derived.Test.YtleclhmdcdichaaWrD
namespace Go.Proofs.Ytleclhmdcdichaa
open Go.RowKit

/-- A slice whose elements are these bytes. -/
def ByteRow (W : World) (v : Value) (zs : List Nat) : Prop :=
  ∃ A cap, v = .slice A zs.length cap ∧ ∀ i (hi : i < zs.length), ∃ a : Addr, A = some a ∧ a.block < W.heap.size ∧ W.cell? (a.add i) = some (.int .u8 zs[i])

theorem pad_cell (W : World) (z : Nat) : (W.alloc (.cells #[.string ⟨#[]⟩, .string ⟨#[]⟩, .string ⟨#[32]⟩, .string ⟨#[9, 10]⟩, .string ⟨#[32, 32]⟩] 9)).cell? ⟨W.heap.size, z % 5, none⟩ = some (.string ⟨(pad (z % 5)).toArray⟩) := by
  rw [(Blk.new W 9 _).cell]
  have h : z % 5 < 5 := Nat.mod_lt _ (by decide)
  generalize z % 5 = r at *
  match r, h with
  | 0, _ => rfl
  | 1, _ => rfl
  | 2, _ => rfl
  | 3, _ => rfl
  | 4, _ => rfl

set_option maxRecDepth 100000 in
set_option maxHeartbeats 8000000 in
theorem lexerWrites_any (s : ByteArray) (v : Value) (zs : List Nat) (w : World) (hv : ByteRow w v zs) (hz : ∀ z ∈ zs, z < 256) : Calls Try.prog 5 #[.string s, v] w fun e w' => e = .returned (.bool true) ∧ Fresh w w' := by
  obtain ⟨A, cap, rfl, hc⟩ := hv
  have HC := hid hc
  clear hc
  have hll : s.data.toList.length = s.size := by simp
  by_cases c1 : 2000 < s.size
  · have b1 : decide ((2000 : Int) < (s.size : Int)) = true := by simp; omega
    go_enter Try.func5, Try.ntmps5
    go_wp2_with fail
    refine (awake_any _).mono ?_
    rintro e1 w1 ⟨rfl, hf1⟩
    have HF1 := hid hf1
    clear hf1
    go_wp2_with fail
    refine (awake_any _).mono ?_
    rintro e2 w2 ⟨rfl, hf2⟩
    have HF2 := hid hf2
    clear hf2
    go_wp2_with fail
    go_ret
    exact ⟨rfl, HF1.out.trans HF2.out⟩
  · have b1 : decide ((2000 : Int) < (s.size : Int)) = false := by simp; omega
    by_cases c2 : 100 < zs.length
    · have b2 : decide ((100 : Int) < (zs.length : Int)) = true := by simp; omega
      go_enter Try.func5, Try.ntmps5
      go_wp2_with fail
      refine (awake_any _).mono ?_
      rintro e1 w1 ⟨rfl, hf1⟩
      have HF1 := hid hf1
      clear hf1
      go_wp2_with fail
      refine (awake_any _).mono ?_
      rintro e2 w2 ⟨rfl, hf2⟩
      have HF2 := hid hf2
      clear hf2
      go_wp2_with fail
      go_ret
      exact ⟨rfl, HF1.out.trans HF2.out⟩
    · have b2 : decide ((100 : Int) < (zs.length : Int)) = false := by simp; omega
      have hcount := Lx.lexAll_count s.data.toList
      go_enter Try.func5, Try.ntmps5
      have HLL := hid hll
      clear hll
      go_wp2_with fail
      refine (awake_any _).mono ?_
      rintro e1 w1 ⟨rfl, hf1⟩
      have HF1 := hid hf1
      clear hf1
      go_wp2_with fail
      cases hr : (Lx.lexAll s.data.toList).2 with
      | some q =>
        obtain ⟨p, er⟩ := q
        have hne : ((er : Int) != 0) = true := by have := Lx.lexGo_err _ _ _ _ _ hr; rw [bne_iff_ne]; omega
        refine (Tokens_err hr (by omega) (by rw [HLL.out] at hcount; omega)).mono ?_
        rintro e2 w2 ⟨hf2, rfl⟩
        have HF2 := hid hf2
        clear hf2 hr hcount
        go_wp2_with fail
        go_ret
        exact ⟨rfl, HF1.out.trans HF2.out⟩
      | none =>
        have hok := Lx.lexAll_places _ hr
        have htok := Lx.lexGo_ok s.data.toList (s.data.toList.length + 1) 0
        obtain ⟨ts, hts⟩ : ∃ ts, (Lx.lexAll s.data.toList).1 = ts := ⟨_, rfl⟩
        have htok' : ∀ t ∈ ts, Lx.TokOK (Lx.tok t) := by rw [← hts]; exact htok
        rw [hts] at hok hcount
        have hle := okFrom_spell_le hok
        rw [HLL.out] at hcount hle
        have hlex : Lx.lexAll s.data.toList = (ts, none) := by rw [← hts, ← hr]
        refine (Tokens_ok hlex (by omega) (by omega)).mono ?_
        rintro e2 w2 ⟨hf2, v, rfl, hrow⟩
        obtain ⟨L, lcap, rfl⟩ : ∃ A cap, v = .slice A ts.length cap := by
          rcases hrow.2 with ⟨h1, h2⟩ | ⟨g, cap, cur, h1, _⟩
          · exact ⟨none, 0, by rw [h1, h2]⟩
          · exact ⟨_, _, h1⟩
        have HF2 := hid hf2
        have HTOK := hid htok'
        have HLE := hid hle
        have HROW := hid hrow
        have HLEN := hid (wr_len ts zs s.size hle)
        have HSAME := hid (wr_same ts zs htok')
        clear hf2 hok hrow hlex hts hr htok htok' hle
        go_wp2_with fail
        go_loopw [8, 37] (fun x y wr => ∃ k : Nat, y = .int .i64 k ∧ k ≤ ts.length ∧ x = .string ⟨(Lx.flat (wrL ts zs k)).toArray⟩ ∧ Hid (Fresh w2 wr)) (fun _ y _ => ts.length - (intOf y).toNat)
        case atStart => exact ⟨0, rfl, Nat.zero_le _, rfl, Touch.refl _ _⟩
        case round =>
          obtain ⟨k, rfl, hk, rfl, HFR⟩ := hrel
          have hlk := HLEN.out k hk
          have hlk2 : (Lx.flat (wrL ts zs k)).length ≤ 4100000 := Nat.le_trans hlk (Nat.le_trans (Nat.mul_le_mul (show k ≤ 2000 by omega) (show s.size + 3 ≤ 2003 by omega)) (by decide))
          by_cases c3 : k < ts.length
          · have d1 : decide ((k : Int) < (ts.length : Int)) = true := by simp; omega
            have d1' : (k : Int) < (ts.length : Int) := by omega
            obtain ⟨g, cap', hv, hg1, hg2, hcells⟩ := toks_cells HROW.out k c3
            cases hv
            obtain ⟨q0, q1, q2, q3⟩ := tok_four hcells HFR.out
            clear hcells
            have hb := HTOK.out _ (List.getElem_mem (l := ts) (n := k) c3)
            have lb := HLE.out _ (List.getElem_mem (l := ts) (n := k) c3)
            have hfl := flat_wr ts zs k
            have htk : tokAt ts k = Lx.tok ts[k] := by unfold tokAt; rw [List.getD_eq_getElem?_getD, List.getElem?_eq_getElem c3]; rfl
            rw [htk] at hfl
            have HFL := hid hfl
            have HTK := hid htk
            clear hfl htk hlk
            generalize ts[k] = b at *
            have hb2 : (⟨b.text.toArray⟩ : ByteArray).size ≤ 1000000000 := by
              have h1 := Lx.spellL_len b.kind b.text
              show b.text.toArray.size ≤ _
              have h2 : (Lx.spellL b.kind b.text).length ≤ s.size := lb
              simp; omega
            have S2 : ∀ w, Calls Try.prog 10 #[.agg #[.int .i64 b.kind, .string ⟨b.text.toArray⟩, .int .i64 b.from_, .int .i64 b.to_]] w fun e w' => e = .returned (.string ⟨(Lx.spell (Lx.tok b)).toArray⟩) ∧ Fresh w w' := fun w => spell_any b.kind ⟨b.text.toArray⟩ b.from_ b.to_ w hb2
            generalize Lx.flat (wrL ts zs k) = acc at *
            generalize hsb : Lx.spell (Lx.tok b) = sb at *
            have HS2 := hid S2
            clear S2
            have hblk := Blk.new wr 28 #[.int .i64 b.kind, .string ⟨b.text.toArray⟩, .int .i64 b.from_, .int .i64 b.to_]
            obtain ⟨e0, e1, e2, e3, _, _, _, _, hge⟩ := Blk.four hblk
            have hlsb : sb.length ≤ 2000 := by omega
            have HBLK := hid hblk
            clear hblk
            by_cases c4 : k = 0
            · have d2 : decide ((0 : Int) < (k : Int)) = false := by simp; omega
              have d2n : decide (0 < k) = false := by simp; omega
              have hsj : sepJ ts k = [] := by unfold sepJ; rw [if_neg (by omega)]
              have HSJ := hid hsj
              clear hsj e0 e1 e2 e3 c4
              go_wp2_with fail
              refine wp_region_quiet_below (by kernel_rfl) (by kernel_rfl) ?_
              repeat (quiet_step (fail))
              refine wpQuiet_nil ?_
              rintro W3 ⟨⟨dq, osq⟩, hW3⟩
              have HW3 := hid (show Fresh (wr.alloc (.cells #[.int .i64 b.kind, .string ⟨b.text.toArray⟩, .int .i64 b.from_, .int .i64 b.to_] 28)) W3 by rw [hW3]; exact fresh_of_below (below_regrown _ _ _))
              clear hW3
              have hWb := HW3.out.blk (Blk.new wr 28 #[.int .i64 b.kind, .string ⟨b.text.toArray⟩, .int .i64 b.from_, .int .i64 b.to_]) (fun h => h)
              obtain ⟨p0, p1, p2, p3, _, _, _, _, hgb⟩ := Blk.four hWb
              have hacc1 : acc = acc := rfl
              have hla : acc.length ≤ 4100001 := by omega
              by_cases c6 : k < zs.length
              · have d3 : decide ((k : Int) < (zs.length : Int)) = true := by simp; omega
                have d3' : (k : Int) < (zs.length : Int) := by omega
                obtain ⟨ad, rfl, had, hcz⟩ := HC.out k c6
                have hfz : Fresh w W3 := HF1.out.trans (HF2.out.trans (HFR.out.trans HW3.out.pre))
                have cz := (hfz.alloc (.cells #[.string ⟨#[]⟩, .string ⟨#[]⟩, .string ⟨#[32]⟩, .string ⟨#[9, 10]⟩, .string ⟨#[32, 32]⟩] 9)).cell hcz (fun h => h)
                have hz5 := hz _ (List.getElem_mem c6)
                have hsp : sepP zs k = pad (zs[k] % 5) := by unfold sepP; rw [dif_pos c6]
                have HSP := hid hsp
                clear hsp hcz hfz HC
                generalize zs[k] = z at *
                have cs : (W3.alloc (.cells #[.string ⟨#[]⟩, .string ⟨#[]⟩, .string ⟨#[32]⟩, .string ⟨#[9, 10]⟩, .string ⟨#[32, 32]⟩] 9)).cell? ⟨W3.heap.size, z % 5, none⟩ = some (.string ⟨(pad (z % 5)).toArray⟩) := pad_cell W3 z
                have m1 : (z : Int) % 5 < 5 := by omega
                have hpl := pad_len (z % 5)
                generalize pad (z % 5) = pd at *
                have hr2 := fun W : World => run_string_add_lists (P := Try.prog) W acc pd (by omega) (by omega)
                have hr3 := fun W : World => run_string_add_lists (P := Try.prog) W (acc ++ pd) sb (by simp; omega) (by omega)
                go_wp2_with fail
                refine (HS2.out _).mono ?_
                rintro e4 w4 ⟨rfl, hf4⟩
                have hf5 : Fresh wr w4 := (HW3.out.trans hf4.pre).pre
                have HF5 := hid hf5
                clear hf4 hf5 p0 p1 p2 p3
                go_wp2_with fail
                go_roundw
                case rel => exact ⟨k + 1, by go_num, c3, by rw [HFL.out, HSJ.out, HSP.out]; simp, HFR.out.trans HF5.out⟩
                case measure => simp [intOf]; omega
              · have d3 : decide ((k : Int) < (zs.length : Int)) = false := by simp; omega
                have hsp : sepP zs k = [] := by unfold sepP; rw [dif_neg c6]
                have HSP := hid hsp
                clear hsp
                have hr3 := fun W : World => run_string_add_lists (P := Try.prog) W acc sb (by omega) (by omega)
                go_wp2_with fail
                refine (HS2.out _).mono ?_
                rintro e4 w4 ⟨rfl, hf4⟩
                have hf5 : Fresh wr w4 := (HW3.out.trans hf4).pre
                have HF5 := hid hf5
                clear hf4 hf5 p0 p1 p2 p3
                go_wp2_with fail
                go_roundw
                case rel => exact ⟨k + 1, by go_num, c3, by rw [HFL.out, HSJ.out, HSP.out]; simp, HFR.out.trans HF5.out⟩
                case measure => simp [intOf]; omega
            · have d2 : decide ((0 : Int) < (k : Int)) = true := by simp; omega
              have d2n : decide (0 < k) = true := by simp; omega
              have hwr : IntKind.i64.wrap ((k : Int) - 1) = ((k - 1 : Nat) : Int) := by rw [IntWalk.i64_in _ (by omega)]; omega
              have d5 : ((k - 1 : Nat) : Int) < (ts.length : Int) := by omega
              have c5 : k - 1 < ts.length := by omega
              obtain ⟨g', cap', hv, _, _, hcells'⟩ := toks_cells HROW.out (k - 1) c5
              cases hv
              obtain ⟨r0, r1, r2, r3⟩ := tok_four hcells' (HFR.out.trans ((Touch.refl _ wr).alloc (.cells #[.int .i64 b.kind, .string ⟨b.text.toArray⟩, .int .i64 b.from_, .int .i64 b.to_] 28)))
              clear hcells'
              have hsj : sepJ ts k = if Lx.join (Lx.tok ts[k - 1]) (Lx.tok b) = true then [32] else [] := by
                unfold sepJ
                rw [HTK.out, show tokAt ts (k - 1) = Lx.tok ts[k - 1] by unfold tokAt; rw [List.getD_eq_getElem?_getD, List.getElem?_eq_getElem c5]; rfl]
                simp only [show 0 < k by omega, true_and]
              generalize ts[k - 1] = a at *
              have J1 : ∀ w, Calls Try.prog 12 #[.agg #[.int .i64 a.kind, .string ⟨a.text.toArray⟩, .int .i64 a.from_, .int .i64 a.to_], .agg #[.int .i64 b.kind, .string ⟨b.text.toArray⟩, .int .i64 b.from_, .int .i64 b.to_]] w fun e w' => e = .returned (.bool (Lx.join (Lx.tok a) (Lx.tok b))) ∧ Fresh w w' := fun w => by
                rw [← joinsL_tok]; exact joins_any a.kind a.from_ a.to_ b.kind b.from_ b.to_ ⟨a.text.toArray⟩ ⟨b.text.toArray⟩ w
              have HJJ := hid J1
              have HSJ0 := hid hsj
              clear hsj J1
              have k0 := cell_regrown e0
              have k1 := cell_regrown e1
              have k2 := cell_regrown e2
              have k3 := cell_regrown e3
              have l0 := cell_regrown r0
              have l1 := cell_regrown r1
              have l2 := cell_regrown r2
              have l3 := cell_regrown r3
              cases hjj : Lx.join (Lx.tok a) (Lx.tok b)
              · rw [hjj] at HJJ HSJ0
                have HSJ := hid (show sepJ ts k = [] by rw [HSJ0.out]; rfl)
                clear HSJ0 hjj
                have C3 := hid (calm HJJ.out (wr.alloc (.cells #[.int .i64 b.kind, .string ⟨b.text.toArray⟩, .int .i64 b.from_, .int .i64 b.to_] 28)))
                clear e0 e1 e2 e3 r0 r1 r2 r3
                go_wp2_with fail
                refine wp_region_quiet_below (by kernel_rfl) (by kernel_rfl) ?_
                repeat (quiet_step (with_reducible exact C3.out _ _))
                refine wpQuiet_nil ?_
                rintro W3 ⟨⟨dq, osq⟩, hW3⟩
                have HW3 := hid (show Fresh (wr.alloc (.cells #[.int .i64 b.kind, .string ⟨b.text.toArray⟩, .int .i64 b.from_, .int .i64 b.to_] 28)) W3 by rw [hW3]; exact fresh_of_below (below_regrown _ _ _))
                clear hW3 k0 k1 k2 k3 l0 l1 l2 l3
                have hWb := HW3.out.blk (Blk.new wr 28 #[.int .i64 b.kind, .string ⟨b.text.toArray⟩, .int .i64 b.from_, .int .i64 b.to_]) (fun h => h)
                obtain ⟨p0, p1, p2, p3, _, _, _, _, hgb⟩ := Blk.four hWb
                have hacc1 : acc = acc := rfl
                have hla : acc.length ≤ 4100001 := by omega
                by_cases c6 : k < zs.length
                · have d3 : decide ((k : Int) < (zs.length : Int)) = true := by simp; omega
                  have d3' : (k : Int) < (zs.length : Int) := by omega
                  obtain ⟨ad, rfl, had, hcz⟩ := HC.out k c6
                  have hfz : Fresh w W3 := HF1.out.trans (HF2.out.trans (HFR.out.trans HW3.out.pre))
                  have cz := (hfz.alloc (.cells #[.string ⟨#[]⟩, .string ⟨#[]⟩, .string ⟨#[32]⟩, .string ⟨#[9, 10]⟩, .string ⟨#[32, 32]⟩] 9)).cell hcz (fun h => h)
                  have hz5 := hz _ (List.getElem_mem c6)
                  have hsp : sepP zs k = pad (zs[k] % 5) := by unfold sepP; rw [dif_pos c6]
                  have HSP := hid hsp
                  clear hsp hcz hfz HC
                  generalize zs[k] = z at *
                  have cs : (W3.alloc (.cells #[.string ⟨#[]⟩, .string ⟨#[]⟩, .string ⟨#[32]⟩, .string ⟨#[9, 10]⟩, .string ⟨#[32, 32]⟩] 9)).cell? ⟨W3.heap.size, z % 5, none⟩ = some (.string ⟨(pad (z % 5)).toArray⟩) := pad_cell W3 z
                  have m1 : (z : Int) % 5 < 5 := by omega
                  have hpl := pad_len (z % 5)
                  generalize pad (z % 5) = pd at *
                  have hr2 := fun W : World => run_string_add_lists (P := Try.prog) W acc pd (by omega) (by omega)
                  have hr3 := fun W : World => run_string_add_lists (P := Try.prog) W (acc ++ pd) sb (by simp; omega) (by omega)
                  go_wp2_with fail
                  refine (HS2.out _).mono ?_
                  rintro e4 w4 ⟨rfl, hf4⟩
                  have hf5 : Fresh wr w4 := (HW3.out.trans hf4.pre).pre
                  have HF5 := hid hf5
                  clear hf4 hf5 p0 p1 p2 p3
                  go_wp2_with fail
                  go_roundw
                  case rel => exact ⟨k + 1, by go_num, c3, by rw [HFL.out, HSJ.out, HSP.out]; simp, HFR.out.trans HF5.out⟩
                  case measure => simp [intOf]; omega
                · have d3 : decide ((k : Int) < (zs.length : Int)) = false := by simp; omega
                  have hsp : sepP zs k = [] := by unfold sepP; rw [dif_neg c6]
                  have HSP := hid hsp
                  clear hsp
                  have hr3 := fun W : World => run_string_add_lists (P := Try.prog) W acc sb (by omega) (by omega)
                  go_wp2_with fail
                  refine (HS2.out _).mono ?_
                  rintro e4 w4 ⟨rfl, hf4⟩
                  have hf5 : Fresh wr w4 := (HW3.out.trans hf4).pre
                  have HF5 := hid hf5
                  clear hf4 hf5 p0 p1 p2 p3
                  go_wp2_with fail
                  go_roundw
                  case rel => exact ⟨k + 1, by go_num, c3, by rw [HFL.out, HSJ.out, HSP.out]; simp, HFR.out.trans HF5.out⟩
                  case measure => simp [intOf]; omega
              · rw [hjj] at HJJ HSJ0
                have HSJ := hid (show sepJ ts k = [32] by rw [HSJ0.out]; rfl)
                clear HSJ0 hjj
                have C3 := hid (calm HJJ.out (wr.alloc (.cells #[.int .i64 b.kind, .string ⟨b.text.toArray⟩, .int .i64 b.from_, .int .i64 b.to_] 28)))
                clear e0 e1 e2 e3 r0 r1 r2 r3
                go_wp2_with fail
                refine wp_region_quiet_below (by kernel_rfl) (by kernel_rfl) ?_
                repeat (quiet_step (with_reducible exact C3.out _ _))
                refine wpQuiet_nil ?_
                rintro W3 ⟨⟨dq, osq⟩, hW3⟩
                have HW3 := hid (show Fresh (wr.alloc (.cells #[.int .i64 b.kind, .string ⟨b.text.toArray⟩, .int .i64 b.from_, .int .i64 b.to_] 28)) W3 by rw [hW3]; exact fresh_of_below (below_regrown _ _ _))
                clear hW3 k0 k1 k2 k3 l0 l1 l2 l3
                have hWb := HW3.out.blk (Blk.new wr 28 #[.int .i64 b.kind, .string ⟨b.text.toArray⟩, .int .i64 b.from_, .int .i64 b.to_]) (fun h => h)
                obtain ⟨p0, p1, p2, p3, _, _, _, _, hgb⟩ := Blk.four hWb
                have hr1 := fun W : World => run_string_add_lists (P := Try.prog) W acc [32] (by omega) (by decide)
                generalize hacc1 : acc ++ [32] = acc1 at *
                have hla : acc1.length ≤ 4100001 := by rw [← hacc1]; simp; omega
                by_cases c6 : k < zs.length
                · have d3 : decide ((k : Int) < (zs.length : Int)) = true := by simp; omega
                  have d3' : (k : Int) < (zs.length : Int) := by omega
                  obtain ⟨ad, rfl, had, hcz⟩ := HC.out k c6
                  have hfz : Fresh w W3 := HF1.out.trans (HF2.out.trans (HFR.out.trans HW3.out.pre))
                  have cz := (hfz.alloc (.cells #[.string ⟨#[]⟩, .string ⟨#[]⟩, .string ⟨#[32]⟩, .string ⟨#[9, 10]⟩, .string ⟨#[32, 32]⟩] 9)).cell hcz (fun h => h)
                  have hz5 := hz _ (List.getElem_mem c6)
                  have hsp : sepP zs k = pad (zs[k] % 5) := by unfold sepP; rw [dif_pos c6]
                  have HSP := hid hsp
                  clear hsp hcz hfz HC
                  generalize zs[k] = z at *
                  have cs : (W3.alloc (.cells #[.string ⟨#[]⟩, .string ⟨#[]⟩, .string ⟨#[32]⟩, .string ⟨#[9, 10]⟩, .string ⟨#[32, 32]⟩] 9)).cell? ⟨W3.heap.size, z % 5, none⟩ = some (.string ⟨(pad (z % 5)).toArray⟩) := pad_cell W3 z
                  have m1 : (z : Int) % 5 < 5 := by omega
                  have hpl := pad_len (z % 5)
                  generalize pad (z % 5) = pd at *
                  have hr2 := fun W : World => run_string_add_lists (P := Try.prog) W acc1 pd (by omega) (by omega)
                  have hr3 := fun W : World => run_string_add_lists (P := Try.prog) W (acc1 ++ pd) sb (by simp; omega) (by omega)
                  go_wp2_with fail
                  refine (HS2.out _).mono ?_
                  rintro e4 w4 ⟨rfl, hf4⟩
                  have hf5 : Fresh wr w4 := (HW3.out.trans hf4.pre).pre
                  have HF5 := hid hf5
                  clear hf4 hf5 p0 p1 p2 p3
                  go_wp2_with fail
                  go_roundw
                  case rel => exact ⟨k + 1, by go_num, c3, by rw [HFL.out, HSJ.out, HSP.out]; simp [← hacc1], HFR.out.trans HF5.out⟩
                  case measure => simp [intOf]; omega
                · have d3 : decide ((k : Int) < (zs.length : Int)) = false := by simp; omega
                  have hsp : sepP zs k = [] := by unfold sepP; rw [dif_neg c6]
                  have HSP := hid hsp
                  clear hsp
                  have hr3 := fun W : World => run_string_add_lists (P := Try.prog) W acc1 sb (by omega) (by omega)
                  go_wp2_with fail
                  refine (HS2.out _).mono ?_
                  rintro e4 w4 ⟨rfl, hf4⟩
                  have hf5 : Fresh wr w4 := (HW3.out.trans hf4).pre
                  have HF5 := hid hf5
                  clear hf4 hf5 p0 p1 p2 p3
                  go_wp2_with fail
                  go_roundw
                  case rel => exact ⟨k + 1, by go_num, c3, by rw [HFL.out, HSJ.out, HSP.out]; simp [← hacc1], HFR.out.trans HF5.out⟩
                  case measure => simp [intOf]; omega
          · have d1 : decide ((k : Int) < (ts.length : Int)) = false := by simp; omega
            obtain rfl : k = ts.length := by omega
            have HL := hid (owns_row HROW.out)
            obtain ⟨ys, y1, y2, y3⟩ := HSAME.out
            have hsz : (⟨(Lx.flat (wrL ts zs ts.length)).toArray⟩ : ByteArray).size ≤ 1000000000 := by
              show (Lx.flat (wrL ts zs ts.length)).toArray.size ≤ _
              simp; omega
            have Y3 := hid y3
            clear y3
            go_wp2_with fail
            refine (Tokens_ok (s := ⟨(Lx.flat (wrL ts zs ts.length)).toArray⟩) y1 hsz (by omega)).mono ?_
            rintro e4 w4 ⟨hf4, v4, rfl, hrow4⟩
            have HF4 := hid hf4
            have HR4 := hid (owns_row hrow4)
            clear hf4 hrow4 y1
            go_wp2_with fail
            refine (from18_any _ ts _ (HL.out.fresh (HFR.out.trans HF4.out)) (by omega)).mono ?_
            rintro e6 w6 ⟨v6, rfl, hf7, ho6⟩
            have HF7 := hid hf7
            have HR6 := hid (owns_row ho6)
            clear hf7 ho6
            go_wp2_with fail
            refine (from18_any _ ys _ (HR4.out.fresh HF7.out) (by omega)).mono ?_
            rintro e7 w7 ⟨v7, rfl, hf8, ho7⟩
            have HF8 := hid hf8
            have HR7 := hid (owns_row ho7)
            clear hf8 ho7
            go_wp2_with fail
            refine (rSame_any _ _ ts ys false _ (HR6.out.fresh HF8.out) HR7.out (by omega)).mono ?_
            rw [Y3.out]
            rintro e8 w8 ⟨rfl, hf9⟩
            have HF9 := hid hf9
            clear hf9
            go_wp2_with fail
            go_ret
            exact ⟨rfl, HF1.out.trans (HF2.out.trans (HFR.out.trans (HF4.out.trans (HF7.out.trans (HF8.out.trans HF9.out)))))⟩
end Go.Proofs.Ytleclhmdcdichaa
