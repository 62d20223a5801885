/- Part 48 of 48 of a proof; its texts, joined: NwH. No condition. -/
import Derived.Test.YtncnoeoicaglaaaGreatVc42
import Derived.Test.YtncnoeoicaglaaaGreatVc43
import Derived.Test.YtncnoeoicaglaaaGreatVc47
import Derived.Test.YtncnoeoicaglaaaGreatVc7
import Derived.Test.YtncnoeoicaglaaaGreatVc10

/- The statement NotationBlanks: for all texts and blanks the law returns true, and the arguments read as they did. No condition. -/
namespace Go.Proofs.YtncnoeoicaglaaaGreat
open Go.ChangeShapes Go.WideShapes Go.ChangeAt Go.RowKit
open Go.ChangeMaps (open_string shut_string)
open Tr (Nd)
open Np (R)
def ByteRow (W : World) (v : Value) (zs : List Nat) : Prop :=
 ∃ A cap, v = .slice A zs.length cap ∧ ∀ i (hi : i < zs.length), ∃ a : Addr, A = some a ∧ a.block < W.heap.size ∧ W.cell? (a.add i) = some (.int .u8 zs[i])
set_option maxRecDepth 100000 in
theorem open_bytes {H : Type} {enc : TypeId × Value → H} {w : World} {b0 : Nat} {hd : Bool} {v : Value} {d : DataW H} {p : List MemPlace} (hv : Value.okWide Tryz.prog w .any b0 22 v) (h : DataW.Trod enc Tryz.prog w 0 (fun _ => true) hd 22 v d p) :
  ∃ zs : List Nat, ByteRow w v zs ∧ ∀ z ∈ zs, z < 256 := by
 obtain ⟨a, len, cap, rfl⟩ := okWide_slice Tryz.underlying22 hv
 obtain ⟨fuel, hf⟩ := h
 rcases Go.ChangeShapes.open_ints Tryz.underlying22 Tryz.underlying5 (by kernel_rfl) hf with ⟨h1, _⟩ | ⟨ad, len', cap', zs, h1, _, hl, hm, hlen, _, hc, hw⟩
 ·simp [Value.cells] at h1
  obtain ⟨rfl, rfl, rfl⟩ := h1
  exact ⟨[], ⟨none, 0, rfl, fun i hi => by simp at hi⟩, fun z hz => by cases hz⟩
 ·simp [Value.cells] at h1
  obtain ⟨rfl, rfl, rfl⟩ := h1
  simp only [if_true] at hlen
  have hrange : ∀ z ∈ zs, 0 ≤ z ∧ z ≤ 255 := fun z hz => by
   have := hw z hz
   simp only [Lit.wf, Bool.and_eq_true, decide_eq_true_eq] at this
   exact this
  have hlt : (zs.take len).length = len := by rw [List.length_take]; omega
  refine ⟨(zs.take len).map Int.toNat, ⟨some ad, cap, by rw [List.length_map, hlt], fun i hi => ⟨ad, rfl, ?_, ?_⟩⟩, ?_⟩
  ·rw [List.length_map, hlt] at hi
   have := block_lt_of_cell (hc i (by omega))
   unfold Addr.add at this; split at this <;> exact this
  ·rw [List.length_map, hlt] at hi
   rw [hc i (by omega)]
   have hg : (zs.getD i 0) = zs[i]'(by omega) := by rw [List.getD_eq_getElem?_getD, List.getElem?_eq_getElem (by omega)]; rfl
   have hr := hrange _ (List.getElem_mem (l := zs) (n := i) (by omega))
   rw [hg]
   simp only [List.getElem_map, List.getElem_take]
   congr 2
   omega
  ·intro z hz
   obtain ⟨y, hy, rfl⟩ := List.mem_map.1 hz
   have := hrange y (List.mem_of_mem_take hy)
   omega
theorem toks_cellsE {e : TypeId} {W : World} {B : Nat} {v : Value} {ts : List Lx.PTok} (h : W.ownsRow B e 4 v ts.length (ts.flatMap ptokCells)) (i : Nat) (hi : i < ts.length) :
  ∃ g cap, v = .slice (some ⟨g, 0, none⟩) ts.length cap ∧ B ≤ g ∧ g < W.heap.size ∧ ∀ j u, (ptokCells ts[i])[j]? = some u → W.cell? ⟨g, 4 * i + j, none⟩ = some u := by
 rcases h.2 with ⟨_, h0⟩ | ⟨g, cap, cur, hv, hB, r⟩
 ·omega
 ·subst hv
  refine ⟨g, cap, rfl, hB, (h.lt g rfl).2, fun j u hu => ?_⟩
  have hcl := h.cells (g := g) rfl (4 * i + j) u ?_
  ·rw [Addr.add_mid, Nat.zero_add] at hcl; exact hcl
  ·have hj : j < 4 := by have := (List.getElem?_eq_some_iff.1 hu).1; simpa [ptokCells] using this
   clear h r
   induction ts generalizing i with
   | nil => simp at hi
   | cons x l ih =>
    cases i with
    | zero => rw [List.flatMap_cons, List.getElem?_append_left (by simp [ptokCells]; omega)]; simpa using hu
    | succ i =>
     rw [List.flatMap_cons, List.getElem?_append_right (by simp [ptokCells]; omega)]
     have := ih i (by simpa using hi) (by simpa using hu)
     rw [← this]; congr 1; simp [ptokCells]; omega
theorem tok_fourB {W W' : World} {x : Lx.PTok} {g i : Nat} (h : ∀ j u, (ptokCells x)[j]? = some u → W.cell? ⟨g, 4 * i + j, none⟩ = some u) (ht : Fresh W W') :
  W'.cell? ⟨g, i * 4, none⟩ = some (.int .i64 x.kind) ∧ W'.cell? ⟨g, i * 4 + 1, none⟩ = some (.string ⟨x.text.toArray⟩) ∧ W'.cell? ⟨g, i * 4 + 2, none⟩ = some (.int .i64 x.from_) ∧ W'.cell? ⟨g, i * 4 + 3, none⟩ = some (.int .i64 x.to_) := by
 rw [Nat.mul_comm i 4]
 exact ⟨ht.cell (h 0 _ rfl) (fun h => h), ht.cell (h 1 _ rfl) (fun h => h), ht.cell (h 2 _ rfl) (fun h => h), ht.cell (h 3 _ rfl) (fun h => h)⟩
theorem joinsL_tokB (a b : Lx.PTok) : joinsL a.kind b.kind (ByteArray.mk b.text.toArray).data.toList = Lx.join (Lx.tok a) (Lx.tok b) := by
 have h : ∀ (k m : Nat), ((k : Int) == (m : Int)) = (k == m) := fun k m => by rw [Bool.eq_iff_iff]; simp [Int.ofNat_inj]
 unfold joinsL Lx.join Lx.tok
 simp only
 rw [show ((a.kind : Int) == 2) = (a.kind == 2) from h a.kind 2, show ((b.kind : Int) == 2) = (b.kind == 2) from h b.kind 2, show ((a.kind : Int) == 4) = (a.kind == 4) from h a.kind 4, show ((b.kind : Int) == 1) = (b.kind == 1) from h b.kind 1]
 cases b.text <;> rfl
theorem calmB {f : Nat} {args : Array Value} {v : Value} (h : ∀ w, Calls Tryz.prog f args w fun e w' => e = .returned v ∧ Fresh w w') (W : World) :
  ∀ d os, Calls Tryz.prog f args (Go.Sort.grow (redrawn W d) os) fun e w'' => e = .returned v ∧ ∃ p : Regrown, w'' = Go.Sort.grow (redrawn W p.d) p.os :=
 fun _ _ => Calls.regrown_of ((h _).mono fun _ _ h => ⟨h.1, h.2.below⟩)
theorem sim_pN {X Y : R (List Nd)} (h : Np.Sim X Y) : pN X = pN Y ∧ pE X = pE Y := by
 cases X <;> cases Y <;> first | exact h.elim | skip
 ·obtain ⟨rfl, _⟩ := h
  exact ⟨rfl, rfl⟩
 ·cases (show _ = _ from h)
  exact ⟨rfl, rfl⟩
 ·exact ⟨rfl, rfl⟩
theorem pad_cell (W : World) (z : Nat) : (W.alloc (.cells #[.string ⟨#[]⟩, .string ⟨#[32]⟩, .string ⟨#[9]⟩, .string ⟨#[10, 32, 32]⟩] 9)).cell? ⟨W.heap.size, z % 4, none⟩ = some (.string ⟨(pad (z % 4)).toArray⟩) := by
 rw [(Blk.new W 9 _).cell]
 have h : z % 4 < 4 := Nat.mod_lt _ (by decide)
 generalize z % 4 = r at *
 match r, h with
 | 0, _ => rfl
 | 1, _ => rfl
 | 2, _ => rfl
 | 3, _ => rfl
set_option maxRecDepth 100000 in
set_option maxHeartbeats 8000000 in
theorem nblanks_any (s : ByteArray) (v : Value) (zs : List Nat) (w : World) (hv : ByteRow w v zs) (hz : ∀ z ∈ zs, z < 256) : Calls Tryz.prog 3 #[.string s, v] w fun e w' => e = .returned (.bool true) ∧ Fresh w w' := by
 obtain ⟨Az, capz, rfl, hc⟩ := hv
 have HC := hid hc
 have HZ := hid hz
 clear hc hz
 have hll : s.data.toList.length = s.size := by simp
 by_cases c1 : 600 < s.size
 ·have b1 : decide ((600 : Int) < (s.size : Int)) = true := by simp only [decide_eq_true_eq]; omega
  have b1n : decide (600 < s.size) = true := by simp only [decide_eq_true_eq]; omega
  go_enter Tryz.func3, Tryz.ntmps3
  go_wp2_with fail
  refine (awake20_any _).mono ?_
  rintro _ w1 ⟨rfl, hf1⟩
  have HF1 := hid hf1
  clear hf1
  go_wp2_with fail
  refine (awake20_any _).mono ?_
  rintro _ w2 ⟨rfl, hf2⟩
  have HF2 := hid (HF1.out.trans hf2)
  clear hf2
  go_wp2_with fail
  go_ret
  exact ⟨rfl, HF2.out⟩
 have b1 : decide ((600 : Int) < (s.size : Int)) = false := by simp only [decide_eq_false_iff_not]; omega
 have b1n : decide (600 < s.size) = false := by simp only [decide_eq_false_iff_not]; omega
 by_cases c2 : 200 < zs.length
 ·have b2 : decide ((200 : Int) < (zs.length : Int)) = true := by simp only [decide_eq_true_eq]; omega
  have b2n : decide (200 < zs.length) = true := by simp only [decide_eq_true_eq]; omega
  go_enter Tryz.func3, Tryz.ntmps3
  go_wp2_with fail
  refine (awake20_any _).mono ?_
  rintro _ w1 ⟨rfl, hf1⟩
  have HF1 := hid hf1
  clear hf1
  go_wp2_with fail
  refine (awake20_any _).mono ?_
  rintro _ w2 ⟨rfl, hf2⟩
  have HF2 := hid (HF1.out.trans hf2)
  clear hf2
  go_wp2_with fail
  go_ret
  exact ⟨rfl, HF2.out⟩
 have b2 : decide ((200 : Int) < (zs.length : Int)) = false := by simp only [decide_eq_false_iff_not]; omega
 have b2n : decide (200 < zs.length) = false := by simp only [decide_eq_false_iff_not]; omega
 have hcount := Lx.lexAll_count s.data.toList
 rw [hll] at hcount
 have HCOUNT := hid hcount
 have HLL := hid hll
 have HP := hid (fun (w : World) => parse_call s w (by omega) (by omega))
 have HT := hid (fun (w : World) => tokens18_any s w (by omega))
 have hkn := pN_count (parseS s.data.toList)
 have HXE := hid (fun (p er : Nat) (ts : List Lx.PTok) (h : Lx.lexAll s.data.toList = (ts, some (p, er))) => show pE (parseS s.data.toList) = er by unfold parseS; rw [h]; rfl)
 have HXS := hid (fun (ts : List Lx.PTok) (h : Lx.lexAll s.data.toList = (ts, none)) => sim_pN (parse_wr s.data.toList ts zs h))
 obtain ⟨n, hn⟩ : ∃ n, pN (parseS s.data.toList) = n := ⟨_, rfl⟩
 obtain ⟨ex, hex⟩ : ∃ ex, pE (parseS s.data.toList) = ex := ⟨_, rfl⟩
 obtain ⟨ix, hix⟩ : ∃ ix, pI (parseS s.data.toList) = ix := ⟨_, rfl⟩
 rw [hn] at HP HXS hkn
 rw [hex] at HP HXS HXE
 rw [hix] at HP
 clear hn hex hix hcount hll
 go_enter Tryz.func3, Tryz.ntmps3
 go_wp2_with fail
 refine (awake20_any _).mono ?_
 rintro _ w1 ⟨rfl, hf1⟩
 have HF1 := hid hf1
 clear hf1
 go_wp2_with fail
 refine (HP.out _).mono ?_
 rintro _ w2 ⟨A, ca, rfl, hra, hf2⟩
 have HF2 := hid ((HF1.out.trans hf2).alloc (.cells #[.int .i64 n.kind, .string ⟨n.text.toArray⟩, .int .i64 n.cols, .slice A n.kids.length ca] 26))
 have HRA := hid (hra.fresh ((Touch.refl (fun _ => False) w2).alloc (.cells #[.int .i64 n.kind, .string ⟨n.text.toArray⟩, .int .i64 n.cols, .slice A n.kids.length ca] 26)))
 have HB2 := hid (Blk.new w2 26 #[.int .i64 n.kind, .string ⟨n.text.toArray⟩, .int .i64 n.cols, .slice A n.kids.length ca])
 clear hf2 hra HP
 go_wp2_with fail
 refine Calls.mono (HT.out _) ?_
 rintro e4 w4 h4
 unfold Toks18 at h4
 rcases hlx : Lx.lexAll s.data.toList with ⟨ts, _ | ⟨p, er⟩⟩
 case some =>
  rw [hlx] at h4
  simp only at h4
  obtain ⟨rfl, hf4⟩ := h4
  have hne : er ≠ 0 := lexAll_err_ne s.data.toList p er (by rw [hlx])
  have e0 := fail_ne hne
  have e1 : (!((er : Int) == 0)) = true := by rw [e0]; rfl
  have e2 : ((er : Int) != 0) = true := e1
  have hpe := HXE.out p er ts hlx
  rw [hpe]
  clear hne hlx
  go_wp2_with fail
  go_ret
  exact ⟨rfl, HF2.out.trans hf4⟩
 rw [hlx] at h4
 simp only at h4
 obtain ⟨v4, rfl, hrow, hf4⟩ := h4
 have hok := Lx.lexAll_places _ (show (Lx.lexAll s.data.toList).2 = none by rw [hlx])
 have htok := lexAll_ok s.data.toList
 rw [hlx] at hok htok
 simp only at hok htok
 have hle := okFrom_spell_le hok
 rw [HLL.out] at hle
 have hcn := HCOUNT.out
 rw [hlx] at hcn
 simp only at hcn
 obtain ⟨L, lcap, rfl⟩ : ∃ A cap, v4 = .slice A ts.length cap := by
  rcases hrow.2 with ⟨h1, h2⟩ | ⟨g, cap, cur, h1, _⟩
  ·exact ⟨none, 0, by rw [h1, h2]⟩
  ·exact ⟨_, _, h1⟩
 have HF4 := hid (HF2.out.trans hf4)
 have HR4 := hid (HRA.out.fresh hf4)
 have HB4 := hid (hf4.blk HB2.out fun h => h)
 have HTOK := hid htok
 have HLE := hid hle
 have HROW := hid hrow
 have HLEN := hid (wr_len ts zs s.size hle)
 have hsim := HXS.out ts hlx
 have hwc := wr_count s.data.toList ts zs hlx
 have HY := hid (fun (w : World) (hsz : (Lx.flat (wrL ts zs ts.length)).length ≤ 1000000000) => parse_call ⟨(Lx.flat (wrL ts zs ts.length)).toArray⟩ w (by show (Lx.flat (wrL ts zs ts.length)).toArray.size ≤ _; rw [List.size_toArray]; exact hsz) (by show (Lx.lexAll (Lx.flat (wrL ts zs ts.length))).1.length ≤ _; rw [hwc]; omega))
 rw [show (⟨(Lx.flat (wrL ts zs ts.length)).toArray⟩ : ByteArray).data.toList = Lx.flat (wrL ts zs ts.length) from rfl, ← hsim.1, ← hsim.2] at HY
 clear hf4 hok hrow hlx htok hle hwc hsim HXS HXE HT HB2 HRA HF2
 go_wp2_with fail
 go_loopw [11, 49] (fun x y wr => ∃ k : Nat, y = .int .i64 k ∧ k ≤ ts.length ∧ x = .string ⟨(Lx.flat (wrL ts zs k)).toArray⟩ ∧ Hid (Fresh w4 wr)) (fun _ y _ => ts.length - (intOf y).toNat)
 case atStart => exact ⟨0, rfl, Nat.zero_le _, rfl, Touch.refl _ _⟩
 case round =>
  obtain ⟨k, rfl, hk, rfl, HFR⟩ := hrel
  have hlk := HLEN.out k hk
  have hlk2 : (Lx.flat (wrL ts zs k)).length ≤ 400000 := Nat.le_trans hlk (Nat.le_trans (Nat.mul_le_mul (show k ≤ 600 by omega) (show s.size + 4 ≤ 604 by omega)) (by decide))
  by_cases c3 : k < ts.length
  ·have d1 : decide ((k : Int) < (ts.length : Int)) = true := by simp only [decide_eq_true_eq]; omega
   have d1n : decide (k < ts.length) = true := by simp only [decide_eq_true_eq]; omega
   have d1' : (k : Int) < (ts.length : Int) := by omega
   obtain ⟨g, cap', hv, hg1, hg2, hcells⟩ := toks_cellsE HROW.out k c3
   cases hv
   obtain ⟨q0, q1, q2, q3⟩ := tok_fourB hcells HFR.out
   clear hcells
   have lb := HLE.out _ (List.getElem_mem (l := ts) (n := k) c3)
   have hfl := flat_wr ts zs k
   have htk : tokAt ts k = Lx.tok ts[k] := by unfold tokAt; rw [List.getD_eq_getElem?_getD, List.getElem?_eq_getElem c3]; rfl
   rw [htk] at hfl
   have HFL := hid hfl
   have HTK := hid htk
   clear hfl htk hlk
   generalize ts[k] = b at *
   have hb2 : (⟨b.text.toArray⟩ : ByteArray).size ≤ 1000000000 := by
    have h1 := Lx.spellL_len b.kind b.text
    show b.text.toArray.size ≤ _
    have h2 : (Lx.spellL b.kind b.text).length ≤ s.size := lb
    simp; omega
   have S2 : ∀ w, Calls Tryz.prog 9 #[.agg #[.int .i64 b.kind, .string ⟨b.text.toArray⟩, .int .i64 b.from_, .int .i64 b.to_]] w fun e w' => e = .returned (.string ⟨(Lx.spell (Lx.tok b)).toArray⟩) ∧ Fresh w w' := fun w => rSpell_any b.kind ⟨b.text.toArray⟩ b.from_ b.to_ w hb2
   generalize Lx.flat (wrL ts zs k) = acc at *
   generalize hsb : Lx.spell (Lx.tok b) = sb at *
   have HS2 := hid S2
   clear S2
   have hblk := Blk.new wr 34 #[.int .i64 b.kind, .string ⟨b.text.toArray⟩, .int .i64 b.from_, .int .i64 b.to_]
   obtain ⟨e0, e1, e2, e3, _, _, _, _, hge⟩ := Blk.four hblk
   have hlsb : sb.length ≤ 2000 := by omega
   have HBLK := hid hblk
   clear hblk
   by_cases c4 : k = 0
   ·have d2 : decide ((0 : Int) < (k : Int)) = false := by simp only [decide_eq_false_iff_not]; omega
    have d2n : decide (0 < k) = false := by simp only [decide_eq_false_iff_not]; omega
    have hsj : sepJ ts k = [] := by unfold sepJ; rw [if_neg (by omega)]
    have HSJ := hid hsj
    clear hsj e0 e1 e2 e3 c4
    go_wp2_with fail
    refine wp_region_quiet_below (by kernel_rfl) (by kernel_rfl) ?_
    repeat (quiet_step (fail))
    refine wpQuiet_nil ?_
    rintro W3 ⟨⟨dq, osq⟩, hW3⟩
    have HW3 := hid (show Fresh (wr.alloc (.cells #[.int .i64 b.kind, .string ⟨b.text.toArray⟩, .int .i64 b.from_, .int .i64 b.to_] 34)) W3 by rw [hW3]; exact fresh_of_below (below_regrown _ _ _))
    clear hW3
    have hWb := HW3.out.blk (Blk.new wr 34 #[.int .i64 b.kind, .string ⟨b.text.toArray⟩, .int .i64 b.from_, .int .i64 b.to_]) (fun h => h)
    obtain ⟨p0, p1, p2, p3, _, _, _, _, hgb⟩ := Blk.four hWb
    have hla : acc.length ≤ 400001 := by omega
    by_cases c6 : k < zs.length
    ·have d3 : decide ((k : Int) < (zs.length : Int)) = true := by simp only [decide_eq_true_eq]; omega
     have d3n : decide (k < zs.length) = true := by simp only [decide_eq_true_eq]; omega
     have d3' : (k : Int) < (zs.length : Int) := by omega
     obtain ⟨ad, rfl, had, hcz⟩ := HC.out k c6
     have hfz : Fresh w W3 := HF4.out.trans (HFR.out.trans HW3.out.pre)
     have cz := (hfz.alloc (.cells #[.string ⟨#[]⟩, .string ⟨#[32]⟩, .string ⟨#[9]⟩, .string ⟨#[10, 32, 32]⟩] 9)).cell hcz (fun h => h)
     have hz5 := HZ.out _ (List.getElem_mem c6)
     have hsp : sepP zs k = pad (zs[k] % 4) := by unfold sepP; rw [dif_pos c6]
     have HSP := hid hsp
     clear hsp hcz hfz HC HZ
     generalize zs[k] = z at *
     have cs : (W3.alloc (.cells #[.string ⟨#[]⟩, .string ⟨#[32]⟩, .string ⟨#[9]⟩, .string ⟨#[10, 32, 32]⟩] 9)).cell? ⟨W3.heap.size, z % 4, none⟩ = some (.string ⟨(pad (z % 4)).toArray⟩) := pad_cell W3 z
     have m1 : (z : Int) % 4 < 4 := by omega
     have hpl := pad_len (z % 4)
     generalize pad (z % 4) = pd at *
     have hr2 := fun W : World => run_string_add_lists (P := Tryz.prog) W acc pd (by omega) (by omega)
     have hr3 := fun W : World => run_string_add_lists (P := Tryz.prog) W (acc ++ pd) sb (by simp; omega) (by omega)
     go_wp2_with fail
     refine (HS2.out _).mono ?_
     rintro _ w5 ⟨rfl, hf5⟩
     have hf6 : Fresh wr w5 := (HW3.out.trans hf5.pre).pre
     have HF6 := hid (HFR.out.trans hf6)
     clear hf5 hf6 p0 p1 p2 p3
     go_wp2_with fail
     go_roundw
     case rel => exact ⟨k + 1, by go_num, c3, by rw [HFL.out, HSJ.out, HSP.out]; simp, HF6⟩
     case measure => simp [intOf]; omega
    ·have d3 : decide ((k : Int) < (zs.length : Int)) = false := by simp only [decide_eq_false_iff_not]; omega
     have d3n : decide (k < zs.length) = false := by simp only [decide_eq_false_iff_not]; omega
     have hsp : sepP zs k = [] := by unfold sepP; rw [dif_neg c6]
     have HSP := hid hsp
     clear hsp
     have hr3 := fun W : World => run_string_add_lists (P := Tryz.prog) W acc sb (by omega) (by omega)
     go_wp2_with fail
     refine (HS2.out _).mono ?_
     rintro _ w5 ⟨rfl, hf5⟩
     have hf6 : Fresh wr w5 := (HW3.out.trans hf5).pre
     have HF6 := hid (HFR.out.trans hf6)
     clear hf5 hf6 p0 p1 p2 p3
     go_wp2_with fail
     go_roundw
     case rel => exact ⟨k + 1, by go_num, c3, by rw [HFL.out, HSJ.out, HSP.out]; simp, HF6⟩
     case measure => simp [intOf]; omega
   ·have d2 : decide ((0 : Int) < (k : Int)) = true := by simp only [decide_eq_true_eq]; omega
    have d2n : decide (0 < k) = true := by simp only [decide_eq_true_eq]; omega
    have hwr : IntKind.i64.wrap ((k : Int) - 1) = ((k - 1 : Nat) : Int) := by rw [IntWalk.i64_in _ (by omega)]; omega
    have d5 : ((k - 1 : Nat) : Int) < (ts.length : Int) := by omega
    have c5 : k - 1 < ts.length := by omega
    obtain ⟨g', cap'', hv, _, _, hcells'⟩ := toks_cellsE HROW.out (k - 1) c5
    cases hv
    obtain ⟨r0, r1, r2, r3⟩ := tok_fourB hcells' (HFR.out.trans ((Touch.refl _ wr).alloc (.cells #[.int .i64 b.kind, .string ⟨b.text.toArray⟩, .int .i64 b.from_, .int .i64 b.to_] 34)))
    clear hcells'
    have hsj : sepJ ts k = if Lx.join (Lx.tok ts[k - 1]) (Lx.tok b) = true then [10] else [] := by
     unfold sepJ
     rw [HTK.out, show tokAt ts (k - 1) = Lx.tok ts[k - 1] by unfold tokAt; rw [List.getD_eq_getElem?_getD, List.getElem?_eq_getElem c5]; rfl]
     simp only [show 0 < k by omega, true_and]
    generalize ts[k - 1] = a at *
    have J1 : ∀ w, Calls Tryz.prog 8 #[.agg #[.int .i64 a.kind, .string ⟨a.text.toArray⟩, .int .i64 a.from_, .int .i64 a.to_], .agg #[.int .i64 b.kind, .string ⟨b.text.toArray⟩, .int .i64 b.from_, .int .i64 b.to_]] w fun e w' => e = .returned (.bool (Lx.join (Lx.tok a) (Lx.tok b))) ∧ Fresh w w' := fun w => by
     rw [← joinsL_tokB]; exact rJoins_any a.kind a.from_ a.to_ b.kind b.from_ b.to_ ⟨a.text.toArray⟩ ⟨b.text.toArray⟩ w
    have HJJ := hid J1
    have HSJ0 := hid hsj
    clear hsj J1
    have k0 := cell_regrown e0
    have k1 := cell_regrown e1
    have k2 := cell_regrown e2
    have k3 := cell_regrown e3
    have l0 := cell_regrown r0
    have l1 := cell_regrown r1
    have l2 := cell_regrown r2
    have l3 := cell_regrown r3
    cases hjj : Lx.join (Lx.tok a) (Lx.tok b)
    ·rw [hjj] at HJJ HSJ0
     have HSJ := hid (show sepJ ts k = [] by rw [HSJ0.out]; rfl)
     clear HSJ0 hjj
     have C3 := hid (calmB HJJ.out (wr.alloc (.cells #[.int .i64 b.kind, .string ⟨b.text.toArray⟩, .int .i64 b.from_, .int .i64 b.to_] 34)))
     clear e0 e1 e2 e3 r0 r1 r2 r3
     go_wp2_with fail
     refine wp_region_quiet_below (by kernel_rfl) (by kernel_rfl) ?_
     repeat (quiet_step (with_reducible exact C3.out _ _))
     refine wpQuiet_nil ?_
     rintro W3 ⟨⟨dq, osq⟩, hW3⟩
     have HW3 := hid (show Fresh (wr.alloc (.cells #[.int .i64 b.kind, .string ⟨b.text.toArray⟩, .int .i64 b.from_, .int .i64 b.to_] 34)) W3 by rw [hW3]; exact fresh_of_below (below_regrown _ _ _))
     clear hW3 k0 k1 k2 k3 l0 l1 l2 l3
     have hWb := HW3.out.blk (Blk.new wr 34 #[.int .i64 b.kind, .string ⟨b.text.toArray⟩, .int .i64 b.from_, .int .i64 b.to_]) (fun h => h)
     obtain ⟨p0, p1, p2, p3, _, _, _, _, hgb⟩ := Blk.four hWb
     have hla : acc.length ≤ 400001 := by omega
     by_cases c6 : k < zs.length
     ·have d3 : decide ((k : Int) < (zs.length : Int)) = true := by simp only [decide_eq_true_eq]; omega
      have d3n : decide (k < zs.length) = true := by simp only [decide_eq_true_eq]; omega
      have d3' : (k : Int) < (zs.length : Int) := by omega
      obtain ⟨ad, rfl, had, hcz⟩ := HC.out k c6
      have hfz : Fresh w W3 := HF4.out.trans (HFR.out.trans HW3.out.pre)
      have cz := (hfz.alloc (.cells #[.string ⟨#[]⟩, .string ⟨#[32]⟩, .string ⟨#[9]⟩, .string ⟨#[10, 32, 32]⟩] 9)).cell hcz (fun h => h)
      have hz5 := HZ.out _ (List.getElem_mem c6)
      have hsp : sepP zs k = pad (zs[k] % 4) := by unfold sepP; rw [dif_pos c6]
      have HSP := hid hsp
      clear hsp hcz hfz HC HZ
      generalize zs[k] = z at *
      have cs : (W3.alloc (.cells #[.string ⟨#[]⟩, .string ⟨#[32]⟩, .string ⟨#[9]⟩, .string ⟨#[10, 32, 32]⟩] 9)).cell? ⟨W3.heap.size, z % 4, none⟩ = some (.string ⟨(pad (z % 4)).toArray⟩) := pad_cell W3 z
      have m1 : (z : Int) % 4 < 4 := by omega
      have hpl := pad_len (z % 4)
      generalize pad (z % 4) = pd at *
      have hr2 := fun W : World => run_string_add_lists (P := Tryz.prog) W acc pd (by omega) (by omega)
      have hr3 := fun W : World => run_string_add_lists (P := Tryz.prog) W (acc ++ pd) sb (by simp; omega) (by omega)
      go_wp2_with fail
      refine (HS2.out _).mono ?_
      rintro _ w5 ⟨rfl, hf5⟩
      have hf6 : Fresh wr w5 := (HW3.out.trans hf5.pre).pre
      have HF6 := hid (HFR.out.trans hf6)
      clear hf5 hf6 p0 p1 p2 p3
      go_wp2_with fail
      go_roundw
      case rel => exact ⟨k + 1, by go_num, c3, by rw [HFL.out, HSJ.out, HSP.out]; simp, HF6⟩
      case measure => simp [intOf]; omega
     ·have d3 : decide ((k : Int) < (zs.length : Int)) = false := by simp only [decide_eq_false_iff_not]; omega
      have d3n : decide (k < zs.length) = false := by simp only [decide_eq_false_iff_not]; omega
      have hsp : sepP zs k = [] := by unfold sepP; rw [dif_neg c6]
      have HSP := hid hsp
      clear hsp
      have hr3 := fun W : World => run_string_add_lists (P := Tryz.prog) W acc sb (by omega) (by omega)
      go_wp2_with fail
      refine (HS2.out _).mono ?_
      rintro _ w5 ⟨rfl, hf5⟩
      have hf6 : Fresh wr w5 := (HW3.out.trans hf5).pre
      have HF6 := hid (HFR.out.trans hf6)
      clear hf5 hf6 p0 p1 p2 p3
      go_wp2_with fail
      go_roundw
      case rel => exact ⟨k + 1, by go_num, c3, by rw [HFL.out, HSJ.out, HSP.out]; simp, HF6⟩
      case measure => simp [intOf]; omega
    ·rw [hjj] at HJJ HSJ0
     have HSJ := hid (show sepJ ts k = [10] by rw [HSJ0.out]; rfl)
     clear HSJ0 hjj
     have C3 := hid (calmB HJJ.out (wr.alloc (.cells #[.int .i64 b.kind, .string ⟨b.text.toArray⟩, .int .i64 b.from_, .int .i64 b.to_] 34)))
     clear e0 e1 e2 e3 r0 r1 r2 r3
     go_wp2_with fail
     refine wp_region_quiet_below (by kernel_rfl) (by kernel_rfl) ?_
     repeat (quiet_step (with_reducible exact C3.out _ _))
     refine wpQuiet_nil ?_
     rintro W3 ⟨⟨dq, osq⟩, hW3⟩
     have HW3 := hid (show Fresh (wr.alloc (.cells #[.int .i64 b.kind, .string ⟨b.text.toArray⟩, .int .i64 b.from_, .int .i64 b.to_] 34)) W3 by rw [hW3]; exact fresh_of_below (below_regrown _ _ _))
     clear hW3 k0 k1 k2 k3 l0 l1 l2 l3
     have hWb := HW3.out.blk (Blk.new wr 34 #[.int .i64 b.kind, .string ⟨b.text.toArray⟩, .int .i64 b.from_, .int .i64 b.to_]) (fun h => h)
     obtain ⟨p0, p1, p2, p3, _, _, _, _, hgb⟩ := Blk.four hWb
     have hr1 := fun W : World => run_string_add_lists (P := Tryz.prog) W acc [10] (by omega) (by decide)
     generalize hacc1 : acc ++ [10] = acc1 at *
     have hla : acc1.length ≤ 400001 := by rw [← hacc1]; simp; omega
     by_cases c6 : k < zs.length
     ·have d3 : decide ((k : Int) < (zs.length : Int)) = true := by simp only [decide_eq_true_eq]; omega
      have d3n : decide (k < zs.length) = true := by simp only [decide_eq_true_eq]; omega
      have d3' : (k : Int) < (zs.length : Int) := by omega
      obtain ⟨ad, rfl, had, hcz⟩ := HC.out k c6
      have hfz : Fresh w W3 := HF4.out.trans (HFR.out.trans HW3.out.pre)
      have cz := (hfz.alloc (.cells #[.string ⟨#[]⟩, .string ⟨#[32]⟩, .string ⟨#[9]⟩, .string ⟨#[10, 32, 32]⟩] 9)).cell hcz (fun h => h)
      have hz5 := HZ.out _ (List.getElem_mem c6)
      have hsp : sepP zs k = pad (zs[k] % 4) := by unfold sepP; rw [dif_pos c6]
      have HSP := hid hsp
      clear hsp hcz hfz HC HZ
      generalize zs[k] = z at *
      have cs : (W3.alloc (.cells #[.string ⟨#[]⟩, .string ⟨#[32]⟩, .string ⟨#[9]⟩, .string ⟨#[10, 32, 32]⟩] 9)).cell? ⟨W3.heap.size, z % 4, none⟩ = some (.string ⟨(pad (z % 4)).toArray⟩) := pad_cell W3 z
      have m1 : (z : Int) % 4 < 4 := by omega
      have hpl := pad_len (z % 4)
      generalize pad (z % 4) = pd at *
      have hr2 := fun W : World => run_string_add_lists (P := Tryz.prog) W acc1 pd (by omega) (by omega)
      have hr3 := fun W : World => run_string_add_lists (P := Tryz.prog) W (acc1 ++ pd) sb (by simp; omega) (by omega)
      go_wp2_with fail
      refine (HS2.out _).mono ?_
      rintro _ w5 ⟨rfl, hf5⟩
      have hf6 : Fresh wr w5 := (HW3.out.trans hf5.pre).pre
      have HF6 := hid (HFR.out.trans hf6)
      clear hf5 hf6 p0 p1 p2 p3
      go_wp2_with fail
      go_roundw
      case rel => exact ⟨k + 1, by go_num, c3, by rw [HFL.out, HSJ.out, HSP.out]; simp [← hacc1], HF6⟩
      case measure => simp [intOf]; omega
     ·have d3 : decide ((k : Int) < (zs.length : Int)) = false := by simp only [decide_eq_false_iff_not]; omega
      have d3n : decide (k < zs.length) = false := by simp only [decide_eq_false_iff_not]; omega
      have hsp : sepP zs k = [] := by unfold sepP; rw [dif_neg c6]
      have HSP := hid hsp
      clear hsp
      have hr3 := fun W : World => run_string_add_lists (P := Tryz.prog) W acc1 sb (by omega) (by omega)
      go_wp2_with fail
      refine (HS2.out _).mono ?_
      rintro _ w5 ⟨rfl, hf5⟩
      have hf6 : Fresh wr w5 := (HW3.out.trans hf5).pre
      have HF6 := hid (HFR.out.trans hf6)
      clear hf5 hf6 p0 p1 p2 p3
      go_wp2_with fail
      go_roundw
      case rel => exact ⟨k + 1, by go_num, c3, by rw [HFL.out, HSJ.out, HSP.out]; simp [← hacc1], HF6⟩
      case measure => simp [intOf]; omega
  ·have d1 : decide ((k : Int) < (ts.length : Int)) = false := by simp only [decide_eq_false_iff_not]; omega
   have d1n : decide (k < ts.length) = false := by simp only [decide_eq_false_iff_not]; omega
   obtain rfl : k = ts.length := by omega
   have HBR := hid (HFR.out.blk HB4.out fun h => h)
   have HRR := hid (HR4.out.fresh HFR.out)
   obtain ⟨i2, hi2⟩ : ∃ i2, pI (parseS (Lx.flat (wrL ts zs ts.length))) = i2 := ⟨_, rfl⟩
   rw [hi2] at HY
   clear hi2 HB4 HR4 hlk
   go_wp2_with fail
   refine (HY.out _ (by omega)).mono ?_
   rintro _ w6 ⟨A6, c6, rfl, hr6, hf6⟩
   have HF6 := hid (HF4.out.trans (HFR.out.trans hf6))
   have HB6 := hid (hf6.blk HBR.out fun h => h)
   have HR6 := hid (HRR.out.fresh hf6)
   have HS6 := hid hr6
   clear hf6 hr6 HBR HRR
   obtain ⟨p0, p1, p2, p3, _, _, _, _, hlt⟩ := Blk.four HB6.out
   go_wp2_with fail
   refine (equal_any _ n n _ _ _ (Nat.le_refl _) (HR6.out.fresh ((Touch.refl _ _).alloc _)) (HS6.out.fresh ((Touch.refl _ _).alloc _))).mono ?_
   rintro _ w7 ⟨rfl, hf7⟩
   have HF7 := hid ((HF6.out.alloc _).trans hf7)
   rw [count_rep]
   clear hf7 p0 p1 p2 p3 hlt
   go_wp2_with fail
   go_ret
   exact ⟨rfl, HF7.out⟩
set_option maxRecDepth 100000 in
theorem notationBlanks_lifted (os : Os) (started : os.Started) (H : Type) (enc : TypeId × Value → H) :
  ReturnsInHanded {} Tryz.checked os 3 .any (Rows.notationBlanksSpec.pre6 enc Tryz.prog Tryz.f3 Rows.notationBlanksRow.domain false) (Rows.notationBlanksSpec.post enc Tryz.prog Tryz.f3 false true false false) := by
 refine returnsInHanded_of_change (C := Tryz.checked) Tryz.ownKnob started (by kernel_rfl) Tryz.func3
  (ChangeSpec.witness6 (enc := enc) (C := Tryz.checked) false ⟨#[], #[.string ⟨#[]⟩, .slice none 0 0], []⟩ 8 (by kernel_rfl) (by kernel_rfl) (by kernel_rfl) (by kernel_rfl)) ?_
 intro W base args ds gs before hval0 hW hcnd _
 have hval : ∀ (j : Nat) t v, Tryz.f3.params[j]? = some t → args[j]? = some v → Value.okWide Tryz.prog W .any base t v := hval0
 have hW' := hW
 obtain ⟨p, q, hA0, hV, rfl, hfz, hnd⟩ := hW
 have hA : DataW.TrodAll enc Tryz.prog W 0 (fun _ => true) true Tryz.f3.params.toList args.toList ds p := hA0
 rw [Tryz.params3] at hA hval
 obtain ⟨v0, v1, d0, d1, p0, p1, rfl, rfl, rfl, h0, h1⟩ := trodAll_two hA
 obtain ⟨rfl, rfl⟩ := trodVars_none hV
 obtain ⟨s, rfl, _, _, _⟩ := open_string Tryz.underlying9 (hval 0 9 v0 rfl rfl) h0
 obtain ⟨zs, hz1, hz2⟩ := open_bytes (hval 1 22 v1 rfl rfl) h1
 refine (nblanks_any s v1 zs W hz1 hz2).mono fun e W' ⟨he, hw⟩ => ?_
 exact ⟨_, he, post_true Tryz.laidOut Tryz.underlying4 (by kernel_rfl) (by kernel_rfl) rfl rfl hW' hw⟩
theorem NotationBlanks_holds : Rows.NotationBlanksSaid :=
 OpenClaim.holds_of_wide 3 Tryz.f3 rfl rfl rfl rfl rfl rfl rfl ⟨rfl, rfl, rfl, rfl, rfl⟩ rfl rfl rfl rfl rfl (by kernel_rfl) Tryz.func3 (by kernel_rfl)
  (of_decide_eq_true (by kernel_rfl)) (by unfold Func.isWrapper; first | (rw [if_pos (by decide +kernel)]; kernel_rfl) | (rw [if_neg (by decide +kernel)]; exact ⟨rfl, rfl⟩))
  (fun os started H enc _ => notationBlanks_lifted os started H enc)
end Go.Proofs.YtncnoeoicaglaaaGreat
