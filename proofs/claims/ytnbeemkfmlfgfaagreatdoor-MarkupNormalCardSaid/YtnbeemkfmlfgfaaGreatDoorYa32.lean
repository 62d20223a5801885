/- Part 32 of 35 of a proof; its texts, joined: MkE. No condition. -/
import Derived.Test.YtnbeemkfmlfgfaaGreatDoorYa31
set_option maxRecDepth 100000
set_option maxHeartbeats 4000000
namespace Go.Proofs.YtnbeemkfmlfgfaaGreatDoor
open Go.RowKit
open Tr (Nd)
open El (E elE elK mrow grid nMtr nMtd nMtable)
attribute [local go_sem] stillV stillUpon
def linesE (c : Nat) (ks : List Nd) : List E := (grid c (rowsE nMtd ks)).map (mrow nMtr)
def TabAt (B c j : Nat) (w : World) (F : List E) (Ao : Option Addr) (ro co : Nat) : Prop := ro = (grid c (F.take j)).length ∧
 ((j = 0 ∧ Ao = none ∧ co = 0 ∧ B ≤ w.heap.size) ∨ ∃ L r B2 v2 cs0, grid c (F.take j) = L ++ [r] ∧ TabSt B w (.slice Ao (L.length + 1) co) (L.map (mrow nMtr)) r B2 v2 cs0)
theorem TabAt.fresh {B c j : Nat} {w w1 : World} {F : List E} {Ao : Option Addr} {ro co : Nat} (h : TabAt B c j w F Ao ro co) (ht : Fresh w w1) : TabAt B c j w1 F Ao ro co := by
 obtain ⟨h1, h2⟩ := h;refine ⟨h1, ?_⟩
 rcases h2 with ⟨a, b, d, e⟩ | ⟨L, r, B2, v2, cs0, e1, e2⟩
 ·exact .inl ⟨a, b, d, Nat.le_trans e ht.size⟩
 ·exact .inr ⟨L, r, B2, v2, cs0, e1, e2.fresh ht⟩
theorem TabAt.grow {B c j : Nat} {w : World} {F : List E} {Ao : Option Addr} {ro co : Nat} (hc : 0 < c) (h : TabAt B c j w F Ao ro co) : GrowE B w ((grid c (F.take j)).map (mrow nMtr)) (.slice Ao ro co) := by
 obtain ⟨h1, h2⟩ := h
 rcases h2 with ⟨a, b, d, e⟩ | ⟨L, r, B2, v2, cs0, e1, e2⟩
 ·subst a b d
  rw [List.take_zero, El.grid_nil c hc] at h1 ⊢;subst h1;exact GrowE.nil e
 ·have h3 := e2.grow
  rw [e1] at h1 ⊢;subst h1;rw [List.length_append, List.map_append];exact h3
theorem TabAt.more {B c j : Nat} {w : World} {F : List E} {Ao : Option Addr} {ro co : Nat} (hc : 0 < c) (hj : j % c ≠ 0) (hl : j < F.length) (h : TabAt B c j w F Ao ro co) : ∃ L r B2 v2 cs0, grid c (F.take (j + 1)) = L ++ [r ++ [F[j]]] ∧ ro = L.length + 1 ∧ TabSt B w (.slice Ao (L.length + 1) co) (L.map (mrow nMtr)) r B2 v2 cs0 := by
 obtain ⟨h1, h2⟩ := h;have hjm := Nat.mod_lt j hc;have hjd := Nat.div_add_mod j c;have hjd' : j / c * c + j % c = j := by rw [Nat.mul_comm]; exact hjd
 obtain ⟨L', r', g1, g2, _⟩ := El.grid_more c hc F (j / c) (j % c) (by omega) hjm (by rw [hjd']; exact hl);simp only [hjd'] at g1 g2
 rcases h2 with ⟨a, b, d, e⟩ | ⟨L, r, B2, v2, cs0, e1, e2⟩
 ·subst a; simp at hj
 ·rw [e1] at g1
  obtain ⟨h4, h5⟩ := List.append_inj' g1 rfl;rw [List.cons.injEq] at h5;rw [← h4, ← h5.1] at g2;exact ⟨L, r, B2, v2, cs0, g2, by rw [h1, e1]; simp, e2⟩
theorem grid_len_le {α : Type} (c : Nat) (hc : 0 < c) (l : List α) : (grid c l).length ≤ l.length := by
 unfold El.grid;rw [List.length_map, List.length_range]
 rcases Nat.eq_zero_or_pos l.length with h | h
 ·rw [h, Nat.div_eq_of_lt (by omega)]
  exact Nat.le_refl _
 ·rw [Nat.div_le_iff_le_mul_add_pred hc]
  have : l.length ≤ c * l.length := Nat.le_mul_of_pos_left _ hc;omega
theorem grid_cell {α : Type} (c : Nat) (hc : 0 < c) (l : List α) (r : List α) (h : r ∈ grid c l) : r.length ≤ l.length := by
 unfold El.grid at h;obtain ⟨k, _, rfl⟩ := List.mem_map.1 h;rw [List.length_take, List.length_drop];omega
theorem grid_begin (c j : Nat) (hc : 0 < c) (F : List E) (hj : j % c = 0) (hl : j < F.length) : grid c (F.take (j + 1)) = grid c (F.take j) ++ [[] ++ [F[j]]] := by
 have hjd := Nat.div_add_mod j c;have hjd' : j / c * c = j := by rw [Nat.mul_comm]; omega
 have := El.grid_new c hc F (j / c) (by rw [hjd']; exact hl);simp only [hjd'] at this;exact this
theorem mktable_any (n : Nd) (c : Nat) (hc0 : 0 < c) (hcc : n.cols = (c : Int)) (ih : ∀ x ∈ n.kids, RowC x) (sl : Value) (w : World) (hc : Tr.count n ≤ 100000) (hsl : RepL w n.kids sl) :
  Calls Tryz.prog 131 #[nv n sl] w fun e w' => ∃ v, e = .returned v ∧ MakesE w w' (.mk nMtable [] (linesE c n.kids) []) v := by
 obtain ⟨A, cap, rfl⟩ := hsl.slice;have hcl : Tr.countL n.kids ≤ 100000 := by have := Tr.count_kids n; omega
 have hkl := Tr.countL_len n.kids;have HSL := hid hsl;have HIH := hid ih;have HCC := hid hcc;generalize hks : n.kids = ks at *;have HKS := hid hks;clear hsl ih hks hc hcc;go_enter Tryz.func131, Tryz.ntmps131;go_wp2_with fail
 refine forget_world (fun W => Fresh w W ∧ W.heap.size = w.heap.size + 3 ∧ Blk W w.heap.size 31 #[.int .i64 n.kind, .string ⟨n.text.toArray⟩, .int .i64 n.cols, .slice A ks.length cap] ∧ Blk W (w.heap.size + 1) 45 #[.string ⟨#[]⟩, .slice none 0 0, .slice none 0 0, .string ⟨#[]⟩] ∧ Blk W (w.heap.size + 1 + 1) 45 #[.string ⟨nMtable.toArray⟩, .slice none 0 0, .slice none 0 0, .string ⟨#[]⟩]) ⟨(((Touch.refl _ _).alloc _).alloc _).alloc _, by simp, ((Blk.new w 31 _).alloc _).alloc _, (Blk.new2 w _ 45 _).alloc _, Blk.new3' _ _ _ _ _⟩ ?_;rintro W1 ⟨hf1, hs1, hbn1, hbr1, hbe1⟩;have HF1 := hid hf1;have HBN1 := hid hbn1;have HBR1 := hid hbr1;have HBE1 := hid hbe1;have HS1 := hid hs1;have HT1 := hid (show TabAt (w.heap.size + 3) c 0 W1 (rowsE nMtd ks) none 0 0 from ⟨by rw [List.take_zero, El.grid_nil c hc0]; rfl, .inl ⟨rfl, rfl, rfl, by omega⟩⟩);clear hf1 hbr1 hbe1 hs1 hbn1
 go_loopw [11] (fun i wr => ∃ (j ro : Nat) (Ao : Option Addr) (co : Nat), i = .int .i64 j ∧ j ≤ ks.length ∧ Hid (Blk wr w.heap.size 31 #[.int .i64 n.kind, .string ⟨n.text.toArray⟩, .int .i64 n.cols, .slice A ks.length cap]) ∧ Hid (Blk wr (w.heap.size + 1) 45 #[.string ⟨#[]⟩, .slice none 0 0, .slice none 0 0, .string ⟨#[]⟩]) ∧ Hid (Blk wr (w.heap.size + 1 + 1) 45 #[.string ⟨nMtable.toArray⟩, .slice none 0 0, .slice Ao ro co, .string ⟨#[]⟩]) ∧ Hid (TabAt (w.heap.size + 3) c j wr (rowsE nMtd ks) Ao ro co) ∧ Hid (Fresh w wr)) (fun i _ => ks.length - (intOf i).toNat)
 case atStart => exact ⟨0, 0, none, 0, rfl, Nat.zero_le _, HBN1, HBR1, HBE1, HT1, HF1⟩
 case round =>
  obtain ⟨j, ro, Ao, co, rfl, hj, HBN, HBR, HBE, HT, HF⟩ := hrel;rename_i wr _
  by_cases c1 : j < ks.length
  ·have d1 : decide ((j : Int) < (ks.length : Int)) = true := dT (by omega)
   have d1n : decide (j < ks.length) = true := dT c1;have d1' : (j : Int) < (ks.length : Int) := by omega
   obtain ⟨g, o, sx, hA, hg, m0, m1, m2, m3, hrx⟩ := HSL.out.get j c1;cases hA;obtain ⟨Ax, cx, rfl⟩ := hrx.slice;have e0 := HF.out.cell m0 (fun h => h);have e1 := HF.out.cell m1 (fun h => h);have e2 := HF.out.cell m2 (fun h => h);have e3 := HF.out.cell m3 (fun h => h);have hgl : g < wr.heap.size := Nat.lt_of_lt_of_le hg HF.out.size;have HRX := hid (hrx.fresh HF.out);have HRX0 := hid hrx;have HMEM := hid (List.getElem_mem c1);clear m0 m1 m2 m3 hg hrx;obtain ⟨b0, b1, b2, b3, _, _, _, _, hlb⟩ := Blk.four HBN.out;rw [HCC.out] at b2;have hF : (rowsE nMtd ks).length = ks.length := rowsE_len _ _;have hgl2 := grid_len_le c hc0 ((rowsE nMtd ks).take j);rw [List.length_take, hF] at hgl2;have hro : ro ≤ 100000 := by have := HT.out.1; omega
   have HB5 := hid (show Blk (wr.alloc (.cells #[.int .i64 ks[j].kind, .string ⟨ks[j].text.toArray⟩, .int .i64 ks[j].cols, .slice Ax ks[j].kids.length cx] 31)) wr.heap.size 31 #[.int .i64 ks[j].kind, .string ⟨ks[j].text.toArray⟩, .int .i64 ks[j].cols, .slice Ax ks[j].kids.length cx] from Blk.new wr 31 #[.int .i64 ks[j].kind, .string ⟨ks[j].text.toArray⟩, .int .i64 ks[j].cols, .slice Ax ks[j].kids.length cx]);have HBN5 := hid (HBN.out.alloc (.cells #[.int .i64 ks[j].kind, .string ⟨ks[j].text.toArray⟩, .int .i64 ks[j].cols, .slice Ax ks[j].kids.length cx] 31));have HBR5 := hid (HBR.out.alloc (.cells #[.int .i64 ks[j].kind, .string ⟨ks[j].text.toArray⟩, .int .i64 ks[j].cols, .slice Ax ks[j].kids.length cx] 31));have HBE5 := hid (HBE.out.alloc (.cells #[.int .i64 ks[j].kind, .string ⟨ks[j].text.toArray⟩, .int .i64 ks[j].cols, .slice Ax ks[j].kids.length cx] 31));have HT5 := hid (HT.out.fresh ((Touch.refl _ wr).alloc (.cells #[.int .i64 ks[j].kind, .string ⟨ks[j].text.toArray⟩, .int .i64 ks[j].cols, .slice Ax ks[j].kids.length cx] 31)));have HF5 := hid (HF.out.alloc (.cells #[.int .i64 ks[j].kind, .string ⟨ks[j].text.toArray⟩, .int .i64 ks[j].cols, .slice Ax ks[j].kids.length cx] 31));have HRX5 := hid (HRX.out.fresh ((Touch.refl _ wr).alloc (.cells #[.int .i64 ks[j].kind, .string ⟨ks[j].text.toArray⟩, .int .i64 ks[j].cols, .slice Ax ks[j].kids.length cx] 31)));have hBw : w.heap.size + 3 ≤ wr.heap.size := (HT.out.grow hc0).base
   by_cases c2 : j % c = 0
   focus
    have d2 : ((j : Int) % (c : Int) == 0) = true := by rw [beq_iff_eq]; omega
    have d2n : (j % c == 0) = true := by rw [c2]; rfl
    have HG5 := hid (HT5.out.grow hc0);have HLN := hid (show ((grid c ((rowsE nMtd ks).take j)).map (mrow nMtr)).length = ro by rw [List.length_map]; exact HT.out.1.symm);have HOW := hid HG5.out.own_lt;obtain ⟨q0, q1, q2, q3, z0, z1, z2, z3, hlt⟩ := Blk.four HBE5.out
    go_wp2_with (at_builtin; go_loud (refine wpList_append_line rfl (.tmp 22) (.tmp 24) rfl (HG5.out.fresh ((Touch.refl _ _).alloc _)) HLN.out (by simp [Act.eval]) (Blk.new2 wr (.cells #[.int .i64 ks[j].kind, .string ⟨ks[j].text.toArray⟩, .int .i64 ks[j].cols, .slice Ax ks[j].kids.length cx] 31) 45 _) (by simp [Act.eval]) (by omega) ?_); intro A8 c8 w8 cs8 ht8 hto8; refine Stay.mk ?_)
    have HOW8 := hid (HT.out.grow hc0).own_lt;obtain ⟨g7, c7, hv7, hg7, _⟩ := ht8.last HLN.out;cases hv7;have hf8 : Fresh w w8 := (HF5.out.alloc _).trans' hto8 fun k hk => .inr (by have := (HOW8.out _ hk).1; omega)
    have hbe8 := hto8.blk (HBE5.out.alloc (.cells #[.string ⟨nMtr.toArray⟩, .slice none 0 0, .slice none 0 0, .string ⟨#[]⟩] 45)) fun h => by have := (HOW8.out _ h).1; omega
    have hbn8 := hto8.blk (HBN5.out.alloc (.cells #[.string ⟨nMtr.toArray⟩, .slice none 0 0, .slice none 0 0, .string ⟨#[]⟩] 45)) fun h => by have := (HOW8.out _ h).1; omega
    have hbr8 := hto8.blk (HBR5.out.alloc (.cells #[.string ⟨nMtr.toArray⟩, .slice none 0 0, .slice none 0 0, .string ⟨#[]⟩] 45)) fun h => by have := (HOW8.out _ h).1; omega
    have hbx8 := hto8.blk (HB5.out.alloc (.cells #[.string ⟨nMtr.toArray⟩, .slice none 0 0, .slice none 0 0, .string ⟨#[]⟩] 45)) fun h => by have := (HOW8.out _ h).2; omega
    have HT7 := hid (ht8.mv ((Touch.refl (fun k => k = (w.heap.size + 1 + 1)) w8).setCell (p := ⟨(w.heap.size + 1 + 1), 2, none⟩) (.inl rfl) (.slice (some ⟨g7, 0, none⟩) (ro + 1) c8)) (fun k hk _ => by omega));have HF7 := hid (hf8.setCell (p := ⟨(w.heap.size + 1 + 1), 2, none⟩) (.inr (by show w.heap.size ≤ (w.heap.size + 1 + 1); omega)) (.slice (some ⟨g7, 0, none⟩) (ro + 1) c8));have HBE7 := hid (hbe8.put 2 (.slice (some ⟨g7, 0, none⟩) (ro + 1) c8));have HBN7 := hid (hbn8.far (p := ⟨(w.heap.size + 1 + 1), 2, none⟩) (by simp; omega) (.slice (some ⟨g7, 0, none⟩) (ro + 1) c8));have HBR7 := hid (hbr8.far (p := ⟨(w.heap.size + 1 + 1), 2, none⟩) (by simp) (.slice (some ⟨g7, 0, none⟩) (ro + 1) c8));have HBX7 := hid (hbx8.far (p := ⟨(w.heap.size + 1 + 1), 2, none⟩) (by show wr.heap.size ≠ (w.heap.size + 1 + 1); omega) (.slice (some ⟨g7, 0, none⟩) (ro + 1) c8));have HGR := hid (grid_begin c j hc0 (rowsE nMtd ks) c2 (by omega));obtain ⟨p0, p1, p2, p3, y0, y1, y2, y3, hlp⟩ := Blk.four hbe8;have hwr : IntKind.i64.wrap (ro : Int) = ro := IntWalk.i64_in _ (by omega);have hm1 : (ro : Int) + 1 - 1 = ro := by omega
    have hm2 : (ro : Int) < ro + 1 := by omega
    clear ht8 hto8 hf8 hbe8 hbn8 hbr8 hbx8 q0 q1 q2 q3 z0 z1 z2 z3 hlt;refine Stay.go ?_;have hpk : ∃ (Lg : List (List E)) (r : List E) (B2 : Nat) (v2 : Value) (cs0 : List Value), Lg.length = ro ∧ grid c ((rowsE nMtd ks).take (j + 1)) = Lg ++ [r ++ [(rowsE nMtd ks)[j]'(by rw [hF]; exact c1)]] ∧ TabSt (w.heap.size + 3) (w8.setCell ⟨(w.heap.size + 1 + 1), 2, none⟩ (.slice (some ⟨g7, 0, none⟩) (ro + 1) c8)) (.slice (some ⟨g7, 0, none⟩) (ro + 1) c8) (Lg.map (mrow nMtr)) r B2 v2 cs0 := ⟨_, _, _, _, _, HT.out.1.symm, HGR.out, HT7.out⟩;clear HT7 HGR HLN HOW HOW8 HG5;have HPK := hid hpk;clear hpk;go_wp2_with fail
    clear p0 p1 p2 p3 y0 y1 y2 y3 hlp hwr hm1 hm2 d2 d2n;generalize (w8.setCell ⟨(w.heap.size + 1 + 1), 2, none⟩ (.slice (some ⟨g7, 0, none⟩) (ro + 1) c8)) = W7 at HPK HF7 HBE7 HBN7 HBR7 HBX7 ⊢;obtain ⟨m, rfl⟩ : ∃ m, m = ro := ⟨ro, rfl⟩
   rotate_left
   focus
    have d2 : ((j : Int) % (c : Int) == 0) = false := by rw [beq_eq_false_iff_ne]; omega
    have d2n : (j % c == 0) = false := by rw [beq_eq_false_iff_ne]; exact c2
    obtain ⟨m, g7, rfl, rfl, hg7, hpk⟩ : ∃ m g7, ro = m + 1 ∧ Ao = some ⟨g7, 0, none⟩ ∧ w.heap.size + 3 ≤ g7 ∧ ∃ (Lg : List (List E)) (r : List E) (B2 : Nat) (v2 : Value) (cs0 : List Value), Lg.length = m ∧ grid c ((rowsE nMtd ks).take (j + 1)) = Lg ++ [r ++ [(rowsE nMtd ks)[j]'(by rw [hF]; exact c1)]] ∧ TabSt (w.heap.size + 3) (wr.alloc (.cells #[.int .i64 ks[j].kind, .string ⟨ks[j].text.toArray⟩, .int .i64 ks[j].cols, .slice Ax ks[j].kids.length cx] 31)) (.slice (some ⟨g7, 0, none⟩) (m + 1) co) (Lg.map (mrow nMtr)) r B2 v2 cs0 := by
     obtain ⟨Lg, r, B2, v2, cs0, hgr, hro2, htb⟩ := HT5.out.more hc0 c2 (by omega);obtain ⟨g7, c8, hv7, hg7, _⟩ := htb.last (List.length_map _);cases hv7;exact ⟨_, g7, hro2, rfl, hg7, _, _, _, _, _, rfl, hgr, htb⟩
    have HPK := hid hpk;clear hpk HT5;obtain ⟨q0, q1, q2, q3, z0, z1, z2, z3, hlt⟩ := Blk.four HBE5.out;have hwr : IntKind.i64.wrap (m : Int) = m := IntWalk.i64_in _ (by omega);have hm1 : (m : Int) + 1 - 1 = m := by omega
    have hm2 : (m : Int) < m + 1 := by omega
    go_wp2_with fail
    clear q0 q1 q2 q3 z0 z1 z2 z3 hlt hwr hm1 hm2 d2 d2n;have HF7 := hid HF5.out;have HBE7 := hid HBE5.out;have HBN7 := hid HBN5.out;have HBR7 := hid HBR5.out;have HBX7 := hid HB5.out;generalize (wr.alloc (.cells #[.int .i64 ks[j].kind, .string ⟨ks[j].text.toArray⟩, .int .i64 ks[j].cols, .slice Ax ks[j].kids.length cx] 31)) = W7 at HPK HF7 HBE7 HBN7 HBR7 HBX7 ⊢;obtain ⟨c8, rfl⟩ : ∃ c8, c8 = co := ⟨co, rfl⟩
   all_goals
    obtain ⟨Lg, r, B2, v2, cs0, hlg, hgr, htb⟩ := HPK.out;have HGR := hid hgr;have HLM := hid (show (Lg.map (mrow nMtr)).length = m by rw [List.length_map]; exact hlg);obtain ⟨g', c', hv', _, hgl', hcell, hfz⟩ := htb.last HLM.out;cases hv';obtain ⟨A2, c2', rfl⟩ := htb.2.2.2.2.slice;obtain ⟨hB2, cs2, hi2, hs2⟩ := htb.2.2.2.2;have HTB := hid htb;have HI2 := hid hi2;have HS2 := hid hs2;have hgB : g7 < B2 := htb.2.1 g7 rfl;have HRX7 := hid (HRX0.out.fresh HF7.out)
    have hmj : m ≤ j := by
     have h1 := grid_len_le c hc0 ((rowsE nMtd ks).take (j + 1));rw [hgr, List.length_append, List.length_take, hlg] at h1;simp only [List.length_cons, List.length_nil] at h1;omega
    have hrl : r.length ≤ 100000 := by
     have h1 := HI2.out.1;have h2 := grid_cell c hc0 ((rowsE nMtd ks).take (j + 1)) (r ++ [(rowsE nMtd ks)[j]'(by rw [hF]; exact c1)]) (by rw [hgr]; simp);rw [List.length_append, List.length_take] at h2;omega
    have k0 := cR hcell;have j0 := cR (HBX7.out.cell 0 |>.trans rfl);have j1 := cR (HBX7.out.cell 1 |>.trans rfl);have j2 := cR (HBX7.out.cell 2 |>.trans rfl);have j3 := cR (HBX7.out.cell 3 |>.trans rfl);have HCELL := hid hcell;have HFZ := hid hfz;clear htb hi2 hs2 hlg hgr hcell hfz HPK e0 e1 e2 e3
    refine wp_region_plan2 (Plan.of [(0, true), (1, true), (2, true), (3, true), (4, true), (6, true)] (.fork 5 (.lone 7 .nil) 7 (.lone 5 .nil))) [0, 1, 2, 3, 4, 5, 6, 7] 8 (Array.replicate 8 true ++ Array.replicate 6 false) (fun _ => True) (Plan.of [(9, true), (11, true), (12, true)] (.fork 10 (.lone 13 .nil) 13 (.lone 10 .nil))) [9, 10, 11, 12, 13] (Array.replicate 14 true)
     (by kernel_rfl) (fun _ _ d _ _ h => by cases d <;> exact h) (by kernel_rfl) ?_
    unfold Plan.of
    repeat (refine wpPlan_plain rfl (fun K hK => ?_); go_simp; refine hK _ ?_; clear hK K; first | done | unfold Plan.of)
    clear k0 j0 j1 j2 j3;refine wpPlan_fork ?_ ?_
    focus
     refine wpPlan_lone rfl (fun K hK => ?_);go_wp2_with fail
     refine (HIH.out ks[j] HMEM.out nMtd _ _ (by decide) (by have := Tr.count_mem HMEM.out; omega) (HRX7.out.fresh ((Touch.refl _ _).drewN 1))).mono ?_;rintro _ w6 ⟨v6, rfl, va, vk, rfl, hf6, hst6⟩;have HF6 := hid (show Fresh W7 w6 from ((Touch.refl _ W7).drewN 1).trans hf6);have HST6 := hid (show Stab (fun k => k < W7.heap.size) w6 fun W => RepV W (mrow nMtd (elK ks[j].kids)) va vk from hst6);obtain ⟨Aa, ca, rfl⟩ := hst6.now.1.slice;obtain ⟨Ak, ck, rfl⟩ := hst6.now.2.1.slice;clear hf6 hst6;go_wp2_with fail
     refine hK _ _ (growing_fresh HF6.out) ?_;clear hK K;refine wpPlan_lone rfl (fun K hK => ?_);go_wp2_with fail
     refine hK _ _ (growing_fresh (HF6.out.alloc _)) ?_;clear hK K;have HBV := hid (Blk.new w6 45 #[.string ⟨#[]⟩, .slice none 0 0, .slice none 0 0, .string ⟨#[]⟩]);have HFA := hid (HF6.out.alloc (.cells #[.string ⟨#[]⟩, .slice none 0 0, .slice none 0 0, .string ⟨#[]⟩] 45));have HSTA := hid (HST6.out.fresh ((Touch.refl _ w6).alloc (.cells #[.string ⟨#[]⟩, .slice none 0 0, .slice none 0 0, .string ⟨#[]⟩] 45)));generalize (w6.alloc (.cells #[.string ⟨#[]⟩, .slice none 0 0, .slice none 0 0, .string ⟨#[]⟩] 45)) = wA at HBV HFA HSTA ⊢;obtain ⟨bz, hbz⟩ : ∃ b, b = w6.heap.size := ⟨_, rfl⟩;rw [← hbz] at HBV ⊢;clear hbz HF6 HST6
    rotate_left
    focus
     refine wpPlan_lone rfl (fun K hK => ?_);go_wp2_with fail
     refine hK _ _ (growing_fresh (((Touch.refl _ W7).drewN 1).alloc _)) ?_;clear hK K;have HBV6 := hid (show Blk ((W7.drewN 1).alloc (.cells #[.string ⟨#[]⟩, .slice none 0 0, .slice none 0 0, .string ⟨#[]⟩] 45)) W7.heap.size 45 #[.string ⟨#[]⟩, .slice none 0 0, .slice none 0 0, .string ⟨#[]⟩] from Blk.new (W7.drewN 1) 45 #[.string ⟨#[]⟩, .slice none 0 0, .slice none 0 0, .string ⟨#[]⟩]);have HF6 := hid (show Fresh W7 ((W7.drewN 1).alloc (.cells #[.string ⟨#[]⟩, .slice none 0 0, .slice none 0 0, .string ⟨#[]⟩] 45)) from ((Touch.refl _ W7).drewN 1).alloc _);have HS6 := hid (show W7.heap.size ≤ ((W7.drewN 1).alloc (.cells #[.string ⟨#[]⟩, .slice none 0 0, .slice none 0 0, .string ⟨#[]⟩] 45)).heap.size from HF6.out.size);generalize ((W7.drewN 1).alloc (.cells #[.string ⟨#[]⟩, .slice none 0 0, .slice none 0 0, .string ⟨#[]⟩] 45)) = w6 at HBV6 HF6 HS6 ⊢;obtain ⟨bz, hbz⟩ : ∃ b, b = W7.heap.size := ⟨_, rfl⟩;refine wpPlan_lone rfl (fun K hK => ?_);go_wp2_with fail
     refine (HIH.out ks[j] HMEM.out nMtd _ _ (by decide) (by have := Tr.count_mem HMEM.out; omega) (HRX7.out.fresh HF6.out)).mono ?_;rintro _ wA ⟨v6, rfl, va, vk, rfl, hf6, hst6⟩;have HFA := hid (show Fresh W7 wA from HF6.out.trans hf6);have HSTA := hid (show Stab (fun k => k < W7.heap.size) wA fun W => RepV W (mrow nMtd (elK ks[j].kids)) va vk from hst6.mono fun i _ hi => Nat.lt_of_lt_of_le hi HS6.out);obtain ⟨Aa, ca, rfl⟩ := hst6.now.1.slice;obtain ⟨Ak, ck, rfl⟩ := hst6.now.2.1.slice;have HBV := hid (hf6.blk HBV6.out fun h => h);clear hf6 hst6;go_wp2_with fail
     refine hK _ _ (growing_fresh HFA.out) ?_;clear hK K;rw [← hbz] at HBV ⊢;clear hbz HF6 HBV6 HS6
    all_goals
     have HIA := hid (ownsRow_touch HI2.out HFA.out fun _ _ h => h);have HBA := hid (Nat.le_trans hB2 HFA.out.size);obtain ⟨ie, hie, hz0, hz1, hz2⟩ := info_parts infoElem;refine wpPlan_shut2 rfl (fun K hK => ?_)
     go_wp2_with (at_builtin; go_loud (refine wpList_append_src _ rfl (.tmp 37) (.tmp 41) 43 rfl B2 45 ie _ 4 80 Tryz.underlying43 hie hz0 hz1 hz2 rfl (by decide) (.slice A2 r.length c2') r.length cs2 (by simp [Act.eval]) HIA.out (.slice (some ⟨bz, 0, none⟩) 1 1) 1 _ (by simp [Act.eval]) (Src.of_blk HBV.out rfl) (by simp [Value.oneCell']) (by simp only [maxLen]; omega) (by omega) HBA.out ?_); intro v9 w8 ho9 hgr9 hv9; refine Stay.mk ?_)
     obtain ⟨g2, c9, hv2⟩ : ∃ g2 c9, v9 = .slice (some ⟨g2, 0, none⟩) (r.length + 1) c9 := by
      rcases ho9.2 with ⟨_, h0⟩ | ⟨g', cap', cur', e', _⟩
      ·omega
      ·exact ⟨g', cap', e'⟩
     subst hv2;have hto9 : Touch (fun k => (Value.slice A2 r.length c2').ownBlock = some k) wA w8 := Touch.grown (Touch.refl _ _) hgr9 fun k hk => .inl hk
     have HST := hid (TabSt.stores (e := mrow nMtd (elK ks[j].kids)) HTB.out HLM.out HI2.out HS2.out HFA.out HSTA.out ho9 hto9 hv9);have hg2 := ho9.lt g2 rfl;have hl2 : cs2.length = r.length * 4 := HI2.out.1
     have cellz : ∀ i z, ([Value.string ⟨#[]⟩, .slice none 0 0, .slice none 0 0, .string ⟨#[]⟩])[i]? = some z → i < 4 → w8.cell? ⟨g2, r.length * 4 + i, none⟩ = some z := fun i z hz hi4 => by
      rw [ho9.cellAt _ (by omega), List.getElem?_append_right (by omega), show r.length * 4 + i - cs2.length = i by omega];exact hz
     have a0 : w8.cell? ⟨g2, r.length * 4, none⟩ = some (.string ⟨#[]⟩) := cellz 0 _ rfl (by omega);have a1 := cellz 1 _ rfl (by omega);have a2 := cellz 2 _ rfl (by omega);have a3 := cellz 3 _ rfl (by omega);have f0 : w8.frozen? ⟨g2, r.length * 4, none⟩ = false := ho9.frozenAt _;have f1 : w8.frozen? ⟨g2, r.length * 4 + 1, none⟩ = false := ho9.frozenAt _;have f2 : w8.frozen? ⟨g2, r.length * 4 + 2, none⟩ = false := ho9.frozenAt _;have f3 : w8.frozen? ⟨g2, r.length * 4 + 3, none⟩ = false := ho9.frozenAt _;have hno : ∀ k, (Value.slice A2 r.length c2').ownBlock = some k → B2 ≤ k := fun k hk => (HI2.out.lt k hk).1
     have b0 := hto9.cell (HFA.out.cell HCELL.out fun h => h) fun h => by have := hno _ h; simp only at this; omega
     have b1 : w8.frozen? ⟨g7, m * 4 + 2, none⟩ = false := (hto9.frozen (p := ⟨g7, m * 4 + 2, none⟩) (Nat.lt_of_lt_of_le hgl' HFA.out.size) fun h => by have := hno _ h; simp only at this; omega).trans ((HFA.out.frozen (p := ⟨g7, m * 4 + 2, none⟩) hgl' fun h => h).trans HFZ.out);have hg78 : g7 < w8.heap.size := Nat.lt_of_lt_of_le hgl' (Nat.le_trans HFA.out.size hto9.size);have hne : g7 ≠ g2 := by omega
     have hne' : g2 ≠ g7 := by omega
     have hBB : w.heap.size + 3 ≤ B2 := HTB.out.1;have HF8 := hid (show Fresh w w8 from (HF7.out.trans HFA.out).trans' hto9 fun k hk => .inr (by have := hno _ hk; omega));have HBE8 := hid (hto9.blk (HFA.out.blk HBE7.out fun h => h) fun h => by have := hno _ h; omega);have HBN8 := hid (hto9.blk (HFA.out.blk HBN7.out fun h => h) fun h => by have := hno _ h; omega);have HBR8 := hid (hto9.blk (HFA.out.blk HBR7.out fun h => h) fun h => by have := hno _ h; omega);have HBB := hid hBB;have HG2 := hid hg2.1;have HR9 := hid (show r.length < r.length + 1 by omega);have hr1 : (r.length : Int) < (r.length : Int) + 1 := by omega
     have hlt2 := hg2.2;clear ho9 hgr9 hv9 hto9 cellz hno hBB HIA HBA HBV hg2 hl2;refine Stay.go ?_;go_wp2_with fail
     refine hK _ _ trivial ?_;clear hK K
     repeat (refine wpPlan_plain rfl (fun K hK => ?_); go_simp; refine hK _ ?_; clear hK K)
     refine wpPlan_fork ?_ ?_
     focus
      refine wpPlan_lone rfl (fun K hK => ?_);go_wp2_with fail
      refine hK _ _ trivial ?_;clear hK K;refine wpPlan_lone rfl (fun K hK => ?_);go_wp2_with fail
      refine hK _ _ trivial ?_;clear hK K;have HT9 := hid HST.out.1;have HTW := hid (show Touch (fun k => k = g2 ∨ k = g7) w8 _ from ((touchAt4 w8 g2 (r.length * 4) (.string ⟨(mrow nMtd (elK ks[j].kids)).name.toArray⟩) (.slice Aa (mrow nMtd (elK ks[j].kids)).attrs.length ca) (.slice Ak (mrow nMtd (elK ks[j].kids)).kids.length ck) (.string ⟨(mrow nMtd (elK ks[j].kids)).text.toArray⟩)).mono fun i hi => .inl hi).trans ((touch1 _ g7 (m * 4 + 2) (.slice (some ⟨g2, 0, none⟩) (r.length + 1) c9)).mono fun i hi => .inr hi));unfold putAt4 at HT9 HTW;clear a0 a1 a2 a3 f0 f1 f2 f3 b0 b1 HST;generalize World.setCell _ ⟨g7, m * 4 + 2, none⟩ _ = W9 at HT9 HTW ⊢
     rotate_left
     focus
      refine wpPlan_lone rfl (fun K hK => ?_);go_wp2_with fail
      refine hK _ _ trivial ?_;clear hK K;refine wpPlan_lone rfl (fun K hK => ?_);go_wp2_with fail
      refine hK _ _ trivial ?_;clear hK K;have HT9 := hid HST.out.2;have HTW := hid (show Touch (fun k => k = g2 ∨ k = g7) w8 _ from ((touch1 w8 g7 (m * 4 + 2) (.slice (some ⟨g2, 0, none⟩) (r.length + 1) c9)).mono fun i hi => .inr hi).trans ((touchAt4 _ g2 (r.length * 4) (.string ⟨(mrow nMtd (elK ks[j].kids)).name.toArray⟩) (.slice Aa (mrow nMtd (elK ks[j].kids)).attrs.length ca) (.slice Ak (mrow nMtd (elK ks[j].kids)).kids.length ck) (.string ⟨(mrow nMtd (elK ks[j].kids)).text.toArray⟩)).mono fun i hi => .inl hi));unfold putAt4 at HT9 HTW;clear a0 a1 a2 a3 f0 f1 f2 f3 b0 b1 HST;generalize World.setCell _ ⟨g2, r.length * 4 + 3, none⟩ _ = W9 at HT9 HTW ⊢
     all_goals
      refine wpPlan_nil ?_;go_wp2_with fail
      have hgr9 := HGR.out;rw [show (rowsE nMtd ks)[j]'(by rw [hF]; exact c1) = mrow nMtd (elK ks[j].kids) by simp [rowsE]] at hgr9;have hBB := HBB.out;have hG2 := HG2.out;have hlg : Lg.length = m := by have := HLM.out; rwa [List.length_map] at this
      have hta : TabAt (w.heap.size + 3) c (j + 1) W9 (rowsE nMtd ks) (some ⟨g7, 0, none⟩) (m + 1) c8 := by
       refine ⟨by rw [hgr9, List.length_append, hlg]; rfl, .inr ⟨Lg, r ++ [mrow nMtd (elK ks[j].kids)], B2, .slice (some ⟨g2, 0, none⟩) (r.length + 1) c9, cs0, hgr9, ?_⟩⟩;rw [hlg];exact HT9.out
      exact ⟨⟨j + 1, m + 1, some ⟨g7, 0, none⟩, c8, by simp, by omega, HTW.out.blk HBN8.out (fun h => by rcases h with h | h <;> omega), HTW.out.blk HBR8.out (fun h => by rcases h with h | h <;> omega), HTW.out.blk HBE8.out (fun h => by rcases h with h | h <;> omega), hta, HF8.out.trans' HTW.out (fun k hk => .inr (by rcases hk with h | h <;> omega))⟩, by simp [intOf]; omega⟩
  ·have d1 : decide ((j : Int) < (ks.length : Int)) = false := dF (by omega)
   have d1n : decide (j < ks.length) = false := dF c1;obtain rfl : j = ks.length := by omega
   obtain ⟨q0, q1, q2, q3, _, _, _, _, hlt⟩ := Blk.four HBE.out;obtain ⟨p0, p1, p2, p3, y0, y1, y2, y3, hlp⟩ := Blk.four HBR.out;have hg9 := (HT.out.grow hc0).mv ((Touch.refl (fun k => k = (w.heap.size + 1)) wr).put4 (.inl rfl) (.string ⟨nMtable.toArray⟩) (.slice none 0 0) (.slice Ao ro co) (.string ⟨#[]⟩)) (fun k hk _ => by omega);rw [List.take_of_length_le (by rw [rowsE_len]; exact Nat.le_refl _)] at hg9;have HG9 := hid hg9;obtain ⟨r0, r1, r2, r3, _, _, _, _, _⟩ := Blk.four (HBR.out.self4 (.string ⟨nMtable.toArray⟩) (.slice none 0 0) (.slice Ao ro co) (.string ⟨#[]⟩));simp only [put4] at r0 r1 r2 r3;clear hg9;go_wp2_with fail
   refine bodyPost_ret (v := .agg #[.string ⟨nMtable.toArray⟩, .slice none 0 0, .slice Ao ro co, .string ⟨#[]⟩]) (by simp [results, Tryz.results131, go_sem, r0, r1, r2, r3]) rfl ?_;refine ⟨_, rfl, .slice none 0 0, .slice Ao ro co, rfl, Touch.put4 HF.out (.inr (by omega)) _ _ _ _, ?_⟩;exact (HG9.out.done.mono fun i _ hi => by omega).imp fun W hW => ⟨RepA.nil _ _ _, hW, show nMtable.length ≤ maxLen by decide, Nat.zero_le _⟩
end Go.Proofs.YtnbeemkfmlfgfaaGreatDoor
