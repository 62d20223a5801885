/- Part 24 of 33 of a proof; its texts, joined: MoI. No condition. -/
import Derived.Test.YtfnjcldgicohaaaGreatWa23
set_option maxRecDepth 100000
set_option maxHeartbeats 8000000
namespace Go.Proofs.YtfnjcldgicohaaaGreat
open Go.RowKit
open Tr (Nd)
open El (E Rd Attrs ent rRow rItem rItems rRows rLines rowNil nMtd nMtr)
attribute [local go_sem] stillV stillUpon
theorem rows_len (nm : List UInt8) (l : List E) : ∀ s, (rRows nm l s).1.length ≤ l.length := by
 induction l with
 | nil => intro s; rw [rRows]; exact Nat.le_refl _
 | cons x l ih =>
  intro s;rw [rRows];split
  ·have := ih (rRow nm x s).2
   show ((rRows nm l (rRow nm x s).2).1).length + 1 ≤ l.length + 1;omega
  ·exact Nat.zero_le _
theorem line_ways (n : List UInt8) (a : Attrs) (ks : List E) (t : List UInt8) (c : Int) :
  (El.okLine c (.mk n a ks t) = false ∧ (n == ([109, 116, 114] : List UInt8)) = false) ∨
  (El.okLine c (.mk n a ks t) = false ∧ (n == ([109, 116, 114] : List UInt8)) = true ∧ ((a.length : Int) == (0 : Int)) = false) ∨
  (El.okLine c (.mk n a ks t) = false ∧ (n == ([109, 116, 114] : List UInt8)) = true ∧ ((a.length : Int) == (0 : Int)) = true ∧ t.isEmpty = false) ∨
  (El.okLine c (.mk n a ks t) = false ∧ (n == ([109, 116, 114] : List UInt8)) = true ∧ ((a.length : Int) == (0 : Int)) = true ∧ t.isEmpty = true ∧ decide ((1 : Int) ≤ (ks.length : Int)) = false) ∨
  (El.okLine c (.mk n a ks t) = false ∧ (n == ([109, 116, 114] : List UInt8)) = true ∧ ((a.length : Int) == (0 : Int)) = true ∧ t.isEmpty = true ∧ decide ((1 : Int) ≤ (ks.length : Int)) = true ∧ decide ((ks.length : Int) ≤ (16 : Int)) = false) ∨
  (El.okLine c (.mk n a ks t) = false ∧ (n == ([109, 116, 114] : List UInt8)) = true ∧ ((a.length : Int) == (0 : Int)) = true ∧ t.isEmpty = true ∧ decide ((1 : Int) ≤ (ks.length : Int)) = true ∧ decide ((ks.length : Int) ≤ (16 : Int)) = true ∧ ((ks.length : Int) == c) = false) ∨
  (El.okLine c (.mk n a ks t) = true ∧ (n == ([109, 116, 114] : List UInt8)) = true ∧ ((a.length : Int) == (0 : Int)) = true ∧ t.isEmpty = true ∧ decide ((1 : Int) ≤ (ks.length : Int)) = true ∧ decide ((ks.length : Int) ≤ (16 : Int)) = true ∧ ((ks.length : Int) == c) = true) := by
 have h : El.okLine c (.mk n a ks t) = ((n == nMtr) && ((a.length : Int) == (0 : Int)) && t.isEmpty && decide ((1 : Int) ≤ (ks.length : Int)) && decide ((ks.length : Int) ≤ (16 : Int)) && ((ks.length : Int) == c)) := by rw [len0, beq_dec, show decide ((1 : Int) ≤ (ks.length : Int)) = decide (1 ≤ ks.length) by rw [decide_eq_decide]; omega, show decide ((ks.length : Int) ≤ (16 : Int)) = decide (ks.length ≤ 16) by rw [decide_eq_decide]; omega]; rfl
 rw [h];unfold nMtr;cases n == ([109, 116, 114] : List UInt8) <;> cases ((a.length : Int) == (0 : Int)) <;> cases t.isEmpty <;> cases decide ((1 : Int) ≤ (ks.length : Int)) <;> cases decide ((ks.length : Int) ≤ (16 : Int)) <;> cases ((ks.length : Int) == c) <;> simp
theorem GrowZ.stores {B n : Nat} {w8 : World} {ns : List Nd} {m : Nd} {sl x0 x1 x2 x3 : Value} {g8 cap go : Nat} (h : GrowZ B w8 ns m sl (.slice (some ⟨g8, 0, none⟩) (n + 1) cap)) (hn : ns.length = n) (hb : Blk w8 go 30 #[x0, x1, x2, x3]) (hgo : go < B) :
  (∀ W, W = (putAt4 w8 g8 (n * 4) (.int .i64 m.kind) (.string ⟨m.text.toArray⟩) (.int .i64 m.cols) sl).setCell ⟨go, 3, none⟩ (.slice (some ⟨g8, 0, none⟩) (n + 1) cap) →
   Blk W go 30 #[x0, x1, x2, .slice (some ⟨g8, 0, none⟩) (n + 1) cap] ∧ GrowN B W (ns ++ [m]) (.slice (some ⟨g8, 0, none⟩) (n + 1) cap) ∧ Touch (fun i => i = g8 ∨ i = go) w8 W) ∧
  (∀ W, W = putAt4 (w8.setCell ⟨go, 3, none⟩ (.slice (some ⟨g8, 0, none⟩) (n + 1) cap)) g8 (n * 4) (.int .i64 m.kind) (.string ⟨m.text.toArray⟩) (.int .i64 m.cols) sl →
   Blk W go 30 #[x0, x1, x2, .slice (some ⟨g8, 0, none⟩) (n + 1) cap] ∧ GrowN B W (ns ++ [m]) (.slice (some ⟨g8, 0, none⟩) (n + 1) cap) ∧ Touch (fun i => i = g8 ∨ i = go) w8 W) := by
 obtain ⟨g', cap', hv, _, hg8, _⟩ := h.cells hn;cases hv;constructor
 ·rintro W rfl
  have hp := touchAt4 w8 g8 (n * 4) (.int .i64 m.kind) (.string ⟨m.text.toArray⟩) (.int .i64 m.cols) sl;exact ⟨(hp.blk hb fun h => by omega).put 3 _, (h.put hn).mv (touch1 _ go 3 _) fun k hk _ => by omega, (hp.mono fun i hi => .inl hi).trans ((touch1 _ go 3 _).mono fun i hi => .inr hi)⟩
 ·rintro W rfl
  have hs := touch1 w8 go 3 (.slice (some ⟨g8, 0, none⟩) (n + 1) cap);exact ⟨(touchAt4 _ g8 (n * 4) _ _ _ _).blk (hb.put 3 _) fun h => by omega, (h.mv hs fun k hk _ => by omega).put hn, (hs.mono fun i hi => .inr hi).trans ((touchAt4 _ g8 (n * 4) _ _ _ _).mono fun i hi => .inl hi)⟩
theorem own_apart {B n k : Nat} {w : World} {v : Value} {cs : List Value} (h : w.ownsRow B 30 4 v n cs) {T : TypeId} {ds : Array Value} (hb : Blk w k T ds) (hT : T ≠ 30) : v.ownBlock ≠ some k := by
 intro h4
 rcases h.2 with ⟨h5, _⟩ | ⟨g', cap, cur, h5, _, h6, _⟩
 ·rw [h5] at h4; cases h4
 ·rw [h5] at h4
  cases h4;unfold Blk at hb;rw [hb] at h6;cases h6;exact hT rfl
theorem GrowN.apart {B k : Nat} {w : World} {ns : List Nd} {v : Value} (h : GrowN B w ns v) {T : TypeId} {ds : Array Value} (hb : Blk w k T ds) (hT : T ≠ 30) : v.ownBlock ≠ some k := by
 obtain ⟨_, cs, h1, _⟩ := h;exact own_apart h1 hb hT
theorem GrowZ.apart {B k : Nat} {w : World} {ns : List Nd} {m : Nd} {sl v : Value} (h : GrowZ B w ns m sl v) {T : TypeId} {ds : Array Value} (hb : Blk w k T ds) (hT : T ≠ 30) : v.ownBlock ≠ some k := by
 obtain ⟨_, _, cs, h1, _⟩ := h;exact own_apart h1 hb hT
def RLineC (W0 : World) (g : Nat) (e : E) : Prop := ∀ (s : Rd) (va vk : Value) (w : World) (go B : Nat) (k c : Int) (tx : List UInt8) (ns : List Nd) (A : Option Addr) (n cap : Nat), s.2 < 0 → s.1 + El.count e ≤ 100000 → El.proper e = true → RepV W0 e va vk → Rdr W0 g s w →
 Blk w go 30 #[.int .i64 k, .string ⟨tx.toArray⟩, .int .i64 c, .slice A n cap] → ns.length = n → GrowN B w ns (.slice A n cap) → go < B → g < B → W0.heap.size ≤ go → go ≠ g → n + e.kids.length ≤ 200000 →
 Calls Tryz.prog 59 #[.pointer (some ⟨g, 0, none⟩), ev e va vk, .pointer (some ⟨go, 0, none⟩)] w fun x w' => x = .returned (.tuple #[]) ∧ ∃ A' n' cap',
  Blk w' go 30 #[.int .i64 k, .string ⟨tx.toArray⟩, .int .i64 c, .slice A' n' cap'] ∧ (ns ++ (rRows nMtd e.kids (ent (El.okLine c e) s)).1).length = n' ∧ GrowN B w' (ns ++ (rRows nMtd e.kids (ent (El.okLine c e) s)).1) (.slice A' n' cap') ∧
  Rdr W0 g (rRows nMtd e.kids (ent (El.okLine c e) s)).2 w' ∧ Touch (fun i => i = g ∨ i = go ∨ B ≤ i) w w'
theorem rline_step (W0 : World) (g : Nat) (e : E) (ih : ∀ x ∈ e.kids, RRowC W0 g x) : RLineC W0 g e := by
 intro s va vk w go B k c tx ns0 A0 n0 cap0 hs0 hcnt hpr hr hrd hbo0 hnl0 hgr0 hgoB hgB hgo0 hgog hn0;have HIH := hid ih;have HRD := hid hrd;have HPK := hid (El.proper_kids e hpr);have hg0 := hrd.lt;have hW0 := hrd.le;have HKE := hid (show RepE W0 e.kids vk from hr.2.1);have HCN := hid (show (s.1 + 1) + El.countL e.kids ≤ 100000 by rw [El.count_kids] at hcnt; omega);have hl2 : e.kids.length ≤ 100000 := by have := El.countL_len e.kids; have := HCN.out; omega
 have hsb : s.1 ≤ 1000000 := by omega
 have HBO0 := hid hbo0;have HNL0 := hid hnl0;have HGR0 := hid hgr0;have hBw := hgr0.1;obtain ⟨A, ca, hva⟩ := hr.1.slice;obtain ⟨Bk, cb, hvk⟩ := hr.2.1.slice;clear ih hrd hpr hcnt hr hs0 hbo0 hnl0 hgr0;obtain ⟨n, ats, ks, t⟩ := e;replace hva : va = .slice A ats.length ca := hva;replace hvk : vk = .slice Bk ks.length cb := hvk;subst hva hvk;have hways := line_ways n ats ks t c;unfold ev;simp only [E.name, E.text, E.kids] at *;generalize El.okLine c (.mk n ats ks t) = ok at hways ⊢;obtain ⟨s1, hs1⟩ : ∃ s1, ent ok s = s1 := ⟨_, rfl⟩;rw [hs1];have HS1 := hid hs1;have HCN2 := hid (show s1.1 + El.countL ks ≤ 100000 by rw [← hs1]; exact HCN.out);have HEQ1 := hid (show (rRows nMtd ks s1) = ([] ++ (rRows nMtd (ks.drop 0) s1).1, (rRows nMtd (ks.drop 0) s1).2) by rw [List.drop_zero, List.nil_append]);clear hs1 HCN;generalize hRF : rRows nMtd ks s1 = RF at HEQ1 ⊢;clear hRF;obtain ⟨_, _, g2, _, _⟩ := Blk.four HBO0.out
 rcases hways with ⟨hok, c1⟩ | ⟨hok, c1, c2⟩ | ⟨hok, c1, c2, c3⟩ | ⟨hok, c1, c2, c3, c4⟩ | ⟨hok, c1, c2, c3, c4, c5⟩ | ⟨hok, c1, c2, c3, c4, c5, c6⟩ | ⟨hok, c1, c2, c3, c4, c5, c6⟩
 all_goals
  subst hok;go_enter Tryz.func59, Tryz.ntmps59;go_wp2_with fail
  have hr0 := HRD.out.fresh ((Touch.refl (fun _ => False) w).alloc (.cells #[.string ⟨n.toArray⟩, .slice A ats.length ca, .slice Bk ks.length cb, .string ⟨t.toArray⟩] 25));have hbe0 := Blk.new w 25 #[.string ⟨n.toArray⟩, .slice A ats.length ca, .slice Bk ks.length cb, .string ⟨t.toArray⟩];have hf0 := (Touch.refl (fun i => i = g ∨ i = go ∨ B ≤ i) w).alloc (.cells #[.string ⟨n.toArray⟩, .slice A ats.length ca, .slice Bk ks.length cb, .string ⟨t.toArray⟩] 25);have hff := (Touch.refl (fun _ => False) w).alloc (.cells #[.string ⟨n.toArray⟩, .slice A ats.length ca, .slice Bk ks.length cb, .string ⟨t.toArray⟩] 25);refine (enter_any s _ g _ hr0.blk hsb).mono ?_;rintro _ w2 ⟨rfl, ht2, hb2⟩;rw [HS1.out] at hb2;have HT2 := hid (show Touch (fun i => i = g ∨ i = go ∨ B ≤ i) w w2 from hf0.trans (ht2.mono fun i hi => .inl hi));have HRD2 := hid (hr0.turn ht2 hb2);have HBE2 := hid (ht2.blk hbe0 fun h => by omega);have HBO2 := hid (ht2.blk (hff.blk HBO0.out fun h => h) fun h => by omega);have HG2 := hid (show GrowN B w2 (ns0 ++ []) (.slice A0 n0 cap0) by rw [List.append_nil]; exact (HGR0.out.fresh hff).mv ht2 fun k hk _ => by omega);clear hf0 hr0 hbe0 hff ht2 hb2 c1 HRD hsb HS1 g2;go_wp2_with fail
  go_loopw [7] (fun i wr => ∃ (j : Nat) (Ae : Option Addr) (ce ne : Nat) (ns : List Nd) (sj : Rd), i = .int .i64 j ∧ j ≤ ks.length ∧ ne ≤ n0 + j ∧ Hid ((ns0 ++ ns).length = ne) ∧ Hid (Blk wr w.heap.size 25 #[.string ⟨n.toArray⟩, .slice A ats.length ca, .slice Bk ks.length cb, .string ⟨t.toArray⟩]) ∧
   Hid (Blk wr go 30 #[.int .i64 k, .string ⟨tx.toArray⟩, .int .i64 c, .slice Ae ne ce]) ∧ Hid (GrowN B wr (ns0 ++ ns) (.slice Ae ne ce)) ∧ Hid (Touch (fun i => i = g ∨ i = go ∨ B ≤ i) w wr) ∧ Hid (Rdr W0 g sj wr) ∧ Hid (sj.1 + El.countL (ks.drop j) ≤ 100000) ∧
   Hid (RF = (ns ++ (rRows nMtd (ks.drop j) sj).1, (rRows nMtd (ks.drop j) sj).2))) (fun i _ => ks.length - (intOf i).toNat)
  case atStart => exact ⟨0, A0, cap0, n0, [], s1, rfl, Nat.zero_le _, Nat.le_refl _, hid (by rw [List.append_nil]; exact HNL0.out), HBE2, HBO2, HG2, HT2, HRD2, HCN2, HEQ1⟩
  case round =>
   obtain ⟨j, Ae, ce, ne, ns, ⟨sa, sc⟩, rfl, hj, hne0, HNL, HBE, HBO, HG, HT, HRD, HCS, HEQ⟩ := hrel;rename_i wr _;have hsz := HT.out.size;have hgs := HRD.out.lt;obtain ⟨_, _, e2, _, _, _, _, _, hle⟩ := Blk.four HBE.out;obtain ⟨_, r1, _, _, _⟩ := Blk.two (x0 := .int .i64 (sa : Int)) (x1 := .int .i64 sc) HRD.out.blk
   by_cases c1 : j < ks.length ∧ sc < 0
   ·have d1 : decide ((j : Int) < (ks.length : Int)) = true := dT (by omega)
    have d1n : decide (j < ks.length) = true := dT c1.1;have d1' : (j : Int) < (ks.length : Int) := by omega
    have d2 : decide (sc < (0 : Int)) = true := dT c1.2;have HC2 := hid c1.2;obtain ⟨hjl, _⟩ := c1;obtain ⟨_, _, _, u3, _, _, _, _, hlo⟩ := Blk.four HBO.out;obtain ⟨gx, o, xa, xk, rfl, hek⟩ := HKE.out.elAt j hjl;have HEK := hid hek;have HMEM := hid (List.getElem_mem hjl);have HC := hid (HIH.out _ HMEM.out);have HPX := hid (HPK.out _ HMEM.out);have HDC := hid (El.countL_drop ks j hjl);have HDR := hid (List.drop_eq_getElem_cons hjl);have HNX := hid (El.next_row nMtd ks[j] (sa, sc));obtain ⟨hgx, x0, x1, x2, x3, hxr⟩ := hek.fresh HRD.out.fr;have hgxg : gx ≠ g := by have := hek.1; omega
    clear hek HMEM hxr hgx;generalize ks[j] = x at *;go_wp2_with fail
    have k0 := cT (S := fun k => k = g) e2 (by omega);have k3 := cT (S := fun k => k = g) u3 hgog;have y0 := cT (S := fun k => k = g) x0 hgxg;have y1 := cT (S := fun k => k = g) x1 hgxg;have y2 := cT (S := fun k => k = g) x2 hgxg;have y3 := cT (S := fun k => k = g) x3 hgxg;clear e2 u3 r1 x0 x1 x2 x3 d1 d1n d2
    refine wp_region_planC (fun W => ∃ x : Turned (fun k => k = g) wr, W = x.W) (Plan.of [(0, true), (1, true), (2, true), (3, true), (4, true), (5, true), (6, true), (7, true), (8, true), (9, true), (11, true)] (.fork 10 (.lone 12 .nil) 12 (.lone 10 .nil))) [0, 1, 2, 3, 4, 5, 6, 7, 8, 9, 10, 11, 12] 13 (Array.replicate 13 true ++ Array.replicate 6 false) (fun _ => True)
     (Plan.of [(14, true), (16, true), (17, true)] (.fork 15 (.lone 18 .nil) 18 (.lone 15 .nil))) [14, 15, 16, 17, 18] (Array.replicate 19 true) (by kernel_rfl) (fun _ _ d _ _ h => by cases d <;> exact h) (by kernel_rfl) ⟨⟨_, (Touch.refl _ _).drewN 1⟩, rfl⟩ ?_
    unfold Plan.of
    repeat (refine wpPlan_plain rfl (fun K hK => ?_); go_simp; refine hK _ ?_; clear hK K; first | done | unfold Plan.of)
    clear k0 k3 y0 y1 y2 y3;refine wpPlan_fork ?_ ?_
    focus
     refine wpPlan_lone rfl (fun K hK => ?_);go_wp2_with fail
     refine (HC.out nMtd (sa, sc) xa xk _ (by decide) HC2.out (by have := HCS.out; have := HDC.out; omega) HPX.out HEK.out.2.2.2.2.2 (HRD.out.fresh ((Touch.refl _ _).drewN 1))).mono ?_;rintro _ w6 ⟨v6, rfl, ⟨sl, rfl, ht6, htl6, hst6⟩, hrd6⟩;have HT6 := hid (show Touch (fun k => k = g) wr w6 from ((Touch.refl _ wr).drewN 1).trans ht6);have HST6 := hid (show Stab (fun k => k < wr.heap.size) w6 fun W => RepL W (rRow nMtd x (sa, sc)).1.kids sl from hst6);have HTL6 := hid htl6;have HRD6 := hid hrd6;obtain ⟨Ak, ck, rfl⟩ := hst6.now.slice;clear ht6 hst6 htl6 hrd6;go_wp2_with fail
     refine hK _ _ ⟨⟨_, HT6.out⟩, rfl⟩ ?_;clear hK K;refine wpPlan_lone rfl (fun K hK => ?_);go_wp2_with fail
     refine hK _ _ ⟨⟨_, HT6.out.alloc _⟩, rfl⟩ ?_;clear hK K;have HBV := hid (Blk.new w6 30 #[.int .i64 0, .string ⟨#[]⟩, .int .i64 0, .slice none 0 0]);have HTA := hid (HT6.out.alloc (.cells #[.int .i64 0, .string ⟨#[]⟩, .int .i64 0, .slice none 0 0] 30));have HRDA := hid (HRD6.out.fresh ((Touch.refl _ w6).alloc (.cells #[.int .i64 0, .string ⟨#[]⟩, .int .i64 0, .slice none 0 0] 30)));have HSTA := hid (HST6.out.fresh ((Touch.refl _ w6).alloc (.cells #[.int .i64 0, .string ⟨#[]⟩, .int .i64 0, .slice none 0 0] 30)));generalize (w6.alloc (.cells #[.int .i64 0, .string ⟨#[]⟩, .int .i64 0, .slice none 0 0] 30)) = wA at HBV HTA HRDA HSTA ⊢;obtain ⟨bz, hbz⟩ : ∃ b, b = w6.heap.size := ⟨_, rfl⟩;rw [← hbz] at HBV ⊢;clear hbz HT6 HST6 HRD6
    rotate_left
    focus
     refine wpPlan_lone rfl (fun K hK => ?_);go_wp2_with fail
     refine hK _ _ ⟨⟨_, ((Touch.refl _ wr).drewN 1).alloc _⟩, rfl⟩ ?_;clear hK K;have HBV6 := hid (show Blk ((wr.drewN 1).alloc (.cells #[.int .i64 0, .string ⟨#[]⟩, .int .i64 0, .slice none 0 0] 30)) wr.heap.size 30 #[.int .i64 0, .string ⟨#[]⟩, .int .i64 0, .slice none 0 0] from Blk.new (wr.drewN 1) 30 #[.int .i64 0, .string ⟨#[]⟩, .int .i64 0, .slice none 0 0]);have HF6 := hid (show Fresh wr ((wr.drewN 1).alloc (.cells #[.int .i64 0, .string ⟨#[]⟩, .int .i64 0, .slice none 0 0] 30)) from ((Touch.refl _ wr).drewN 1).alloc _);have HT6 := hid (show Touch (fun k => k = g) wr ((wr.drewN 1).alloc (.cells #[.int .i64 0, .string ⟨#[]⟩, .int .i64 0, .slice none 0 0] 30)) from ((Touch.refl _ wr).drewN 1).alloc _);generalize ((wr.drewN 1).alloc (.cells #[.int .i64 0, .string ⟨#[]⟩, .int .i64 0, .slice none 0 0] 30)) = w6 at HBV6 HF6 HT6 ⊢;obtain ⟨bz, hbz⟩ : ∃ b, b = wr.heap.size := ⟨_, rfl⟩;have HGZ := hid (show wr.heap.size ≠ g by omega);refine wpPlan_lone rfl (fun K hK => ?_);go_wp2_with fail
     refine (HC.out nMtd (sa, sc) xa xk _ (by decide) HC2.out (by have := HCS.out; have := HDC.out; omega) HPX.out HEK.out.2.2.2.2.2 (HRD.out.fresh HF6.out)).mono ?_;rintro _ wA ⟨v6, rfl, ⟨sl, rfl, ht6, htl6, hst6⟩, hrd6⟩;have HTA := hid (show Touch (fun k => k = g) wr wA from HT6.out.trans ht6);have HSTA := hid (show Stab (fun k => k < wr.heap.size) wA fun W => RepL W (rRow nMtd x (sa, sc)).1.kids sl from hst6.mono fun i _ hi => Nat.lt_of_lt_of_le hi HF6.out.size);have HTL6 := hid htl6;have HRDA := hid hrd6;obtain ⟨Ak, ck, rfl⟩ := hst6.now.slice;have HBV := hid (ht6.blk HBV6.out HGZ.out);clear ht6 hst6 htl6 hrd6;go_wp2_with fail
     refine hK _ _ ⟨⟨_, HTA.out⟩, rfl⟩ ?_;clear hK K;rw [← hbz] at HBV ⊢;clear hbz HT6 HBV6 HF6 HGZ
    all_goals
     have HEQ2 := hid (show RF = ((ns ++ [(rRow nMtd x (sa, sc)).1]) ++ (rRows nMtd (ks.drop (j + 1)) (rRow nMtd x (sa, sc)).2).1, (rRows nMtd (ks.drop (j + 1)) (rRow nMtd x (sa, sc)).2).2) by
      rw [HEQ.out, HDR.out, rRows, if_pos HC2.out, List.append_assoc]; rfl)
     have HCS2 := hid (show (rRow nMtd x (sa, sc)).2.1 + El.countL (ks.drop (j + 1)) ≤ 100000 by have := HCS.out; have := HDC.out; have := HNX.out; omega);clear HEQ HC HDR HNX HCS HDC;generalize rRow nMtd x (sa, sc) = R at *;obtain ⟨m, sb⟩ := R;simp only at *;have HGA := hid (HG.out.mv HTA.out fun k hk _ => by omega);have HOW := hid HG.out.own_lt;have HBEA := hid (HTA.out.blk HBE.out fun h => by omega);have HBOA := hid (HTA.out.blk HBO.out fun h => by omega);have HB5 := hid HG.out.1;have HAP := hid (HG.out.apart HBE.out (by decide));refine wpPlan_shut2 rfl (fun K hK => ?_)
     go_wp2_with (at_builtin; go_loud (refine wpList_append_zero rfl (.tmp 58) (.tmp 67) rfl HGA.out HNL.out (by simp [Act.eval]) m HBV.out (by simp [Act.eval]) wr.heap.size HB5.out (fun k hk => (HOW.out k hk).2) HTL6.out HSTA.out (by omega) ?_); intro A8 c8 w8 hg8 ht8 _; refine Stay.mk ?_)
     obtain ⟨g8, cap8, hv8, hcap8, hg8B, hg8l, a0, a1, a2, a3, f0, f1, f2, f3⟩ := hg8.cells HNL.out;cases hv8;have HBE8 := hid (ht8.blk HBEA.out fun h => HAP.out h);have hbo8 := ht8.blk HBOA.out fun h => by have := (HOW.out _ h).1; omega
     have HRD8 := hid (HRDA.out.move ht8 (fun h => by have := (HOW.out _ h).1; omega) fun k hk => by have := (HOW.out _ hk).1; omega);have HT8 := hid (show Touch (fun i => i = g ∨ i = go ∨ B ≤ i) w w8 from (HT.out.trans (HTA.out.mono fun i hi => .inl hi)).trans (ht8.mono fun i hi => .inr (.inr (HOW.out i hi).1)));have HST := hid (hg8.stores HNL.out hbo8 hgoB);obtain ⟨_, _, _, q3, _, _, _, z3, hlt8⟩ := Blk.four hbo8;have hne : go ≠ g8 := by omega
     have hne' : g8 ≠ go := by omega
     have hr1 : (ne : Int) < (ne : Int) + 1 := by omega
     have HAP8 := hid (hg8.apart HBE8.out (by decide));clear ht8 hbo8 hg8;refine Stay.go ?_;go_wp2_with fail
     refine hK _ _ trivial ?_;clear hK K
     repeat (refine wpPlan_plain rfl (fun K hK => ?_); go_simp; refine hK _ ?_; clear hK K)
     refine wpPlan_fork ?_ ?_
     focus
      refine wpPlan_lone rfl (fun K hK => ?_);go_wp2_with fail
      refine hK _ _ trivial ?_;clear hK K;refine wpPlan_lone rfl (fun K hK => ?_);go_wp2_with fail
      refine hK _ _ trivial ?_;clear hK K;have HT9 := hid (HST.out.1 _ rfl);unfold putAt4 at HT9;clear a0 a1 a2 a3 f0 f1 f2 f3 q3 z3 HST;generalize World.setCell _ ⟨go, 3, none⟩ _ = W9 at HT9 ⊢
     rotate_left
     focus
      refine wpPlan_lone rfl (fun K hK => ?_);go_wp2_with fail
      refine hK _ _ trivial ?_;clear hK K;refine wpPlan_lone rfl (fun K hK => ?_);go_wp2_with fail
      refine hK _ _ trivial ?_;clear hK K;have HT9 := hid (HST.out.2 _ rfl);unfold putAt4 at HT9;clear a0 a1 a2 a3 f0 f1 f2 f3 q3 z3 HST;generalize World.setCell _ ⟨g8, ne * 4 + 3, none⟩ _ = W9 at HT9 ⊢
     all_goals
      refine wpPlan_nil ?_;go_wp2_with fail
      obtain ⟨hb9, hg9, ht9⟩ := HT9.out
      exact ⟨⟨j + 1, some ⟨g8, 0, none⟩, c8, ne + 1, ns ++ [m], sb, by simp, by omega, by omega, hid (by rw [← List.append_assoc, List.length_append, HNL.out]; rfl), hid (ht9.blk HBE8.out fun h => h.elim (fun h => HAP8.out (by rw [h]; rfl)) fun h => by omega), hid hb9, hid (by rw [← List.append_assoc]; exact hg9), hid (HT8.out.trans (ht9.mono fun i hi => hi.elim (fun h => .inr (.inr (by omega))) fun h => .inr (.inl h))),
       hid (HRD8.out.move ht9 (by omega) fun i hi => by omega), HCS2, HEQ2⟩, by simp [intOf]; omega⟩
   ·have hend : rRows nMtd (ks.drop j) (sa, sc) = ([], (sa, sc)) := by
     by_cases c2 : j < ks.length
     ·exact El.rRows_stop _ _ _ fun h => c1 ⟨c2, h⟩
     ·rw [List.drop_of_length_le (by omega), rRows]
    have HFIN := hid (show RF = (ns, (sa, sc)) by rw [HEQ.out, hend, List.append_nil]);clear hend HEQ;clear hl2
    have hways2 : (decide ((j : Int) < (ks.length : Int)) = false ∧ decide (j < ks.length) = false) ∨ ((decide ((j : Int) < (ks.length : Int)) = true ∧ decide (j < ks.length) = true) ∧ decide (sc < (0 : Int)) = false) := by
     by_cases c2 : j < ks.length
     ·exact .inr ⟨⟨dT (by omega), dT c2⟩, dF fun h => c1 ⟨c2, h⟩⟩
     ·exact .inl ⟨dF (by omega), dF c2⟩
    rcases hways2 with ⟨d1, d1n⟩ | ⟨⟨d1, d1n⟩, d2⟩
    all_goals
     go_wp2_with fail
     refine bodyPost_end (v := .tuple #[]) (results_none rfl _ _ _) rfl ?_;refine ⟨rfl, Ae, ne, ce, HBO.out, ?_, ?_, ?_, HT.out⟩
     ·rw [HFIN.out]
      show ns0.length + ns.length = ne;rw [← List.length_append];exact HNL.out
     ·rw [HFIN.out]; exact HG.out
     ·rw [HFIN.out]; exact HRD.out
end Go.Proofs.YtfnjcldgicohaaaGreat
