/- Part 29 of 42 of a proof; its texts, joined: SnD, NqA. No condition. -/
import Derived.Test.YtncnoeoicaglaaaGreatVs28
import Derived.Test.YtncnoeoicaglaaaGreatVs7
import Derived.Test.YtncnoeoicaglaaaGreatVs4
import Derived.Test.YtncnoeoicaglaaaGreatVs6
import Derived.Test.YtncnoeoicaglaaaGreatVs12
import Derived.Test.YtncnoeoicaglaaaGreatVs21
set_option maxRecDepth 100000
set_option maxHeartbeats 2000000
namespace Go.Proofs.YtncnoeoicaglaaaGreat
open Go.RowKit
open Tr (Nd Clo runRow rowT itemsC spRow)
attribute [local go_sem] stillV stillUpon
abbrev Spn := List Nat × Nat × Nat
def Roomy (v : Value) (n : Nat) : Prop := ∃ A cap, v = .slice A n cap ∧ n ≤ cap ∧ cap ≤ maxLen
theorem Roomy.own {w : World} {B n k : Nat} {e : TypeId} {v : Value} {cs : List Value} (h : w.ownsRow B e k v n cs) : Roomy v n := by
 rcases h.2 with ⟨h1, h2⟩ | ⟨b, cap, cur, h1, _, _, h2, h3, _⟩
 ·exact ⟨none, 0, by rw [h1, h2], by omega, by decide⟩
 ·exact ⟨_, cap, h1, h2, h3⟩
structure PathR (g : Nat) (S : Nat → Prop) (w : World) (v : Value) (p : List Nat) : Prop where
 path : PathIn g S w v p
 room : Roomy v p.length
theorem PathR.mv {g : Nat} {S S' : Nat → Prop} {w w' : World} {v : Value} {p : List Nat} (h : PathR g S w v p) (m : Mv g S S' w w') : PathR g S' w' v p := ⟨h.path.mv m, h.room⟩
structure IntsR (w : World) (v : Value) (l : List Int) : Prop where
 ints : Ints w v l
 room : Roomy v l.length
theorem PathR.ints {g : Nat} {S : Nat → Prop} {w : World} {v : Value} {p : List Nat} (h : PathR g S w v p) : IntsR w v (up p) := ⟨h.path.ints, by rw [List.length_map]; exact h.room⟩
theorem IntsR.fresh {w w' : World} {v : Value} {l : List Int} (h : IntsR w v l) (hf : Fresh w w') : IntsR w' v l := ⟨h.ints.fresh hf, h.room⟩
def SpansAt (g : Nat) (S : Nat → Prop) (w : World) : List Spn → List Value → Prop
 | [], cs => cs = []
 | x :: xs, cs => ∃ pv ds, cs = pv :: .int .i64 (x.2.1 : Int) :: .int .i64 (x.2.2 : Int) :: ds ∧ PathR g S w pv x.1 ∧ SpansAt g S w xs ds
theorem SpansAt.mv {g : Nat} {S S' : Nat → Prop} {w w' : World} (m : Mv g S S' w w') : ∀ {s : List Spn} {cs : List Value}, SpansAt g S w s cs → SpansAt g S' w' s cs
 | [], _, h => h
 | _ :: _, _, ⟨pv, ds, h, hp, hd⟩ => ⟨pv, ds, h, hp.mv m, hd.mv m⟩
theorem SpansAt.snoc {g : Nat} {S : Nat → Prop} {w : World} {x : Spn} {pv : Value} (hp : PathR g S w pv x.1) : ∀ {s : List Spn} {cs : List Value}, SpansAt g S w s cs → SpansAt g S w (s ++ [x]) (cs ++ [pv, .int .i64 (x.2.1 : Int), .int .i64 (x.2.2 : Int)])
 | [], cs, h => by rw [show cs = [] from h]; exact ⟨pv, [], rfl, hp, rfl⟩
 | y :: s, cs, ⟨qv, ds, h, hq, hd⟩ => by
  subst h;exact ⟨qv, ds ++ _, rfl, hq, hd.snoc hp⟩
theorem SpansAt.length {g : Nat} {S : Nat → Prop} {w : World} : ∀ {s : List Spn} {cs : List Value}, SpansAt g S w s cs → cs.length = s.length * 3
 | [], cs, h => by rw [show cs = [] from h]; rfl
 | _ :: s, _, ⟨pv, ds, h, hp, hd⟩ => by
  have := hd.length;rw [h];simp only [List.length_cons];omega
theorem SpansAt.set {g : Nat} {S : Nat → Prop} {w : World} (pl : Nat) : ∀ {s : List Spn} {cs : List Value} (q : Nat), q < s.length → SpansAt g S w s cs → SpansAt g S w (s.modify q fun x => (x.1, x.2.1, pl)) (cs.set (q * 3 + 2) (.int .i64 (pl : Int)))
 | [], _, q, hq, _ => by simp at hq
 | x :: s, cs, q, hq, ⟨pv, ds, h, hp, hd⟩ => by
  subst h;cases q with
  | zero => exact ⟨pv, ds, rfl, hp, hd⟩
  | succ q =>
   refine ⟨pv, ds.set (q * 3 + 2) (.int .i64 (pl : Int)), ?_, hp, ?_⟩
   ·rw [show (q + 1) * 3 + 2 = (q * 3 + 2) + 1 + 1 + 1 by omega]; rfl
   ·exact hd.set pl q (by simpa using hq)
theorem PathR.one {g : Nat} {S : Nat → Prop} {w : World} {v : Value} {p : List Nat} (h : PathR g S w v p) : v.oneCell' = true := by
 obtain ⟨A, cap, rfl, _⟩ := h.room;rfl
theorem infoSpan : (Tryz.prog.info? 48).map (fun i => (i.zero, i.size, i.bytes)) = some (some (.agg #[.slice none 0 0, .int .i64 0, .int .i64 0]), 3, 40) := by kernel_rfl
structure ItemsSt (W0 : World) (B sb : Nat) (g tg : Nat) (s : List Spn) (S : Nat → Prop) (w : World) : Prop where
 row : ∃ v cs, Blk w sb 41 #[v] ∧ w.ownsRow B 48 3 v s.length cs ∧ SpansAt g S w s cs ∧ (∀ b, S b ↔ b = sb ∨ v.ownBlock = some b) ∧ ∀ b, v.ownBlock = some b → b ≠ g ∧ b ≠ tg
 lo : W0.heap.size ≤ sb ∧ sb < B ∧ W0.heap.size ≤ B
 hg : B ≤ g
 htg : B ≤ tg
 glt : g < w.heap.size
 tlt : tg < w.heap.size
theorem ItemsSt.touch {W0 : World} {B sb g tg : Nat} {s : List Spn} {S : Nat → Prop} {w w' : World} (h : ItemsSt W0 B sb g tg s S w) (ht : Touch (fun b => b = g) w w') : ItemsSt W0 B sb g tg s S w' := by
 obtain ⟨v, cs, h1, h2, h3, h4, h5⟩ := h.row;have := h.lo;have := h.hg;exact ⟨⟨v, cs, ht.blk h1 (fun e => by have : sb = g := e; omega), ownsRow_touch h2 ht (fun b hb => (h5 b hb).1), h3.mv ⟨ht.mono fun _ => .inr, fun _ h => .inl h⟩, h4, h5⟩, h.lo, h.hg, h.htg, Nat.lt_of_lt_of_le h.glt ht.size, Nat.lt_of_lt_of_le h.tlt ht.size⟩
theorem ItemsSt.slt {W0 : World} {B sb g tg : Nat} {s : List Spn} {S : Nat → Prop} {w : World} (h : ItemsSt W0 B sb g tg s S w) : ∀ b, S b → W0.heap.size ≤ b ∧ b < w.heap.size ∧ b ≠ g ∧ b ≠ tg := by
 obtain ⟨v, cs, h1, h2, h3, h4, h5⟩ := h.row;have l1 := h.lo;have l2 := h.hg;have l3 := h.htg;have l4 := h1.lt;intro b hb
 rcases (h4 b).1 hb with rfl | hb
 ·omega
 ·have := h2.lt b hb
  have := h5 b hb;omega
def DnI (sb g : Nat) (q : Nat) (S : Nat → Prop) (w : World) (d : Nat) (cd : Array Value) : Prop :=
 ∃ ib, d = 33 ∧ cd = #[.pointer (some ⟨sb, 0, none⟩), .pointer (some ⟨ib, 0, none⟩)] ∧ Blk w ib 3 #[.int .i64 (q : Int)] ∧ ¬ S ib ∧ ib ≠ g
theorem DnI.mv {sb g q : Nat} {S S' : Nat → Prop} {w w' : World} {d : Nat} {cd : Array Value} (h : DnI sb g q S w d cd) (m : Mv g S S' w w') : DnI sb g q S' w' d cd := by
 obtain ⟨ib, h1, h2, h3, h4, h5⟩ := h;obtain ⟨h6, h7⟩ := m.blk h3 h4 h5;exact ⟨ib, h1, h2, h6, h7, h5⟩
theorem noOff_any (v : Value) (pl : Nat) (w : World) : Calls Tryz.prog 35 (#[v, .int .i64 (pl : Int)] ++ #[]) w fun e w' => e = .returned (.tuple #[]) ∧ w' = w := by
 have e : (#[v, .int .i64 (pl : Int)] ++ #[] : Array Value) = #[v, .int .i64 (pl : Int)] := by simp
 rw [e];go_enter Tryz.func35, Tryz.ntmps35;go_wp2_with fail
 first | go_end0 | refine bodyPost_ret (v := .tuple #[]) (results_none rfl _ _ _) rfl ?_
 exact ⟨rfl, rfl⟩
theorem owns_slice {W : World} {B e size n : Nat} {v : Value} {xs : List Value} (h : W.ownsRow B e size v n xs) : ∃ A c, v = .slice A n c := by
 rcases h.2 with ⟨h1, h2⟩ | ⟨g, cap, cur, h1, _⟩
 ·exact ⟨none, 0, by rw [h1, h2]⟩
 ·exact ⟨_, _, h1⟩
theorem items1_any {W0 : World} {B sb g tg : Nat} {s : List Spn} {S : Nat → Prop} {w : World} (h : ItemsSt W0 B sb g tg s S w) {p : List Nat} {v : Value} (pl : Nat) (hp : PathIn g S w v p) (hpl : p.length ≤ 1000) (hlim : s.length + 1 ≤ 100000) :
  Calls Tryz.prog 31 (#[v, .int .i64 (pl : Int)] ++ #[.pointer (some ⟨sb, 0, none⟩)]) w
   fun e w' => ∃ d cd S', e = .returned (.func (.func d) #[] cd) ∧ ItemsSt W0 B sb g tg (s ++ [(p, pl, 0)]) S' w' ∧ Mc S S' w w' ∧ DnI sb g s.length S' w' d cd := by
 have e : (#[v, .int .i64 (pl : Int)] ++ #[.pointer (some ⟨sb, 0, none⟩)] : Array Value) = #[v, .int .i64 (pl : Int), .pointer (some ⟨sb, 0, none⟩)] := by simp
 rw [e];clear e;obtain ⟨i, hi, hz0, hz1, hz2⟩ := info_parts infoSpan;have hmf : ∀ (fn : Fn) (first cap : Array Value) (w : World), (Instr.makeFunc fn first cap).run Tryz.prog w = .ok (.func fn first cap) w := fun _ _ _ _ => rfl
 have HS := hid h;obtain ⟨rv, cs, hb, ho, hcs, hS, hne⟩ := h.row;obtain ⟨Ar, capr, rfl⟩ := owns_slice ho;obtain ⟨Ap, capp, rfl⟩ := hp.slice;have q0 : w.cell? ⟨sb, 0, none⟩ = some (.slice Ar s.length capr) := hb.cell 0;have hsbw := hb.lt;have HP := hid hp;have HPL := hid hpl;have HLIM := hid hlim;have HSD := hid hS;have HNE := hid hne;have HB := hid hb;have HO := hid ho;have HCS := hid hcs;clear h hp hpl hlim hS hne hb ho hcs;go_enter Tryz.func31, Tryz.ntmps31;go_wp2_with fail
 refine forget_world (fun W => Fresh w W ∧ Blk W w.heap.size 3 #[.int .i64 (s.length : Int)]) ⟨(Touch.refl _ _).alloc _, Blk.new _ _ _⟩ ?_;rintro W1 ⟨hf1, hbi⟩;have HF1 := hid hf1;have HBI := hid hbi;have hiw := hbi.lt;have q1 := hf1.cell q0 (fun h => h);have HP1 := hid (HP.out.mv (Mv.fresh hf1));have g1 := cR q1;clear q0 hf1 hbi;refine wp_region_mix [([(0, true), (1, true), (3, true), (2, false), (4, true), (5, false)], 6), ([], 7)] [] (by kernel_rfl) (fun _ _ d _ _ h => by cases d <;> exact h) (by kernel_rfl) ?_;refine wpMix_seg ?_
 repeat (refine wpSeq_plain rfl (fun K hK => ?_); go_simp; refine hK _ ?_; clear hK K)
 refine wpSeq_lone rfl (fun K hK => ?_);go_wp2_with fail
 refine (ints_any (up p) _ _ (HP1.out.ints.fresh (show Fresh W1 _ from (Touch.refl _ _).drewN _)) (by have := HPL.out; simp only [List.length_map]; omega)).mono ?_;rintro _ W2 ⟨v2, rfl, ho2, hf2⟩;have hS1 : ∀ b, S b → b < W1.heap.size := fun b hb => Nat.lt_of_lt_of_le (HS.out.slt b hb).2.1 HF1.out.size
 have HP2 := hid (show PathR g S W2 v2 p from ⟨PathIn.new (g := g) (S := S) (p := p) hS1 (Nat.lt_of_lt_of_le HS.out.glt HF1.out.size) ho2, by have := Roomy.own ho2; rw [List.length_map] at this; exact this⟩);obtain ⟨A2, cap2, rfl⟩ := HP2.out.path.slice;have HF2 := hid (show Fresh W1 W2 from Touch.ofN hf2);clear ho2 hf2;go_wp2_with fail
 refine hK _ _ (growing_fresh HF2.out) ?_;clear hK K
 repeat (refine wpSeq_plain rfl (fun K hK => ?_); go_simp; refine hK _ ?_; clear hK K)
 refine wpSeq_lone rfl (fun K hK => ?_);go_wp2_with fail
 refine hK _ _ (growing_fresh (HF2.out.alloc _)) ?_;clear hK K;have HB3 := hid (show Blk (W2.alloc (.cells #[.slice A2 p.length cap2, .int .i64 (pl : Int), .int .i64 0] 48)) W2.heap.size 48 #[.slice A2 p.length cap2, .int .i64 (pl : Int), .int .i64 0] from Blk.new _ _ _);have HF3 := hid (show Fresh W2 (W2.alloc (.cells #[.slice A2 p.length cap2, .int .i64 (pl : Int), .int .i64 0] 48)) from (Touch.refl _ _).alloc _);generalize (W2.alloc (.cells #[.slice A2 p.length cap2, .int .i64 (pl : Int), .int .i64 0] 48)) = W3 at *;have HO3 := hid (ownsRow_touch HO.out ((HF1.out.trans HF2.out).trans HF3.out) (fun _ _ h => h));refine wpSeq_shut rfl (fun K hK => ?_)
 go_wp2_with (at_builtin; refine wpList_append_src _ rfl (.tmp 9) (.tmp 14) 41 rfl B 48 i _ 3 40 rfl hi hz0 hz1 hz2 rfl (by decide) (.slice Ar s.length capr) s.length cs (by simp [Act.eval]) HO3.out (.slice (some ⟨W2.heap.size, 0, none⟩) 1 1) 1 [.slice A2 p.length cap2, .int .i64 (pl : Int), .int .i64 0] (by simp [Act.eval]) (Src.of_blk HB3.out rfl) (by intro u hu; simp at hu; rcases hu with rfl | rfl | rfl <;> rfl) (by have := HLIM.out; unfold maxLen; omega) (by have := HLIM.out; omega) (by have := HS.out.hg; have := HS.out.glt; have := ((HF1.out.trans HF2.out).trans HF3.out).size; omega) ?_; intro v4 W4 ho4 hg4 hv4; refine Stay.mk ?_)
 obtain ⟨A4, cap4, rfl⟩ := owns_slice ho4;have HF03 := hid ((HF1.out.trans HF2.out).trans HF3.out);have HT34 := hid (show Touch (fun k => (Value.slice Ar s.length capr).ownBlock = some k) W3 W4 from (Touch.refl _ _).grown hg4 fun g h => .inl h);have hsb : ¬ (Value.slice Ar s.length capr).ownBlock = some sb := fun e => by have := (HO3.out.lt sb e).1; have := HS.out.lo; omega
 have HB4 := hid (HT34.out.blk (HF03.out.blk HB.out (fun h => h)) hsb);have HTS := hid (show Touch S w W4 from ((HF03.out.mono (fun _ h => h.elim)).trans' HT34.out fun k hk => .inl ((HSD.out k).2 (.inr hk))));have q4 : W4.cell? ⟨sb, 0, none⟩ = some (.slice Ar s.length capr) := HB4.out.cell 0;have z4 : W4.frozen? ⟨sb, 0, none⟩ = false := HB4.out.frozen 0;have HO4 := hid ho4;have HV4 := hid hv4;clear ho4 hg4 hv4 q1 g1 hsb;refine Stay.go ?_;go_wp2_with fail
 refine wpMix_seg ?_;refine wpSeq_shut rfl (fun K hK => ?_);go_wp2_with fail
 refine wpMix_end ?_;go_wp2_with fail
 go_ret;have hl := HS.out.lo;have hs4 : S sb := (HSD.out sb).2 (.inl rfl);have HTF : Touch S w (W4.setCell ⟨sb, 0, none⟩ (.slice A4 (s.length + 1) cap4)) := HTS.out.setCell (p := ⟨sb, 0, none⟩) (.inl hs4) _
 have hgr : ∀ b, (b = sb ∨ (Value.slice A4 (s.length + 1) cap4).ownBlock = some b) → S b ∨ W3.heap.size ≤ b := by
  rintro b (rfl | hb)
  ·exact .inl hs4
  ·rcases HV4.out with e | e
   ·exact .inl ((HSD.out b).2 (.inr (by rw [← e]; exact hb)))
   ·rw [e] at hb
    exact .inr (by simp only [Option.some.injEq] at hb; omega)
 have ht3 : Touch S W3 (W4.setCell ⟨sb, 0, none⟩ (.slice A4 (s.length + 1) cap4)) := (HT34.out.mono fun k hk => (HSD.out k).2 (.inr hk)).setCell (p := ⟨sb, 0, none⟩) (.inl hs4) _;have hm3 : Mv g S (fun b => b = sb ∨ (Value.slice A4 (s.length + 1) cap4).ownBlock = some b) W3 (W4.setCell ⟨sb, 0, none⟩ (.slice A4 (s.length + 1) cap4)) := ⟨ht3.mono fun _ => .inl, hgr⟩;have h03 : Mv g S S w W3 := Mv.fresh HF03.out;have hszs : W3.heap.size ≤ (W4.setCell ⟨sb, 0, none⟩ (.slice A4 (s.length + 1) cap4)).heap.size := ht3.size;have hglt := HS.out.glt;have htlt := HS.out.tlt;have hws := HF03.out.size;refine ⟨_, _, fun b => b = sb ∨ (Value.slice A4 (s.length + 1) cap4).ownBlock = some b, rfl, ⟨⟨.slice A4 (s.length + 1) cap4, cs ++ [.slice A2 p.length cap2, .int .i64 (pl : Int), .int .i64 0], HB4.out.put 0 _, ?_, ?_, fun _ => Iff.rfl, ?_⟩, HS.out.lo, HS.out.hg, HS.out.htg, by omega, by omega⟩, ⟨HTF, fun b hb => (hgr b hb).imp id (fun h => by omega)⟩, ⟨w.heap.size, rfl, rfl, ?_⟩⟩
 ·rw [List.length_append]
  exact ownsRow_touch HO4.out ((Touch.refl (fun b => b = sb) W4).setCell (p := ⟨sb, 0, none⟩) (.inl rfl) _) fun k hk e => by
   have h1 := (HO4.out.lt k hk).1;have : k = sb := e;omega
 ·exact ((HCS.out.mv h03).mv hm3).snoc (x := (p, pl, 0)) ((HP2.out.mv (Mv.fresh HF3.out)).mv hm3)
 ·intro b hb
  rcases HV4.out with e | e
  ·exact HNE.out b (by rw [← e]; exact hb)
  ·rw [e] at hb
   simp only [Option.some.injEq] at hb;omega
 ·have hwS : ¬ S w.heap.size := fun e => by have := (HS.out.slt _ e).2.1; omega
  obtain ⟨b1, b2⟩ := Mv.blk ((Mv.fresh (HF2.out.trans HF3.out)).trans hm3) HBI.out hwS (by omega);exact ⟨b1, b2, by omega⟩
theorem items11_any {W0 : World} {B sb g tg : Nat} {s : List Spn} {S : Nat → Prop} {w : World} (h : ItemsSt W0 B sb g tg s S w) (q d : Nat) (cd : Array Value) (pl : Nat) (hd : DnI sb g q S w d cd) (hq : q < s.length) (_hlim : s.length ≤ 100000) :
  Calls Tryz.prog d (#[.int .i64 (pl : Int)] ++ cd) w
   fun e w' => e = .returned (.tuple #[]) ∧ ∃ S', ItemsSt W0 B sb g tg (s.modify q fun x => (x.1, x.2.1, pl)) S' w' ∧ Mc S S' w w' := by
 obtain ⟨ib, rfl, rfl, hbi, hib, hig⟩ := hd;have e : (#[.int .i64 (pl : Int)] ++ #[.pointer (some ⟨sb, 0, none⟩), .pointer (some ⟨ib, 0, none⟩)] : Array Value) = #[.int .i64 (pl : Int), .pointer (some ⟨sb, 0, none⟩), .pointer (some ⟨ib, 0, none⟩)] := by simp
 rw [e];clear e;have HS := hid h;obtain ⟨rv, cs, hb, ho, hcs, hS, hne⟩ := h.row
 obtain ⟨g', cap, hv, hBg⟩ : ∃ g' cap, rv = .slice (some ⟨g', 0, none⟩) s.length cap ∧ B ≤ g' := by
  rcases ho.2 with ⟨_, h2⟩ | ⟨g', cap, cur, h1, h2, _⟩
  ·omega
  ·exact ⟨g', cap, h1, h2⟩
 subst hv;have hlen := hcs.length;have HST := hid (ho.stored (q * 3 + 2) (.int .i64 (pl : Int)));have q0 : w.cell? ⟨sb, 0, none⟩ = some (.slice (some ⟨g', 0, none⟩) s.length cap) := hb.cell 0;have q1 : w.cell? ⟨ib, 0, none⟩ = some (.int .i64 (q : Int)) := hbi.cell 0;have z2 := ho.frozenAt (q * 3 + 2)
 have q2 : ∃ x, w.cell? ⟨g', q * 3 + 2, none⟩ = some x := by
  rw [ho.cellAt (q * 3 + 2) (by omega), List.getElem?_eq_getElem (by omega)];exact ⟨_, rfl⟩
 obtain ⟨x2, q2⟩ := q2;have hqi : (q : Int) < (s.length : Int) := by omega
 have HB := hid hb;have HCS := hid hcs;have HSD := hid hS;have HNE := hid hne;have HQ := hid hq;have hl := HS.out.lo;clear h hb ho hcs hS hne hbi hib hig;go_enter Tryz.func33, Tryz.ntmps33;go_wp2_with fail
 first | go_end0 | refine bodyPost_ret (v := .tuple #[]) (results_none rfl _ _ _) rfl ?_
 have ht : Touch S w (w.setCell ⟨g', q * 3 + 2, none⟩ (.int .i64 (pl : Int))) := (Touch.refl S w).setCell (p := ⟨g', q * 3 + 2, none⟩) (.inl ((HSD.out g').2 (.inr rfl))) _;have hm : Mv g S S w (w.setCell ⟨g', q * 3 + 2, none⟩ (.int .i64 (pl : Int))) := ⟨ht.mono fun _ => .inl, fun _ h => .inl h⟩;refine ⟨rfl, S, ⟨⟨.slice (some ⟨g', 0, none⟩) s.length cap, _, HB.out.far (p := ⟨g', q * 3 + 2, none⟩) (by show sb ≠ g'; omega) _, ?_, (HCS.out.mv hm).set pl q HQ.out, HSD.out, HNE.out⟩, HS.out.lo, HS.out.hg, HS.out.htg, Nat.lt_of_lt_of_le HS.out.glt ht.size, Nat.lt_of_lt_of_le HS.out.tlt ht.size⟩, ⟨ht, fun _ h => .inl h⟩⟩;rw [List.length_modify];exact HST.out.1
def itemsCls (W0 : World) (B sb : Nat) : Cls (List Spn) Nat :=
 ⟨itemsC, 31, #[.pointer (some ⟨sb, 0, none⟩)], 35, #[], ItemsSt W0 B sb, fun g _ => DnI sb g, fun s => s.length ≤ 100000, fun q s => q < s.length⟩
theorem itemsCls_good (W0 : World) (B sb : Nat) (n : Nd) (hc : Tr.count n ≤ 1000) (g tg : Nat) (tv : Value) (hg : W0.heap.size ≤ g) : ((itemsCls W0 B sb).wk W0 g tg tv (printT n)).Good where
 len := printT_len_le n hc
 place := printT_place n hc
 far := hg
 lt := fun s S w b h hb => (show ItemsSt W0 B sb g tg s S w from h).slt b hb
 stmv := fun s S w w' h ht => (show ItemsSt W0 B sb g tg s S w from h).touch ht
 dnmv := fun q S S' w w' d cd h m => (show DnI sb g q S w d cd from h).mv m
 off := fun s S w p v pl h _ _ _ _ => (noOff_any v pl w).mono fun e w' ⟨he, hw⟩ => by subst hw; exact ⟨he, S, h, Mc.refl _ _⟩
 item := fun s S w p v pl h hp hpl _ hl => items1_any h pl hp hpl (by
  have : (s ++ [(p, pl, 0)]).length ≤ 100000 := hl;simpa using this)
 done := fun s S w q d cd pl h hd hq _ hl => items11_any h q d cd pl hd hq (by
  have : (s.modify q fun x => (x.1, x.2.1, pl)).length ≤ 100000 := hl;simpa using this)
 kp0 := fun s p pl => by show s.length < (s ++ [(p, pl, 0)]).length; simp
 kpo := fun _ _ _ _ h => h
 kpi := fun q s p pl h => by
  have h' : q < s.length := h;show q < (s ++ [(p, pl, 0)]).length;simp; omega
 kpd := fun q s q' pl h => by
  have h' : q < s.length := h;show q < (s.modify q' fun x => (x.1, x.2.1, pl)).length;simpa using h'
 limo := fun _ _ _ h => h
 limi := fun s p pl h => by
  have h' : (s ++ [(p, pl, 0)]).length ≤ 100000 := h;show s.length ≤ 100000;simp at h'; omega
 limd := fun s q pl h => by
  have h' : (s.modify q fun x => (x.1, x.2.1, pl)).length ≤ 100000 := h;show s.length ≤ 100000;simpa using h'
 callo := fun _ _ => by kernel_rfl
 calli := fun _ _ => by kernel_rfl
 calld := fun q S w d cd hd => by
  obtain ⟨ib, rfl, rfl, _⟩ := hd;exact fun _ _ => by kernel_rfl
def spansOf (n : Nd) : List Spn := if Tr.valid n then spRow (printT n) n.kids [] 0 0 else []
def SpnAt (w : World) : List Spn → List Value → Prop
 | [], cs => cs = []
 | x :: xs, cs => ∃ pv ds, cs = pv :: .int .i64 (x.2.1 : Int) :: .int .i64 (x.2.2 : Int) :: ds ∧ IntsR w pv (up x.1) ∧ SpnAt w xs ds
theorem SpansAt.spn {g : Nat} {S : Nat → Prop} {w : World} : ∀ {s : List Spn} {cs : List Value}, SpansAt g S w s cs → SpnAt w s cs
 | [], _, h => h
 | _ :: _, _, ⟨pv, ds, h, hp, hd⟩ => ⟨pv, ds, h, hp.ints, hd.spn⟩
theorem SpnAt.fresh {w w' : World} (hf : Fresh w w') : ∀ {s : List Spn} {cs : List Value}, SpnAt w s cs → SpnAt w' s cs
 | [], _, h => h
 | _ :: _, _, ⟨pv, ds, h, hp, hd⟩ => ⟨pv, ds, h, hp.fresh hf, hd.fresh hf⟩
theorem SpnAt.get {w : World} : ∀ {s : List Spn} {cs : List Value}, SpnAt w s cs → ∀ i (hi : i < s.length), ∃ pv, cs[i * 3]? = some pv ∧ cs[i * 3 + 1]? = some (.int .i64 (s[i].2.1 : Int)) ∧ cs[i * 3 + 2]? = some (.int .i64 (s[i].2.2 : Int)) ∧ IntsR w pv (up s[i].1)
 | [], _, _, i, hi => by simp at hi
 | x :: s, cs, ⟨pv, ds, h, hp, hd⟩, i, hi => by
  subst h;cases i with
  | zero => exact ⟨pv, rfl, rfl, rfl, hp⟩
  | succ i =>
   obtain ⟨qv, h1, h2, h3, h4⟩ := hd.get i (by simpa using hi);refine ⟨qv, ?_, ?_, ?_, h4⟩
   ·rw [show (i + 1) * 3 = i * 3 + 3 by omega]; exact h1
   ·rw [show (i + 1) * 3 + 1 = i * 3 + 1 + 3 by omega]; exact h2
   ·rw [show (i + 1) * 3 + 2 = i * 3 + 2 + 3 by omega]; exact h3
def ItemsOf (n : Nd) (w : World) (e : Ending) (w' : World) : Prop := ∃ v cs, e = .returned (.tuple #[v, .int .i64 (printE n)]) ∧ w'.ownsRow w.heap.size 48 3 v (spansOf n).length cs ∧ SpnAt w' (spansOf n) cs ∧ Fresh w w'
theorem sp_count (T : List Lx.PTok) : (∀ ks p i f, (spRow T ks p i f).length ≤ Tr.countL ks) ∧ ∀ l p j f, (Tr.spSegs T l p j f).length ≤ Tr.countL (Tr.rowsOf l) := by
 refine Tr.rows_ind (P := fun ks => ∀ p i f, (spRow T ks p i f).length ≤ Tr.countL ks) (Q := fun l => ∀ p j f, (Tr.spSegs T l p j f).length ≤ Tr.countL (Tr.rowsOf l)) ?_ ?_ ?_ ?_
 ·intro p i f; rw [spRow]; simp
 ·intro n ns h1 h2 p i f
  rw [spRow, Tr.countL, Tr.count_kids];have h3 := h1 (p ++ [i]) 0 f;have h4 := h2 p (i + 1) (f + (Tr.itemT n).length);rw [Tr.segs_rows] at h3;simp only [List.length_cons, List.length_append];omega
 ·intro p j f; rw [Tr.spSegs]; simp
 ·intro k b a r h1 h2 p j f
  rw [Tr.spSegs, List.length_append];have h3 := h1 (p ++ [j]) 0 (f + k + b.toNat);have h4 := h2 p (j + 1) (f + Tr.segLen (k, b, a));have h5 : Tr.rowsOf ((k, b, a) :: r) = a :: Tr.rowsOf r := rfl;rw [h5, Tr.countL, Tr.count_kids];omega
theorem spans_few (n : Nd) (hc : Tr.count n ≤ 1000) : (spansOf n).length ≤ 1000 := by
 unfold spansOf;split
 ·have h1 := (sp_count (printT n)).1 n.kids [] 0 0
  have h2 := Tr.count_kids n;omega
 ·simp
theorem items_any (n : Nd) (sl : Value) (w : World) (hsl : RepL w n.kids sl) (ht : n.text.length ≤ maxLen) (hc : Tr.count n ≤ 1000) :
  Calls Tryz.prog 13 #[nv n sl] w (ItemsOf n w) := by
 obtain ⟨A, cap, rfl⟩ := hsl.slice;have HSL := hid hsl;have HC := hid hc;clear hsl hc;have hmf : ∀ (fn : Fn) (first cap : Array Value) (w : World), (Instr.makeFunc fn first cap).run Tryz.prog w = .ok (.func fn first cap) w := fun _ _ _ _ => rfl
 cases hv : Tr.valid n with
 | false =>
  have HE := hid (show printE n = 1 from by unfold printE; rw [hv]; rfl);have HN := hid (show spansOf n = [] from by unfold spansOf; rw [hv]; rfl);have HV := hid hv;clear hv;go_enter Tryz.func13, Tryz.ntmps13;go_wp2_with fail
  refine (walk_err n _ 31 35 _ #[] _ (HSL.out.fresh (((Touch.refl _ _).alloc _).alloc _)) ht HC.out HV.out).mono ?_;rintro _ w2 ⟨rfl, hf⟩;have HF2 := hid (show Fresh w w2 from Touch.pre (Touch.pre hf));clear hf;go_wp2_with fail
  go_ret2;exact ⟨.slice none 0 0, [], by rw [HE.out]; rfl, by rw [HN.out]; exact World.ownsRow_nil _ _ _ _, by rw [HN.out]; rfl, HF2.out⟩
 | true =>
  have HE := hid (show printE n = 0 from by unfold printE; rw [hv]; rfl);have HN := hid (show spansOf n = spRow (printT n) n.kids [] 0 0 from by unfold spansOf; rw [hv]; rfl);have HFEW := hid (spans_few n HC.out);have HV := hid hv;clear hv;go_enter Tryz.func13, Tryz.ntmps13;go_wp2_with fail
  have hf1 : Fresh w ((w.alloc (.cells #[.int .i64 n.kind, .string ⟨n.text.toArray⟩, .int .i64 n.cols, .slice A n.kids.length cap] 26)).alloc (.cells #[.slice none 0 0] 41)) := ((Touch.refl _ _).alloc _).alloc _;have hb1 : Blk ((w.alloc (.cells #[.int .i64 n.kind, .string ⟨n.text.toArray⟩, .int .i64 n.cols, .slice A n.kids.length cap] 26)).alloc (.cells #[.slice none 0 0] 41)) (w.heap.size + 1) 41 #[.slice none 0 0] := Blk.new2 _ _ _ _;generalize ((w.alloc (.cells #[.int .i64 n.kind, .string ⟨n.text.toArray⟩, .int .i64 n.cols, .slice A n.kids.length cap] 26)).alloc (.cells #[.slice none 0 0] 41)) = W1 at hf1 hb1 ⊢;have HF1 := hid hf1
  have HIS := hid (fun (g tg : Nat) (w' : World) (h1 : W1.heap.size ≤ g) (h2 : W1.heap.size ≤ tg) (h3 : g < w'.heap.size) (h4 : tg < w'.heap.size) (hf : Fresh W1 w') => (show ItemsSt w W1.heap.size (w.heap.size + 1) g tg [] (fun b => b = w.heap.size + 1) w' from
   ⟨⟨_, [], hf.blk hb1 (fun h => h), World.ownsRow_nil _ _ _ _, rfl, fun b => ⟨.inl, fun h => h.elim id fun h => by cases h⟩, fun b h => by cases h⟩, by have := hb1.lt; refine ⟨?_, ?_, ?_⟩ <;> omega, h1, h2, h3, h4⟩))
  clear hf1 hb1
  refine (walk_ok (itemsCls w W1.heap.size (w.heap.size + 1)) w n _ W1 [] _ HV.out HC.out ht ((Low.fresh (Touch.refl _ _) HF1.out)) HSL.out (fun g tg tv hg => itemsCls_good _ _ _ n HC.out g tg tv hg) (fun g tg w' h1 h2 h3 h4 hf => HIS.out g tg w' h1 h2 h3 h4 hf)
   (by show (runRow itemsC (printT n) n.kids [] 0 0 []).length ≤ 100000; rw [(Tr.items_run (printT n)).1, List.nil_append, ← HN.out]; have := HFEW.out; omega)).mono ?_
  rintro _ w2 ⟨rfl, g, tg, S2, hg, hst, hlow, hmv⟩;have hst' : ItemsSt w W1.heap.size (w.heap.size + 1) g tg (runRow itemsC (printT n) n.kids [] 0 0 []) S2 w2 := hst;rw [(Tr.items_run (printT n)).1, List.nil_append, ← HN.out] at hst';have HF2 := hid (low_fresh hlow);obtain ⟨v, cs, hb, ho, hcs, _, _⟩ := hst'.row;have HO := hid (ownsRow_low ho (show w.heap.size ≤ W1.heap.size from HF1.out.size));have HCS := hid hcs.spn;obtain ⟨Av, capv, rfl⟩ := owns_slice ho;have q0 : w2.cell? ⟨w.heap.size + 1, 0, none⟩ = some (.slice Av (spansOf n).length capv) := hb.cell 0;clear hst hst' hlow hmv hb ho hcs;go_wp2_with fail
  go_ret2;exact ⟨_, cs, by rw [HE.out]; rfl, HO.out, HCS.out, HF2.out⟩
end Go.Proofs.YtncnoeoicaglaaaGreat
namespace Go.Proofs.YtncnoeoicaglaaaGreat
open Go.RowKit
open Tr (Nd)
open Lx (PTok)
def PT (g B : Nat) (w : World) (b : Nat) : Prop := b = g ∨ (B ≤ b ∧ ∃ cs fr, w.heap[b]? = some (.cells cs 3 fr))
abbrev Mp (g B : Nat) (w w' : World) : Prop := Touch (PT g B w) w w'
theorem Mp.trans {g B : Nat} {a b c : World} (h : Mp g B a b) (k : Mp g B b c) : Mp g B a c := by
 refine ⟨k.os.trans h.os, k.tape.trans h.tape, k.output.trans h.output, Nat.le_trans h.size k.size, fun i hi hn => ?_⟩;have h1 := h.block i hi hn;refine (k.block i (Nat.lt_of_lt_of_le hi h.size) fun hs => hn ?_).trans h1
 rcases hs with hs | ⟨h2, cs, fr, h3⟩
 ·exact .inl hs
 ·exact .inr ⟨h2, cs, fr, by rw [← h1]; exact h3⟩
theorem Mp.fresh {g B : Nat} {a b : World} (h : Fresh a b) : Mp g B a b := h.mono fun _ h => h.elim
theorem Mp.blk {g B : Nat} {a b : World} {k : Nat} {t : TypeId} {cs : Array Value} (h : Mp g B a b) (hb : Blk a k t cs) (hk : k ≠ g) (ht : t ≠ 3) : Blk b k t cs := by
 refine Touch.blk h hb ?_;rintro (e | ⟨_, cur, fr, h3⟩)
 ·exact hk e
 ·unfold Blk at hb
  rw [hb] at h3;cases h3;exact ht rfl
theorem Mp.put {g B : Nat} (w : World) (i : Nat) (v : Value) : Mp g B w (w.setCell ⟨g, i, none⟩ v) := (Touch.refl _ _).setCell (.inl (.inl rfl)) v
theorem Mp.grown {g B : Nat} {a b c : World} {n : Nat} {v : Value} {xs : List Value} (h : Mp g B a b) (ho : b.ownsRow B 3 1 v n xs) (hg : b.grownBy c v.ownBlock) : Mp g B a c :=
 Mp.trans h (Touch.grown (S := PT g B b) (Touch.refl _ b) hg fun k hk => .inl (by
  obtain ⟨h1, cur, h2⟩ := owns_type ho hk;exact .inr ⟨h1, cur, _, h2⟩))
inductive TreT (B : Nat) (W : World) : List Nd → Value → Prop
 | nil (A : Option Addr) (cap : Nat) : TreT B W [] (.slice A 0 cap)
 | row (g cap : Nat) (ks : List Nd) (sl : Nat → Value) (hB : B ≤ g) (hg : ∃ cs fr, W.heap[g]? = some (.cells cs 26 fr)) (hl : ks.length ≤ maxLen)
   (ht : ∀ i (hi : i < ks.length), ks[i].text.length ≤ maxLen)
   (h0 : ∀ i (hi : i < ks.length), W.cell? ⟨g, i * 4, none⟩ = some (.int .i64 ks[i].kind))
   (h1 : ∀ i (hi : i < ks.length), W.cell? ⟨g, i * 4 + 1, none⟩ = some (.string ⟨ks[i].text.toArray⟩))
   (h2 : ∀ i (hi : i < ks.length), W.cell? ⟨g, i * 4 + 2, none⟩ = some (.int .i64 ks[i].cols))
   (h3 : ∀ i (_hi : i < ks.length), W.cell? ⟨g, i * 4 + 3, none⟩ = some (sl i))
   (hk : ∀ i (hi : i < ks.length), TreT B W ks[i].kids (sl i)) : TreT B W ks (.slice (some ⟨g, 0, none⟩) ks.length cap)
theorem TreT.slice {B : Nat} {W : World} {ks : List Nd} {v : Value} (h : TreT B W ks v) : ∃ A cap, v = .slice A ks.length cap := by
 cases h with
 | nil A cap => exact ⟨A, cap, rfl⟩
 | row g cap _ sl => exact ⟨_, _, rfl⟩
theorem TreT.len {B : Nat} {W : World} {ks : List Nd} {v : Value} (h : TreT B W ks v) : ks.length ≤ maxLen := by
 cases h with
 | nil A cap => exact Nat.zero_le _
 | row g cap _ sl hB hg hl => exact hl
theorem TreT.mv {B : Nat} {W W' : World} {S : Nat → Prop} {ks : List Nd} {v : Value} (h : TreT B W ks v) (ht : Touch S W W') (hS : ∀ k cs fr, S k → B ≤ k → W.heap[k]? ≠ some (.cells cs 26 fr)) : TreT B W' ks v := by
 induction h with
 | nil A cap => exact .nil A cap
 | row g cap ks sl hB hg hl hx h0 h1 h2 h3 hk ih =>
  obtain ⟨cs, fr, hg⟩ := hg;have hn : ¬ S g := fun hs => hS g cs fr hs hB hg
  exact .row g cap ks sl hB ⟨cs, fr, (ht.block g (Array.getElem?_eq_some_iff.1 hg).1 hn).trans hg⟩ hl hx (fun i hi => ht.cell (h0 i hi) hn) (fun i hi => ht.cell (h1 i hi) hn) (fun i hi => ht.cell (h2 i hi) hn) (fun i hi => ht.cell (h3 i hi) hn) ih
theorem TreT.base {B B' : Nat} {W : World} {ks : List Nd} {v : Value} (h : TreT B W ks v) (hb : B' ≤ B) : TreT B' W ks v := by
 induction h with
 | nil A cap => exact .nil A cap
 | row g cap ks sl hB hg hl hx h0 h1 h2 h3 hk ih => exact .row g cap ks sl (Nat.le_trans hb hB) hg hl hx h0 h1 h2 h3 ih
theorem TreT.fresh {B : Nat} {W W' : World} {ks : List Nd} {v : Value} (h : TreT B W ks v) (hf : Fresh W W') : TreT B W' ks v := h.mv hf fun _ _ _ h _ => h.elim
theorem TreT.rep {B : Nat} {W : World} {ks : List Nd} {v : Value} (h : TreT B W ks v) : RepL W ks v := by
 induction h with
 | nil A cap => exact .nil A cap
 | row g cap ks sl hB hg hl hx h0 h1 h2 h3 hk ih =>
  obtain ⟨cs, fr, hg⟩ := hg;exact RepL.row g 0 cap ks sl (Array.getElem?_eq_some_iff.1 hg).1 hl hx (by simpa using h0) (by simpa using h1) (by simpa using h2) (by simpa using h3) ih
def NodesT (B : Nat) (W : World) : List Nd → List Value → Prop
 | [], cs => cs = []
 | n :: ks, cs => ∃ sl ds, cs = .int .i64 n.kind :: .string ⟨n.text.toArray⟩ :: .int .i64 n.cols :: sl :: ds ∧ (TreT B W n.kids sl ∧ n.text.length ≤ maxLen) ∧ NodesT B W ks ds
theorem NodesT.length {B : Nat} {W : World} : ∀ {ks : List Nd} {cs : List Value}, NodesT B W ks cs → cs.length = ks.length * 4
 | [], _, h => by rw [show _ = [] from h]; rfl
 | _ :: _, _, ⟨_, _, h, _, hd⟩ => by subst h; simp [hd.length]; omega
theorem NodesT.mv {B : Nat} {W W' : World} {S : Nat → Prop} (ht : Touch S W W') (hS : ∀ k cs fr, S k → B ≤ k → W.heap[k]? ≠ some (.cells cs 26 fr)) : ∀ {ks : List Nd} {cs : List Value}, NodesT B W ks cs → NodesT B W' ks cs
 | [], _, h => h
 | _ :: _, _, ⟨sl, ds, h, h1, hd⟩ => ⟨sl, ds, h, ⟨h1.1.mv ht hS, h1.2⟩, hd.mv ht hS⟩
theorem NodesT.base {B B' : Nat} {W : World} (hb : B' ≤ B) : ∀ {ks : List Nd} {cs : List Value}, NodesT B W ks cs → NodesT B' W ks cs
 | [], _, h => h
 | _ :: _, _, ⟨sl, ds, h, h1, hd⟩ => ⟨sl, ds, h, ⟨h1.1.base hb, h1.2⟩, hd.base hb⟩
theorem NodesT.fresh {B : Nat} {W W' : World} (hf : Fresh W W') {ks : List Nd} {cs : List Value} (h : NodesT B W ks cs) : NodesT B W' ks cs := h.mv hf fun _ _ _ h _ => h.elim
theorem NodesT.append {B : Nat} {W : World} : ∀ {ks ms : List Nd} {cs ds : List Value}, NodesT B W ks cs → NodesT B W ms ds → NodesT B W (ks ++ ms) (cs ++ ds)
 | [], _, _, _, h, hm => by rw [show _ = [] from h]; exact hm
 | _ :: _, _, _, _, ⟨sl, es, h, h1, hd⟩, hm => by subst h; exact ⟨sl, es ++ _, by simp, h1, hd.append hm⟩
theorem NodesT.get {B : Nat} {W : World} : ∀ {ks : List Nd} {cs : List Value}, NodesT B W ks cs → ∀ i (hi : i < ks.length), ∃ sl, cs[i * 4]? = some (.int .i64 ks[i].kind) ∧ cs[i * 4 + 1]? = some (.string ⟨ks[i].text.toArray⟩) ∧ cs[i * 4 + 2]? = some (.int .i64 ks[i].cols) ∧ cs[i * 4 + 3]? = some sl ∧
  TreT B W ks[i].kids sl ∧ ks[i].text.length ≤ maxLen
 | [], _, _, i, hi => by simp at hi
 | n :: ks, _, ⟨sl, ds, h, h1, hd⟩, i, hi => by
  subst h;cases i with
  | zero => exact ⟨sl, rfl, rfl, rfl, rfl, h1.1, h1.2⟩
  | succ i =>
   obtain ⟨sl', e0, e1, e2, e3, e4, e5⟩ := hd.get i (by simpa using hi)
   have hx : ∀ j, (.int .i64 n.kind :: .string ⟨n.text.toArray⟩ :: .int .i64 n.cols :: sl :: ds : List Value)[(i + 1) * 4 + j]? = ds[i * 4 + j]? := fun j => by
    rw [show (i + 1) * 4 + j = (i * 4 + j) + 4 by omega];rfl
   exact ⟨sl', (hx 0).trans e0, (hx 1).trans e1, (hx 2).trans e2, (hx 3).trans e3, e4, e5⟩
theorem NodesT.own {B B' : Nat} {W : World} {ks : List Nd} {cs : List Value} {v : Value} (h : NodesT B W ks cs) (hBB : B ≤ B') (ho : W.ownsRow B' 26 4 v ks.length cs) : TreT B W ks v := by
 rcases ho.2 with ⟨h1, h2⟩ | ⟨g, cap, cur, h1, hB', hg, h2, h3, _⟩
 ·rw [List.length_eq_zero_iff] at h2
  subst h2;rw [h1];exact .nil _ _
 ·have hc : ∀ j u, cs[j]? = some u → W.cell? ⟨g, j, none⟩ = some u := fun j u hu => by
   have := ho.cells (g := g) (by rw [h1]; rfl) j u hu
   rwa [Addr.add_mid, Nat.zero_add] at this
  have hsl : ∀ i, ∃ sl, ∀ (hi : i < ks.length), cs[i * 4 + 3]? = some sl ∧ TreT B W ks[i].kids sl := fun i => by
   by_cases hi : i < ks.length
   ·obtain ⟨sl, _, _, _, e3, e4, _⟩ := h.get i hi
    exact ⟨sl, fun _ => ⟨e3, e4⟩⟩
   ·exact ⟨.bool false, fun h => absurd h hi⟩
  rw [h1];refine .row g cap ks (fun i => Classical.choose (hsl i)) (Nat.le_trans hBB hB') ⟨_, _, hg⟩ (Nat.le_trans h2 h3) (fun i hi => (h.get i hi).elim fun _ e => e.2.2.2.2.2) (fun i hi => ?_) (fun i hi => ?_) (fun i hi => ?_) (fun i hi => hc _ _ (Classical.choose_spec (hsl i) hi).1) (fun i hi => (Classical.choose_spec (hsl i) hi).2)
  ·obtain ⟨_, e0, _⟩ := h.get i hi; exact hc _ _ e0
  ·obtain ⟨_, _, e1, _⟩ := h.get i hi; exact hc _ _ e1
  ·obtain ⟨_, _, _, e2, _⟩ := h.get i hi; exact hc _ _ e2
theorem TreT.src {B : Nat} {W : World} {ks : List Nd} {v : Value} (h : TreT B W ks v) : ∃ cs, NodesT B W ks cs ∧ Src W 4 v ks.length cs := by
 cases h with
 | nil A cap => 
  refine ⟨[], rfl, A, cap, rfl, rfl, ?_⟩;cases A with
  | none => exact .inl ⟨rfl, rfl, rfl⟩
  | some a => exact .inr ⟨a, rfl, fun j u hu => by simp at hu⟩
 | row g cap _ sl hB hg hl hx h0 h1 h2 h3 hk =>
  have : ∀ (l : List Nd) (o : Nat), (∀ i (hi : i < l.length), ∃ hq : o + i < ks.length, l[i] = ks[o + i]) → ∃ cs, NodesT B W l cs ∧ ∀ j u, cs[j]? = some u → W.cell? ⟨g, o * 4 + j, none⟩ = some u := by
   intro l
   induction l with
   | nil => intro o _; exact ⟨[], rfl, fun j u hu => by simp at hu⟩
   | cons n l ih =>
    intro o hl
    obtain ⟨ds, d1, d2⟩ := ih (o + 1) fun i hi => by
     obtain ⟨hq, e⟩ := hl (i + 1) (by simpa using hi);refine ⟨by omega, ?_⟩;have e' : l[i] = ks[o + (i + 1)] := by simpa using e
     rw [e']
     congr 1
     omega
    obtain ⟨hq, e⟩ := hl 0 (by simp);simp only [List.getElem_cons_zero, Nat.add_zero] at e hq;refine ⟨.int .i64 n.kind :: .string ⟨n.text.toArray⟩ :: .int .i64 n.cols :: sl o :: ds, ⟨sl o, ds, rfl, ⟨by rw [e]; exact hk o hq, by rw [e]; exact hx o hq⟩, d1⟩, fun j u hu => ?_⟩
    match j, hu with
    | 0, hu => cases hu; rw [e]; exact h0 o hq
    | 1, hu => cases hu; rw [e]; exact h1 o hq
    | 2, hu => cases hu; rw [e]; exact h2 o hq
    | 3, hu => cases hu; exact h3 o hq
    | j + 4, hu =>
     have := d2 j u hu;rw [show o * 4 + (j + 4) = (o + 1) * 4 + j by omega];exact this
  obtain ⟨cs, d1, d2⟩ := this ks 0 fun i hi => ⟨by simpa using hi, by simp⟩
  refine ⟨cs, d1, _, cap, rfl, d1.length, .inr ⟨_, rfl, fun j u hu => ?_⟩⟩;rw [Addr.add_mid, Nat.zero_add];simpa using d2 j u hu
end Go.Proofs.YtncnoeoicaglaaaGreat
