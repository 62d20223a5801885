/- Part 21 of 35 of a proof; its texts, joined: XpL, XpN, PrZ, GnA, MnP. No condition. -/
import Derived.Test.YtnbeemkfmlfgfaaGreatDoorYa20
import Derived.Defers
import Derived.Recover
import Derived.Test.YtnbeemkfmlfgfaaGreatDoorYa5
import Derived.Test.YtnbeemkfmlfgfaaGreatDoorYa3
import Derived.Test.YtnbeemkfmlfgfaaGreatDoorYa6
import Derived.Test.YtnbeemkfmlfgfaaGreatDoorYa13
import Derived.Test.YtnbeemkfmlfgfaaGreatDoorYa12
set_option maxRecDepth 100000
set_option maxHeartbeats 4000000
namespace Go.Proofs.YtnbeemkfmlfgfaaGreatDoor
open Go.RowKit
open Xp (Rs Sfx white expectR elementR documentR parseX nilE)
open El (E Attrs)
def docK : Rs E → Rs E
 | .bad l2 => .bad l2
 | .ok e l2 c2 => match l2.dropWhile white with
  | [] => .ok e [] c2
  | b :: l3 => .bad (b :: l3)
theorem doc_bad {l l1 : List UInt8} (h : expectR 60 0 (l.dropWhile white) = .bad l1) : documentR l = .bad l1 := by unfold documentR; rw [h]
theorem doc_ok {l l1 : List UInt8} {u : Unit} {c : Nat} (h : expectR 60 0 (l.dropWhile white) = .ok u l1 c) : documentR l = docK (elementR 64 l1 0) := by
 unfold documentR;rw [h]
 dsimp only
 cases elementR 64 l1 0 with
 | bad l2 => rfl
 | ok e l2 c2 => rfl
theorem docK_nil {e : E} {l2 : List UInt8} {c2 : Nat} (h : l2.dropWhile white = []) : docK (.ok e l2 c2) = .ok e [] c2 := by unfold docK; simp only [h]
theorem docK_more {e : E} {l2 l3 : List UInt8} {b : UInt8} {c2 : Nat} (h : l2.dropWhile white = b :: l3) : docK (.ok e l2 c2) = .bad (b :: l3) := by unfold docK; simp only [h]
attribute [local go_sem] stillV stillUpon
theorem xdoc_any (S : ByteArray) (g : Nat) (l : List UInt8) (w : World) (hS : S.size ≤ 1099511627776) (hX0 : Xr S g l 0 w) : Calls Tryz.prog 61 #[.pointer (some ⟨g, 0, none⟩)] w fun e w' => XE S g w (documentR l) e w' := by
 have HX := hid hX0;have HGL := hid hX0.lt;have HEL := hid (xelem_any S g hS 64 (Nat.le_refl _));clear hX0;have HF0 := hid ((Touch.refl (fun _ => False) w).alloc (.cells #[.string ⟨#[]⟩, .slice none 0 0, .slice none 0 0, .string ⟨#[]⟩] 45));have HR0 := hid (Blk.new w 45 #[.string ⟨#[]⟩, .slice none 0 0, .slice none 0 0, .string ⟨#[]⟩]);have HX0 := hid (HX.out.fresh HF0.out);go_enter Tryz.func61, Tryz.ntmps61;go_wp2_with fail
 refine (xspace_any S g 0 l _ hS HX0.out).mono ?_;rintro _ w1 ⟨rfl, ht, hx⟩;have hgl := HGL.out;have HX1 := hid hx;have HT1 := hid (show Touch (fun b => b = g) w w1 from (HF0.out.mono fun _ h => h.elim).trans ht);have HR1 := hid (ht.blk HR0.out fun h => by omega);clear ht hx HX0 HF0 HR0 HX;generalize decide ((l.dropWhile white).length < l.length) = z0;go_wp2_with fail
 have HE60 := hid (show Calls Tryz.prog 109 #[.pointer (some ⟨g, 0, none⟩), .int .u8 60] w1 fun e w' => XU S g w1 (expectR 60 0 (l.dropWhile white)) e w' from xexpect_any S g 0 60 _ w1 hS HX1.out);refine HE60.out.mono ?_;intro e w2 he;cases hr : expectR 60 0 (l.dropWhile white) with
 | bad l3 =>
  have HFIN := hid (doc_bad hr);rw [hr] at he;obtain ⟨rfl, ht⟩ := he;refine ⟨rfl, (?_ : XE S g w (documentR l) _ _)⟩;rw [HFIN.out];exact ⟨rfl, HT1.out.trans ht⟩
 | ok u l1 c1 =>
 have hc1 := expectR_cnt hr;rw [hc1] at hr;have HDK := hid (doc_ok hr);rw [hr] at he;obtain ⟨rfl, ht, hx⟩ := he;have HX2 := hid hx;have HT2 := hid (HT1.out.trans ht);have HR2 := hid (ht.blk HR1.out fun h => by omega);clear ht hx hr hc1 HE60 HX1 HT1 HR1 c1;go_wp2_with fail
 have HEC := hid (HEL.out 1 l1 0 w2 (by decide) HX2.out);refine HEC.out.mono ?_;intro e w3 he;cases hr : elementR 64 l1 0 with
 | bad l3 =>
  have HFIN := hid (show documentR l = .bad l3 by rw [HDK.out, hr]; rfl);rw [hr] at he;obtain ⟨rfl, ht⟩ := he;refine ⟨rfl, (?_ : XE S g w (documentR l) _ _)⟩;rw [HFIN.out];exact ⟨rfl, HT2.out.trans ht⟩
 | ok x l2 c2 =>
 have HRR := hid hr;obtain ⟨en, eats, eks, etx⟩ := x;rw [hr] at he;obtain ⟨ea, ek, rfl, ht, hst, hx⟩ := he;obtain ⟨Aa, ca, hea⟩ := hst.now.1.slice;obtain ⟨Ab, cb, hek⟩ := hst.now.2.1.slice;simp only [E.kids, E.attrs] at hea hek;subst hea hek;unfold ev;simp only [E.name, E.text];have HX3 := hid hx;have HT3 := hid (HT2.out.trans ht);have HR3 := hid (ht.blk HR2.out fun h => by omega);have hr2 := HR2.out.lt;have HST3 := hid (show Stab (fun k => k < w.heap.size + 1) w3 fun W => RepV W (.mk en eats eks etx) (.slice Aa eats.length ca) (.slice Ab eks.length cb) from hst.mono fun i _ hi => by omega);clear ht hst hx hr HEC HX2 HT2 HR2 hr2;go_wp2_with fail
 have HT4 := hid (HT3.out.alloc (.cells #[.string ⟨en.toArray⟩, .slice Aa eats.length ca, .slice Ab eks.length cb, .string ⟨etx.toArray⟩] 45));have HX4 := hid (HX3.out.fresh ((Touch.refl _ w3).alloc (.cells #[.string ⟨en.toArray⟩, .slice Aa eats.length ca, .slice Ab eks.length cb, .string ⟨etx.toArray⟩] 45)));have HR4 := hid (HR3.out.alloc (.cells #[.string ⟨en.toArray⟩, .slice Aa eats.length ca, .slice Ab eks.length cb, .string ⟨etx.toArray⟩] 45));have HB4 := hid (Blk.new w3 45 #[.string ⟨en.toArray⟩, .slice Aa eats.length ca, .slice Ab eks.length cb, .string ⟨etx.toArray⟩]);have HST4 := hid (HST3.out.fresh ((Touch.refl _ w3).alloc (.cells #[.string ⟨en.toArray⟩, .slice Aa eats.length ca, .slice Ab eks.length cb, .string ⟨etx.toArray⟩] 45)));generalize (w3.alloc (.cells #[.string ⟨en.toArray⟩, .slice Aa eats.length ca, .slice Ab eks.length cb, .string ⟨etx.toArray⟩] 45)) = W4 at HT4 HX4 HR4 HB4 HST4 ⊢;obtain ⟨E3, hE3⟩ : ∃ k, k = w3.heap.size := ⟨_, rfl⟩;have hge : w.heap.size < E3 := by have := HR3.out.lt; omega
 rw [← hE3] at HB4 ⊢;clear HT3 HX3 HR3 HST3 hE3;refine (xspace_any S g c2 l2 _ hS HX4.out).mono ?_;rintro _ w5 ⟨rfl, ht, hx⟩;have HX5 := hid hx;have HT5 := hid (HT4.out.trans ht);have HR5 := hid (ht.blk HR4.out fun h => by omega);have HB5 := hid (ht.blk HB4.out fun h => by omega);have HST5 := hid (HST4.out.step ht (fun i _ hi => by show i < w.heap.size + 1; omega) fun i _ hi => hi);clear ht hx HX4 HT4 HR4 HB4 HST4;generalize decide ((l2.dropWhile white).length < l2.length) = z1;obtain ⟨q0, q1, q2, _, _, _, hg5⟩ := blk3 HX5.out.blk;have hle := HX5.out.len;cases hd : l2.dropWhile white with
 | cons b l3 =>
  have HFIN := hid (show documentR l = .bad (b :: l3) by rw [HDK.out, HRR.out]; exact docK_more hd);have HX6 := hid (show Xr S g (b :: l3) c2 w5 by rw [← hd]; exact HX5.out);rw [hd] at q1 hle;rw [List.length_cons] at hle;have d1 : decide (((S.size - (b :: l3).length : Nat) : Int) < (S.size : Int)) = true := dT (by rw [List.length_cons]; omega);have d1n : decide (S.size - (b :: l3).length < S.size) = true := dT (by rw [List.length_cons]; omega);generalize S.size - (b :: l3).length = k at q1 d1 d1n;go_wp2_with fail
  go_quiet (fail)
  go_wp2_with fail
  refine (xstop_any S g (b :: l3) c2 _ (HX6.out.fresh ((Touch.refl _ _).drewN _))).mono ?_;rintro _ w6 ⟨rfl, hw⟩;subst hw;refine ⟨rfl, (?_ : XE S g w (documentR l) _ _)⟩;rw [HFIN.out];exact ⟨rfl, HT5.out.drewN _⟩
 | nil =>
  have HFIN := hid (show documentR l = .ok (.mk en eats eks etx) [] c2 by rw [HDK.out, HRR.out]; exact docK_nil hd);have HX6 := hid (show Xr S g [] c2 w5 by rw [← hd]; exact HX5.out);rw [hd] at q1;rw [show S.size - ([] : List UInt8).length = S.size from rfl] at q1;have d1 : decide ((S.size : Int) < (S.size : Int)) = false := dF (by omega);have d1n : decide (S.size < S.size) = false := dF (by omega);go_wp2_with fail
  go_quiet (fail)
  refine forget_world (fun W => Fresh w5 W) ((Touch.refl _ _).drewN _) ?_;rintro w6 hf6;have HX7 := hid (HX6.out.fresh hf6);have HT7 := hid (HT5.out.trans (hf6.mono fun _ h => h.elim));have HR7 := hid (hf6.blk HR5.out fun h => h);have HB7 := hid (hf6.blk HB5.out fun h => h);have HST7 := hid (HST5.out.fresh hf6);clear hf6 q0 q1 q2 d1 d1n hd HX5 HT5 HR5 HB5 HST5 HX6;obtain ⟨e0, e1, e2, e3, _, _, _, _, _⟩ := Blk.four HB7.out;obtain ⟨_, _, _, _, z0, z1, z2, z3, hlz⟩ := Blk.four HR7.out;obtain ⟨t0, t1, t2, t3, _, _, _, _, _⟩ := Blk.four (HR7.out.self4 (.string ⟨en.toArray⟩) (.slice Aa eats.length ca) (.slice Ab eks.length cb) (.string ⟨etx.toArray⟩));simp only [put4] at t0 t1 t2 t3;have ht4 := (Touch.refl (fun k => k = w.heap.size) w6).put4 (g := w.heap.size) (.inl rfl) (.string ⟨en.toArray⟩) (.slice Aa eats.length ca) (.slice Ab eks.length cb) (.string ⟨etx.toArray⟩)
  have HDN := hid (show XE S g w (.ok (.mk en eats eks etx) [] c2) (.returned (.agg #[.string ⟨en.toArray⟩, .slice Aa eats.length ca, .slice Ab eks.length cb, .string ⟨etx.toArray⟩])) (put4 w6 w.heap.size (.string ⟨en.toArray⟩) (.slice Aa eats.length ca) (.slice Ab eks.length cb) (.string ⟨etx.toArray⟩)) from
   ⟨_, _, rfl, HT7.out.put4 (.inr (Nat.le_refl _)) _ _ _ _, HST7.out.step ht4 (fun i _ hi => by show i < w.heap.size + 1; omega) (fun i _ hi => by show i < w.heap.size + 1; omega), HX7.out.move ht4 (by omega)⟩)
  clear ht4;go_wp2_with fail
  refine bodyPost_ret (v := .agg #[.string ⟨en.toArray⟩, .slice Aa eats.length ca, .slice Ab eks.length cb, .string ⟨etx.toArray⟩]) (by simp [results, Tryz.results61, go_sem, t0, t1, t2, t3]) rfl ?_;rw [HFIN.out];exact HDN.out
theorem run_typeAssert_hit {P : Program} (v : Value) (xT t : TypeId) (w : World) (ht : P.underlying t = some (.int .i64)) : (Instr.typeAssert (.iface t v) xT t true).run P w = .ok (.tuple #[v, .bool true]) w := by
 simp [Instr.typeAssert, run_underlying ht]
theorem xcatch_fault (k b ba br : Nat) (pv : Addr) (w : World) {ta te : TypeId} {x0 x1 x2 x3 xa xr : Value} (hb : Blk w b 45 #[x0, x1, x2, x3]) (ha : Blk w ba ta #[xa]) (hr : Blk w br te #[xr]) (h1 : b ≠ ba) (h2 : b ≠ br) (h3 : ba ≠ br) :
  CallsD Tryz.prog 60 #[.pointer (some ⟨b, 0, none⟩), .pointer (some ⟨ba, 0, none⟩), .pointer (some ⟨br, 0, none⟩), .pointer (some pv)] (.panicking (flt k)) w fun e u' w' =>
   e = .returned (.tuple #[]) ∧ u' = .panicking [{ v := .iface 122 (.int .i64 (k : Int)), recovered := true }] ∧ w' = ((put4 w b (.string ⟨#[]⟩) (.slice none 0 0) (.slice none 0 0) (.string ⟨#[]⟩)).setCell ⟨ba, 0, none⟩ (.int .i64 (k : Int))).setCell ⟨br, 0, none⟩ (.int .i64 3) := by
 unfold flt;refine callsD_of_wpS Tryz.func60 rfl fun c₀ cs hu => ?_
 apply wpS_seq
 apply wpS_region
 simp [wpOpsS, go_sem, recoverD, hu, Tryz.ntmps60, Exit.thenS]
 refine wpS_of_wp ?_;have hta := fun (w : World) => run_typeAssert_hit (P := Tryz.prog) (.int .i64 (k : Int)) 20 122 w Tryz.underlying122
 obtain ⟨e0, e1, e2, e3, y0, y1, y2, y3, hlb⟩ := Blk.four hb;have a0 : w.cell? ⟨ba, 0, none⟩ = some xa := ha.cell 0;have a1 := ha.frozen 0;have r0 : w.cell? ⟨br, 0, none⟩ = some xr := hr.cell 0;have r1 := hr.frozen 0;have hla := ha.lt;have hlr := hr.lt;have h1' : ba ≠ b := fun h => h1 h.symm
 have h2' : br ≠ b := fun h => h2 h.symm
 have h3' : br ≠ ba := fun h => h3 h.symm
 clear hb ha hr;show Code.wp Tryz.prog _ _ { tmps := #[.pointer (some ⟨b, 0, none⟩), .pointer (some ⟨ba, 0, none⟩), .pointer (some ⟨br, 0, none⟩), .pointer (some pv), undef, undef, undef, .iface 122 (.int .i64 (k : Int)), undef, undef, undef, undef, undef, undef, undef, undef, undef, undef, undef], defers := [] } w;go_wp2_with fail
 exact ⟨rfl, _, rfl, _, results_none rfl _ _ _, rfl, rfl, rfl⟩
theorem xcatch_idle (pe pa pr pv : Addr) (w : World) :
  CallsD Tryz.prog 60 #[.pointer (some pe), .pointer (some pa), .pointer (some pr), .pointer (some pv)] .returning w fun e u' w' =>
   e = .returned (.tuple #[]) ∧ u' = .returning ∧ w' = w := by
 refine callsD_of_wpS Tryz.func60 rfl fun c₀ cs hu => ?_
 apply wpS_seq
 apply wpS_region
 simp [wpOpsS, go_sem, recoverD, hu, Tryz.ntmps60, Exit.thenS]
 refine wpS_of_wp ?_;show Code.wp Tryz.prog _ _ { tmps := #[.pointer (some pe), .pointer (some pa), .pointer (some pr), .pointer (some pv), undef, undef, undef, .nilIface, undef, undef, undef, undef, undef, undef, undef, undef, undef, undef, undef], defers := [] } w;go_wp2_with fail
 cases c₀;simp_all [bodyPostS, results, Tryz.results60]
theorem blk_new_at {w : World} {n : Nat} (hn : w.heap.size = n) (t : TypeId) (cs : Array Value) : Blk (w.alloc (.cells cs t)) n t cs := hn ▸ Blk.new w t cs
theorem parse_bad {T l9 : List UInt8} (h : documentR T = .bad l9) : parseX T = (nilE, ((T.length - l9.length : Nat) : Int), 3) := by
 unfold parseX;rw [h];have := (Xp.documentR_left T).len;rw [h] at this;have h2 : l9.length ≤ T.length := this;show (nilE, (T.length : Int) - l9.length, (3 : Int)) = _;rw [show (T.length : Int) - l9.length = ((T.length - l9.length : Nat) : Int) by omega]
theorem parse_ok {T l9 : List UInt8} {x : E} {c : Nat} (h : documentR T = .ok x l9 c) : parseX T = (x, 0, 0) := by unfold parseX; rw [h]
theorem xparse_any (S : ByteArray) (w : World) (hS : S.size ≤ 1099511627776) : Calls Tryz.prog 32 #[.string S] w fun e w' => ∃ va vk, e = .returned (.tuple #[ev (parseX S.data.toList).1 va vk, .int .i64 (parseX S.data.toList).2.1, .int .i64 (parseX S.data.toList).2.2]) ∧ Made w w' fun W => RepV W (parseX S.data.toList).1 va vk := by
 have hmf : ∀ (fn : Fn) (first cap : Array Value) (w : World), (Instr.makeFunc fn first cap).run Tryz.prog w = .ok (.func fn first cap) w := fun _ _ _ _ => rfl
 have HE0 := hid (show Blk (((((w.alloc (.cells #[.string ⟨#[]⟩, .slice none 0 0, .slice none 0 0, .string ⟨#[]⟩] 45)).alloc (.cells #[.int .i64 0] 3)).alloc (.cells #[.int .i64 0] 26)).alloc (.cells #[.string S, .int .i64 0, .int .i64 0] 121)).alloc (.cells #[.pointer (some ⟨w.heap.size + 1 + 1 + 1, 0, none⟩)] 119)) w.heap.size 45 #[.string ⟨#[]⟩, .slice none 0 0, .slice none 0 0, .string ⟨#[]⟩] from ((((Blk.new w _ _).alloc _).alloc _).alloc _).alloc _);have HA0 := hid (show Blk (((((w.alloc (.cells #[.string ⟨#[]⟩, .slice none 0 0, .slice none 0 0, .string ⟨#[]⟩] 45)).alloc (.cells #[.int .i64 0] 3)).alloc (.cells #[.int .i64 0] 26)).alloc (.cells #[.string S, .int .i64 0, .int .i64 0] 121)).alloc (.cells #[.pointer (some ⟨w.heap.size + 1 + 1 + 1, 0, none⟩)] 119)) (w.heap.size + 1) 3 #[.int .i64 0] from (((blk_new_at (by simp) _ _).alloc _).alloc _).alloc _);have HR0 := hid (show Blk (((((w.alloc (.cells #[.string ⟨#[]⟩, .slice none 0 0, .slice none 0 0, .string ⟨#[]⟩] 45)).alloc (.cells #[.int .i64 0] 3)).alloc (.cells #[.int .i64 0] 26)).alloc (.cells #[.string S, .int .i64 0, .int .i64 0] 121)).alloc (.cells #[.pointer (some ⟨w.heap.size + 1 + 1 + 1, 0, none⟩)] 119)) (w.heap.size + 1 + 1) 26 #[.int .i64 0] from ((blk_new_at (by simp) _ _).alloc _).alloc _);have HG0 := hid (show Blk (((((w.alloc (.cells #[.string ⟨#[]⟩, .slice none 0 0, .slice none 0 0, .string ⟨#[]⟩] 45)).alloc (.cells #[.int .i64 0] 3)).alloc (.cells #[.int .i64 0] 26)).alloc (.cells #[.string S, .int .i64 0, .int .i64 0] 121)).alloc (.cells #[.pointer (some ⟨w.heap.size + 1 + 1 + 1, 0, none⟩)] 119)) (w.heap.size + 1 + 1 + 1) 121 #[.string S, .int .i64 0, .int .i64 0] from (blk_new_at (by simp) _ _).alloc _);have HP0 := hid (show Blk (((((w.alloc (.cells #[.string ⟨#[]⟩, .slice none 0 0, .slice none 0 0, .string ⟨#[]⟩] 45)).alloc (.cells #[.int .i64 0] 3)).alloc (.cells #[.int .i64 0] 26)).alloc (.cells #[.string S, .int .i64 0, .int .i64 0] 121)).alloc (.cells #[.pointer (some ⟨w.heap.size + 1 + 1 + 1, 0, none⟩)] 119)) (w.heap.size + 1 + 1 + 1 + 1) 119 #[.pointer (some ⟨w.heap.size + 1 + 1 + 1, 0, none⟩)] from blk_new_at (by simp) _ _);have HF0 := hid (show Fresh w (((((w.alloc (.cells #[.string ⟨#[]⟩, .slice none 0 0, .slice none 0 0, .string ⟨#[]⟩] 45)).alloc (.cells #[.int .i64 0] 3)).alloc (.cells #[.int .i64 0] 26)).alloc (.cells #[.string S, .int .i64 0, .int .i64 0] 121)).alloc (.cells #[.pointer (some ⟨w.heap.size + 1 + 1 + 1, 0, none⟩)] 119)) from (((((Touch.refl _ w).alloc _).alloc _).alloc _).alloc _).alloc _)
 go_enter_defers Tryz.func32, Tryz.ntmps32
 go_wp2_with fail
 generalize (((((w.alloc (.cells #[.string ⟨#[]⟩, .slice none 0 0, .slice none 0 0, .string ⟨#[]⟩] 45)).alloc (.cells #[.int .i64 0] 3)).alloc (.cells #[.int .i64 0] 26)).alloc (.cells #[.string S, .int .i64 0, .int .i64 0] 121)).alloc (.cells #[.pointer (some ⟨w.heap.size + 1 + 1 + 1, 0, none⟩)] 119)) = w5 at HE0 HA0 HR0 HG0 HP0 HF0 ⊢;have HX0 := hid (show Xr S (w.heap.size + 1 + 1 + 1) S.data.toList 0 w5 from ⟨by rw [show S.size - S.data.toList.length = 0 by simp]; exact HG0.out, Sfx.refl _⟩);clear HG0;refine (xdoc_any S (w.heap.size + 1 + 1 + 1) S.data.toList w5 hS HX0.out).mono ?_;intro e w6 he;cases hr : documentR S.data.toList with
 | bad l9 =>
  have HPB := hid (parse_bad hr);rw [hr] at he;obtain ⟨rfl, ht⟩ := he;have HE6 := hid (ht.blk HE0.out fun h => by omega);have HA6 := hid (ht.blk HA0.out fun h => by omega);have HR6 := hid (ht.blk HR0.out fun h => by omega);have HF6 := hid (HF0.out.trans' ht fun k hk => .inr (by omega));clear ht hr HE0 HA0 HR0 HP0 HF0 HX0;refine leaves_cons (f := 60) (args := #[.pointer (some ⟨w.heap.size, 0, none⟩), .pointer (some ⟨w.heap.size + 1, 0, none⟩), .pointer (some ⟨w.heap.size + 1 + 1, 0, none⟩), .pointer (some ⟨w.heap.size + 1 + 1 + 1 + 1, 0, none⟩)]) (by simp) (by simp [go_sem]) ?_;refine (xcatch_fault (S.size - l9.length) w.heap.size (w.heap.size + 1) (w.heap.size + 1 + 1) _ w6 HE6.out HA6.out HR6.out (by omega) (by omega) (by omega)).mono ?_;rintro e u' w7 ⟨rfl, rfl, hw⟩;have hE7 : Blk w7 w.heap.size 45 #[.string ⟨#[]⟩, .slice none 0 0, .slice none 0 0, .string ⟨#[]⟩] := by rw [hw]; exact ((HE6.out.self4 _ _ _ _).far (p := ⟨w.heap.size + 1, 0, none⟩) (by show w.heap.size ≠ w.heap.size + 1; omega) _).far (p := ⟨w.heap.size + 1 + 1, 0, none⟩) (by show w.heap.size ≠ w.heap.size + 1 + 1; omega) _
  have hA7 : Blk w7 (w.heap.size + 1) 3 #[.int .i64 ((S.size - l9.length : Nat) : Int)] := by rw [hw]; exact ((HA6.out.far4 (by omega) _ _ _ _).put 0 _).far (p := ⟨w.heap.size + 1 + 1, 0, none⟩) (by show w.heap.size + 1 ≠ w.heap.size + 1 + 1; omega) _
  have hR7 : Blk w7 (w.heap.size + 1 + 1) 26 #[.int .i64 3] := by rw [hw]; exact (((HR6.out.far4 (by omega) _ _ _ _).far (p := ⟨w.heap.size + 1, 0, none⟩) (by show w.heap.size + 1 + 1 ≠ w.heap.size + 1; omega) _).put 0 _)
  have hF7 : Fresh w w7 := by rw [hw]; exact HF6.out.trans' ((((Touch.refl (fun k => w.heap.size ≤ k) w6).put4 (.inl (Nat.le_refl _)) _ _ _ _).setCell (p := ⟨w.heap.size + 1, 0, none⟩) (.inl (Nat.le_succ _)) _).setCell (p := ⟨w.heap.size + 1 + 1, 0, none⟩) (.inl (by show w.heap.size ≤ w.heap.size + 1 + 1; omega)) _) fun k hk => .inr hk
  clear hw HE6 HA6 HR6 HF6;obtain ⟨e0, e1, e2, e3, _⟩ := Blk.four hE7;have a0 : w7.cell? ⟨w.heap.size + 1, 0, none⟩ = some (.int .i64 ((S.size - l9.length : Nat) : Int)) := hA7.cell 0;have r0 : w7.cell? ⟨w.heap.size + 1 + 1, 0, none⟩ = some (.int .i64 3) := hR7.cell 0;refine ⟨.tuple #[.agg #[.string ⟨#[]⟩, .slice none 0 0, .slice none 0 0, .string ⟨#[]⟩], .int .i64 ((S.size - l9.length : Nat) : Int), .int .i64 3], by simp [results, Tryz.results32, go_sem, e0, e1, e2, e3, a0, r0], ?_⟩;rw [HPB.out];have hlS : S.data.toList.length = S.size := by simp
  refine ⟨.slice none 0 0, .slice none 0 0, by rw [hlS]; rfl, hF7, fun W _ => ⟨RepA.nil _ _ _, RepE.nil none 0, Nat.zero_le _, Nat.zero_le _⟩⟩
 | ok x l9 c9 =>
  have HPB := hid (parse_ok hr);obtain ⟨en, eats, eks, etx⟩ := x;rw [hr] at he;obtain ⟨ea, ek, rfl, ht, hst, hx⟩ := he;obtain ⟨Aa, ca, hea⟩ := hst.now.1.slice;obtain ⟨Ab, cb, hek⟩ := hst.now.2.1.slice;simp only [E.kids, E.attrs] at hea hek;subst hea hek;unfold ev;simp only [E.name, E.text];have HE6 := hid (ht.blk HE0.out fun h => by omega);have HA6 := hid (ht.blk HA0.out fun h => by omega);have HR6 := hid (ht.blk HR0.out fun h => by omega);have HF6 := hid (HF0.out.trans' ht fun k hk => .inr (by omega));have HST6 := hid (show Stab (fun k => k < w5.heap.size) w6 fun W => RepV W (.mk en eats eks etx) (.slice Aa eats.length ca) (.slice Ab eks.length cb) from hst);have hsz := HP0.out.lt;clear ht hst hx hr HE0 HA0 HR0 HP0 HF0 HX0;obtain ⟨e0, e1, e2, e3, y0, y1, y2, y3, hlb⟩ := Blk.four HE6.out;have a0 : w6.cell? ⟨w.heap.size + 1, 0, none⟩ = some (.int .i64 0) := HA6.out.cell 0;have a1 := HA6.out.frozen 0;have r0 : w6.cell? ⟨w.heap.size + 1 + 1, 0, none⟩ = some (.int .i64 0) := HR6.out.cell 0;have r1 := HR6.out.frozen 0;go_wp2_with fail
  refine leaves_cons (f := 60) (args := #[.pointer (some ⟨w.heap.size, 0, none⟩), .pointer (some ⟨w.heap.size + 1, 0, none⟩), .pointer (some ⟨w.heap.size + 1 + 1, 0, none⟩), .pointer (some ⟨w.heap.size + 1 + 1 + 1 + 1, 0, none⟩)]) (by simp) (by simp [go_sem]) ?_;refine (xcatch_idle _ _ _ _ _).mono ?_;rintro e u' w7 ⟨rfl, rfl, hw⟩;clear e0 e1 e2 e3 y0 y1 y2 y3 hlb a0 a1 r0 r1;replace hw : w7 = ((put4 w6 w.heap.size (.string ⟨en.toArray⟩) (.slice Aa eats.length ca) (.slice Ab eks.length cb) (.string ⟨etx.toArray⟩)).setCell ⟨w.heap.size + 1, 0, none⟩ (.int .i64 0)).setCell ⟨w.heap.size + 1 + 1, 0, none⟩ (.int .i64 0) := hw;have hE7 : Blk w7 w.heap.size 45 #[.string ⟨en.toArray⟩, .slice Aa eats.length ca, .slice Ab eks.length cb, .string ⟨etx.toArray⟩] := by rw [hw]; exact ((HE6.out.self4 _ _ _ _).far (p := ⟨w.heap.size + 1, 0, none⟩) (by show w.heap.size ≠ w.heap.size + 1; omega) _).far (p := ⟨w.heap.size + 1 + 1, 0, none⟩) (by show w.heap.size ≠ w.heap.size + 1 + 1; omega) _
  have hA7 : Blk w7 (w.heap.size + 1) 3 #[.int .i64 0] := by rw [hw]; exact ((HA6.out.far4 (by omega) _ _ _ _).put 0 _).far (p := ⟨w.heap.size + 1 + 1, 0, none⟩) (by show w.heap.size + 1 ≠ w.heap.size + 1 + 1; omega) _
  have hR7 : Blk w7 (w.heap.size + 1 + 1) 26 #[.int .i64 0] := by rw [hw]; exact (((HR6.out.far4 (by omega) _ _ _ _).far (p := ⟨w.heap.size + 1, 0, none⟩) (by show w.heap.size + 1 + 1 ≠ w.heap.size + 1; omega) _).put 0 _)
  have hT7 : Touch (fun k => k = w.heap.size ∨ k = w.heap.size + 1 ∨ k = w.heap.size + 1 + 1) w6 w7 := by rw [hw]; exact (((Touch.refl (fun k => k = w.heap.size ∨ k = w.heap.size + 1 ∨ k = w.heap.size + 1 + 1) w6).put4 (.inl (.inl rfl)) _ _ _ _).setCell (p := ⟨w.heap.size + 1, 0, none⟩) (.inl (.inr (.inl rfl))) _).setCell (p := ⟨w.heap.size + 1 + 1, 0, none⟩) (.inl (.inr (.inr rfl))) _
  clear hw HE6 HA6 HR6;obtain ⟨e0, e1, e2, e3, _⟩ := Blk.four hE7;have a0 : w7.cell? ⟨w.heap.size + 1, 0, none⟩ = some (.int .i64 0) := hA7.cell 0;have r0 : w7.cell? ⟨w.heap.size + 1 + 1, 0, none⟩ = some (.int .i64 0) := hR7.cell 0;refine ⟨.tuple #[.agg #[.string ⟨en.toArray⟩, .slice Aa eats.length ca, .slice Ab eks.length cb, .string ⟨etx.toArray⟩], .int .i64 0, .int .i64 0], by simp [results, Tryz.results32, go_sem, e0, e1, e2, e3, a0, r0], ?_⟩;rw [HPB.out];exact ⟨.slice Aa eats.length ca, .slice Ab eks.length cb, rfl, HF6.out.trans' hT7 fun k hk => .inr (by omega), HST6.out.step hT7 (fun i _ hi => by show i < w5.heap.size; omega) fun i _ hi => by show i < w5.heap.size; omega⟩
end Go.Proofs.YtnbeemkfmlfgfaaGreatDoor
namespace Go.Proofs.YtnbeemkfmlfgfaaGreatDoor
open Go.RowKit
abbrev Low (W0 w : World) : Prop := Touch (fun k => W0.heap.size ≤ k) W0 w
theorem low_no {W0 : World} {q : Addr} {v : Value} (h : W0.cell? q = some v) : ¬ W0.heap.size ≤ q.block := by
 have := bL (a := q) (v := v) h;omega
theorem Low.cell {W0 w : World} (hl : Low W0 w) {q : Addr} {v : Value} (h : W0.cell? q = some v) : w.cell? q = some v := Touch.cell hl h (low_no h)
theorem low4 {w w' : World} {a b c d : Addr} {x y z u : Value} (h : Low w w') (h0 : w.cell? a = some x) (h1 : w.cell? b = some y) (h2 : w.cell? c = some z) (h3 : w.cell? d = some u) :
  w'.cell? a = some x ∧ w'.cell? b = some y ∧ w'.cell? c = some z ∧ w'.cell? d = some u := ⟨h.cell h0, h.cell h1, h.cell h2, h.cell h3⟩
theorem Low.fresh {W0 w w' : World} (hl : Low W0 w) (hf : Fresh w w') : Low W0 w' := hl.trans' hf fun _ h => h.elim
theorem RepL.low {W0 w : World} {ks : List Tr.Nd} {v : Value} (h : RepL W0 ks v) (hl : Low W0 w) : RepL w ks v := by
 induction h with
 | nil A cap => exact .nil A cap
 | row g o cap ks sl hg hln ht h0 h1 h2 h3 hk ih =>
  exact .row g o cap ks sl (Nat.lt_of_lt_of_le hg hl.size) hln ht (fun i hi => hl.cell (h0 i hi)) (fun i hi => hl.cell (h1 i hi)) (fun i hi => hl.cell (h2 i hi)) (fun i hi => hl.cell (h3 i hi)) ih
abbrev nv (n : Tr.Nd) (sl : Value) : Value := .agg #[.int .i64 n.kind, .string ⟨n.text.toArray⟩, .int .i64 n.cols, sl]
theorem owns_type {w : World} {B e size n g : Nat} {v : Value} {xs : List Value} (h : w.ownsRow B e size v n xs) (hg : v.ownBlock = some g) : B ≤ g ∧ ∃ cur, w.heap[g]? = some (.cells cur e (0, 0)) := by
 rcases h.2 with ⟨h1, _⟩ | ⟨g', cap, cur, h1, h2, h3, _⟩
 ·rw [h1] at hg; cases hg
 ·rw [h1] at hg
  simp only [Value.ownBlock, Option.some.injEq] at hg;subst hg;exact ⟨h2, cur, h3⟩
end Go.Proofs.YtnbeemkfmlfgfaaGreatDoor
namespace Go.Proofs.YtnbeemkfmlfgfaaGreatDoor
open Go.RowKit
open Tr (Nd)
theorem infoNodeG : (Tryz.prog.info? 31).map (fun i => (i.zero, i.size, i.bytes)) = some (some (.agg #[.int .i64 0, .string ⟨#[]⟩, .int .i64 0, .slice none 0 0]), 4, 56) := by kernel_rfl
def MakesN (w w' : World) (n : Nd) (v : Value) : Prop := ∃ sl, v = nv n sl ∧ Fresh w w' ∧ n.text.length ≤ maxLen ∧ Stab (fun k => k < w.heap.size) w' fun W => RepL W n.kids sl
theorem NodesAt.one {W : World} {n : Nd} {sl : Value} (h : RepL W n.kids sl) (ht : n.text.length ≤ maxLen) : NodesAt W [n] [.int .i64 n.kind, .string ⟨n.text.toArray⟩, .int .i64 n.cols, sl] := ⟨sl, [], rfl, h, ht, rfl⟩
def GrowN (B : Nat) (w : World) (ns : List Nd) (v : Value) : Prop := B ≤ w.heap.size ∧ ∃ cs, w.ownsRow B 31 4 v ns.length cs ∧ Stab (fun k => v.ownBlock = some k ∨ k < B) w fun W => NodesAt W ns cs
theorem GrowN.nil {B : Nat} {w : World} (hB : B ≤ w.heap.size) : GrowN B w [] (.slice none 0 0) := ⟨hB, [], World.ownsRow_nil _ _ _ _, fun _ _ => rfl⟩
theorem GrowN.own_lt {B : Nat} {w : World} {ns : List Nd} {v : Value} (h : GrowN B w ns v) : ∀ k, v.ownBlock = some k → B ≤ k ∧ k < w.heap.size := fun k hk => by
 obtain ⟨_, cs, h1, _⟩ := h;exact h1.lt k hk
theorem GrowN.slice {B : Nat} {w : World} {ns : List Nd} {v : Value} (h : GrowN B w ns v) : ∃ A cap, v = .slice A ns.length cap := by
 obtain ⟨_, cs, h1, _⟩ := h;exact own_slc h1
theorem GrowN.mv {B : Nat} {w w1 : World} {ns : List Nd} {v : Value} {S : Nat → Prop} (h : GrowN B w ns v) (ht : Touch S w w1) (hS : ∀ k, S k → k < w.heap.size → k < B) : GrowN B w1 ns v := by
 obtain ⟨hB, cs, h1, h2⟩ := h;refine ⟨Nat.le_trans hB ht.size, cs, ownsRow_touch h1 ht fun k hk hs => ?_, h2.step ht (fun i hi hs => .inr (hS i hs hi)) (fun _ _ h => h)⟩;have h3 := h1.lt k hk;have := hS k hs h3.2;omega
theorem GrowN.fresh {B : Nat} {w w1 : World} {ns : List Nd} {v : Value} (h : GrowN B w ns v) (ht : Fresh w w1) : GrowN B w1 ns v := h.mv ht fun _ h => h.elim
theorem GrowN.rep {B : Nat} {w : World} {ns : List Nd} {v : Value} (h : GrowN B w ns v) : RepL w ns v := by
 obtain ⟨_, cs, h1, h2⟩ := h;exact h2.now.own h1
theorem GrowN.done {B : Nat} {w : World} {ns : List Nd} {v : Value} (h : GrowN B w ns v) : Stab (fun k => k < B) w fun W => RepL W ns v := fun _ hW => (h.mv hW fun _ h _ => h).rep
section
variable {w : World} {ops : Array Oper} {rest : List Oper} {o : Oper} {a : Act} {Q : Exit → Act → World → Prop}
theorem wpList_append_node (hgd : o.guard = none) (s x : Operand)
  (ho : o.op = .call { callee := .builtin .append, args := #[s, x], argTypes := #[29, 29] })
  {B n g : Nat} {ns : List Nd} {v : Value} (h : GrowN B w ns v) (hn : ns.length = n) (hs : a.eval s = v) (m : Nd) {sl : Value} (hb : Blk w g 31 #[.int .i64 m.kind, .string ⟨m.text.toArray⟩, .int .i64 m.cols, sl]) (hx : a.eval x = .slice (some ⟨g, 0, none⟩) 1 1)
  (w0 : Nat) (hB : B ≤ w0) (hown : ∀ k, v.ownBlock = some k → k < w0) (htl : m.text.length ≤ maxLen) (hrv : Stab (fun k => k < w0) w fun W => RepL W m.kids sl) (hlen : n < 2 ^ 40)
  (hK : ∀ A cp w', GrowN B w' (ns ++ [m]) (.slice A (n + 1) cp) → Touch (fun k => v.ownBlock = some k) w w' → ((Value.slice A (n + 1) cp).ownBlock = v.ownBlock ∨ (Value.slice A (n + 1) cp).ownBlock = some w.heap.size) → wpList Tryz.prog ops Q rest (a.put o.dst (.slice A (n + 1) cp)) w') : wpList Tryz.prog ops Q (o :: rest) a w := by
 subst hn;obtain ⟨hBw, cs, h1, h2⟩ := h;obtain ⟨i, hi, hz0, hz1, hz2⟩ := info_parts infoNodeG;have hv := hrv.now
 have h3 : ∀ u ∈ [Value.int .i64 m.kind, .string ⟨m.text.toArray⟩, .int .i64 m.cols, sl], u.oneCell' = true := by
  intro u hu;simp only [List.mem_cons, List.not_mem_nil, or_false] at hu
  rcases hu with rfl | rfl | rfl | rfl
  ·rfl
  ·rfl
  ·rfl
  ·exact hv.oneCell
 refine wpList_append_src _ hgd s x 29 ho B 31 i _ 4 56 Tryz.underlying29 hi hz0 hz1 hz2 rfl (by decide) v ns.length cs hs h1 _ 1 _ hx (Src.of_blk hb rfl) h3 (by simp only [maxLen]; omega) (by omega) hBw fun v' w' ho' hgr hv' => ?_
 obtain ⟨A, cp, rfl⟩ := own_slc ho';have ht : Touch (fun k => v.ownBlock = some k) w w' := Touch.grown (Touch.refl _ _) hgr fun k hk => .inl hk
 refine hK A cp w' ⟨Nat.le_trans hBw hgr.size, _, by rw [List.length_append]; exact ho', ?_⟩ ht hv'
 have hS : ∀ i, i < w.heap.size → ((Value.slice A (ns.length + 1) cp).ownBlock = some i ∨ i < B) → (v.ownBlock = some i ∨ i < B) := fun i hi hs => by
  rcases hs with hs | hs
  ·rcases hv' with h6 | h6 <;> rw [h6] at hs
   ·exact .inl hs
   ·cases hs; omega
  ·exact .inr hs
 refine ((h2.step ht (fun i _ hs => .inl hs) hS).and (hrv.step ht (fun i hi hs => hown i hs) fun i hi hs => ?_)).imp fun W ⟨h6, h7⟩ => h6.append (NodesAt.one h7 htl)
 rcases hS i hi hs with h6 | h6
 ·exact hown i h6
 ·omega
end
end Go.Proofs.YtnbeemkfmlfgfaaGreatDoor
namespace Go.Proofs.YtnbeemkfmlfgfaaGreatDoor.El
open Tr (Nd)
def leafK (n : Bytes) : Int := if n = nMi then 2 else if n = nMo then 2 else if n = nMn then 3 else if n = nMtext then 4 else 0
def attrV : Attrs → Bytes → Bytes
 | [], _ => []
 | x :: l, nm => if x.1 = nm then x.2 else attrV l nm
def rowNil : Nd := .mk 1 [] 0 []
def nilNd : Nd := .mk 0 [] 0 []
def validI (k : Int) (t : Bytes) (s : Nat) : Bool := Tr.valid (.mk 1 [] 0 [.mk k t 0 (List.replicate s rowNil)])
def slotsR (nm : Bytes) (n : Nat) : Bool :=
 if nm = nMath then true else if nm = nMrow then true else if nm = nMtd then true
 else if nm = nMtable then decide (1 ≤ n)
 else if nm = nMtr then decide (1 ≤ n) && decide (n ≤ 16)
 else if nm = nMfrac then decide (n = 2) else if nm = nMroot then decide (n = 2) else if nm = nMsub then decide (n = 2) else if nm = nMsup then decide (n = 2)
 else if nm = nMsubsup then decide (n = 3)
 else if nm = nMsqrt then decide (n = 1) else if nm = nMover then decide (n = 1) else if nm = nMfenced then decide (n = 1)
 else false
def attrsR (nm : Bytes) : Nat := if nm = nMover then 1 else if nm = nMfenced then 2 else 0
def moreR (nm : Bytes) (a : Attrs) : Bool :=
 if nm = nMover then validI 10 (attrV a nAccent) 1
 else if nm = nMfenced then decide ((attrV a nOpen).length = 1) && decide ((attrV a nClose).length = 1) && validI 11 (attrV a nOpen ++ attrV a nClose) 1
 else true
def ownF : E → Bool
 | .mk n a ks t =>
  if leafK n ≠ 0 then (if n = nMi then lett t else if n = nMo then !lett t else true) && a.isEmpty && ks.isEmpty && validI (leafK n) t 0
  else t.isEmpty && slotsR n ks.length && moreR n a && decide (a.length = attrsR n)
def admF : E → E → Bool
 | .mk n _ ks _, .mk m _ ls _ =>
  if n = nMath ∨ n = nMrow ∨ n = nMtd then !(decide (m = nMath) || decide (m = nMrow) || decide (m = nMtd) || decide (m = nMtr))
  else if n = nMtable then decide (m = nMtr) && (match ks with | .mk _ _ js _ :: _ => decide (ls.length = js.length) | [] => false)
  else if n = nMtr then decide (m = nMtd)
  else decide (m = nMrow)
mutual
def okT : E → Bool
 | .mk n a ks t => ownF (.mk n a ks t) && okL (.mk n a ks t) ks
def okL (p : E) : List E → Bool
 | [] => true
 | x :: xs => admF p x && okT x && okL p xs
end
mutual
def vis : Bool → Nat → E → Bool × Nat
 | adm, k, .mk n a ks t => if adm && ownF (.mk n a ks t) then visL (.mk n a ks t) (k + 1) ks else (false, k + 1)
def visL : E → Nat → List E → Bool × Nat
 | _, k, [] => (true, k)
 | p, k, x :: xs => match vis (admF p x) k x with
  | (true, k') => visL p k' xs
  | (false, k') => (false, k')
end
theorem vis_eq (adm : Bool) (k : Nat) (e : E) : vis adm k e = if adm && ownF e then visL e (k + 1) e.kids else (false, k + 1) := by cases e; rw [vis]; rfl
theorem okT_eq (e : E) : okT e = (ownF e && okL e e.kids) := by cases e; rw [okT]; rfl
theorem okL_all (p : E) (l : List E) : okL p l = l.all fun x => admF p x && okT x := by
 induction l with
 | nil => rw [okL]; rfl
 | cons x l ih => rw [okL, ih, List.all_cons]
theorem visL_spec (p : E) (l : List E) (h : ∀ x ∈ l, ∀ adm k, ((adm && okT x) = true → vis adm k x = (true, k + count x)) ∧ ((adm && okT x) = false → (vis adm k x).1 = false)) :
  ∀ k, (okL p l = true → visL p k l = (true, k + countL l)) ∧ (okL p l = false → (visL p k l).1 = false) := by
 induction l with
 | nil => intro k; exact ⟨fun _ => by rw [visL, countL]; rfl, fun h => by rw [okL] at h; cases h⟩
 | cons x l ih =>
  intro k;have ih' := ih (fun y hy => h y (List.mem_cons_of_mem _ hy));have hx := h x (List.mem_cons_self ..) (admF p x) k;rw [okL, visL];cases hb : admF p x && okT x with
  | true =>
   rw [hx.1 hb, Bool.true_and];refine ⟨fun hl => ?_, fun hl => (ih' _).2 hl⟩;show visL p (k + count x) l = _;rw [(ih' _).1 hl, countL, Nat.add_assoc]
  | false =>
   rw [Bool.false_and];refine ⟨fun h => (by cases h), fun _ => ?_⟩;have h3 := hx.2 hb
   rcases hv : vis (admF p x) k x with ⟨b, k'⟩
   rw [hv] at h3;replace h3 : b = false := h3;rw [h3]
theorem vis_spec (e : E) : ∀ adm k, ((adm && okT e) = true → vis adm k e = (true, k + count e)) ∧ ((adm && okT e) = false → (vis adm k e).1 = false) := by
 induction e using E.ind with
 | h e ih =>
  intro adm k;have hl := visL_spec e e.kids ih (k + 1);rw [vis_eq, okT_eq, count_kids];cases adm with
  | false => exact ⟨fun h => by simp at h, fun _ => rfl⟩
  | true =>
   cases ho : ownF e with
   | false => exact ⟨fun h => by simp at h, fun _ => rfl⟩
   | true =>
    simp only [Bool.true_and, if_true];refine ⟨fun h => ?_, hl.2⟩;rw [hl.1 h]
    congr 1
    omega
theorem vis_lt (e : E) : ∀ adm k, k < (vis adm k e).2 ∧ (vis adm k e).2 ≤ k + count e := by
 induction e using E.ind with
 | h e ih =>
  intro adm k
  have hL : ∀ (p : E) (l : List E), (∀ x ∈ l, x ∈ e.kids) → ∀ k, k ≤ (visL p k l).2 ∧ (visL p k l).2 ≤ k + countL l := by
   intro p l
   induction l with
   | nil => intro _ k; rw [visL, countL]; exact ⟨Nat.le_refl _, Nat.le_refl _⟩
   | cons x l ihl =>
    intro hm k;have hx := ih x (hm x (List.mem_cons_self ..)) (admF p x) k;rw [visL, countL]
    rcases hv : vis (admF p x) k x with ⟨b, k'⟩
    rw [hv] at hx;replace hx : k < k' ∧ k' ≤ k + count x := hx;cases b with
    | true =>
     have := ihl (fun y hy => hm y (List.mem_cons_of_mem _ hy)) k';show k ≤ (visL p k' l).2 ∧ (visL p k' l).2 ≤ _;omega
    | false =>
     show k ≤ k' ∧ k' ≤ _;omega
  rw [vis_eq, count_kids];split
  ·have := hL e e.kids (fun x hx => hx) (k + 1)
   omega
  ·show k < k + 1 ∧ k + 1 ≤ _
   omega
def faultF (e : E) : Int × Bool := if (vis (decide (e.name = nMath)) 0 e).1 then (0, false) else (((vis (decide (e.name = nMath)) 0 e).2 : Int) - 1, true)
def rowK (n : Bytes) : Int := if n = nMfrac then 5 else if n = nMsub then 7 else if n = nMsup then 8 else if n = nMsubsup then 9 else 0
def mkN (n : Bytes) (a : Attrs) (t : Bytes) (rs cs : List Nd) (c : Nat) : Nd :=
 if leafK n ≠ 0 then .mk (leafK n) t 0 []
 else if n = nMsqrt then .mk 6 [] 0 (rowNil :: rs.take 1)
 else if n = nMroot then .mk 6 [] 0 ((rs.drop 1).take 1 ++ rs.take 1)
 else if n = nMover then .mk 10 (attrV a nAccent) 0 (rs.take 1)
 else if n = nMfenced then .mk 11 (attrV a nOpen ++ attrV a nClose) 0 (rs.take 1)
 else if n = nMtable then .mk 12 [] c cs
 else .mk (rowK n) [] 0 rs
def colsN : List E → Nat
 | .mk _ _ ks _ :: _ => ks.length
 | [] => 0
mutual
def itemN : E → Nd
 | .mk n a ks t => mkN n a t (rowsN ks) (cellsN ks) (colsN ks)
def itemsN : List E → List Nd
 | [] => []
 | x :: xs => itemN x :: itemsN xs
def rowsN : List E → List Nd
 | [] => []
 | .mk _ _ ks _ :: xs => .mk 1 [] 0 (itemsN ks) :: rowsN xs
def cellsN : List E → List Nd
 | [] => []
 | .mk _ _ ks _ :: xs => rowsN ks ++ cellsN xs
end
def rowN (e : E) : Nd := .mk 1 [] 0 (itemsN e.kids)
theorem itemN_eq (e : E) : itemN e = mkN e.name e.attrs e.text (rowsN e.kids) (cellsN e.kids) (colsN e.kids) := by cases e; rw [itemN]; rfl
theorem itemsN_map (l : List E) : itemsN l = l.map itemN := by
 induction l with
 | nil => rw [itemsN]; rfl
 | cons x l ih => rw [itemsN, ih]; rfl
theorem rowsN_map (l : List E) : rowsN l = l.map rowN := by
 induction l with
 | nil => rw [rowsN]; rfl
 | cons x l ih => cases x; rw [rowsN, ih]; rfl
theorem cellsN_map (l : List E) : cellsN l = l.flatMap fun x => rowsN x.kids := by
 induction l with
 | nil => rw [cellsN]; rfl
 | cons x l ih => cases x; rw [cellsN, ih, List.flatMap_cons]; rfl
def nodeF (e : E) : Nd × Int × Int := if valid e then (if (faultF e).2 then (nilNd, (faultF e).1, 19) else if Tr.valid (rowN e) then (rowN e, 0, 0) else (nilNd, 0, 6)) else (nilNd, 0, 1)
end Go.Proofs.YtnbeemkfmlfgfaaGreatDoor.El
