/- Part 15 of 15 of a proof; its texts, joined: XpL, XpN, XrA, XrB. No condition. -/
import Derived.Test.YtnkmccgpmmnfeaaDoorXa14
import Derived.Defers
import Derived.Recover
import Derived.Test.YtnkmccgpmmnfeaaDoorXa2
import Derived.Test.YtnkmccgpmmnfeaaDoorTie
import Derived.Test.YtnkmccgpmmnfeaaDoorCards
import Derived.ProofKit
import Derived.OpenShut
import Derived.LaidMore
import Derived.Lay
import Derived.SevenTiedAt
import Derived.Stop.Joined
set_option maxRecDepth 100000
set_option maxHeartbeats 4000000
namespace Go.Proofs.YtnkmccgpmmnfeaaDoor
open Go.RowKit
open Xp (Rs Sfx white expectR elementR documentR parseX nilE)
open El (E Attrs)
def docK : Rs E → Rs E
 | .bad l2 => .bad l2
 | .ok e l2 c2 => match l2.dropWhile white with
  | [] => .ok e [] c2
  | b :: l3 => .bad (b :: l3)
theorem doc_bad {l l1 : List UInt8} (h : expectR 60 0 (l.dropWhile white) = .bad l1) : documentR l = .bad l1 := by unfold documentR; rw [h]
theorem doc_ok {l l1 : List UInt8} {u : Unit} {c : Nat} (h : expectR 60 0 (l.dropWhile white) = .ok u l1 c) : documentR l = docK (elementR 64 l1 0) := by
 unfold documentR;rw [h]
 dsimp only
 cases elementR 64 l1 0 with
 | bad l2 => rfl
 | ok e l2 c2 => rfl
theorem docK_nil {e : E} {l2 : List UInt8} {c2 : Nat} (h : l2.dropWhile white = []) : docK (.ok e l2 c2) = .ok e [] c2 := by unfold docK; simp only [h]
theorem docK_more {e : E} {l2 l3 : List UInt8} {b : UInt8} {c2 : Nat} (h : l2.dropWhile white = b :: l3) : docK (.ok e l2 c2) = .bad (b :: l3) := by unfold docK; simp only [h]
attribute [local go_sem] stillV stillUpon
theorem xdoc_any (S : ByteArray) (g : Nat) (l : List UInt8) (w : World) (hS : S.size ≤ 1099511627776) (hX0 : Xr S g l 0 w) : Calls Tryd.prog 17 #[.pointer (some ⟨g, 0, none⟩)] w fun e w' => XE S g w (documentR l) e w' := by
 have HX := hid hX0;have HGL := hid hX0.lt;have HEL := hid (xelem_any S g hS 64 (Nat.le_refl _));clear hX0;have HF0 := hid ((Touch.refl (fun _ => False) w).alloc (.cells #[.string ⟨#[]⟩, .slice none 0 0, .slice none 0 0, .string ⟨#[]⟩] 26));have HR0 := hid (Blk.new w 26 #[.string ⟨#[]⟩, .slice none 0 0, .slice none 0 0, .string ⟨#[]⟩]);have HX0 := hid (HX.out.fresh HF0.out);go_enter Tryd.func17, Tryd.ntmps17;go_wp2_with fail
 refine (xspace_any S g 0 l _ hS HX0.out).mono ?_;rintro _ w1 ⟨rfl, ht, hx⟩;have hgl := HGL.out;have HX1 := hid hx;have HT1 := hid (show Touch (fun b => b = g) w w1 from (HF0.out.mono fun _ h => h.elim).trans ht);have HR1 := hid (ht.blk HR0.out fun h => by omega);clear ht hx HX0 HF0 HR0 HX;generalize decide ((l.dropWhile white).length < l.length) = z0;go_wp2_with fail
 have HE60 := hid (show Calls Tryd.prog 25 #[.pointer (some ⟨g, 0, none⟩), .int .u8 60] w1 fun e w' => XU S g w1 (expectR 60 0 (l.dropWhile white)) e w' from xexpect_any S g 0 60 _ w1 hS HX1.out);refine HE60.out.mono ?_;intro e w2 he;cases hr : expectR 60 0 (l.dropWhile white) with
 | bad l3 =>
  have HFIN := hid (doc_bad hr);rw [hr] at he;obtain ⟨rfl, ht⟩ := he;refine ⟨rfl, (?_ : XE S g w (documentR l) _ _)⟩;rw [HFIN.out];exact ⟨rfl, HT1.out.trans ht⟩
 | ok u l1 c1 =>
 have hc1 := expectR_cnt hr;rw [hc1] at hr;have HDK := hid (doc_ok hr);rw [hr] at he;obtain ⟨rfl, ht, hx⟩ := he;have HX2 := hid hx;have HT2 := hid (HT1.out.trans ht);have HR2 := hid (ht.blk HR1.out fun h => by omega);clear ht hx hr hc1 HE60 HX1 HT1 HR1 c1;go_wp2_with fail
 have HEC := hid (HEL.out 1 l1 0 w2 (by decide) HX2.out);refine HEC.out.mono ?_;intro e w3 he;cases hr : elementR 64 l1 0 with
 | bad l3 =>
  have HFIN := hid (show documentR l = .bad l3 by rw [HDK.out, hr]; rfl);rw [hr] at he;obtain ⟨rfl, ht⟩ := he;refine ⟨rfl, (?_ : XE S g w (documentR l) _ _)⟩;rw [HFIN.out];exact ⟨rfl, HT2.out.trans ht⟩
 | ok x l2 c2 =>
 have HRR := hid hr;obtain ⟨en, eats, eks, etx⟩ := x;rw [hr] at he;obtain ⟨ea, ek, rfl, ht, hst, hx⟩ := he;obtain ⟨Aa, ca, hea⟩ := hst.now.1.slice;obtain ⟨Ab, cb, hek⟩ := hst.now.2.1.slice;simp only [E.kids, E.attrs] at hea hek;subst hea hek;unfold ev;simp only [E.name, E.text];have HX3 := hid hx;have HT3 := hid (HT2.out.trans ht);have HR3 := hid (ht.blk HR2.out fun h => by omega);have hr2 := HR2.out.lt;have HST3 := hid (show Stab (fun k => k < w.heap.size + 1) w3 fun W => RepV W (.mk en eats eks etx) (.slice Aa eats.length ca) (.slice Ab eks.length cb) from hst.mono fun i _ hi => by omega);clear ht hst hx hr HEC HX2 HT2 HR2 hr2;go_wp2_with fail
 have HT4 := hid (HT3.out.alloc (.cells #[.string ⟨en.toArray⟩, .slice Aa eats.length ca, .slice Ab eks.length cb, .string ⟨etx.toArray⟩] 26));have HX4 := hid (HX3.out.fresh ((Touch.refl _ w3).alloc (.cells #[.string ⟨en.toArray⟩, .slice Aa eats.length ca, .slice Ab eks.length cb, .string ⟨etx.toArray⟩] 26)));have HR4 := hid (HR3.out.alloc (.cells #[.string ⟨en.toArray⟩, .slice Aa eats.length ca, .slice Ab eks.length cb, .string ⟨etx.toArray⟩] 26));have HB4 := hid (Blk.new w3 26 #[.string ⟨en.toArray⟩, .slice Aa eats.length ca, .slice Ab eks.length cb, .string ⟨etx.toArray⟩]);have HST4 := hid (HST3.out.fresh ((Touch.refl _ w3).alloc (.cells #[.string ⟨en.toArray⟩, .slice Aa eats.length ca, .slice Ab eks.length cb, .string ⟨etx.toArray⟩] 26)));generalize (w3.alloc (.cells #[.string ⟨en.toArray⟩, .slice Aa eats.length ca, .slice Ab eks.length cb, .string ⟨etx.toArray⟩] 26)) = W4 at HT4 HX4 HR4 HB4 HST4 ⊢;obtain ⟨E3, hE3⟩ : ∃ k, k = w3.heap.size := ⟨_, rfl⟩;have hge : w.heap.size < E3 := by have := HR3.out.lt; omega
 rw [← hE3] at HB4 ⊢;clear HT3 HX3 HR3 HST3 hE3;refine (xspace_any S g c2 l2 _ hS HX4.out).mono ?_;rintro _ w5 ⟨rfl, ht, hx⟩;have HX5 := hid hx;have HT5 := hid (HT4.out.trans ht);have HR5 := hid (ht.blk HR4.out fun h => by omega);have HB5 := hid (ht.blk HB4.out fun h => by omega);have HST5 := hid (HST4.out.step ht (fun i _ hi => by show i < w.heap.size + 1; omega) fun i _ hi => hi);clear ht hx HX4 HT4 HR4 HB4 HST4;generalize decide ((l2.dropWhile white).length < l2.length) = z1;obtain ⟨q0, q1, q2, _, _, _, hg5⟩ := blk3 HX5.out.blk;have hle := HX5.out.len;cases hd : l2.dropWhile white with
 | cons b l3 =>
  have HFIN := hid (show documentR l = .bad (b :: l3) by rw [HDK.out, HRR.out]; exact docK_more hd);have HX6 := hid (show Xr S g (b :: l3) c2 w5 by rw [← hd]; exact HX5.out);rw [hd] at q1 hle;rw [List.length_cons] at hle;have d1 : decide (((S.size - (b :: l3).length : Nat) : Int) < (S.size : Int)) = true := dT (by rw [List.length_cons]; omega);have d1n : decide (S.size - (b :: l3).length < S.size) = true := dT (by rw [List.length_cons]; omega);generalize S.size - (b :: l3).length = k at q1 d1 d1n;go_wp2_with fail
  go_quiet (fail)
  go_wp2_with fail
  refine (xstop_any S g (b :: l3) c2 _ (HX6.out.fresh ((Touch.refl _ _).drewN _))).mono ?_;rintro _ w6 ⟨rfl, hw⟩;subst hw;refine ⟨rfl, (?_ : XE S g w (documentR l) _ _)⟩;rw [HFIN.out];exact ⟨rfl, HT5.out.drewN _⟩
 | nil =>
  have HFIN := hid (show documentR l = .ok (.mk en eats eks etx) [] c2 by rw [HDK.out, HRR.out]; exact docK_nil hd);have HX6 := hid (show Xr S g [] c2 w5 by rw [← hd]; exact HX5.out);rw [hd] at q1;rw [show S.size - ([] : List UInt8).length = S.size from rfl] at q1;have d1 : decide ((S.size : Int) < (S.size : Int)) = false := dF (by omega);have d1n : decide (S.size < S.size) = false := dF (by omega);go_wp2_with fail
  go_quiet (fail)
  refine forget_world (fun W => Fresh w5 W) ((Touch.refl _ _).drewN _) ?_;rintro w6 hf6;have HX7 := hid (HX6.out.fresh hf6);have HT7 := hid (HT5.out.trans (hf6.mono fun _ h => h.elim));have HR7 := hid (hf6.blk HR5.out fun h => h);have HB7 := hid (hf6.blk HB5.out fun h => h);have HST7 := hid (HST5.out.fresh hf6);clear hf6 q0 q1 q2 d1 d1n hd HX5 HT5 HR5 HB5 HST5 HX6;obtain ⟨e0, e1, e2, e3, _, _, _, _, _⟩ := Blk.four HB7.out;obtain ⟨_, _, _, _, z0, z1, z2, z3, hlz⟩ := Blk.four HR7.out;obtain ⟨t0, t1, t2, t3, _, _, _, _, _⟩ := Blk.four (HR7.out.self4 (.string ⟨en.toArray⟩) (.slice Aa eats.length ca) (.slice Ab eks.length cb) (.string ⟨etx.toArray⟩));simp only [put4] at t0 t1 t2 t3;have ht4 := (Touch.refl (fun k => k = w.heap.size) w6).put4 (g := w.heap.size) (.inl rfl) (.string ⟨en.toArray⟩) (.slice Aa eats.length ca) (.slice Ab eks.length cb) (.string ⟨etx.toArray⟩)
  have HDN := hid (show XE S g w (.ok (.mk en eats eks etx) [] c2) (.returned (.agg #[.string ⟨en.toArray⟩, .slice Aa eats.length ca, .slice Ab eks.length cb, .string ⟨etx.toArray⟩])) (put4 w6 w.heap.size (.string ⟨en.toArray⟩) (.slice Aa eats.length ca) (.slice Ab eks.length cb) (.string ⟨etx.toArray⟩)) from
   ⟨_, _, rfl, HT7.out.put4 (.inr (Nat.le_refl _)) _ _ _ _, HST7.out.step ht4 (fun i _ hi => by show i < w.heap.size + 1; omega) (fun i _ hi => by show i < w.heap.size + 1; omega), HX7.out.move ht4 (by omega)⟩)
  clear ht4;go_wp2_with fail
  refine bodyPost_ret (v := .agg #[.string ⟨en.toArray⟩, .slice Aa eats.length ca, .slice Ab eks.length cb, .string ⟨etx.toArray⟩]) (by simp [results, Tryd.results17, go_sem, t0, t1, t2, t3]) rfl ?_;rw [HFIN.out];exact HDN.out
theorem run_typeAssert_hit {P : Program} (v : Value) (xT t : TypeId) (w : World) (ht : P.underlying t = some (.int .i64)) : (Instr.typeAssert (.iface t v) xT t true).run P w = .ok (.tuple #[v, .bool true]) w := by
 simp [Instr.typeAssert, run_underlying ht]
theorem xcatch_fault (k b ba br : Nat) (pv : Addr) (w : World) {ta te : TypeId} {x0 x1 x2 x3 xa xr : Value} (hb : Blk w b 26 #[x0, x1, x2, x3]) (ha : Blk w ba ta #[xa]) (hr : Blk w br te #[xr]) (h1 : b ≠ ba) (h2 : b ≠ br) (h3 : ba ≠ br) :
  CallsD Tryd.prog 16 #[.pointer (some ⟨b, 0, none⟩), .pointer (some ⟨ba, 0, none⟩), .pointer (some ⟨br, 0, none⟩), .pointer (some pv)] (.panicking (flt k)) w fun e u' w' =>
   e = .returned (.tuple #[]) ∧ u' = .panicking [{ v := .iface 44 (.int .i64 (k : Int)), recovered := true }] ∧ w' = ((put4 w b (.string ⟨#[]⟩) (.slice none 0 0) (.slice none 0 0) (.string ⟨#[]⟩)).setCell ⟨ba, 0, none⟩ (.int .i64 (k : Int))).setCell ⟨br, 0, none⟩ (.int .i64 3) := by
 unfold flt;refine callsD_of_wpS Tryd.func16 rfl fun c₀ cs hu => ?_
 apply wpS_seq
 apply wpS_region
 simp [wpOpsS, go_sem, recoverD, hu, Tryd.ntmps16, Exit.thenS]
 refine wpS_of_wp ?_;have hta := fun (w : World) => run_typeAssert_hit (P := Tryd.prog) (.int .i64 (k : Int)) 20 44 w Tryd.underlying44
 obtain ⟨e0, e1, e2, e3, y0, y1, y2, y3, hlb⟩ := Blk.four hb;have a0 : w.cell? ⟨ba, 0, none⟩ = some xa := ha.cell 0;have a1 := ha.frozen 0;have r0 : w.cell? ⟨br, 0, none⟩ = some xr := hr.cell 0;have r1 := hr.frozen 0;have hla := ha.lt;have hlr := hr.lt;have h1' : ba ≠ b := fun h => h1 h.symm
 have h2' : br ≠ b := fun h => h2 h.symm
 have h3' : br ≠ ba := fun h => h3 h.symm
 clear hb ha hr;show Code.wp Tryd.prog _ _ { tmps := #[.pointer (some ⟨b, 0, none⟩), .pointer (some ⟨ba, 0, none⟩), .pointer (some ⟨br, 0, none⟩), .pointer (some pv), undef, undef, undef, .iface 44 (.int .i64 (k : Int)), undef, undef, undef, undef, undef, undef, undef, undef, undef, undef, undef], defers := [] } w;go_wp2_with fail
 exact ⟨rfl, _, rfl, _, results_none rfl _ _ _, rfl, rfl, rfl⟩
theorem xcatch_idle (pe pa pr pv : Addr) (w : World) :
  CallsD Tryd.prog 16 #[.pointer (some pe), .pointer (some pa), .pointer (some pr), .pointer (some pv)] .returning w fun e u' w' =>
   e = .returned (.tuple #[]) ∧ u' = .returning ∧ w' = w := by
 refine callsD_of_wpS Tryd.func16 rfl fun c₀ cs hu => ?_
 apply wpS_seq
 apply wpS_region
 simp [wpOpsS, go_sem, recoverD, hu, Tryd.ntmps16, Exit.thenS]
 refine wpS_of_wp ?_;show Code.wp Tryd.prog _ _ { tmps := #[.pointer (some pe), .pointer (some pa), .pointer (some pr), .pointer (some pv), undef, undef, undef, .nilIface, undef, undef, undef, undef, undef, undef, undef, undef, undef, undef, undef], defers := [] } w;go_wp2_with fail
 cases c₀;simp_all [bodyPostS, results, Tryd.results16]
theorem blk_new_at {w : World} {n : Nat} (hn : w.heap.size = n) (t : TypeId) (cs : Array Value) : Blk (w.alloc (.cells cs t)) n t cs := hn ▸ Blk.new w t cs
theorem parse_bad {T l9 : List UInt8} (h : documentR T = .bad l9) : parseX T = (nilE, ((T.length - l9.length : Nat) : Int), 3) := by
 unfold parseX;rw [h];have := (Xp.documentR_left T).len;rw [h] at this;have h2 : l9.length ≤ T.length := this;show (nilE, (T.length : Int) - l9.length, (3 : Int)) = _;rw [show (T.length : Int) - l9.length = ((T.length - l9.length : Nat) : Int) by omega]
theorem parse_ok {T l9 : List UInt8} {x : E} {c : Nat} (h : documentR T = .ok x l9 c) : parseX T = (x, 0, 0) := by unfold parseX; rw [h]
theorem xparse_any (S : ByteArray) (w : World) (hS : S.size ≤ 1099511627776) : Calls Tryd.prog 7 #[.string S] w fun e w' => ∃ va vk, e = .returned (.tuple #[ev (parseX S.data.toList).1 va vk, .int .i64 (parseX S.data.toList).2.1, .int .i64 (parseX S.data.toList).2.2]) ∧ Made w w' fun W => RepV W (parseX S.data.toList).1 va vk := by
 have hmf : ∀ (fn : Fn) (first cap : Array Value) (w : World), (Instr.makeFunc fn first cap).run Tryd.prog w = .ok (.func fn first cap) w := fun _ _ _ _ => rfl
 have HE0 := hid (show Blk (((((w.alloc (.cells #[.string ⟨#[]⟩, .slice none 0 0, .slice none 0 0, .string ⟨#[]⟩] 26)).alloc (.cells #[.int .i64 0] 3)).alloc (.cells #[.int .i64 0] 27)).alloc (.cells #[.string S, .int .i64 0, .int .i64 0] 43)).alloc (.cells #[.pointer (some ⟨w.heap.size + 1 + 1 + 1, 0, none⟩)] 41)) w.heap.size 26 #[.string ⟨#[]⟩, .slice none 0 0, .slice none 0 0, .string ⟨#[]⟩] from ((((Blk.new w _ _).alloc _).alloc _).alloc _).alloc _);have HA0 := hid (show Blk (((((w.alloc (.cells #[.string ⟨#[]⟩, .slice none 0 0, .slice none 0 0, .string ⟨#[]⟩] 26)).alloc (.cells #[.int .i64 0] 3)).alloc (.cells #[.int .i64 0] 27)).alloc (.cells #[.string S, .int .i64 0, .int .i64 0] 43)).alloc (.cells #[.pointer (some ⟨w.heap.size + 1 + 1 + 1, 0, none⟩)] 41)) (w.heap.size + 1) 3 #[.int .i64 0] from (((blk_new_at (by simp) _ _).alloc _).alloc _).alloc _);have HR0 := hid (show Blk (((((w.alloc (.cells #[.string ⟨#[]⟩, .slice none 0 0, .slice none 0 0, .string ⟨#[]⟩] 26)).alloc (.cells #[.int .i64 0] 3)).alloc (.cells #[.int .i64 0] 27)).alloc (.cells #[.string S, .int .i64 0, .int .i64 0] 43)).alloc (.cells #[.pointer (some ⟨w.heap.size + 1 + 1 + 1, 0, none⟩)] 41)) (w.heap.size + 1 + 1) 27 #[.int .i64 0] from ((blk_new_at (by simp) _ _).alloc _).alloc _);have HG0 := hid (show Blk (((((w.alloc (.cells #[.string ⟨#[]⟩, .slice none 0 0, .slice none 0 0, .string ⟨#[]⟩] 26)).alloc (.cells #[.int .i64 0] 3)).alloc (.cells #[.int .i64 0] 27)).alloc (.cells #[.string S, .int .i64 0, .int .i64 0] 43)).alloc (.cells #[.pointer (some ⟨w.heap.size + 1 + 1 + 1, 0, none⟩)] 41)) (w.heap.size + 1 + 1 + 1) 43 #[.string S, .int .i64 0, .int .i64 0] from (blk_new_at (by simp) _ _).alloc _);have HP0 := hid (show Blk (((((w.alloc (.cells #[.string ⟨#[]⟩, .slice none 0 0, .slice none 0 0, .string ⟨#[]⟩] 26)).alloc (.cells #[.int .i64 0] 3)).alloc (.cells #[.int .i64 0] 27)).alloc (.cells #[.string S, .int .i64 0, .int .i64 0] 43)).alloc (.cells #[.pointer (some ⟨w.heap.size + 1 + 1 + 1, 0, none⟩)] 41)) (w.heap.size + 1 + 1 + 1 + 1) 41 #[.pointer (some ⟨w.heap.size + 1 + 1 + 1, 0, none⟩)] from blk_new_at (by simp) _ _);have HF0 := hid (show Fresh w (((((w.alloc (.cells #[.string ⟨#[]⟩, .slice none 0 0, .slice none 0 0, .string ⟨#[]⟩] 26)).alloc (.cells #[.int .i64 0] 3)).alloc (.cells #[.int .i64 0] 27)).alloc (.cells #[.string S, .int .i64 0, .int .i64 0] 43)).alloc (.cells #[.pointer (some ⟨w.heap.size + 1 + 1 + 1, 0, none⟩)] 41)) from (((((Touch.refl _ w).alloc _).alloc _).alloc _).alloc _).alloc _)
 go_enter_defers Tryd.func7, Tryd.ntmps7
 go_wp2_with fail
 generalize (((((w.alloc (.cells #[.string ⟨#[]⟩, .slice none 0 0, .slice none 0 0, .string ⟨#[]⟩] 26)).alloc (.cells #[.int .i64 0] 3)).alloc (.cells #[.int .i64 0] 27)).alloc (.cells #[.string S, .int .i64 0, .int .i64 0] 43)).alloc (.cells #[.pointer (some ⟨w.heap.size + 1 + 1 + 1, 0, none⟩)] 41)) = w5 at HE0 HA0 HR0 HG0 HP0 HF0 ⊢;have HX0 := hid (show Xr S (w.heap.size + 1 + 1 + 1) S.data.toList 0 w5 from ⟨by rw [show S.size - S.data.toList.length = 0 by simp]; exact HG0.out, Sfx.refl _⟩);clear HG0;refine (xdoc_any S (w.heap.size + 1 + 1 + 1) S.data.toList w5 hS HX0.out).mono ?_;intro e w6 he;cases hr : documentR S.data.toList with
 | bad l9 =>
  have HPB := hid (parse_bad hr);rw [hr] at he;obtain ⟨rfl, ht⟩ := he;have HE6 := hid (ht.blk HE0.out fun h => by omega);have HA6 := hid (ht.blk HA0.out fun h => by omega);have HR6 := hid (ht.blk HR0.out fun h => by omega);have HF6 := hid (HF0.out.trans' ht fun k hk => .inr (by omega));clear ht hr HE0 HA0 HR0 HP0 HF0 HX0;refine leaves_cons (f := 16) (args := #[.pointer (some ⟨w.heap.size, 0, none⟩), .pointer (some ⟨w.heap.size + 1, 0, none⟩), .pointer (some ⟨w.heap.size + 1 + 1, 0, none⟩), .pointer (some ⟨w.heap.size + 1 + 1 + 1 + 1, 0, none⟩)]) (by simp) (by simp [go_sem]) ?_;refine (xcatch_fault (S.size - l9.length) w.heap.size (w.heap.size + 1) (w.heap.size + 1 + 1) _ w6 HE6.out HA6.out HR6.out (by omega) (by omega) (by omega)).mono ?_;rintro e u' w7 ⟨rfl, rfl, hw⟩;have hE7 : Blk w7 w.heap.size 26 #[.string ⟨#[]⟩, .slice none 0 0, .slice none 0 0, .string ⟨#[]⟩] := by rw [hw]; exact ((HE6.out.self4 _ _ _ _).far (p := ⟨w.heap.size + 1, 0, none⟩) (by show w.heap.size ≠ w.heap.size + 1; omega) _).far (p := ⟨w.heap.size + 1 + 1, 0, none⟩) (by show w.heap.size ≠ w.heap.size + 1 + 1; omega) _
  have hA7 : Blk w7 (w.heap.size + 1) 3 #[.int .i64 ((S.size - l9.length : Nat) : Int)] := by rw [hw]; exact ((HA6.out.far4 (by omega) _ _ _ _).put 0 _).far (p := ⟨w.heap.size + 1 + 1, 0, none⟩) (by show w.heap.size + 1 ≠ w.heap.size + 1 + 1; omega) _
  have hR7 : Blk w7 (w.heap.size + 1 + 1) 27 #[.int .i64 3] := by rw [hw]; exact (((HR6.out.far4 (by omega) _ _ _ _).far (p := ⟨w.heap.size + 1, 0, none⟩) (by show w.heap.size + 1 + 1 ≠ w.heap.size + 1; omega) _).put 0 _)
  have hF7 : Fresh w w7 := by rw [hw]; exact HF6.out.trans' ((((Touch.refl (fun k => w.heap.size ≤ k) w6).put4 (.inl (Nat.le_refl _)) _ _ _ _).setCell (p := ⟨w.heap.size + 1, 0, none⟩) (.inl (Nat.le_succ _)) _).setCell (p := ⟨w.heap.size + 1 + 1, 0, none⟩) (.inl (by show w.heap.size ≤ w.heap.size + 1 + 1; omega)) _) fun k hk => .inr hk
  clear hw HE6 HA6 HR6 HF6;obtain ⟨e0, e1, e2, e3, _⟩ := Blk.four hE7;have a0 : w7.cell? ⟨w.heap.size + 1, 0, none⟩ = some (.int .i64 ((S.size - l9.length : Nat) : Int)) := hA7.cell 0;have r0 : w7.cell? ⟨w.heap.size + 1 + 1, 0, none⟩ = some (.int .i64 3) := hR7.cell 0;refine ⟨.tuple #[.agg #[.string ⟨#[]⟩, .slice none 0 0, .slice none 0 0, .string ⟨#[]⟩], .int .i64 ((S.size - l9.length : Nat) : Int), .int .i64 3], by simp [results, Tryd.results7, go_sem, e0, e1, e2, e3, a0, r0], ?_⟩;rw [HPB.out];have hlS : S.data.toList.length = S.size := by simp
  refine ⟨.slice none 0 0, .slice none 0 0, by rw [hlS]; rfl, hF7, fun W _ => ⟨RepA.nil _ _ _, RepE.nil none 0, Nat.zero_le _, Nat.zero_le _⟩⟩
 | ok x l9 c9 =>
  have HPB := hid (parse_ok hr);obtain ⟨en, eats, eks, etx⟩ := x;rw [hr] at he;obtain ⟨ea, ek, rfl, ht, hst, hx⟩ := he;obtain ⟨Aa, ca, hea⟩ := hst.now.1.slice;obtain ⟨Ab, cb, hek⟩ := hst.now.2.1.slice;simp only [E.kids, E.attrs] at hea hek;subst hea hek;unfold ev;simp only [E.name, E.text];have HE6 := hid (ht.blk HE0.out fun h => by omega);have HA6 := hid (ht.blk HA0.out fun h => by omega);have HR6 := hid (ht.blk HR0.out fun h => by omega);have HF6 := hid (HF0.out.trans' ht fun k hk => .inr (by omega));have HST6 := hid (show Stab (fun k => k < w5.heap.size) w6 fun W => RepV W (.mk en eats eks etx) (.slice Aa eats.length ca) (.slice Ab eks.length cb) from hst);have hsz := HP0.out.lt;clear ht hst hx hr HE0 HA0 HR0 HP0 HF0 HX0;obtain ⟨e0, e1, e2, e3, y0, y1, y2, y3, hlb⟩ := Blk.four HE6.out;have a0 : w6.cell? ⟨w.heap.size + 1, 0, none⟩ = some (.int .i64 0) := HA6.out.cell 0;have a1 := HA6.out.frozen 0;have r0 : w6.cell? ⟨w.heap.size + 1 + 1, 0, none⟩ = some (.int .i64 0) := HR6.out.cell 0;have r1 := HR6.out.frozen 0;go_wp2_with fail
  refine leaves_cons (f := 16) (args := #[.pointer (some ⟨w.heap.size, 0, none⟩), .pointer (some ⟨w.heap.size + 1, 0, none⟩), .pointer (some ⟨w.heap.size + 1 + 1, 0, none⟩), .pointer (some ⟨w.heap.size + 1 + 1 + 1 + 1, 0, none⟩)]) (by simp) (by simp [go_sem]) ?_;refine (xcatch_idle _ _ _ _ _).mono ?_;rintro e u' w7 ⟨rfl, rfl, hw⟩;clear e0 e1 e2 e3 y0 y1 y2 y3 hlb a0 a1 r0 r1;replace hw : w7 = ((put4 w6 w.heap.size (.string ⟨en.toArray⟩) (.slice Aa eats.length ca) (.slice Ab eks.length cb) (.string ⟨etx.toArray⟩)).setCell ⟨w.heap.size + 1, 0, none⟩ (.int .i64 0)).setCell ⟨w.heap.size + 1 + 1, 0, none⟩ (.int .i64 0) := hw;have hE7 : Blk w7 w.heap.size 26 #[.string ⟨en.toArray⟩, .slice Aa eats.length ca, .slice Ab eks.length cb, .string ⟨etx.toArray⟩] := by rw [hw]; exact ((HE6.out.self4 _ _ _ _).far (p := ⟨w.heap.size + 1, 0, none⟩) (by show w.heap.size ≠ w.heap.size + 1; omega) _).far (p := ⟨w.heap.size + 1 + 1, 0, none⟩) (by show w.heap.size ≠ w.heap.size + 1 + 1; omega) _
  have hA7 : Blk w7 (w.heap.size + 1) 3 #[.int .i64 0] := by rw [hw]; exact ((HA6.out.far4 (by omega) _ _ _ _).put 0 _).far (p := ⟨w.heap.size + 1 + 1, 0, none⟩) (by show w.heap.size + 1 ≠ w.heap.size + 1 + 1; omega) _
  have hR7 : Blk w7 (w.heap.size + 1 + 1) 27 #[.int .i64 0] := by rw [hw]; exact (((HR6.out.far4 (by omega) _ _ _ _).far (p := ⟨w.heap.size + 1, 0, none⟩) (by show w.heap.size + 1 + 1 ≠ w.heap.size + 1; omega) _).put 0 _)
  have hT7 : Touch (fun k => k = w.heap.size ∨ k = w.heap.size + 1 ∨ k = w.heap.size + 1 + 1) w6 w7 := by rw [hw]; exact (((Touch.refl (fun k => k = w.heap.size ∨ k = w.heap.size + 1 ∨ k = w.heap.size + 1 + 1) w6).put4 (.inl (.inl rfl)) _ _ _ _).setCell (p := ⟨w.heap.size + 1, 0, none⟩) (.inl (.inr (.inl rfl))) _).setCell (p := ⟨w.heap.size + 1 + 1, 0, none⟩) (.inl (.inr (.inr rfl))) _
  clear hw HE6 HA6 HR6;obtain ⟨e0, e1, e2, e3, _⟩ := Blk.four hE7;have a0 : w7.cell? ⟨w.heap.size + 1, 0, none⟩ = some (.int .i64 0) := hA7.cell 0;have r0 : w7.cell? ⟨w.heap.size + 1 + 1, 0, none⟩ = some (.int .i64 0) := hR7.cell 0;refine ⟨.tuple #[.agg #[.string ⟨en.toArray⟩, .slice Aa eats.length ca, .slice Ab eks.length cb, .string ⟨etx.toArray⟩], .int .i64 0, .int .i64 0], by simp [results, Tryd.results7, go_sem, e0, e1, e2, e3, a0, r0], ?_⟩;rw [HPB.out];exact ⟨.slice Aa eats.length ca, .slice Ab eks.length cb, rfl, HF6.out.trans' hT7 fun k hk => .inr (by omega), HST6.out.step hT7 (fun i _ hi => by show i < w5.heap.size; omega) fun i _ hi => by show i < w5.heap.size; omega⟩
end Go.Proofs.YtnkmccgpmmnfeaaDoor
namespace Go.Proofs.YtnkmccgpmmnfeaaDoor
open Go.RowKit
open Xp (parseX documentR nilE)
open El (E Attrs)
def xe1 : E := .mk [109] [([97], [60, 49, 62])] [.mk [110] [] [] [120, 32, 38, 32, 121]] []
theorem RepA.one {W : World} {x : List UInt8 × List UInt8} {v : Value} (h : RepA W [x] v) : ∃ g o cap, v = .slice (some ⟨g, o, none⟩) 1 cap ∧ 1 ≤ cap ∧ g < W.heap.size ∧ W.cell? ⟨g, o, none⟩ = some (.string ⟨x.1.toArray⟩) ∧ W.cell? ⟨g, o + 1, none⟩ = some (.string ⟨x.2.toArray⟩) := by
 obtain ⟨A, cap, rfl, h2, _, h4⟩ := h
 rcases h4 with h4 | ⟨g, o, rfl, hg, hc⟩
 ·cases h4
 ·have := hc 0 (by simp)
  exact ⟨g, o, cap, rfl, h2.2, hg, by simpa using this.1, by simpa using this.2⟩
theorem awake23_any (w : World) : Calls Tryd.prog 6 #[] w fun e w' => e = .returned (.bool true) ∧ Fresh w w' := by
 have HP1 := hid (fun W : World => show Calls Tryd.prog 7 #[.string ⟨#[60, 109, 32, 97, 61, 34, 38, 108, 116, 59, 49, 38, 103, 116, 59, 34, 62, 60, 110, 62, 120, 32, 38, 97, 109, 112, 59, 32, 121, 60, 47, 110, 62, 60, 47, 109, 62]⟩] W fun e w' => ∃ va vk, e = .returned (.tuple #[ev xe1 va vk, .int .i64 0, .int .i64 0]) ∧ Made W w' fun W => RepV W xe1 va vk by
  have h := xparse_any ⟨#[60, 109, 32, 97, 61, 34, 38, 108, 116, 59, 49, 38, 103, 116, 59, 34, 62, 60, 110, 62, 120, 32, 38, 97, 109, 112, 59, 32, 121, 60, 47, 110, 62, 60, 47, 109, 62]⟩ W (by decide);rw [show parseX (⟨#[60, 109, 32, 97, 61, 34, 38, 108, 116, 59, 49, 38, 103, 116, 59, 34, 62, 60, 110, 62, 120, 32, 38, 97, 109, 112, 59, 32, 121, 60, 47, 110, 62, 60, 47, 109, 62]⟩ : ByteArray).data.toList = (xe1, 0, 0) by kernel_rfl] at h;exact h)
 have HP2 := hid (fun W : World => show Calls Tryd.prog 7 #[.string ⟨#[60, 97, 62, 60, 47, 98, 62]⟩] W fun e w' => ∃ va vk, e = .returned (.tuple #[ev nilE va vk, .int .i64 5, .int .i64 3]) ∧ Made W w' fun W => RepV W nilE va vk by
  have h := xparse_any ⟨#[60, 97, 62, 60, 47, 98, 62]⟩ W (by decide);rw [show parseX (⟨#[60, 97, 62, 60, 47, 98, 62]⟩ : ByteArray).data.toList = (nilE, 5, 3) by kernel_rfl] at h;exact h)
 go_enter Tryd.func6, Tryd.ntmps6;go_wp2_with fail
 refine (HP1.out _).mono ?_;rintro _ w1 ⟨va, vk, rfl, hf1, hst1⟩;have HF1 := hid hf1;have hr1 := hst1.now;obtain ⟨ga, oa, ca, hva, hca, hga, ha0, ha1⟩ := RepA.one (x := ([97], [60, 49, 62])) hr1.1;obtain ⟨Ak, ck, hvk⟩ := hr1.2.1.slice;replace hvk : vk = .slice Ak 1 ck := hvk;subst hva hvk;obtain ⟨gk, ok, xa, xk, hAk, hek⟩ := hr1.2.1.elAt 0 (by decide);subst hAk;replace hek : ElAt w1 gk (ok + 0 * 4) (.mk [110] [] [] [120, 32, 38, 32, 121]) xa xk := hek;rw [Nat.zero_mul, Nat.add_zero] at hek;have hk3 : w1.cell? ⟨gk, ok + 3, none⟩ = some (.string ⟨#[120, 32, 38, 32, 121]⟩) := hek.2.2.2.2.1;have hgk := hek.1;clear hf1 hst1 hr1 hek;unfold ev xe1;simp only [E.name, E.text];go_wp2_with fail
 have HB1 := hid (Blk.new w1 26 #[.string ⟨#[109]⟩, .slice (some ⟨ga, oa, none⟩) 1 ca, .slice (some ⟨gk, ok, none⟩) 1 ck, .string ⟨#[]⟩]);have HW1 := hid (show Fresh w1 (w1.alloc (.cells #[.string ⟨#[109]⟩, .slice (some ⟨ga, oa, none⟩) 1 ca, .slice (some ⟨gk, ok, none⟩) 1 ck, .string ⟨#[]⟩] 26)) from (Touch.refl _ w1).alloc _);generalize (w1.alloc (.cells #[.string ⟨#[109]⟩, .slice (some ⟨ga, oa, none⟩) 1 ca, .slice (some ⟨gk, ok, none⟩) 1 ck, .string ⟨#[]⟩] 26)) = W1 at HB1 HW1 ⊢;refine (HP2.out _).mono ?_;rintro _ w2 ⟨va, vk, rfl, hf2, hst2⟩;obtain ⟨A2, c2, hva⟩ := hst2.now.1.slice;obtain ⟨B2, d2, hvk⟩ := hst2.now.2.1.slice;replace hva : va = .slice A2 0 c2 := hva;replace hvk : vk = .slice B2 0 d2 := hvk;subst hva hvk;have HF2 := hid (HW1.out.trans hf2);have HB2 := hid (hf2.blk HB1.out fun h => h);have b1 := HF2.out.cell ha1 (fun h => h);have b2 := HF2.out.cell hk3 (fun h => h);have hga2 : ga < w2.heap.size := Nat.lt_of_lt_of_le hga HF2.out.size;have hgk2 : gk < w2.heap.size := Nat.lt_of_lt_of_le hgk HF2.out.size;obtain ⟨q0, q1, q2, q3, _, _, _, _, hlt⟩ := Blk.four HB2.out;clear hf2 hst2 ha0 ha1 hk3 HB1 HW1;unfold ev nilE;simp only [E.name, E.text];go_wp2_with fail
 go_ret;exact ⟨ret_bool' _ _ (by decide), (HF1.out.trans HF2.out).alloc _⟩
end Go.Proofs.YtnkmccgpmmnfeaaDoor
namespace Go.Proofs.YtnkmccgpmmnfeaaDoor
open Go.ChangeShapes Go.WideShapes Go.ChangeAt Go.RowKit
open Go.ChangeMaps (open_string shut_string)
open Xp (Sfx parseX documentR nilE)
open El (E Attrs)
theorem parse_at_le {T : List UInt8} : (parseX T).2.2 = 0 ∧ (parseX T).2.1 = 0 ∨ (parseX T).2.2 = 3 ∧ ∃ q l, T = q ++ l ∧ (parseX T).2.1 = (q.length : Int) ∧ documentR T = .bad l := by
 cases h : documentR T with
 | ok e l c => left; rw [parse_ok h]; exact ⟨rfl, rfl⟩
 | bad l =>
  right
  have hs := Xp.documentR_left T;rw [h] at hs;obtain ⟨q, hq⟩ := hs;have hq : T = q ++ l := hq;refine ⟨by rw [parse_bad h], q, l, hq, ?_, rfl⟩;rw [parse_bad h, hq, List.length_append];show (((q.length + l.length - l.length : Nat)) : Int) = _;rw [Nat.add_sub_cancel]
theorem parse_rejects {q l : List UInt8} {b : UInt8} (h : documentR (q ++ b :: l) = .bad (b :: l)) (o : List UInt8) : (parseX (q ++ [b] ++ o)).2 = ((q.length : Int), 3) ∧ ((parseX q).2.2 = 0 ∨ (parseX q).2.1 = (q.length : Int)) := by
 obtain ⟨h1, h2⟩ := Xp.document_rejects q b l h;constructor
 ·rw [List.append_assoc]
  show (parseX (q ++ b :: o)).2 = _;rw [parse_bad (h1 o), List.length_append, Nat.add_sub_cancel]
 ·rcases h2 with h2 | ⟨e, c, h2⟩
  ·right; rw [parse_bad h2]; rfl
  ·left; rw [parse_ok h2]
theorem xmlRejects_any (s t : ByteArray) (w : World) : Calls Tryd.prog 3 #[.string s, .string t] w fun e w' => e = .returned (.bool true) ∧ Fresh w w' := by
 go_enter Tryd.func3, Tryd.ntmps3;go_wp2_with fail
 refine (awake23_any _).mono ?_;rintro _ w1 ⟨rfl, hf1⟩;have HF1 := hid hf1;clear hf1
 by_cases c1 : 2000 < s.size
 ·have d1 : decide ((2000 : Int) < (s.size : Int)) = true := dT (by omega)
  have d1n : decide (2000 < s.size) = true := dT c1;go_wp2_with fail
  go_ret;exact ⟨rfl, HF1.out⟩
 have d1 : decide ((2000 : Int) < (s.size : Int)) = false := dF (by omega);have d1n : decide (2000 < s.size) = false := dF c1
 by_cases c2 : 2000 < t.size
 ·have d2 : decide ((2000 : Int) < (t.size : Int)) = true := dT (by omega)
  have d2n : decide (2000 < t.size) = true := dT c2;go_wp2_with fail
  go_ret;exact ⟨rfl, HF1.out⟩
 have d2 : decide ((2000 : Int) < (t.size : Int)) = false := dF (by omega);have d2n : decide (2000 < t.size) = false := dF c2;go_wp2_with fail
 refine (xparse_any s _ (by omega)).mono ?_;rintro _ w2 ⟨va, vk, rfl, hf2, hst2⟩;have HWAYS := hid (parse_at_le (T := s.data.toList));have HF2 := hid (HF1.out.trans hf2);obtain ⟨A2, c2, hva⟩ := hst2.now.1.slice;obtain ⟨B2, d2', hvk⟩ := hst2.now.2.1.slice;have HSS := hid (show s.data.toList.length = s.size by simp);clear hf2 hst2 d1 d1n d2 d2n HF1;generalize parseX s.data.toList = PR at HWAYS hva hvk ⊢;obtain ⟨⟨xn, xa, xk, xt⟩, at_, er⟩ := PR;simp only [E.kids, E.attrs] at hva hvk;subst hva hvk;unfold ev;simp only [E.name, E.text]
 rcases HWAYS.out with ⟨h1, h2⟩ | ⟨h1, q, l, hq, h2, hd⟩
 ·replace h1 : er = 0 := h1
  replace h2 : at_ = 0 := h2;subst h1 h2;clear HWAYS;go_wp2_with fail
  go_ret;exact ⟨rfl, HF2.out.alloc _⟩
 replace h1 : er = 3 := h1;replace h2 : at_ = (q.length : Int) := h2;subst h1 h2;clear HWAYS;have HQ := hid hq;have HD := hid hd;have hsl : s.size = q.length + l.length := by rw [← HSS.out, hq, List.length_append]
 clear hq hd HSS;obtain ⟨k, hk⟩ : ∃ k, k = q.length := ⟨_, rfl⟩;have HK := hid hk;rw [← hk] at hsl ⊢;clear hk;have dk0 : decide ((k : Int) < (0 : Int)) = false := dF (by omega);have dk1 : decide ((s.size : Int) < (k : Int)) = false := dF (by omega);have dk1n : decide (s.size < k) = false := dF (by omega);cases l with
 | nil =>
  have dk2 : ((k : Int) == (s.size : Int)) = true := by rw [beq_iff_eq, hsl]; simp
  clear hsl;go_wp2_with fail
  go_ret;exact ⟨rfl, HF2.out.alloc _⟩
 | cons b l' =>
 rw [List.length_cons] at hsl;have dk2 : ((k : Int) == (s.size : Int)) = false := by rw [beq_eq_false_iff_ne]; omega
 obtain ⟨m, hm⟩ : ∃ m, m = k + 1 := ⟨_, rfl⟩;have hw : IntKind.i64.wrap ((k : Int) + 1) = (m : Int) := by rw [IntWalk.i64_in _ (by omega)]; omega
 have hm1 : (m : Int) ≤ (s.size : Int) := by omega
 have hm2 : (0 : Int) ≤ (m : Int) := by omega
 have hm3 : m ≤ s.size := by omega
 have hk1 : (k : Int) ≤ (s.size : Int) := by omega
 have hk2 : (0 : Int) ≤ (k : Int) := by omega
 have hk3 : k ≤ s.size := by omega
 have HE2 := hid (show (s.extract 0 m ++ t).data.toList = q ++ [b] ++ t.data.toList by
  rw [Lib.extract_upto, HQ.out, hm, HK.out, ByteArray.data_append, Array.toList_append]
  congr 1
  rw [List.take_append, List.take_of_length_le (by omega), show q.length + 1 - q.length = 1 by omega];rfl)
 have HE3 := hid (show (s.extract 0 k).data.toList = q by
  rw [Lib.extract_upto, HQ.out, HK.out];simp)
 have HZ2 := hid (show (s.extract 0 m ++ t).size ≤ 1099511627776 by rw [ByteArray.size_append, ByteArray.size_extract]; omega);have HZ3 := hid (show (s.extract 0 k).size ≤ 1099511627776 by rw [ByteArray.size_extract]; omega);have hadd := fun W : World => run_string_add_sum (P := Tryd.prog) W (s.extract 0 m) t (by rw [ByteArray.size_extract]; omega)
 have HPR := hid (parse_rejects (by rw [← HQ.out]; exact HD.out) t.data.toList);clear hm hsl;go_wp2_with fail
 have HFA := hid (show Fresh w (w2.alloc (.cells #[.string ⟨xn.toArray⟩, .slice A2 xa.length c2, .slice B2 xk.length d2', .string ⟨xt.toArray⟩] 26)) from HF2.out.alloc _);generalize (w2.alloc (.cells #[.string ⟨xn.toArray⟩, .slice A2 xa.length c2, .slice B2 xk.length d2', .string ⟨xt.toArray⟩] 26)) = W2 at HFA ⊢;clear HF2 hadd hw dk0 dk1 dk1n dk2 hm1 hm2 hm3;refine (xparse_any _ _ HZ2.out).mono ?_;rintro _ w3 ⟨va, vk, rfl, hf3, hst3⟩;have HF3 := hid (HFA.out.trans hf3);obtain ⟨A3, c3, hva⟩ := hst3.now.1.slice;obtain ⟨B3, d3, hvk⟩ := hst3.now.2.1.slice;clear hf3 hst3 HFA;rw [HE2.out] at hva hvk ⊢;have HR2 := hid HPR.out.1;generalize parseX (q ++ [b] ++ t.data.toList) = P2 at HR2 hva hvk ⊢;obtain ⟨⟨yn, ya, yk, yt⟩, a2, r2⟩ := P2;simp only [E.kids, E.attrs] at hva hvk;subst hva hvk;unfold ev;simp only [E.name, E.text];have ha2 : a2 = (k : Int) := by rw [HK.out]; exact (Prod.mk.inj HR2.out).1
 have hr2 : r2 = 3 := (Prod.mk.inj HR2.out).2;subst ha2 hr2;clear HR2;go_wp2_with fail
 have HFA := hid (show Fresh w (w3.alloc (.cells #[.string ⟨yn.toArray⟩, .slice A3 ya.length c3, .slice B3 yk.length d3, .string ⟨yt.toArray⟩] 26)) from HF3.out.alloc _);generalize (w3.alloc (.cells #[.string ⟨yn.toArray⟩, .slice A3 ya.length c3, .slice B3 yk.length d3, .string ⟨yt.toArray⟩] 26)) = W3 at HFA ⊢;clear hk1 hk2 hk3 HF3;refine (xparse_any _ _ HZ3.out).mono ?_;rintro _ w4 ⟨va, vk, rfl, hf4, hst4⟩;have HF4 := hid (HFA.out.trans hf4);obtain ⟨A4, c4, hva⟩ := hst4.now.1.slice;obtain ⟨B4, d4, hvk⟩ := hst4.now.2.1.slice;clear hf4 hst4 HFA;rw [HE3.out] at hva hvk ⊢;have HR3 := hid HPR.out.2;generalize parseX q = P3 at HR3 hva hvk ⊢;obtain ⟨⟨zn, za, zk, zt⟩, a3, r3⟩ := P3;simp only [E.kids, E.attrs] at hva hvk;subst hva hvk;unfold ev;simp only [E.name, E.text]
 by_cases h3 : r3 = 0
 ·subst h3
  go_wp2_with fail
  go_ret;exact ⟨rfl, HF4.out.alloc _⟩
 ·have e3 : (r3 == (0 : Int)) = false := by rw [beq_eq_false_iff_ne]; exact h3
  have ha3 : a3 = (k : Int) := by
   rcases HR3.out with h | h
   ·exact absurd h h3
   ·rw [HK.out]; exact h
  subst ha3;clear h3;go_wp2_with fail
  go_ret;exact ⟨rfl, HF4.out.alloc _⟩
theorem xmlRejects_lifted (os : Os) (started : os.Started) (H : Type) (enc : TypeId × Value → H) :
  ReturnsInHanded {} Tryd.checked os 3 .any (fun w args => (Rows.xmlRejectsSpec.pre enc Tryd.prog Tryd.f3 Rows.xmlRejectsRow.domain false w args ∧ laidMetH Tryd.prog Rows.xmlRejectsRow.laid w) ∧ sizedMet enc Tryd.prog Tryd.f3 (OpenSpec.ofChange Rows.xmlRejectsSpec) false w args)
   (Rows.xmlRejectsSpec.post enc Tryd.prog Tryd.f3 false true false false) := by
 refine returnsInHanded_of_change_and (C := Tryd.checked) (X := fun w _ => laidMetH Tryd.prog Rows.xmlRejectsRow.laid w) (fun _ _ _ hh h => h.of_heap hh) Tryd.ownKnob started (by kernel_rfl) Tryd.func3
  (ChangeSpec.witness_shaped (enc := enc) (C := Tryd.checked) (os := os) (X := fun w _ => laidMetH Tryd.prog Rows.xmlRejectsRow.laid w) false (World.laidAll Tryd.prog os Rows.xmlRejectsRow.laid) #[.string ⟨#[]⟩, .string ⟨#[]⟩] 8 (World.laidAll_os _ _ _)
   (World.shaped_of_ZipB (by kernel_rfl) (by kernel_rfl)) (by kernel_rfl) (by kernel_rfl) (by kernel_rfl)
   (by rw [MakeChecks.laidMetH_plain _ _ _ (by kernel_rfl)]; exact laidMet_laidAll _ (by kernel_rfl) (by kernel_rfl))) ?_
 intro W base args ds gs before hval0 hW _ _ _ _;have hval : ∀ (j : Nat) t v, Tryd.f3.params[j]? = some t → args[j]? = some v → Value.okWide Tryd.prog W .any base t v := hval0;have hW' := hW;obtain ⟨p, q, hA0, hV, rfl, hfz, hnd⟩ := hW;have hA : DataW.TrodAll enc Tryd.prog W 0 (fun _ => true) true Tryd.f3.params.toList args.toList ds p := hA0;rw [Tryd.params3] at hA hval;obtain ⟨v0, v1, d0, d1, p0, p1, rfl, rfl, rfl, h0, h1⟩ := trodAll_two hA;obtain ⟨rfl, rfl⟩ := trodVars_none hV;obtain ⟨s0, rfl, _, _, _⟩ := open_string Tryd.underlying9 (hval 0 9 v0 rfl rfl) h0;obtain ⟨s1, rfl, _, _, _⟩ := open_string Tryd.underlying9 (hval 1 9 v1 rfl rfl) h1;refine (xmlRejects_any s0 s1 W).mono fun e W' ⟨he, hw⟩ => ?_
 exact ⟨_, he, post_true Tryd.laidOut Tryd.underlying4 (by kernel_rfl) (by kernel_rfl) rfl rfl hW' hw⟩
theorem XmlRejects_holds : Rows.XmlRejectsSaid :=
 OpenClaim.holds_of_wide 3 Tryd.f3 rfl rfl rfl rfl rfl rfl rfl ⟨rfl, rfl, rfl, rfl, rfl⟩ rfl rfl rfl rfl rfl (by kernel_rfl) Tryd.func3 (by kernel_rfl)
  (of_decide_eq_true (by kernel_rfl)) (by unfold Func.isWrapper; first | (rw [if_pos (by decide +kernel)]; kernel_rfl) | (rw [if_neg (by decide +kernel)]; exact ⟨rfl, rfl⟩))
  (fun os started H enc _ => xmlRejects_lifted os started H enc)
theorem XmlRejects_card : Rows.XmlRejectsCardSaid :=
 Claim7.holds_tied_plain_at .later [] [.data, .pinned] true _ true XmlRejects_holds (fun _ h => by cases h) (by kernel_rfl) (fun _ h => by cases h) xmlRejects_row_tie rfl ⟨rfl, rfl⟩ (by kernel_rfl) (by kernel_rfl)
  (fun f fn hf hfn => by
   obtain rfl : f = 3 := Option.some.inj ((show Tryd.prog.funcNamed Rows.xmlRejectsRow.func = some 3 by kernel_rfl).symm.trans hf) |>.symm
   obtain rfl : fn = Tryd.f3 := (Option.some.inj (Tryd.func3.symm.trans hfn)).symm
   exact ⟨by kernel_rfl, fun j t ht => by
    have hm := Array.mem_of_getElem? ht;have hall : (Tryd.f3.params.toList.all fun u => !Tryd.prog.wantsStandIn u) = true := by kernel_rfl
    exact (show Tryd.prog.wantsStandIn t = false by simpa using List.all_eq_true.1 hall t (by simpa using hm))⟩)
  (by kernel_rfl)
end Go.Proofs.YtnkmccgpmmnfeaaDoor
