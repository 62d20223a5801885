/- Part 14 of 35 of a proof; its texts, joined: RegJ, XpA, XpB, XpC. No condition. -/
import Derived.Test.YtnbeemkfmlfgfaaGreatDoorYa13
import Derived.Test.YtnbeemkfmlfgfaaGreatDoorYa12
import Derived.Test.YtnbeemkfmlfgfaaGreatDoorYa3
set_option maxRecDepth 100000
set_option maxHeartbeats 2000000
namespace Go.Proofs.YtnbeemkfmlfgfaaGreatDoor
open Go.RowKit
theorem wp_region_planC {P : Program} {Q : Exit → Act → World → Prop} {id : Nat} {a : Act} {w : World} {l : List Oper} (C : World → Prop) (p : Plan) (ns : List Nat) (t : Nat) (fin : Array Bool) (C2 : World → Prop) (p2 : Plan) (ns2 : List Nat) (fin2 : Array Bool) (hm : P.follows .mixedOrders = true) (hQ : ∀ c a d v w, Q (.panic c) (Act.put a d v) w → Q (.panic c) a w)
  (hB : (Region.noSelect l.toArray && decide (p.len + (p2.len + 1) = l.toArray.size) && p.within ns && planB .any l.toArray fin p (Array.replicate l.toArray.size false) && shutB .any l.toArray ns (some t) (Array.replicate l.toArray.size false) &&
   decide (Region.ready .any l.toArray fin = [t]) && !ns.contains t && p2.within ns2 && planB .any l.toArray fin2 p2 (fin.setIfInBounds t true) && shutB .any l.toArray ns2 none (fin.setIfInBounds t true) && (Region.ready .any l.toArray fin2).isEmpty) = true)
  (hC : C (w.drewN 1)) (h : wpPlan P l Q C (fun a' w' => wpList P l.toArray (Exit.then (fun a'' w'' => C2 w'' ∧ wpPlan P l Q C2 (fun a3 w3 => Q .normal a3 w3) p2 a'' w'') Q) (pick l [t]) a' w') p a (w.drewN 1)) : (Code.region id l.toArray true).wp P Q a w := by
 simp only [Bool.and_eq_true, decide_eq_true_eq, Bool.not_eq_true', List.isEmpty_iff] at hB;obtain ⟨⟨⟨⟨⟨⟨⟨⟨⟨⟨hsel, hn⟩, hin⟩, hp⟩, hs⟩, hr⟩, ht⟩, hin2⟩, hp2⟩, hs2⟩, hr2⟩ := hB;refine wp_region_any hm ?_;rw [← hn];rw [← hn] at hp hs
 have hz : ZInv .any l.toArray ns (Array.replicate (p.len + (p2.len + 1)) false) (Array.replicate (p.len + (p2.len + 1)) false) :=
  ⟨⟨by simp [hn], fun j oj _ hl => by rw [getD_repl] at hl; cases hl⟩, fun _ h => h, fun _ h => .inl h⟩
 have hz' := plan_inv p _ hin hz hp;have htr : t ∈ Region.ready .any l.toArray fin := by rw [hr]; simp
 have htn : t ∉ ns := by
  intro hx;rw [List.contains_iff_mem.2 hx] at ht;cases ht
 obtain ⟨_, ot, hot, _⟩ := mem_ready.1 htr;have := wpAnyU_plan (P := P) (Q := Q) (fin := fin) hsel hQ hs (by rw [hr]; intro j hj; rw [List.mem_singleton.1 hj]; exact htn) p _ a (w.drewN 1) hin hz hp hC h;refine wpAny_of_U (g := p2.len + 1) (fun listed' a' w' _ hL => ?_) p.len _ a _ hC this;refine wpAny_all (rs := [t]) (by rw [hL.1]; exact hr) (by simp) (fun i hi => ?_);rw [List.mem_singleton.1 hi, hL.1];refine wpOp_mono (fun a'' w'' h'' => ?_) (wpOp_of_single hot hL.2);have hz2 : ZInv .any l.toArray ns2 (fin.setIfInBounds t true) (fin.setIfInBounds t true) := ⟨hz'.closed.put htr, fun _ h => h, fun _ h => .inl h⟩;have h2 := wpAnyU_plan (P := P) (Q := Q) (fin := fin2) hsel hQ hs2 (by rw [hr2]; simp) p2 _ a'' w'' hin2 hz2 hp2 h''.1 h''.2;exact wpAny_of_U (g := 0) (fun listed' a' w' _ hL => wpAny_done (by rw [hL.1]; exact hr2) hL.2 0) p2.len _ a'' _ h''.1 h2
structure Turned (S : Nat → Prop) (w0 : World) where
 W : World
 ht : Touch S w0 W
instance {S : Nat → Prop} {w0 : World} : Nonempty (Turned S w0) := ⟨⟨w0, Touch.refl _ _⟩⟩
theorem cT {S : Nat → Prop} {w0 : World} {b i : Nat} {v : Value} (h : w0.cell? ⟨b, i, none⟩ = some v) (hS : ¬ S b) (x : Turned S w0) : x.W.cell? ⟨b, i, none⟩ = some v := x.ht.cell h hS
end Go.Proofs.YtnbeemkfmlfgfaaGreatDoor
namespace Go.Proofs.YtnbeemkfmlfgfaaGreatDoor
open Go.RowKit
open Xp (Rs Sfx)
structure Xr (S : ByteArray) (g : Nat) (l : List UInt8) (c : Nat) (w : World) : Prop where
 blk : Blk w g 121 #[.string S, .int .i64 ((S.size - l.length : Nat) : Int), .int .i64 (c : Int)]
 sfx : Sfx l S.data.toList
def flt (k : Nat) : List PanicEntry := [{ v := .iface 122 (.int .i64 (k : Int)), recovered := false }]
def XS (S : ByteArray) (g : Nat) (w : World) (l : List UInt8) (e : Ending) (w' : World) : Prop := e = .panicked (flt (S.size - l.length)) ∧ Touch (fun b => b = g) w w'
theorem Xr.fresh {S : ByteArray} {g : Nat} {l : List UInt8} {c : Nat} {w w' : World} (h : Xr S g l c w) (hf : Fresh w w') : Xr S g l c w' := ⟨hf.blk h.blk fun h => h, h.sfx⟩
theorem Xr.move {S : ByteArray} {g : Nat} {l : List UInt8} {c : Nat} {w w' : World} {X : Nat → Prop} (h : Xr S g l c w) (ht : Touch X w w') (hg : ¬ X g) : Xr S g l c w' := ⟨ht.blk h.blk hg, h.sfx⟩
theorem Xr.lt {S : ByteArray} {g : Nat} {l : List UInt8} {c : Nat} {w : World} (h : Xr S g l c w) : g < w.heap.size := h.blk.lt
theorem Xr.len {S : ByteArray} {g : Nat} {l : List UInt8} {c : Nat} {w : World} (h : Xr S g l c w) : l.length ≤ S.size := by
 have := h.sfx.len;simpa using this
theorem sfx_head {S : ByteArray} {b : UInt8} {l : List UInt8} (h : Sfx (b :: l) S.data.toList) : ∃ hk : S.size - (b :: l).length < S.size, S[S.size - (b :: l).length]'hk = b ∧ S.size - (b :: l).length + 1 = S.size - l.length := by
 obtain ⟨p, hp⟩ := h;have hl : S.data.toList.length = S.size := by simp
 have hl2 : S.size = p.length + (l.length + 1) := by rw [← hl, hp, List.length_append, List.length_cons]
 have hk : S.size - (b :: l).length = p.length := by rw [List.length_cons]; omega
 refine ⟨by rw [hk]; omega, ?_, by rw [List.length_cons]; omega⟩;have h1 := data_get S (S.size - (b :: l).length) (by rw [hk]; omega);rw [← h1]
 have : ∀ (k : Nat) (hk2 : k < S.data.toList.length), k = p.length → S.data.toList[k] = b := by
  intro k hk2 e;subst e;simp only [hp];rw [List.getElem_append_right (Nat.le_refl _)];simp
 exact this _ _ hk
theorem blk3 {w : World} {g : Nat} {t : TypeId} {x0 x1 x2 : Value} (h : Blk w g t #[x0, x1, x2]) :
  w.cell? ⟨g, 0, none⟩ = some x0 ∧ w.cell? ⟨g, 1, none⟩ = some x1 ∧ w.cell? ⟨g, 2, none⟩ = some x2 ∧ w.frozen? ⟨g, 0, none⟩ = false ∧ w.frozen? ⟨g, 1, none⟩ = false ∧ w.frozen? ⟨g, 2, none⟩ = false ∧ g < w.heap.size :=
 ⟨h.cell 0, h.cell 1, h.cell 2, h.frozen 0, h.frozen 1, h.frozen 2, h.lt⟩
theorem Xr.adv {S : ByteArray} {g : Nat} {b : UInt8} {l : List UInt8} {c : Nat} {w : World} (h : Xr S g (b :: l) c w) : Xr S g l c (w.setCell ⟨g, 1, none⟩ (.int .i64 (((S.size - (b :: l).length : Nat) : Int) + 1))) := by
 obtain ⟨hk, _, hk2⟩ := sfx_head h.sfx;refine ⟨?_, (Sfx.cons b).trans h.sfx⟩;have := h.blk.put 1 (.int .i64 (((S.size - (b :: l).length : Nat) : Int) + 1));rw [show (((S.size - (b :: l).length : Nat) : Int) + 1) = ((S.size - l.length : Nat) : Int) by rw [← hk2]; rfl] at this ⊢;exact this
theorem xstop_any (S : ByteArray) (g : Nat) (l : List UInt8) (c : Nat) (w : World) (h : Xr S g l c w) : Calls Tryz.prog 111 #[.pointer (some ⟨g, 0, none⟩)] w fun e w' => e = .panicked (flt (S.size - l.length)) ∧ w' = w := by
 obtain ⟨q0, q1, q2, _, _, _, _⟩ := blk3 h.blk;unfold flt;generalize S.size - l.length = k at *;go_enter Tryz.func111, Tryz.ntmps111;go_wp2_with fail
 exact ⟨rfl, rfl, rfl⟩
end Go.Proofs.YtnbeemkfmlfgfaaGreatDoor
namespace Go.Proofs.YtnbeemkfmlfgfaaGreatDoor
open Go.RowKit
open Xp (Rs Sfx white expectR nameR litR endR)
theorem white_256 : ∀ n : Fin 256, white (UInt8.ofNat n.1) = (((n.1 : Int) == (32 : Int)) || ((n.1 : Int) == (9 : Int)) || ((n.1 : Int) == (10 : Int)) || ((n.1 : Int) == (13 : Int))) := by decide +kernel
theorem white_or (b : UInt8) : white b = (((b.toNat : Int) == (32 : Int)) || ((b.toNat : Int) == (9 : Int)) || ((b.toNat : Int) == (10 : Int)) || ((b.toNat : Int) == (13 : Int))) := by
 have := white_256 ⟨b.toNat, b.toNat_lt⟩;simpa using this
theorem xwhite_byte (b : UInt8) (w : World) : Calls Tryz.prog 163 #[.int .u8 (b.toNat : Int)] w fun e w' => e = .returned (.bool (white b)) ∧ w' = w := by
 go_enter Tryz.func163, Tryz.ntmps163;cases h1 : ((b.toNat : Int) == (32 : Int)) with
 | false =>
  have h1m : ((b.toNat : Int) != (32 : Int)) = true := by rw [bne, h1]; rfl
  cases h2 : ((b.toNat : Int) == (9 : Int)) with
  | false =>
   have h2m : ((b.toNat : Int) != (9 : Int)) = true := by rw [bne, h2]; rfl
   cases h3 : ((b.toNat : Int) == (10 : Int)) with
   | false =>
    have h3m : ((b.toNat : Int) != (10 : Int)) = true := by rw [bne, h3]; rfl
    cases h4 : ((b.toNat : Int) == (13 : Int)) with
    | false =>
     have h4m : ((b.toNat : Int) != (13 : Int)) = true := by rw [bne, h4]; rfl
     go_wp2_with fail
     go_ret;exact ⟨ret_bool' _ _ (by rw [white_or]; simp only [*] <;> rfl), rfl⟩
    | true =>
     have h4m : ((b.toNat : Int) != (13 : Int)) = false := by rw [bne, h4]; rfl
     go_wp2_with fail
     go_ret;exact ⟨ret_bool' _ _ (by rw [white_or]; simp only [*] <;> rfl), rfl⟩
   | true =>
    have h3m : ((b.toNat : Int) != (10 : Int)) = false := by rw [bne, h3]; rfl
    go_wp2_with fail
    go_ret;exact ⟨ret_bool' _ _ (by rw [white_or]; simp only [*] <;> rfl), rfl⟩
  | true =>
   have h2m : ((b.toNat : Int) != (9 : Int)) = false := by rw [bne, h2]; rfl
   go_wp2_with fail
   go_ret;exact ⟨ret_bool' _ _ (by rw [white_or]; simp only [*] <;> rfl), rfl⟩
 | true =>
  have h1m : ((b.toNat : Int) != (32 : Int)) = false := by rw [bne, h1]; rfl
  go_wp2_with fail
  go_ret;exact ⟨ret_bool' _ _ (by rw [white_or]; simp only [*] <;> rfl), rfl⟩
theorem xpeek_end (S : ByteArray) (g c : Nat) (w : World) (h : Xr S g [] c w) : Calls Tryz.prog 164 #[.pointer (some ⟨g, 0, none⟩)] w fun e w' => XS S g w [] e w' := by
 have HX := hid h;obtain ⟨q0, q1, q2, _, _, _, _⟩ := blk3 h.blk;rw [show S.size - ([] : List UInt8).length = S.size from rfl] at q1;have d1 : decide ((S.size : Int) ≤ (S.size : Int)) = true := dT (Int.le_refl _);have d1n : decide (S.size ≤ S.size) = true := dT (Nat.le_refl _);clear h;go_enter Tryz.func164, Tryz.ntmps164;go_wp2_with fail
 go_quiet (fail)
 go_wp2_with fail
 refine (xstop_any S g [] c _ (HX.out.fresh ((Touch.refl _ _).drewN _))).mono ?_;rintro _ w1 ⟨rfl, rfl⟩;exact ⟨rfl, rfl, (Touch.refl _ _).drewN _⟩
theorem xpeek_byte (S : ByteArray) (g c : Nat) (b : UInt8) (l : List UInt8) (w : World) (h : Xr S g (b :: l) c w) : Calls Tryz.prog 164 #[.pointer (some ⟨g, 0, none⟩)] w fun e w' => e = .returned (.int .u8 (b.toNat : Int)) ∧ Fresh w w' := by
 obtain ⟨q0, q1, q2, _, _, _, _⟩ := blk3 h.blk;obtain ⟨hk, hb, _⟩ := sfx_head h.sfx;clear h;generalize S.size - (b :: l).length = k at *;have hki : (k : Int) < (S.size : Int) := by omega
 have d1 : decide ((S.size : Int) ≤ (k : Int)) = false := dF (by omega);have d1n : decide (S.size ≤ k) = false := dF (by omega);go_enter Tryz.func164, Tryz.ntmps164;go_wp2_with fail
 go_quiet (fail)
 go_wp2_with fail
 go_quiet (fail)
 go_wp2_with fail
 go_ret;exact ⟨rfl, ((Touch.refl _ _).drewN _).drewN _⟩
def XU (S : ByteArray) (g : Nat) (w : World) (r : Rs Unit) (e : Ending) (w' : World) : Prop := match r with
 | .ok _ l' c' => e = .returned (.tuple #[]) ∧ Touch (fun b => b = g) w w' ∧ Xr S g l' c' w'
 | .bad l' => XS S g w l' e w'
theorem xexpect_any (S : ByteArray) (g c : Nat) (b : UInt8) (l : List UInt8) (w : World) (hS : S.size ≤ 1099511627776) (h : Xr S g l c w) : Calls Tryz.prog 109 #[.pointer (some ⟨g, 0, none⟩), .int .u8 (b.toNat : Int)] w fun e w' => XU S g w (expectR b c l) e w' := by
 have HX := hid h;clear h;cases l with
 | nil =>
  go_enter Tryz.func109, Tryz.ntmps109;go_wp2_with fail
  refine (xpeek_end S g c w HX.out).mono ?_;rintro _ w1 ⟨rfl, ht⟩;exact ⟨rfl, rfl, ht⟩
 | cons x l =>
  by_cases hx : x = b
  ·have hne := u8_nbne_of x b hx
   have HR := hid (show expectR b c (x :: l) = .ok () l c from if_pos hx);clear hx;go_enter Tryz.func109, Tryz.ntmps109;go_wp2_with fail
   refine (xpeek_byte S g c x l w HX.out).mono ?_;rintro _ w1 ⟨rfl, hf⟩;have HX1 := hid (HX.out.fresh hf);have HF1 := hid hf;obtain ⟨q0, q1, q2, f0, f1, f2, hg⟩ := blk3 HX1.out.blk;have HX2 := hid HX1.out.adv;have hle := HX1.out.len;have hw : IntKind.i64.wrap (((S.size - (x :: l).length : Nat) : Int) + 1) = ((S.size - (x :: l).length : Nat) : Int) + 1 := IntWalk.i64_in _ (by omega);clear hf;generalize S.size - (x :: l).length = k at *;go_wp2_with fail
   refine bodyPost_end (v := .tuple #[]) (results_none rfl _ _ _) rfl ?_;rw [HR.out];exact ⟨rfl, (show Touch (fun b => b = g) w w1 from HF1.out.mono fun _ h => h.elim).setCell (p := ⟨g, 1, none⟩) (.inl rfl) _, HX2.out⟩
  ·have hne := u8_bne_of x b hx
   have HR := hid (show expectR b c (x :: l) = .bad (x :: l) from if_neg hx);clear hx;go_enter Tryz.func109, Tryz.ntmps109;go_wp2_with fail
   refine (xpeek_byte S g c x l w HX.out).mono ?_;rintro _ w1 ⟨rfl, hf⟩;have HX1 := hid (HX.out.fresh hf);have HF1 := hid hf;clear hf;go_wp2_with fail
   refine (xstop_any S g (x :: l) c _ HX1.out).mono ?_;rintro _ w2 ⟨rfl, rfl⟩;refine ⟨rfl, (?_ : XU S g w (expectR b c (x :: l)) _ _)⟩;rw [HR.out];exact ⟨rfl, HF1.out.mono fun _ h => h.elim⟩
def posOf (g : Nat) (w : World) : Nat := match w.cell? ⟨g, 1, none⟩ with
 | some (.int _ k) => k.toNat
 | _ => 0
theorem posOf_at {S : ByteArray} {g c : Nat} {l : List UInt8} {w : World} (h : Xr S g l c w) : posOf g w = S.size - l.length := by
 unfold posOf;rw [(blk3 h.blk).2.1];show Int.toNat _ = _;omega
theorem drop_step (p : UInt8 → Bool) (b : UInt8) (l : List UInt8) (h : p b = true) : (b :: l).dropWhile p = l.dropWhile p := by rw [List.dropWhile_cons, if_pos h]
theorem drop_stop (p : UInt8 → Bool) (b : UInt8) (l : List UInt8) (h : p b = false) : (b :: l).dropWhile p = b :: l := by rw [List.dropWhile_cons, if_neg (by rw [h]; decide)]
theorem xspace_any (S : ByteArray) (g c : Nat) (l : List UInt8) (w : World) (hS : S.size ≤ 1099511627776) (h : Xr S g l c w) : Calls Tryz.prog 108 #[.pointer (some ⟨g, 0, none⟩)] w fun e w' => e = .returned (.bool (decide ((l.dropWhile white).length < l.length))) ∧ Touch (fun b => b = g) w w' ∧ Xr S g (l.dropWhile white) c w' := by
 have HX := hid h;obtain ⟨q0, q1, q2, _, _, _, _⟩ := blk3 h.blk;have hll := h.len;clear h;obtain ⟨k0, hk0⟩ : ∃ k, k = S.size - l.length := ⟨_, rfl⟩;have HK0 := hid hk0;rw [← hk0] at q1;clear hk0;go_enter Tryz.func108, Tryz.ntmps108;go_wp2_with fail
 clear q0 q1 q2
 go_loopw [] (fun wr => ∃ l1 : List UInt8, Hid (l1.dropWhile white = l.dropWhile white) ∧ Hid (Sfx l1 l) ∧ Hid (Touch (fun b => b = g) w wr) ∧ Hid (Xr S g l1 c wr)) (fun wr => S.size - posOf g wr)
 case atStart => exact ⟨l, hid rfl, hid (Sfx.refl _), hid (Touch.refl _ _), HX⟩
 case round =>
  obtain ⟨l1, HD, HS, HT, HX⟩ := hrel;obtain ⟨q0, q1, q2, f0, f1, f2, hg⟩ := blk3 HX.out.blk;have HP := hid (posOf_at HX.out);have hle := HX.out.len;cases l1 with
  | nil =>
   have HFIN := hid (show l.dropWhile white = [] from HD.out.symm);rw [show S.size - ([] : List UInt8).length = S.size from rfl] at q1;have d1 : decide ((S.size : Int) < (S.size : Int)) = false := dF (by omega);have d1n : decide (S.size < S.size) = false := dF (by omega);go_wp2_with fail
   go_quiet (fail)
   go_wp2_with fail
   go_ret;refine ⟨ret_bool' _ _ ?_, (HT.out).drewN _, by rw [HFIN.out]; exact HX.out.fresh ((Touch.refl _ _).drewN _)⟩;rw [HFIN.out, decide_eq_decide];have h1 := HK0.out;show _ ↔ 0 < l.length;omega
  | cons x l1 =>
   obtain ⟨hk, hb, hk2⟩ := sfx_head HX.out.sfx;have HX2 := hid HX.out.adv;have HK2 := hid hk2;clear hk2;have hw : IntKind.i64.wrap (((S.size - (x :: l1).length : Nat) : Int) + 1) = ((S.size - (x :: l1).length : Nat) : Int) + 1 := IntWalk.i64_in _ (by omega);have hki : ((S.size - (x :: l1).length : Nat) : Int) < (S.size : Int) := by omega
   have d1 : decide (((S.size - (x :: l1).length : Nat) : Int) < (S.size : Int)) = true := dT (by omega);have d1n : decide (S.size - (x :: l1).length < S.size) = true := dT (by omega);generalize hkk : S.size - (x :: l1).length = k at q1 hk hb hw hki d1 d1n HX2;have HK := hid hkk;clear hkk;cases hp : white x with
   | false =>
    have HFIN := hid (show l.dropWhile white = x :: l1 by rw [← HD.out]; exact drop_stop white x l1 hp);go_wp2_with fail
    refine forget_world (fun W => Fresh wr W) (Touch.refl _ _) ?_;rintro w2 hfw2;have HF2 := hid hfw2;have p0 := hfw2.cell q0 (fun h => h);have p1 := hfw2.cell q1 (fun h => h);have r0 := cell_regrown p0;have r1 := cell_regrown p1;have C0 := hid (calmF (P := Tryz.prog) w2 (fun w hw => (xwhite_byte x _).mono fun _ _ h => ⟨h.1, by rw [h.2]; exact Touch.refl _ _⟩));clear hfw2 q0 q1;refine wp_region_quiet_below (by kernel_rfl) (by kernel_rfl) ?_
    repeat (with_reducible refine wpQuiet_step (fun K hK => ?_); go_simp; first | (refine hK _ ?_; clear hK K) | (apply Exists.intro; refine ⟨fun _ => ?_, hK _ ?_⟩; (first | with_reducible exact C0.out _ _); clear hK K))
    refine wpQuiet_nil ?_;rintro w3 ⟨⟨_, _⟩, hW3⟩;have hf3 : Fresh w2 w3 := by rw [hW3]; exact fresh_of_below (below_regrown _ _ _)
    have HF3 := hid (HF2.out.trans hf3);have HX3 := hid (HX.out.fresh HF3.out);clear hW3 r0 r1 hf3 p0 p1 C0 q2 f0 f1 f2 hg;obtain ⟨q0, q1, q2, f0, f1, f2, hg⟩ := blk3 HX3.out.blk;rw [HK.out] at q1;have HT3 := hid (HT.out.trans (HF3.out.mono fun _ h => h.elim));go_wp2_with fail
    go_ret;refine ⟨ret_bool' _ _ ?_, HT3.out, by rw [HFIN.out]; exact HX3.out⟩;rw [HFIN.out, decide_eq_decide];have h1 := HK0.out;have h2 := HK.out;have h3 := HS.out.len;omega
   | true =>
    have HD2 := hid (show l1.dropWhile white = l.dropWhile white by rw [← HD.out]; exact (drop_step white x l1 hp).symm);go_wp2_with fail
    refine forget_world (fun W => Fresh wr W) (Touch.refl _ _) ?_;rintro w2 hfw2;have HF2 := hid hfw2;have p0 := hfw2.cell q0 (fun h => h);have p1 := hfw2.cell q1 (fun h => h);have r0 := cell_regrown p0;have r1 := cell_regrown p1;have C0 := hid (calmF (P := Tryz.prog) w2 (fun w hw => (xwhite_byte x _).mono fun _ _ h => ⟨h.1, by rw [h.2]; exact Touch.refl _ _⟩));clear hfw2 q0 q1;refine wp_region_quiet_below (by kernel_rfl) (by kernel_rfl) ?_
    repeat (with_reducible refine wpQuiet_step (fun K hK => ?_); go_simp; first | (refine hK _ ?_; clear hK K) | (apply Exists.intro; refine ⟨fun _ => ?_, hK _ ?_⟩; (first | with_reducible exact C0.out _ _); clear hK K))
    refine wpQuiet_nil ?_;rintro w3 ⟨⟨_, _⟩, hW3⟩;have hf3 : Fresh w2 w3 := by rw [hW3]; exact fresh_of_below (below_regrown _ _ _)
    have HF3 := hid (HF2.out.trans hf3);have HX3 := hid (HX.out.fresh HF3.out);clear hW3 r0 r1 hf3 p0 p1 C0 q2 f0 f1 f2 hg;obtain ⟨q0, q1, q2, f0, f1, f2, hg⟩ := blk3 HX3.out.blk;rw [HK.out] at q1;have HT3 := hid (HT.out.trans (HF3.out.mono fun _ h => h.elim));have hx4 := HX3.out.adv;rw [HK.out] at hx4;have HX4 := hid hx4;have HT4 := hid (HT3.out.setCell (p := ⟨g, 1, none⟩) (.inl rfl) (.int .i64 ((k : Int) + 1)));have HM := hid (posOf_at hx4);clear hx4;go_wp2_with fail
    go_roundw
    case rel => exact ⟨l1, HD2, (Sfx.cons x).trans HS.out, HT4, HX4⟩
    case measure => rw [HM.out, HP.out]; simp only [List.length_cons] at *; omega
def XV (S : ByteArray) (g : Nat) (w : World) (r : Rs (List UInt8)) (e : Ending) (w' : World) : Prop := match r with
 | .ok x l' c' => e = .returned (.string ⟨x.toArray⟩) ∧ Touch (fun b => b = g) w w' ∧ Xr S g l' c' w'
 | .bad l' => XS S g w l' e w'
theorem sfx_extract {S : ByteArray} {p r : List UInt8} (h : Sfx (p ++ r) S.data.toList) : S.extract (S.size - (p ++ r).length) (S.size - r.length) = ⟨p.toArray⟩ := by
 obtain ⟨q, hq⟩ := h;have hl : S.data.toList.length = S.size := by simp
 have hs : S.size = q.length + (p.length + r.length) := by rw [← hl, hq, List.length_append, List.length_append]
 have h1 : S.size - (p ++ r).length = q.length := by rw [List.length_append]; omega
 have h2 : S.size - r.length = q.length + p.length := by omega
 rw [h1, h2];apply ByteArray.ext
 apply Array.toList_inj.1
 rw [ByteArray.data_extract, Array.toList_extract, List.extract_eq_take_drop, hq];simp
theorem xname23_any (S : ByteArray) (g c : Nat) (l : List UInt8) (w : World) (hS : S.size ≤ 1099511627776) (h : Xr S g l c w) : Calls Tryz.prog 166 #[.pointer (some ⟨g, 0, none⟩)] w fun e w' => XV S g w (nameR c l) e w' := by
 have HX := hid h;have hll := h.len;obtain ⟨q0, q1, q2, _, _, _, _⟩ := blk3 h.blk;clear h;cases l with
 | nil =>
  go_enter Tryz.func166, Tryz.ntmps166;go_wp2_with fail
  refine (xpeek_end S g c _ HX.out).mono ?_;rintro _ w1 ⟨rfl, ht⟩;exact ⟨rfl, rfl, ht⟩
 | cons b l =>
 cases hlb : El.letter b with
 | false =>
  have HR := hid (show nameR c (b :: l) = .bad (b :: l) from by show (if El.letter b = true then _ else _) = _; rw [hlb]; rfl);go_enter Tryz.func166, Tryz.ntmps166;go_wp2_with fail
  refine (xpeek_byte S g c b l _ HX.out).mono ?_;rintro _ w1 ⟨rfl, hf⟩;have HX1 := hid (HX.out.fresh hf);have HF1 := hid hf;clear hf;go_wp2_with fail
  refine (xletter_byte b _).mono ?_;rintro _ w2 ⟨rfl, hw⟩;replace hw := hw.symm;subst hw;rw [hlb];go_wp2_with fail
  refine (xstop_any S g (b :: l) c _ HX1.out).mono ?_;rintro _ w3 ⟨rfl, rfl⟩;refine ⟨rfl, (?_ : XV S g w (nameR c (b :: l)) _ _)⟩;rw [HR.out];exact ⟨rfl, HF1.out.mono fun _ h => h.elim⟩
 | true =>
 have HR := hid (show nameR c (b :: l) = .ok ((b :: l).takeWhile El.inner) ((b :: l).dropWhile El.inner) c from by show (if El.letter b = true then _ else _) = _; rw [hlb]; rfl);obtain ⟨k0, hk0⟩ : ∃ k, k = S.size - (b :: l).length := ⟨_, rfl⟩;have HK0 := hid hk0;rw [← hk0] at q1;clear hk0;go_enter Tryz.func166, Tryz.ntmps166;go_wp2_with fail
 refine (xpeek_byte S g c b l _ HX.out).mono ?_;rintro _ w1 ⟨rfl, hf⟩;have HX1 := hid (HX.out.fresh hf);have HF1 := hid (show Touch (fun b => b = g) w w1 from hf.mono fun _ h => h.elim);clear hf q0 q1 q2;go_wp2_with fail
 refine (xletter_byte b _).mono ?_;rintro _ w2 ⟨rfl, hw⟩;replace hw := hw.symm;subst hw;rw [hlb];obtain ⟨lw, hlw⟩ : ∃ lw, lw = b :: l := ⟨_, rfl⟩;rw [← hlw] at HX1 HR HK0 hll;have HX := HX1;have HSF := hid HX1.out.sfx;have HLW := hid hlw;clear HX1 hlb hlw;go_wp2_with fail
 go_loopw [] (fun wr => ∃ l1 : List UInt8, Hid (l1.dropWhile El.inner = lw.dropWhile El.inner) ∧ Hid (Sfx l1 lw) ∧ Hid (Touch (fun b => b = g) w wr) ∧ Hid (Xr S g l1 c wr)) (fun wr => S.size - posOf g wr)
 case atStart => exact ⟨lw, hid rfl, hid (Sfx.refl _), HF1, HX⟩
 case round =>
  obtain ⟨l1, HD, HS, HT, HX⟩ := hrel;obtain ⟨q0, q1, q2, f0, f1, f2, hg⟩ := blk3 HX.out.blk;have HP := hid (posOf_at HX.out);have hle := HX.out.len;cases l1 with
  | nil =>
   have HFIN := hid (show lw.dropWhile El.inner = [] from HD.out.symm);rw [show S.size - ([] : List UInt8).length = S.size from rfl] at q1;have d1 : decide ((S.size : Int) < (S.size : Int)) = false := dF (by omega);have d1n : decide (S.size < S.size) = false := dF (by omega);go_wp2_with fail
   go_quiet (fail)
   go_wp2_with fail
   have HEX := hid (show S.extract k0 S.size = ⟨(lw.takeWhile El.inner).toArray⟩ from by
    have h := sfx_extract (S := S) (p := lw.takeWhile El.inner) (r := lw.dropWhile El.inner) (by rw [List.takeWhile_append_dropWhile]; exact HSF.out);rw [List.takeWhile_append_dropWhile, ← HK0.out, HFIN.out] at h;exact h)
   have hk1 : (k0 : Int) ≤ (S.size : Int) := by have := HK0.out; have := HS.out.len; have := hll; omega
   have hk2 : (S.size : Int) ≤ (S.size : Int) := by omega
   have hk3 : (0 : Int) ≤ (k0 : Int) := by omega
   go_wp2_with fail
   go_quiet (fail)
   go_wp2_with fail
   go_ret;rw [← HLW.out, HR.out];refine ⟨congrArg (fun s => Ending.returned (Value.string s)) HEX.out, (HT.out.drewN _).drewN _, ?_⟩;rw [HFIN.out];exact HX.out.fresh (((Touch.refl _ _).drewN _).drewN _)
  | cons x l1 =>
   obtain ⟨hk, hb, hk2⟩ := sfx_head HX.out.sfx;have HX2 := hid HX.out.adv;have HK2 := hid hk2;clear hk2;have hw : IntKind.i64.wrap (((S.size - (x :: l1).length : Nat) : Int) + 1) = ((S.size - (x :: l1).length : Nat) : Int) + 1 := IntWalk.i64_in _ (by omega);have hki : ((S.size - (x :: l1).length : Nat) : Int) < (S.size : Int) := by omega
   have d1 : decide (((S.size - (x :: l1).length : Nat) : Int) < (S.size : Int)) = true := dT (by omega);have d1n : decide (S.size - (x :: l1).length < S.size) = true := dT (by omega);generalize hkk : S.size - (x :: l1).length = k at q1 hk hb hw hki d1 d1n HX2;have HK := hid hkk;clear hkk;cases hp : El.inner x with
   | false =>
    have HFIN := hid (show lw.dropWhile El.inner = x :: l1 by rw [← HD.out]; exact drop_stop El.inner x l1 hp);go_wp2_with fail
    refine forget_world (fun W => Fresh wr W) (Touch.refl _ _) ?_;rintro w2 hfw2;have HF2 := hid hfw2;have p0 := hfw2.cell q0 (fun h => h);have p1 := hfw2.cell q1 (fun h => h);have r0 := cell_regrown p0;have r1 := cell_regrown p1;have C0 := hid (calmF (P := Tryz.prog) w2 (fun w hw => (xinname_byte x _).mono fun _ _ h => ⟨h.1, by rw [h.2]; exact Touch.refl _ _⟩));clear hfw2 q0 q1;refine wp_region_quiet_below (by kernel_rfl) (by kernel_rfl) ?_
    repeat (with_reducible refine wpQuiet_step (fun K hK => ?_); go_simp; first | (refine hK _ ?_; clear hK K) | (apply Exists.intro; refine ⟨fun _ => ?_, hK _ ?_⟩; (first | with_reducible exact C0.out _ _); clear hK K))
    refine wpQuiet_nil ?_;rintro w3 ⟨⟨_, _⟩, hW3⟩;have hf3 : Fresh w2 w3 := by rw [hW3]; exact fresh_of_below (below_regrown _ _ _)
    have HF3 := hid (HF2.out.trans hf3);have HX3 := hid (HX.out.fresh HF3.out);clear hW3 r0 r1 hf3 p0 p1 C0 q2 f0 f1 f2 hg;obtain ⟨q0, q1, q2, f0, f1, f2, hg⟩ := blk3 HX3.out.blk;rw [HK.out] at q1;have HT3 := hid (HT.out.trans (HF3.out.mono fun _ h => h.elim))
    have HEX := hid (show S.extract k0 k = ⟨(lw.takeWhile El.inner).toArray⟩ from by
     have h := sfx_extract (S := S) (p := lw.takeWhile El.inner) (r := lw.dropWhile El.inner) (by rw [List.takeWhile_append_dropWhile]; exact HSF.out);rw [List.takeWhile_append_dropWhile, ← HK0.out, HFIN.out, HK.out] at h;exact h)
    have hk1 : (k0 : Int) ≤ (k : Int) := by have := HK0.out; have := HS.out.len; have := hll; have := HK.out; have := HS.out.len; simp only [List.length_cons] at *; omega
    have hk2 : (k : Int) ≤ (S.size : Int) := by have := HK.out; have := HS.out.len; simp only [List.length_cons] at *; omega
    have hk3 : (0 : Int) ≤ (k0 : Int) := by omega
    go_wp2_with fail
    go_quiet (fail)
    go_wp2_with fail
    go_ret;rw [← HLW.out, HR.out];refine ⟨congrArg (fun s => Ending.returned (Value.string s)) HEX.out, HT3.out.drewN _, ?_⟩;rw [HFIN.out];exact HX3.out.fresh ((Touch.refl _ _).drewN _)
   | true =>
    have HD2 := hid (show l1.dropWhile El.inner = lw.dropWhile El.inner by rw [← HD.out]; exact (drop_step El.inner x l1 hp).symm);go_wp2_with fail
    refine forget_world (fun W => Fresh wr W) (Touch.refl _ _) ?_;rintro w2 hfw2;have HF2 := hid hfw2;have p0 := hfw2.cell q0 (fun h => h);have p1 := hfw2.cell q1 (fun h => h);have r0 := cell_regrown p0;have r1 := cell_regrown p1;have C0 := hid (calmF (P := Tryz.prog) w2 (fun w hw => (xinname_byte x _).mono fun _ _ h => ⟨h.1, by rw [h.2]; exact Touch.refl _ _⟩));clear hfw2 q0 q1;refine wp_region_quiet_below (by kernel_rfl) (by kernel_rfl) ?_
    repeat (with_reducible refine wpQuiet_step (fun K hK => ?_); go_simp; first | (refine hK _ ?_; clear hK K) | (apply Exists.intro; refine ⟨fun _ => ?_, hK _ ?_⟩; (first | with_reducible exact C0.out _ _); clear hK K))
    refine wpQuiet_nil ?_;rintro w3 ⟨⟨_, _⟩, hW3⟩;have hf3 : Fresh w2 w3 := by rw [hW3]; exact fresh_of_below (below_regrown _ _ _)
    have HF3 := hid (HF2.out.trans hf3);have HX3 := hid (HX.out.fresh HF3.out);clear hW3 r0 r1 hf3 p0 p1 C0 q2 f0 f1 f2 hg;obtain ⟨q0, q1, q2, f0, f1, f2, hg⟩ := blk3 HX3.out.blk;rw [HK.out] at q1;have HT3 := hid (HT.out.trans (HF3.out.mono fun _ h => h.elim));have hx4 := HX3.out.adv;rw [HK.out] at hx4;have HX4 := hid hx4;have HT4 := hid (HT3.out.setCell (p := ⟨g, 1, none⟩) (.inl rfl) (.int .i64 ((k : Int) + 1)));have HM := hid (posOf_at hx4);clear hx4;go_wp2_with fail
    go_roundw
    case rel => exact ⟨l1, HD2, (Sfx.cons x).trans HS.out, HT4, HX4⟩
    case measure => rw [HM.out, HP.out]; simp only [List.length_cons] at *; omega
end Go.Proofs.YtnbeemkfmlfgfaaGreatDoor
namespace Go.Proofs.YtnbeemkfmlfgfaaGreatDoor
open Go.RowKit
open Xp (Rs Sfx white expectR nameR litR endR charR replR)
theorem expectR_cnt {b : UInt8} {c : Nat} {l : List UInt8} {u : Unit} {l1 : List UInt8} {c1 : Nat} (h : expectR b c l = .ok u l1 c1) : c1 = c := by
 cases l with
 | nil => cases h
 | cons x l =>
  have h : (if x = b then Rs.ok () l c else .bad (x :: l)) = .ok u l1 c1 := h;split at h
  ·cases h; rfl
  ·cases h
def endK (c : Nat) (s l : List UInt8) : Rs Unit := match litR c s l with
 | .bad l2 => .bad l2
 | .ok _ l2 _ => expectR 62 c (l2.dropWhile white)
theorem endK_cons_bad {c : Nat} {b : UInt8} {s l l1 : List UInt8} (h : expectR b c l = .bad l1) : endK c (b :: s) l = .bad l1 := by
 unfold endK;rw [litR, h]
theorem endK_cons_ok {c : Nat} {b : UInt8} {s l l1 : List UInt8} {u : Unit} {c1 : Nat} (h : expectR b c l = .ok u l1 c1) : endK c (b :: s) l = endK c s l1 := by
 unfold endK;rw [litR, h]
theorem XU.trans {S : ByteArray} {g : Nat} {w w1 w2 : World} {r : Rs Unit} {e : Ending} (ht : Touch (fun b => b = g) w w1) (h : XU S g w1 r e w2) : XU S g w r e w2 := by
 cases r with
 | ok u l c => exact ⟨h.1, ht.trans h.2.1, h.2.2⟩
 | bad l => exact ⟨h.1, ht.trans h.2⟩
theorem xend_any (S N : ByteArray) (g c : Nat) (l : List UInt8) (w : World) (hS : S.size ≤ 1099511627776) (hN : N.size ≤ 9223372036854775807) (h : Xr S g l c w) : Calls Tryz.prog 202 #[.pointer (some ⟨g, 0, none⟩), .string N] w fun e w' => XU S g w (endR N.data.toList c l) e w' := by
 have HX := hid h;have HE := hid (fun (l : List UInt8) (W : World) (h : Xr S g l c W) => show Calls Tryz.prog 109 #[.pointer (some ⟨g, 0, none⟩), .int .u8 47] W fun e w' => XU S g W (expectR 47 c l) e w' from xexpect_any S g c 47 l W hS h);have HE62 := hid (fun (l : List UInt8) (W : World) (h : Xr S g l c W) => show Calls Tryz.prog 109 #[.pointer (some ⟨g, 0, none⟩), .int .u8 62] W fun e w' => XU S g W (expectR 62 c l) e w' from xexpect_any S g c 62 l W hS h);clear h;cases hr : expectR 47 c l with
 | bad l1 =>
  have HR := hid (show endR N.data.toList c l = .bad l1 by unfold Xp.endR; rw [hr]);go_enter Tryz.func202, Tryz.ntmps202;go_wp2_with fail
  refine (HE.out l _ HX.out).mono ?_;intro e w1 he;rw [hr] at he;obtain ⟨rfl, ht⟩ := he;refine ⟨rfl, (?_ : XU S g w (endR N.data.toList c l) _ _)⟩;rw [HR.out];exact ⟨rfl, ht⟩
 | ok u l1 c1 =>
  have hc1 := expectR_cnt hr;subst hc1;have HR := hid (show endR N.data.toList c1 l = endK c1 (N.data.toList.drop 0) l1 by unfold Xp.endR endK; rw [hr, List.drop_zero]; rfl);go_enter Tryz.func202, Tryz.ntmps202;go_wp2_with fail
  refine (HE.out l _ HX.out).mono ?_;intro e w1 he;rw [hr] at he;obtain ⟨rfl, ht, hx⟩ := he;have HT1 := hid ht;have HX1 := hid hx;clear ht hx hr;go_wp2_with fail
  go_loopw [4] (fun i wr => ∃ (j : Nat) (l2 : List UInt8), i = .int .i64 j ∧ j ≤ N.size ∧ Hid (endR N.data.toList c1 l = endK c1 (N.data.toList.drop j) l2) ∧ Hid (Touch (fun b => b = g) w wr) ∧ Hid (Xr S g l2 c1 wr)) (fun i _ => N.size - (intOf i).toNat)
  case atStart => exact ⟨0, l1, rfl, Nat.zero_le _, HR, HT1, HX1⟩
  case round =>
   obtain ⟨j, l2, rfl, hj, HR, HT, HX⟩ := hrel
   by_cases c2 : j < N.size
   ·have d1 : decide ((j : Int) < (N.size : Int)) = true := dT (by omega)
    have d1n : decide (j < N.size) = true := dT c2;have d1' : (j : Int) < (N.size : Int) := by omega
    obtain ⟨b, hb⟩ : ∃ b, N[j]'c2 = b := ⟨_, rfl⟩
    have HD := hid (show N.data.toList.drop j = b :: N.data.toList.drop (j + 1) by
     rw [List.drop_eq_getElem_cons (by simpa using c2)]
     congr 1)
    cases hr : expectR b c1 l2 with
    | bad l3 =>
     have HR2 := hid (show endR N.data.toList c1 l = .bad l3 by rw [HR.out, HD.out]; exact endK_cons_bad hr);go_wp2_with fail
     refine (xexpect_any S g c1 b l2 _ hS HX.out).mono ?_;intro e w3 he;rw [hr] at he;obtain ⟨rfl, ht⟩ := he;refine ⟨rfl, (?_ : XU S g w (endR N.data.toList c1 l) _ _)⟩;rw [HR2.out];exact ⟨rfl, HT.out.trans ht⟩
    | ok u l3 c3 =>
     have HR2 := hid (show endR N.data.toList c1 l = endK c1 (N.data.toList.drop (j + 1)) l3 by rw [HR.out, HD.out]; exact endK_cons_ok hr);go_wp2_with fail
     refine (xexpect_any S g c1 b l2 _ hS HX.out).mono ?_;intro e w3 he;rw [hr] at he;obtain ⟨rfl, ht, hx⟩ := he;have hc3 := expectR_cnt hr;subst hc3;have HT3 := hid (HT.out.trans ht);have HX3 := hid hx;clear ht hx hr;go_wp2_with fail
     go_roundw
     case rel => exact ⟨j + 1, l3, by go_num, c2, HR2, HT3, HX3⟩
     case measure => simp [intOf]; omega
   ·have d1 : decide ((j : Int) < (N.size : Int)) = false := dF (by omega)
    have d1n : decide (j < N.size) = false := dF c2
    have HR2 := hid (show endR N.data.toList c1 l = expectR 62 c1 (l2.dropWhile white) by
     rw [HR.out, List.drop_of_length_le (by simpa using c2)]; rfl)
    go_wp2_with fail
    refine (xspace_any S g c1 l2 _ hS HX.out).mono ?_;rintro _ w3 ⟨rfl, ht, hx⟩;have HT3 := hid (HT.out.trans ht);have HX3 := hid hx;clear ht hx;go_wp2_with fail
    refine (HE62.out _ _ HX3.out).mono ?_;intro e w4 he;cases hr : expectR 62 c1 (l2.dropWhile white) with
    | bad l3 =>
     rw [hr] at he;obtain ⟨rfl, ht⟩ := he;refine ⟨rfl, (?_ : XU S g w (endR N.data.toList c1 l) _ _)⟩;rw [HR2.out, hr];exact ⟨rfl, HT3.out.trans ht⟩
    | ok u l3 c3 =>
     rw [hr] at he;obtain ⟨rfl, ht, hx⟩ := he
     have HF := hid (show XU S g w (endR N.data.toList c1 l) (.returned (.tuple #[])) w4 by
      rw [HR2.out, hr];exact ⟨rfl, HT3.out.trans ht, hx⟩)
     clear hr ht hx;go_wp2_with fail
     refine bodyPost_end (v := .tuple #[]) (results_none rfl _ _ _) rfl ?_;exact HF.out
def XB (S : ByteArray) (g : Nat) (w : World) (r : Rs UInt8) (e : Ending) (w' : World) : Prop := match r with
 | .ok x l' c' => e = .returned (.int .u8 (x.toNat : Int)) ∧ Touch (fun b => b = g) w w' ∧ Xr S g l' c' w'
 | .bad l' => XS S g w l' e w'
theorem XB.trans {S : ByteArray} {g : Nat} {w w1 w2 : World} {r : Rs UInt8} {e : Ending} (ht : Touch (fun b => b = g) w w1) (h : XB S g w1 r e w2) : XB S g w r e w2 := by
 cases r with
 | ok u l c => exact ⟨h.1, ht.trans h.2.1, h.2.2⟩
 | bad l => exact ⟨h.1, ht.trans h.2⟩
end Go.Proofs.YtnbeemkfmlfgfaaGreatDoor
