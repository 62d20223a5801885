/- Part 15 of 35 of a proof; its texts, joined: XpD, XpE. No condition. -/
import Derived.Test.YtnbeemkfmlfgfaaGreatDoorYa14
import Derived.Test.YtnbeemkfmlfgfaaGreatDoorShelf
set_option maxRecDepth 100000
set_option maxHeartbeats 4000000
namespace Go.Proofs.YtnbeemkfmlfgfaaGreatDoor
open Go.RowKit
open Xp (Rs Sfx repls pre replR)
theorem pre_is (s t : List UInt8) : Lib.hasPrefix t s = Xp.pre s t := by
 unfold Lib.hasPrefix Xp.pre;rw [Bool.eq_iff_iff, List.isPrefixOf_iff_prefix, beq_iff_eq, List.prefix_iff_eq_take];exact eq_comm
theorem blk8 {w : World} {g : Nat} {t : TypeId} {x0 x1 x2 x3 x4 x5 x6 x7 : Value} (h : Blk w g t #[x0, x1, x2, x3, x4, x5, x6, x7]) :
  w.cell? ⟨g, 0, none⟩ = some x0 ∧ w.cell? ⟨g, 1, none⟩ = some x1 ∧ w.cell? ⟨g, 2, none⟩ = some x2 ∧ w.cell? ⟨g, 3, none⟩ = some x3 ∧ w.cell? ⟨g, 4, none⟩ = some x4 ∧ w.cell? ⟨g, 5, none⟩ = some x5 ∧ w.cell? ⟨g, 6, none⟩ = some x6 ∧ w.cell? ⟨g, 7, none⟩ = some x7 :=
 ⟨h.cell 0, h.cell 1, h.cell 2, h.cell 3, h.cell 4, h.cell 5, h.cell 6, h.cell 7⟩
theorem blk2 {w : World} {g : Nat} {t : TypeId} {x0 x1 : Value} (h : Blk w g t #[x0, x1]) : w.cell? ⟨g, 0, none⟩ = some x0 ∧ w.cell? ⟨g, 1, none⟩ = some x1 := ⟨h.cell 0, h.cell 1⟩
theorem find_snoc (s : List UInt8) (j : Nat) (h : j < repls.length) : (repls.take (j + 1)).find? (fun x => x.1 == s) = ((repls.take j).find? (fun x => x.1 == s)).or (if repls[j].1 == s then some repls[j] else none) := by
 rw [List.take_add_one, List.getElem?_eq_getElem h, List.find?_append]
 congr 1
 show (List.find? _ [repls[j]]) = _;rw [List.find?_cons];cases repls[j].1 == s <;> rfl
theorem find_some (s : List UInt8) (j : Nat) (h : j < repls.length) (h0 : (repls.take j).find? (fun x => x.1 == s) = none) (he : (repls[j].1 == s) = true) : repls.find? (fun x => x.1 == s) = some repls[j] := by
 have h1 : (repls.take (j + 1)).find? (fun x => x.1 == s) = some repls[j] := by rw [find_snoc s j h, h0, he]; rfl
 have h2 := List.take_append_drop (j + 1) repls;generalize repls[j] = y at h1 ⊢;rw [← h2, List.find?_append, h1]; rfl
theorem any_snocR (s : List UInt8) (j : Nat) (h : j < repls.length) : (repls.take (j + 1)).any (fun x => pre s x.1) = ((repls.take j).any (fun x => pre s x.1) || pre s repls[j].1) := any_snoc repls j h _
theorem xrepl_any (S : ByteArray) (g c : Nat) (l0 : List UInt8) (w : World) (hS : S.size ≤ 1099511627776) (h : Xr S g l0 c w) : Calls Tryz.prog 218 #[.pointer (some ⟨g, 0, none⟩)] w fun e w' => XB S g w (replR c [] l0) e w' := by
 have HX := hid h;have HSF := hid h.sfx;have hg0 := h.lt;have hll := h.len;obtain ⟨q0, q1, q2, _, _, _, _⟩ := blk3 h.blk;obtain ⟨k0, hk0⟩ : ∃ k, k = S.size - l0.length := ⟨_, rfl⟩;have HK0 := hid hk0;rw [← hk0] at q1;clear h hk0;go_enter Tryz.func218, Tryz.ntmps218;go_wp2_with fail
 have hbr := Blk.new w 246 #[.string ⟨#[38, 97, 109, 112, 59]⟩, .int .u8 38, .string ⟨#[38, 108, 116, 59]⟩, .int .u8 60, .string ⟨#[38, 103, 116, 59]⟩, .int .u8 62, .string ⟨#[38, 113, 117, 111, 116, 59]⟩, .int .u8 34];have hf1 := (Touch.refl (fun _ => False) w).alloc (.cells #[.string ⟨#[38, 97, 109, 112, 59]⟩, .int .u8 38, .string ⟨#[38, 108, 116, 59]⟩, .int .u8 60, .string ⟨#[38, 103, 116, 59]⟩, .int .u8 62, .string ⟨#[38, 113, 117, 111, 116, 59]⟩, .int .u8 34] 246);refine forget_world (fun W => Fresh w W ∧ Blk W w.heap.size 246 #[.string ⟨#[38, 97, 109, 112, 59]⟩, .int .u8 38, .string ⟨#[38, 108, 116, 59]⟩, .int .u8 60, .string ⟨#[38, 103, 116, 59]⟩, .int .u8 62, .string ⟨#[38, 113, 117, 111, 116, 59]⟩, .int .u8 34]) ⟨hf1, hbr⟩ ?_;clear hbr hf1 q0 q1 q2;rintro W1 ⟨hf1, hbr1⟩;have HT1 := hid (show Touch (fun b => b = g) w W1 from hf1.mono fun _ h => h.elim);have HX1 := hid (HX.out.fresh hf1);have HB1 := hid hbr1;clear hf1 hbr1 HX
 go_loopw [] (fun wr => ∃ (p l1 : List UInt8), Hid (p ++ l1 = l0) ∧ Hid (replR c [] l0 = replR c p l1) ∧ Hid (Touch (fun b => b = g) w wr) ∧ Hid (Xr S g l1 c wr) ∧ Hid (Blk wr w.heap.size 246 #[.string ⟨#[38, 97, 109, 112, 59]⟩, .int .u8 38, .string ⟨#[38, 108, 116, 59]⟩, .int .u8 60, .string ⟨#[38, 103, 116, 59]⟩, .int .u8 62, .string ⟨#[38, 113, 117, 111, 116, 59]⟩, .int .u8 34])) (fun wr => S.size - posOf g wr)
 case atStart => exact ⟨[], l0, hid rfl, hid rfl, HT1, HX1, HB1⟩
 case round =>
  obtain ⟨p, l1, HPL, HRE, HT, HX, HB⟩ := hrel;have HP := hid (posOf_at HX.out);cases l1 with
  | nil =>
   have HFIN := hid (show replR c [] l0 = .bad [] by rw [HRE.out, replR]);go_wp2_with fail
   refine (xpeek_end S g c _ HX.out).mono ?_;rintro _ w2 ⟨rfl, ht⟩;refine ⟨rfl, (?_ : XB S g w (replR c [] l0) _ _)⟩;rw [HFIN.out];exact ⟨rfl, HT.out.trans ht⟩
  | cons b l2 =>
   go_wp2_with fail
   refine (xpeek_byte S g c b l2 _ HX.out).mono ?_;rintro _ w2 ⟨rfl, hf2⟩;have HX2 := hid (HX.out.fresh hf2);have HT2 := hid (HT.out.trans (hf2.mono fun _ h => h.elim));have hb2 := hf2.blk HB.out fun h => h
   have HB2 := hid hb2;obtain ⟨s, hs⟩ : ∃ s, s = p ++ [b] := ⟨_, rfl⟩;have HSS := hid hs
   have HRR := hid (show replR c [] l0 = (match repls.find? (fun x => x.1 == s) with
     | some x => .ok x.2 l2 c
     | none => if repls.any (fun x => pre s x.1) then replR c s l2 else .bad (b :: l2)) by rw [HRE.out, replR, hs]; rfl)
   have HPL2 := hid (show s ++ l2 = l0 by rw [hs, ← HPL.out, List.append_assoc]; rfl);have hlen := HX2.out.len;obtain ⟨hk, hbx, hk2⟩ := sfx_head HX2.out.sfx;clear hbx;obtain ⟨k, hkk⟩ : ∃ k, k = S.size - (b :: l2).length := ⟨_, rfl⟩;have HK := hid hkk;have HK2 := hid (show k + 1 = S.size - l2.length by rw [hkk]; exact hk2);have hki : k + 1 ≤ S.size := by rw [hkk]; omega
   have HEX := hid (show S.extract k0 (k + 1) = ⟨s.toArray⟩ by
    have h := sfx_extract (S := S) (p := s) (r := l2) (by rw [HPL2.out]; exact HSF.out);rw [HPL2.out, ← HK0.out, ← HK2.out] at h;exact h)
   have hk0k : k0 ≤ k := by
    have h1 := HPL.out;have h2 := HK0.out;have h3 : l0.length = p.length + (b :: l2).length := by rw [← h1, List.length_append]
    rw [h2, hkk];omega
   clear hf2 hb2 hs hk hk2 hkk HB HX HT HPL HRE hlen;obtain ⟨m0, m1, m2, m3, m4, m5, m6, m7⟩ := blk8 HB2.out;go_wp2_with fail
   clear m0 m1 m2 m3 m4 m5 m6 m7
   go_loopw [20, 5] (fun i bg wr => ∃ (j : Nat) (bb : Bool), i = .int .i64 j ∧ bg = .bool bb ∧ j ≤ 4 ∧ Hid (bb = (repls.take j).any (fun x => pre s x.1)) ∧ Hid ((repls.take j).find? (fun x => x.1 == s) = none) ∧ Hid (Touch (fun b => b = g) w wr) ∧ Hid (Xr S g (b :: l2) c wr) ∧ Hid (Blk wr w.heap.size 246 #[.string ⟨#[38, 97, 109, 112, 59]⟩, .int .u8 38, .string ⟨#[38, 108, 116, 59]⟩, .int .u8 60, .string ⟨#[38, 103, 116, 59]⟩, .int .u8 62, .string ⟨#[38, 113, 117, 111, 116, 59]⟩, .int .u8 34])) (fun i _ _ => 4 - (intOf i).toNat)
   case atStart => exact ⟨0, false, rfl, rfl, by omega, hid rfl, hid rfl, HT2, HX2, HB2⟩
   case round =>
    obtain ⟨j, bb, rfl, rfl, hj, HBB, HFN, HT, HX, HB⟩ := hrel;rename_i wr _;have hj4 : j = 0 ∨ j = 1 ∨ j = 2 ∨ j = 3 ∨ j = 4 := by omega
    have hw : IntKind.i64.wrap ((k : Int) + 1) = (k : Int) + 1 := IntWalk.i64_in _ (by omega);have hz1 : (k0 : Int) ≤ (k : Int) + 1 := by omega
    have hz2 : (k : Int) + 1 ≤ (S.size : Int) := by omega
    rcases hj4 with rfl | rfl | rfl | rfl | rfl
    ·have hge : wr.heap.size ≠ g := by have := HX.out.lt; omega
     have hgr : w.heap.size < wr.heap.size := HB.out.lt;have hix : ∀ W : World, (Instr.index 246 (.agg #[.string ⟨#[38, 97, 109, 112, 59]⟩, .int .u8 38, .string ⟨#[38, 108, 116, 59]⟩, .int .u8 60, .string ⟨#[38, 103, 116, 59]⟩, .int .u8 62, .string ⟨#[38, 113, 117, 111, 116, 59]⟩, .int .u8 34]) (.int .i64 0)).run Tryz.prog W = .ok (.agg #[.string ⟨#[38, 97, 109, 112, 59]⟩, .int .u8 38]) W := fun W => by with_unfolding_all rfl
     go_wp2_with fail
     clear hix;have HBN := hid (Blk.new wr 245 #[.string ⟨#[38, 97, 109, 112, 59]⟩, .int .u8 38]);have HFA := hid ((Touch.refl (fun _ => False) wr).alloc (.cells #[.string ⟨#[38, 97, 109, 112, 59]⟩, .int .u8 38] 245));have HT5 := hid (HT.out.trans (HFA.out.mono fun _ h => h.elim));have HX5 := hid (HX.out.fresh HFA.out);have HB5 := hid (HFA.out.blk HB.out fun h => h);generalize hr7 : wr.heap.size = r7 at HBN hge ⊢;generalize (wr.alloc (.cells #[.string ⟨#[38, 97, 109, 112, 59]⟩, .int .u8 38] 245)) = w5 at HBN HFA HT5 HX5 HB5 ⊢;have hex := HEX.out;cases bb with
     | true =>
      obtain ⟨q0, q1, q2, f0, f1, f2, hg⟩ := blk3 HX5.out.blk;rw [← HK.out] at q1;obtain ⟨n0, n1⟩ := blk2 HBN.out
      go_quiet (fail)
      have HFD := hid (show Fresh w5 (w5.drewN _) from (Touch.refl (fun _ => False) w5).drewN nq);have HBB2 := hid (show true = (repls.take (0 + 1)).any (fun x => pre s x.1) by rw [any_snocR s 0 (by decide), ← HBB.out]; rfl);have HX6 := hid (HX5.out.fresh HFD.out);have HT6 := hid (HT5.out.trans (HFD.out.mono fun _ h => h.elim));have HB6 := hid (HFD.out.blk HB5.out fun h => h);have HBN6 := hid (HFD.out.blk HBN.out fun h => h);generalize (w5.drewN nq) = w6 at HX6 HT6 HB6 HBN6 ⊢;clear HFD q0 q1 q2 f0 f1 f2 hg n0 n1;obtain ⟨q0, q1, q2, f0, f1, f2, hg⟩ := blk3 HX6.out.blk;rw [← HK.out] at q1;obtain ⟨n0, n1⟩ := blk2 HBN6.out;cases heq : (([38, 97, 109, 112, 59] : List UInt8) == s) with
      | true =>
       have hst : ((⟨#[38, 97, 109, 112, 59]⟩ : ByteArray) == ⟨s.toArray⟩) = true := str_decT [38, 97, 109, 112, 59] s true heq;have HFIN := hid (show replR c [] l0 = .ok 38 l2 c by rw [HRR.out, find_some s 0 (by decide) HFN.out heq]; rfl);go_wp2_with fail
       go_quiet (fail)
       have hx6 := HX6.out.fresh ((Touch.refl _ w6).drewN nq);have ht6 := HT6.out.drewN nq;have hn6 := HBN6.out.drewN nq;generalize (w6.drewN nq) = w7 at hx6 ht6 hn6 ⊢;clear q0 q1 q2 f0 f1 f2 hg n0 n1;obtain ⟨q0, q1, q2, f0, f1, f2, hg⟩ := blk3 hx6.blk;rw [← HK.out] at q1;obtain ⟨n0, n1⟩ := blk2 hn6;have hx7 := hx6.adv;rw [← HK.out] at hx7;have HX7 := hid hx7;have HT7 := hid (ht6.setCell (p := ⟨g, 1, none⟩) (.inl rfl) (.int .i64 ((k : Int) + 1)));have hr7g : r7 ≠ g := hge;clear hx7 hx6 ht6 hn6;go_wp2_with fail
       go_ret;rw [HFIN.out];exact ⟨rfl, HT7.out, HX7.out⟩
      | false =>
       have hst : ((⟨#[38, 97, 109, 112, 59]⟩ : ByteArray) == ⟨s.toArray⟩) = false := str_decT [38, 97, 109, 112, 59] s false heq;have HFN2 := hid (show (repls.take (0 + 1)).find? (fun x => x.1 == s) = none by rw [find_snoc s 0 (by decide), HFN.out, show (repls[0].1 == s) = false from heq]; rfl);go_wp2_with fail
       go_quiet (fail)
       go_wp2_with fail
       exact ⟨⟨0 + 1, true, by first | rfl | go_num, rfl, by omega, HBB2, HFN2, HT6.out.drewN _, HX6.out.fresh ((Touch.refl _ _).drewN _), HB6.out.drewN _⟩, by simp [intOf]⟩
     | false =>
      go_wp2_with fail
      obtain ⟨p0, p1, _, _, _, _, _⟩ := blk3 HX5.out.blk;rw [← HK.out] at p1;obtain ⟨n0, n1⟩ := blk2 HBN.out;have r0 := cell_regrown p0;have r1 := cell_regrown p1;have r2 := cell_regrown n0;have C0 := hid (calmF (P := Tryz.prog) w5 (fun w hw => (Tryz.strings_HasPrefix ⟨#[38, 97, 109, 112, 59]⟩ ⟨s.toArray⟩ w).mono fun _ _ h => ⟨h.1, by rw [h.2]; exact Touch.refl _ _⟩));clear p0 p1 n0 n1;refine wp_region_quiet_below (by kernel_rfl) (by kernel_rfl) ?_
      repeat (with_reducible refine wpQuiet_step (fun K hK => ?_); go_simp; first | (refine hK _ ?_; clear hK K) | (apply Exists.intro; refine ⟨fun _ => ?_, hK _ ?_⟩; (first | with_reducible exact C0.out _ _); clear hK K))
      refine wpQuiet_nil ?_;rintro w6 ⟨⟨_, _⟩, hW6⟩;have hf6 : Fresh w5 w6 := by rw [hW6]; exact fresh_of_below (below_regrown _ _ _)
      clear hW6 r0 r1 r2 C0;have HX6 := hid (HX5.out.fresh hf6);have HT6 := hid (HT5.out.trans (hf6.mono fun _ h => h.elim));have HB6 := hid (hf6.blk HB5.out fun h => h);have HBN6 := hid (hf6.blk HBN.out fun h => h);have HBB2 := hid (show Lib.hasPrefix ([38, 97, 109, 112, 59] : List UInt8) s = (repls.take (0 + 1)).any (fun x => pre s x.1) by rw [any_snocR s 0 (by decide), ← HBB.out, pre_is]; rfl);clear hf6;obtain ⟨q0, q1, q2, f0, f1, f2, hg⟩ := blk3 HX6.out.blk;rw [← HK.out] at q1;obtain ⟨n0, n1⟩ := blk2 HBN6.out;cases heq : (([38, 97, 109, 112, 59] : List UInt8) == s) with
      | true =>
       have hst : ((⟨#[38, 97, 109, 112, 59]⟩ : ByteArray) == ⟨s.toArray⟩) = true := str_decT [38, 97, 109, 112, 59] s true heq;have HFIN := hid (show replR c [] l0 = .ok 38 l2 c by rw [HRR.out, find_some s 0 (by decide) HFN.out heq]; rfl);go_wp2_with fail
       go_quiet (fail)
       have hx6 := HX6.out.fresh ((Touch.refl _ w6).drewN nq);have ht6 := HT6.out.drewN nq;have hn6 := HBN6.out.drewN nq;generalize (w6.drewN nq) = w7 at hx6 ht6 hn6 ⊢;clear q0 q1 q2 f0 f1 f2 hg n0 n1;obtain ⟨q0, q1, q2, f0, f1, f2, hg⟩ := blk3 hx6.blk;rw [← HK.out] at q1;obtain ⟨n0, n1⟩ := blk2 hn6;have hx7 := hx6.adv;rw [← HK.out] at hx7;have HX7 := hid hx7;have HT7 := hid (ht6.setCell (p := ⟨g, 1, none⟩) (.inl rfl) (.int .i64 ((k : Int) + 1)));have hr7g : r7 ≠ g := hge;clear hx7 hx6 ht6 hn6;go_wp2_with fail
       go_ret;rw [HFIN.out];exact ⟨rfl, HT7.out, HX7.out⟩
      | false =>
       have hst : ((⟨#[38, 97, 109, 112, 59]⟩ : ByteArray) == ⟨s.toArray⟩) = false := str_decT [38, 97, 109, 112, 59] s false heq;have HFN2 := hid (show (repls.take (0 + 1)).find? (fun x => x.1 == s) = none by rw [find_snoc s 0 (by decide), HFN.out, show (repls[0].1 == s) = false from heq]; rfl);go_wp2_with fail
       go_quiet (fail)
       go_wp2_with fail
       exact ⟨⟨0 + 1, Lib.hasPrefix ([38, 97, 109, 112, 59] : List UInt8) s, by first | rfl | go_num, rfl, by omega, HBB2, HFN2, HT6.out.drewN _, HX6.out.fresh ((Touch.refl _ _).drewN _), HB6.out.drewN _⟩, by simp [intOf]⟩
    ·have hge : wr.heap.size ≠ g := by have := HX.out.lt; omega
     have hgr : w.heap.size < wr.heap.size := HB.out.lt;have hix : ∀ W : World, (Instr.index 246 (.agg #[.string ⟨#[38, 97, 109, 112, 59]⟩, .int .u8 38, .string ⟨#[38, 108, 116, 59]⟩, .int .u8 60, .string ⟨#[38, 103, 116, 59]⟩, .int .u8 62, .string ⟨#[38, 113, 117, 111, 116, 59]⟩, .int .u8 34]) (.int .i64 1)).run Tryz.prog W = .ok (.agg #[.string ⟨#[38, 108, 116, 59]⟩, .int .u8 60]) W := fun W => by with_unfolding_all rfl
     go_wp2_with fail
     clear hix;have HBN := hid (Blk.new wr 245 #[.string ⟨#[38, 108, 116, 59]⟩, .int .u8 60]);have HFA := hid ((Touch.refl (fun _ => False) wr).alloc (.cells #[.string ⟨#[38, 108, 116, 59]⟩, .int .u8 60] 245));have HT5 := hid (HT.out.trans (HFA.out.mono fun _ h => h.elim));have HX5 := hid (HX.out.fresh HFA.out);have HB5 := hid (HFA.out.blk HB.out fun h => h);generalize hr7 : wr.heap.size = r7 at HBN hge ⊢;generalize (wr.alloc (.cells #[.string ⟨#[38, 108, 116, 59]⟩, .int .u8 60] 245)) = w5 at HBN HFA HT5 HX5 HB5 ⊢;have hex := HEX.out;cases bb with
     | true =>
      obtain ⟨q0, q1, q2, f0, f1, f2, hg⟩ := blk3 HX5.out.blk;rw [← HK.out] at q1;obtain ⟨n0, n1⟩ := blk2 HBN.out
      go_quiet (fail)
      have HFD := hid (show Fresh w5 (w5.drewN _) from (Touch.refl (fun _ => False) w5).drewN nq);have HBB2 := hid (show true = (repls.take (1 + 1)).any (fun x => pre s x.1) by rw [any_snocR s 1 (by decide), ← HBB.out]; rfl);have HX6 := hid (HX5.out.fresh HFD.out);have HT6 := hid (HT5.out.trans (HFD.out.mono fun _ h => h.elim));have HB6 := hid (HFD.out.blk HB5.out fun h => h);have HBN6 := hid (HFD.out.blk HBN.out fun h => h);generalize (w5.drewN nq) = w6 at HX6 HT6 HB6 HBN6 ⊢;clear HFD q0 q1 q2 f0 f1 f2 hg n0 n1;obtain ⟨q0, q1, q2, f0, f1, f2, hg⟩ := blk3 HX6.out.blk;rw [← HK.out] at q1;obtain ⟨n0, n1⟩ := blk2 HBN6.out;cases heq : (([38, 108, 116, 59] : List UInt8) == s) with
      | true =>
       have hst : ((⟨#[38, 108, 116, 59]⟩ : ByteArray) == ⟨s.toArray⟩) = true := str_decT [38, 108, 116, 59] s true heq;have HFIN := hid (show replR c [] l0 = .ok 60 l2 c by rw [HRR.out, find_some s 1 (by decide) HFN.out heq]; rfl);go_wp2_with fail
       go_quiet (fail)
       have hx6 := HX6.out.fresh ((Touch.refl _ w6).drewN nq);have ht6 := HT6.out.drewN nq;have hn6 := HBN6.out.drewN nq;generalize (w6.drewN nq) = w7 at hx6 ht6 hn6 ⊢;clear q0 q1 q2 f0 f1 f2 hg n0 n1;obtain ⟨q0, q1, q2, f0, f1, f2, hg⟩ := blk3 hx6.blk;rw [← HK.out] at q1;obtain ⟨n0, n1⟩ := blk2 hn6;have hx7 := hx6.adv;rw [← HK.out] at hx7;have HX7 := hid hx7;have HT7 := hid (ht6.setCell (p := ⟨g, 1, none⟩) (.inl rfl) (.int .i64 ((k : Int) + 1)));have hr7g : r7 ≠ g := hge;clear hx7 hx6 ht6 hn6;go_wp2_with fail
       go_ret;rw [HFIN.out];exact ⟨rfl, HT7.out, HX7.out⟩
      | false =>
       have hst : ((⟨#[38, 108, 116, 59]⟩ : ByteArray) == ⟨s.toArray⟩) = false := str_decT [38, 108, 116, 59] s false heq;have HFN2 := hid (show (repls.take (1 + 1)).find? (fun x => x.1 == s) = none by rw [find_snoc s 1 (by decide), HFN.out, show (repls[1].1 == s) = false from heq]; rfl);go_wp2_with fail
       go_quiet (fail)
       go_wp2_with fail
       exact ⟨⟨1 + 1, true, by first | rfl | go_num, rfl, by omega, HBB2, HFN2, HT6.out.drewN _, HX6.out.fresh ((Touch.refl _ _).drewN _), HB6.out.drewN _⟩, by simp [intOf]⟩
     | false =>
      go_wp2_with fail
      obtain ⟨p0, p1, _, _, _, _, _⟩ := blk3 HX5.out.blk;rw [← HK.out] at p1;obtain ⟨n0, n1⟩ := blk2 HBN.out;have r0 := cell_regrown p0;have r1 := cell_regrown p1;have r2 := cell_regrown n0;have C0 := hid (calmF (P := Tryz.prog) w5 (fun w hw => (Tryz.strings_HasPrefix ⟨#[38, 108, 116, 59]⟩ ⟨s.toArray⟩ w).mono fun _ _ h => ⟨h.1, by rw [h.2]; exact Touch.refl _ _⟩));clear p0 p1 n0 n1;refine wp_region_quiet_below (by kernel_rfl) (by kernel_rfl) ?_
      repeat (with_reducible refine wpQuiet_step (fun K hK => ?_); go_simp; first | (refine hK _ ?_; clear hK K) | (apply Exists.intro; refine ⟨fun _ => ?_, hK _ ?_⟩; (first | with_reducible exact C0.out _ _); clear hK K))
      refine wpQuiet_nil ?_;rintro w6 ⟨⟨_, _⟩, hW6⟩;have hf6 : Fresh w5 w6 := by rw [hW6]; exact fresh_of_below (below_regrown _ _ _)
      clear hW6 r0 r1 r2 C0;have HX6 := hid (HX5.out.fresh hf6);have HT6 := hid (HT5.out.trans (hf6.mono fun _ h => h.elim));have HB6 := hid (hf6.blk HB5.out fun h => h);have HBN6 := hid (hf6.blk HBN.out fun h => h);have HBB2 := hid (show Lib.hasPrefix ([38, 108, 116, 59] : List UInt8) s = (repls.take (1 + 1)).any (fun x => pre s x.1) by rw [any_snocR s 1 (by decide), ← HBB.out, pre_is]; rfl);clear hf6;obtain ⟨q0, q1, q2, f0, f1, f2, hg⟩ := blk3 HX6.out.blk;rw [← HK.out] at q1;obtain ⟨n0, n1⟩ := blk2 HBN6.out;cases heq : (([38, 108, 116, 59] : List UInt8) == s) with
      | true =>
       have hst : ((⟨#[38, 108, 116, 59]⟩ : ByteArray) == ⟨s.toArray⟩) = true := str_decT [38, 108, 116, 59] s true heq;have HFIN := hid (show replR c [] l0 = .ok 60 l2 c by rw [HRR.out, find_some s 1 (by decide) HFN.out heq]; rfl);go_wp2_with fail
       go_quiet (fail)
       have hx6 := HX6.out.fresh ((Touch.refl _ w6).drewN nq);have ht6 := HT6.out.drewN nq;have hn6 := HBN6.out.drewN nq;generalize (w6.drewN nq) = w7 at hx6 ht6 hn6 ⊢;clear q0 q1 q2 f0 f1 f2 hg n0 n1;obtain ⟨q0, q1, q2, f0, f1, f2, hg⟩ := blk3 hx6.blk;rw [← HK.out] at q1;obtain ⟨n0, n1⟩ := blk2 hn6;have hx7 := hx6.adv;rw [← HK.out] at hx7;have HX7 := hid hx7;have HT7 := hid (ht6.setCell (p := ⟨g, 1, none⟩) (.inl rfl) (.int .i64 ((k : Int) + 1)));have hr7g : r7 ≠ g := hge;clear hx7 hx6 ht6 hn6;go_wp2_with fail
       go_ret;rw [HFIN.out];exact ⟨rfl, HT7.out, HX7.out⟩
      | false =>
       have hst : ((⟨#[38, 108, 116, 59]⟩ : ByteArray) == ⟨s.toArray⟩) = false := str_decT [38, 108, 116, 59] s false heq;have HFN2 := hid (show (repls.take (1 + 1)).find? (fun x => x.1 == s) = none by rw [find_snoc s 1 (by decide), HFN.out, show (repls[1].1 == s) = false from heq]; rfl);go_wp2_with fail
       go_quiet (fail)
       go_wp2_with fail
       exact ⟨⟨1 + 1, Lib.hasPrefix ([38, 108, 116, 59] : List UInt8) s, by first | rfl | go_num, rfl, by omega, HBB2, HFN2, HT6.out.drewN _, HX6.out.fresh ((Touch.refl _ _).drewN _), HB6.out.drewN _⟩, by simp [intOf]⟩
    ·have hge : wr.heap.size ≠ g := by have := HX.out.lt; omega
     have hgr : w.heap.size < wr.heap.size := HB.out.lt;have hix : ∀ W : World, (Instr.index 246 (.agg #[.string ⟨#[38, 97, 109, 112, 59]⟩, .int .u8 38, .string ⟨#[38, 108, 116, 59]⟩, .int .u8 60, .string ⟨#[38, 103, 116, 59]⟩, .int .u8 62, .string ⟨#[38, 113, 117, 111, 116, 59]⟩, .int .u8 34]) (.int .i64 2)).run Tryz.prog W = .ok (.agg #[.string ⟨#[38, 103, 116, 59]⟩, .int .u8 62]) W := fun W => by with_unfolding_all rfl
     go_wp2_with fail
     clear hix;have HBN := hid (Blk.new wr 245 #[.string ⟨#[38, 103, 116, 59]⟩, .int .u8 62]);have HFA := hid ((Touch.refl (fun _ => False) wr).alloc (.cells #[.string ⟨#[38, 103, 116, 59]⟩, .int .u8 62] 245));have HT5 := hid (HT.out.trans (HFA.out.mono fun _ h => h.elim));have HX5 := hid (HX.out.fresh HFA.out);have HB5 := hid (HFA.out.blk HB.out fun h => h);generalize hr7 : wr.heap.size = r7 at HBN hge ⊢;generalize (wr.alloc (.cells #[.string ⟨#[38, 103, 116, 59]⟩, .int .u8 62] 245)) = w5 at HBN HFA HT5 HX5 HB5 ⊢;have hex := HEX.out;cases bb with
     | true =>
      obtain ⟨q0, q1, q2, f0, f1, f2, hg⟩ := blk3 HX5.out.blk;rw [← HK.out] at q1;obtain ⟨n0, n1⟩ := blk2 HBN.out
      go_quiet (fail)
      have HFD := hid (show Fresh w5 (w5.drewN _) from (Touch.refl (fun _ => False) w5).drewN nq);have HBB2 := hid (show true = (repls.take (2 + 1)).any (fun x => pre s x.1) by rw [any_snocR s 2 (by decide), ← HBB.out]; rfl);have HX6 := hid (HX5.out.fresh HFD.out);have HT6 := hid (HT5.out.trans (HFD.out.mono fun _ h => h.elim));have HB6 := hid (HFD.out.blk HB5.out fun h => h);have HBN6 := hid (HFD.out.blk HBN.out fun h => h);generalize (w5.drewN nq) = w6 at HX6 HT6 HB6 HBN6 ⊢;clear HFD q0 q1 q2 f0 f1 f2 hg n0 n1;obtain ⟨q0, q1, q2, f0, f1, f2, hg⟩ := blk3 HX6.out.blk;rw [← HK.out] at q1;obtain ⟨n0, n1⟩ := blk2 HBN6.out;cases heq : (([38, 103, 116, 59] : List UInt8) == s) with
      | true =>
       have hst : ((⟨#[38, 103, 116, 59]⟩ : ByteArray) == ⟨s.toArray⟩) = true := str_decT [38, 103, 116, 59] s true heq;have HFIN := hid (show replR c [] l0 = .ok 62 l2 c by rw [HRR.out, find_some s 2 (by decide) HFN.out heq]; rfl);go_wp2_with fail
       go_quiet (fail)
       have hx6 := HX6.out.fresh ((Touch.refl _ w6).drewN nq);have ht6 := HT6.out.drewN nq;have hn6 := HBN6.out.drewN nq;generalize (w6.drewN nq) = w7 at hx6 ht6 hn6 ⊢;clear q0 q1 q2 f0 f1 f2 hg n0 n1;obtain ⟨q0, q1, q2, f0, f1, f2, hg⟩ := blk3 hx6.blk;rw [← HK.out] at q1;obtain ⟨n0, n1⟩ := blk2 hn6;have hx7 := hx6.adv;rw [← HK.out] at hx7;have HX7 := hid hx7;have HT7 := hid (ht6.setCell (p := ⟨g, 1, none⟩) (.inl rfl) (.int .i64 ((k : Int) + 1)));have hr7g : r7 ≠ g := hge;clear hx7 hx6 ht6 hn6;go_wp2_with fail
       go_ret;rw [HFIN.out];exact ⟨rfl, HT7.out, HX7.out⟩
      | false =>
       have hst : ((⟨#[38, 103, 116, 59]⟩ : ByteArray) == ⟨s.toArray⟩) = false := str_decT [38, 103, 116, 59] s false heq;have HFN2 := hid (show (repls.take (2 + 1)).find? (fun x => x.1 == s) = none by rw [find_snoc s 2 (by decide), HFN.out, show (repls[2].1 == s) = false from heq]; rfl);go_wp2_with fail
       go_quiet (fail)
       go_wp2_with fail
       exact ⟨⟨2 + 1, true, by first | rfl | go_num, rfl, by omega, HBB2, HFN2, HT6.out.drewN _, HX6.out.fresh ((Touch.refl _ _).drewN _), HB6.out.drewN _⟩, by simp [intOf]⟩
     | false =>
      go_wp2_with fail
      obtain ⟨p0, p1, _, _, _, _, _⟩ := blk3 HX5.out.blk;rw [← HK.out] at p1;obtain ⟨n0, n1⟩ := blk2 HBN.out;have r0 := cell_regrown p0;have r1 := cell_regrown p1;have r2 := cell_regrown n0;have C0 := hid (calmF (P := Tryz.prog) w5 (fun w hw => (Tryz.strings_HasPrefix ⟨#[38, 103, 116, 59]⟩ ⟨s.toArray⟩ w).mono fun _ _ h => ⟨h.1, by rw [h.2]; exact Touch.refl _ _⟩));clear p0 p1 n0 n1;refine wp_region_quiet_below (by kernel_rfl) (by kernel_rfl) ?_
      repeat (with_reducible refine wpQuiet_step (fun K hK => ?_); go_simp; first | (refine hK _ ?_; clear hK K) | (apply Exists.intro; refine ⟨fun _ => ?_, hK _ ?_⟩; (first | with_reducible exact C0.out _ _); clear hK K))
      refine wpQuiet_nil ?_;rintro w6 ⟨⟨_, _⟩, hW6⟩;have hf6 : Fresh w5 w6 := by rw [hW6]; exact fresh_of_below (below_regrown _ _ _)
      clear hW6 r0 r1 r2 C0;have HX6 := hid (HX5.out.fresh hf6);have HT6 := hid (HT5.out.trans (hf6.mono fun _ h => h.elim));have HB6 := hid (hf6.blk HB5.out fun h => h);have HBN6 := hid (hf6.blk HBN.out fun h => h);have HBB2 := hid (show Lib.hasPrefix ([38, 103, 116, 59] : List UInt8) s = (repls.take (2 + 1)).any (fun x => pre s x.1) by rw [any_snocR s 2 (by decide), ← HBB.out, pre_is]; rfl);clear hf6;obtain ⟨q0, q1, q2, f0, f1, f2, hg⟩ := blk3 HX6.out.blk;rw [← HK.out] at q1;obtain ⟨n0, n1⟩ := blk2 HBN6.out;cases heq : (([38, 103, 116, 59] : List UInt8) == s) with
      | true =>
       have hst : ((⟨#[38, 103, 116, 59]⟩ : ByteArray) == ⟨s.toArray⟩) = true := str_decT [38, 103, 116, 59] s true heq;have HFIN := hid (show replR c [] l0 = .ok 62 l2 c by rw [HRR.out, find_some s 2 (by decide) HFN.out heq]; rfl);go_wp2_with fail
       go_quiet (fail)
       have hx6 := HX6.out.fresh ((Touch.refl _ w6).drewN nq);have ht6 := HT6.out.drewN nq;have hn6 := HBN6.out.drewN nq;generalize (w6.drewN nq) = w7 at hx6 ht6 hn6 ⊢;clear q0 q1 q2 f0 f1 f2 hg n0 n1;obtain ⟨q0, q1, q2, f0, f1, f2, hg⟩ := blk3 hx6.blk;rw [← HK.out] at q1;obtain ⟨n0, n1⟩ := blk2 hn6;have hx7 := hx6.adv;rw [← HK.out] at hx7;have HX7 := hid hx7;have HT7 := hid (ht6.setCell (p := ⟨g, 1, none⟩) (.inl rfl) (.int .i64 ((k : Int) + 1)));have hr7g : r7 ≠ g := hge;clear hx7 hx6 ht6 hn6;go_wp2_with fail
       go_ret;rw [HFIN.out];exact ⟨rfl, HT7.out, HX7.out⟩
      | false =>
       have hst : ((⟨#[38, 103, 116, 59]⟩ : ByteArray) == ⟨s.toArray⟩) = false := str_decT [38, 103, 116, 59] s false heq;have HFN2 := hid (show (repls.take (2 + 1)).find? (fun x => x.1 == s) = none by rw [find_snoc s 2 (by decide), HFN.out, show (repls[2].1 == s) = false from heq]; rfl);go_wp2_with fail
       go_quiet (fail)
       go_wp2_with fail
       exact ⟨⟨2 + 1, Lib.hasPrefix ([38, 103, 116, 59] : List UInt8) s, by first | rfl | go_num, rfl, by omega, HBB2, HFN2, HT6.out.drewN _, HX6.out.fresh ((Touch.refl _ _).drewN _), HB6.out.drewN _⟩, by simp [intOf]⟩
    ·have hge : wr.heap.size ≠ g := by have := HX.out.lt; omega
     have hgr : w.heap.size < wr.heap.size := HB.out.lt;have hix : ∀ W : World, (Instr.index 246 (.agg #[.string ⟨#[38, 97, 109, 112, 59]⟩, .int .u8 38, .string ⟨#[38, 108, 116, 59]⟩, .int .u8 60, .string ⟨#[38, 103, 116, 59]⟩, .int .u8 62, .string ⟨#[38, 113, 117, 111, 116, 59]⟩, .int .u8 34]) (.int .i64 3)).run Tryz.prog W = .ok (.agg #[.string ⟨#[38, 113, 117, 111, 116, 59]⟩, .int .u8 34]) W := fun W => by with_unfolding_all rfl
     go_wp2_with fail
     clear hix;have HBN := hid (Blk.new wr 245 #[.string ⟨#[38, 113, 117, 111, 116, 59]⟩, .int .u8 34]);have HFA := hid ((Touch.refl (fun _ => False) wr).alloc (.cells #[.string ⟨#[38, 113, 117, 111, 116, 59]⟩, .int .u8 34] 245));have HT5 := hid (HT.out.trans (HFA.out.mono fun _ h => h.elim));have HX5 := hid (HX.out.fresh HFA.out);have HB5 := hid (HFA.out.blk HB.out fun h => h);generalize hr7 : wr.heap.size = r7 at HBN hge ⊢;generalize (wr.alloc (.cells #[.string ⟨#[38, 113, 117, 111, 116, 59]⟩, .int .u8 34] 245)) = w5 at HBN HFA HT5 HX5 HB5 ⊢;have hex := HEX.out;cases bb with
     | true =>
      obtain ⟨q0, q1, q2, f0, f1, f2, hg⟩ := blk3 HX5.out.blk;rw [← HK.out] at q1;obtain ⟨n0, n1⟩ := blk2 HBN.out
      go_quiet (fail)
      have HFD := hid (show Fresh w5 (w5.drewN _) from (Touch.refl (fun _ => False) w5).drewN nq);have HBB2 := hid (show true = (repls.take (3 + 1)).any (fun x => pre s x.1) by rw [any_snocR s 3 (by decide), ← HBB.out]; rfl);have HX6 := hid (HX5.out.fresh HFD.out);have HT6 := hid (HT5.out.trans (HFD.out.mono fun _ h => h.elim));have HB6 := hid (HFD.out.blk HB5.out fun h => h);have HBN6 := hid (HFD.out.blk HBN.out fun h => h);generalize (w5.drewN nq) = w6 at HX6 HT6 HB6 HBN6 ⊢;clear HFD q0 q1 q2 f0 f1 f2 hg n0 n1;obtain ⟨q0, q1, q2, f0, f1, f2, hg⟩ := blk3 HX6.out.blk;rw [← HK.out] at q1;obtain ⟨n0, n1⟩ := blk2 HBN6.out;cases heq : (([38, 113, 117, 111, 116, 59] : List UInt8) == s) with
      | true =>
       have hst : ((⟨#[38, 113, 117, 111, 116, 59]⟩ : ByteArray) == ⟨s.toArray⟩) = true := str_decT [38, 113, 117, 111, 116, 59] s true heq;have HFIN := hid (show replR c [] l0 = .ok 34 l2 c by rw [HRR.out, find_some s 3 (by decide) HFN.out heq]; rfl);go_wp2_with fail
       go_quiet (fail)
       have hx6 := HX6.out.fresh ((Touch.refl _ w6).drewN nq);have ht6 := HT6.out.drewN nq;have hn6 := HBN6.out.drewN nq;generalize (w6.drewN nq) = w7 at hx6 ht6 hn6 ⊢;clear q0 q1 q2 f0 f1 f2 hg n0 n1;obtain ⟨q0, q1, q2, f0, f1, f2, hg⟩ := blk3 hx6.blk;rw [← HK.out] at q1;obtain ⟨n0, n1⟩ := blk2 hn6;have hx7 := hx6.adv;rw [← HK.out] at hx7;have HX7 := hid hx7;have HT7 := hid (ht6.setCell (p := ⟨g, 1, none⟩) (.inl rfl) (.int .i64 ((k : Int) + 1)));have hr7g : r7 ≠ g := hge;clear hx7 hx6 ht6 hn6;go_wp2_with fail
       go_ret;rw [HFIN.out];exact ⟨rfl, HT7.out, HX7.out⟩
      | false =>
       have hst : ((⟨#[38, 113, 117, 111, 116, 59]⟩ : ByteArray) == ⟨s.toArray⟩) = false := str_decT [38, 113, 117, 111, 116, 59] s false heq;have HFN2 := hid (show (repls.take (3 + 1)).find? (fun x => x.1 == s) = none by rw [find_snoc s 3 (by decide), HFN.out, show (repls[3].1 == s) = false from heq]; rfl);go_wp2_with fail
       go_quiet (fail)
       go_wp2_with fail
       exact ⟨⟨3 + 1, true, by first | rfl | go_num, rfl, by omega, HBB2, HFN2, HT6.out.drewN _, HX6.out.fresh ((Touch.refl _ _).drewN _), HB6.out.drewN _⟩, by simp [intOf]⟩
     | false =>
      go_wp2_with fail
      obtain ⟨p0, p1, _, _, _, _, _⟩ := blk3 HX5.out.blk;rw [← HK.out] at p1;obtain ⟨n0, n1⟩ := blk2 HBN.out;have r0 := cell_regrown p0;have r1 := cell_regrown p1;have r2 := cell_regrown n0;have C0 := hid (calmF (P := Tryz.prog) w5 (fun w hw => (Tryz.strings_HasPrefix ⟨#[38, 113, 117, 111, 116, 59]⟩ ⟨s.toArray⟩ w).mono fun _ _ h => ⟨h.1, by rw [h.2]; exact Touch.refl _ _⟩));clear p0 p1 n0 n1;refine wp_region_quiet_below (by kernel_rfl) (by kernel_rfl) ?_
      repeat (with_reducible refine wpQuiet_step (fun K hK => ?_); go_simp; first | (refine hK _ ?_; clear hK K) | (apply Exists.intro; refine ⟨fun _ => ?_, hK _ ?_⟩; (first | with_reducible exact C0.out _ _); clear hK K))
      refine wpQuiet_nil ?_;rintro w6 ⟨⟨_, _⟩, hW6⟩;have hf6 : Fresh w5 w6 := by rw [hW6]; exact fresh_of_below (below_regrown _ _ _)
      clear hW6 r0 r1 r2 C0;have HX6 := hid (HX5.out.fresh hf6);have HT6 := hid (HT5.out.trans (hf6.mono fun _ h => h.elim));have HB6 := hid (hf6.blk HB5.out fun h => h);have HBN6 := hid (hf6.blk HBN.out fun h => h);have HBB2 := hid (show Lib.hasPrefix ([38, 113, 117, 111, 116, 59] : List UInt8) s = (repls.take (3 + 1)).any (fun x => pre s x.1) by rw [any_snocR s 3 (by decide), ← HBB.out, pre_is]; rfl);clear hf6;obtain ⟨q0, q1, q2, f0, f1, f2, hg⟩ := blk3 HX6.out.blk;rw [← HK.out] at q1;obtain ⟨n0, n1⟩ := blk2 HBN6.out;cases heq : (([38, 113, 117, 111, 116, 59] : List UInt8) == s) with
      | true =>
       have hst : ((⟨#[38, 113, 117, 111, 116, 59]⟩ : ByteArray) == ⟨s.toArray⟩) = true := str_decT [38, 113, 117, 111, 116, 59] s true heq;have HFIN := hid (show replR c [] l0 = .ok 34 l2 c by rw [HRR.out, find_some s 3 (by decide) HFN.out heq]; rfl);go_wp2_with fail
       go_quiet (fail)
       have hx6 := HX6.out.fresh ((Touch.refl _ w6).drewN nq);have ht6 := HT6.out.drewN nq;have hn6 := HBN6.out.drewN nq;generalize (w6.drewN nq) = w7 at hx6 ht6 hn6 ⊢;clear q0 q1 q2 f0 f1 f2 hg n0 n1;obtain ⟨q0, q1, q2, f0, f1, f2, hg⟩ := blk3 hx6.blk;rw [← HK.out] at q1;obtain ⟨n0, n1⟩ := blk2 hn6;have hx7 := hx6.adv;rw [← HK.out] at hx7;have HX7 := hid hx7;have HT7 := hid (ht6.setCell (p := ⟨g, 1, none⟩) (.inl rfl) (.int .i64 ((k : Int) + 1)));have hr7g : r7 ≠ g := hge;clear hx7 hx6 ht6 hn6;go_wp2_with fail
       go_ret;rw [HFIN.out];exact ⟨rfl, HT7.out, HX7.out⟩
      | false =>
       have hst : ((⟨#[38, 113, 117, 111, 116, 59]⟩ : ByteArray) == ⟨s.toArray⟩) = false := str_decT [38, 113, 117, 111, 116, 59] s false heq;have HFN2 := hid (show (repls.take (3 + 1)).find? (fun x => x.1 == s) = none by rw [find_snoc s 3 (by decide), HFN.out, show (repls[3].1 == s) = false from heq]; rfl);go_wp2_with fail
       go_quiet (fail)
       go_wp2_with fail
       exact ⟨⟨3 + 1, Lib.hasPrefix ([38, 113, 117, 111, 116, 59] : List UInt8) s, by first | rfl | go_num, rfl, by omega, HBB2, HFN2, HT6.out.drewN _, HX6.out.fresh ((Touch.refl _ _).drewN _), HB6.out.drewN _⟩, by simp [intOf]⟩
    ·have HALL := hid (show repls.find? (fun x => x.1 == s) = none from HFN.out)
     have HANY := hid (show bb = repls.any (fun x => pre s x.1) from HBB.out);cases bb with
     | false =>
      have HFIN := hid (show replR c [] l0 = .bad (b :: l2) by rw [HRR.out, HALL.out]; show (if repls.any (fun x => pre s x.1) = true then _ else _) = _; rw [← HANY.out]; rfl);go_wp2_with fail
      refine (xstop_any S g (b :: l2) c _ HX.out).mono ?_;rintro _ w3 ⟨rfl, rfl⟩;refine ⟨rfl, (?_ : XB S g w (replR c [] l0) _ _)⟩;rw [HFIN.out];exact ⟨rfl, HT.out⟩
     | true =>
      have HFIN := hid (show replR c [] l0 = replR c s l2 by rw [HRR.out, HALL.out]; show (if repls.any (fun x => pre s x.1) = true then _ else _) = _; rw [← HANY.out]; rfl);obtain ⟨q0, q1, q2, f0, f1, f2, hg⟩ := blk3 HX.out.blk;rw [← HK.out] at q1;have hx4 := HX.out.adv;rw [← HK.out] at hx4;have HX4 := hid hx4;have HT4 := hid (HT.out.setCell (p := ⟨g, 1, none⟩) (.inl rfl) (.int .i64 ((k : Int) + 1)));have HB4 := hid ((HB.out).far (p := ⟨g, 1, none⟩) (by show _ ≠ g; omega) (.int .i64 ((k : Int) + 1)));have HM := hid (posOf_at hx4);clear hx4;go_wp2_with fail
      refine ⟨⟨s, l2, HPL2, HFIN, HT4, HX4, HB4⟩, ?_⟩;rw [HM.out, HP.out];have h1 := HK.out;have h2 := HK2.out;simp only [List.length_cons] at *;omega
end Go.Proofs.YtnbeemkfmlfgfaaGreatDoor
namespace Go.Proofs.YtnbeemkfmlfgfaaGreatDoor
open Go.RowKit
open Xp (Rs Sfx charR replR)
theorem beq_u8 (b : UInt8) (k : UInt8) : ((b.toNat : Int) == (k.toNat : Int)) = (b == k) := by
 rw [Bool.eq_iff_iff, beq_iff_eq, beq_iff_eq];constructor
 ·intro h; exact UInt8.toNat_inj.1 (by omega)
 ·rintro rfl; rfl
theorem xchar_any (S : ByteArray) (g c n : Nat) (l : List UInt8) (w : World) (hS : S.size ≤ 1099511627776) (hn : n ≤ 9223372036854775807) (h : Xr S g l c w) : Calls Tryz.prog 201 #[.pointer (some ⟨g, 0, none⟩), .int .i64 (n : Int)] w fun e w' => XB S g w (charR n c l) e w' := by
 have HX := hid h;clear h;cases l with
 | nil =>
  go_enter Tryz.func201, Tryz.ntmps201;go_wp2_with fail
  refine (xpeek_end S g c _ HX.out).mono ?_;rintro _ w1 ⟨rfl, ht⟩;exact ⟨rfl, rfl, ht⟩
 | cons b l =>
 have hways : ((decide ((200 : Int) ≤ (n : Int)) = true ∨ (decide ((200 : Int) ≤ (n : Int)) = false ∧ ((b.toNat : Int) == (60 : Int)) = true)) ∧ charR n c (b :: l) = .bad (b :: l)) ∨
   (decide ((200 : Int) ≤ (n : Int)) = false ∧ ((b.toNat : Int) == (60 : Int)) = false ∧ El.printable b = false ∧ charR n c (b :: l) = .bad (b :: l)) ∨
   (decide ((200 : Int) ≤ (n : Int)) = false ∧ ((b.toNat : Int) == (60 : Int)) = false ∧ El.printable b = true ∧ ((((b.toNat : Int) == (38 : Int)) = true ∧ charR n c (b :: l) = replR c [] (b :: l)) ∨ (((b.toNat : Int) == (38 : Int)) = false ∧ charR n c (b :: l) = .ok b l c))) := by
  have hc : charR n c (b :: l) = if 200 ≤ n ∨ b = 60 ∨ El.printable b = false then .bad (b :: l) else if b = 38 then replR c [] (b :: l) else .ok b l c := rfl
  have h60 : ((b.toNat : Int) == (60 : Int)) = (b == 60) := beq_u8 b 60;have h38 : ((b.toNat : Int) == (38 : Int)) = (b == 38) := beq_u8 b 38;rw [h60, h38, hc]
  by_cases c1 : 200 ≤ n
  ·exact .inl ⟨.inl (dT (by omega)), if_pos (.inl c1)⟩
  ·have d1 : decide ((200 : Int) ≤ (n : Int)) = false := dF (by omega)
   by_cases c2 : b = 60
   ·exact .inl ⟨.inr ⟨d1, by rw [c2]; rfl⟩, if_pos (.inr (.inl c2))⟩
   ·have e2 : (b == 60) = false := by rw [beq_eq_false_iff_ne]; exact c2
    cases c3 : El.printable b with
    | false => exact .inr (.inl ⟨d1, e2, rfl, if_pos (.inr (.inr rfl))⟩)
    | true =>
     have hno : ¬ (200 ≤ n ∨ b = 60 ∨ true = false) := by rintro (h | h | h); exact c1 h; exact c2 h; cases h
     refine .inr (.inr ⟨d1, e2, rfl, ?_⟩);rw [if_neg hno]
     by_cases c4 : b = 38
     ·exact .inl ⟨by rw [c4]; rfl, if_pos c4⟩
     ·exact .inr ⟨by rw [beq_eq_false_iff_ne]; exact c4, if_neg c4⟩
 have HPK := hid (fun (W : World) (h : Xr S g (b :: l) c W) => xpeek_byte S g c b l W h)
 rcases hways with ⟨d1 | ⟨d1, d2⟩, hfin⟩ | ⟨d1, d2, d3, hfin⟩ | ⟨d1, d2, d3, hfin⟩
 focus
  have HFIN := hid hfin;clear hfin;go_enter Tryz.func201, Tryz.ntmps201;go_wp2_with fail
  refine (HPK.out _ HX.out).mono ?_;rintro _ w1 ⟨rfl, hf⟩;have HX1 := hid (HX.out.fresh hf);have HF1 := hid hf;clear hf;go_wp2_with fail
  refine (xstop_any S g (b :: l) c _ HX1.out).mono ?_;rintro _ w2 ⟨rfl, rfl⟩;refine ⟨rfl, (?_ : XB S g w (charR n c (b :: l)) _ _)⟩;rw [HFIN.out];exact ⟨rfl, HF1.out.mono fun _ h => h.elim⟩
 focus
  have HFIN := hid hfin;clear hfin;go_enter Tryz.func201, Tryz.ntmps201;go_wp2_with fail
  refine (HPK.out _ HX.out).mono ?_;rintro _ w1 ⟨rfl, hf⟩;have HX1 := hid (HX.out.fresh hf);have HF1 := hid hf;clear hf;go_wp2_with fail
  refine (xstop_any S g (b :: l) c _ HX1.out).mono ?_;rintro _ w2 ⟨rfl, rfl⟩;refine ⟨rfl, (?_ : XB S g w (charR n c (b :: l)) _ _)⟩;rw [HFIN.out];exact ⟨rfl, HF1.out.mono fun _ h => h.elim⟩
 focus
  have HFIN := hid hfin;clear hfin;go_enter Tryz.func201, Tryz.ntmps201;go_wp2_with fail
  refine (HPK.out _ HX.out).mono ?_;rintro _ w1 ⟨rfl, hf⟩;have HX1 := hid (HX.out.fresh hf);have HF1 := hid hf;clear hf;go_wp2_with fail
  refine (xprintable_byte b _).mono ?_;rintro _ w2 ⟨rfl, hw⟩;replace hw := hw.symm;subst hw;go_wp2_with fail
  refine (xstop_any S g (b :: l) c _ HX1.out).mono ?_;rintro _ w2 ⟨rfl, rfl⟩;refine ⟨rfl, (?_ : XB S g w (charR n c (b :: l)) _ _)⟩;rw [HFIN.out];exact ⟨rfl, HF1.out.mono fun _ h => h.elim⟩
 rcases hfin with ⟨d4, hfin⟩ | ⟨d4, hfin⟩
 focus
  have HFIN := hid hfin;clear hfin;go_enter Tryz.func201, Tryz.ntmps201;go_wp2_with fail
  refine (HPK.out _ HX.out).mono ?_;rintro _ w1 ⟨rfl, hf⟩;have HX1 := hid (HX.out.fresh hf);have HF1 := hid (show Touch (fun b => b = g) w w1 from hf.mono fun _ h => h.elim);clear hf;go_wp2_with fail
  refine (xprintable_byte b _).mono ?_;rintro _ w2 ⟨rfl, hw⟩;replace hw := hw.symm;subst hw;go_wp2_with fail
  refine (xrepl_any S g c (b :: l) _ hS HX1.out).mono ?_;intro e w2 he;have he2 := XB.trans HF1.out he;rw [← HFIN.out] at he2;cases hr : charR n c (b :: l) with
  | bad l2 =>
   rw [hr] at he2;have h1 := he2.1;subst h1;refine ⟨rfl, (?_ : XB S g w (charR n c (b :: l)) _ _)⟩;rw [hr];exact he2
  | ok x l2 c2 =>
   rw [hr] at he2;obtain ⟨rfl, ht, hx⟩ := he2;have HF := hid (show XB S g w (charR n c (b :: l)) (.returned (.int .u8 (x.toNat : Int))) w2 by rw [hr]; exact ⟨rfl, ht, hx⟩);clear hr ht hx he;go_wp2_with fail
   go_ret;exact HF.out
 focus
  have HFIN := hid hfin;clear hfin;go_enter Tryz.func201, Tryz.ntmps201;go_wp2_with fail
  refine (HPK.out _ HX.out).mono ?_;rintro _ w1 ⟨rfl, hf⟩;have hx1 := HX.out.fresh hf;have HF1 := hid (show Touch (fun b => b = g) w w1 from hf.mono fun _ h => h.elim);obtain ⟨q0, q1, q2, f0, f1, f2, hg⟩ := blk3 hx1.blk;have hle := hx1.len;have hw : IntKind.i64.wrap (((S.size - (b :: l).length : Nat) : Int) + 1) = ((S.size - (b :: l).length : Nat) : Int) + 1 := IntWalk.i64_in _ (by omega);have HX2 := hid hx1.adv;clear hf hx1 hle;generalize S.size - (b :: l).length = k at *;go_wp2_with fail
  refine (xprintable_byte b _).mono ?_;rintro _ w2 ⟨rfl, hw2⟩;replace hw2 := hw2.symm;subst hw2;go_wp2_with fail
  go_ret;rw [HFIN.out];exact ⟨rfl, HF1.out.setCell (p := ⟨g, 1, none⟩) (.inl rfl) _, HX2.out⟩
end Go.Proofs.YtnbeemkfmlfgfaaGreatDoor
