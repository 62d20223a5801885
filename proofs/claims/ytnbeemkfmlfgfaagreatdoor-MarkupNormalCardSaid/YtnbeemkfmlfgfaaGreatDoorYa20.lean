/- Part 20 of 35 of a proof; its texts, joined: XpK. No condition. -/
import Derived.Test.YtnbeemkfmlfgfaaGreatDoorYa17
import Derived.Test.YtnbeemkfmlfgfaaGreatDoorYa19
import Derived.Test.YtnbeemkfmlfgfaaGreatDoorShelf
set_option maxRecDepth 100000
set_option maxHeartbeats 8000000
namespace Go.Proofs.YtnbeemkfmlfgfaaGreatDoor
open Go.RowKit
open Xp (Rs Sfx white expectR endR contentR elementR textA kidsA spacesB charR)
open El (E Attrs)
theorem dropW_nil {p : UInt8 → Bool} : ∀ l : List UInt8, l.dropWhile p = [] ↔ l.all p = true
 | [] => by simp
 | b :: l => by
  rw [List.dropWhile_cons, List.all_cons];cases h : p b with
  | true => rw [if_pos rfl, Bool.true_and]; exact dropW_nil l
  | false => rw [if_neg (by decide), Bool.false_and]; simp
theorem trim_spaces (l : List UInt8) : (Lib.trimB l 32).isEmpty = l.all (fun b => b == 32) := by
 unfold Lib.trimB Lib.trimLeftB Lib.trimRightB;rw [Bool.eq_iff_iff, List.isEmpty_iff];constructor
 ·intro h
  have h1 := (dropW_nil (p := fun b => b == 32) _).1 h
  have h2 : (l.reverse.dropWhile (fun b => b == 32)) = [] := by
   rw [List.all_reverse] at h1;cases hd : l.reverse.dropWhile (fun b => b == 32) with
   | nil => rfl
   | cons b s =>
    rw [hd, List.all_cons, Bool.and_eq_true] at h1;have h3 := List.takeWhile_append_dropWhile (p := fun b : UInt8 => b == 32) (l := l.reverse);rw [hd] at h3;have h4 := (Xp.span_all (p := fun b : UInt8 => b == 32) (l.reverse.takeWhile (fun b => b == 32)) b s (by rw [h3]; exact hd)).2;rw [h4] at h1;cases h1.1
  have h3 := (dropW_nil (p := fun b : UInt8 => b == 32) _).1 h2;rw [List.all_reverse] at h3;exact h3
 ·intro h
  have h3 : l.reverse.dropWhile (fun b => b == 32) = [] := (dropW_nil (p := fun b : UInt8 => b == 32) _).2 (by rw [List.all_reverse]; exact h);rw [h3]; rfl
theorem endR_cnt {nm l : List UInt8} {c : Nat} {u : Unit} {l1 : List UInt8} {c1 : Nat} (h : endR nm c l = .ok u l1 c1) : c1 = c := by
 unfold endR at h;cases he : expectR 47 c l with
 | bad l2 => rw [he] at h; cases h
 | ok u2 l2 c2 =>
  rw [he] at h
  dsimp only at h
  cases hl : Xp.litR c nm l2 with
  | bad l3 => rw [hl] at h; cases h
  | ok u3 l3 c3 => rw [hl] at h; exact expectR_cnt h
def contE {α : Type} (x : α) (c : Nat) : Rs Unit → Rs α
 | .bad l => .bad l
 | .ok _ l _ => .ok x l c
def contT (nm : List UInt8) (c : Nat) : Rs (List UInt8) → Rs (List E × List UInt8)
 | .bad l => .bad l
 | .ok t l _ => contE ([], t) c (endR nm c (l.drop 1))
def contK (nm ws : List UInt8) : Rs (List E) → Rs (List E × List UInt8)
 | .bad l => .bad l
 | .ok ks l c => contE (ks, if spacesB ws && ks.isEmpty then ws else []) c (endR nm c l)
theorem content_nil {el : List UInt8 → Nat → Rs E} {nm l : List UInt8} {c : Nat} (hd : l.dropWhile white = []) : contentR el nm l c = .bad [] := by unfold contentR; rw [hd]
theorem content_gap {el : List UInt8 → Nat → Rs E} {nm l l2 : List UInt8} {b : UInt8} {c : Nat} (hd : l.dropWhile white = b :: l2) (hb : ¬ b = 60) (hs : spacesB (l.takeWhile white) = false) : contentR el nm l c = .bad (b :: l2) := by
 unfold contentR;rw [hd]
 dsimp only
 rw [if_neg hb, if_pos hs]
theorem content_text {el : List UInt8 → Nat → Rs E} {nm l l2 : List UInt8} {b : UInt8} {c : Nat} (hd : l.dropWhile white = b :: l2) (hb : ¬ b = 60) (hs : spacesB (l.takeWhile white) = true) : contentR el nm l c = contT nm c (textA 60 c (l.takeWhile white) (b :: l2)) := by
 unfold contentR;rw [hd]
 dsimp only
 rw [if_neg hb, if_neg (by rw [hs]; decide)];show _ = contT nm c (Xp.textR 60 c ((b :: l2).length + 1) (l.takeWhile white) (b :: l2));cases ht : Xp.textR 60 c ((b :: l2).length + 1) (l.takeWhile white) (b :: l2) with
 | bad l3 => rfl
 | ok t l3 c3 =>
  show _ = contE ([], t) c (endR nm c (l3.drop 1))
  dsimp only
  cases he : endR nm c (l3.drop 1) with
  | bad l4 => rfl
  | ok u l4 c4 => rfl
theorem content_kids {el : List UInt8 → Nat → Rs E} {nm l l2 : List UInt8} {b : UInt8} {c : Nat} (hd : l.dropWhile white = b :: l2) (hb : b = 60) : contentR el nm l c = contK nm (l.takeWhile white) (kidsA el [] l2 c) := by
 unfold contentR;rw [hd]
 dsimp only
 rw [if_pos hb];show _ = contK nm _ (Xp.kidsR el (l2.length + 1) [] l2 c);cases hk : Xp.kidsR el (l2.length + 1) [] l2 c with
 | bad l3 => rfl
 | ok ks l3 c3 =>
  show _ = contE _ c3 (endR nm c3 l3)
  dsimp only
  cases he : endR nm c3 l3 with
  | bad l4 => rfl
  | ok u l4 c4 => rfl
theorem kidsA_end {el : List UInt8 → Nat → Rs E} {ks : List E} {c : Nat} : kidsA el ks [] c = .bad [] := by unfold kidsA; rw [Xp.kidsR]
theorem kidsA_bad {el : List UInt8 → Nat → Rs E} {ks : List E} {b : UInt8} {l l1 : List UInt8} {c : Nat} (hb : ¬ b = 47) (he : el (b :: l) c = .bad l1) : kidsA el ks (b :: l) c = .bad l1 := by
 unfold kidsA;rw [Xp.kidsR, if_neg hb, he]
theorem kidsA_gapnil {el : List UInt8 → Nat → Rs E} {ks : List E} {b : UInt8} {l l1 : List UInt8} {c c1 : Nat} {e : E} (hb : ¬ b = 47) (he : el (b :: l) c = .ok e l1 c1) (hd : l1.dropWhile white = []) : kidsA el ks (b :: l) c = .bad [] := by
 unfold kidsA;rw [Xp.kidsR, if_neg hb, he]
 dsimp only
 rw [hd]
theorem kidsA_gapbad {el : List UInt8 → Nat → Rs E} {ks : List E} {b b2 : UInt8} {l l1 l3 : List UInt8} {c c1 : Nat} {e : E} (hb : ¬ b = 47) (he : el (b :: l) c = .ok e l1 c1) (hd : l1.dropWhile white = b2 :: l3) (hb2 : ¬ b2 = 60) : kidsA el ks (b :: l) c = .bad (b2 :: l3) := by
 unfold kidsA;rw [Xp.kidsR, if_neg hb, he]
 dsimp only
 rw [hd]
 dsimp only
 rw [if_neg hb2]
theorem four_row {w : World} {g : Nat} {t : TypeId} {a b c d : Value} (h : Blk w g t #[a, b, c, d]) (i : Nat) (u : Value) : Blk (w.setCell ⟨g, i, none⟩ u) g t (#[a, b, c, d].setIfInBounds i u) := h.put i u
theorem GrowEZ.stores {B n : Nat} {w8 : World} {es : List E} {e : E} {va vk x0 x1 x2 x3 : Value} {g8 cap E0 : Nat} (h : GrowEZ B w8 es e va vk (.slice (some ⟨g8, 0, none⟩) (n + 1) cap)) (hn : es.length = n) (hb : Blk w8 E0 45 #[x0, x1, x2, x3]) (hE : E0 < B) :
  (∀ W, W = (xputAt4 w8 g8 (n * 4) (.string ⟨e.name.toArray⟩) va vk (.string ⟨e.text.toArray⟩)).setCell ⟨E0, 2, none⟩ (.slice (some ⟨g8, 0, none⟩) (n + 1) cap) →
   Blk W E0 45 #[x0, x1, .slice (some ⟨g8, 0, none⟩) (n + 1) cap, x3] ∧ GrowE B W (es ++ [e]) (.slice (some ⟨g8, 0, none⟩) (n + 1) cap) ∧ Touch (fun i => i = g8 ∨ i = E0) w8 W) ∧
  (∀ W, W = xputAt4 (w8.setCell ⟨E0, 2, none⟩ (.slice (some ⟨g8, 0, none⟩) (n + 1) cap)) g8 (n * 4) (.string ⟨e.name.toArray⟩) va vk (.string ⟨e.text.toArray⟩) →
   Blk W E0 45 #[x0, x1, .slice (some ⟨g8, 0, none⟩) (n + 1) cap, x3] ∧ GrowE B W (es ++ [e]) (.slice (some ⟨g8, 0, none⟩) (n + 1) cap) ∧ Touch (fun i => i = g8 ∨ i = E0) w8 W) := by
 obtain ⟨g', cap', hv, _, hg8, _⟩ := h.cells hn;cases hv;have t1 : ∀ (w : World) (v : Value), Touch (fun k => k = E0) w (w.setCell ⟨E0, 2, none⟩ v) := fun w v => (Touch.refl (fun k => k = E0) w).setCell (p := ⟨E0, 2, none⟩) (.inl rfl) v
 constructor
 ·rintro W rfl
  have hp := xtouchAt4 w8 g8 (n * 4) (.string ⟨e.name.toArray⟩) va vk (.string ⟨e.text.toArray⟩);exact ⟨(hp.blk hb fun h => by omega).put 2 _, (h.put hn).mv (t1 _ _) fun k hk _ => by omega, (hp.mono fun i hi => .inl hi).trans ((t1 _ _).mono fun i hi => .inr hi)⟩
 ·rintro W rfl
  exact ⟨(xtouchAt4 _ g8 (n * 4) _ _ _ _).blk (hb.put 2 _) fun h => by omega, (h.mv (t1 w8 _) fun k hk _ => by omega).put hn, ((t1 w8 _).mono fun i hi => .inr hi).trans ((xtouchAt4 _ g8 (n * 4) _ _ _ _).mono fun i hi => .inl hi)⟩
attribute [local go_sem] stillV stillUpon
theorem xcont_sp (S : ByteArray) (g n : Nat) (hS : S.size ≤ 1099511627776) (hn : n < 64) (hel : ElemC S g n) (d : Int) (nm : List UInt8) (va : Value) (E0 : Nat) (l : List UInt8) (c : Nat) (w : World) (hd0 : d = 64 - (n : Int)) (hnm : nm.length ≤ S.size) (hEg : E0 ≠ g)
  (hB0 : Blk w E0 45 #[.string ⟨nm.toArray⟩, va, .slice none 0 0, .string ⟨#[]⟩]) (hX0 : Xr S g l c w) (hsp : spacesB (l.takeWhile white) = true) :
  Calls Tryz.prog 167 #[.pointer (some ⟨g, 0, none⟩), .pointer (some ⟨E0, 0, none⟩), .int .i64 d] w fun e w' => XC S g E0 nm va w (contentR (elementR n) nm l c) e w' := by
 have HX := hid hX0;have HB := hid hB0;have HEL := hid hel;have HNM := hid hnm;have HD0 := hid hd0;have HBL := hid hB0.lt;have HGL := hid hX0.lt;have hwd : IntKind.i64.wrap (d + 1) = d + 1 := IntWalk.i64_in _ (by omega);have HD1 := hid (show d + 1 = 65 - (n : Int) by omega);have HWD := hid hwd;obtain ⟨q0, q1, q2, _, _, _, _⟩ := blk3 hX0.blk;obtain ⟨ws, hws⟩ : ∃ ws, l.takeWhile white = ws := ⟨_, rfl⟩;have HWS := hid hws;rw [hws] at hsp;have hk0 : S.size - l.length ≤ S.size := by omega
 have HSF := hid hX0.sfx;have HLL := hid hX0.len;obtain ⟨k0, hkk⟩ : ∃ k, k = S.size - l.length := ⟨_, rfl⟩;have HK0 := hid hkk;rw [← hkk] at q1;clear hkk hX0 hB0 hel hws hnm hd0 hwd;have HSP := hid hsp;have HLW := hid (show spacesB ws = true → ws.length ≤ 200 from fun h => by unfold spacesB at h; simp only [Bool.and_eq_true, decide_eq_true_eq] at h; exact h.2);have HWN := hid (show ws.length ≤ 200 from HLW.out hsp);clear hsp;go_enter Tryz.func167, Tryz.ntmps167;go_wp2_with fail
 refine (xspace_any S g c l w hS HX.out).mono ?_;rintro _ w1 ⟨rfl, ht, hx⟩;have HX1 := hid hx;have HT1 := hid ht;have HB1 := hid (ht.blk HB.out fun h => hEg h);clear ht hx HX HB q0 q1 q2;generalize decide ((l.dropWhile white).length < l.length) = z0;obtain ⟨q0, q1, q2, _, _, _, _⟩ := blk3 HX1.out.blk
 have HEX := hid (show S.extract k0 (S.size - (l.dropWhile white).length) = ⟨ws.toArray⟩ from by
  have h := sfx_extract (S := S) (p := l.takeWhile white) (r := l.dropWhile white) (by rw [List.takeWhile_append_dropWhile]; exact HSF.out);rw [List.takeWhile_append_dropWhile, ← HK0.out, HWS.out] at h;exact h)
 have hdl : (l.dropWhile white).length ≤ l.length := (Xp.Sfx.dropWhile white l).len;have hk1 : (k0 : Int) ≤ ((S.size - (l.dropWhile white).length : Nat) : Int) := by have := HK0.out; have := HLL.out; omega
 have hk2 : ((S.size - (l.dropWhile white).length : Nat) : Int) ≤ (S.size : Int) := by omega
 have hk3 : (0 : Int) ≤ (k0 : Int) := by omega
 have hk4 : k0 ≤ S.size - (l.dropWhile white).length := by omega
 have hk5 : S.size - (l.dropWhile white).length ≤ S.size := by omega
 generalize S.size - (l.dropWhile white).length = k at *;clear hdl;go_wp2_with fail
 go_quiet (fail)
 refine forget_world (fun W => Fresh w1 W) ((Touch.refl _ _).drewN _) ?_;rintro w2 hf2;have HX2 := hid (HX1.out.fresh hf2);have HT2 := hid (HT1.out.trans (hf2.mono fun _ h => h.elim));have HB2 := hid (hf2.blk HB1.out fun h => h);clear hf2;clear HX1 HT1 HB1 q0 q1 q2 hk1 hk2 hk3 hk4 hk5;generalize S.extract k0 k = Bs at HEX ⊢;have hbs := HEX.out;subst hbs;have hwl : (⟨ws.toArray⟩ : ByteArray).size = ws.length := rfl;go_wp2_with fail
 refine (Tryz.strings_Trim_one ⟨ws.toArray⟩ 32 (by decide) w2 (by rw [hwl]; have := HWN.out; omega)).mono ?_;rintro _ w4 ⟨rfl, hw4⟩
 have hf4 : Fresh w2 w4 := by
  rcases hw4 with rfl | rfl
  ·exact Touch.refl _ _
  ·exact (Touch.refl _ _).drewN 1
 have HX4 := hid (HX2.out.fresh hf4);have HT4 := hid (HT2.out.trans (hf4.mono fun _ h => h.elim));have HB4 := hid (hf4.blk HB2.out fun h => h);clear hf4 hw4 HX2 HT2 HB2;have HTR := hid (show (Lib.trimB (⟨ws.toArray⟩ : ByteArray).data.toList 32).isEmpty = ws.all (fun b => b == 32) from trim_spaces ws);generalize Lib.trimB (⟨ws.toArray⟩ : ByteArray).data.toList 32 = tr at HTR ⊢
 have htr : tr.isEmpty = true := by
  rw [HTR.out];have h := HSP.out;unfold spacesB at h;rw [Bool.and_eq_true] at h;exact h.1
 have h200 : decide ((ws.length : Int) ≤ (200 : Int)) = true := dT (by have := HWN.out; omega);have h200n : decide (ws.length ≤ 200) = true := dT HWN.out;go_wp2_with fail
 clear htr h200 h200n HTR;cases hd : l.dropWhile white with
 | nil =>
  have HFIN := hid (show contentR (elementR n) nm l c = .bad [] from content_nil hd);rw [hd] at HX4;refine (xpeek_end S g c _ HX4.out).mono ?_;rintro _ w9 ⟨rfl, ht9⟩;refine ⟨rfl, (?_ : XC S g E0 nm va w (contentR (elementR n) nm l c) _ _)⟩;rw [HFIN.out];exact ⟨rfl, (HT4.out.trans ht9).mono fun _ h => .inl h⟩
 | cons b0 l3 =>
  rw [hd] at HX4;have HD := hid hd;clear hd
  by_cases hb : b0 = 60
  rotate_left
  focus
   have hbn : ((b0.toNat : Int) != (60 : Int)) = true := u8_bne_of b0 60 hb;have HB60 := hid hb;clear hb;refine (xpeek_byte S g c b0 l3 _ HX4.out).mono ?_;rintro _ w5 ⟨rfl, hf5⟩;have HX5 := hid (HX4.out.fresh hf5);have HT5 := hid (HT4.out.trans (hf5.mono fun _ h => h.elim));have HB5 := hid (hf5.blk HB4.out fun h => h);clear hf5 HX4 HT4 HB4;have HCT := hid (content_text (el := elementR n) (nm := nm) (c := c) HD.out HB60.out (by rw [HWS.out]; exact HSP.out));rw [HWS.out] at HCT;have hn200 : ws.length ≤ 200 := HLW.out HSP.out;have hgsz := HX5.out.lt;obtain ⟨b5, hb5⟩ : ∃ b, b = w5.heap.size := ⟨_, rfl⟩;have hEl := HB5.out.lt;have hgb : g < b5 := by omega
   have hEb : E0 < b5 := by omega
   have hb5w : w.heap.size ≤ b5 := by have := HT5.out.size; omega
   obtain ⟨A0, n0, cp0, W6, hcv0, hn0, hgb0, hfr0⟩ : ∃ A0 n0 cp0 W6, (convert 9 65 (.string ⟨ws.toArray⟩)).run Tryz.prog w5 = .ok (.slice A0 n0 cp0) W6 ∧ ws.length = n0 ∧ GrowB b5 W6 ws (.slice A0 n0 cp0) ∧ Fresh w5 W6 := by
    obtain ⟨h1, h2⟩ := GrowB.conv w5 ⟨ws.toArray⟩ (by show ws.length ≤ _; omega)
    exact ⟨_, _, _, _, Lib.run_convert_string_bytes w5 9 65 5 ⟨ws.toArray⟩ Tryz.underlying9 Tryz.underlying65 Tryz.underlying5, rfl, by rw [hb5]; exact h1, h2⟩
   have HG6 := hid hgb0;have HT6 := hid (HT5.out.trans (hfr0.mono fun _ h => h.elim));have HX6 := hid (HX5.out.fresh hfr0);have HB6 := hid (hfr0.blk HB5.out fun h => h);clear hb5 hgb0 hfr0 HX5 HT5 HB5 hgsz hEl;go_wp2_with fail
   go_loopw [9] (fun v wr => ∃ (acc l1 : List UInt8) (A : Option Addr) (nn cp : Nat), v = .slice A nn cp ∧ Hid (acc.length = nn) ∧ nn ≤ 1000 ∧ Hid (Xp.textA 60 c ws (b0 :: l3) = Xp.textA 60 c acc l1) ∧ Hid (GrowB (b5) wr acc (.slice A nn cp)) ∧ Hid (Touch (fun b => b = g) w wr) ∧ Hid (Xr S g l1 c wr) ∧ Hid (Blk wr E0 45 #[.string ⟨nm.toArray⟩, va, .slice none 0 0, .string ⟨#[]⟩])) (fun _ wr => S.size - posOf g wr)
   case atStart => exact ⟨ws, b0 :: l3, A0, n0, cp0, rfl, hid hn0, by omega, hid rfl, HG6, HT6, HX6, HB6⟩
   case round =>
    obtain ⟨acc, l1, A, nn, cp, rfl, HNL, hn, HTX, HG, HT, HX, HB⟩ := hrel;rename_i wr _;have HP := hid (posOf_at HX.out);have hgs := HX.out.lt;cases l1 with
    | nil =>
     have HFIN := hid (show contentR (elementR n) nm l c = .bad [] by rw [HCT.out, HTX.out, Xp.textA_nil]; rfl);go_wp2_with fail
     refine (xpeek_end S g c _ HX.out).mono ?_;rintro _ w9 ⟨rfl, ht9⟩;refine ⟨rfl, (?_ : XC S g E0 nm va w (contentR (elementR n) nm l c) _ _)⟩;rw [HFIN.out];exact ⟨rfl, (HT.out.trans ht9).mono fun _ h => .inl h⟩
    | cons b l2 =>
     by_cases hb : b = 60
     ·have hbn : ((b.toNat : Int) != (60 : Int)) = false := u8_nbne_of b 60 hb
      have HTE := hid (show Xp.textA 60 c ws (b0 :: l3) = .ok acc (60 :: l2) c by rw [HTX.out, hb]; exact Xp.textA_end 60 c acc l2);have HBQ := hid hb;clear hb;go_wp2_with fail
      refine (xpeek_byte S g c b l2 _ HX.out).mono ?_;rintro _ w9 ⟨rfl, hf9⟩;have HX9 := hid (HX.out.fresh hf9);have HT9 := hid (HT.out.trans (hf9.mono fun _ h => h.elim));have HB9 := hid (hf9.blk HB.out fun h => h);have HG9 := hid (HG.out.fresh hf9);have HA := hid (show contentR (elementR n) nm l c = contE ([], acc) c (endR nm c l2) by rw [HCT.out, HTE.out]; rfl);clear hf9;rw [HBQ.out] at HX9;have hcv := HG9.out.str HNL.out;obtain ⟨e0, e1, e2, e3, y0, y1, y2, y3, hlb⟩ := Blk.four HB9.out;obtain ⟨q0, q1, q2, f0, f1, f2, hg⟩ := blk3 HX9.out.blk;have hle := HX9.out.len;have hw : IntKind.i64.wrap (((S.size - (60 :: l2 : List UInt8).length : Nat) : Int) + 1) = ((S.size - (60 :: l2 : List UInt8).length : Nat) : Int) + 1 := IntWalk.i64_in _ (by omega);have HBA := hid (show Blk (w9.setCell ⟨E0, 3, none⟩ (.string ⟨acc.toArray⟩)) E0 45 #[.string ⟨nm.toArray⟩, va, .slice none 0 0, .string ⟨acc.toArray⟩] from HB9.out.put 3 _);have HTA := hid ((HT9.out.mono fun i (h : i = g) => show i = g ∨ i = E0 from .inl h).setCell (p := ⟨E0, 3, none⟩) (.inl (.inr rfl)) (.string ⟨acc.toArray⟩));have HXA := hid (HX9.out.move ((Touch.refl (fun k => k = E0) w9).setCell (p := ⟨E0, 3, none⟩) (.inl rfl) (.string ⟨acc.toArray⟩)) (by omega));have HXF := hid HXA.out.adv;have HBF := hid (HBA.out.far (p := ⟨g, 1, none⟩) (by show E0 ≠ g; omega) (.int .i64 (((S.size - (60 :: l2 : List UInt8).length : Nat) : Int) + 1)));have HTF := hid (HTA.out.setCell (p := ⟨g, 1, none⟩) (.inl (.inl rfl)) (.int .i64 (((S.size - (60 :: l2 : List UInt8).length : Nat) : Int) + 1)));generalize S.size - (60 :: l2 : List UInt8).length = k at *;have hne1 : E0 ≠ g := hEg;have hne2 : g ≠ E0 := fun h => hEg h.symm
      have HAL := hid (show acc.length ≤ 1000 by have := HNL.out; omega);clear hcv0 HG9 HG HTX HTE;go_wp2_with fail
      generalize World.setCell _ ⟨g, 1, none⟩ _ = W9 at HXF HBF HTF ⊢;clear e0 e1 e2 e3 y0 y1 y2 y3 hlb q0 q1 q2 f0 f1 f2 hg hle hw HBA HTA HXA HB9 HX9 HT9 hcv hne1 hne2;have HEND := hid (show Calls Tryz.prog 202 #[.pointer (some ⟨g, 0, none⟩), .string ⟨nm.toArray⟩] W9 fun e w' => XU S g W9 (endR nm c l2) e w' from xend_any S ⟨nm.toArray⟩ g c l2 W9 hS (by have := HNM.out; show nm.length ≤ _; omega) HXF.out);refine HEND.out.mono ?_;intro e w10 he;cases hr : endR nm c l2 with
      | bad l9 =>
       have HFIN := hid (show contentR (elementR n) nm l c = .bad l9 by rw [HA.out, hr]; rfl);rw [hr] at he;obtain ⟨rfl, ht⟩ := he;refine ⟨rfl, (?_ : XC S g E0 nm va w (contentR (elementR n) nm l c) _ _)⟩;rw [HFIN.out];exact ⟨rfl, HTF.out.trans (ht.mono fun _ h => .inl h)⟩
      | ok u l9 c9 =>
       have hc9 := endR_cnt hr;rw [hc9] at hr;clear hc9;have HFIN := hid (show contentR (elementR n) nm l c = .ok ([], acc) l9 c by rw [HA.out, hr]; rfl);rw [hr] at he;obtain ⟨rfl, ht, hx⟩ := he;have HX10 := hid hx;have HB10 := hid (ht.blk HBF.out fun h => by omega);have HT10 := hid (HTF.out.trans (ht.mono fun _ h => .inl h));have HS10 := hid (show Stab (fun k => k < w.heap.size) w10 fun W => RepE W [] (.slice none 0 0) from fun _ _ => RepE.nil none 0);clear ht hx hr HEND;go_wp2_with fail
       refine bodyPost_end (v := .tuple #[]) (results_none rfl _ _ _) rfl ?_;rw [HFIN.out];exact ⟨rfl, _, _, _, HB10.out, (by have := HAL.out; simp only [maxLen]; show acc.length ≤ _; omega), HS10.out, HT10.out, HX10.out⟩
     ·have hbn : ((b.toNat : Int) != (60 : Int)) = true := u8_bne_of b 60 hb
      cases hr : charR nn c (b :: l2) with
      | bad l7 =>
       have HFIN := hid (show contentR (elementR n) nm l c = .bad l7 by rw [HCT.out, HTX.out, Xp.textA_bad hb (by rw [HNL.out]; exact hr)]; rfl);clear hb;go_wp2_with fail
       refine (xpeek_byte S g c b l2 _ HX.out).mono ?_;rintro _ w9 ⟨rfl, hf9⟩;have HX9 := hid (HX.out.fresh hf9);have HT9 := hid (HT.out.trans (hf9.mono fun _ h => h.elim));clear hf9;go_wp2_with fail
       refine (xchar_any S g c nn (b :: l2) _ hS (by omega) HX9.out).mono ?_;intro e w3 he;rw [hr] at he;obtain ⟨rfl, ht⟩ := he;refine ⟨rfl, (?_ : XC S g E0 nm va w (contentR (elementR n) nm l c) _ _)⟩;rw [HFIN.out];exact ⟨rfl, (HT9.out.trans ht).mono fun _ h => .inl h⟩
      | ok x l7 c7 =>
       have HTS := hid (show Xp.textA 60 c ws (b0 :: l3) = Xp.textA 60 c (acc ++ [x]) l7 by rw [HTX.out]; exact Xp.textA_step hb (by rw [HNL.out]; exact hr));have hn2 := Xp.charR_n hr;have hlt := Xp.charR_lt hr;have hc7 := Xp.charR_cnt hr;subst hc7;have HRR := hid hr;have HLT := hid hlt;clear hb hr hlt;go_wp2_with fail
       refine (xpeek_byte S g c7 b l2 _ HX.out).mono ?_;rintro _ w9 ⟨rfl, hf9⟩;have HX9 := hid (HX.out.fresh hf9);have HT9 := hid (HT.out.trans (hf9.mono fun _ h => h.elim));have HG9 := hid (HG.out.fresh hf9);have HB9 := hid (hf9.blk HB.out fun h => h);clear hf9;go_wp2_with fail
       refine (xchar_any S g c7 nn (b :: l2) _ hS (by omega) HX9.out).mono ?_;intro e w3 he;rw [HRR.out] at he;obtain ⟨rfl, ht, hx⟩ := he;have HX3 := hid (hx.fresh ((Touch.refl _ w3).alloc (.cells #[.int .u8 (x.toNat : Int)] 5)));have HT3 := hid ((HT9.out.trans ht).alloc (.cells #[.int .u8 (x.toNat : Int)] 5));have HG3 := hid ((HG9.out.mv ht fun k hk _ => by omega).fresh ((Touch.refl _ w3).alloc (.cells #[.int .u8 (x.toNat : Int)] 5)));have HBV := hid (Blk.new w3 5 #[.int .u8 (x.toNat : Int)]);have HB3 := hid ((ht.blk HB9.out fun h => by omega).alloc (.cells #[.int .u8 (x.toNat : Int)] 5));clear ht hx
       go_wp2_with (at_builtin; go_loud (refine wpList_append_byte rfl (.tmp 46) (.tmp 51) rfl HG3.out HNL.out (by simp [Act.eval]) x HBV.out (by simp [Act.eval]) (by omega) ?_); intro A8 c8 w8 hg8 ht8; refine Stay.mk ?_)
       have HOW := hid HG3.out.own_lt;have HX8 := hid (HX3.out.move ht8 fun h => by have := (HOW.out _ h).1; omega);have HT8 := hid (show Touch (fun b => b = g) w w8 from HT3.out.trans' ht8 fun k hk => .inr (by have := (HOW.out _ hk).1; omega));have HG8 := hid hg8;have HB8 := hid (ht8.blk HB3.out fun h => by have := (HOW.out _ h).1; omega);have HM := hid (posOf_at HX8.out);clear hg8 ht8;refine Stay.go ?_;go_wp2_with fail
       go_roundw
       case rel => exact ⟨acc ++ [x], l7, A8, nn + 1, c8, rfl, hid (by rw [List.length_append, HNL.out]; rfl), by omega, HTS, HG8, HT8, HX8, HB8⟩
       case measure =>
        rw [HM.out, HP.out];have h1 := HX.out.len;have h2 := HLT.out;rw [List.length_cons] at *;omega
  have hbn : ((b0.toNat : Int) != (60 : Int)) = false := u8_nbne_of b0 60 hb;have HB60 := hid hb;clear hb;refine (xpeek_byte S g c b0 l3 _ HX4.out).mono ?_;rintro _ w5 ⟨rfl, hf5⟩;have HX5 := hid (HX4.out.fresh hf5);have HT5 := hid (HT4.out.trans (hf5.mono fun _ h => h.elim));have HB5 := hid (hf5.blk HB4.out fun h => h);clear hf5 HX4 HT4 HB4;have HCK := hid (content_kids (el := elementR n) (nm := nm) (c := c) HD.out HB60.out);rw [HWS.out] at HCK;have hEl := HB5.out.lt;have hEl0 := HBL.out;have hls := HX5.out.len;rw [List.length_cons] at hls;rw [HB60.out] at HX5;have HT6 := hid (HT5.out.mono fun i (h : i = g) => show i = g ∨ i = E0 from .inl h);have HG6 := hid (show GrowE w.heap.size w5 [] (.slice none 0 0) from GrowE.nil HT5.out.size);clear HT5 hEl;go_wp2_with fail
  go_loopw [] (fun wr => ∃ (ks : List E) (l1 : List UInt8) (A : Option Addr) (nk cp c1 : Nat), Hid (ks.length = nk) ∧ nk + l1.length ≤ S.size ∧ Hid (contentR (elementR n) nm l c = contK nm ws (kidsA (elementR n) ks l1 c1)) ∧ Hid (Blk wr E0 45 #[.string ⟨nm.toArray⟩, va, .slice A nk cp, .string ⟨#[]⟩]) ∧ Hid (GrowE w.heap.size wr ks (.slice A nk cp)) ∧ Hid (Touch (fun b => b = g ∨ b = E0) w wr) ∧ Hid (Xr S g (60 :: l1) c1 wr)) (fun wr => S.size - posOf g wr)
  case atStart => exact ⟨[], l3, none, 0, 0, c, hid rfl, by omega, HCK, HB5, HG6, HT6, HX5⟩
  case round =>
   clear HX5 HT6 HB5 HG6 HCK hls;obtain ⟨ks, l1, A, nk, cp, c1, HNK, hnk, HEQ, HB, HG, HT, HX⟩ := hrel;rename_i wr _;have HP := hid (posOf_at HX.out);have hEl := HB.out.lt;have hgs := HX.out.lt;obtain ⟨q0, q1, q2, f0, f1, f2, hg⟩ := blk3 HX.out.blk;have hle := HX.out.len;have hw : IntKind.i64.wrap (((S.size - (60 :: l1 : List UInt8).length : Nat) : Int) + 1) = ((S.size - (60 :: l1 : List UInt8).length : Nat) : Int) + 1 := IntWalk.i64_in _ (by omega);have HXA := hid HX.out.adv;have HTA := hid (HT.out.setCell (p := ⟨g, 1, none⟩) (.inl (.inl rfl)) (.int .i64 (((S.size - (60 :: l1 : List UInt8).length : Nat) : Int) + 1)));have HBA := hid (HB.out.far (p := ⟨g, 1, none⟩) (by show E0 ≠ g; exact hEg) (.int .i64 (((S.size - (60 :: l1 : List UInt8).length : Nat) : Int) + 1)));have HGA := hid (HG.out.mv ((Touch.refl (fun b => b = g) wr).setCell (p := ⟨g, 1, none⟩) (.inl rfl) (.int .i64 (((S.size - (60 :: l1 : List UInt8).length : Nat) : Int) + 1))) fun k hk _ => by omega);have HLE := hid hle;generalize hkk : S.size - (60 :: l1 : List UInt8).length = k at q1 hw HXA HTA HBA HGA;have HKK := hid hkk;clear hkk;go_wp2_with fail
   generalize (wr.setCell ⟨g, 1, none⟩ (.int .i64 ((k : Int) + 1))) = wB at HXA HTA HBA HGA ⊢;have HXB := HXA;have HTB := HTA;have HBB := HBA;have HGB := HGA;clear q0 q1 q2 f0 f1 f2 hg hle hw HXA HTA HBA HGA HX HT HB HG hEl hgs;have hEl := HBB.out.lt;have hgs := HXB.out.lt;cases l1 with
   | nil =>
    have HFIN := hid (show contentR (elementR n) nm l c = .bad [] by rw [HEQ.out, kidsA_end]; rfl);refine (xpeek_end S g c1 _ HXB.out).mono ?_;rintro _ w9 ⟨rfl, ht9⟩;refine ⟨rfl, (?_ : XC S g E0 nm va w (contentR (elementR n) nm l c) _ _)⟩;rw [HFIN.out];exact ⟨rfl, HTB.out.trans (ht9.mono fun _ h => .inl h)⟩
   | cons b l2 =>
   by_cases hb : b = 47
   ·have hbn : ((b.toNat : Int) == (47 : Int)) = true := by rw [hb]; rfl
    have HB47 := hid hb;clear hb;refine (xpeek_byte S g c1 b l2 _ HXB.out).mono ?_;rintro _ w9 ⟨rfl, hf9⟩;have HX9 := hid (HXB.out.fresh hf9);have HT9 := hid (HTB.out.trans (hf9.mono fun _ h => h.elim));have HB9 := hid (hf9.blk HBB.out fun h => h);have HG9 := hid (HGB.out.fresh hf9);have HK47 := hid (show kidsA (elementR n) ks (b :: l2) c1 = .ok ks (47 :: l2) c1 by rw [HB47.out]; exact Xp.kidsA_nil _ _ _ _);rw [HB47.out] at HX9;clear hf9 HXB HTB HBB HGB;obtain ⟨e0, e1, e2, e3, y0, y1, y2, y3, hlb⟩ := Blk.four HB9.out
    by_cases hk0 : nk = 0
    ·have d0 : ((nk : Int) == (0 : Int)) = true := by rw [hk0]; rfl
     have HKE := hid (show ks = [] from List.length_eq_zero_iff.1 (by rw [HNK.out]; exact hk0));have HA := hid (show contentR (elementR n) nm l c = contE (ks, ws) c1 (endR nm c1 (47 :: l2)) by rw [HEQ.out, HK47.out]; show contE (ks, if spacesB ws && ks.isEmpty then ws else []) c1 _ = _; rw [HSP.out, HKE.out]; rfl);have HWL := hid (HLW.out HSP.out);have HBF := hid (show Blk (w9.setCell ⟨E0, 3, none⟩ (.string ⟨ws.toArray⟩)) E0 45 #[.string ⟨nm.toArray⟩, va, .slice A nk cp, .string ⟨ws.toArray⟩] from HB9.out.put 3 _);have HTF := hid (HT9.out.setCell (p := ⟨E0, 3, none⟩) (.inl (.inr rfl)) (.string ⟨ws.toArray⟩));have HXF := hid (HX9.out.move ((Touch.refl (fun k => k = E0) w9).setCell (p := ⟨E0, 3, none⟩) (.inl rfl) (.string ⟨ws.toArray⟩)) (by omega));have HGF := hid (HG9.out.mv ((Touch.refl (fun k => k = E0) w9).setCell (p := ⟨E0, 3, none⟩) (.inl rfl) (.string ⟨ws.toArray⟩)) (fun k hk _ => by omega));clear HEQ HK47 hk0;go_wp2_with fail
     generalize (w9.setCell ⟨E0, 3, none⟩ (.string ⟨ws.toArray⟩)) = W9 at HXF HBF HTF HGF ⊢;clear e0 e1 e2 e3 y0 y1 y2 y3 hlb HX9 HT9 HB9 HG9 d0;have HEND := hid (show Calls Tryz.prog 202 #[.pointer (some ⟨g, 0, none⟩), .string ⟨nm.toArray⟩] W9 fun e w' => XU S g W9 (endR nm c1 (47 :: l2)) e w' from xend_any S ⟨nm.toArray⟩ g c1 (47 :: l2) W9 hS (by have := HNM.out; show nm.length ≤ _; omega) HXF.out);refine HEND.out.mono ?_;intro e w10 he;cases hr : endR nm c1 (47 :: l2) with
     | bad l9 =>
      have HFIN := hid (show contentR (elementR n) nm l c = .bad l9 by rw [HA.out, hr]; rfl);rw [hr] at he;obtain ⟨rfl, ht⟩ := he;refine ⟨rfl, (?_ : XC S g E0 nm va w (contentR (elementR n) nm l c) _ _)⟩;rw [HFIN.out];exact ⟨rfl, HTF.out.trans (ht.mono fun _ h => .inl h)⟩
     | ok u l9 c9 =>
      have hc9 := endR_cnt hr;rw [hc9] at hr;clear hc9;have HFIN := hid (show contentR (elementR n) nm l c = .ok (ks, ws) l9 c1 by rw [HA.out, hr]; rfl);rw [hr] at he;obtain ⟨rfl, ht, hx⟩ := he;have HX10 := hid hx;have HB10 := hid (ht.blk HBF.out fun h => by omega);have HT10 := hid (HTF.out.trans (ht.mono fun _ h => .inl h));have HS10 := hid ((HGF.out.mv ht fun k hk _ => by omega).done);clear ht hx hr HEND;go_wp2_with fail
      refine bodyPost_end (v := .tuple #[]) (results_none rfl _ _ _) rfl ?_;rw [HFIN.out];exact ⟨rfl, _, _, _, HB10.out, (by have := HWL.out; simp only [maxLen]; show ws.length ≤ _; omega), HS10.out, HT10.out, HX10.out⟩
    ·have d0 : ((nk : Int) == (0 : Int)) = false := by rw [beq_eq_false_iff_ne]; omega
     have HKE := hid (show ks.isEmpty = false by
      cases hks : ks with
      | nil => have := HNK.out; rw [hks] at this; exact absurd this.symm hk0
      | cons x xs => rfl)
     clear hk0;have HA := hid (show contentR (elementR n) nm l c = contE (ks, []) c1 (endR nm c1 (47 :: l2)) by rw [HEQ.out, HK47.out]; show contE (ks, if spacesB ws && ks.isEmpty then ws else []) c1 _ = _; rw [HKE.out, Bool.and_false]; rfl);have HTW := hid HT9.out;clear HEQ HK47;go_wp2_with fail
     clear e0 e1 e2 e3 y0 y1 y2 y3 hlb;have HEND := hid (show Calls Tryz.prog 202 #[.pointer (some ⟨g, 0, none⟩), .string ⟨nm.toArray⟩] w9 fun e w' => XU S g w9 (endR nm c1 (47 :: l2)) e w' from xend_any S ⟨nm.toArray⟩ g c1 (47 :: l2) w9 hS (by have := HNM.out; show nm.length ≤ _; omega) HX9.out);refine HEND.out.mono ?_;intro e w10 he;cases hr : endR nm c1 (47 :: l2) with
     | bad l9 =>
      have HFIN := hid (show contentR (elementR n) nm l c = .bad l9 by rw [HA.out, hr]; rfl);rw [hr] at he;obtain ⟨rfl, ht⟩ := he;refine ⟨rfl, (?_ : XC S g E0 nm va w (contentR (elementR n) nm l c) _ _)⟩;rw [HFIN.out];exact ⟨rfl, HTW.out.trans (ht.mono fun _ h => .inl h)⟩
     | ok u l9 c9 =>
      have hc9 := endR_cnt hr;rw [hc9] at hr;clear hc9;have HFIN := hid (show contentR (elementR n) nm l c = .ok (ks, []) l9 c1 by rw [HA.out, hr]; rfl);rw [hr] at he;obtain ⟨rfl, ht, hx⟩ := he;have HX10 := hid hx;have HB10 := hid (ht.blk HB9.out fun h => by omega);have HT10 := hid (HTW.out.trans (ht.mono fun _ h => .inl h));have HS10 := hid ((HG9.out.mv ht fun k hk _ => by omega).done);clear ht hx hr HEND;go_wp2_with fail
      refine bodyPost_end (v := .tuple #[]) (results_none rfl _ _ _) rfl ?_;rw [HFIN.out];exact ⟨rfl, _, _, _, HB10.out, (Nat.zero_le _), HS10.out, HT10.out, HX10.out⟩
   ·have hbn : ((b.toNat : Int) == (47 : Int)) = false := by rw [show ((b.toNat : Int) == (47 : Int)) = (b == 47) from beq_u8 b 47, beq_eq_false_iff_ne]; exact hb
    have HN47 := hid hb;clear hb;refine (xpeek_byte S g c1 b l2 _ HXB.out).mono ?_;rintro _ w6 ⟨rfl, hf9⟩;have HX6 := hid (HXB.out.fresh hf9);have HT6 := hid (HTB.out.trans (hf9.mono fun _ h => h.elim));have HB6 := hid (hf9.blk HBB.out fun h => h);have HG6 := hid (HGB.out.fresh hf9);clear hf9 HXB HTB HBB HGB;have hEl6 := HB6.out.lt;have hgs6 := HX6.out.lt;obtain ⟨e0, e1, e2, e3, y0, y1, y2, y3, hlb⟩ := Blk.four HB6.out;go_wp2_with fail
    have k1 := cT (S := fun k => k = g) e2 hEg;clear e0 e1 e2 e3 y0 y1 y2 y3 hlb hbn;have hwd := HWD.out;cases hr : elementR n (b :: l2) c1 with
    | bad l9 =>
     have HRR := hid hr;clear hr
     refine wp_region_planC (fun W => ∃ x : Turned (fun k => k = g) w6, W = x.W) (Plan.of [(0, true), (1, true), (2, true), (3, true), (4, true), (5, true), (6, true), (8, true)] (.fork 7 (.lone 9 .nil) 9 (.lone 7 .nil))) [0, 1, 2, 3, 4, 5, 6, 7, 8, 9] 10 (Array.replicate 10 true ++ Array.replicate 6 false) (fun _ => True)
      (Plan.of [(11, true), (13, true), (14, true)] (.fork 12 (.lone 15 .nil) 15 (.lone 12 .nil))) [11, 12, 13, 14, 15] (Array.replicate 16 true) (by kernel_rfl) (fun _ _ d _ _ h => by cases d <;> exact h) (by kernel_rfl) ⟨⟨_, (Touch.refl _ _).drewN 1⟩, rfl⟩ ?_
     unfold Plan.of
     repeat (refine wpPlan_plain rfl (fun K hK => ?_); go_simp; refine hK _ ?_; clear hK K; first | done | unfold Plan.of)
     clear k1;have HFIN := hid (show contentR (elementR n) nm l c = .bad l9 by rw [HEQ.out, kidsA_bad HN47.out HRR.out]; rfl);refine wpPlan_fork ?_ ?_
     focus
      refine wpPlan_lone rfl (fun K hK => ?_);go_wp2_with fail
      refine (HEL.out (d + 1) (b :: l2) c1 _ HD1.out (HX6.out.fresh ((Touch.refl _ _).drewN 1))).mono ?_;intro e w7 he;rw [HRR.out] at he;obtain ⟨rfl, ht⟩ := he;refine ⟨rfl, (?_ : XC S g E0 nm va w (contentR (elementR n) nm l c) _ _)⟩;rw [HFIN.out];exact ⟨rfl, HT6.out.trans ((((Touch.refl (fun b => b = g) w6).drewN 1).trans ht).mono fun _ h => .inl h)⟩
     focus
      refine wpPlan_lone rfl (fun K hK => ?_);go_wp2_with fail
      refine hK _ _ ⟨⟨_, ((Touch.refl _ w6).drewN 1).alloc _⟩, rfl⟩ ?_;clear hK K;refine wpPlan_lone rfl (fun K hK => ?_);go_wp2_with fail
      refine (HEL.out (d + 1) (b :: l2) c1 _ HD1.out (HX6.out.fresh (((Touch.refl _ _).drewN 1).alloc _))).mono ?_;intro e w7 he;rw [HRR.out] at he;obtain ⟨rfl, ht⟩ := he;refine ⟨rfl, (?_ : XC S g E0 nm va w (contentR (elementR n) nm l c) _ _)⟩;rw [HFIN.out];exact ⟨rfl, HT6.out.trans (((((Touch.refl (fun b => b = g) w6).drewN 1).alloc _).trans ht).mono fun _ h => .inl h)⟩
    | ok e1 l7 c7 =>
     obtain ⟨en, eats, eks, etx⟩ := e1;have HRR := hid hr;clear hr
     refine wp_region_planC (fun W => ∃ x : Turned (fun k => k = g) w6, W = x.W) (Plan.of [(0, true), (1, true), (2, true), (3, true), (4, true), (5, true), (6, true), (8, true)] (.fork 7 (.lone 9 .nil) 9 (.lone 7 .nil))) [0, 1, 2, 3, 4, 5, 6, 7, 8, 9] 10 (Array.replicate 10 true ++ Array.replicate 6 false) (fun _ => True)
      (Plan.of [(11, true), (13, true), (14, true)] (.fork 12 (.lone 15 .nil) 15 (.lone 12 .nil))) [11, 12, 13, 14, 15] (Array.replicate 16 true) (by kernel_rfl) (fun _ _ d _ _ h => by cases d <;> exact h) (by kernel_rfl) ⟨⟨_, (Touch.refl _ _).drewN 1⟩, rfl⟩ ?_
     unfold Plan.of
     repeat (refine wpPlan_plain rfl (fun K hK => ?_); go_simp; refine hK _ ?_; clear hK K; first | done | unfold Plan.of)
     clear k1;refine wpPlan_fork ?_ ?_
     focus
      refine wpPlan_lone rfl (fun K hK => ?_);go_wp2_with fail
      refine (HEL.out (d + 1) (b :: l2) c1 _ HD1.out (HX6.out.fresh ((Touch.refl _ _).drewN 1))).mono ?_;intro e w7 he;rw [HRR.out] at he;obtain ⟨ea, ek, rfl, ht, hst, hx⟩ := he;obtain ⟨Aa, ca, hea⟩ := hst.now.1.slice;obtain ⟨Ab, cb, hek⟩ := hst.now.2.1.slice;simp only [E.kids, E.attrs] at hea hek;subst hea hek;unfold ev;simp only [E.name, E.text];have HT7 := hid (show Touch (fun k => k = g) w6 w7 from ((Touch.refl _ w6).drewN 1).trans ht);have HST7 := hid (show Stab (fun k => k < w6.heap.size) w7 fun W => RepV W (.mk en eats eks etx) (.slice Aa eats.length ca) (.slice Ab eks.length cb) from hst);have HX7 := hid hx;clear ht hst hx;go_wp2_with fail
      refine hK _ _ ⟨⟨_, HT7.out⟩, rfl⟩ ?_;clear hK K;refine wpPlan_lone rfl (fun K hK => ?_);go_wp2_with fail
      refine hK _ _ ⟨⟨_, HT7.out.alloc _⟩, rfl⟩ ?_;clear hK K;have HBV := hid (Blk.new w7 45 #[.string ⟨#[]⟩, .slice none 0 0, .slice none 0 0, .string ⟨#[]⟩]);have HTA := hid (HT7.out.alloc (.cells #[.string ⟨#[]⟩, .slice none 0 0, .slice none 0 0, .string ⟨#[]⟩] 45));have HXA := hid (HX7.out.fresh ((Touch.refl _ w7).alloc (.cells #[.string ⟨#[]⟩, .slice none 0 0, .slice none 0 0, .string ⟨#[]⟩] 45)));have HSTA := hid (HST7.out.fresh ((Touch.refl _ w7).alloc (.cells #[.string ⟨#[]⟩, .slice none 0 0, .slice none 0 0, .string ⟨#[]⟩] 45)));generalize (w7.alloc (.cells #[.string ⟨#[]⟩, .slice none 0 0, .slice none 0 0, .string ⟨#[]⟩] 45)) = wA at HBV HTA HXA HSTA ⊢;obtain ⟨bz, hbz⟩ : ∃ b, b = w7.heap.size := ⟨_, rfl⟩;rw [← hbz] at HBV ⊢;clear hbz HT7 HST7 HX7
     rotate_left
     focus
      refine wpPlan_lone rfl (fun K hK => ?_);go_wp2_with fail
      refine hK _ _ ⟨⟨_, ((Touch.refl _ w6).drewN 1).alloc _⟩, rfl⟩ ?_;clear hK K;have HBV7 := hid (show Blk ((w6.drewN 1).alloc (.cells #[.string ⟨#[]⟩, .slice none 0 0, .slice none 0 0, .string ⟨#[]⟩] 45)) w6.heap.size 45 #[.string ⟨#[]⟩, .slice none 0 0, .slice none 0 0, .string ⟨#[]⟩] from Blk.new (w6.drewN 1) 45 #[.string ⟨#[]⟩, .slice none 0 0, .slice none 0 0, .string ⟨#[]⟩]);have HF7 := hid (show Fresh w6 ((w6.drewN 1).alloc (.cells #[.string ⟨#[]⟩, .slice none 0 0, .slice none 0 0, .string ⟨#[]⟩] 45)) from ((Touch.refl _ w6).drewN 1).alloc _);have HT7 := hid (show Touch (fun k => k = g) w6 ((w6.drewN 1).alloc (.cells #[.string ⟨#[]⟩, .slice none 0 0, .slice none 0 0, .string ⟨#[]⟩] 45)) from ((Touch.refl _ w6).drewN 1).alloc _);generalize ((w6.drewN 1).alloc (.cells #[.string ⟨#[]⟩, .slice none 0 0, .slice none 0 0, .string ⟨#[]⟩] 45)) = w7 at HBV7 HF7 HT7 ⊢;obtain ⟨bz, hbz⟩ : ∃ b, b = w6.heap.size := ⟨_, rfl⟩;have HGZ := hid (show w6.heap.size ≠ g by omega);refine wpPlan_lone rfl (fun K hK => ?_);go_wp2_with fail
      refine (HEL.out (d + 1) (b :: l2) c1 _ HD1.out (HX6.out.fresh HF7.out)).mono ?_;intro e wA he;rw [HRR.out] at he;obtain ⟨ea, ek, rfl, ht, hst, hx⟩ := he;obtain ⟨Aa, ca, hea⟩ := hst.now.1.slice;obtain ⟨Ab, cb, hek⟩ := hst.now.2.1.slice;simp only [E.kids, E.attrs] at hea hek;subst hea hek;unfold ev;simp only [E.name, E.text];have HTA := hid (show Touch (fun k => k = g) w6 wA from HT7.out.trans ht);have HSTA := hid (show Stab (fun k => k < w6.heap.size) wA fun W => RepV W (.mk en eats eks etx) (.slice Aa eats.length ca) (.slice Ab eks.length cb) from hst.mono fun i _ hi => Nat.lt_of_lt_of_le hi HF7.out.size);have HXA := hid hx;have HBV := hid (ht.blk HBV7.out HGZ.out);clear ht hst hx;go_wp2_with fail
      refine hK _ _ ⟨⟨_, HTA.out⟩, rfl⟩ ?_;clear hK K;rw [← hbz] at HBV ⊢;clear hbz HT7 HBV7 HF7 HGZ
     all_goals
      have HGA := hid (HG6.out.mv HTA.out fun k hk _ => by omega);have HOW := hid HG6.out.own_lt;have HBA := hid (HTA.out.blk HB6.out fun h => hEg h);have HSZ := hid HT6.out.size
      have hnk2 : nk < 2 ^ 40 := by
       have h := hnk;rw [List.length_cons] at h;omega
      have HNK2 := hid hnk2;clear hnk2;refine wpPlan_shut2 rfl (fun K hK => ?_)
      go_wp2_with (at_builtin; go_loud (refine wpList_append_ezero rfl (.tmp 84) (.tmp 90) rfl HGA.out HNK.out (by simp [Act.eval]) (.mk en eats eks etx) HBV.out (by simp [Act.eval]) w6.heap.size HSZ.out (fun k hk => (HOW.out k hk).2) HSTA.out HNK2.out ?_); intro A8 c8 w8 hg8 ht8; refine Stay.mk ?_)
      obtain ⟨g8, cap8, hv8, hcap8, hg8B, hg8l, a0, a1, a2, a3, f0, f1, f2, f3⟩ := hg8.cells HNK.out;cases hv8;have hb8 := ht8.blk HBA.out fun h => by have := (HOW.out _ h).1; omega
      have HX8 := hid (HXA.out.move ht8 fun h => by have := (HOW.out _ h).1; omega);have HT8 := hid (show Touch (fun i => i = g ∨ i = E0) w w8 from (HT6.out.trans (HTA.out.mono fun i hi => .inl hi)).trans' ht8 fun k hk => .inr (by have := (HOW.out _ hk).1; omega));have HST := hid (hg8.stores HNK.out hb8 hEl0);obtain ⟨_, _, q3, _, _, _, z3, _, hlt8⟩ := Blk.four hb8;have hne : E0 ≠ g8 := by omega
      have hne' : g8 ≠ E0 := by omega
      have hr1 : (nk : Int) < (nk : Int) + 1 := by omega
      clear ht8 hb8 hg8;refine Stay.go ?_;go_wp2_with fail
      refine hK _ _ trivial ?_;clear hK K
      repeat (refine wpPlan_plain rfl (fun K hK => ?_); go_simp; refine hK _ ?_; clear hK K)
      refine wpPlan_fork ?_ ?_
      focus
       refine wpPlan_lone rfl (fun K hK => ?_);go_wp2_with fail
       refine hK _ _ trivial ?_;clear hK K;refine wpPlan_lone rfl (fun K hK => ?_);go_wp2_with fail
       refine hK _ _ trivial ?_;clear hK K;have HT9 := hid (HST.out.1 _ rfl);unfold xputAt4 at HT9;simp only [E.name, E.text] at HT9;clear a0 a1 a2 a3 f0 f1 f2 f3 q3 z3 HST;generalize World.setCell _ ⟨E0, 2, none⟩ _ = W9 at HT9 ⊢
      rotate_left
      focus
       refine wpPlan_lone rfl (fun K hK => ?_);go_wp2_with fail
       refine hK _ _ trivial ?_;clear hK K;refine wpPlan_lone rfl (fun K hK => ?_);go_wp2_with fail
       refine hK _ _ trivial ?_;clear hK K;have HT9 := hid (HST.out.2 _ rfl);unfold xputAt4 at HT9;simp only [E.name, E.text] at HT9;clear a0 a1 a2 a3 f0 f1 f2 f3 q3 z3 HST;generalize World.setCell _ ⟨g8, nk * 4 + 3, none⟩ _ = W9 at HT9 ⊢
      all_goals
       refine wpPlan_nil ?_;obtain ⟨hb9, hg9, ht9⟩ := HT9.out;have HB9 := hid hb9;have HG9 := hid hg9;have HX9 := hid (HX8.out.move ht9 (by omega));have HTT9 := hid (show Touch (fun i => i = g ∨ i = E0) w W9 from HT8.out.trans' ht9 fun i hi => hi.elim (fun h => .inr (by omega)) fun h => .inl (.inr h));clear hb9 hg9 ht9 HT9;go_wp2_with fail
       refine (xspace_any S g c7 l7 _ hS HX9.out).mono ?_;rintro _ w10 ⟨rfl, ht, hx⟩;have HT10 := hid (HTT9.out.trans (ht.mono fun _ h => .inl h));have HB10 := hid (ht.blk HB9.out fun h => hEg h);have HG10 := hid (HG9.out.mv ht fun k hk _ => by omega);clear ht HB9 HG9 HX9 HTT9;generalize decide ((l7.dropWhile white).length < l7.length) = z9;cases hd7 : l7.dropWhile white with
       | nil =>
        have HFIN := hid (show contentR (elementR n) nm l c = .bad [] by rw [HEQ.out, kidsA_gapnil HN47.out HRR.out hd7]; rfl);rw [hd7] at hx;have HX10 := hid hx;clear hx hd7;go_wp2_with fail
        refine (xpeek_end S g c7 _ HX10.out).mono ?_;rintro _ w11 ⟨rfl, ht11⟩;refine ⟨rfl, (?_ : XC S g E0 nm va w (contentR (elementR n) nm l c) _ _)⟩;rw [HFIN.out];exact ⟨rfl, HT10.out.trans (ht11.mono fun _ h => .inl h)⟩
       | cons b7 l8 =>
        rw [hd7] at hx;have HX10 := hid hx;have HL8 := hid (show (b7 :: l8).length ≤ l7.length by rw [← hd7]; exact (Xp.Sfx.dropWhile white l7).len)
        by_cases hb7 : b7 = 60
        ·have hbn7 : ((b7.toNat : Int) != (60 : Int)) = false := u8_nbne_of b7 60 hb7
         have HEQ2 := hid (show contentR (elementR n) nm l c = contK nm ws (kidsA (elementR n) (ks ++ [.mk en eats eks etx]) l8 c7) by rw [HEQ.out, Xp.kidsA_step (fun l c => Xp.elementR_left n l c) HN47.out HRR.out (by rw [hd7, hb7])]);rw [hb7] at HX10;have HB7 := hid hb7;clear hx hd7 hb7;go_wp2_with fail
         refine (xpeek_byte S g c7 b7 l8 _ (by rw [HB7.out]; exact HX10.out)).mono ?_;rintro _ w11 ⟨rfl, hf11⟩;have HX11 := hid (HX10.out.fresh hf11);have HT11 := hid (HT10.out.trans (hf11.mono fun _ h => h.elim));have HB11 := hid (hf11.blk HB10.out fun h => h);have HG11 := hid (HG10.out.fresh hf11);have HM := hid (posOf_at HX11.out);have HLN := hid (Xp.elementR_left n (b :: l2) c1).len;rw [HRR.out] at HLN;clear hf11;go_wp2_with fail
         go_roundw
         case rel =>
          refine ⟨ks ++ [.mk en eats eks etx], l8, some ⟨g8, 0, none⟩, nk + 1, c8, c7, hid (by rw [List.length_append, HNK.out]; rfl), ?_, HEQ2, HB11, HG11, HT11, HX11⟩;have h1 := HL8.out;have h2 : l7.length ≤ (b :: l2).length := HLN.out;rw [List.length_cons] at h1 h2 hnk;omega
         case measure =>
          rw [HM.out, HP.out];have h0 := HLE.out;have h1 := HL8.out;have h2 : l7.length ≤ (b :: l2).length := HLN.out;simp only [List.length_cons] at h0 h1 h2 ⊢;omega
        ·have hbn7 : ((b7.toNat : Int) != (60 : Int)) = true := u8_bne_of b7 60 hb7
         have HFIN := hid (show contentR (elementR n) nm l c = .bad (b7 :: l8) by rw [HEQ.out, kidsA_gapbad HN47.out HRR.out hd7 hb7]; rfl);clear hx hd7 hb7;go_wp2_with fail
         refine (xpeek_byte S g c7 b7 l8 _ HX10.out).mono ?_;rintro _ w11 ⟨rfl, hf11⟩;have HX11 := hid (HX10.out.fresh hf11);have HT11 := hid (HT10.out.trans (hf11.mono fun _ h => h.elim));clear hf11;go_wp2_with fail
         refine (xstop_any S g (b7 :: l8) c7 _ HX11.out).mono ?_;rintro _ w12 ⟨rfl, rfl⟩;refine ⟨rfl, (?_ : XC S g E0 nm va w (contentR (elementR n) nm l c) _ _)⟩;rw [HFIN.out];exact ⟨rfl, HT11.out⟩
theorem xcont_nz (S : ByteArray) (g n : Nat) (hS : S.size ≤ 1099511627776) (hn : n < 64) (hel : ElemC S g n) (d : Int) (nm : List UInt8) (va : Value) (E0 : Nat) (l : List UInt8) (c : Nat) (w : World) (hd0 : d = 64 - (n : Int)) (hnm : nm.length ≤ S.size) (hEg : E0 ≠ g)
  (hB0 : Blk w E0 45 #[.string ⟨nm.toArray⟩, va, .slice none 0 0, .string ⟨#[]⟩]) (hX0 : Xr S g l c w) (hsp : spacesB (l.takeWhile white) = false) (hz : (l.takeWhile white).all (fun b => b == 32) = false) :
  Calls Tryz.prog 167 #[.pointer (some ⟨g, 0, none⟩), .pointer (some ⟨E0, 0, none⟩), .int .i64 d] w fun e w' => XC S g E0 nm va w (contentR (elementR n) nm l c) e w' := by
 have HX := hid hX0;have HB := hid hB0;have HEL := hid hel;have HNM := hid hnm;have HD0 := hid hd0;have HBL := hid hB0.lt;have HGL := hid hX0.lt;have hwd : IntKind.i64.wrap (d + 1) = d + 1 := IntWalk.i64_in _ (by omega);have HD1 := hid (show d + 1 = 65 - (n : Int) by omega);have HWD := hid hwd;obtain ⟨q0, q1, q2, _, _, _, _⟩ := blk3 hX0.blk;obtain ⟨ws, hws⟩ : ∃ ws, l.takeWhile white = ws := ⟨_, rfl⟩;have HWS := hid hws;rw [hws] at hsp hz;have hk0 : S.size - l.length ≤ S.size := by omega
 have HSF := hid hX0.sfx;have HLL := hid hX0.len;obtain ⟨k0, hkk⟩ : ∃ k, k = S.size - l.length := ⟨_, rfl⟩;have HK0 := hid hkk;rw [← hkk] at q1;clear hkk hX0 hB0 hel hws hnm hd0 hwd;have HSPF := hid hsp
 have HWN := hid (show ws.length ≤ S.size by
  have h1 : (l.takeWhile white ++ l.dropWhile white).length = l.length := by rw [List.takeWhile_append_dropWhile]
  rw [HWS.out, List.length_append] at h1;have := HLL.out;omega)
 clear hsp;go_enter Tryz.func167, Tryz.ntmps167;go_wp2_with fail
 refine (xspace_any S g c l w hS HX.out).mono ?_;rintro _ w1 ⟨rfl, ht, hx⟩;have HX1 := hid hx;have HT1 := hid ht;have HB1 := hid (ht.blk HB.out fun h => hEg h);clear ht hx HX HB q0 q1 q2;generalize decide ((l.dropWhile white).length < l.length) = z0;obtain ⟨q0, q1, q2, _, _, _, _⟩ := blk3 HX1.out.blk
 have HEX := hid (show S.extract k0 (S.size - (l.dropWhile white).length) = ⟨ws.toArray⟩ from by
  have h := sfx_extract (S := S) (p := l.takeWhile white) (r := l.dropWhile white) (by rw [List.takeWhile_append_dropWhile]; exact HSF.out);rw [List.takeWhile_append_dropWhile, ← HK0.out, HWS.out] at h;exact h)
 have hdl : (l.dropWhile white).length ≤ l.length := (Xp.Sfx.dropWhile white l).len;have hk1 : (k0 : Int) ≤ ((S.size - (l.dropWhile white).length : Nat) : Int) := by have := HK0.out; have := HLL.out; omega
 have hk2 : ((S.size - (l.dropWhile white).length : Nat) : Int) ≤ (S.size : Int) := by omega
 have hk3 : (0 : Int) ≤ (k0 : Int) := by omega
 have hk4 : k0 ≤ S.size - (l.dropWhile white).length := by omega
 have hk5 : S.size - (l.dropWhile white).length ≤ S.size := by omega
 generalize S.size - (l.dropWhile white).length = k at *;clear hdl;go_wp2_with fail
 go_quiet (fail)
 refine forget_world (fun W => Fresh w1 W) ((Touch.refl _ _).drewN _) ?_;rintro w2 hf2;have HX2 := hid (HX1.out.fresh hf2);have HT2 := hid (HT1.out.trans (hf2.mono fun _ h => h.elim));have HB2 := hid (hf2.blk HB1.out fun h => h);clear hf2;clear HX1 HT1 HB1 q0 q1 q2 hk1 hk2 hk3 hk4 hk5;generalize S.extract k0 k = Bs at HEX ⊢;have hbs := HEX.out;subst hbs;have hwl : (⟨ws.toArray⟩ : ByteArray).size = ws.length := rfl;go_wp2_with fail
 refine (Tryz.strings_Trim_one ⟨ws.toArray⟩ 32 (by decide) w2 (by rw [hwl]; have := HWN.out; omega)).mono ?_;rintro _ w4 ⟨rfl, hw4⟩
 have hf4 : Fresh w2 w4 := by
  rcases hw4 with rfl | rfl
  ·exact Touch.refl _ _
  ·exact (Touch.refl _ _).drewN 1
 have HX4 := hid (HX2.out.fresh hf4);have HT4 := hid (HT2.out.trans (hf4.mono fun _ h => h.elim));have HB4 := hid (hf4.blk HB2.out fun h => h);clear hf4 hw4 HX2 HT2 HB2;have HTR := hid (show (Lib.trimB (⟨ws.toArray⟩ : ByteArray).data.toList 32).isEmpty = ws.all (fun b => b == 32) from trim_spaces ws);generalize Lib.trimB (⟨ws.toArray⟩ : ByteArray).data.toList 32 = tr at HTR ⊢;have htr : tr.isEmpty = false := by rw [HTR.out]; exact hz
 clear hz;go_wp2_with fail
 clear htr HTR;cases hd : l.dropWhile white with
 | nil =>
  have HFIN := hid (show contentR (elementR n) nm l c = .bad [] from content_nil hd);rw [hd] at HX4;refine (xpeek_end S g c _ HX4.out).mono ?_;rintro _ w9 ⟨rfl, ht9⟩;refine ⟨rfl, (?_ : XC S g E0 nm va w (contentR (elementR n) nm l c) _ _)⟩;rw [HFIN.out];exact ⟨rfl, (HT4.out.trans ht9).mono fun _ h => .inl h⟩
 | cons b0 l3 =>
  rw [hd] at HX4;have HD := hid hd;clear hd
  by_cases hb : b0 = 60
  rotate_left
  focus
   have hbn : ((b0.toNat : Int) != (60 : Int)) = true := u8_bne_of b0 60 hb;have HB60 := hid hb;clear hb;refine (xpeek_byte S g c b0 l3 _ HX4.out).mono ?_;rintro _ w5 ⟨rfl, hf5⟩;have HX5 := hid (HX4.out.fresh hf5);have HT5 := hid (HT4.out.trans (hf5.mono fun _ h => h.elim));have HB5 := hid (hf5.blk HB4.out fun h => h);clear hf5 HX4 HT4 HB4;have HFIN := hid (show contentR (elementR n) nm l c = .bad (b0 :: l3) from content_gap HD.out HB60.out (by rw [HWS.out]; exact HSPF.out));go_wp2_with fail
   refine (xstop_any S g (b0 :: l3) c _ HX5.out).mono ?_;rintro _ w9 ⟨rfl, rfl⟩;refine ⟨rfl, (?_ : XC S g E0 nm va w (contentR (elementR n) nm l c) _ _)⟩;rw [HFIN.out];exact ⟨rfl, HT5.out.mono fun _ h => .inl h⟩
  have hbn : ((b0.toNat : Int) != (60 : Int)) = false := u8_nbne_of b0 60 hb;have HB60 := hid hb;clear hb;refine (xpeek_byte S g c b0 l3 _ HX4.out).mono ?_;rintro _ w5 ⟨rfl, hf5⟩;have HX5 := hid (HX4.out.fresh hf5);have HT5 := hid (HT4.out.trans (hf5.mono fun _ h => h.elim));have HB5 := hid (hf5.blk HB4.out fun h => h);clear hf5 HX4 HT4 HB4;have HCK := hid (content_kids (el := elementR n) (nm := nm) (c := c) HD.out HB60.out);rw [HWS.out] at HCK;have hEl := HB5.out.lt;have hEl0 := HBL.out;have hls := HX5.out.len;rw [List.length_cons] at hls;rw [HB60.out] at HX5;have HT6 := hid (HT5.out.mono fun i (h : i = g) => show i = g ∨ i = E0 from .inl h);have HG6 := hid (show GrowE w.heap.size w5 [] (.slice none 0 0) from GrowE.nil HT5.out.size);clear HT5 hEl;go_wp2_with fail
  go_loopw [] (fun wr => ∃ (ks : List E) (l1 : List UInt8) (A : Option Addr) (nk cp c1 : Nat), Hid (ks.length = nk) ∧ nk + l1.length ≤ S.size ∧ Hid (contentR (elementR n) nm l c = contK nm ws (kidsA (elementR n) ks l1 c1)) ∧ Hid (Blk wr E0 45 #[.string ⟨nm.toArray⟩, va, .slice A nk cp, .string ⟨#[]⟩]) ∧ Hid (GrowE w.heap.size wr ks (.slice A nk cp)) ∧ Hid (Touch (fun b => b = g ∨ b = E0) w wr) ∧ Hid (Xr S g (60 :: l1) c1 wr)) (fun wr => S.size - posOf g wr)
  case atStart => exact ⟨[], l3, none, 0, 0, c, hid rfl, by omega, HCK, HB5, HG6, HT6, HX5⟩
  case round =>
   clear HX5 HT6 HB5 HG6 HCK hls;obtain ⟨ks, l1, A, nk, cp, c1, HNK, hnk, HEQ, HB, HG, HT, HX⟩ := hrel;rename_i wr _;have HP := hid (posOf_at HX.out);have hEl := HB.out.lt;have hgs := HX.out.lt;obtain ⟨q0, q1, q2, f0, f1, f2, hg⟩ := blk3 HX.out.blk;have hle := HX.out.len;have hw : IntKind.i64.wrap (((S.size - (60 :: l1 : List UInt8).length : Nat) : Int) + 1) = ((S.size - (60 :: l1 : List UInt8).length : Nat) : Int) + 1 := IntWalk.i64_in _ (by omega);have HXA := hid HX.out.adv;have HTA := hid (HT.out.setCell (p := ⟨g, 1, none⟩) (.inl (.inl rfl)) (.int .i64 (((S.size - (60 :: l1 : List UInt8).length : Nat) : Int) + 1)));have HBA := hid (HB.out.far (p := ⟨g, 1, none⟩) (by show E0 ≠ g; exact hEg) (.int .i64 (((S.size - (60 :: l1 : List UInt8).length : Nat) : Int) + 1)));have HGA := hid (HG.out.mv ((Touch.refl (fun b => b = g) wr).setCell (p := ⟨g, 1, none⟩) (.inl rfl) (.int .i64 (((S.size - (60 :: l1 : List UInt8).length : Nat) : Int) + 1))) fun k hk _ => by omega);have HLE := hid hle;generalize hkk : S.size - (60 :: l1 : List UInt8).length = k at q1 hw HXA HTA HBA HGA;have HKK := hid hkk;clear hkk;go_wp2_with fail
   generalize (wr.setCell ⟨g, 1, none⟩ (.int .i64 ((k : Int) + 1))) = wB at HXA HTA HBA HGA ⊢;have HXB := HXA;have HTB := HTA;have HBB := HBA;have HGB := HGA;clear q0 q1 q2 f0 f1 f2 hg hle hw HXA HTA HBA HGA HX HT HB HG hEl hgs;have hEl := HBB.out.lt;have hgs := HXB.out.lt;cases l1 with
   | nil =>
    have HFIN := hid (show contentR (elementR n) nm l c = .bad [] by rw [HEQ.out, kidsA_end]; rfl);refine (xpeek_end S g c1 _ HXB.out).mono ?_;rintro _ w9 ⟨rfl, ht9⟩;refine ⟨rfl, (?_ : XC S g E0 nm va w (contentR (elementR n) nm l c) _ _)⟩;rw [HFIN.out];exact ⟨rfl, HTB.out.trans (ht9.mono fun _ h => .inl h)⟩
   | cons b l2 =>
   by_cases hb : b = 47
   ·have hbn : ((b.toNat : Int) == (47 : Int)) = true := by rw [hb]; rfl
    have HB47 := hid hb;clear hb;refine (xpeek_byte S g c1 b l2 _ HXB.out).mono ?_;rintro _ w9 ⟨rfl, hf9⟩;have HX9 := hid (HXB.out.fresh hf9);have HT9 := hid (HTB.out.trans (hf9.mono fun _ h => h.elim));have HB9 := hid (hf9.blk HBB.out fun h => h);have HG9 := hid (HGB.out.fresh hf9);have HK47 := hid (show kidsA (elementR n) ks (b :: l2) c1 = .ok ks (47 :: l2) c1 by rw [HB47.out]; exact Xp.kidsA_nil _ _ _ _);rw [HB47.out] at HX9;clear hf9 HXB HTB HBB HGB;obtain ⟨e0, e1, e2, e3, y0, y1, y2, y3, hlb⟩ := Blk.four HB9.out;have HA := hid (show contentR (elementR n) nm l c = contE (ks, []) c1 (endR nm c1 (47 :: l2)) by rw [HEQ.out, HK47.out]; show contE (ks, if spacesB ws && ks.isEmpty then ws else []) c1 _ = _; rw [HSPF.out, Bool.false_and]; rfl);have HTW := hid HT9.out;clear HEQ HK47;go_wp2_with fail
    clear e0 e1 e2 e3 y0 y1 y2 y3 hlb;have HEND := hid (show Calls Tryz.prog 202 #[.pointer (some ⟨g, 0, none⟩), .string ⟨nm.toArray⟩] w9 fun e w' => XU S g w9 (endR nm c1 (47 :: l2)) e w' from xend_any S ⟨nm.toArray⟩ g c1 (47 :: l2) w9 hS (by have := HNM.out; show nm.length ≤ _; omega) HX9.out);refine HEND.out.mono ?_;intro e w10 he;cases hr : endR nm c1 (47 :: l2) with
    | bad l9 =>
     have HFIN := hid (show contentR (elementR n) nm l c = .bad l9 by rw [HA.out, hr]; rfl);rw [hr] at he;obtain ⟨rfl, ht⟩ := he;refine ⟨rfl, (?_ : XC S g E0 nm va w (contentR (elementR n) nm l c) _ _)⟩;rw [HFIN.out];exact ⟨rfl, HTW.out.trans (ht.mono fun _ h => .inl h)⟩
    | ok u l9 c9 =>
     have hc9 := endR_cnt hr;rw [hc9] at hr;clear hc9;have HFIN := hid (show contentR (elementR n) nm l c = .ok (ks, []) l9 c1 by rw [HA.out, hr]; rfl);rw [hr] at he;obtain ⟨rfl, ht, hx⟩ := he;have HX10 := hid hx;have HB10 := hid (ht.blk HB9.out fun h => by omega);have HT10 := hid (HTW.out.trans (ht.mono fun _ h => .inl h));have HS10 := hid ((HG9.out.mv ht fun k hk _ => by omega).done);clear ht hx hr HEND;go_wp2_with fail
     refine bodyPost_end (v := .tuple #[]) (results_none rfl _ _ _) rfl ?_;rw [HFIN.out];exact ⟨rfl, _, _, _, HB10.out, (Nat.zero_le _), HS10.out, HT10.out, HX10.out⟩
   ·have hbn : ((b.toNat : Int) == (47 : Int)) = false := by rw [show ((b.toNat : Int) == (47 : Int)) = (b == 47) from beq_u8 b 47, beq_eq_false_iff_ne]; exact hb
    have HN47 := hid hb;clear hb;refine (xpeek_byte S g c1 b l2 _ HXB.out).mono ?_;rintro _ w6 ⟨rfl, hf9⟩;have HX6 := hid (HXB.out.fresh hf9);have HT6 := hid (HTB.out.trans (hf9.mono fun _ h => h.elim));have HB6 := hid (hf9.blk HBB.out fun h => h);have HG6 := hid (HGB.out.fresh hf9);clear hf9 HXB HTB HBB HGB;have hEl6 := HB6.out.lt;have hgs6 := HX6.out.lt;obtain ⟨e0, e1, e2, e3, y0, y1, y2, y3, hlb⟩ := Blk.four HB6.out;go_wp2_with fail
    have k1 := cT (S := fun k => k = g) e2 hEg;clear e0 e1 e2 e3 y0 y1 y2 y3 hlb hbn;have hwd := HWD.out;cases hr : elementR n (b :: l2) c1 with
    | bad l9 =>
     have HRR := hid hr;clear hr
     refine wp_region_planC (fun W => ∃ x : Turned (fun k => k = g) w6, W = x.W) (Plan.of [(0, true), (1, true), (2, true), (3, true), (4, true), (5, true), (6, true), (8, true)] (.fork 7 (.lone 9 .nil) 9 (.lone 7 .nil))) [0, 1, 2, 3, 4, 5, 6, 7, 8, 9] 10 (Array.replicate 10 true ++ Array.replicate 6 false) (fun _ => True)
      (Plan.of [(11, true), (13, true), (14, true)] (.fork 12 (.lone 15 .nil) 15 (.lone 12 .nil))) [11, 12, 13, 14, 15] (Array.replicate 16 true) (by kernel_rfl) (fun _ _ d _ _ h => by cases d <;> exact h) (by kernel_rfl) ⟨⟨_, (Touch.refl _ _).drewN 1⟩, rfl⟩ ?_
     unfold Plan.of
     repeat (refine wpPlan_plain rfl (fun K hK => ?_); go_simp; refine hK _ ?_; clear hK K; first | done | unfold Plan.of)
     clear k1;have HFIN := hid (show contentR (elementR n) nm l c = .bad l9 by rw [HEQ.out, kidsA_bad HN47.out HRR.out]; rfl);refine wpPlan_fork ?_ ?_
     focus
      refine wpPlan_lone rfl (fun K hK => ?_);go_wp2_with fail
      refine (HEL.out (d + 1) (b :: l2) c1 _ HD1.out (HX6.out.fresh ((Touch.refl _ _).drewN 1))).mono ?_;intro e w7 he;rw [HRR.out] at he;obtain ⟨rfl, ht⟩ := he;refine ⟨rfl, (?_ : XC S g E0 nm va w (contentR (elementR n) nm l c) _ _)⟩;rw [HFIN.out];exact ⟨rfl, HT6.out.trans ((((Touch.refl (fun b => b = g) w6).drewN 1).trans ht).mono fun _ h => .inl h)⟩
     focus
      refine wpPlan_lone rfl (fun K hK => ?_);go_wp2_with fail
      refine hK _ _ ⟨⟨_, ((Touch.refl _ w6).drewN 1).alloc _⟩, rfl⟩ ?_;clear hK K;refine wpPlan_lone rfl (fun K hK => ?_);go_wp2_with fail
      refine (HEL.out (d + 1) (b :: l2) c1 _ HD1.out (HX6.out.fresh (((Touch.refl _ _).drewN 1).alloc _))).mono ?_;intro e w7 he;rw [HRR.out] at he;obtain ⟨rfl, ht⟩ := he;refine ⟨rfl, (?_ : XC S g E0 nm va w (contentR (elementR n) nm l c) _ _)⟩;rw [HFIN.out];exact ⟨rfl, HT6.out.trans (((((Touch.refl (fun b => b = g) w6).drewN 1).alloc _).trans ht).mono fun _ h => .inl h)⟩
    | ok e1 l7 c7 =>
     obtain ⟨en, eats, eks, etx⟩ := e1;have HRR := hid hr;clear hr
     refine wp_region_planC (fun W => ∃ x : Turned (fun k => k = g) w6, W = x.W) (Plan.of [(0, true), (1, true), (2, true), (3, true), (4, true), (5, true), (6, true), (8, true)] (.fork 7 (.lone 9 .nil) 9 (.lone 7 .nil))) [0, 1, 2, 3, 4, 5, 6, 7, 8, 9] 10 (Array.replicate 10 true ++ Array.replicate 6 false) (fun _ => True)
      (Plan.of [(11, true), (13, true), (14, true)] (.fork 12 (.lone 15 .nil) 15 (.lone 12 .nil))) [11, 12, 13, 14, 15] (Array.replicate 16 true) (by kernel_rfl) (fun _ _ d _ _ h => by cases d <;> exact h) (by kernel_rfl) ⟨⟨_, (Touch.refl _ _).drewN 1⟩, rfl⟩ ?_
     unfold Plan.of
     repeat (refine wpPlan_plain rfl (fun K hK => ?_); go_simp; refine hK _ ?_; clear hK K; first | done | unfold Plan.of)
     clear k1;refine wpPlan_fork ?_ ?_
     focus
      refine wpPlan_lone rfl (fun K hK => ?_);go_wp2_with fail
      refine (HEL.out (d + 1) (b :: l2) c1 _ HD1.out (HX6.out.fresh ((Touch.refl _ _).drewN 1))).mono ?_;intro e w7 he;rw [HRR.out] at he;obtain ⟨ea, ek, rfl, ht, hst, hx⟩ := he;obtain ⟨Aa, ca, hea⟩ := hst.now.1.slice;obtain ⟨Ab, cb, hek⟩ := hst.now.2.1.slice;simp only [E.kids, E.attrs] at hea hek;subst hea hek;unfold ev;simp only [E.name, E.text];have HT7 := hid (show Touch (fun k => k = g) w6 w7 from ((Touch.refl _ w6).drewN 1).trans ht);have HST7 := hid (show Stab (fun k => k < w6.heap.size) w7 fun W => RepV W (.mk en eats eks etx) (.slice Aa eats.length ca) (.slice Ab eks.length cb) from hst);have HX7 := hid hx;clear ht hst hx;go_wp2_with fail
      refine hK _ _ ⟨⟨_, HT7.out⟩, rfl⟩ ?_;clear hK K;refine wpPlan_lone rfl (fun K hK => ?_);go_wp2_with fail
      refine hK _ _ ⟨⟨_, HT7.out.alloc _⟩, rfl⟩ ?_;clear hK K;have HBV := hid (Blk.new w7 45 #[.string ⟨#[]⟩, .slice none 0 0, .slice none 0 0, .string ⟨#[]⟩]);have HTA := hid (HT7.out.alloc (.cells #[.string ⟨#[]⟩, .slice none 0 0, .slice none 0 0, .string ⟨#[]⟩] 45));have HXA := hid (HX7.out.fresh ((Touch.refl _ w7).alloc (.cells #[.string ⟨#[]⟩, .slice none 0 0, .slice none 0 0, .string ⟨#[]⟩] 45)));have HSTA := hid (HST7.out.fresh ((Touch.refl _ w7).alloc (.cells #[.string ⟨#[]⟩, .slice none 0 0, .slice none 0 0, .string ⟨#[]⟩] 45)));generalize (w7.alloc (.cells #[.string ⟨#[]⟩, .slice none 0 0, .slice none 0 0, .string ⟨#[]⟩] 45)) = wA at HBV HTA HXA HSTA ⊢;obtain ⟨bz, hbz⟩ : ∃ b, b = w7.heap.size := ⟨_, rfl⟩;rw [← hbz] at HBV ⊢;clear hbz HT7 HST7 HX7
     rotate_left
     focus
      refine wpPlan_lone rfl (fun K hK => ?_);go_wp2_with fail
      refine hK _ _ ⟨⟨_, ((Touch.refl _ w6).drewN 1).alloc _⟩, rfl⟩ ?_;clear hK K;have HBV7 := hid (show Blk ((w6.drewN 1).alloc (.cells #[.string ⟨#[]⟩, .slice none 0 0, .slice none 0 0, .string ⟨#[]⟩] 45)) w6.heap.size 45 #[.string ⟨#[]⟩, .slice none 0 0, .slice none 0 0, .string ⟨#[]⟩] from Blk.new (w6.drewN 1) 45 #[.string ⟨#[]⟩, .slice none 0 0, .slice none 0 0, .string ⟨#[]⟩]);have HF7 := hid (show Fresh w6 ((w6.drewN 1).alloc (.cells #[.string ⟨#[]⟩, .slice none 0 0, .slice none 0 0, .string ⟨#[]⟩] 45)) from ((Touch.refl _ w6).drewN 1).alloc _);have HT7 := hid (show Touch (fun k => k = g) w6 ((w6.drewN 1).alloc (.cells #[.string ⟨#[]⟩, .slice none 0 0, .slice none 0 0, .string ⟨#[]⟩] 45)) from ((Touch.refl _ w6).drewN 1).alloc _);generalize ((w6.drewN 1).alloc (.cells #[.string ⟨#[]⟩, .slice none 0 0, .slice none 0 0, .string ⟨#[]⟩] 45)) = w7 at HBV7 HF7 HT7 ⊢;obtain ⟨bz, hbz⟩ : ∃ b, b = w6.heap.size := ⟨_, rfl⟩;have HGZ := hid (show w6.heap.size ≠ g by omega);refine wpPlan_lone rfl (fun K hK => ?_);go_wp2_with fail
      refine (HEL.out (d + 1) (b :: l2) c1 _ HD1.out (HX6.out.fresh HF7.out)).mono ?_;intro e wA he;rw [HRR.out] at he;obtain ⟨ea, ek, rfl, ht, hst, hx⟩ := he;obtain ⟨Aa, ca, hea⟩ := hst.now.1.slice;obtain ⟨Ab, cb, hek⟩ := hst.now.2.1.slice;simp only [E.kids, E.attrs] at hea hek;subst hea hek;unfold ev;simp only [E.name, E.text];have HTA := hid (show Touch (fun k => k = g) w6 wA from HT7.out.trans ht);have HSTA := hid (show Stab (fun k => k < w6.heap.size) wA fun W => RepV W (.mk en eats eks etx) (.slice Aa eats.length ca) (.slice Ab eks.length cb) from hst.mono fun i _ hi => Nat.lt_of_lt_of_le hi HF7.out.size);have HXA := hid hx;have HBV := hid (ht.blk HBV7.out HGZ.out);clear ht hst hx;go_wp2_with fail
      refine hK _ _ ⟨⟨_, HTA.out⟩, rfl⟩ ?_;clear hK K;rw [← hbz] at HBV ⊢;clear hbz HT7 HBV7 HF7 HGZ
     all_goals
      have HGA := hid (HG6.out.mv HTA.out fun k hk _ => by omega);have HOW := hid HG6.out.own_lt;have HBA := hid (HTA.out.blk HB6.out fun h => hEg h);have HSZ := hid HT6.out.size
      have hnk2 : nk < 2 ^ 40 := by
       have h := hnk;rw [List.length_cons] at h;omega
      have HNK2 := hid hnk2;clear hnk2;refine wpPlan_shut2 rfl (fun K hK => ?_)
      go_wp2_with (at_builtin; go_loud (refine wpList_append_ezero rfl (.tmp 84) (.tmp 90) rfl HGA.out HNK.out (by simp [Act.eval]) (.mk en eats eks etx) HBV.out (by simp [Act.eval]) w6.heap.size HSZ.out (fun k hk => (HOW.out k hk).2) HSTA.out HNK2.out ?_); intro A8 c8 w8 hg8 ht8; refine Stay.mk ?_)
      obtain ⟨g8, cap8, hv8, hcap8, hg8B, hg8l, a0, a1, a2, a3, f0, f1, f2, f3⟩ := hg8.cells HNK.out;cases hv8;have hb8 := ht8.blk HBA.out fun h => by have := (HOW.out _ h).1; omega
      have HX8 := hid (HXA.out.move ht8 fun h => by have := (HOW.out _ h).1; omega);have HT8 := hid (show Touch (fun i => i = g ∨ i = E0) w w8 from (HT6.out.trans (HTA.out.mono fun i hi => .inl hi)).trans' ht8 fun k hk => .inr (by have := (HOW.out _ hk).1; omega));have HST := hid (hg8.stores HNK.out hb8 hEl0);obtain ⟨_, _, q3, _, _, _, z3, _, hlt8⟩ := Blk.four hb8;have hne : E0 ≠ g8 := by omega
      have hne' : g8 ≠ E0 := by omega
      have hr1 : (nk : Int) < (nk : Int) + 1 := by omega
      clear ht8 hb8 hg8;refine Stay.go ?_;go_wp2_with fail
      refine hK _ _ trivial ?_;clear hK K
      repeat (refine wpPlan_plain rfl (fun K hK => ?_); go_simp; refine hK _ ?_; clear hK K)
      refine wpPlan_fork ?_ ?_
      focus
       refine wpPlan_lone rfl (fun K hK => ?_);go_wp2_with fail
       refine hK _ _ trivial ?_;clear hK K;refine wpPlan_lone rfl (fun K hK => ?_);go_wp2_with fail
       refine hK _ _ trivial ?_;clear hK K;have HT9 := hid (HST.out.1 _ rfl);unfold xputAt4 at HT9;simp only [E.name, E.text] at HT9;clear a0 a1 a2 a3 f0 f1 f2 f3 q3 z3 HST;generalize World.setCell _ ⟨E0, 2, none⟩ _ = W9 at HT9 ⊢
      rotate_left
      focus
       refine wpPlan_lone rfl (fun K hK => ?_);go_wp2_with fail
       refine hK _ _ trivial ?_;clear hK K;refine wpPlan_lone rfl (fun K hK => ?_);go_wp2_with fail
       refine hK _ _ trivial ?_;clear hK K;have HT9 := hid (HST.out.2 _ rfl);unfold xputAt4 at HT9;simp only [E.name, E.text] at HT9;clear a0 a1 a2 a3 f0 f1 f2 f3 q3 z3 HST;generalize World.setCell _ ⟨g8, nk * 4 + 3, none⟩ _ = W9 at HT9 ⊢
      all_goals
       refine wpPlan_nil ?_;obtain ⟨hb9, hg9, ht9⟩ := HT9.out;have HB9 := hid hb9;have HG9 := hid hg9;have HX9 := hid (HX8.out.move ht9 (by omega));have HTT9 := hid (show Touch (fun i => i = g ∨ i = E0) w W9 from HT8.out.trans' ht9 fun i hi => hi.elim (fun h => .inr (by omega)) fun h => .inl (.inr h));clear hb9 hg9 ht9 HT9;go_wp2_with fail
       refine (xspace_any S g c7 l7 _ hS HX9.out).mono ?_;rintro _ w10 ⟨rfl, ht, hx⟩;have HT10 := hid (HTT9.out.trans (ht.mono fun _ h => .inl h));have HB10 := hid (ht.blk HB9.out fun h => hEg h);have HG10 := hid (HG9.out.mv ht fun k hk _ => by omega);clear ht HB9 HG9 HX9 HTT9;generalize decide ((l7.dropWhile white).length < l7.length) = z9;cases hd7 : l7.dropWhile white with
       | nil =>
        have HFIN := hid (show contentR (elementR n) nm l c = .bad [] by rw [HEQ.out, kidsA_gapnil HN47.out HRR.out hd7]; rfl);rw [hd7] at hx;have HX10 := hid hx;clear hx hd7;go_wp2_with fail
        refine (xpeek_end S g c7 _ HX10.out).mono ?_;rintro _ w11 ⟨rfl, ht11⟩;refine ⟨rfl, (?_ : XC S g E0 nm va w (contentR (elementR n) nm l c) _ _)⟩;rw [HFIN.out];exact ⟨rfl, HT10.out.trans (ht11.mono fun _ h => .inl h)⟩
       | cons b7 l8 =>
        rw [hd7] at hx;have HX10 := hid hx;have HL8 := hid (show (b7 :: l8).length ≤ l7.length by rw [← hd7]; exact (Xp.Sfx.dropWhile white l7).len)
        by_cases hb7 : b7 = 60
        ·have hbn7 : ((b7.toNat : Int) != (60 : Int)) = false := u8_nbne_of b7 60 hb7
         have HEQ2 := hid (show contentR (elementR n) nm l c = contK nm ws (kidsA (elementR n) (ks ++ [.mk en eats eks etx]) l8 c7) by rw [HEQ.out, Xp.kidsA_step (fun l c => Xp.elementR_left n l c) HN47.out HRR.out (by rw [hd7, hb7])]);rw [hb7] at HX10;have HB7 := hid hb7;clear hx hd7 hb7;go_wp2_with fail
         refine (xpeek_byte S g c7 b7 l8 _ (by rw [HB7.out]; exact HX10.out)).mono ?_;rintro _ w11 ⟨rfl, hf11⟩;have HX11 := hid (HX10.out.fresh hf11);have HT11 := hid (HT10.out.trans (hf11.mono fun _ h => h.elim));have HB11 := hid (hf11.blk HB10.out fun h => h);have HG11 := hid (HG10.out.fresh hf11);have HM := hid (posOf_at HX11.out);have HLN := hid (Xp.elementR_left n (b :: l2) c1).len;rw [HRR.out] at HLN;clear hf11;go_wp2_with fail
         go_roundw
         case rel =>
          refine ⟨ks ++ [.mk en eats eks etx], l8, some ⟨g8, 0, none⟩, nk + 1, c8, c7, hid (by rw [List.length_append, HNK.out]; rfl), ?_, HEQ2, HB11, HG11, HT11, HX11⟩;have h1 := HL8.out;have h2 : l7.length ≤ (b :: l2).length := HLN.out;rw [List.length_cons] at h1 h2 hnk;omega
         case measure =>
          rw [HM.out, HP.out];have h0 := HLE.out;have h1 := HL8.out;have h2 : l7.length ≤ (b :: l2).length := HLN.out;simp only [List.length_cons] at h0 h1 h2 ⊢;omega
        ·have hbn7 : ((b7.toNat : Int) != (60 : Int)) = true := u8_bne_of b7 60 hb7
         have HFIN := hid (show contentR (elementR n) nm l c = .bad (b7 :: l8) by rw [HEQ.out, kidsA_gapbad HN47.out HRR.out hd7 hb7]; rfl);clear hx hd7 hb7;go_wp2_with fail
         refine (xpeek_byte S g c7 b7 l8 _ HX10.out).mono ?_;rintro _ w11 ⟨rfl, hf11⟩;have HX11 := hid (HX10.out.fresh hf11);have HT11 := hid (HT10.out.trans (hf11.mono fun _ h => h.elim));clear hf11;go_wp2_with fail
         refine (xstop_any S g (b7 :: l8) c7 _ HX11.out).mono ?_;rintro _ w12 ⟨rfl, rfl⟩;refine ⟨rfl, (?_ : XC S g E0 nm va w (contentR (elementR n) nm l c) _ _)⟩;rw [HFIN.out];exact ⟨rfl, HT11.out⟩
theorem xcont_long (S : ByteArray) (g n : Nat) (hS : S.size ≤ 1099511627776) (hn : n < 64) (hel : ElemC S g n) (d : Int) (nm : List UInt8) (va : Value) (E0 : Nat) (l : List UInt8) (c : Nat) (w : World) (hd0 : d = 64 - (n : Int)) (hnm : nm.length ≤ S.size) (hEg : E0 ≠ g)
  (hB0 : Blk w E0 45 #[.string ⟨nm.toArray⟩, va, .slice none 0 0, .string ⟨#[]⟩]) (hX0 : Xr S g l c w) (hsp : spacesB (l.takeWhile white) = false) (hz : (l.takeWhile white).all (fun b => b == 32) = true) :
  Calls Tryz.prog 167 #[.pointer (some ⟨g, 0, none⟩), .pointer (some ⟨E0, 0, none⟩), .int .i64 d] w fun e w' => XC S g E0 nm va w (contentR (elementR n) nm l c) e w' := by
 have HX := hid hX0;have HB := hid hB0;have HEL := hid hel;have HNM := hid hnm;have HD0 := hid hd0;have HBL := hid hB0.lt;have HGL := hid hX0.lt;have hwd : IntKind.i64.wrap (d + 1) = d + 1 := IntWalk.i64_in _ (by omega);have HD1 := hid (show d + 1 = 65 - (n : Int) by omega);have HWD := hid hwd;obtain ⟨q0, q1, q2, _, _, _, _⟩ := blk3 hX0.blk;obtain ⟨ws, hws⟩ : ∃ ws, l.takeWhile white = ws := ⟨_, rfl⟩;have HWS := hid hws;rw [hws] at hsp hz;have hk0 : S.size - l.length ≤ S.size := by omega
 have HSF := hid hX0.sfx;have HLL := hid hX0.len;obtain ⟨k0, hkk⟩ : ∃ k, k = S.size - l.length := ⟨_, rfl⟩;have HK0 := hid hkk;rw [← hkk] at q1;clear hkk hX0 hB0 hel hws hnm hd0 hwd;have HSPF := hid hsp
 have HWN := hid (show ws.length ≤ S.size by
  have h1 : (l.takeWhile white ++ l.dropWhile white).length = l.length := by rw [List.takeWhile_append_dropWhile]
  rw [HWS.out, List.length_append] at h1;have := HLL.out;omega)
 have HW2 := hid (show ¬ ws.length ≤ 200 from fun h => by unfold spacesB at hsp; rw [hz, decide_eq_true h] at hsp; cases hsp);clear hsp;go_enter Tryz.func167, Tryz.ntmps167;go_wp2_with fail
 refine (xspace_any S g c l w hS HX.out).mono ?_;rintro _ w1 ⟨rfl, ht, hx⟩;have HX1 := hid hx;have HT1 := hid ht;have HB1 := hid (ht.blk HB.out fun h => hEg h);clear ht hx HX HB q0 q1 q2;generalize decide ((l.dropWhile white).length < l.length) = z0;obtain ⟨q0, q1, q2, _, _, _, _⟩ := blk3 HX1.out.blk
 have HEX := hid (show S.extract k0 (S.size - (l.dropWhile white).length) = ⟨ws.toArray⟩ from by
  have h := sfx_extract (S := S) (p := l.takeWhile white) (r := l.dropWhile white) (by rw [List.takeWhile_append_dropWhile]; exact HSF.out);rw [List.takeWhile_append_dropWhile, ← HK0.out, HWS.out] at h;exact h)
 have hdl : (l.dropWhile white).length ≤ l.length := (Xp.Sfx.dropWhile white l).len;have hk1 : (k0 : Int) ≤ ((S.size - (l.dropWhile white).length : Nat) : Int) := by have := HK0.out; have := HLL.out; omega
 have hk2 : ((S.size - (l.dropWhile white).length : Nat) : Int) ≤ (S.size : Int) := by omega
 have hk3 : (0 : Int) ≤ (k0 : Int) := by omega
 have hk4 : k0 ≤ S.size - (l.dropWhile white).length := by omega
 have hk5 : S.size - (l.dropWhile white).length ≤ S.size := by omega
 generalize S.size - (l.dropWhile white).length = k at *;clear hdl;go_wp2_with fail
 go_quiet (fail)
 refine forget_world (fun W => Fresh w1 W) ((Touch.refl _ _).drewN _) ?_;rintro w2 hf2;have HX2 := hid (HX1.out.fresh hf2);have HT2 := hid (HT1.out.trans (hf2.mono fun _ h => h.elim));have HB2 := hid (hf2.blk HB1.out fun h => h);clear hf2;clear HX1 HT1 HB1 q0 q1 q2 hk1 hk2 hk3 hk4 hk5;generalize S.extract k0 k = Bs at HEX ⊢;have hbs := HEX.out;subst hbs;have hwl : (⟨ws.toArray⟩ : ByteArray).size = ws.length := rfl;go_wp2_with fail
 refine (Tryz.strings_Trim_one ⟨ws.toArray⟩ 32 (by decide) w2 (by rw [hwl]; have := HWN.out; omega)).mono ?_;rintro _ w4 ⟨rfl, hw4⟩
 have hf4 : Fresh w2 w4 := by
  rcases hw4 with rfl | rfl
  ·exact Touch.refl _ _
  ·exact (Touch.refl _ _).drewN 1
 have HX4 := hid (HX2.out.fresh hf4);have HT4 := hid (HT2.out.trans (hf4.mono fun _ h => h.elim));have HB4 := hid (hf4.blk HB2.out fun h => h);clear hf4 hw4 HX2 HT2 HB2;have HTR := hid (show (Lib.trimB (⟨ws.toArray⟩ : ByteArray).data.toList 32).isEmpty = ws.all (fun b => b == 32) from trim_spaces ws);generalize Lib.trimB (⟨ws.toArray⟩ : ByteArray).data.toList 32 = tr at HTR ⊢;have htr : tr.isEmpty = true := by rw [HTR.out]; exact hz
 have h200 : decide ((ws.length : Int) ≤ (200 : Int)) = false := dF (by have := HW2.out; omega);have h200n : decide (ws.length ≤ 200) = false := dF HW2.out;clear hz;go_wp2_with fail
 clear htr h200 h200n HW2 HTR;cases hd : l.dropWhile white with
 | nil =>
  have HFIN := hid (show contentR (elementR n) nm l c = .bad [] from content_nil hd);rw [hd] at HX4;refine (xpeek_end S g c _ HX4.out).mono ?_;rintro _ w9 ⟨rfl, ht9⟩;refine ⟨rfl, (?_ : XC S g E0 nm va w (contentR (elementR n) nm l c) _ _)⟩;rw [HFIN.out];exact ⟨rfl, (HT4.out.trans ht9).mono fun _ h => .inl h⟩
 | cons b0 l3 =>
  rw [hd] at HX4;have HD := hid hd;clear hd
  by_cases hb : b0 = 60
  rotate_left
  focus
   have hbn : ((b0.toNat : Int) != (60 : Int)) = true := u8_bne_of b0 60 hb;have HB60 := hid hb;clear hb;refine (xpeek_byte S g c b0 l3 _ HX4.out).mono ?_;rintro _ w5 ⟨rfl, hf5⟩;have HX5 := hid (HX4.out.fresh hf5);have HT5 := hid (HT4.out.trans (hf5.mono fun _ h => h.elim));have HB5 := hid (hf5.blk HB4.out fun h => h);clear hf5 HX4 HT4 HB4;have HFIN := hid (show contentR (elementR n) nm l c = .bad (b0 :: l3) from content_gap HD.out HB60.out (by rw [HWS.out]; exact HSPF.out));go_wp2_with fail
   refine (xstop_any S g (b0 :: l3) c _ HX5.out).mono ?_;rintro _ w9 ⟨rfl, rfl⟩;refine ⟨rfl, (?_ : XC S g E0 nm va w (contentR (elementR n) nm l c) _ _)⟩;rw [HFIN.out];exact ⟨rfl, HT5.out.mono fun _ h => .inl h⟩
  have hbn : ((b0.toNat : Int) != (60 : Int)) = false := u8_nbne_of b0 60 hb;have HB60 := hid hb;clear hb;refine (xpeek_byte S g c b0 l3 _ HX4.out).mono ?_;rintro _ w5 ⟨rfl, hf5⟩;have HX5 := hid (HX4.out.fresh hf5);have HT5 := hid (HT4.out.trans (hf5.mono fun _ h => h.elim));have HB5 := hid (hf5.blk HB4.out fun h => h);clear hf5 HX4 HT4 HB4;have HCK := hid (content_kids (el := elementR n) (nm := nm) (c := c) HD.out HB60.out);rw [HWS.out] at HCK;have hEl := HB5.out.lt;have hEl0 := HBL.out;have hls := HX5.out.len;rw [List.length_cons] at hls;rw [HB60.out] at HX5;have HT6 := hid (HT5.out.mono fun i (h : i = g) => show i = g ∨ i = E0 from .inl h);have HG6 := hid (show GrowE w.heap.size w5 [] (.slice none 0 0) from GrowE.nil HT5.out.size);clear HT5 hEl;go_wp2_with fail
  go_loopw [] (fun wr => ∃ (ks : List E) (l1 : List UInt8) (A : Option Addr) (nk cp c1 : Nat), Hid (ks.length = nk) ∧ nk + l1.length ≤ S.size ∧ Hid (contentR (elementR n) nm l c = contK nm ws (kidsA (elementR n) ks l1 c1)) ∧ Hid (Blk wr E0 45 #[.string ⟨nm.toArray⟩, va, .slice A nk cp, .string ⟨#[]⟩]) ∧ Hid (GrowE w.heap.size wr ks (.slice A nk cp)) ∧ Hid (Touch (fun b => b = g ∨ b = E0) w wr) ∧ Hid (Xr S g (60 :: l1) c1 wr)) (fun wr => S.size - posOf g wr)
  case atStart => exact ⟨[], l3, none, 0, 0, c, hid rfl, by omega, HCK, HB5, HG6, HT6, HX5⟩
  case round =>
   clear HX5 HT6 HB5 HG6 HCK hls;obtain ⟨ks, l1, A, nk, cp, c1, HNK, hnk, HEQ, HB, HG, HT, HX⟩ := hrel;rename_i wr _;have HP := hid (posOf_at HX.out);have hEl := HB.out.lt;have hgs := HX.out.lt;obtain ⟨q0, q1, q2, f0, f1, f2, hg⟩ := blk3 HX.out.blk;have hle := HX.out.len;have hw : IntKind.i64.wrap (((S.size - (60 :: l1 : List UInt8).length : Nat) : Int) + 1) = ((S.size - (60 :: l1 : List UInt8).length : Nat) : Int) + 1 := IntWalk.i64_in _ (by omega);have HXA := hid HX.out.adv;have HTA := hid (HT.out.setCell (p := ⟨g, 1, none⟩) (.inl (.inl rfl)) (.int .i64 (((S.size - (60 :: l1 : List UInt8).length : Nat) : Int) + 1)));have HBA := hid (HB.out.far (p := ⟨g, 1, none⟩) (by show E0 ≠ g; exact hEg) (.int .i64 (((S.size - (60 :: l1 : List UInt8).length : Nat) : Int) + 1)));have HGA := hid (HG.out.mv ((Touch.refl (fun b => b = g) wr).setCell (p := ⟨g, 1, none⟩) (.inl rfl) (.int .i64 (((S.size - (60 :: l1 : List UInt8).length : Nat) : Int) + 1))) fun k hk _ => by omega);have HLE := hid hle;generalize hkk : S.size - (60 :: l1 : List UInt8).length = k at q1 hw HXA HTA HBA HGA;have HKK := hid hkk;clear hkk;go_wp2_with fail
   generalize (wr.setCell ⟨g, 1, none⟩ (.int .i64 ((k : Int) + 1))) = wB at HXA HTA HBA HGA ⊢;have HXB := HXA;have HTB := HTA;have HBB := HBA;have HGB := HGA;clear q0 q1 q2 f0 f1 f2 hg hle hw HXA HTA HBA HGA HX HT HB HG hEl hgs;have hEl := HBB.out.lt;have hgs := HXB.out.lt;cases l1 with
   | nil =>
    have HFIN := hid (show contentR (elementR n) nm l c = .bad [] by rw [HEQ.out, kidsA_end]; rfl);refine (xpeek_end S g c1 _ HXB.out).mono ?_;rintro _ w9 ⟨rfl, ht9⟩;refine ⟨rfl, (?_ : XC S g E0 nm va w (contentR (elementR n) nm l c) _ _)⟩;rw [HFIN.out];exact ⟨rfl, HTB.out.trans (ht9.mono fun _ h => .inl h)⟩
   | cons b l2 =>
   by_cases hb : b = 47
   ·have hbn : ((b.toNat : Int) == (47 : Int)) = true := by rw [hb]; rfl
    have HB47 := hid hb;clear hb;refine (xpeek_byte S g c1 b l2 _ HXB.out).mono ?_;rintro _ w9 ⟨rfl, hf9⟩;have HX9 := hid (HXB.out.fresh hf9);have HT9 := hid (HTB.out.trans (hf9.mono fun _ h => h.elim));have HB9 := hid (hf9.blk HBB.out fun h => h);have HG9 := hid (HGB.out.fresh hf9);have HK47 := hid (show kidsA (elementR n) ks (b :: l2) c1 = .ok ks (47 :: l2) c1 by rw [HB47.out]; exact Xp.kidsA_nil _ _ _ _);rw [HB47.out] at HX9;clear hf9 HXB HTB HBB HGB;obtain ⟨e0, e1, e2, e3, y0, y1, y2, y3, hlb⟩ := Blk.four HB9.out;have HA := hid (show contentR (elementR n) nm l c = contE (ks, []) c1 (endR nm c1 (47 :: l2)) by rw [HEQ.out, HK47.out]; show contE (ks, if spacesB ws && ks.isEmpty then ws else []) c1 _ = _; rw [HSPF.out, Bool.false_and]; rfl);have HTW := hid HT9.out;clear HEQ HK47;go_wp2_with fail
    clear e0 e1 e2 e3 y0 y1 y2 y3 hlb;have HEND := hid (show Calls Tryz.prog 202 #[.pointer (some ⟨g, 0, none⟩), .string ⟨nm.toArray⟩] w9 fun e w' => XU S g w9 (endR nm c1 (47 :: l2)) e w' from xend_any S ⟨nm.toArray⟩ g c1 (47 :: l2) w9 hS (by have := HNM.out; show nm.length ≤ _; omega) HX9.out);refine HEND.out.mono ?_;intro e w10 he;cases hr : endR nm c1 (47 :: l2) with
    | bad l9 =>
     have HFIN := hid (show contentR (elementR n) nm l c = .bad l9 by rw [HA.out, hr]; rfl);rw [hr] at he;obtain ⟨rfl, ht⟩ := he;refine ⟨rfl, (?_ : XC S g E0 nm va w (contentR (elementR n) nm l c) _ _)⟩;rw [HFIN.out];exact ⟨rfl, HTW.out.trans (ht.mono fun _ h => .inl h)⟩
    | ok u l9 c9 =>
     have hc9 := endR_cnt hr;rw [hc9] at hr;clear hc9;have HFIN := hid (show contentR (elementR n) nm l c = .ok (ks, []) l9 c1 by rw [HA.out, hr]; rfl);rw [hr] at he;obtain ⟨rfl, ht, hx⟩ := he;have HX10 := hid hx;have HB10 := hid (ht.blk HB9.out fun h => by omega);have HT10 := hid (HTW.out.trans (ht.mono fun _ h => .inl h));have HS10 := hid ((HG9.out.mv ht fun k hk _ => by omega).done);clear ht hx hr HEND;go_wp2_with fail
     refine bodyPost_end (v := .tuple #[]) (results_none rfl _ _ _) rfl ?_;rw [HFIN.out];exact ⟨rfl, _, _, _, HB10.out, (Nat.zero_le _), HS10.out, HT10.out, HX10.out⟩
   ·have hbn : ((b.toNat : Int) == (47 : Int)) = false := by rw [show ((b.toNat : Int) == (47 : Int)) = (b == 47) from beq_u8 b 47, beq_eq_false_iff_ne]; exact hb
    have HN47 := hid hb;clear hb;refine (xpeek_byte S g c1 b l2 _ HXB.out).mono ?_;rintro _ w6 ⟨rfl, hf9⟩;have HX6 := hid (HXB.out.fresh hf9);have HT6 := hid (HTB.out.trans (hf9.mono fun _ h => h.elim));have HB6 := hid (hf9.blk HBB.out fun h => h);have HG6 := hid (HGB.out.fresh hf9);clear hf9 HXB HTB HBB HGB;have hEl6 := HB6.out.lt;have hgs6 := HX6.out.lt;obtain ⟨e0, e1, e2, e3, y0, y1, y2, y3, hlb⟩ := Blk.four HB6.out;go_wp2_with fail
    have k1 := cT (S := fun k => k = g) e2 hEg;clear e0 e1 e2 e3 y0 y1 y2 y3 hlb hbn;have hwd := HWD.out;cases hr : elementR n (b :: l2) c1 with
    | bad l9 =>
     have HRR := hid hr;clear hr
     refine wp_region_planC (fun W => ∃ x : Turned (fun k => k = g) w6, W = x.W) (Plan.of [(0, true), (1, true), (2, true), (3, true), (4, true), (5, true), (6, true), (8, true)] (.fork 7 (.lone 9 .nil) 9 (.lone 7 .nil))) [0, 1, 2, 3, 4, 5, 6, 7, 8, 9] 10 (Array.replicate 10 true ++ Array.replicate 6 false) (fun _ => True)
      (Plan.of [(11, true), (13, true), (14, true)] (.fork 12 (.lone 15 .nil) 15 (.lone 12 .nil))) [11, 12, 13, 14, 15] (Array.replicate 16 true) (by kernel_rfl) (fun _ _ d _ _ h => by cases d <;> exact h) (by kernel_rfl) ⟨⟨_, (Touch.refl _ _).drewN 1⟩, rfl⟩ ?_
     unfold Plan.of
     repeat (refine wpPlan_plain rfl (fun K hK => ?_); go_simp; refine hK _ ?_; clear hK K; first | done | unfold Plan.of)
     clear k1;have HFIN := hid (show contentR (elementR n) nm l c = .bad l9 by rw [HEQ.out, kidsA_bad HN47.out HRR.out]; rfl);refine wpPlan_fork ?_ ?_
     focus
      refine wpPlan_lone rfl (fun K hK => ?_);go_wp2_with fail
      refine (HEL.out (d + 1) (b :: l2) c1 _ HD1.out (HX6.out.fresh ((Touch.refl _ _).drewN 1))).mono ?_;intro e w7 he;rw [HRR.out] at he;obtain ⟨rfl, ht⟩ := he;refine ⟨rfl, (?_ : XC S g E0 nm va w (contentR (elementR n) nm l c) _ _)⟩;rw [HFIN.out];exact ⟨rfl, HT6.out.trans ((((Touch.refl (fun b => b = g) w6).drewN 1).trans ht).mono fun _ h => .inl h)⟩
     focus
      refine wpPlan_lone rfl (fun K hK => ?_);go_wp2_with fail
      refine hK _ _ ⟨⟨_, ((Touch.refl _ w6).drewN 1).alloc _⟩, rfl⟩ ?_;clear hK K;refine wpPlan_lone rfl (fun K hK => ?_);go_wp2_with fail
      refine (HEL.out (d + 1) (b :: l2) c1 _ HD1.out (HX6.out.fresh (((Touch.refl _ _).drewN 1).alloc _))).mono ?_;intro e w7 he;rw [HRR.out] at he;obtain ⟨rfl, ht⟩ := he;refine ⟨rfl, (?_ : XC S g E0 nm va w (contentR (elementR n) nm l c) _ _)⟩;rw [HFIN.out];exact ⟨rfl, HT6.out.trans (((((Touch.refl (fun b => b = g) w6).drewN 1).alloc _).trans ht).mono fun _ h => .inl h)⟩
    | ok e1 l7 c7 =>
     obtain ⟨en, eats, eks, etx⟩ := e1;have HRR := hid hr;clear hr
     refine wp_region_planC (fun W => ∃ x : Turned (fun k => k = g) w6, W = x.W) (Plan.of [(0, true), (1, true), (2, true), (3, true), (4, true), (5, true), (6, true), (8, true)] (.fork 7 (.lone 9 .nil) 9 (.lone 7 .nil))) [0, 1, 2, 3, 4, 5, 6, 7, 8, 9] 10 (Array.replicate 10 true ++ Array.replicate 6 false) (fun _ => True)
      (Plan.of [(11, true), (13, true), (14, true)] (.fork 12 (.lone 15 .nil) 15 (.lone 12 .nil))) [11, 12, 13, 14, 15] (Array.replicate 16 true) (by kernel_rfl) (fun _ _ d _ _ h => by cases d <;> exact h) (by kernel_rfl) ⟨⟨_, (Touch.refl _ _).drewN 1⟩, rfl⟩ ?_
     unfold Plan.of
     repeat (refine wpPlan_plain rfl (fun K hK => ?_); go_simp; refine hK _ ?_; clear hK K; first | done | unfold Plan.of)
     clear k1;refine wpPlan_fork ?_ ?_
     focus
      refine wpPlan_lone rfl (fun K hK => ?_);go_wp2_with fail
      refine (HEL.out (d + 1) (b :: l2) c1 _ HD1.out (HX6.out.fresh ((Touch.refl _ _).drewN 1))).mono ?_;intro e w7 he;rw [HRR.out] at he;obtain ⟨ea, ek, rfl, ht, hst, hx⟩ := he;obtain ⟨Aa, ca, hea⟩ := hst.now.1.slice;obtain ⟨Ab, cb, hek⟩ := hst.now.2.1.slice;simp only [E.kids, E.attrs] at hea hek;subst hea hek;unfold ev;simp only [E.name, E.text];have HT7 := hid (show Touch (fun k => k = g) w6 w7 from ((Touch.refl _ w6).drewN 1).trans ht);have HST7 := hid (show Stab (fun k => k < w6.heap.size) w7 fun W => RepV W (.mk en eats eks etx) (.slice Aa eats.length ca) (.slice Ab eks.length cb) from hst);have HX7 := hid hx;clear ht hst hx;go_wp2_with fail
      refine hK _ _ ⟨⟨_, HT7.out⟩, rfl⟩ ?_;clear hK K;refine wpPlan_lone rfl (fun K hK => ?_);go_wp2_with fail
      refine hK _ _ ⟨⟨_, HT7.out.alloc _⟩, rfl⟩ ?_;clear hK K;have HBV := hid (Blk.new w7 45 #[.string ⟨#[]⟩, .slice none 0 0, .slice none 0 0, .string ⟨#[]⟩]);have HTA := hid (HT7.out.alloc (.cells #[.string ⟨#[]⟩, .slice none 0 0, .slice none 0 0, .string ⟨#[]⟩] 45));have HXA := hid (HX7.out.fresh ((Touch.refl _ w7).alloc (.cells #[.string ⟨#[]⟩, .slice none 0 0, .slice none 0 0, .string ⟨#[]⟩] 45)));have HSTA := hid (HST7.out.fresh ((Touch.refl _ w7).alloc (.cells #[.string ⟨#[]⟩, .slice none 0 0, .slice none 0 0, .string ⟨#[]⟩] 45)));generalize (w7.alloc (.cells #[.string ⟨#[]⟩, .slice none 0 0, .slice none 0 0, .string ⟨#[]⟩] 45)) = wA at HBV HTA HXA HSTA ⊢;obtain ⟨bz, hbz⟩ : ∃ b, b = w7.heap.size := ⟨_, rfl⟩;rw [← hbz] at HBV ⊢;clear hbz HT7 HST7 HX7
     rotate_left
     focus
      refine wpPlan_lone rfl (fun K hK => ?_);go_wp2_with fail
      refine hK _ _ ⟨⟨_, ((Touch.refl _ w6).drewN 1).alloc _⟩, rfl⟩ ?_;clear hK K;have HBV7 := hid (show Blk ((w6.drewN 1).alloc (.cells #[.string ⟨#[]⟩, .slice none 0 0, .slice none 0 0, .string ⟨#[]⟩] 45)) w6.heap.size 45 #[.string ⟨#[]⟩, .slice none 0 0, .slice none 0 0, .string ⟨#[]⟩] from Blk.new (w6.drewN 1) 45 #[.string ⟨#[]⟩, .slice none 0 0, .slice none 0 0, .string ⟨#[]⟩]);have HF7 := hid (show Fresh w6 ((w6.drewN 1).alloc (.cells #[.string ⟨#[]⟩, .slice none 0 0, .slice none 0 0, .string ⟨#[]⟩] 45)) from ((Touch.refl _ w6).drewN 1).alloc _);have HT7 := hid (show Touch (fun k => k = g) w6 ((w6.drewN 1).alloc (.cells #[.string ⟨#[]⟩, .slice none 0 0, .slice none 0 0, .string ⟨#[]⟩] 45)) from ((Touch.refl _ w6).drewN 1).alloc _);generalize ((w6.drewN 1).alloc (.cells #[.string ⟨#[]⟩, .slice none 0 0, .slice none 0 0, .string ⟨#[]⟩] 45)) = w7 at HBV7 HF7 HT7 ⊢;obtain ⟨bz, hbz⟩ : ∃ b, b = w6.heap.size := ⟨_, rfl⟩;have HGZ := hid (show w6.heap.size ≠ g by omega);refine wpPlan_lone rfl (fun K hK => ?_);go_wp2_with fail
      refine (HEL.out (d + 1) (b :: l2) c1 _ HD1.out (HX6.out.fresh HF7.out)).mono ?_;intro e wA he;rw [HRR.out] at he;obtain ⟨ea, ek, rfl, ht, hst, hx⟩ := he;obtain ⟨Aa, ca, hea⟩ := hst.now.1.slice;obtain ⟨Ab, cb, hek⟩ := hst.now.2.1.slice;simp only [E.kids, E.attrs] at hea hek;subst hea hek;unfold ev;simp only [E.name, E.text];have HTA := hid (show Touch (fun k => k = g) w6 wA from HT7.out.trans ht);have HSTA := hid (show Stab (fun k => k < w6.heap.size) wA fun W => RepV W (.mk en eats eks etx) (.slice Aa eats.length ca) (.slice Ab eks.length cb) from hst.mono fun i _ hi => Nat.lt_of_lt_of_le hi HF7.out.size);have HXA := hid hx;have HBV := hid (ht.blk HBV7.out HGZ.out);clear ht hst hx;go_wp2_with fail
      refine hK _ _ ⟨⟨_, HTA.out⟩, rfl⟩ ?_;clear hK K;rw [← hbz] at HBV ⊢;clear hbz HT7 HBV7 HF7 HGZ
     all_goals
      have HGA := hid (HG6.out.mv HTA.out fun k hk _ => by omega);have HOW := hid HG6.out.own_lt;have HBA := hid (HTA.out.blk HB6.out fun h => hEg h);have HSZ := hid HT6.out.size
      have hnk2 : nk < 2 ^ 40 := by
       have h := hnk;rw [List.length_cons] at h;omega
      have HNK2 := hid hnk2;clear hnk2;refine wpPlan_shut2 rfl (fun K hK => ?_)
      go_wp2_with (at_builtin; go_loud (refine wpList_append_ezero rfl (.tmp 84) (.tmp 90) rfl HGA.out HNK.out (by simp [Act.eval]) (.mk en eats eks etx) HBV.out (by simp [Act.eval]) w6.heap.size HSZ.out (fun k hk => (HOW.out k hk).2) HSTA.out HNK2.out ?_); intro A8 c8 w8 hg8 ht8; refine Stay.mk ?_)
      obtain ⟨g8, cap8, hv8, hcap8, hg8B, hg8l, a0, a1, a2, a3, f0, f1, f2, f3⟩ := hg8.cells HNK.out;cases hv8;have hb8 := ht8.blk HBA.out fun h => by have := (HOW.out _ h).1; omega
      have HX8 := hid (HXA.out.move ht8 fun h => by have := (HOW.out _ h).1; omega);have HT8 := hid (show Touch (fun i => i = g ∨ i = E0) w w8 from (HT6.out.trans (HTA.out.mono fun i hi => .inl hi)).trans' ht8 fun k hk => .inr (by have := (HOW.out _ hk).1; omega));have HST := hid (hg8.stores HNK.out hb8 hEl0);obtain ⟨_, _, q3, _, _, _, z3, _, hlt8⟩ := Blk.four hb8;have hne : E0 ≠ g8 := by omega
      have hne' : g8 ≠ E0 := by omega
      have hr1 : (nk : Int) < (nk : Int) + 1 := by omega
      clear ht8 hb8 hg8;refine Stay.go ?_;go_wp2_with fail
      refine hK _ _ trivial ?_;clear hK K
      repeat (refine wpPlan_plain rfl (fun K hK => ?_); go_simp; refine hK _ ?_; clear hK K)
      refine wpPlan_fork ?_ ?_
      focus
       refine wpPlan_lone rfl (fun K hK => ?_);go_wp2_with fail
       refine hK _ _ trivial ?_;clear hK K;refine wpPlan_lone rfl (fun K hK => ?_);go_wp2_with fail
       refine hK _ _ trivial ?_;clear hK K;have HT9 := hid (HST.out.1 _ rfl);unfold xputAt4 at HT9;simp only [E.name, E.text] at HT9;clear a0 a1 a2 a3 f0 f1 f2 f3 q3 z3 HST;generalize World.setCell _ ⟨E0, 2, none⟩ _ = W9 at HT9 ⊢
      rotate_left
      focus
       refine wpPlan_lone rfl (fun K hK => ?_);go_wp2_with fail
       refine hK _ _ trivial ?_;clear hK K;refine wpPlan_lone rfl (fun K hK => ?_);go_wp2_with fail
       refine hK _ _ trivial ?_;clear hK K;have HT9 := hid (HST.out.2 _ rfl);unfold xputAt4 at HT9;simp only [E.name, E.text] at HT9;clear a0 a1 a2 a3 f0 f1 f2 f3 q3 z3 HST;generalize World.setCell _ ⟨g8, nk * 4 + 3, none⟩ _ = W9 at HT9 ⊢
      all_goals
       refine wpPlan_nil ?_;obtain ⟨hb9, hg9, ht9⟩ := HT9.out;have HB9 := hid hb9;have HG9 := hid hg9;have HX9 := hid (HX8.out.move ht9 (by omega));have HTT9 := hid (show Touch (fun i => i = g ∨ i = E0) w W9 from HT8.out.trans' ht9 fun i hi => hi.elim (fun h => .inr (by omega)) fun h => .inl (.inr h));clear hb9 hg9 ht9 HT9;go_wp2_with fail
       refine (xspace_any S g c7 l7 _ hS HX9.out).mono ?_;rintro _ w10 ⟨rfl, ht, hx⟩;have HT10 := hid (HTT9.out.trans (ht.mono fun _ h => .inl h));have HB10 := hid (ht.blk HB9.out fun h => hEg h);have HG10 := hid (HG9.out.mv ht fun k hk _ => by omega);clear ht HB9 HG9 HX9 HTT9;generalize decide ((l7.dropWhile white).length < l7.length) = z9;cases hd7 : l7.dropWhile white with
       | nil =>
        have HFIN := hid (show contentR (elementR n) nm l c = .bad [] by rw [HEQ.out, kidsA_gapnil HN47.out HRR.out hd7]; rfl);rw [hd7] at hx;have HX10 := hid hx;clear hx hd7;go_wp2_with fail
        refine (xpeek_end S g c7 _ HX10.out).mono ?_;rintro _ w11 ⟨rfl, ht11⟩;refine ⟨rfl, (?_ : XC S g E0 nm va w (contentR (elementR n) nm l c) _ _)⟩;rw [HFIN.out];exact ⟨rfl, HT10.out.trans (ht11.mono fun _ h => .inl h)⟩
       | cons b7 l8 =>
        rw [hd7] at hx;have HX10 := hid hx;have HL8 := hid (show (b7 :: l8).length ≤ l7.length by rw [← hd7]; exact (Xp.Sfx.dropWhile white l7).len)
        by_cases hb7 : b7 = 60
        ·have hbn7 : ((b7.toNat : Int) != (60 : Int)) = false := u8_nbne_of b7 60 hb7
         have HEQ2 := hid (show contentR (elementR n) nm l c = contK nm ws (kidsA (elementR n) (ks ++ [.mk en eats eks etx]) l8 c7) by rw [HEQ.out, Xp.kidsA_step (fun l c => Xp.elementR_left n l c) HN47.out HRR.out (by rw [hd7, hb7])]);rw [hb7] at HX10;have HB7 := hid hb7;clear hx hd7 hb7;go_wp2_with fail
         refine (xpeek_byte S g c7 b7 l8 _ (by rw [HB7.out]; exact HX10.out)).mono ?_;rintro _ w11 ⟨rfl, hf11⟩;have HX11 := hid (HX10.out.fresh hf11);have HT11 := hid (HT10.out.trans (hf11.mono fun _ h => h.elim));have HB11 := hid (hf11.blk HB10.out fun h => h);have HG11 := hid (HG10.out.fresh hf11);have HM := hid (posOf_at HX11.out);have HLN := hid (Xp.elementR_left n (b :: l2) c1).len;rw [HRR.out] at HLN;clear hf11;go_wp2_with fail
         go_roundw
         case rel =>
          refine ⟨ks ++ [.mk en eats eks etx], l8, some ⟨g8, 0, none⟩, nk + 1, c8, c7, hid (by rw [List.length_append, HNK.out]; rfl), ?_, HEQ2, HB11, HG11, HT11, HX11⟩;have h1 := HL8.out;have h2 : l7.length ≤ (b :: l2).length := HLN.out;rw [List.length_cons] at h1 h2 hnk;omega
         case measure =>
          rw [HM.out, HP.out];have h0 := HLE.out;have h1 := HL8.out;have h2 : l7.length ≤ (b :: l2).length := HLN.out;simp only [List.length_cons] at h0 h1 h2 ⊢;omega
        ·have hbn7 : ((b7.toNat : Int) != (60 : Int)) = true := u8_bne_of b7 60 hb7
         have HFIN := hid (show contentR (elementR n) nm l c = .bad (b7 :: l8) by rw [HEQ.out, kidsA_gapbad HN47.out HRR.out hd7 hb7]; rfl);clear hx hd7 hb7;go_wp2_with fail
         refine (xpeek_byte S g c7 b7 l8 _ HX10.out).mono ?_;rintro _ w11 ⟨rfl, hf11⟩;have HX11 := hid (HX10.out.fresh hf11);have HT11 := hid (HT10.out.trans (hf11.mono fun _ h => h.elim));clear hf11;go_wp2_with fail
         refine (xstop_any S g (b7 :: l8) c7 _ HX11.out).mono ?_;rintro _ w12 ⟨rfl, rfl⟩;refine ⟨rfl, (?_ : XC S g E0 nm va w (contentR (elementR n) nm l c) _ _)⟩;rw [HFIN.out];exact ⟨rfl, HT11.out⟩
theorem xcont_any (S : ByteArray) (g n : Nat) (hS : S.size ≤ 1099511627776) (hn : n < 64) (hel : ElemC S g n) : ContC S g n := by
 intro d nm va E0 l c w hd hnm hE hB hX;cases hsp : spacesB (l.takeWhile white) with
 | true => exact xcont_sp S g n hS hn hel d nm va E0 l c w hd hnm hE hB hX hsp
 | false =>
  cases hz : (l.takeWhile white).all (fun b => b == 32) with
  | false => exact xcont_nz S g n hS hn hel d nm va E0 l c w hd hnm hE hB hX hsp hz
  | true => exact xcont_long S g n hS hn hel d nm va E0 l c w hd hnm hE hB hX hsp hz
theorem xelem_any (S : ByteArray) (g : Nat) (hS : S.size ≤ 1099511627776) : ∀ n, n ≤ 64 → ElemC S g n
 | 0, _ => xelem_low S g
 | n + 1, h => xelem_step S g n hS (by omega) (xcont_any S g n hS (by omega) (xelem_any S g hS n (by omega)))
end Go.Proofs.YtnbeemkfmlfgfaaGreatDoor
