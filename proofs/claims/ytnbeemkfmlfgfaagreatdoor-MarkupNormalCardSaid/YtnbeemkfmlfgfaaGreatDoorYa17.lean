/- Part 17 of 35 of a proof; its texts, joined: XpI, XpJ. No condition. -/
import Derived.Test.YtnbeemkfmlfgfaaGreatDoorYa16
set_option maxRecDepth 100000
set_option maxHeartbeats 8000000
namespace Go.Proofs.YtnbeemkfmlfgfaaGreatDoor
open Go.RowKit
open Xp (Rs Sfx white expectR nameR attrR attrsR contentR elementR)
open El (E Attrs)
namespace Xp
def attrsA (c : Nat) (as_ : Attrs) (l : List UInt8) : Rs (Attrs × Bool) := attrsR c (9 - as_.length) as_ l
theorem attrsA_eq {c : Nat} {as_ : Attrs} {l : List UInt8} (h : as_.length ≤ 8) : attrsA c as_ l = match l.dropWhile white with
  | [] => .bad []
  | b :: l2 => if b = 47 then (match expectR 62 c l2 with
    | .bad l3 => .bad l3
    | .ok _ l3 _ => .ok (as_, true) l3 c)
   else if b = 62 then .ok (as_, false) l2 c
   else if (b :: l2).length < l.length ∧ El.letter b = true ∧ as_.length < 8 then (match attrR as_ c (b :: l2) with
    | .bad l3 => .bad l3
    | .ok a l3 _ => attrsA c (as_ ++ [a]) l3)
   else .bad (b :: l2) := by
 have h1 : 9 - as_.length = (8 - as_.length) + 1 := by omega
 have h2 : ∀ a, attrsA c (as_ ++ [a]) = attrsR c (8 - as_.length) (as_ ++ [a]) := fun a => by
  unfold attrsA;rw [List.length_append, show 9 - (as_.length + [a].length) = 8 - as_.length by simp only [List.length_cons, List.length_nil]; omega]
 simp only [h2];unfold attrsA;rw [h1, attrsR];rfl
theorem attrsA_nil {c : Nat} {as_ : Attrs} {l : List UInt8} (h : as_.length ≤ 8) (hd : l.dropWhile white = []) : attrsA c as_ l = .bad [] := by rw [attrsA_eq h, hd]
theorem attrsA_sl_bad {c : Nat} {as_ : Attrs} {l l2 l3 : List UInt8} (h : as_.length ≤ 8) (hd : l.dropWhile white = 47 :: l2) (he : expectR 62 c l2 = .bad l3) : attrsA c as_ l = .bad l3 := by
 rw [attrsA_eq h, hd]; simp only [if_pos, he]
theorem attrsA_sl_ok {c : Nat} {as_ : Attrs} {l l2 l3 : List UInt8} {u : Unit} {c3 : Nat} (h : as_.length ≤ 8) (hd : l.dropWhile white = 47 :: l2) (he : expectR 62 c l2 = .ok u l3 c3) : attrsA c as_ l = .ok (as_, true) l3 c := by
 rw [attrsA_eq h, hd]; simp only [if_pos, he]
theorem attrsA_gt {c : Nat} {as_ : Attrs} {l l2 : List UInt8} (h : as_.length ≤ 8) (hd : l.dropWhile white = 62 :: l2) : attrsA c as_ l = .ok (as_, false) l2 c := by
 rw [attrsA_eq h, hd];exact (if_neg (by decide)).trans (if_pos rfl)
theorem attrsA_stop {c : Nat} {as_ : Attrs} {l l2 : List UInt8} {b : UInt8} (h : as_.length ≤ 8) (hd : l.dropWhile white = b :: l2) (h1 : ¬ b = 47) (h2 : ¬ b = 62) (h3 : ¬ ((b :: l2).length < l.length ∧ El.letter b = true ∧ as_.length < 8)) : attrsA c as_ l = .bad (b :: l2) := by
 rw [attrsA_eq h, hd];exact (if_neg h1).trans ((if_neg h2).trans (if_neg h3))
theorem attrsA_bad {c : Nat} {as_ : Attrs} {l l2 l3 : List UInt8} {b : UInt8} (h : as_.length ≤ 8) (hd : l.dropWhile white = b :: l2) (h1 : ¬ b = 47) (h2 : ¬ b = 62) (h3 : (b :: l2).length < l.length ∧ El.letter b = true ∧ as_.length < 8) (ha : attrR as_ c (b :: l2) = .bad l3) : attrsA c as_ l = .bad l3 := by
 rw [attrsA_eq h, hd];refine (if_neg h1).trans ((if_neg h2).trans ((if_pos h3).trans ?_));rw [ha]
theorem attrsA_step {c : Nat} {as_ : Attrs} {l l2 l3 : List UInt8} {b : UInt8} {a : List UInt8 × List UInt8} {c3 : Nat} (h : as_.length ≤ 8) (hd : l.dropWhile white = b :: l2) (h1 : ¬ b = 47) (h2 : ¬ b = 62) (h3 : (b :: l2).length < l.length ∧ El.letter b = true ∧ as_.length < 8) (ha : attrR as_ c (b :: l2) = .ok a l3 c3) : attrsA c as_ l = attrsA c (as_ ++ [a]) l3 := by
 rw [attrsA_eq h, hd];refine (if_neg h1).trans ((if_neg h2).trans ((if_pos h3).trans ?_));rw [ha]
theorem attrR_lt {as_ : Attrs} {c : Nat} {l : List UInt8} {x : List UInt8 × List UInt8} {l1 : List UInt8} {c1 : Nat} (h : attrR as_ c l = .ok x l1 c1) : l1.length < l.length := by
 cases hn : nameR c l with
 | bad l2 => rw [attrR_bad hn] at h; cases h
 | ok nm l2 c2 =>
  rw [attrR_ok hn] at h;have hl := (nameR_len hn).2;cases l2 with
  | nil => cases h
  | cons b l3 =>
   have h : (if b ≠ 61 ∨ as_.any (fun x => x.1 == nm) = true then Rs.bad (b :: l3) else attrK2 nm c (expectR 34 c l3)) = .ok x l1 c1 := h;split at h
   ·cases h
   ·cases he : expectR 34 c l3 with
    | bad l4 => rw [he] at h; cases h
    | ok u l4 c4 =>
     rw [he] at h;have h : attrK3 nm c (textA 34 c [] l4) = .ok x l1 c1 := h;have h4 := (expectR_left 34 c l3).len;rw [he] at h4;have h4 : l4.length ≤ l3.length := h4;cases ht : textA 34 c [] l4 with
     | bad l5 => rw [ht] at h; cases h
     | ok v l5 c5 =>
      rw [ht] at h;cases h;have h5 := textA_len 34 c _ l4 [] v l5 c5 (Nat.le_refl _) ht;have h6 : (l5.drop 1).length ≤ l5.length := by rw [List.length_drop]; omega
      simp only [List.length_cons, List.length_nil] at h5 hl;omega
def elemK (n : Nat) (nm : List UInt8) (c : Nat) : Rs (Attrs × Bool) → Rs E
 | .bad l1 => .bad l1
 | .ok (as_, true) l1 _ => .ok (.mk nm as_ [] []) l1 c
 | .ok (as_, false) l1 _ => match contentR (elementR n) nm l1 c with
  | .bad l2 => .bad l2
  | .ok (ks, t) l2 c2 => .ok (.mk nm as_ ks t) l2 c2
theorem elemK_bad {n c : Nat} {nm l l2 : List UInt8} {as_ : Attrs} {c1 : Nat} (h : contentR (elementR n) nm l c = .bad l2) : elemK n nm c (.ok (as_, false) l c1) = .bad l2 := by
 show (match contentR (elementR n) nm l c with | .bad l2 => _ | .ok (ks, t) l2 c2 => _) = _;rw [h]
theorem elemK_ok {n c : Nat} {nm l l2 t : List UInt8} {as_ : Attrs} {ks : List E} {c1 c2 : Nat} (h : contentR (elementR n) nm l c = .ok (ks, t) l2 c2) : elemK n nm c (.ok (as_, false) l c1) = .ok (.mk nm as_ ks t) l2 c2 := by
 show (match contentR (elementR n) nm l c with | .bad l2 => _ | .ok (ks, t) l2 c2 => _) = _;rw [h]
theorem elem_ok {n c : Nat} {b : UInt8} {l' : List UInt8} (hb : El.letter b = true) (hc : c < 3000) : elementR (n + 1) (b :: l') c = elemK n ((b :: l').takeWhile El.inner) (c + 1) (attrsA (c + 1) [] ((b :: l').dropWhile El.inner)) := by
 rw [elementR, if_neg (by rintro (h | h); rw [hb] at h; cases h; omega)];show _ = elemK n _ (c + 1) (attrsR (c + 1) 9 [] ((b :: l').dropWhile El.inner));cases attrsR (c + 1) 9 [] ((b :: l').dropWhile El.inner) with
 | bad l1 => rfl
 | ok p l1 c1 =>
  obtain ⟨as_, z⟩ := p;cases z with
  | true => rfl
  | false => rfl
theorem elem_bad {n c : Nat} {b : UInt8} {l' : List UInt8} (h : El.letter b = false ∨ 3000 ≤ c) : elementR (n + 1) (b :: l') c = .bad (b :: l') := by rw [elementR, if_pos h]
theorem name_ok {c : Nat} {b : UInt8} {l' : List UInt8} (h : El.letter b = true) : nameR c (b :: l') = .ok ((b :: l').takeWhile El.inner) ((b :: l').dropWhile El.inner) c := if_pos h
end Xp
def XE (S : ByteArray) (g : Nat) (w : World) (r : Rs E) (e : Ending) (w' : World) : Prop := match r with
 | .ok x l' c' => ∃ va vk, e = .returned (ev x va vk) ∧ Touch (fun b => b = g) w w' ∧ Stab (fun k => k < w.heap.size) w' (fun W => RepV W x va vk) ∧ Xr S g l' c' w'
 | .bad l' => XS S g w l' e w'
def ElemC (S : ByteArray) (g n : Nat) : Prop := ∀ (d : Int) (l : List UInt8) (c : Nat) (w : World), d = 65 - (n : Int) → Xr S g l c w →
 Calls Tryz.prog 110 #[.pointer (some ⟨g, 0, none⟩), .int .i64 d] w fun e w' => XE S g w (elementR n l c) e w'
def XC (S : ByteArray) (g E0 : Nat) (nm : List UInt8) (va : Value) (w : World) (r : Rs (List E × List UInt8)) (e : Ending) (w' : World) : Prop := match r with
 | .ok x l' c' => e = .returned (.tuple #[]) ∧ ∃ A n cp, Blk w' E0 45 #[.string ⟨nm.toArray⟩, va, .slice A n cp, .string ⟨x.2.toArray⟩] ∧ x.2.length ≤ maxLen ∧
   Stab (fun k => k < w.heap.size) w' (fun W => RepE W x.1 (.slice A n cp)) ∧ Touch (fun b => b = g ∨ b = E0) w w' ∧ Xr S g l' c' w'
 | .bad l' => e = .panicked (flt (S.size - l'.length)) ∧ Touch (fun b => b = g ∨ b = E0) w w'
def ContC (S : ByteArray) (g n : Nat) : Prop := ∀ (d : Int) (nm : List UInt8) (va : Value) (E0 : Nat) (l : List UInt8) (c : Nat) (w : World), d = 64 - (n : Int) → nm.length ≤ S.size → E0 ≠ g →
 Blk w E0 45 #[.string ⟨nm.toArray⟩, va, .slice none 0 0, .string ⟨#[]⟩] → Xr S g l c w →
 Calls Tryz.prog 167 #[.pointer (some ⟨g, 0, none⟩), .pointer (some ⟨E0, 0, none⟩), .int .i64 d] w fun e w' => XC S g E0 nm va w (contentR (elementR n) nm l c) e w'
end Go.Proofs.YtnbeemkfmlfgfaaGreatDoor
namespace Go.Proofs.YtnbeemkfmlfgfaaGreatDoor
open Go.RowKit
open Xp (Rs Sfx white expectR nameR attrR attrsR contentR elementR attrsA elemK)
open El (E Attrs)
attribute [local go_sem] stillV stillUpon
theorem stab_low {g B : Nat} {w : World} {as_ : Attrs} {v : Value} (h : GrowA B w as_ v) (hg : g < B) : Stab (fun b => b = g) w fun W => RepA W as_ v := h.stab.mono fun i _ hi => by subst hi; exact hg
theorem xelem_low (S : ByteArray) (g : Nat) : ElemC S g 0 := by
 intro d l c w hd h;have HX := hid h;have hd1 : decide ((64 : Int) < d) = true := dT (by omega);have hd2 : (64 : Int) < d := by omega
 have HF0 := hid ((Touch.refl (fun _ => False) w).alloc (.cells #[.string ⟨#[]⟩, .slice none 0 0, .slice none 0 0, .string ⟨#[]⟩] 45));have HX0 := hid (HX.out.fresh HF0.out);clear h hd;cases l with
 | nil =>
  have HFIN := hid (show elementR 0 [] c = .bad [] by rw [elementR]);go_enter Tryz.func110, Tryz.ntmps110;go_wp2_with fail
  refine (xpeek_end S g c _ HX0.out).mono ?_;rintro _ w1 ⟨rfl, ht⟩;refine ⟨rfl, (?_ : XE S g w (elementR 0 [] c) _ _)⟩;rw [HFIN.out];exact ⟨rfl, (HF0.out.mono fun _ h => h.elim).trans ht⟩
 | cons b l' =>
  have HFIN := hid (show elementR 0 (b :: l') c = .bad (b :: l') by rw [elementR]);cases hb : El.letter b with
  | false =>
   go_enter Tryz.func110, Tryz.ntmps110;go_wp2_with fail
   refine (xpeek_byte S g c b l' _ HX0.out).mono ?_;rintro _ w1 ⟨rfl, hf⟩;have HX1 := hid (HX0.out.fresh hf);have HF1 := hid (HF0.out.trans hf);clear hf;go_wp2_with fail
   refine (xletter_byte b _).mono ?_;rintro _ w2 ⟨rfl, hw⟩;subst hw;go_wp2_with fail
   refine (xstop_any S g (b :: l') c _ HX1.out).mono ?_;rintro _ w3 ⟨rfl, rfl⟩;refine ⟨rfl, (?_ : XE S g w (elementR 0 (b :: l') c) _ _)⟩;rw [HFIN.out];exact ⟨rfl, HF1.out.mono fun _ h => h.elim⟩
  | true =>
   by_cases hc : 3000 ≤ c
   all_goals
    go_enter Tryz.func110, Tryz.ntmps110;go_wp2_with fail
    refine (xpeek_byte S g c b l' _ HX0.out).mono ?_;rintro _ w1 ⟨rfl, hf⟩;have HX1 := hid (HX0.out.fresh hf);have HF1 := hid (HF0.out.trans hf);obtain ⟨q0, q1, q2, f0, f1, f2, hg⟩ := blk3 HX1.out.blk;clear hf;go_wp2_with fail
    refine (xletter_byte b _).mono ?_;rintro _ w2 ⟨rfl, hw⟩;subst hw
    first
     | (have hc2 : decide ((3000 : Int) ≤ (c : Int)) = true := dT (by omega); clear hc; go_wp2_with fail)
     | (have hc2 : decide ((3000 : Int) ≤ (c : Int)) = false := dF (by omega); clear hc; go_wp2_with fail)
    refine (xstop_any S g (b :: l') c _ HX1.out).mono ?_;rintro _ w3 ⟨rfl, rfl⟩;refine ⟨rfl, (?_ : XE S g w (elementR 0 (b :: l') c) _ _)⟩;rw [HFIN.out];exact ⟨rfl, HF1.out.mono fun _ h => h.elim⟩
theorem xelem_done {S : ByteArray} {g c2 : Nat} {nm t l : List UInt8} {as_ : Attrs} {ks : List E} {w w7 : World} {va vk : Value} (_hR : Blk w7 w.heap.size 45 #[.string ⟨#[]⟩, .slice none 0 0, .slice none 0 0, .string ⟨#[]⟩]) (ht : Touch (fun b => b = g) w w7) (hx : Xr S g l c2 w7)
  (hva : Stab (fun k => k < w.heap.size + 1) w7 fun W => RepA W as_ va) (hvk : Stab (fun k => k < w.heap.size + 1) w7 fun W => RepE W ks vk) (hnl : nm.length ≤ maxLen) (htl : t.length ≤ maxLen) (hg : g < w.heap.size) :
  XE S g w (.ok (.mk nm as_ ks t) l c2) (.returned (.agg #[.string ⟨nm.toArray⟩, va, vk, .string ⟨t.toArray⟩])) (put4 w7 w.heap.size (.string ⟨nm.toArray⟩) va vk (.string ⟨t.toArray⟩)) := by
 have ht4 := (Touch.refl (fun k => k = w.heap.size) w7).put4 (g := w.heap.size) (.inl rfl) (.string ⟨nm.toArray⟩) va vk (.string ⟨t.toArray⟩);refine ⟨va, vk, rfl, ht.put4 (.inr (Nat.le_refl _)) _ _ _ _, ?_, hx.move ht4 (by omega)⟩;refine ((hva.and hvk).step ht4 (fun i _ hi => ?_) fun i _ hi => ?_).imp fun W h => ⟨h.1, h.2, hnl, htl⟩
 ·show i < w.heap.size + 1; omega
 ·show i < w.heap.size + 1; omega
theorem xelem_step (S : ByteArray) (g n : Nat) (hS : S.size ≤ 1099511627776) (hn : n < 64) (hcont : ContC S g n) : ElemC S g (n + 1) := by
 intro d l c w hd h;have HX := hid h;have HC := hid hcont;have hd1 : decide ((64 : Int) < d) = false := dF (by omega);have hd2 : ¬ (64 : Int) < d := by omega
 have HD := hid (show d = 64 - (n : Int) by omega);have hg0 := h.lt;have HF0 := hid ((Touch.refl (fun _ => False) w).alloc (.cells #[.string ⟨#[]⟩, .slice none 0 0, .slice none 0 0, .string ⟨#[]⟩] 45));have HR0 := hid (Blk.new w 45 #[.string ⟨#[]⟩, .slice none 0 0, .slice none 0 0, .string ⟨#[]⟩]);have HX0 := hid (HX.out.fresh HF0.out);clear h hd hcont hn;cases l with
 | nil =>
  have HFIN := hid (show elementR (n + 1) [] c = .bad [] by rw [elementR]);go_enter Tryz.func110, Tryz.ntmps110;go_wp2_with fail
  refine (xpeek_end S g c _ HX0.out).mono ?_;rintro _ w1 ⟨rfl, ht⟩;refine ⟨rfl, (?_ : XE S g w (elementR (n + 1) [] c) _ _)⟩;rw [HFIN.out];exact ⟨rfl, (HF0.out.mono fun _ h => h.elim).trans ht⟩
 | cons b l' =>
  cases hb : El.letter b with
  | false =>
   have HFIN := hid (show elementR (n + 1) (b :: l') c = .bad (b :: l') from Xp.elem_bad (.inl hb));go_enter Tryz.func110, Tryz.ntmps110;go_wp2_with fail
   refine (xpeek_byte S g c b l' _ HX0.out).mono ?_;rintro _ w1 ⟨rfl, hf⟩;have HX1 := hid (HX0.out.fresh hf);have HF1 := hid (HF0.out.trans hf);clear hf;go_wp2_with fail
   refine (xletter_byte b _).mono ?_;rintro _ w2 ⟨rfl, hw⟩;subst hw;go_wp2_with fail
   refine (xstop_any S g (b :: l') c _ HX1.out).mono ?_;rintro _ w3 ⟨rfl, rfl⟩;refine ⟨rfl, (?_ : XE S g w (elementR (n + 1) (b :: l') c) _ _)⟩;rw [HFIN.out];exact ⟨rfl, HF1.out.mono fun _ h => h.elim⟩
  | true =>
   by_cases hc : 3000 ≤ c
   ·have HFIN := hid (show elementR (n + 1) (b :: l') c = .bad (b :: l') from Xp.elem_bad (.inr hc))
    have hc2 : decide ((3000 : Int) ≤ (c : Int)) = true := dT (by omega);clear hc;go_enter Tryz.func110, Tryz.ntmps110;go_wp2_with fail
    refine (xpeek_byte S g c b l' _ HX0.out).mono ?_;rintro _ w1 ⟨rfl, hf⟩;have HX1 := hid (HX0.out.fresh hf);have HF1 := hid (HF0.out.trans hf);obtain ⟨q0, q1, q2, f0, f1, f2, hg⟩ := blk3 HX1.out.blk;clear hf;go_wp2_with fail
    refine (xletter_byte b _).mono ?_;rintro _ w2 ⟨rfl, hw⟩;subst hw;go_wp2_with fail
    refine (xstop_any S g (b :: l') c _ HX1.out).mono ?_;rintro _ w3 ⟨rfl, rfl⟩;refine ⟨rfl, (?_ : XE S g w (elementR (n + 1) (b :: l') c) _ _)⟩;rw [HFIN.out];exact ⟨rfl, HF1.out.mono fun _ h => h.elim⟩
   ·have HEQ := hid (Xp.elem_ok (n := n) (c := c) (l' := l') hb (by omega))
    have HNM := hid (Xp.name_ok (c := c + 1) (l' := l') hb);have hc2 : decide ((3000 : Int) ≤ (c : Int)) = false := dF (by omega);have hwc : IntKind.i64.wrap ((c : Int) + 1) = (c : Int) + 1 := IntWalk.i64_in _ (by omega);clear hc;go_enter Tryz.func110, Tryz.ntmps110;go_wp2_with fail
    refine (xpeek_byte S g c b l' _ HX0.out).mono ?_;rintro _ w1 ⟨rfl, hf⟩;have HX1 := hid (HX0.out.fresh hf);have HF1 := hid (HF0.out.trans hf);have HR1 := hid (hf.blk HR0.out fun h => h);obtain ⟨q0, q1, q2, f0, f1, f2, hg⟩ := blk3 HX1.out.blk;clear hf HX HX0 HF0 HR0;go_wp2_with fail
    refine (xletter_byte b _).mono ?_;rintro _ w2 ⟨rfl, hw⟩;subst hw;go_wp2_with fail
    have HX2 := hid (show Xr S g (b :: l') (c + 1) (w2.setCell ⟨g, 2, none⟩ (.int .i64 ((c : Int) + 1))) from ⟨HX1.out.blk.put 2 _, HX1.out.sfx⟩);have HT2 := hid (show Touch (fun b => b = g) w (w2.setCell ⟨g, 2, none⟩ (.int .i64 ((c : Int) + 1))) from Touch.setCell (p := ⟨g, 2, none⟩) (show Touch (fun b => b = g) w w2 from HF1.out.mono fun _ h => h.elim) (.inl rfl) _);have HR2 := hid (HR1.out.far (p := ⟨g, 2, none⟩) (by show _ ≠ g; omega) (.int .i64 ((c : Int) + 1)));generalize (w2.setCell ⟨g, 2, none⟩ (.int .i64 ((c : Int) + 1))) = w2b at HX2 HT2 HR2 ⊢;clear q0 q1 q2 f0 f1 f2 hg HX1 HF1 HR1 hwc hc2;refine (xname23_any S g (c + 1) (b :: l') _ hS HX2.out).mono ?_;intro e w3 he;have HNL := hid (nameR_len HNM.out);rw [HNM.out] at he;obtain ⟨rfl, ht, hx⟩ := he;have HX3 := hid hx;have HT3 := hid (HT2.out.trans ht);have HR3 := hid (ht.blk HR2.out fun h => by omega);have HLS := hid HX2.out.len;clear ht hx hb HX2 HT2 HR2 HNM;generalize (b :: l').takeWhile El.inner = nm at *;generalize (b :: l').dropWhile El.inner = l1 at *;obtain ⟨E0, hE0⟩ : ∃ b, b = w3.heap.size := ⟨_, rfl⟩;have HE0 := hid hE0;have hE1 : w.heap.size < E0 := by have := HR3.out.lt; omega
    clear hE0;go_wp2_with fail
    rw [← HE0.out]
    refine forget_world (fun W => Touch (fun b => b = g) w W ∧ Xr S g l1 (c + 1) W ∧ Blk W w.heap.size 45 #[.string ⟨#[]⟩, .slice none 0 0, .slice none 0 0, .string ⟨#[]⟩] ∧ Blk W E0 45 #[.string ⟨nm.toArray⟩, .slice none 0 0, .slice none 0 0, .string ⟨#[]⟩] ∧ E0 + 1 ≤ W.heap.size)
     ⟨HT3.out.alloc _, HX3.out.fresh ((Touch.refl _ _).alloc _), HR3.out.alloc _, by rw [HE0.out]; exact Blk.new _ _ _, by rw [HE0.out]; simp⟩ ?_
    rintro W1 ⟨ht1, hx1, hr1, he1, hs1⟩;have HT1 := hid ht1;have HX1 := hid hx1;have HR1 := hid hr1;have HB1 := hid he1;have HG1 := hid (GrowA.nil (w := W1) hs1);clear ht1 hx1 hr1 he1 hs1 HT3 HX3 HR3 HE0
    go_loopw [] (fun wr => ∃ (as_ : Attrs) (l1 : List UInt8) (A : Option Addr) (n1 cp : Nat), Hid (as_.length = n1) ∧ n1 ≤ 8 ∧ Hid (elementR (n + 1) (b :: l') c = elemK n nm (c + 1) (attrsA (c + 1) as_ l1)) ∧ Hid (Blk wr E0 45 #[.string ⟨nm.toArray⟩, .slice A n1 cp, .slice none 0 0, .string ⟨#[]⟩]) ∧
     Hid (GrowA (E0 + 1) wr as_ (.slice A n1 cp)) ∧ Hid (Touch (fun b => b = g) w wr) ∧ Hid (Xr S g l1 (c + 1) wr) ∧ Hid (Blk wr w.heap.size 45 #[.string ⟨#[]⟩, .slice none 0 0, .slice none 0 0, .string ⟨#[]⟩])) (fun wr => S.size - posOf g wr)
    case atStart => exact ⟨[], l1, none, 0, 0, hid rfl, Nat.zero_le _, HEQ, HB1, HG1, HT1, HX1, HR1⟩
    case round =>
     clear HEQ HB1 HG1 HT1 HX1 HR1;obtain ⟨as_, l1, A, n1, cp, HNA, hn1, HEQ, HB, HG, HT, HX, HR⟩ := hrel;rename_i wr _;have HP := hid (posOf_at HX.out);have HN8 := hid (show as_.length ≤ 8 by rw [HNA.out]; exact hn1);have hsz := HT.out.size;have hEl := HB.out.lt;have hEg : E0 ≠ g := by omega
     cases hd : l1.dropWhile white with
     | nil =>
      have HFIN := hid (show elementR (n + 1) (b :: l') c = .bad [] by rw [HEQ.out, Xp.attrsA_nil HN8.out hd]; rfl);have HD2 := hid hd;clear hd;go_wp2_with fail
      refine (xspace_any S g (c + 1) l1 _ hS HX.out).mono ?_;rintro _ w4 ⟨rfl, ht, hx⟩;rw [HD2.out] at hx ⊢;have HX4 := hid hx;have HT4 := hid (HT.out.trans ht);clear ht hx;generalize decide (([] : List UInt8).length < l1.length) = z;go_wp2_with fail
      refine (xpeek_end S g (c + 1) _ HX4.out).mono ?_;rintro _ w5 ⟨rfl, ht5⟩;refine ⟨rfl, (?_ : XE S g w (elementR (n + 1) (b :: l') c) _ _)⟩;rw [HFIN.out];exact ⟨rfl, HT4.out.trans ht5⟩
     | cons b2 l2 =>
      have HD2 := hid hd;have HL2 := hid (show (b2 :: l2).length ≤ l1.length by rw [← hd]; exact (Sfx.len (Xp.Sfx.dropWhile white l1)));clear hd;go_wp2_with fail
      refine (xspace_any S g (c + 1) l1 _ hS HX.out).mono ?_;rintro _ w4 ⟨rfl, ht, hx⟩;rw [HD2.out] at hx ⊢;have HX4 := hid hx;have HT4 := hid (HT.out.trans ht);have HR4 := hid (ht.blk HR.out fun h => by omega);have HB4 := hid (ht.blk HB.out fun h => by omega);have HG4 := hid (HG.out.mv ht fun k hk _ => by omega);clear ht hx;obtain ⟨z, hz⟩ : ∃ z, decide ((b2 :: l2).length < l1.length) = z := ⟨_, rfl⟩;rw [hz];have HZ := hid hz;clear hz;go_wp2_with fail
      refine (xpeek_byte S g (c + 1) b2 l2 _ HX4.out).mono ?_;rintro _ w5 ⟨rfl, hf⟩;have HX5 := hid (HX4.out.fresh hf);have HT5 := hid (HT4.out.trans (hf.mono fun _ h => h.elim));have HR5 := hid (hf.blk HR4.out fun h => h);have HB5 := hid (hf.blk HB4.out fun h => h);have HG5 := hid (HG4.out.fresh hf);clear hf HX4 HT4 HR4 HB4 HG4 HX HT HR HB HG
      by_cases h47 : b2 = 47
      ·have hb47 : ((b2.toNat : Int) == (47 : Int)) = true := by rw [h47]; rfl
       have HD47 := hid (show l1.dropWhile white = 47 :: l2 by rw [HD2.out, h47]);clear h47;obtain ⟨q0, q1, q2, f0, f1, f2, hg⟩ := blk3 HX5.out.blk;have hle := HX5.out.len;have hw : IntKind.i64.wrap (((S.size - (b2 :: l2).length : Nat) : Int) + 1) = ((S.size - (b2 :: l2).length : Nat) : Int) + 1 := IntWalk.i64_in _ (by omega);have HX6 := hid HX5.out.adv;have HT6 := hid (HT5.out.setCell (p := ⟨g, 1, none⟩) (.inl rfl) (.int .i64 (((S.size - (b2 :: l2).length : Nat) : Int) + 1)));have HR6 := hid (HR5.out.far (p := ⟨g, 1, none⟩) (by show _ ≠ g; omega) (.int .i64 (((S.size - (b2 :: l2).length : Nat) : Int) + 1)));have HB6 := hid (HB5.out.far (p := ⟨g, 1, none⟩) (by show _ ≠ g; omega) (.int .i64 (((S.size - (b2 :: l2).length : Nat) : Int) + 1)));have HG6 := hid (HG5.out.mv ((Touch.refl (fun b => b = g) w5).setCell (p := ⟨g, 1, none⟩) (.inl rfl) (.int .i64 (((S.size - (b2 :: l2).length : Nat) : Int) + 1))) fun k hk _ => by omega);generalize S.size - (b2 :: l2).length = k at *;go_wp2_with fail
       generalize (w5.setCell ⟨g, 1, none⟩ (.int .i64 ((k : Int) + 1))) = w6 at HX6 HT6 HR6 HB6 HG6 ⊢;clear q0 q1 q2 f0 f1 f2 hg hle hw HX5 HT5 HR5 HB5 HG5;have HE62 := hid (show Calls Tryz.prog 109 #[.pointer (some ⟨g, 0, none⟩), .int .u8 62] w6 fun e w' => XU S g w6 (expectR 62 (c + 1) l2) e w' from xexpect_any S g (c + 1) 62 l2 w6 hS HX6.out);refine HE62.out.mono ?_;intro e w7 he;cases hr : expectR 62 (c + 1) l2 with
       | bad l3 =>
        have HFIN := hid (show elementR (n + 1) (b :: l') c = .bad l3 by rw [HEQ.out, Xp.attrsA_sl_bad HN8.out HD47.out hr]; rfl);rw [hr] at he;obtain ⟨rfl, ht⟩ := he;refine ⟨rfl, (?_ : XE S g w (elementR (n + 1) (b :: l') c) _ _)⟩;rw [HFIN.out];exact ⟨rfl, HT6.out.trans ht⟩
       | ok u l3 c3 =>
        have hc3 := expectR_cnt hr;subst hc3;have HFIN := hid (show elementR (n + 1) (b :: l') c = .ok (.mk nm as_ [] []) l3 (c + 1) by rw [HEQ.out, Xp.attrsA_sl_ok HN8.out HD47.out hr]; rfl);rw [hr] at he;obtain ⟨rfl, ht, hx⟩ := he;have HX7 := hid hx;have HT7 := hid (HT6.out.trans ht);have HR7 := hid (ht.blk HR6.out fun h => by omega);have HB7 := hid (ht.blk HB6.out fun h => by omega);have HG7 := hid (HG6.out.mv ht fun k hk _ => by omega);clear ht hx hr HX6 HT6 HR6 HB6 HG6 HE62;have HDN := hid (xelem_done (c2 := c + 1) (nm := nm) (as_ := as_) (ks := []) (t := []) HR7.out HT7.out HX7.out (HG7.out.stab.mono fun i _ hi => by omega) (fun W _ => RepE.nil none 0) (by have := HNL.out.1; have := HLS.out; simp only [maxLen]; omega) (Nat.zero_le _) hg0);obtain ⟨e0, e1, e2, e3, _, _, _, _, _⟩ := Blk.four HB7.out;obtain ⟨_, _, _, _, z0, z1, z2, z3, hlz⟩ := Blk.four HR7.out;obtain ⟨t0, t1, t2, t3, _, _, _, _, _⟩ := Blk.four (HR7.out.self4 (.string ⟨nm.toArray⟩) (.slice A n1 cp) (.slice none 0 0) (.string ⟨#[]⟩));simp only [put4] at t0 t1 t2 t3;go_wp2_with fail
        refine bodyPost_ret (v := .agg #[.string ⟨nm.toArray⟩, .slice A n1 cp, .slice none 0 0, .string ⟨#[]⟩]) (by simp [results, Tryz.results110, go_sem, t0, t1, t2, t3]) rfl ?_;rw [HFIN.out];exact HDN.out
      ·by_cases h62 : b2 = 62
       ·have hb47 : ((b2.toNat : Int) == (47 : Int)) = false := by rw [show ((b2.toNat : Int) == (47 : Int)) = (b2 == 47) from beq_u8 b2 47, beq_eq_false_iff_ne]; exact h47
        have hb62 : ((b2.toNat : Int) == (62 : Int)) = true := by rw [h62]; rfl
        have HATT := hid (show attrsA (c + 1) as_ l1 = .ok (as_, false) l2 (c + 1) from Xp.attrsA_gt HN8.out (by rw [HD2.out, h62]));clear h47 h62;obtain ⟨q0, q1, q2, f0, f1, f2, hg⟩ := blk3 HX5.out.blk;have hle := HX5.out.len;have hw : IntKind.i64.wrap (((S.size - (b2 :: l2).length : Nat) : Int) + 1) = ((S.size - (b2 :: l2).length : Nat) : Int) + 1 := IntWalk.i64_in _ (by omega);have HX6 := hid HX5.out.adv;have HT6 := hid (HT5.out.setCell (p := ⟨g, 1, none⟩) (.inl rfl) (.int .i64 (((S.size - (b2 :: l2).length : Nat) : Int) + 1)));have HR6 := hid (HR5.out.far (p := ⟨g, 1, none⟩) (by show _ ≠ g; omega) (.int .i64 (((S.size - (b2 :: l2).length : Nat) : Int) + 1)));have HB6 := hid (HB5.out.far (p := ⟨g, 1, none⟩) (by show _ ≠ g; omega) (.int .i64 (((S.size - (b2 :: l2).length : Nat) : Int) + 1)));have HG6 := hid (HG5.out.mv ((Touch.refl (fun b => b = g) w5).setCell (p := ⟨g, 1, none⟩) (.inl rfl) (.int .i64 (((S.size - (b2 :: l2).length : Nat) : Int) + 1))) fun k hk _ => by omega);generalize S.size - (b2 :: l2).length = k at *;go_wp2_with fail
        generalize (w5.setCell ⟨g, 1, none⟩ (.int .i64 ((k : Int) + 1))) = w6 at HX6 HT6 HR6 HB6 HG6 ⊢;clear q0 q1 q2 f0 f1 f2 hg hle hw HX5 HT5 HR5 HB5 HG5;have HCC := hid (HC.out d nm (.slice A n1 cp) E0 l2 (c + 1) w6 HD.out (by have := HNL.out.1; have := HLS.out; omega) (by omega) HB6.out HX6.out);refine HCC.out.mono ?_;intro e w7 he;cases hr : contentR (elementR n) nm l2 (c + 1) with
        | bad l3 =>
         have HFIN := hid (show elementR (n + 1) (b :: l') c = .bad l3 by rw [HEQ.out, HATT.out, Xp.elemK_bad hr]);rw [hr] at he;obtain ⟨rfl, ht⟩ := he;refine ⟨rfl, (?_ : XE S g w (elementR (n + 1) (b :: l') c) _ _)⟩;rw [HFIN.out];exact ⟨rfl, HT6.out.trans' ht fun k hk => hk.elim .inl fun h => .inr (by omega)⟩
        | ok x l3 c3 =>
         obtain ⟨ks, tx⟩ := x;have HFIN := hid (show elementR (n + 1) (b :: l') c = .ok (.mk nm as_ ks tx) l3 c3 by rw [HEQ.out, HATT.out, Xp.elemK_ok hr]);rw [hr] at he;obtain ⟨rfl, A3, n3, cp3, hb, htl, hst, ht, hx⟩ := he;have HX7 := hid hx;have HT7 := hid (show Touch (fun b => b = g) w w7 from HT6.out.trans' ht fun k hk => hk.elim .inl fun h => .inr (by omega));have HR7 := hid (ht.blk HR6.out fun h => by omega);have HB7 := hid hb;have HG7 := hid (HG6.out.mv ht fun k hk _ => by omega);have HTL := hid htl;have hs6 := HR6.out.lt;have HST := hid (show Stab (fun k => k < w.heap.size + 1) w7 fun W => RepE W ks (.slice A3 n3 cp3) from hst.mono fun i _ hi => by omega);clear ht hx hr hb htl hst HX6 HT6 HR6 HB6 HG6 HCC;have HDN := hid (xelem_done (c2 := c3) (nm := nm) (as_ := as_) (ks := ks) (t := tx) HR7.out HT7.out HX7.out (HG7.out.stab.mono fun i _ hi => by omega) HST.out (by have := HNL.out.1; have := HLS.out; simp only [maxLen]; omega) HTL.out hg0);obtain ⟨e0, e1, e2, e3, _, _, _, _, _⟩ := Blk.four HB7.out;obtain ⟨_, _, _, _, z0, z1, z2, z3, hlz⟩ := Blk.four HR7.out;obtain ⟨t0, t1, t2, t3, _, _, _, _, _⟩ := Blk.four (HR7.out.self4 (.string ⟨nm.toArray⟩) (.slice A n1 cp) (.slice A3 n3 cp3) (.string ⟨tx.toArray⟩));simp only [put4] at t0 t1 t2 t3;simp only at e3 t3;go_wp2_with fail
         refine bodyPost_ret (v := .agg #[.string ⟨nm.toArray⟩, .slice A n1 cp, .slice A3 n3 cp3, .string ⟨tx.toArray⟩]) (by simp [results, Tryz.results110, go_sem, t0, t1, t2, t3]) rfl ?_;rw [HFIN.out];exact HDN.out
       ·have hb47 : ((b2.toNat : Int) == (47 : Int)) = false := by rw [show ((b2.toNat : Int) == (47 : Int)) = (b2 == 47) from beq_u8 b2 47, beq_eq_false_iff_ne]; exact h47
        have hb62 : ((b2.toNat : Int) == (62 : Int)) = false := by rw [show ((b2.toNat : Int) == (62 : Int)) = (b2 == 62) from beq_u8 b2 62, beq_eq_false_iff_ne]; exact h62
        have H47 := hid h47;have H62 := hid h62;clear h47 h62
        have hways : (((z = false) ∨ (z = true ∧ El.letter b2 = false) ∨ (z = true ∧ El.letter b2 = true ∧ decide ((n1 : Int) < (8 : Int)) = false)) ∧ attrsA (c + 1) as_ l1 = .bad (b2 :: l2)) ∨ (z = true ∧ El.letter b2 = true ∧ decide ((n1 : Int) < (8 : Int)) = true ∧ n1 < 8) := by
         have hz := HZ.out;cases z with
         | false => exact .inl ⟨.inl rfl, Xp.attrsA_stop HN8.out HD2.out H47.out H62.out fun h => by rw [decide_eq_false_iff_not] at hz; exact hz h.1⟩
         | true =>
          cases hl : El.letter b2 with
          | false => exact .inl ⟨.inr (.inl ⟨rfl, rfl⟩), Xp.attrsA_stop HN8.out HD2.out H47.out H62.out fun h => by rw [hl] at h; exact absurd h.2.1 (by decide)⟩
          | true =>
           by_cases h8 : n1 < 8
           ·exact .inr ⟨rfl, rfl, dT (by omega), h8⟩
           ·exact .inl ⟨.inr (.inr ⟨rfl, rfl, dF (by omega)⟩), Xp.attrsA_stop HN8.out HD2.out H47.out H62.out fun h => h8 (by rw [← HNA.out]; exact h.2.2)⟩
        have HLT8 := hid (xletter_byte b2)
        rcases hways with ⟨hz | ⟨hz, hl⟩ | ⟨hz, hl, h8⟩, hatt⟩ | ⟨hz, hl, h8, h8n⟩
        focus
         subst hz;have HFIN := hid (show elementR (n + 1) (b :: l') c = .bad (b2 :: l2) by rw [HEQ.out, hatt]; rfl);clear hatt;go_wp2_with fail
         refine (xstop_any S g (b2 :: l2) (c + 1) _ HX5.out).mono ?_;rintro _ w9 ⟨rfl, rfl⟩;refine ⟨rfl, (?_ : XE S g w (elementR (n + 1) (b :: l') c) _ _)⟩;rw [HFIN.out];exact ⟨rfl, HT5.out⟩
        focus
         subst hz;have HFIN := hid (show elementR (n + 1) (b :: l') c = .bad (b2 :: l2) by rw [HEQ.out, hatt]; rfl);clear hatt;go_wp2_with fail
         refine (xletter_byte b2 _).mono ?_;rintro _ w6 ⟨rfl, hw⟩;subst hw;go_wp2_with fail
         refine (xstop_any S g (b2 :: l2) (c + 1) _ HX5.out).mono ?_;rintro _ w9 ⟨rfl, rfl⟩;refine ⟨rfl, (?_ : XE S g w (elementR (n + 1) (b :: l') c) _ _)⟩;rw [HFIN.out];exact ⟨rfl, HT5.out⟩
        focus
         subst hz;have HFIN := hid (show elementR (n + 1) (b :: l') c = .bad (b2 :: l2) by rw [HEQ.out, hatt]; rfl);clear hatt;obtain ⟨e0, e1, e2, e3, _, _, _, _, hlb⟩ := Blk.four HB5.out;go_wp2_with fail
         refine (xletter_byte b2 _).mono ?_;rintro _ w6 ⟨rfl, hw⟩;subst hw;go_wp2_with fail
         refine (xstop_any S g (b2 :: l2) (c + 1) _ HX5.out).mono ?_;rintro _ w9 ⟨rfl, rfl⟩;refine ⟨rfl, (?_ : XE S g w (elementR (n + 1) (b :: l') c) _ _)⟩;rw [HFIN.out];exact ⟨rfl, HT5.out⟩
        focus
         subst hz;obtain ⟨e0, e1, e2, e3, y0, y1, y2, y3, hlb⟩ := Blk.four HB5.out;have HL := hid hl;go_wp2_with fail
         refine (xletter_byte b2 _).mono ?_;rintro _ w6 ⟨rfl, hw⟩;subst hw;go_wp2_with fail
         have k1 := cT (S := fun k => k = g) e1 (by omega);have HE1 := hid e1;clear e0 e1 e2 e3 hb47 hb62 hl h8
         refine wp_region_planC (fun W => ∃ x : Turned (fun k => k = g) w6, W = x.W) (Plan.of [(0, true), (1, true), (2, true), (3, true), (4, true)] (.lone 5 (.lone 6 .nil))) [0, 1, 2, 3, 4, 5, 6] 7 (Array.replicate 7 true ++ Array.replicate 3 false) (fun _ => True)
          (Plan.of [(8, true)] (.lone 9 .nil)) [8, 9] (Array.replicate 10 true) (by kernel_rfl) (fun _ _ d _ _ h => by cases d <;> exact h) (by kernel_rfl) ⟨⟨_, (Touch.refl _ _).drewN 1⟩, rfl⟩ ?_
         unfold Plan.of
         repeat (refine wpPlan_plain rfl (fun K hK => ?_); go_simp; refine hK _ ?_; clear hK K; first | done | unfold Plan.of)
         clear k1;refine wpPlan_lone rfl (fun K hK => ?_);go_wp2_with fail
         have HG6 := hid (HG5.out.fresh ((Touch.refl _ w6).drewN 1));refine (xattr_any S g (c + 1) (b2 :: l2) as_ (.slice A n1 cp) _ hS (stab_low HG6.out (by omega)) (HX5.out.fresh ((Touch.refl _ _).drewN 1))).mono ?_;intro e w7 he;cases ha : attrR as_ (c + 1) (b2 :: l2) with
         | bad l3 =>
          have HFIN := hid (show elementR (n + 1) (b :: l') c = .bad l3 by rw [HEQ.out, Xp.attrsA_bad HN8.out HD2.out H47.out H62.out ⟨of_decide_eq_true HZ.out, HL.out, by rw [HNA.out]; exact h8n⟩ ha]; rfl);rw [ha] at he;obtain ⟨rfl, ht⟩ := he;refine ⟨rfl, (?_ : XE S g w (elementR (n + 1) (b :: l') c) _ _)⟩;rw [HFIN.out];exact ⟨rfl, HT5.out.trans (((Touch.refl _ w6).drewN 1).trans ht)⟩
         | ok y l3 c3 =>
          obtain ⟨y1, y2⟩ := y;have HYL := hid (attrR_len ha);have HLT := hid (Xp.attrR_lt ha);have HEQ2 := hid (show elementR (n + 1) (b :: l') c = elemK n nm (c + 1) (attrsA (c + 1) (as_ ++ [(y1, y2)]) l3) by rw [HEQ.out, Xp.attrsA_step HN8.out HD2.out H47.out H62.out ⟨of_decide_eq_true HZ.out, HL.out, by rw [HNA.out]; exact h8n⟩ ha]);rw [ha] at he;obtain ⟨rfl, ht, hx⟩ := he;have hc3 := HYL.out.2.2;subst hc3;have HLS7 := hid HX5.out.len;have HT7 := hid (show Touch (fun b => b = g) w6 w7 from ((Touch.refl _ w6).drewN 1).trans ht);have HX7 := hid hx;clear ht hx ha;go_wp2_with fail
          refine hK _ _ ⟨⟨_, HT7.out⟩, rfl⟩ ?_;clear hK K;refine wpPlan_lone rfl (fun K hK => ?_);go_wp2_with fail
          refine hK _ _ ⟨⟨_, HT7.out.alloc _⟩, rfl⟩ ?_;clear hK K;have HBV := hid (Blk.new w7 79 #[.string ⟨y1.toArray⟩, .string ⟨y2.toArray⟩]);have HTA := hid (HT7.out.alloc (.cells #[.string ⟨y1.toArray⟩, .string ⟨y2.toArray⟩] 79));have HXA := hid (HX7.out.fresh ((Touch.refl _ w7).alloc (.cells #[.string ⟨y1.toArray⟩, .string ⟨y2.toArray⟩] 79)));generalize (w7.alloc (.cells #[.string ⟨y1.toArray⟩, .string ⟨y2.toArray⟩] 79)) = wA at HBV HTA HXA ⊢;have HGA := hid (HG5.out.mv HTA.out fun k hk _ => by omega);have HBA := hid (HTA.out.blk HB5.out fun h => by omega);have HRA := hid (HTA.out.blk HR5.out fun h => by omega);have HOW := hid HGA.out.own_lt;refine wpPlan_shut2 rfl (fun K hK => ?_)
          go_wp2_with (at_builtin; go_loud (refine wpList_append_attr rfl (.tmp 81) (.tmp 86) rfl HGA.out HNA.out (by simp [Act.eval]) (y1, y2) (by have := HYL.out; have := HLS7.out; rw [List.length_cons] at *; simp only [maxLen]; constructor <;> omega) HBV.out (by simp [Act.eval]) (by omega) ?_); intro A8 c8 w8 hg8 ht8; refine Stay.mk ?_)
          have HX8 := hid (HXA.out.move ht8 fun h => by have := (HOW.out _ h).1; omega);have HB8 := hid (ht8.blk HBA.out fun h => by have := (HOW.out _ h).1; omega);have HR8 := hid (ht8.blk HRA.out fun h => by have := (HOW.out _ h).1; omega);have HT8 := hid (show Touch (fun b => b = g) w w8 from (HT5.out.trans HTA.out).trans' ht8 fun k hk => .inr (by have := (HOW.out _ hk).1; omega));have HG8 := hid hg8;clear ht8 hg8;obtain ⟨_, _, _, _, _, q1, _, _, hlt8⟩ := Blk.four HB8.out;refine Stay.go ?_;go_wp2_with fail
          refine hK _ _ trivial ?_;clear hK K
          repeat (refine wpPlan_plain rfl (fun K hK => ?_); go_simp; refine hK _ ?_; clear hK K)
          refine wpPlan_lone rfl (fun K hK => ?_);go_wp2_with fail
          refine hK _ _ trivial ?_;clear hK K;have ht9 := (Touch.refl (fun k => k = E0) w8).setCell (p := ⟨E0, 1, none⟩) (.inl rfl) (.slice A8 (n1 + 1) c8);have HB9 := hid (show Blk (w8.setCell ⟨E0, 1, none⟩ (.slice A8 (n1 + 1) c8)) E0 45 #[.string ⟨nm.toArray⟩, .slice A8 (n1 + 1) c8, .slice none 0 0, .string ⟨#[]⟩] from HB8.out.put 1 _);have HX9 := hid (HX8.out.move ht9 (by omega));have HR9 := hid (ht9.blk HR8.out fun h => by omega);have HT9 := hid (HT8.out.trans' ht9 fun k hk => .inr (by omega));have HG9 := hid (HG8.out.mv ht9 fun k hk _ => by omega);have HM := hid (posOf_at HX9.out);clear ht9 q1 hlt8;refine wpPlan_nil ?_;go_wp2_with fail
          refine ⟨⟨as_ ++ [(y1, y2)], l3, A8, n1 + 1, c8, hid (by rw [List.length_append, HNA.out]; rfl), by omega, HEQ2, HB9, HG9, HT9, HX9, HR9⟩, ?_⟩;rw [HM.out, HP.out];have h1 := HLS7.out;have h2 := HLT.out;have h3 := HL2.out;rw [List.length_cons] at *;omega
end Go.Proofs.YtnbeemkfmlfgfaaGreatDoor
