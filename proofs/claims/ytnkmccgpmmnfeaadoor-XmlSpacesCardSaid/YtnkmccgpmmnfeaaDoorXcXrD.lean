/- XmlSpaces: white space around a document, and between the kids of its element, changes nothing. The row, its tied card. -/
import Derived.Test.YtnkmccgpmmnfeaaDoorXa15
import Derived.Test.YtnkmccgpmmnfeaaDoorXcXsC
import Derived.Test.YtnkmccgpmmnfeaaDoorXcXtB
import Derived.Test.YtnkmccgpmmnfeaaDoorXcMoV
import Derived.Test.YtnkmccgpmmnfeaaDoorXa2
import Derived.Test.YtnkmccgpmmnfeaaDoorTie
import Derived.Test.YtnkmccgpmmnfeaaDoorCards
import Derived.ProofKit
import Derived.OpenShut
import Derived.ChangeSlices
import Derived.LaidMore
import Derived.Lay
import Derived.SevenTiedAt
import Derived.Stop.Joined
namespace Go.Proofs.YtnkmccgpmmnfeaaDoor
open Go.ChangeShapes Go.WideShapes Go.ChangeAt Go.RowKit
open Xp (white bodyG kidsW parseX documentR document_read)
open El (E Attrs escL attrW attrsW writeE writeL)

/-- A slice whose elements are these bytes. -/
def ByteRow (W : World) (v : Value) (zs : List Nat) : Prop :=
  ∃ A cap, v = .slice A zs.length cap ∧ ∀ i (hi : i < zs.length), ∃ a : Addr, A = some a ∧ a.block < W.heap.size ∧ W.cell? (a.add i) = some (.int .u8 zs[i])
set_option maxRecDepth 100000 in
theorem open_bytes {H : Type} {enc : TypeId × Value → H} {w : World} {b0 : Nat} {hd : Bool} {v : Value} {d : DataW H} {p : List MemPlace} (hv : Value.okWide Tryd.prog w .any b0 31 v) (h : DataW.Trod enc Tryd.prog w 0 (fun _ => true) hd 31 v d p) :
    ∃ zs : List Nat, ByteRow w v zs ∧ ∀ z ∈ zs, z < 256 := by
  obtain ⟨a, len, cap, rfl⟩ := okWide_slice Tryd.underlying31 hv
  obtain ⟨fuel, hf⟩ := h
  rcases Go.ChangeShapes.open_ints Tryd.underlying31 Tryd.underlying5 (by kernel_rfl) hf with ⟨h1, _⟩ | ⟨ad, len', cap', zs, h1, _, hl, hm, hlen, _, hc, hw⟩
  · simp [Value.cells] at h1
    obtain ⟨rfl, rfl, rfl⟩ := h1
    exact ⟨[], ⟨none, 0, rfl, fun i hi => by simp at hi⟩, fun z hz => by cases hz⟩
  · simp [Value.cells] at h1
    obtain ⟨rfl, rfl, rfl⟩ := h1
    simp only [if_true] at hlen
    have hrange : ∀ z ∈ zs, 0 ≤ z ∧ z ≤ 255 := fun z hz => by
      have := hw z hz
      simp only [Lit.wf, Bool.and_eq_true, decide_eq_true_eq] at this
      exact this
    have hlt : (zs.take len).length = len := by rw [List.length_take]; omega
    refine ⟨(zs.take len).map Int.toNat, ⟨some ad, cap, by rw [List.length_map, hlt], fun i hi => ⟨ad, rfl, ?_, ?_⟩⟩, ?_⟩
    · rw [List.length_map, hlt] at hi
      have := bL (hc i (by omega))
      unfold Addr.add at this; split at this <;> exact this
    · rw [List.length_map, hlt] at hi
      rw [hc i (by omega)]
      have hg : (zs.getD i 0) = zs[i]'(by omega) := by rw [List.getD_eq_getElem?_getD, List.getElem?_eq_getElem (by omega)]; rfl
      have hr := hrange _ (List.getElem_mem (l := zs) (n := i) (by omega))
      rw [hg]
      simp only [List.getElem_map, List.getElem_take]
      congr 2
      omega
    · intro z hz
      obtain ⟨y, hy, rfl⟩ := List.mem_map.1 hz
      have := hrange y (List.mem_of_mem_take hy)
      omega


namespace El
theorem attrs_small : ∀ a : Attrs, a.all (fun x => decide (x.1.length ≤ 400) && decide (x.2.length ≤ 400)) = true → (attrsW a).length ≤ a.length * 2804
  | [], _ => Nat.zero_le _
  | x :: a, h => by
    rw [List.all_cons, Bool.and_eq_true, Bool.and_eq_true, decide_eq_true_eq, decide_eq_true_eq] at h
    have h1 := attrs_small a h.2
    have h2 := escL_len x.2
    have h3 : (attrW x).length = 1 + x.1.length + 2 + (escL x.2).length + 1 := by unfold attrW; simp; omega
    have h4 : (attrsW (x :: a)).length = (attrW x).length + (attrsW a).length := by unfold attrsW; rw [List.flatMap_cons, List.length_append]
    rw [h4, h3, List.length_cons]
    omega
theorem write_small (n : Nat) : ∀ e : E, count e ≤ n → small e = true → (writeE e).length ≤ 60000 * count e := by
  induction n with
  | zero => intro e h; have := count_pos e; omega
  | succ n ih =>
    intro e hc h
    obtain ⟨nm, a, ks, t⟩ := e
    rw [small, Bool.and_eq_true] at h
    have ho := h.1
    unfold smallOwn at ho
    simp only [Bool.and_eq_true, decide_eq_true_eq] at ho
    obtain ⟨⟨⟨h1, h2⟩, h3⟩, h4⟩ := ho
    have h5 := attrs_small a h4
    have h6 := escL_len t
    have hk : ∀ l : List E, countL l ≤ n → smallL l = true → (writeL l).length ≤ 60000 * countL l := by
      intro l
      induction l with
      | nil => intro _ _; rw [writeL]; exact Nat.zero_le _
      | cons x l ihl =>
        intro hl hs
        rw [smallL, Bool.and_eq_true] at hs
        rw [countL] at hl
        have g1 := ih x (by omega) hs.1
        have g2 := ihl (by omega) hs.2
        rw [writeL, countL, List.length_append]
        omega
    rw [count] at hc ⊢
    have h7 := hk ks (by omega) h.2
    rw [writeE]
    split
    · simp only [List.length_append, List.length_cons, List.length_nil]
      omega
    · simp only [List.length_append, List.length_cons, List.length_nil]
      omega
end El
def gapB (z : Nat) : UInt8 := match z % 4 with
  | 0 => 32
  | 1 => 9
  | 2 => 10
  | _ => 13
def gapL (zs : List Nat) : List UInt8 := zs.map gapB
theorem gap_white (zs : List Nat) : (gapL zs).all white = true := by
  unfold gapL
  rw [List.all_map, List.all_eq_true]
  intro z _
  show white (gapB z) = true
  unfold gapB
  split <;> rfl
theorem gap_cell (W : World) (z : Nat) : (W.alloc (.cells #[.string ⟨#[32]⟩, .string ⟨#[9]⟩, .string ⟨#[10]⟩, .string ⟨#[13]⟩] 9)).cell? ⟨W.heap.size, z % 4, none⟩ = some (.string ⟨#[gapB z]⟩) := by
  rw [(Blk.new W 9 _).cell]
  have h : z % 4 < 4 := Nat.mod_lt _ (by decide)
  unfold gapB
  generalize z % 4 = r at *
  match r, h with
  | 0, _ => rfl
  | 1, _ => rfl
  | 2, _ => rfl
  | 3, _ => rfl
/-- The text of an element with white space between its kids, as the law makes it. -/
def kidsG (gap : List UInt8) (ks : List E) : List UInt8 := ks.flatMap fun k => gap ++ writeE k
theorem kidsG_snoc (gap : List UInt8) (ks : List E) (j : Nat) (h : j < ks.length) : kidsG gap (ks.take (j + 1)) = kidsG gap (ks.take j) ++ (gap ++ writeE ks[j]) := by
  unfold kidsG
  rw [List.take_add_one, List.getElem?_eq_getElem h, List.flatMap_append]; simp
theorem kidsW_G (gap : List UInt8) : ∀ ks : List E, kidsW gap ks = kidsG gap ks ++ gap
  | [] => rfl
  | k :: ks => by rw [kidsW, kidsW_G gap ks]; unfold kidsG; rw [List.flatMap_cons, List.append_assoc, List.append_assoc, List.append_assoc]
theorem kidsG_len (gap : List UInt8) : ∀ ks : List E, (kidsG gap ks).length = ks.length * gap.length + (writeL ks).length
  | [] => by rw [writeL]; simp [kidsG]
  | k :: ks => by
    have h := kidsG_len gap ks
    unfold kidsG at h ⊢
    rw [List.flatMap_cons, List.length_append, h, writeL, List.length_append, List.length_append, List.length_cons, Nat.add_mul, Nat.one_mul]
    omega
/-- What the law lays between the spaces: an element without kids. -/
theorem spaces_leaf (e : E) (gap : List UInt8) (h : El.ownOK e = true) (hk : e.kids = []) : writeE e = 60 :: bodyG gap e := by
  rw [Xp.write_body e h]
  unfold bodyG
  rw [hk]
  rfl
theorem spaces_kids (e : E) (gap : List UInt8) (hk : e.kids ≠ []) : 60 :: bodyG gap e = (60 :: e.name ++ attrsW e.attrs ++ [62]) ++ kidsG gap e.kids ++ gap ++ [60, 47] ++ e.name ++ gap ++ [62] := by
  unfold bodyG
  have : e.kids.isEmpty = false := by
    cases h : e.kids with
    | nil => exact absurd h hk
    | cons x l => rfl
  rw [this, kidsW_G]
  simp
attribute [local go_sem] stillV stillUpon
set_option maxRecDepth 100000 in
set_option maxHeartbeats 6000000 in
theorem xmlSpaces_any (a : E) (va vk : Value) (v : Value) (zs : List Nat) (w : World) (hra : RepV w a va vk) (hv : ByteRow w v zs) (hz : ∀ z ∈ zs, z < 256) : Calls Tryd.prog 4 #[ev a va vk, v] w fun e w' => e = .returned (.bool true) ∧ Fresh w w' := by
  have HRA := hid hra
  obtain ⟨A0, c0, hva⟩ := hra.1.slice
  obtain ⟨B0, d0, hvk⟩ := hra.2.1.slice
  obtain ⟨Z, zc, rfl, hc⟩ := hv
  have HZC := hid hc
  have HZ := hid hz
  clear hra hc hz
  have HW := hid (fun (W : World) (h : Fresh w W) => rfew23_small a 60 va vk W (by decide) (by decide) (HRA.out.fresh h))
  have HVL := hid (fun (hc : El.count a ≤ 1000000) (W : World) (h : Fresh w W) => rValid23_any a va vk W (HRA.out.fresh h) hc)
  have HPR := hid (fun (hc : (writeE a).length ≤ 8000000) (W : World) (h : Fresh w W) => rprint_any a va vk W (HRA.out.fresh h) hc)
  subst hva hvk
  unfold ev at *
  have HB1 := hid (Blk.new w 26 #[.string ⟨a.name.toArray⟩, .slice A0 a.attrs.length c0, .slice B0 a.kids.length d0, .string ⟨a.text.toArray⟩])
  have HF0 := hid (show Fresh w (w.alloc (.cells #[.string ⟨a.name.toArray⟩, .slice A0 a.attrs.length c0, .slice B0 a.kids.length d0, .string ⟨a.text.toArray⟩] 26)) from (Touch.refl _ w).alloc _)
  go_enter Tryd.func4, Tryd.ntmps4
  go_wp2_with fail
  generalize (w.alloc (.cells #[.string ⟨a.name.toArray⟩, .slice A0 a.attrs.length c0, .slice B0 a.kids.length d0, .string ⟨a.text.toArray⟩] 26)) = w0 at HB1 HF0 ⊢
  refine (awake23_any _).mono ?_
  rintro _ w1 ⟨rfl, hf1⟩
  have HF1 := hid (HF0.out.trans hf1)
  have HX1 := hid (hf1.blk HB1.out fun h => h)
  clear hf1 HB1 HF0
  obtain ⟨p0, p1, p2, p3, _⟩ := Blk.four HX1.out
  go_wp2_with fail
  refine (HW.out _ HF1.out).mono ?_
  rintro _ w2 ⟨fa, rfl, hf2, hfa⟩
  have HF2 := hid (HF1.out.trans hf2)
  have HX2 := hid (hf2.blk HX1.out fun h => h)
  clear hf2 HX1 p0 p1 p2 p3
  cases fa with
  | false =>
    go_wp2_with fail
    go_ret
    exact ⟨rfl, HF2.out⟩
  | true =>
  have HCA := hid (show El.count a ≤ 60 by have := (hfa rfl).1; omega)
  have HWL := hid (show (writeE a).length ≤ 3600000 by have h1 := El.write_small _ a (Nat.le_refl _) (hfa rfl).2; have := (hfa rfl).1; omega)
  clear hfa
  by_cases c1 : 20 < zs.length
  · have b1 : decide ((20 : Int) < (zs.length : Int)) = true := dT (by omega)
    have b1n : decide (20 < zs.length) = true := dT c1
    go_wp2_with fail
    go_ret
    exact ⟨rfl, HF2.out⟩
  have b1 : decide ((20 : Int) < (zs.length : Int)) = false := dF (by omega)
  have b1n : decide (20 < zs.length) = false := dF c1
  obtain ⟨p0, p1, p2, p3, _⟩ := Blk.four HX2.out
  go_wp2_with fail
  refine (HVL.out (by have := HCA.out; omega) _ HF2.out).mono ?_
  rintro _ w3 ⟨rfl, hf3⟩
  have HF3 := hid (HF2.out.trans hf3)
  have HX3 := hid (hf3.blk HX2.out fun h => h)
  clear hf3 HX2 HF2 p0 p1 p2 p3
  cases hval : El.valid a with
  | false =>
    go_wp2_with fail
    go_ret
    exact ⟨rfl, HF3.out⟩
  | true =>
  have HVA := hid hval
  clear hval b1 b1n
  go_wp2_with fail
  go_loopw [5, 6] (fun o i wr0 => ∃ (wr : World) (p : List UInt8) (j : Nat), wr = wr0 ∧ o = .string ⟨p.toArray⟩ ∧ i = .int .i64 j ∧ j ≤ zs.length ∧ Hid (p = gapL (zs.take j)) ∧ Hid (Fresh w wr) ∧ Hid (Blk wr w.heap.size 26 #[.string ⟨a.name.toArray⟩, .slice A0 a.attrs.length c0, .slice B0 a.kids.length d0, .string ⟨a.text.toArray⟩])) (fun _ i _ => zs.length - (intOf i).toNat)
  case atStart => exact ⟨_, [], 0, rfl, rfl, rfl, Nat.zero_le _, hid rfl, HF3, HX3⟩
  case round =>
    clear HF3 HX3
    obtain ⟨wr, p, j, rfl, rfl, rfl, hj, HP, HF, HB⟩ := hrel
    have hpl : p.length ≤ 20 := by rw [HP.out]; unfold gapL; rw [List.length_map, List.length_take]; omega
    by_cases c2 : j < zs.length
    · have d1 : decide ((j : Int) < (zs.length : Int)) = true := dT (by omega)
      have d1n : decide (j < zs.length) = true := dT c2
      have d1' : (j : Int) < (zs.length : Int) := by omega
      obtain ⟨zad, hzad, hzl, hzc⟩ := HZC.out j c2
      have HZB := hid (HZ.out _ (List.getElem_mem c2))
      subst hzad
      have hzc2 := (HF.out.alloc (.cells #[.string ⟨#[32]⟩, .string ⟨#[9]⟩, .string ⟨#[10]⟩, .string ⟨#[13]⟩] 9)).cell hzc (fun h => h)
      have hzl2 : zad.block < wr.heap.size := Nat.lt_of_lt_of_le hzl HF.out.size
      have HT := hid (show gapL (zs.take (j + 1)) = gapL (zs.take j) ++ [gapB zs[j]] by unfold gapL; rw [List.take_add_one, List.getElem?_eq_getElem c2, List.map_append]; rfl)
      have hgc := gap_cell wr zs[j]
      clear hzc
      generalize zs[j] = z at *
      have m1 : (z : Int) % 4 < 4 := by omega
      have hzb := HZB.out
      generalize gapB z = gb at *
      obtain ⟨p1, hp1⟩ : ∃ q0_, q0_ = p ++ [gb] := ⟨_, rfl⟩
      have lp1 : p1.length = p.length + ([gb] : List UInt8).length := by rw [hp1, List.length_append]
      simp only [List.length_cons, List.length_nil] at lp1
      have ap1 : ∀ W : World, (Op.stringOp .add ⟨p.toArray⟩ ⟨#[gb]⟩).run Tryd.prog W = .ok (.string ⟨p1.toArray⟩) W := fun W => add_lists W hp1 (by omega) (by simp only [List.length_cons, List.length_nil]; omega)
      have Hp1 := hid hp1
      clear hp1
      have HP2 := hid (show p1 = gapL (zs.take (j + 1)) by rw [HT.out, Hp1.out, HP.out])
      have hjb : j ≤ 20 := by omega
      go_wp2_with fail
      go_roundw
      case rel => exact ⟨_, p1, j + 1, rfl, rfl, by go_num, c2, HP2, hid (HF.out.alloc _), hid (HB.out.alloc _)⟩
      case measure => simp [intOf]; omega
    · have d1 : decide ((j : Int) < (zs.length : Int)) = false := dF (by omega)
      have d1n : decide (j < zs.length) = false := dF c2
      have HG := hid (show p = gapL zs by rw [HP.out, List.take_of_length_le (by omega)])
      clear HP hj
      obtain ⟨p0, p1, p2, p3, _⟩ := Blk.four HB.out
      go_wp2_with fail
      refine (HPR.out (by have := HWL.out; omega) _ HF.out).mono ?_
      rintro _ w5 ⟨rfl, hf5⟩
      have HF5 := hid (HF.out.trans hf5)
      have HX5 := hid (hf5.blk HB.out fun h => h)
      clear hf5 p0 p1 p2 p3 d1 d1n HF HB
      have hwl := HWL.out
      obtain ⟨S0, hS0⟩ : ∃ S0, S0 = writeE a := ⟨_, rfl⟩
      have HS0 := hid hS0
      rw [← hS0] at hwl ⊢
      clear hS0
      obtain ⟨p0, p1, p2, p3, _⟩ := Blk.four HX5.out
      have HOW := hid (show El.ownOK a = true from Xp.own_of (by have h := HVA.out; unfold El.valid at h; simp only [Bool.and_eq_true] at h; exact h.1.1))
      by_cases hk : a.kids.length = 0
      · have e0 : decide ((0 : Int) < (a.kids.length : Int)) = false := dF (by omega)
        have e0n : decide (0 < a.kids.length) = false := dF (by omega)
        have HTXT := hid (show S0 = 60 :: bodyG p a by rw [HS0.out]; exact spaces_leaf a p HOW.out (List.length_eq_zero_iff.1 hk))
        clear hk
        obtain ⟨n1, hn1⟩ : ∃ q0_, q0_ = p ++ S0 := ⟨_, rfl⟩
        have ln1 : n1.length = p.length + (S0 : List UInt8).length := by rw [hn1, List.length_append]
        have an1 : ∀ W : World, (Op.stringOp .add ⟨p.toArray⟩ ⟨S0.toArray⟩).run Tryd.prog W = .ok (.string ⟨n1.toArray⟩) W := fun W => add_lists W hn1 (by omega) (by omega)
        obtain ⟨n2, hn2⟩ : ∃ q0_, q0_ = n1 ++ p := ⟨_, rfl⟩
        have ln2 : n2.length = n1.length + (p : List UInt8).length := by rw [hn2, List.length_append]
        have an2 : ∀ W : World, (Op.stringOp .add ⟨n1.toArray⟩ ⟨p.toArray⟩).run Tryd.prog W = .ok (.string ⟨n2.toArray⟩) W := fun W => add_lists W hn2 (by omega) (by omega)
        have Hn1 := hid hn1
        clear hn1
        have Hn2 := hid hn2
        clear hn2
        have HZZ := hid (show n2 = p ++ 60 :: (bodyG p a ++ p) by rw [Hn2.out, Hn1.out, HTXT.out]; simp)
        have HPX := hid (show parseX n2 = (a, 0, 0) by rw [HZZ.out]; exact parse_ok (document_read a p (by rw [HG.out]; exact gap_white zs) HVA.out))
        go_wp2_with fail
        refine (xparse_any ⟨n2.toArray⟩ _ (show n2.length ≤ _ by omega)).mono ?_
        rintro _ w8 ⟨ya, yk, rfl, hf8, hst8⟩
        have HF8 := hid (HF5.out.trans hf8)
        have HX8 := hid (hf8.blk HX5.out fun h => h)
        rw [show (⟨n2.toArray⟩ : ByteArray).data.toList = n2 from rfl, HPX.out] at hst8 ⊢
        have hrv := hst8.now
        obtain ⟨Y1, y1, hya⟩ := hrv.1.slice
        obtain ⟨Y2, y2, hyk⟩ := hrv.2.1.slice
        have HRY := hid hrv
        clear hf8 hst8 hrv
        subst hya hyk
        unfold ev
        simp only
        clear ln1 ln2 an1 an2 p0 p1 p2 p3 e0 e0n
        have HFY := hid (show Fresh w (w8.alloc (.cells #[.string ⟨a.name.toArray⟩, .slice Y1 a.attrs.length y1, .slice Y2 a.kids.length y2, .string ⟨a.text.toArray⟩] 26)) from HF8.out.alloc _)
        have HRY2 := hid (HRY.out.fresh ((Touch.refl _ w8).alloc (.cells #[.string ⟨a.name.toArray⟩, .slice Y1 a.attrs.length y1, .slice Y2 a.kids.length y2, .string ⟨a.text.toArray⟩] 26)))
        have HEQ := hid (show Calls Tryd.prog 11 #[.agg #[.string ⟨a.name.toArray⟩, .slice Y1 a.attrs.length y1, .slice Y2 a.kids.length y2, .string ⟨a.text.toArray⟩], .agg #[.string ⟨a.name.toArray⟩, .slice A0 a.attrs.length c0, .slice B0 a.kids.length d0, .string ⟨a.text.toArray⟩]] (w8.alloc (.cells #[.string ⟨a.name.toArray⟩, .slice Y1 a.attrs.length y1, .slice Y2 a.kids.length y2, .string ⟨a.text.toArray⟩] 26)) fun x w' => x = .returned (.bool true) ∧ Fresh (w8.alloc (.cells #[.string ⟨a.name.toArray⟩, .slice Y1 a.attrs.length y1, .slice Y2 a.kids.length y2, .string ⟨a.text.toArray⟩] 26)) w' by
          have h := xequal_any a a (.slice Y1 a.attrs.length y1) (.slice Y2 a.kids.length y2) (.slice A0 a.attrs.length c0) (.slice B0 a.kids.length d0) (w8.alloc (.cells #[.string ⟨a.name.toArray⟩, .slice Y1 a.attrs.length y1, .slice Y2 a.kids.length y2, .string ⟨a.text.toArray⟩] 26)) (by have := HCA.out; omega) HRY2.out (HRA.out.fresh HFY.out)
          rw [El.eqE_self] at h
          exact h)
        obtain ⟨x0, x1, x2, x3, _, _, _, _, hxl⟩ := Blk.four HX8.out
        go_wp2_with fail
        refine HEQ.out.mono ?_
        rintro _ w9 ⟨rfl, hf9⟩
        have HF9 := hid (HFY.out.trans hf9)
        clear hf9
        go_wp2_with fail
        go_ret
        exact ⟨rfl, HF9.out⟩
      · have e0 : decide ((0 : Int) < (a.kids.length : Int)) = true := dT (by omega)
        have e0n : decide (0 < a.kids.length) = true := dT (by omega)
        have HKN := hid (show a.kids ≠ [] from fun h => hk (by rw [h]; rfl))
        clear hk
        have HKR := hid (show RepE w a.kids _ from HRA.out.2.1)
        have HWM := hid (show writeE a = 60 :: a.name ++ attrsW a.attrs ++ (if a.text.isEmpty && a.kids.isEmpty then [47, 62] else 62 :: escL a.text ++ writeL a.kids ++ ([60, 47] ++ a.name ++ [62])) from (congrArg writeE (El.E.eta a)).trans (write_mk _ _ _ _))
        obtain ⟨hd, hhd⟩ : ∃ hd, hd = 60 :: a.name ++ attrsW a.attrs := ⟨_, rfl⟩
        have HHD := hid hhd
        have hbd : hd.length + (writeL a.kids).length + a.name.length ≤ 3600000 := by
          have h1 := HKN.out
          have h2 : a.kids.isEmpty = false := by
            cases h : a.kids with
            | nil => exact absurd h h1
            | cons x l => rfl
          have h3 := HWM.out
          rw [h2, Bool.and_false, ← hhd] at h3
          rw [HS0.out, h3] at hwl
          simp only [Bool.false_eq_true, if_false, List.length_append, List.length_cons] at hwl
          omega
        clear hhd
        obtain ⟨hh, hhh⟩ : ∃ hh, hh = hd ++ [47, 62] := ⟨_, rfl⟩
        have hhl : hh.length = hd.length + 2 := by rw [hhh, List.length_append]; rfl
        have HHH := hid hhh
        clear hhh
        have HOP := hid (fun (W : World) (h : Fresh w W) => show Calls Tryd.prog 10 #[.agg #[.string ⟨a.name.toArray⟩, .slice A0 a.attrs.length c0, .slice none 0 0, .string ⟨#[]⟩]] W fun x w' => x = .returned (.string ⟨hh.toArray⟩) ∧ Fresh W w' by
          have h1 := rprint_any (.mk a.name a.attrs [] []) (.slice A0 a.attrs.length c0) (.slice none 0 0) W ⟨HRA.out.1.fresh h, RepE.nil none 0, HRA.out.2.2.1, Nat.zero_le _⟩
          have h2 : writeE (.mk a.name a.attrs [] []) = hh := by rw [write_mk, HHH.out, HHD.out]; rfl
          rw [h2] at h1
          exact h1 (by omega))
        obtain ⟨k, hkd⟩ : ∃ k, k = hd.length := ⟨_, rfl⟩
        have HEX := hid (show (⟨hh.toArray⟩ : ByteArray).extract 0 k = ⟨hd.toArray⟩ by rw [Lib.extract_mk, hkd, HHH.out]; simp)
        have w1 : IntKind.i64.wrap ((hh.length : Int) - 2) = (k : Int) := by rw [hhl, hkd, IntWalk.i64_in _ (by omega)]; omega
        have w2 : (k : Int) ≤ (hh.length : Int) := by omega
        have w3 : (0 : Int) ≤ (k : Int) := by omega
        have w4 : k ≤ hh.length := by omega
        have hhb : hh.length ≤ 3600002 := by omega
        clear hhl hkd
        obtain ⟨g1, hg1⟩ : ∃ q0_, q0_ = hd ++ [62] := ⟨_, rfl⟩
        have lg1 : g1.length = hd.length + ([62] : List UInt8).length := by rw [hg1, List.length_append]
        simp only [List.length_cons, List.length_nil] at lg1
        have ag1 : ∀ W : World, (Op.stringOp .add ⟨hd.toArray⟩ ⟨#[62]⟩).run Tryd.prog W = .ok (.string ⟨g1.toArray⟩) W := fun W => add_lists W hg1 (by omega) (by simp only [List.length_cons, List.length_nil]; omega)
        have Hg1 := hid hg1
        clear hg1
        go_wp2_with fail
        have HFo := hid (show Fresh w (w5.alloc (.cells #[.string ⟨a.name.toArray⟩, .slice A0 a.attrs.length c0, .slice none 0 0, .string ⟨#[]⟩] 26)) from HF5.out.alloc _)
        have HXo := hid (HX5.out.alloc (.cells #[.string ⟨a.name.toArray⟩, .slice A0 a.attrs.length c0, .slice none 0 0, .string ⟨#[]⟩] 26))
        generalize (w5.alloc (.cells #[.string ⟨a.name.toArray⟩, .slice A0 a.attrs.length c0, .slice none 0 0, .string ⟨#[]⟩] 26)) = wo at HFo HXo ⊢
        refine (HOP.out _ HFo.out).mono ?_
        rintro _ w6 ⟨rfl, hf6⟩
        have HF6 := hid (HFo.out.trans hf6)
        have HX6 := hid (hf6.blk HXo.out fun h => h)
        clear hf6 HFo HXo HF5 HX5 p0 p1 p2 p3 e0 e0n
        have hx := HEX.out
        go_wp2_with fail
        clear w1 w2 w3 w4 hx ag1
        go_loopw [7, 10] (fun o i wr0 => ∃ (wr : World) (q : List UInt8) (j : Nat), wr = wr0 ∧ o = .string ⟨q.toArray⟩ ∧ i = .int .i64 j ∧ j ≤ a.kids.length ∧ Hid (q = g1 ++ kidsG p (a.kids.take j)) ∧ Hid (Fresh w wr) ∧ Hid (Blk wr w.heap.size 26 #[.string ⟨a.name.toArray⟩, .slice A0 a.attrs.length c0, .slice B0 a.kids.length d0, .string ⟨a.text.toArray⟩])) (fun _ i _ => a.kids.length - (intOf i).toNat)
        case atStart => exact ⟨_, g1, 0, rfl, rfl, rfl, Nat.zero_le _, hid (by rw [List.take_zero]; unfold kidsG; simp), HF6, HX6⟩
        case round =>
          clear HF6 HX6
          obtain ⟨wr6, q, j6, rfl, rfl, rfl, hj6, HQ, HF6, HX6⟩ := hrel
          obtain ⟨p0, p1, p2, p3, _, _, _, _, hpg⟩ := Blk.four HX6.out
          have hkl : a.kids.length ≤ 60 := by have h1 := El.countL_len a.kids; have h2 := El.count_kids a; have h3 := HCA.out; omega
          have hql : q.length ≤ 3601300 ∧ ∀ (hj : j6 < a.kids.length), (writeE a.kids[j6]).length ≤ 3600000 := by
            have h1 := kidsG_len p (a.kids.take j6)
            have h2 := El.writeL_le a.kids j6
            have h5 : (a.kids.take j6).length * p.length ≤ 60 * 20 := Nat.mul_le_mul (by rw [List.length_take]; omega) hpl
            constructor
            · rw [HQ.out, List.length_append]
              omega
            · intro hj
              have h3 := El.writeL_le a.kids (j6 + 1)
              rw [El.writeL_snoc a.kids j6 hj, List.length_append] at h3
              omega
          have HQL := hid hql.2
          have hq1 := hql.1
          clear hql
          by_cases c3 : j6 < a.kids.length
          · have d1 : decide ((j6 : Int) < (a.kids.length : Int)) = true := dT (by omega)
            have d1' : (j6 : Int) < (a.kids.length : Int) := by omega
            have d1n : decide (j6 < a.kids.length) = true := dT c3
            have hjb : j6 ≤ 60 := by omega
            obtain ⟨g, o, xa, xk, rfl, hg, m0, m1, m2, m3, hrx⟩ := HKR.out.get j6 c3
            obtain ⟨e0, e1, e2, e3⟩ := mv4 HF6.out m0 m1 m2 m3
            obtain ⟨Aa, aa, hxa⟩ := hrx.1.slice
            obtain ⟨Ak, ak, hxk⟩ := hrx.2.1.slice
            have HS := hid (kidsG_snoc p a.kids j6 c3)
            have hwx := HQL.out c3
            have HC := hid (fun (W : World) (hw : RepV W a.kids[j6] xa xk) => rprint_any a.kids[j6] xa xk W hw (by omega))
            have HX := hid (hrx.fresh HF6.out)
            clear m0 m1 m2 m3 hrx HQL
            generalize a.kids[j6] = x at *
            obtain ⟨wx, hwe⟩ : ∃ wx, wx = writeE x := ⟨_, rfl⟩
            have HWX := hid hwe
            rw [← hwe] at hwx HC
            clear hwe
            obtain ⟨xn, xat, xks, xt⟩ := x
            unfold ev at HC
            simp only [E.name, E.attrs, E.kids, E.text] at hxa hxk e0 e1 e2 e3 HC
            subst hxa hxk
            obtain ⟨q1, hq1⟩ : ∃ q0_, q0_ = q ++ p := ⟨_, rfl⟩
            have lq1 : q1.length = q.length + (p : List UInt8).length := by rw [hq1, List.length_append]
            have aq1 : ∀ W : World, (Op.stringOp .add ⟨q.toArray⟩ ⟨p.toArray⟩).run Tryd.prog W = .ok (.string ⟨q1.toArray⟩) W := fun W => add_lists W hq1 (by omega) (by omega)
            obtain ⟨q2, hq2⟩ : ∃ q0_, q0_ = q1 ++ wx := ⟨_, rfl⟩
            have lq2 : q2.length = q1.length + (wx : List UInt8).length := by rw [hq2, List.length_append]
            have aq2 : ∀ W : World, (Op.stringOp .add ⟨q1.toArray⟩ ⟨wx.toArray⟩).run Tryd.prog W = .ok (.string ⟨q2.toArray⟩) W := fun W => add_lists W hq2 (by omega) (by omega)
            have Hq1 := hid hq1
            clear hq1
            have Hq2 := hid hq2
            clear hq2
            go_wp2_with fail
            refine (HC.out _ HX.out).mono ?_
            rintro _ w7 ⟨rfl, hf7⟩
            have HF7 := hid (HF6.out.trans hf7)
            have HX7 := hid (hf7.blk HX6.out fun h => h)
            have HQ7 := hid (show q2 = g1 ++ kidsG p (a.kids.take (j6 + 1)) by rw [Hq2.out, Hq1.out, HQ.out, HS.out, HWX.out]; simp)
            clear hf7 lq1 lq2
            go_wp2_with fail
            go_roundw
            case rel => exact ⟨_, q2, j6 + 1, rfl, rfl, by go_num, c3, HQ7, HF7, HX7⟩
            case measure => simp [intOf]; omega
          · have d1 : decide ((j6 : Int) < (a.kids.length : Int)) = false := dF (by omega)
            have d1n : decide (j6 < a.kids.length) = false := dF c3
            have HQF := hid (show q = g1 ++ kidsG p a.kids by rw [HQ.out, List.take_of_length_le (by omega)])
            obtain ⟨f1, hf1⟩ : ∃ q0_, q0_ = q ++ p := ⟨_, rfl⟩
            have lf1 : f1.length = q.length + (p : List UInt8).length := by rw [hf1, List.length_append]
            have af1 : ∀ W : World, (Op.stringOp .add ⟨q.toArray⟩ ⟨p.toArray⟩).run Tryd.prog W = .ok (.string ⟨f1.toArray⟩) W := fun W => add_lists W hf1 (by omega) (by omega)
            obtain ⟨f2, hf2⟩ : ∃ q0_, q0_ = f1 ++ [60, 47] := ⟨_, rfl⟩
            have lf2 : f2.length = f1.length + ([60, 47] : List UInt8).length := by rw [hf2, List.length_append]
            simp only [List.length_cons, List.length_nil] at lf2
            have af2 : ∀ W : World, (Op.stringOp .add ⟨f1.toArray⟩ ⟨#[60, 47]⟩).run Tryd.prog W = .ok (.string ⟨f2.toArray⟩) W := fun W => add_lists W hf2 (by omega) (by simp only [List.length_cons, List.length_nil]; omega)
            obtain ⟨f3, hf3⟩ : ∃ q0_, q0_ = f2 ++ a.name := ⟨_, rfl⟩
            have lf3 : f3.length = f2.length + (a.name : List UInt8).length := by rw [hf3, List.length_append]
            have af3 : ∀ W : World, (Op.stringOp .add ⟨f2.toArray⟩ ⟨a.name.toArray⟩).run Tryd.prog W = .ok (.string ⟨f3.toArray⟩) W := fun W => add_lists W hf3 (by omega) (by omega)
            obtain ⟨f4, hf4⟩ : ∃ q0_, q0_ = f3 ++ p := ⟨_, rfl⟩
            have lf4 : f4.length = f3.length + (p : List UInt8).length := by rw [hf4, List.length_append]
            have af4 : ∀ W : World, (Op.stringOp .add ⟨f3.toArray⟩ ⟨p.toArray⟩).run Tryd.prog W = .ok (.string ⟨f4.toArray⟩) W := fun W => add_lists W hf4 (by omega) (by omega)
            obtain ⟨f5, hf5⟩ : ∃ q0_, q0_ = f4 ++ [62] := ⟨_, rfl⟩
            have lf5 : f5.length = f4.length + ([62] : List UInt8).length := by rw [hf5, List.length_append]
            simp only [List.length_cons, List.length_nil] at lf5
            have af5 : ∀ W : World, (Op.stringOp .add ⟨f4.toArray⟩ ⟨#[62]⟩).run Tryd.prog W = .ok (.string ⟨f5.toArray⟩) W := fun W => add_lists W hf5 (by omega) (by simp only [List.length_cons, List.length_nil]; omega)
            have Hf1 := hid hf1
            clear hf1
            have Hf2 := hid hf2
            clear hf2
            have Hf3 := hid hf3
            clear hf3
            have Hf4 := hid hf4
            clear hf4
            have Hf5 := hid hf5
            clear hf5
            have HTXT := hid (show f5 = 60 :: bodyG p a by
              rw [spaces_kids a p HKN.out, Hf5.out, Hf4.out, Hf3.out, Hf2.out, Hf1.out, HQF.out, Hg1.out, HHD.out])
            clear HQL
            obtain ⟨n1, hn1⟩ : ∃ q0_, q0_ = p ++ f5 := ⟨_, rfl⟩
            have ln1 : n1.length = p.length + (f5 : List UInt8).length := by rw [hn1, List.length_append]
            have an1 : ∀ W : World, (Op.stringOp .add ⟨p.toArray⟩ ⟨f5.toArray⟩).run Tryd.prog W = .ok (.string ⟨n1.toArray⟩) W := fun W => add_lists W hn1 (by omega) (by omega)
            obtain ⟨n2, hn2⟩ : ∃ q0_, q0_ = n1 ++ p := ⟨_, rfl⟩
            have ln2 : n2.length = n1.length + (p : List UInt8).length := by rw [hn2, List.length_append]
            have an2 : ∀ W : World, (Op.stringOp .add ⟨n1.toArray⟩ ⟨p.toArray⟩).run Tryd.prog W = .ok (.string ⟨n2.toArray⟩) W := fun W => add_lists W hn2 (by omega) (by omega)
            have Hn1 := hid hn1
            clear hn1
            have Hn2 := hid hn2
            clear hn2
            have HZZ := hid (show n2 = p ++ 60 :: (bodyG p a ++ p) by rw [Hn2.out, Hn1.out, HTXT.out]; simp)
            have HPX := hid (show parseX n2 = (a, 0, 0) by rw [HZZ.out]; exact parse_ok (document_read a p (by rw [HG.out]; exact gap_white zs) HVA.out))
            go_wp2_with fail
            refine (xparse_any ⟨n2.toArray⟩ _ (show n2.length ≤ _ by omega)).mono ?_
            rintro _ w8 ⟨ya, yk, rfl, hf8, hst8⟩
            have HF8 := hid (HF6.out.trans hf8)
            have HX8 := hid (hf8.blk HX6.out fun h => h)
            rw [show (⟨n2.toArray⟩ : ByteArray).data.toList = n2 from rfl, HPX.out] at hst8 ⊢
            have hrv := hst8.now
            obtain ⟨Y1, y1, hya⟩ := hrv.1.slice
            obtain ⟨Y2, y2, hyk⟩ := hrv.2.1.slice
            have HRY := hid hrv
            clear hf8 hst8 hrv
            subst hya hyk
            unfold ev
            simp only
            clear ln1 ln2 an1 an2 af1 af2 af3 af4 af5 lf1 lf2 lf3 lf4 lf5 p0 p1 p2 p3
            have HFY := hid (show Fresh w (w8.alloc (.cells #[.string ⟨a.name.toArray⟩, .slice Y1 a.attrs.length y1, .slice Y2 a.kids.length y2, .string ⟨a.text.toArray⟩] 26)) from HF8.out.alloc _)
            have HRY2 := hid (HRY.out.fresh ((Touch.refl _ w8).alloc (.cells #[.string ⟨a.name.toArray⟩, .slice Y1 a.attrs.length y1, .slice Y2 a.kids.length y2, .string ⟨a.text.toArray⟩] 26)))
            have HEQ := hid (show Calls Tryd.prog 11 #[.agg #[.string ⟨a.name.toArray⟩, .slice Y1 a.attrs.length y1, .slice Y2 a.kids.length y2, .string ⟨a.text.toArray⟩], .agg #[.string ⟨a.name.toArray⟩, .slice A0 a.attrs.length c0, .slice B0 a.kids.length d0, .string ⟨a.text.toArray⟩]] (w8.alloc (.cells #[.string ⟨a.name.toArray⟩, .slice Y1 a.attrs.length y1, .slice Y2 a.kids.length y2, .string ⟨a.text.toArray⟩] 26)) fun x w' => x = .returned (.bool true) ∧ Fresh (w8.alloc (.cells #[.string ⟨a.name.toArray⟩, .slice Y1 a.attrs.length y1, .slice Y2 a.kids.length y2, .string ⟨a.text.toArray⟩] 26)) w' by
              have h := xequal_any a a (.slice Y1 a.attrs.length y1) (.slice Y2 a.kids.length y2) (.slice A0 a.attrs.length c0) (.slice B0 a.kids.length d0) (w8.alloc (.cells #[.string ⟨a.name.toArray⟩, .slice Y1 a.attrs.length y1, .slice Y2 a.kids.length y2, .string ⟨a.text.toArray⟩] 26)) (by have := HCA.out; omega) HRY2.out (HRA.out.fresh HFY.out)
              rw [El.eqE_self] at h
              exact h)
            obtain ⟨x0, x1, x2, x3, _, _, _, _, hxl⟩ := Blk.four HX8.out
            go_wp2_with fail
            refine HEQ.out.mono ?_
            rintro _ w9 ⟨rfl, hf9⟩
            have HF9 := hid (HFY.out.trans hf9)
            clear hf9
            go_wp2_with fail
            go_ret
            exact ⟨rfl, HF9.out⟩

set_option maxRecDepth 100000 in
theorem xmlSpaces_lifted (os : Os) (started : os.Started) (H : Type) (enc : TypeId × Value → H) :
    ReturnsInHanded {} Tryd.checked os 4 .any (fun w args => (Rows.xmlSpacesSpec.pre enc Tryd.prog Tryd.f4 Rows.xmlSpacesRow.domain false w args ∧ laidMetH Tryd.prog Rows.xmlSpacesRow.laid w) ∧ sizedMet enc Tryd.prog Tryd.f4 (OpenSpec.ofChange Rows.xmlSpacesSpec) false w args)
      (Rows.xmlSpacesSpec.post enc Tryd.prog Tryd.f4 false true false false) := by
  refine returnsInHanded_of_change_and (C := Tryd.checked) (X := fun w _ => laidMetH Tryd.prog Rows.xmlSpacesRow.laid w) (fun _ _ _ hh h => h.of_heap hh) Tryd.ownKnob started (by kernel_rfl) Tryd.func4
    (ChangeSpec.witness_shaped (enc := enc) (C := Tryd.checked) (os := os) (X := fun w _ => laidMetH Tryd.prog Rows.xmlSpacesRow.laid w) false (World.laidAll Tryd.prog os Rows.xmlSpacesRow.laid) #[.agg #[.string ⟨#[]⟩, .slice none 0 0, .slice none 0 0, .string ⟨#[]⟩], .slice none 0 0] 8 (World.laidAll_os _ _ _)
      (World.shaped_of_ZipB (by kernel_rfl) (by kernel_rfl)) (by kernel_rfl) (by kernel_rfl) (by kernel_rfl)
      (by rw [MakeChecks.laidMetH_plain _ _ _ (by kernel_rfl)]; exact laidMet_laidAll _ (by kernel_rfl) (by kernel_rfl))) ?_
  intro W base args ds gs before hval0 hW _ _ _ _
  have hval : ∀ (j : Nat) t v, Tryd.f4.params[j]? = some t → args[j]? = some v → Value.okWide Tryd.prog W .any base t v := hval0
  have hW' := hW
  obtain ⟨p, q, hA0, hV, rfl, hfz, hnd⟩ := hW
  have hA : DataW.TrodAll enc Tryd.prog W 0 (fun _ => true) true Tryd.f4.params.toList args.toList ds p := hA0
  rw [Tryd.params4] at hA hval
  obtain ⟨v0, v1, d0, d1, p0, p1, rfl, rfl, rfl, h0, h1⟩ := trodAll_two hA
  obtain ⟨rfl, rfl⟩ := trodVars_none hV
  obtain ⟨n0, a0, k0, rfl, r0⟩ := open_elem (hval 0 26 v0 rfl rfl) h0
  obtain ⟨zs1, z1, y1⟩ := open_bytes (hval 1 31 v1 rfl rfl) h1
  refine (xmlSpaces_any n0 a0 k0 v1 zs1 W r0 z1 y1).mono fun e W' ⟨he, hw⟩ => ?_
  exact ⟨_, he, post_true Tryd.laidOut Tryd.underlying4 (by kernel_rfl) (by kernel_rfl) rfl rfl hW' hw⟩

theorem XmlSpaces_holds : Rows.XmlSpacesSaid :=
  OpenClaim.holds_of_wide 4 Tryd.f4 rfl rfl rfl rfl rfl rfl rfl ⟨rfl, rfl, rfl, rfl, rfl⟩ rfl rfl rfl rfl rfl (by kernel_rfl) Tryd.func4 (by kernel_rfl)
    (of_decide_eq_true (by kernel_rfl)) (by unfold Func.isWrapper; first | (rw [if_pos (by decide +kernel)]; kernel_rfl) | (rw [if_neg (by decide +kernel)]; exact ⟨rfl, rfl⟩))
    (fun os started H enc _ => xmlSpaces_lifted os started H enc)

theorem XmlSpaces_card : Rows.XmlSpacesCardSaid :=
  Claim7.holds_tied_plain_at .later [] [.data, .pinned] true _ true XmlSpaces_holds (fun _ h => by cases h) (by kernel_rfl) (fun _ h => by cases h) xmlSpaces_row_tie rfl ⟨rfl, rfl⟩ (by kernel_rfl) (by kernel_rfl)
    (fun f fn hf hfn => by
      obtain rfl : f = 4 := Option.some.inj ((show Tryd.prog.funcNamed Rows.xmlSpacesRow.func = some 4 by kernel_rfl).symm.trans hf) |>.symm
      obtain rfl : fn = Tryd.f4 := (Option.some.inj (Tryd.func4.symm.trans hfn)).symm
      exact ⟨by kernel_rfl, fun j t ht => by
        have hm := Array.mem_of_getElem? ht
        have hall : (Tryd.f4.params.toList.all fun u => !Tryd.prog.wantsStandIn u) = true := by kernel_rfl
        exact (show Tryd.prog.wantsStandIn t = false by simpa using List.all_eq_true.1 hall t (by simpa using hm))⟩)
    (by kernel_rfl)
end Go.Proofs.YtnkmccgpmmnfeaaDoor
