/- Part 22 of 35 of a proof; its texts, joined: MnA, TrK, MnB. No condition. -/
import Derived.Test.YtnbeemkfmlfgfaaGreatDoorYa21
import Derived.Test.YtnbeemkfmlfgfaaGreatDoorYa13
import Derived.Test.YtnbeemkfmlfgfaaGreatDoorYa8
import Derived.Test.YtnbeemkfmlfgfaaGreatDoorYa5
import Derived.Test.YtnbeemkfmlfgfaaGreatDoorYa2
set_option maxRecDepth 100000
set_option maxHeartbeats 1000000
namespace Go.Proofs.YtnbeemkfmlfgfaaGreatDoor
open Go.RowKit
open Tr (Nd)
open El (E Attrs leafK attrV)
theorem leafK_beq (n : List UInt8) : leafK n = if (n == ([109, 105] : List UInt8)) = true then 2 else if (n == ([109, 111] : List UInt8)) = true then 2 else if (n == ([109, 110] : List UInt8)) = true then 3 else if (n == ([109, 116, 101, 120, 116] : List UInt8)) = true then 4 else 0 := by
 unfold leafK;simp only [beq_iff_eq, El.nMi, El.nMo, El.nMn, El.nMtext];rfl
theorem leaf_any (n : List UInt8) (w : World) : Calls Tryz.prog 136 #[.string ⟨n.toArray⟩] w fun e w' => e = .returned (.int .i64 (leafK n)) ∧ w' = w := by
 go_enter Tryz.func136, Tryz.ntmps136;cases h1 : (n == ([109, 105] : List UInt8)) with
 | false =>
  have h1s : ((⟨n.toArray⟩ : ByteArray) == (⟨#[109, 105]⟩ : ByteArray)) = false := by rw [str_eq']; exact h1
  have h1t : ((⟨n.toArray⟩ : ByteArray) != (⟨#[109, 105]⟩ : ByteArray)) = true := by rw [bne, h1s]; rfl
  have h1l : (ByteArray.toList (⟨n.toArray⟩ : ByteArray) == [109, 105]) = false := by rw [ByteArray.toList_eq]; exact h1
  cases h2 : (n == ([109, 111] : List UInt8)) with
  | false =>
   have h2s : ((⟨n.toArray⟩ : ByteArray) == (⟨#[109, 111]⟩ : ByteArray)) = false := by rw [str_eq']; exact h2
   have h2t : ((⟨n.toArray⟩ : ByteArray) != (⟨#[109, 111]⟩ : ByteArray)) = true := by rw [bne, h2s]; rfl
   have h2l : (ByteArray.toList (⟨n.toArray⟩ : ByteArray) == [109, 111]) = false := by rw [ByteArray.toList_eq]; exact h2
   cases h3 : (n == ([109, 110] : List UInt8)) with
   | false =>
    have h3s : ((⟨n.toArray⟩ : ByteArray) == (⟨#[109, 110]⟩ : ByteArray)) = false := by rw [str_eq']; exact h3
    have h3t : ((⟨n.toArray⟩ : ByteArray) != (⟨#[109, 110]⟩ : ByteArray)) = true := by rw [bne, h3s]; rfl
    have h3l : (ByteArray.toList (⟨n.toArray⟩ : ByteArray) == [109, 110]) = false := by rw [ByteArray.toList_eq]; exact h3
    cases h4 : (n == ([109, 116, 101, 120, 116] : List UInt8)) with
    | false =>
     have h4s : ((⟨n.toArray⟩ : ByteArray) == (⟨#[109, 116, 101, 120, 116]⟩ : ByteArray)) = false := by rw [str_eq']; exact h4
     have h4t : ((⟨n.toArray⟩ : ByteArray) != (⟨#[109, 116, 101, 120, 116]⟩ : ByteArray)) = true := by rw [bne, h4s]; rfl
     have h4l : (ByteArray.toList (⟨n.toArray⟩ : ByteArray) == [109, 116, 101, 120, 116]) = false := by rw [ByteArray.toList_eq]; exact h4
     go_wp2_with fail
     go_ret;exact ⟨show _ = Ending.returned (.int .i64 (leafK n)) from by rw [leafK_beq]; simp only [*] <;> rfl, rfl⟩
    | true =>
     have h4s : ((⟨n.toArray⟩ : ByteArray) == (⟨#[109, 116, 101, 120, 116]⟩ : ByteArray)) = true := by rw [str_eq']; exact h4
     have h4t : ((⟨n.toArray⟩ : ByteArray) != (⟨#[109, 116, 101, 120, 116]⟩ : ByteArray)) = false := by rw [bne, h4s]; rfl
     have h4l : (ByteArray.toList (⟨n.toArray⟩ : ByteArray) == [109, 116, 101, 120, 116]) = true := by rw [ByteArray.toList_eq]; exact h4
     go_wp2_with fail
     go_ret;exact ⟨show _ = Ending.returned (.int .i64 (leafK n)) from by rw [leafK_beq]; simp only [*] <;> rfl, rfl⟩
   | true =>
    have h3s : ((⟨n.toArray⟩ : ByteArray) == (⟨#[109, 110]⟩ : ByteArray)) = true := by rw [str_eq']; exact h3
    have h3t : ((⟨n.toArray⟩ : ByteArray) != (⟨#[109, 110]⟩ : ByteArray)) = false := by rw [bne, h3s]; rfl
    have h3l : (ByteArray.toList (⟨n.toArray⟩ : ByteArray) == [109, 110]) = true := by rw [ByteArray.toList_eq]; exact h3
    go_wp2_with fail
    go_ret;exact ⟨show _ = Ending.returned (.int .i64 (leafK n)) from by rw [leafK_beq]; simp only [*] <;> rfl, rfl⟩
  | true =>
   have h2s : ((⟨n.toArray⟩ : ByteArray) == (⟨#[109, 111]⟩ : ByteArray)) = true := by rw [str_eq']; exact h2
   have h2t : ((⟨n.toArray⟩ : ByteArray) != (⟨#[109, 111]⟩ : ByteArray)) = false := by rw [bne, h2s]; rfl
   have h2l : (ByteArray.toList (⟨n.toArray⟩ : ByteArray) == [109, 111]) = true := by rw [ByteArray.toList_eq]; exact h2
   go_wp2_with fail
   go_ret;exact ⟨show _ = Ending.returned (.int .i64 (leafK n)) from by rw [leafK_beq]; simp only [*] <;> rfl, rfl⟩
 | true =>
  have h1s : ((⟨n.toArray⟩ : ByteArray) == (⟨#[109, 105]⟩ : ByteArray)) = true := by rw [str_eq']; exact h1
  have h1t : ((⟨n.toArray⟩ : ByteArray) != (⟨#[109, 105]⟩ : ByteArray)) = false := by rw [bne, h1s]; rfl
  have h1l : (ByteArray.toList (⟨n.toArray⟩ : ByteArray) == [109, 105]) = true := by rw [ByteArray.toList_eq]; exact h1
  go_wp2_with fail
  go_ret;exact ⟨show _ = Ending.returned (.int .i64 (leafK n)) from by rw [leafK_beq]; simp only [*] <;> rfl, rfl⟩
theorem leaf_is (n : List UInt8) (k : Int) (h : leafK n = k) (w : World) : Calls Tryz.prog 136 #[.string ⟨n.toArray⟩] w fun e w' => e = .returned (.int .i64 k) ∧ w' = w := h ▸ leaf_any n w
theorem mletter_list (t : List UInt8) (w : World) : Calls Tryz.prog 129 #[.string ⟨t.toArray⟩] w fun e w' => e = .returned (.bool (El.lett t)) ∧ w' = w := mletter_any ⟨t.toArray⟩ w
theorem mletter_fresh (t : List UInt8) (w : World) : Calls Tryz.prog 129 #[.string ⟨t.toArray⟩] w fun e w' => e = .returned (.bool (El.lett t)) ∧ Fresh w w' :=
 (mletter_list t w).mono fun _ _ h => ⟨h.1, by rw [h.2]; exact Touch.refl _ _⟩
theorem attrV_snoc (a : Attrs) (nm : List UInt8) (j : Nat) (h : j < a.length) (hn : (a.take j).any (fun x => x.1 == nm) = false) : (a[j].1 = nm → attrV a nm = a[j].2) ∧ (a[j].1 ≠ nm → (a.take (j + 1)).any (fun x => x.1 == nm) = false) := by
 induction a generalizing j with
 | nil => simp at h
 | cons x a ih =>
  cases j with
  | zero =>
   refine ⟨fun hx => ?_, fun hx => ?_⟩
   ·rw [attrV, if_pos (by simpa using hx)]; rfl
   ·simpa using hx
  | succ j =>
   simp only [List.take_succ_cons, List.any_cons, Bool.or_eq_false_iff, List.getElem_cons_succ] at hn ⊢;have := ih j (by simpa using h) hn.2;refine ⟨fun hx => ?_, fun hx => ⟨hn.1, this.2 hx⟩⟩;rw [attrV, if_neg (by simpa using hn.1)];exact this.1 hx
theorem attrV_none (a : Attrs) (nm : List UInt8) (hn : a.any (fun x => x.1 == nm) = false) : attrV a nm = [] := by
 induction a with
 | nil => rfl
 | cons x a ih =>
  simp only [List.any_cons, Bool.or_eq_false_iff] at hn;rw [attrV, if_neg (by simpa using hn.1)];exact ih hn.2
theorem attr_any (e : E) (nm : List UInt8) (g o : Nat) (va vk : Value) (w : World) (he : ElAt w g o e va vk) : Calls Tryz.prog 138 #[.pointer (some ⟨g, o, none⟩), .string ⟨nm.toArray⟩] w fun x w' => x = .returned (.string ⟨(attrV e.attrs nm).toArray⟩) ∧ Fresh w w' := by
 obtain ⟨n, ats, ks, t⟩ := e;obtain ⟨A, ca, hva⟩ := he.2.2.2.2.2.1.slice;replace hva : va = .slice A ats.length ca := hva;subst hva;have hl1 : ats.length ≤ maxLen := by obtain ⟨_, _, _, h, _⟩ := he.2.2.2.2.2.1; exact h.1
 unfold maxLen at hl1;have HA := hid (show RepA w ats _ from he.2.2.2.2.2.1);obtain ⟨hg, _, h1, _⟩ := he;show Calls _ _ _ _ (fun x w' => x = .returned (.string ⟨(attrV ats nm).toArray⟩) ∧ Fresh w w');go_enter Tryz.func138, Tryz.ntmps138;go_wp2_with fail
 clear hg h1
 go_loopw [12] (fun i wr => ∃ j : Nat, i = .int .i64 j ∧ j ≤ ats.length ∧ Hid ((ats.take j).any (fun x => x.1 == nm) = false) ∧ Hid (Fresh w wr)) (fun i _ => ats.length - (intOf i).toNat)
 case atStart => exact ⟨0, rfl, Nat.zero_le _, by simp [Hid], Touch.refl _ _⟩
 case round =>
  obtain ⟨j, rfl, hj, HT, HF⟩ := hrel
  by_cases c1 : j < ats.length
  ·have d1 : decide ((j : Int) < (ats.length : Int)) = true := dT (by omega)
   have d1' : (j : Int) < (ats.length : Int) := by omega
   obtain ⟨g, o, rfl, hg, m0, m1, _, _⟩ := HA.out.get j c1;have e0 := HF.out.cell m0 (fun h => h);have f0 := HF.out.cell m1 (fun h => h);clear m0 m1;have HS := hid (attrV_snoc ats nm j c1 HT.out);generalize ats[j] = x at *;cases h4 : decide (x.1 = nm) with
   | true =>
    have e1 : (x.1 == nm) = true := by simpa using h4
    have HV := hid (HS.out.1 (of_decide_eq_true h4));clear h4;go_wp2_with fail
    refine bodyPost_ret (results_tmp rfl _ _ _) rfl ?_;exact ⟨by rw [HV.out]; rfl, frA HF.out⟩
   | false =>
    have e1 : (x.1 == nm) = false := by simpa using h4
    have HV := hid (HS.out.2 (of_decide_eq_false h4));clear h4;go_wp2_with fail
    go_roundw
    case rel => exact ⟨j + 1, by go_num, c1, HV, frA HF.out⟩
    case measure => simp [intOf]; omega
  ·have d1 : decide ((j : Int) < (ats.length : Int)) = false := dF (by omega)
   obtain rfl : j = ats.length := by omega
   have HV := hid (attrV_none ats nm (by have := HT.out; rwa [List.take_length] at this));go_wp2_with fail
   go_ret;exact ⟨by rw [HV.out]; rfl, HF.out⟩
theorem nodeValidItems_any (ks : List Nd) (A : Option Addr) (cap : Nat) (w : World) (hr : RepL w ks (.slice A ks.length cap)) :
  Calls Tryz.prog 183 #[.slice A ks.length cap] w fun e w' => e = .returned (.bool (Tr.valid (.mk 1 [] 0 ks))) ∧ Fresh w w' := by
 have HR := hid hr;clear hr;go_enter Tryz.func183, Tryz.ntmps183;go_wp2_with fail
 refine (valid_all (.mk 1 [] 0 ks) _ _ HR.out (Nat.zero_le _)).mono ?_;rintro _ w2 ⟨rfl, hf2⟩;have HF2 := hid hf2;clear hf2;go_wp2_with fail
 go_ret;exact ⟨rfl, HF2.out⟩
end Go.Proofs.YtnbeemkfmlfgfaaGreatDoor
namespace Go.Proofs.YtnbeemkfmlfgfaaGreatDoor
open Go.RowKit
open Tr (Nd)
theorem RepL.leaf1 {W : World} {g : Nat} {k : Int} {s : List UInt8} (h : Blk W g 31 #[.int .i64 k, .string ⟨s.toArray⟩, .int .i64 0, .slice none 0 0]) (hs : s.length ≤ maxLen) : RepL W [.mk k s 0 []] (.slice (some ⟨g, 0, none⟩) 1 1) := by
 refine RepL.row g 0 1 [.mk k s 0 []] (fun _ => .slice none 0 0) h.lt (show 1 ≤ maxLen by decide) ?_ ?_ ?_ ?_ ?_ ?_
 all_goals (intro i hi; obtain rfl : i = 0 := by simpa using hi)
 ·exact hs
 ·exact h.cell 0
 ·exact h.cell 1
 ·exact h.cell 2
 ·exact h.cell 3
 ·exact .nil _ _
theorem RepL.kid1 {W : World} {g : Nat} {k c : Int} {s : List UInt8} {ks : List Nd} {v : Value} (h : Blk W g 31 #[.int .i64 k, .string ⟨s.toArray⟩, .int .i64 c, v]) (hs : s.length ≤ maxLen) (hk : RepL W ks v) : RepL W [.mk k s c ks] (.slice (some ⟨g, 0, none⟩) 1 1) := by
 refine RepL.row g 0 1 [.mk k s c ks] (fun _ => v) h.lt (show 1 ≤ maxLen by decide) ?_ ?_ ?_ ?_ ?_ ?_
 all_goals (intro i hi; obtain rfl : i = 0 := by simpa using hi)
 ·exact hs
 ·exact h.cell 0
 ·exact h.cell 1
 ·exact h.cell 2
 ·exact h.cell 3
 ·exact hk
theorem RepL.kid2 {W : World} {g : Nat} {k c k' c' : Int} {s s' : List UInt8} {ks ks' : List Nd} {v v' : Value} (h : Blk W g 31 #[.int .i64 k, .string ⟨s.toArray⟩, .int .i64 c, v, .int .i64 k', .string ⟨s'.toArray⟩, .int .i64 c', v']) (hs : s.length ≤ maxLen) (hs' : s'.length ≤ maxLen)
  (hk : RepL W ks v) (hk' : RepL W ks' v') : RepL W [.mk k s c ks, .mk k' s' c' ks'] (.slice (some ⟨g, 0, none⟩) 2 2) := by
 refine RepL.row g 0 2 [.mk k s c ks, .mk k' s' c' ks'] (fun i => if i = 0 then v else v') h.lt (show 2 ≤ maxLen by decide) ?_ ?_ ?_ ?_ ?_ ?_
 all_goals (intro i hi; have hi2 : i < 2 := (by simpa using hi); obtain rfl | rfl : i = 0 ∨ i = 1 := by omega)
 ·exact hs
 ·exact hs'
 ·exact h.cell 0
 ·exact h.cell 4
 ·exact h.cell 1
 ·exact h.cell 5
 ·exact h.cell 2
 ·exact h.cell 6
 ·exact h.cell 3
 ·exact h.cell 7
 ·exact hk
 ·exact hk'
end Go.Proofs.YtnbeemkfmlfgfaaGreatDoor
namespace Go.Proofs.YtnbeemkfmlfgfaaGreatDoor
open Go.RowKit
open Tr (Nd)
open El (E Attrs leafK attrV rowNil validI)
theorem repl_snoc (j : Nat) : List.replicate j rowNil ++ [rowNil] = List.replicate (j + 1) rowNil := by
 rw [List.replicate_succ']
theorem mvalid_any (k : Int) (t : List UInt8) (s : Nat) (hs : s ≤ 8) (ht : t.length ≤ maxLen) (w : World) : Calls Tryz.prog 137 #[.int .i64 k, .string ⟨t.toArray⟩, .int .i64 (s : Int)] w fun e w' => e = .returned (.bool (validI k t s)) ∧ Fresh w w' := by
 have HT := hid ht;clear ht;go_enter Tryz.func137, Tryz.ntmps137;go_wp2_with fail
 have HB0 := hid (Blk.new w 31 #[.int .i64 k, .string ⟨t.toArray⟩, .int .i64 0, .slice none 0 0]);have HF0 := hid ((Touch.refl (fun _ => False) w).alloc (.cells #[.int .i64 k, .string ⟨t.toArray⟩, .int .i64 0, .slice none 0 0] 31));have HG0 := hid (GrowN.nil (B := w.heap.size + 1) (w := w.alloc (.cells #[.int .i64 k, .string ⟨t.toArray⟩, .int .i64 0, .slice none 0 0] 31)) (by simp));generalize (w.alloc (.cells #[.int .i64 k, .string ⟨t.toArray⟩, .int .i64 0, .slice none 0 0] 31)) = W1 at *
 go_loopw [12] (fun i wr => ∃ (j : Nat) (A : Option Addr) (c : Nat), i = .int .i64 j ∧ j ≤ s ∧ Hid (Blk wr w.heap.size 31 #[.int .i64 k, .string ⟨t.toArray⟩, .int .i64 0, .slice A j c]) ∧ Hid (GrowN (w.heap.size + 1) wr (List.replicate j rowNil) (.slice A j c)) ∧ Hid (Fresh w wr)) (fun i _ => s - (intOf i).toNat)
 case atStart => exact ⟨0, none, 0, rfl, Nat.zero_le _, HB0, HG0, HF0⟩
 case round =>
  obtain ⟨j, A, c, rfl, hj, HB, HG, HF⟩ := hrel;rename_i wr _
  by_cases c1 : j < s
  ·have d1 : decide ((j : Int) < (s : Int)) = true := dT (by omega)
   have d1n : decide (j < s) = true := dT c1;have d1' : (j : Int) < (s : Int) := by omega
   obtain ⟨q0, q1, q2, q3, z0, z1, z2, z3, hlt⟩ := Blk.four HB.out;have HOW := hid HG.out.own_lt;have HLN := hid (show (List.replicate j rowNil).length = j from List.length_replicate);have HBV := hid (Blk.new wr 31 #[.int .i64 1, .string ⟨#[]⟩, .int .i64 0, .slice none 0 0]);have HF5 := hid ((Touch.refl (fun _ => False) wr).alloc (.cells #[.int .i64 1, .string ⟨#[]⟩, .int .i64 0, .slice none 0 0] 31));have HSZ := hid HG.out.1
   go_wp2_with (at_builtin; go_loud (refine wpList_append_node rfl (.tmp 15) (.tmp 17) rfl (HG.out.fresh HF5.out) HLN.out (by simp [Act.eval]) rowNil HBV.out (by simp [Act.eval]) wr.heap.size HSZ.out (fun k hk => (HOW.out k hk).2) (Nat.zero_le _) (fun W _ => RepL.nil _ _) (by omega) ?_); intro A8 c8 w8 hg8 ht8 _; refine Stay.mk ?_)
   have HG8 := hid (show GrowN (w.heap.size + 1) w8 (List.replicate (j + 1) rowNil) (.slice A8 (j + 1) c8) by rw [← repl_snoc]; exact hg8);have HB8 := hid (ht8.blk (HF5.out.blk HB.out fun h => h) fun h => by have := (HOW.out _ h).1; omega);have HF8 := hid (show Fresh w w8 from (HF.out.trans HF5.out).trans' ht8 fun k hk => .inr (by have := (HOW.out _ hk).1; omega));clear hg8 ht8 q0 q1 q2 q3 z0 z1 z2 z3 hlt;obtain ⟨q0, q1, q2, q3, z0, z1, z2, z3, hlt⟩ := Blk.four HB8.out;refine Stay.go ?_;go_wp2_with fail
   go_roundw
   case rel => exact ⟨j + 1, A8, c8, by go_num, c1, hid (HB8.out.put 3 _), hid (HG8.out.mv ((Touch.refl (fun k => k = w.heap.size) w8).setCell (p := ⟨w.heap.size, 3, none⟩) (.inl rfl) (.slice A8 (j + 1) c8)) (fun k hk _ => by omega)), hid (HF8.out.setCell (p := ⟨w.heap.size, 3, none⟩) (.inr (Nat.le_refl _)) _)⟩
   case measure => simp [intOf]; omega
  ·have d1 : decide ((j : Int) < (s : Int)) = false := dF (by omega)
   have d1n : decide (j < s) = false := dF c1;obtain rfl : j = s := by omega
   obtain ⟨q0, q1, q2, q3, z0, z1, z2, z3, hlt⟩ := Blk.four HB.out;go_wp2_with fail
   have hr := RepL.kid1 (k := k) (c := 0) (s := t) (ks := List.replicate j rowNil) (Blk.new wr 31 #[.int .i64 k, .string ⟨t.toArray⟩, .int .i64 0, .slice A j c]) HT.out (HG.out.rep.fresh ((Touch.refl _ wr).alloc _));refine (nodeValidItems_any [.mk k t 0 (List.replicate j rowNil)] _ _ _ hr).mono ?_;rintro _ w3 ⟨rfl, hf3⟩;have HF3 := hid (HF.out.trans (Touch.pre hf3));clear hf3 hr;go_wp2_with fail
   go_ret;exact ⟨rfl, HF3.out⟩
end Go.Proofs.YtnbeemkfmlfgfaaGreatDoor
