/- The statement's own example. -/
import Derived.Test.YtilgpmpiidccjaaPrU
namespace Go.Proofs.Ytilgpmpiidccjaa
open Go.RowKit
open Tr (Nd)

set_option maxRecDepth 100000 in
theorem awk1_any (s : ByteArray) (w : World) :
    Calls Try.prog 28 #[.string s] w fun e w' => e = .returned (.agg #[.int .i64 1, .string ⟨#[]⟩, .int .i64 0, .slice (some ⟨w.heap.size + 1, 0, none⟩) 1 1]) ∧ Fresh w w' ∧ Blk w' (w.heap.size + 1) 24 #[.int .i64 3, .string s, .int .i64 0, .slice none 0 0] := by
  go_enter Try.func28, Try.ntmps28
  go_wp2_with fail
  exact bodyPost_ret (v := .agg #[.int .i64 1, .string ⟨#[]⟩, .int .i64 0, .slice (some ⟨w.heap.size + 1, 0, none⟩) 1 1]) (by simp [results, Try.results28, go_sem]) rfl ⟨rfl, ((Touch.refl _ _).alloc _).alloc _, Blk.new2 _ _ _ _⟩

/-- A row of one number. -/
def numRow (s : List UInt8) : Nd := .mk 1 [] 0 [.mk 3 s 0 []]
def fracTree : Nd := .mk 1 [] 0 [.mk 5 [] 0 [numRow [49], numRow [50]]]

theorem RepL.leaf1 {W : World} {g : Nat} {k : Int} {s : List UInt8} (h : Blk W g 24 #[.int .i64 k, .string ⟨s.toArray⟩, .int .i64 0, .slice none 0 0]) (hs : s.length ≤ maxLen) : RepL W [.mk k s 0 []] (.slice (some ⟨g, 0, none⟩) 1 1) := by
  refine RepL.row g 0 1 [.mk k s 0 []] (fun _ => .slice none 0 0) h.lt (show 1 ≤ maxLen by decide) ?_ ?_ ?_ ?_ ?_ ?_
  all_goals (intro i hi; obtain rfl : i = 0 := by simpa using hi)
  · exact hs
  · exact h.cell 0
  · exact h.cell 1
  · exact h.cell 2
  · exact h.cell 3
  · exact .nil _ _

theorem RepL.kid1 {W : World} {g : Nat} {k c : Int} {s : List UInt8} {ks : List Nd} {v : Value} (h : Blk W g 24 #[.int .i64 k, .string ⟨s.toArray⟩, .int .i64 c, v]) (hs : s.length ≤ maxLen) (hk : RepL W ks v) : RepL W [.mk k s c ks] (.slice (some ⟨g, 0, none⟩) 1 1) := by
  refine RepL.row g 0 1 [.mk k s c ks] (fun _ => v) h.lt (show 1 ≤ maxLen by decide) ?_ ?_ ?_ ?_ ?_ ?_
  all_goals (intro i hi; obtain rfl : i = 0 := by simpa using hi)
  · exact hs
  · exact h.cell 0
  · exact h.cell 1
  · exact h.cell 2
  · exact h.cell 3
  · exact hk
theorem RepL.kid2 {W : World} {g : Nat} {k c k' c' : Int} {s s' : List UInt8} {ks ks' : List Nd} {v v' : Value} (h : Blk W g 24 #[.int .i64 k, .string ⟨s.toArray⟩, .int .i64 c, v, .int .i64 k', .string ⟨s'.toArray⟩, .int .i64 c', v']) (hs : s.length ≤ maxLen) (hs' : s'.length ≤ maxLen)
    (hk : RepL W ks v) (hk' : RepL W ks' v') : RepL W [.mk k s c ks, .mk k' s' c' ks'] (.slice (some ⟨g, 0, none⟩) 2 2) := by
  refine RepL.row g 0 2 [.mk k s c ks, .mk k' s' c' ks'] (fun i => if i = 0 then v else v') h.lt (show 2 ≤ maxLen by decide) ?_ ?_ ?_ ?_ ?_ ?_
  all_goals (intro i hi; have hi2 : i < 2 := (by simpa using hi); obtain rfl | rfl : i = 0 ∨ i = 1 := by omega)
  · exact hs
  · exact hs'
  · exact h.cell 0
  · exact h.cell 4
  · exact h.cell 1
  · exact h.cell 5
  · exact h.cell 2
  · exact h.cell 6
  · exact h.cell 3
  · exact h.cell 7
  · exact hk
  · exact hk'

set_option maxRecDepth 100000 in
set_option maxHeartbeats 1000000 in
theorem awake21_any (w : World) : Calls Try.prog 8 #[] w fun e w' => e = .returned (.bool true) ∧ Fresh w w' := by
  have hS : printS fracTree = [92, 102, 114, 97, 99, 49, 32, 50] := by decide +kernel
  have hE : printE fracTree = 0 := by decide +kernel
  have HS := hid hS
  have HE := hid hE
  clear hS hE
  go_enter Try.func8, Try.ntmps8
  go_wp2_with fail
  refine (awk1_any _ _).mono ?_
  rintro _ w1 ⟨rfl, hf1, hb1⟩
  have HF1 := hid hf1
  have HB1 := hid hb1
  clear hf1 hb1
  go_wp2_with fail
  refine (awk1_any _ _).mono ?_
  rintro _ w2 ⟨rfl, hf2, hb2⟩
  have HF2 := hid (Touch.trans HF1.out hf2)
  have HB2 := hid hb2
  have HB1' := hid (hf2.blk HB1.out (fun h => h))
  clear hf2 hb2 HB1
  go_wp2_with fail
  have hp : RepL _ fracTree.kids (.slice (some ⟨w2.heap.size + 1, 0, none⟩) 1 1) := RepL.kid1 (k := 5) (s := []) (c := 0) (ks := [numRow [49], numRow [50]]) (Blk.new2 w2 _ 24 _) (by decide)
    (RepL.kid2 (k := 1) (s := []) (c := 0) (k' := 1) (s' := []) (c' := 0) (ks := [.mk 3 [49] 0 []]) (ks' := [.mk 3 [50] 0 []]) ((Blk.new w2 24 _).alloc _) (by decide) (by decide)
      (RepL.leaf1 ((HB1'.out.alloc _).alloc _) (by decide)) (RepL.leaf1 ((HB2.out.alloc _).alloc _) (by decide)))
  refine (print_any fracTree _ _ hp (by decide) (by decide)).mono ?_
  rintro _ w3 ⟨rfl, hf3⟩
  have HF3 := hid (HF2.out.trans (Touch.pre (Touch.pre hf3)))
  rw [HS.out, HE.out]
  clear hp hf3
  go_wp2_with fail
  go_ret
  exact ⟨ret_bool' _ _ (by decide), HF3.out⟩
end Go.Proofs.Ytilgpmpiidccjaa
