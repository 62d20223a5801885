/- The walks of from and of the reference's Same. -/
import Derived.Test.YtleclhmdcdichaaSpG
import Derived.Test.YtleclhmdcdichaaSpC
import Derived.Test.YtleclhmdcdichaaWrO
namespace Go.Proofs.Ytleclhmdcdichaa
open Go.RowKit

/-- A slice whose elements are these tokens. -/
def TokRow (W : World) (v : Value) (ts : List Lx.PTok) : Prop :=
  ∃ A cap, v = .slice A ts.length cap ∧ ∀ i (hi : i < ts.length), ∃ g o, A = some ⟨g, o, none⟩ ∧ g < W.heap.size ∧
    W.cell? ⟨g, o + i * 4, none⟩ = some (.int .i64 ts[i].kind) ∧ W.cell? ⟨g, o + i * 4 + 1, none⟩ = some (.string ⟨ts[i].text.toArray⟩) ∧ W.cell? ⟨g, o + i * 4 + 2, none⟩ = some (.int .i64 ts[i].from_) ∧ W.cell? ⟨g, o + i * 4 + 3, none⟩ = some (.int .i64 ts[i].to_)

theorem TokRow.fresh {W W' : World} {v : Value} {ts : List Lx.PTok} (h : TokRow W v ts) (hf : Fresh W W') : TokRow W' v ts := by
  obtain ⟨A, cap, hv, hc⟩ := h
  refine ⟨A, cap, hv, fun i hi => ?_⟩
  obtain ⟨g, o, h1, h2, h3, h4, h5, h6⟩ := hc i hi
  exact ⟨g, o, h1, Nat.lt_of_lt_of_le h2 hf.size, hf.cell h3 (fun h => h), hf.cell h4 (fun h => h), hf.cell h5 (fun h => h), hf.cell h6 (fun h => h)⟩

theorem owns_cells {W : World} {B e : Nat} {v : Value} {ts : List Lx.PTok} (h : W.ownsRow B e 4 v ts.length (ts.flatMap ptokCells)) (i : Nat) (hi : i < ts.length) :
    ∃ g cap, v = .slice (some ⟨g, 0, none⟩) ts.length cap ∧ B ≤ g ∧ g < W.heap.size ∧ ∀ j u, (ptokCells ts[i])[j]? = some u → W.cell? ⟨g, 4 * i + j, none⟩ = some u := by
  rcases h.2 with ⟨_, h0⟩ | ⟨g, cap, cur, hv, hB, r⟩
  · omega
  · subst hv
    refine ⟨g, cap, rfl, hB, (h.lt g rfl).2, fun j u hu => ?_⟩
    have hcl := h.cells (g := g) rfl (4 * i + j) u ?_
    · rw [Addr.add_mid, Nat.zero_add] at hcl; exact hcl
    · have hj : j < 4 := by have := (List.getElem?_eq_some_iff.1 hu).1; simpa [ptokCells] using this
      clear h r
      induction ts generalizing i with
      | nil => simp at hi
      | cons x l ih =>
        cases i with
        | zero => rw [List.flatMap_cons, List.getElem?_append_left (by simp [ptokCells]; omega)]; simpa using hu
        | succ i =>
          rw [List.flatMap_cons, List.getElem?_append_right (by simp [ptokCells]; omega)]
          have := ih i (by simpa using hi) (by simpa using hu)
          rw [← this]; congr 1; simp [ptokCells]; omega

theorem owns_row {W : World} {B e : Nat} {v : Value} {ts : List Lx.PTok} (h : W.ownsRow B e 4 v ts.length (ts.flatMap ptokCells)) : TokRow W v ts := by
  obtain ⟨A, cap, hv⟩ : ∃ A cap, v = .slice A ts.length cap := by
    rcases h.2 with ⟨h1, h2⟩ | ⟨g, cap, cur, h1, _⟩
    · exact ⟨none, 0, by rw [h1, h2]⟩
    · exact ⟨_, _, h1⟩
  refine ⟨A, cap, hv, fun i hi => ?_⟩
  obtain ⟨g, cap', h1, h2, h3, h4⟩ := owns_cells h i hi
  rw [hv] at h1
  cases h1
  refine ⟨g, 0, rfl, h3, ?_⟩
  rw [Nat.zero_add, Nat.mul_comm i 4]
  exact ⟨h4 0 _ rfl, h4 1 _ rfl, h4 2 _ rfl, h4 3 _ rfl⟩

theorem TokRow.nil (W : World) : TokRow W (.slice none 0 0) [] := ⟨none, 0, rfl, fun i hi => by simp at hi⟩

theorem infoRTok : (Try.prog.info? 31).map (fun i => (i.zero, i.size, i.bytes)) = some (some (.agg #[.int .i64 0, .string ⟨#[]⟩, .int .i64 0, .int .i64 0]), 4, 40) := by kernel_rfl

set_option maxHeartbeats 1000000 in
theorem from18_any (v : Value) (ts : List Lx.PTok) (w : World) (hv : TokRow w v ts) (hm : ts.length ≤ 1000000) :
    Calls Try.prog 15 #[v] w fun e w' => ∃ v', e = .returned v' ∧ Fresh w w' ∧ w'.ownsRow w.heap.size 31 4 v' ts.length (ts.flatMap ptokCells) := by
  obtain ⟨i0, hi, hz0, hz1, hz2⟩ := info_parts infoRTok
  obtain ⟨A, cap, rfl, hc⟩ := hv
  have HC := hid hc
  clear hc
  go_enter Try.func15, Try.ntmps15
  go_wp2_with fail
  go_loopw [3, 8] (fun x i wr => ∃ (k : Nat) , i = .int .i64 k ∧ k ≤ ts.length ∧ Hid (wr.ownsRow w.heap.size 31 4 x k ((ts.take k).flatMap ptokCells)) ∧ Hid (Fresh w wr)) (fun _ i _ => ts.length - (intOf i).toNat)
  case atStart => exact ⟨0, rfl, Nat.zero_le _, World.ownsRow_nil _ _ _ _, Touch.refl _ _⟩
  case round =>
    obtain ⟨k, rfl, hk, HO, HF⟩ := hrel
    by_cases c1 : k < ts.length
    · have d1 : decide ((k : Int) < (ts.length : Int)) = true := by simp; omega
      obtain ⟨g, o, rfl, hg, h0, h1, h2, h3⟩ := HC.out k c1
      have q0 := HF.out.cell h0 (fun h => h)
      have q1 := HF.out.cell h1 (fun h => h)
      have q2 := HF.out.cell h2 (fun h => h)
      have q3 := HF.out.cell h3 (fun h => h)
      clear h0 h1 h2 h3
      have htk : (ts.take (k + 1)).flatMap ptokCells = (ts.take k).flatMap ptokCells ++ ptokCells ts[k] := by
        rw [List.take_add_one, List.getElem?_eq_getElem c1, List.flatMap_append]; simp
      have HTK := hid htk
      clear htk
      generalize ts[k] = tk at *
      have d1' : (k : Int) < (ts.length : Int) := by omega
      go_wp2_with (at_builtin; refine wpList_append_own _ rfl _ _ 38 rfl w.heap.size 31 i0 _ 4 40 Try.underlying38 hi hz0 hz1 hz2 rfl (by decide) _ _ _ rfl ((HO.out.alloc _).alloc _) ⟨wr.heap.size + 1, 0, none⟩ 1 1 (ptokCells tk) rfl rfl ?c1 ?c2 ?c3 ?c4 ?c5 ?_)
      case c1 => exact news_of_blk (cs := (ptokCells tk).toArray) (Blk.new2 wr _ 31 _)
      case c2 => intro u hu; simp only [ptokCells, List.mem_cons, List.not_mem_nil, or_false] at hu; rcases hu with rfl | rfl | rfl | rfl <;> rfl
      case c3 => unfold maxLen; omega
      case c4 => omega
      case c5 => have := HF.out.size; simp; omega
      intro v2 w2 hown2 hgrow2 _
      have hf2 : Fresh w w2 := HF.out.trans' (((Touch.refl (fun k => u3.ownBlock = some k) wr).alloc _ |>.alloc _).grown hgrow2 (fun g hg => .inl hg)) (fun k hk => .inr (HO.out.lt k hk).1)
      have HO2 := hid (show w2.ownsRow w.heap.size 31 4 v2 (k + 1) ((ts.take (k + 1)).flatMap ptokCells) by rw [HTK.out]; exact hown2)
      have HF2 := hid hf2
      clear hown2 hgrow2 hf2 q0 q1 q2 q3
      go_wp2_with fail
      go_roundw
      case rel => exact ⟨k + 1, by go_num, c1, HO2, HF2⟩
      case measure => simp [intOf]; omega
    · have d1 : decide ((k : Int) < (ts.length : Int)) = false := by simp; omega
      obtain rfl : k = ts.length := by omega
      go_wp2_with fail
      go_ret
      refine ⟨_, rfl, HF.out, ?_⟩
      have := HO.out
      rw [List.take_length] at this
      exact this
end Go.Proofs.Ytleclhmdcdichaa
