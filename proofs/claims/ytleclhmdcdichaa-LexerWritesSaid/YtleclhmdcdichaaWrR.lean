/- The statement LexerWrites: for every text and every list of bytes the law returns true, and both read as they did. No condition. -/
import Derived.Test.YtleclhmdcdichaaRow
import Derived.Test.YtleclhmdcdichaaWrE
import Derived.ChangeSlices
namespace Go.Proofs.Ytleclhmdcdichaa
open Go.ChangeShapes Go.WideShapes Go.ChangeAt Go.RowKit
open Go.ChangeMaps (open_string shut_string)

theorem open_bytes {H : Type} {enc : TypeId × Value → H} {w : World} {b0 : Nat} {hd : Bool} {v : Value} {d : DataW H} {p : List MemPlace} (hv : Value.okWide Try.prog w .any b0 35 v) (h : DataW.Trod enc Try.prog w 0 (fun _ => true) hd 35 v d p) :
    ∃ zs : List Nat, ByteRow w v zs ∧ ∀ z ∈ zs, z < 256 := by
  obtain ⟨a, len, cap, rfl⟩ := okWide_slice Try.underlying35 hv
  obtain ⟨fuel, hf⟩ := h
  rcases Go.ChangeShapes.open_ints Try.underlying35 Try.underlying5 (by kernel_rfl) hf with ⟨h1, _⟩ | ⟨ad, len', cap', zs, h1, _, hl, hm, hlen, _, hc, hw⟩
  · simp [Value.cells] at h1
    obtain ⟨rfl, rfl, rfl⟩ := h1
    exact ⟨[], ⟨none, 0, rfl, fun i hi => by simp at hi⟩, fun z hz => by cases hz⟩
  · simp [Value.cells] at h1
    obtain ⟨rfl, rfl, rfl⟩ := h1
    simp only [if_true] at hlen
    have hrange : ∀ z ∈ zs, 0 ≤ z ∧ z ≤ 255 := fun z hz => by
      have := hw z hz
      simp only [Lit.wf, Bool.and_eq_true, decide_eq_true_eq] at this
      exact this
    have hlt : (zs.take len).length = len := by rw [List.length_take]; omega
    refine ⟨(zs.take len).map Int.toNat, ⟨some ad, cap, by rw [List.length_map, hlt], fun i hi => ⟨ad, rfl, ?_, ?_⟩⟩, ?_⟩
    · rw [List.length_map, hlt] at hi
      have := block_lt_of_cell (hc i (by omega))
      unfold Addr.add at this; split at this <;> exact this
    · rw [List.length_map, hlt] at hi
      rw [hc i (by omega)]
      have hg : (zs.getD i 0) = zs[i]'(by omega) := by rw [List.getD_eq_getElem?_getD, List.getElem?_eq_getElem (by omega)]; rfl
      have hr := hrange _ (List.getElem_mem (l := zs) (n := i) (by omega))
      rw [hg]
      simp only [List.getElem_map, List.getElem_take]
      congr 2
      omega
    · intro z hz
      obtain ⟨y, hy, rfl⟩ := List.mem_map.1 hz
      have := hrange y (List.mem_of_mem_take hy)
      omega

set_option maxRecDepth 100000 in
theorem lexerWrites_lifted (os : Os) (started : os.Started) (H : Type) (enc : TypeId × Value → H) :
    ReturnsInHanded {} Try.checked os 5 .any (Rows.lexerWritesSpec.pre6 enc Try.prog Try.f5 Rows.lexerWritesRow.domain false) (Rows.lexerWritesSpec.post enc Try.prog Try.f5 false true false false) := by
  refine returnsInHanded_of_change (C := Try.checked) Try.ownKnob started (by kernel_rfl) Try.func5
    (ChangeSpec.witness6 (enc := enc) (C := Try.checked) false ⟨#[], #[.string ⟨#[]⟩, .slice none 0 0], []⟩ 8 (by kernel_rfl) (by kernel_rfl) (by kernel_rfl) (by kernel_rfl)) ?_
  intro W base args ds gs before hval0 hW hcnd _
  have hval : ∀ (j : Nat) t v, Try.f5.params[j]? = some t → args[j]? = some v → Value.okWide Try.prog W .any base t v := hval0
  have hW' := hW
  obtain ⟨p, q, hA0, hV, rfl, hfz, hnd⟩ := hW
  have hA : DataW.TrodAll enc Try.prog W 0 (fun _ => true) true Try.f5.params.toList args.toList ds p := hA0
  rw [Try.params5] at hA hval
  obtain ⟨v0, v1, d0, d1, p0, p1, rfl, rfl, rfl, h0, h1⟩ := trodAll_two hA
  obtain ⟨rfl, rfl⟩ := trodVars_none hV
  obtain ⟨s, rfl, _, _, _⟩ := open_string Try.underlying9 (hval 0 9 v0 rfl rfl) h0
  obtain ⟨zs, hz1, hz2⟩ := open_bytes (hval 1 35 v1 rfl rfl) h1
  refine (lexerWrites_any s v1 zs W hz1 hz2).mono fun e W' ⟨he, hw⟩ => ?_
  exact ⟨_, he, post_true Try.laidOut Try.underlying4 (by kernel_rfl) (by kernel_rfl) rfl rfl hW' hw⟩

theorem LexerWrites_holds : Rows.LexerWritesSaid :=
  OpenClaim.holds_of_wide 5 Try.f5 rfl rfl rfl rfl rfl rfl rfl ⟨rfl, rfl, rfl, rfl, rfl⟩ rfl rfl rfl rfl rfl (by kernel_rfl) Try.func5 (by kernel_rfl)
    (of_decide_eq_true (by kernel_rfl)) (by unfold Func.isWrapper; first | (rw [if_pos (by decide +kernel)]; kernel_rfl) | (rw [if_neg (by decide +kernel)]; exact ⟨rfl, rfl⟩))
    (fun os started H enc _ => lexerWrites_lifted os started H enc)
end Go.Proofs.Ytleclhmdcdichaa
