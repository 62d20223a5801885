/- The statement LexerSpell: for every two tokens the law returns true, and the tokens read as they did. No condition. -/
import Derived.Test.YtleclhmdcdichaaRow
import Derived.Test.YtleclhmdcdichaaSpH
namespace Go.Proofs.Ytleclhmdcdichaa
open Go.ChangeShapes Go.WideShapes Go.ChangeAt Go.RowKit
open Go.ChangeMaps (open_string shut_string)
open Go.Joins (open_agg4)

theorem open_tok {H : Type} {enc : TypeId × Value → H} {w : World} {base b0 : Nat} {sp : Nat → Bool} {hd : Bool} {v : Value} {d : DataW H} {p : List MemPlace} (hv : Value.okWide Try.prog w .any b0 31 v) (h : DataW.Trod enc Try.prog w base sp hd 31 v d p) :
    ∃ (k f to_ : Int) (s : ByteArray), v = .agg #[.int .i64 k, .string s, .int .i64 f, .int .i64 to_] := by
  obtain ⟨v0, v1, v2, v3, y0, y1, y2, y3, n, rfl, _, _, h0, h1, h2, h3⟩ := open_agg4 Try.underlying31 (by kernel_rfl) (by kernel_rfl) hv h
  obtain ⟨k, e0, _⟩ := DataW.trod_int Try.underlying3 h0
  obtain ⟨s, e1, _⟩ := DataW.trod_string Try.underlying9 h1
  obtain ⟨f, e2, _⟩ := DataW.trod_int Try.underlying3 h2
  obtain ⟨t, e3, _⟩ := DataW.trod_int Try.underlying3 h3
  simp at e0 e1 e2 e3
  subst e0 e1 e2 e3
  exact ⟨_, _, _, _, rfl⟩

set_option maxRecDepth 100000 in
theorem lexerSpell_lifted (os : Os) (started : os.Started) (H : Type) (enc : TypeId × Value → H) :
    ReturnsInHanded {} Try.checked os 4 .any (Rows.lexerSpellSpec.pre6 enc Try.prog Try.f4 Rows.lexerSpellRow.domain false) (Rows.lexerSpellSpec.post enc Try.prog Try.f4 false true false false) := by
  refine returnsInHanded_of_change (C := Try.checked) Try.ownKnob started (by kernel_rfl) Try.func4
    (ChangeSpec.witness6 (enc := enc) (C := Try.checked) false ⟨#[], #[.agg #[.int .i64 0, .string ⟨#[]⟩, .int .i64 0, .int .i64 0], .agg #[.int .i64 0, .string ⟨#[]⟩, .int .i64 0, .int .i64 0]], []⟩ 8 (by kernel_rfl) (by kernel_rfl) (by kernel_rfl) (by kernel_rfl)) ?_
  intro W base args ds gs before hval0 hW hcnd _
  have hval : ∀ (j : Nat) t v, Try.f4.params[j]? = some t → args[j]? = some v → Value.okWide Try.prog W .any base t v := hval0
  have hW' := hW
  obtain ⟨p, q, hA0, hV, rfl, hfz, hnd⟩ := hW
  have hA : DataW.TrodAll enc Try.prog W 0 (fun _ => true) true Try.f4.params.toList args.toList ds p := hA0
  rw [Try.params4] at hA hval
  obtain ⟨v0, v1, d0, d1, p0, p1, rfl, rfl, rfl, h0, h1⟩ := trodAll_two hA
  obtain ⟨rfl, rfl⟩ := trodVars_none hV
  obtain ⟨k0, f0, t0, s0, rfl⟩ := open_tok (hval 0 31 v0 rfl rfl) h0
  obtain ⟨k1, f1, t1, s1, rfl⟩ := open_tok (hval 1 31 v1 rfl rfl) h1
  refine (lexerSpell_any k0 f0 t0 k1 f1 t1 s0 s1 W).mono fun e W' ⟨he, hw⟩ => ?_
  exact ⟨_, he, post_true Try.laidOut Try.underlying4 (by kernel_rfl) (by kernel_rfl) rfl rfl hW' hw⟩

theorem LexerSpell_holds : Rows.LexerSpellSaid :=
  OpenClaim.holds_of_wide 4 Try.f4 rfl rfl rfl rfl rfl rfl rfl ⟨rfl, rfl, rfl, rfl, rfl⟩ rfl rfl rfl rfl rfl (by kernel_rfl) Try.func4 (by kernel_rfl)
    (of_decide_eq_true (by kernel_rfl)) (by unfold Func.isWrapper; first | (rw [if_pos (by decide +kernel)]; kernel_rfl) | (rw [if_neg (by decide +kernel)]; exact ⟨rfl, rfl⟩))
    (fun os started H enc _ => lexerSpell_lifted os started H enc)
end Go.Proofs.Ytleclhmdcdichaa
