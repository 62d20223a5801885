/- The reference printer's name, mark, in, Script. -/
import Derived.Test.YtilgpmpiidccjaaPp10
namespace Go.Proofs.Ytilgpmpiidccjaa
open Go.RowKit
open Tr (Nd argT baseT rowT itemT)

/-- The cells of a token without a place. -/
def tokC (t : Lx.Tok) : List Value := [.int .i64 t.kind, .string ⟨t.text.toArray⟩, .int .i64 0, .int .i64 0]
/-- A goal at which the walk stands still. -/
def Stay (p : Prop) : Prop := p
theorem Stay.mk {p : Prop} (h : Stay p) : p := h
theorem Stay.go {p : Prop} (h : p) : Stay p := h
theorem tok_one (l : List Lx.Tok) : ∀ u ∈ l.flatMap tokC, u.oneCell' = true := by
  intro u hu
  obtain ⟨x, _, hx⟩ := List.mem_flatMap.1 hu
  simp only [tokC, List.mem_cons, List.not_mem_nil, or_false] at hx
  rcases hx with rfl | rfl | rfl | rfl <;> rfl
theorem own_tok1 {B i : Nat} (W : World) (t : Lx.Tok) (hi : W.heap.size = i) (hB : B ≤ W.heap.size) : (W.alloc (.cells #[.int .i64 t.kind, .string ⟨t.text.toArray⟩, .int .i64 0, .int .i64 0] 73)).ownsRow B 73 4 (.slice (some ⟨i, 0, none⟩) 1 1) [t].length ([t].flatMap tokC) := by
  subst hi
  exact ⟨rfl, .inr ⟨W.heap.size, 1, _, rfl, hB, Blk.new W _ _, Nat.le_refl _, by unfold maxLen; omega, rfl, rfl⟩⟩
theorem grown_fresh {w X W' : World} {size n : Nat} {e : TypeId} {v : Value} {xs : List Value} (hg : X.grownBy W' v.ownBlock) (ho : X.ownsRow w.heap.size e size v n xs) (hf : Fresh w X) : Fresh w W' := hf.grown hg fun g h => .inr (ho.lt g h).1
theorem grown_blk {W W' : World} {g B size n : Nat} {t e : TypeId} {cs : Array Value} {v : Value} {xs : List Value} (hb : Blk W g t cs) (ho : W.ownsRow B e size v n xs) (hg : W.grownBy W' v.ownBlock) (ht : t ≠ e) : Blk W' g t cs := by
  refine (hg.block g hb.lt fun hk => ?_).trans hb
  obtain ⟨_, cur, h2⟩ := owns_type ho hk.symm
  unfold Blk at hb
  rw [hb] at h2
  cases h2
  exact ht rfl

theorem ownCast {W : World} {B : Nat} {v : Value} {l l' : List Lx.Tok} (h : W.ownsRow B 73 4 v l.length (l.flatMap tokC)) (e : l = l') : W.ownsRow B 73 4 v l'.length (l'.flatMap tokC) := e ▸ h

/-- How a function ends that returns tokens. -/
def TokRes (w : World) (l : List Lx.Tok) (e : Ending) (w' : World) : Prop := ∃ v, e = .returned v ∧ w'.ownsRow w.heap.size 73 4 v l.length (l.flatMap tokC) ∧ Fresh w w'

theorem rmark_any (t : List UInt8) (w : World) : Calls Try.prog 127 #[.string ⟨t.toArray⟩] w fun e w' => e = .returned (.agg #[.int .i64 7, .string ⟨t.toArray⟩, .int .i64 0, .int .i64 0]) ∧ Fresh w w' := by
  go_enter Try.func127, Try.ntmps127
  go_wp2_with fail
  exact bodyPost_ret (v := .agg #[.int .i64 7, .string ⟨t.toArray⟩, .int .i64 0, .int .i64 0]) (by simp [results, Try.results127, go_sem]) rfl ⟨rfl, (Touch.refl _ _).alloc _⟩
theorem rname_any (t : List UInt8) (w : World) : Calls Try.prog 86 #[.string ⟨t.toArray⟩] w fun e w' => e = .returned (.agg #[.int .i64 4, .string ⟨t.toArray⟩, .int .i64 0, .int .i64 0]) ∧ Fresh w w' := by
  go_enter Try.func86, Try.ntmps86
  go_wp2_with fail
  exact bodyPost_ret (v := .agg #[.int .i64 4, .string ⟨t.toArray⟩, .int .i64 0, .int .i64 0]) (by simp [results, Try.results86, go_sem]) rfl ⟨rfl, (Touch.refl _ _).alloc _⟩
theorem rscript_any (n : Nd) (sl : Value) (w : World) : Calls Try.prog 147 #[nv n sl] w fun e w' => e = .returned (.bool (Tr.scripted n)) ∧ Fresh w w' := by
  cases k7 : (n.kind == 7) with
  | true =>
    go_enter Try.func147, Try.ntmps147
    go_wp2_with fail
    go_ret
    exact ⟨ret_bool' _ _ (by simp [Tr.scripted, k7]), (Touch.refl _ _).alloc _⟩
  | false =>
    cases k8 : (n.kind == 8) with
    | true =>
      go_enter Try.func147, Try.ntmps147
      go_wp2_with fail
      go_ret
      exact ⟨ret_bool' _ _ (by simp [Tr.scripted, k8]), (Touch.refl _ _).alloc _⟩
    | false =>
      go_enter Try.func147, Try.ntmps147
      go_wp2_with fail
      go_ret
      exact ⟨ret_bool' _ _ (by simp [Tr.scripted, k7, k8]), (Touch.refl _ _).alloc _⟩

set_option maxRecDepth 100000 in
set_option maxHeartbeats 2000000 in
theorem rin_any (a b : List UInt8) (l : List Lx.Tok) (v : Value) (w : World) (hv : Src w 4 v l.length (l.flatMap tokC)) (hl : l.length ≤ 100000) :
    Calls Try.prog 88 #[.string ⟨a.toArray⟩, v, .string ⟨b.toArray⟩] w (TokRes w ([⟨7, a⟩] ++ (l ++ [⟨7, b⟩]))) := by
  obtain ⟨i0, hi, hz0, hz1, hz2⟩ := info_parts infoRTok
  have HLEN := hid hl
  have HV := hid hv
  clear hv hl
  go_enter Try.func88, Try.ntmps88
  go_wp2_with fail
  refine Calls.mono (rmark_any a _) ?_
  rintro _ w1 ⟨rfl, hfw1⟩
  have HF1 := hid (show Fresh w w1 from by first | exact hfw1 | exact Touch.pre hfw1 | exact Touch.pre (Touch.pre hfw1) | exact Touch.ofN hfw1 | exact Touch.preN hfw1 | exact Touch.pre (Touch.pre (Touch.pre hfw1)))
  have hsz_w1 : w.heap.size ≤ w1.heap.size := Touch.size HF1.out
  clear hfw1
  go_wp2_with (at_builtin; refine wpList_append_src _ rfl (.tmp 10) (.tmp 11) 34 rfl w.heap.size 73 i0 _ 4 40 Try.underlying34 hi hz0 hz1 hz2 rfl (by decide) (.slice (some ⟨w1.heap.size, 0, none⟩) 1 1) ([(⟨7, a⟩ : Lx.Tok)]).length (([(⟨7, a⟩ : Lx.Tok)]).flatMap tokC) (by simp [Act.eval]) (own_tok1 _ (⟨7, a⟩ : Lx.Tok) (by simp) (by first | assumption | (simp only [World.size_alloc]; omega))) (v) (l).length ((l).flatMap tokC) (by simp [Act.eval]) (HV.out.fresh (by first | exact (Touch.refl _ _) | exact HFw1.out | exact HFw1.out.alloc _ | exact HF1.out.alloc _ | exact HF1.out)) (tok_one _) (by have := HLEN.out; unfold maxLen; (try simp at this); (try simp); omega) (by have := HLEN.out; (try simp at this); (try simp); omega) (by first | exact Nat.le_refl _ | assumption | (simp only [World.size_alloc]; omega)) ?_; intro v2 y2 o2 go2 _; refine Stay.mk ?_)
  rw [← List.length_append, ← List.flatMap_append] at o2
  have HEy2 := hid (show Fresh w y2 from grown_fresh go2 (own_tok1 _ (⟨7, a⟩ : Lx.Tok) (by simp) (by first | assumption | (simp only [World.size_alloc]; omega))) (by first | exact HF1.out | exact HF1.out.alloc _ | exact (HF1.out.alloc _).alloc _ | exact ((HF1.out.alloc _).alloc _).alloc _ | exact HF1.out.drewN _ | exact (HF1.out.alloc _).drewN _ | exact ((HF1.out.alloc _).alloc _).drewN _))
  have hsz_y2 : w.heap.size ≤ y2.heap.size := Touch.size HEy2.out
  have O2_y2 := hid o2
  clear go2 o2
  refine Stay.go ?_
  go_wp2_with fail
  refine Calls.mono (rmark_any b _) ?_
  rintro _ w2 ⟨rfl, hfw2⟩
  have HF2 := hid (show Fresh y2 w2 from by first | exact hfw2 | exact Touch.pre hfw2 | exact Touch.pre (Touch.pre hfw2) | exact Touch.ofN hfw2 | exact Touch.preN hfw2 | exact Touch.pre (Touch.pre (Touch.pre hfw2)))
  have hsz_w2 : w.heap.size ≤ w2.heap.size := Touch.size (HEy2.out.trans HF2.out)
  have O2_w2 := hid (ownsRow_touch O2_y2.out HF2.out (fun _ _ h => h))
  clear O2_y2
  clear hfw2
  go_wp2_with (at_builtin; refine wpList_append_src _ rfl (.tmp 13) (.tmp 16) 34 rfl w.heap.size 73 i0 _ 4 40 Try.underlying34 hi hz0 hz1 hz2 rfl (by decide) (v2) (([(⟨7, a⟩ : Lx.Tok)] ++ l)).length ((([(⟨7, a⟩ : Lx.Tok)] ++ l)).flatMap tokC) (by simp [Act.eval]) (World.ownsRow.alloc O2_w2.out _) (.slice (some ⟨w2.heap.size, 0, none⟩) 1 1) ([(⟨7, b⟩ : Lx.Tok)]).length (([(⟨7, b⟩ : Lx.Tok)]).flatMap tokC) (by simp [Act.eval]) (Src.of_own (own_tok1 _ (⟨7, b⟩ : Lx.Tok) (by simp) (by first | assumption | (simp only [World.size_alloc]; omega)))) (tok_one _) (by have := HLEN.out; unfold maxLen; (try simp at this); (try simp); omega) (by have := HLEN.out; (try simp at this); (try simp); omega) (by first | exact Nat.le_refl _ | assumption | (simp only [World.size_alloc]; omega)) ?_; intro v4 y4 o4 go4 _; refine Stay.mk ?_)
  rw [← List.length_append, ← List.flatMap_append] at o4
  have HEy4 := hid (show Fresh w y4 from grown_fresh go4 (World.ownsRow.alloc O2_w2.out _) (by first | exact (HEy2.out.trans HF2.out) | exact (HEy2.out.trans HF2.out).alloc _ | exact ((HEy2.out.trans HF2.out).alloc _).alloc _ | exact (((HEy2.out.trans HF2.out).alloc _).alloc _).alloc _ | exact (HEy2.out.trans HF2.out).drewN _ | exact ((HEy2.out.trans HF2.out).alloc _).drewN _ | exact (((HEy2.out.trans HF2.out).alloc _).alloc _).drewN _))
  have hsz_y4 : w.heap.size ≤ y4.heap.size := Touch.size HEy4.out
  have O4_y4 := hid o4
  clear go4 o4 O2_w2
  refine Stay.go ?_
  go_wp2_with fail
  go_ret
  exact ⟨v4, rfl, ownCast (O4_y4.out) (by first | rfl | (simp only [List.append_assoc] <;> rfl) | (simp <;> rfl)), (by first | exact HEy4.out | exact HEy4.out.alloc _ | exact (HEy4.out.alloc _).alloc _ | exact ((HEy4.out.alloc _).alloc _).alloc _ | exact HEy4.out.drewN _ | exact (HEy4.out.alloc _).drewN _ | exact ((HEy4.out.alloc _).alloc _).drewN _)⟩
end Go.Proofs.Ytilgpmpiidccjaa
