/- slices.Equal on rows of attributes; stacks of pointers to elements. -/
import Derived.Test.YtnkmccgpmmnfeaaDoorXcEqE
import Derived.Test.YtnkmccgpmmnfeaaDoorXa7
namespace Go.Proofs.YtnkmccgpmmnfeaaDoor
open Go.RowKit
open El (E Attrs)

set_option maxRecDepth 100000 in
set_option maxHeartbeats 2000000 in
theorem slEqual_any (a1 a2 : Attrs) (va ub : Value) (w : World) (hA1 : RepA w a1 va) (hA2 : RepA w a2 ub) : Calls Tryd.prog 22 #[va, ub] w fun e w' => e = .returned (.bool (a1 == a2)) ∧ Fresh w w' := by
  have hl1 : a1.length ≤ maxLen := by obtain ⟨_, _, _, h, _⟩ := hA1; exact h.1
  unfold maxLen at hl1
  obtain ⟨A, ca, rfl⟩ := hA1.slice
  obtain ⟨B, cb, rfl⟩ := hA2.slice
  have HA1 := hid hA1
  have HA2 := hid hA2
  clear hA1 hA2
  have HG := hid guardAttr
  cases h3 : decide (a1.length = a2.length) with
  | false =>
    have e3 := int_dec a1.length a2.length _ h3
    have HD := hid (of_decide_eq_false h3)
    clear h3
    go_enter Tryd.func22, Tryd.ntmps22
    go_wp2_with fail
    go_ret
    exact ⟨ret_bool' _ _ (Eq.symm (by rw [← Bool.not_eq_true, beq_iff_eq]; exact fun h => HD.out (by rw [h]))), Touch.refl _ _⟩
  | true =>
  have HD3 := hid (of_decide_eq_true h3)
  clear h3
  rw [← HD3.out]
  go_enter Tryd.func22, Tryd.ntmps22
  go_wp2_with fail
  go_loopw [13] (fun i wr => ∃ j : Nat, i = .int .i64 j ∧ j ≤ a1.length ∧ Hid (a1.take j = a2.take j) ∧ Hid (Fresh w wr)) (fun i _ => a1.length - (intOf i).toNat)
  case atStart => exact ⟨0, rfl, Nat.zero_le _, rfl, hid (Touch.refl _ _)⟩
  case round =>
    obtain ⟨j, rfl, hj, HT, HF⟩ := hrel
    rename_i wr _
    by_cases c1 : j < a1.length
    · have d1 : decide ((j : Int) < (a1.length : Int)) = true := dT (by omega)
      have d1' : (j : Int) < (a1.length : Int) := by omega
      have c1y : j < a2.length := by have := HD3.out; omega
      obtain ⟨g, o, rfl, hg, m0, m1, _, _⟩ := HA1.out.get j c1
      obtain ⟨g', o', rfl, hg', q0, q1, _, _⟩ := HA2.out.get j c1y
      have e0 := HF.out.cell m0 (fun h => h)
      have f0 := HF.out.cell m1 (fun h => h)
      have e1' := HF.out.cell q0 (fun h => h)
      have f1 := HF.out.cell q1 (fun h => h)
      clear m0 m1 q0 q1
      by_cases hx : a1[j] = a2[j]
      · have hq : ∀ W, (Op.equalIn 10000 40 (.agg #[.string ⟨a1[j].1.toArray⟩, .string ⟨a1[j].2.toArray⟩]) (.agg #[.string ⟨a2[j].1.toArray⟩, .string ⟨a2[j].2.toArray⟩])).run Tryd.prog W = .ok true W := fun W => by rw [eqAttr, hx, str_eq', str_eq']; simp
        have HS := hid (take_eq_snoc a1 a2 j c1 c1y HT.out hx)
        clear hx
        generalize a1[j] = x at *
        generalize a2[j] = y at *
        have hg1 := HG.out
        go_wp2_with fail
        go_quiet (fail)
        go_wp2_with fail
        go_roundw
        case rel => exact ⟨j + 1, by go_num, c1, HS, hid (frA HF.out)⟩
        case measure => simp [intOf]; omega
      · have hq : ∀ W, (Op.equalIn 10000 40 (.agg #[.string ⟨a1[j].1.toArray⟩, .string ⟨a1[j].2.toArray⟩]) (.agg #[.string ⟨a2[j].1.toArray⟩, .string ⟨a2[j].2.toArray⟩])).run Tryd.prog W = .ok false W := fun W => by
          rw [eqAttr, str_eq', str_eq']
          congr 1
          rw [← Bool.not_eq_true, Bool.and_eq_true, beq_iff_eq, beq_iff_eq]
          exact fun h => hx (Prod.ext (by simpa using h.1) (by simpa using h.2))
        have HN := hid (show a1 ≠ a2 from fun h => hx (by subst h; rfl))
        clear hx
        generalize a1[j] = x at *
        generalize a2[j] = y at *
        have hg1 := HG.out
        go_wp2_with fail
        go_quiet (fail)
        go_wp2_with fail
        go_ret
        exact ⟨ret_bool' _ _ (Eq.symm (by rw [← Bool.not_eq_true, beq_iff_eq]; exact HN.out)), frA HF.out⟩
    · have d1 : decide ((j : Int) < (a1.length : Int)) = false := dF (by omega)
      obtain rfl : j = a1.length := by omega
      have HEA := hid (show a1 = a2 from by have := HT.out; rw [List.take_length, HD3.out, List.take_length] at this; exact this)
      go_wp2_with fail
      go_ret
      exact ⟨ret_bool' _ _ (Eq.symm (by rw [beq_iff_eq]; exact HEA.out)), frA HF.out⟩

/-- A pointer to an element that stood when the walk began. -/
def PtrAt (W0 : World) (e : E) (x : Value) : Prop := ∃ g o va vk, x = .pointer (some ⟨g, o, none⟩) ∧ ElAt W0 g o e va vk
theorem PtrAt.ptr {W0 : World} {e : E} {x : Value} (h : PtrAt W0 e x) : x.oneCell' = true := by
  obtain ⟨g, o, va, vk, rfl, _⟩ := h; rfl
theorem PtrAt.kid {W0 : World} {e : E} {g o : Nat} {va : Value} {A : Option Addr} {n cp : Nat} (h : ElAt W0 g o e va (.slice A n cp)) (i : Nat) (hi : i < e.kids.length) : ∃ g' o', A = some ⟨g', o', none⟩ ∧ PtrAt W0 e.kids[i] (.pointer (some ⟨g', o' + i * 4, none⟩)) := by
  obtain ⟨g', o', xa, xk, hA, hx⟩ := h.2.2.2.2.2.2.1.elAt i hi
  exact ⟨g', o', hA, g', o' + i * 4, xa, xk, rfl, hx⟩
/-- These cells point to these elements. -/
def Ptrs (W0 : World) : List E → List Value → Prop
  | [], cs => cs = []
  | e :: L, cs => ∃ x ds, cs = x :: ds ∧ PtrAt W0 e x ∧ Ptrs W0 L ds
theorem Ptrs.length {W0 : World} : ∀ {L : List E} {cs : List Value}, Ptrs W0 L cs → cs.length = L.length
  | [], cs, h => by rw [show cs = [] from h]; rfl
  | e :: L, cs, ⟨x, ds, h, _, hd⟩ => by rw [h, List.length_cons, List.length_cons, Ptrs.length hd]
theorem Ptrs.snoc {W0 : World} {e : E} {x : Value} (hx : PtrAt W0 e x) : ∀ {L : List E} {cs : List Value}, Ptrs W0 L cs → Ptrs W0 (L ++ [e]) (cs ++ [x])
  | [], cs, h => by rw [show cs = [] from h]; exact ⟨x, [], rfl, hx, rfl⟩
  | _ :: _, _, ⟨y, ds, h, hy, hd⟩ => ⟨y, ds ++ [x], by rw [h]; rfl, hy, Ptrs.snoc hx hd⟩
theorem Ptrs.pop {W0 : World} {e : E} : ∀ {L : List E} {cs : List Value}, Ptrs W0 (L ++ [e]) cs → ∃ ds x, cs = ds ++ [x] ∧ PtrAt W0 e x ∧ Ptrs W0 L ds
  | [], cs, h => by
    obtain ⟨x, ds, h1, h2, h3⟩ := h
    rw [show ds = [] from h3] at h1
    exact ⟨[], x, h1, h2, rfl⟩
  | y :: L, cs, h => by
    obtain ⟨x, ds, h1, h2, h3⟩ := h
    obtain ⟨ds', x', h4, h5, h6⟩ := Ptrs.pop (L := L) h3
    exact ⟨x :: ds', x', by rw [h1, h4]; rfl, h5, x, ds', rfl, h2, h6⟩
theorem Ptrs.one {W0 : World} {L : List E} {cs : List Value} (h : Ptrs W0 L cs) : ∀ u ∈ cs, u.oneCell' = true := by
  induction L generalizing cs with
  | nil => rw [show cs = [] from h]; intro u hu; cases hu
  | cons e L ih =>
    obtain ⟨x, ds, rfl, hx, hd⟩ := h
    intro u hu
    rcases List.mem_cons.1 hu with rfl | hu
    · exact hx.ptr
    · exact ih hd u hu
theorem Ptrs.app {W0 : World} : ∀ {L M : List E} {cs ds : List Value}, Ptrs W0 L cs → Ptrs W0 M ds → Ptrs W0 (L ++ M) (cs ++ ds)
  | [], _, cs, _, h, h' => by rw [show cs = [] from h]; exact h'
  | _ :: _, _, _, _, ⟨y, es, h, hy, hd⟩, h' => ⟨y, es ++ _, by rw [h]; rfl, hy, hd.app h'⟩
/-- A stack of pointers, m of them a place, in a row of the call's own. -/
def Stk (W0 : World) (t m n : Nat) (w : World) (L : List E) (v : Value) : Prop := Fresh W0 w ∧ L.length = n * m ∧ ∃ cs, Ptrs W0 L cs ∧ w.ownsRow W0.heap.size t m v n cs
theorem Stk.fr {W0 w : World} {t m n : Nat} {L : List E} {v : Value} (h : Stk W0 t m n w L v) : Fresh W0 w := h.1
theorem Stk.slice {W0 w : World} {t m n : Nat} {L : List E} {v : Value} (h : Stk W0 t m n w L v) : ∃ A cp, v = .slice A n cp := by
  obtain ⟨_, _, cs, _, h2⟩ := h
  exact own_slc h2
theorem Stk.fresh {W0 w w1 : World} {t m n : Nat} {L : List E} {v : Value} (h : Stk W0 t m n w L v) (ht : Fresh w w1) : Stk W0 t m n w1 L v := by
  obtain ⟨h1, h0, cs, h2, h3⟩ := h
  exact ⟨h1.trans ht, h0, cs, h2, ownsRow_touch h3 ht fun _ _ h => h⟩
theorem Stk.lt {W0 w : World} {t m n : Nat} {L : List E} {v : Value} (h : Stk W0 t m n w L v) : ∀ k, v.ownBlock = some k → W0.heap.size ≤ k ∧ k < w.heap.size := by
  obtain ⟨_, _, cs, _, h3⟩ := h
  exact h3.lt
theorem own_at {w : World} {B t m n : Nat} {A : Option Addr} {cp : Nat} {xs : List Value} (h : w.ownsRow B t m (.slice A (n + 1) cp) (n + 1) xs) : n + 1 ≤ cp ∧ ∃ s, A = some ⟨s, 0, none⟩ ∧ s < w.heap.size ∧ ∀ j u, xs[j]? = some u → w.cell? ⟨s, j, none⟩ = some u := by
  rcases h.2 with ⟨hv, _⟩ | ⟨s, cap, cur, hv, _, _, hc, _⟩
  · cases hv
  · cases hv
    refine ⟨hc, s, rfl, (h.lt s rfl).2, fun j u hu => ?_⟩
    have := h.cells (g := s) rfl j u hu
    rw [Addr.add_mid, Nat.zero_add] at this
    exact this
/-- The element on top. -/
theorem Stk.top {W0 w : World} {t n : Nat} {L : List E} {e : E} {A : Option Addr} {cp : Nat} (h : Stk W0 t 1 (n + 1) w (L ++ [e]) (.slice A (n + 1) cp)) : n + 1 ≤ cp ∧ ∃ s g o va vk, A = some ⟨s, 0, none⟩ ∧ w.cell? ⟨s, n, none⟩ = some (.pointer (some ⟨g, o, none⟩)) ∧ s < w.heap.size ∧ ElAt W0 g o e va vk ∧ Stk W0 t 1 n w L (.slice A n cp) := by
  obtain ⟨h1, h0, cs, h2, h3⟩ := h
  obtain ⟨ds, x, rfl, ⟨g, o, va, vk, rfl, hx⟩, hd⟩ := Ptrs.pop h2
  have hl := Ptrs.length hd
  rw [List.length_append] at h0
  have h0 : L.length + 1 = (n + 1) * 1 := h0
  obtain ⟨hcp, s, rfl, hs, hc⟩ := own_at h3
  exact ⟨hcp, s, g, o, va, vk, rfl, hc n _ (by rw [List.getElem?_append_right (by omega), show n - ds.length = 0 by omega]; rfl), hs, hx, h1, by omega, ds, hd, ownsRow_pop (by omega) h3⟩
/-- The two elements on top. -/
theorem Stk.top2 {W0 w : World} {t n : Nat} {L : List E} {e f : E} {A : Option Addr} {cp : Nat} (h : Stk W0 t 2 (n + 1) w (L ++ [e, f]) (.slice A (n + 1) cp)) : n + 1 ≤ cp ∧ ∃ s g o va vk g' o' va' vk', A = some ⟨s, 0, none⟩ ∧ w.cell? ⟨s, n * 2, none⟩ = some (.pointer (some ⟨g, o, none⟩)) ∧ w.cell? ⟨s, n * 2 + 1, none⟩ = some (.pointer (some ⟨g', o', none⟩)) ∧ s < w.heap.size ∧ ElAt W0 g o e va vk ∧ ElAt W0 g' o' f va' vk' ∧ Stk W0 t 2 n w L (.slice A n cp) := by
  obtain ⟨h1, h0, cs, h2, h3⟩ := h
  rw [show L ++ [e, f] = (L ++ [e]) ++ [f] by simp] at h2
  obtain ⟨ds, y, rfl, ⟨g', o', va', vk', rfl, hy⟩, hd⟩ := Ptrs.pop h2
  obtain ⟨es, x, rfl, ⟨g, o, va, vk, rfl, hx⟩, hd2⟩ := Ptrs.pop hd
  have hl := Ptrs.length hd2
  rw [List.length_append] at h0
  have h0 : L.length + 2 = (n + 1) * 2 := h0
  rw [List.append_assoc] at h3
  obtain ⟨hcp, s, rfl, hs, hc⟩ := own_at h3
  exact ⟨hcp, s, g, o, va, vk, g', o', va', vk', rfl, hc (n * 2) _ (by rw [List.getElem?_append_right (by omega), show n * 2 - es.length = 0 by omega]; rfl), hc (n * 2 + 1) _ (by rw [List.getElem?_append_right (by omega), show n * 2 + 1 - es.length = 1 by omega]; rfl), hs, hx, hy, h1, by omega, es, hd2, ownsRow_pop (by omega) h3⟩
theorem Stk.lit {W0 w : World} {t m : Nat} {N : List E} {ns : List Value} (hf : Fresh W0 w) (h : Ptrs W0 N ns) (hl : N.length = m) : Stk W0 t m 1 (w.alloc (.cells ns.toArray t)) N (.slice (some ⟨w.heap.size, 0, none⟩) 1 1) := by
  refine ⟨hf.alloc _, by omega, ns, h, ?_⟩
  have := World.ownsRow_lit (base := W0.heap.size) (e := t) (size := m) w ns.toArray 1 hf.size (by simp only [maxLen]; omega) (by simp [h.length, hl])
  simpa using this
section
variable {w : World} {ops : Array Oper} {rest : List Oper} {o : Oper} {a : Act} {Q : Exit → Act → World → Prop}
/-- Pointers are given on by append. -/
theorem wpList_append_stk {t ts i' : Nat} {z : Value} {m : Nat} (hgd : o.guard = none) (s x : Operand)
    (ho : o.op = .call { callee := .builtin .append, args := #[s, x], argTypes := #[ts, ts] }) (hts : Tryd.prog.underlying ts = some (.slice t)) (hinfo : (Tryd.prog.info? t).map (fun i => (i.zero, i.size, i.bytes)) = some (some z, m, i')) (hz : z.cells.size = m) (hm : 0 < m) (hi' : i' ≤ 100)
    {W0 : World} {n g : Nat} {L N : List E} {ns : List Value} {v : Value} (h : Stk W0 t m n w L v) (hs : a.eval s = v) (hp : Ptrs W0 N ns) (hN : N.length = m) (hb : Blk w g t ns.toArray) (hx : a.eval x = .slice (some ⟨g, 0, none⟩) 1 1) (hlen : n < 2 ^ 40)
    (hK : ∀ A cp w', Stk W0 t m (n + 1) w' (L ++ N) (.slice A (n + 1) cp) → Touch (fun k => v.ownBlock = some k) w w' → wpList Tryd.prog ops Q rest (a.put o.dst (.slice A (n + 1) cp)) w') : wpList Tryd.prog ops Q (o :: rest) a w := by
  obtain ⟨h1, h0, cs, h2, h3⟩ := h
  obtain ⟨i, hi, hz0, hz1, hz2⟩ := info_parts hinfo
  have hsz : ns.toArray.size = 1 * m := by simp [hp.length, hN]
  refine wpList_append_src _ hgd s x ts ho W0.heap.size t i z m i' hts hi hz0 hz1 hz2 hz hm v n cs hs h3 _ 1 _ hx (Src.of_blk hb hsz) (by simpa using hp.one) (by simp only [maxLen]; omega) ?_ h1.size fun v' w' ho' hgr hv' => ?_
  · have := Nat.mul_le_mul (show n + 1 ≤ 2 ^ 40 by omega) hi'
    omega
  obtain ⟨A, cp, rfl⟩ := own_slc ho'
  have ht : Touch (fun k => v.ownBlock = some k) w w' := Touch.grown (Touch.refl _ _) hgr fun k hk => .inl hk
  refine hK A cp w' ⟨h1.trans' ht fun k hk => .inr (h3.lt k hk).1, by rw [List.length_append, h0, hN, Nat.add_mul, Nat.one_mul], cs ++ ns, h2.app hp, ?_⟩ ht
  simpa using ho'
end
end Go.Proofs.YtnkmccgpmmnfeaaDoor
