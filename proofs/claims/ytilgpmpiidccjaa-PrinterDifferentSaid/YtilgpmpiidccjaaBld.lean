/- The walks of strings.Builder's methods: a builder that lies in a block that is known whole. -/
import Derived.Test.YtilgpmpiidccjaaReg
import Derived.Lib.Builder
import Derived.Lib.UnsafeStr
import Derived.Maps.AppendAt
import Derived.Deep.RegionHeld3
namespace Go.Proofs.Ytilgpmpiidccjaa
open Go.RowKit

/-- At place o of block b, a row of cells cs of type T, lies a builder whose buffer is v: the call's own row of the bytes l. -/
structure Bld (w : World) (B b o : Nat) (T : TypeId) (cs : Array Value) (v : Value) (l : List UInt8) : Prop where
  blk : Blk w b T cs
  addr : cs[o]? = some (.pointer none) ∨ cs[o]? = some (.pointer (some ⟨b, o, none⟩))
  buf : cs[o + 1]? = some v
  own : w.ownsRow B 5 1 v l.length (Lib.byteCells l)
  ne : v.ownBlock ≠ some b
  nilv : l = [] → v = .slice none 0 0

theorem byteCells_snoc (l : List UInt8) (c : UInt8) : Lib.byteCells (l ++ [c]) = Lib.byteCells l ++ [.int .u8 c.toNat] := by simp [Lib.byteCells]

theorem infoU8 : (Try.prog.info? 5).map (fun i => (i.zero, i.size, i.bytes)) = some (some (.int .u8 0), 1, 1) := by kernel_rfl
theorem infoBuilder : ∃ j, Try.prog.info? 63 = some j ∧ j.size = 2 := by
  have h : (Try.prog.info? 63).map (·.size) = some 2 := by kernel_rfl
  exact Option.map_eq_some_iff.1 h

theorem shape_of_blk {w : World} {g : Nat} {t : TypeId} {cs : Array Value} (h : Blk w g t cs) : w.shape? g = some (t, cs.size) := by
  unfold Blk at h; simp [World.shape?, h]

set_option maxRecDepth 100000 in
set_option maxHeartbeats 1000000 in
theorem copyCheck_used (b o : Nat) (w : World) (h0 : w.cell? ⟨b, o, none⟩ = some (.pointer (some ⟨b, o, none⟩))) :
    Calls Try.prog 148 #[.pointer (some ⟨b, o, none⟩)] w fun e w' => e = .returned (.tuple #[]) ∧ w' = w := by
  obtain ⟨j, hj, _⟩ := infoBuilder
  go_enter Try.func148, Try.ntmps148
  go_wp2
  rw [Lib.run_neq_ptr_same w _ Try.underlying60 hj]
  go_wp2
  go_end0
  exact ⟨rfl, rfl⟩

set_option maxRecDepth 100000 in
set_option maxHeartbeats 1000000 in
theorem copyCheck_fresh (b o : Nat) (T : TypeId) (n : Nat) (w : World) (h0 : w.cell? ⟨b, o, none⟩ = some (.pointer none)) (hsh : w.shape? b = some (T, n)) (hfz : w.frozen? ⟨b, o, none⟩ = false)
    (hon : o < n) (hlies : liesAt Try.prog Try.prog.depth T (n / Try.prog.cellsOf T) o 63 1 = true) :
    Calls Try.prog 148 #[.pointer (some ⟨b, o, none⟩)] w fun e w' => e = .returned (.tuple #[]) ∧ w' = w.setCell ⟨b, o, none⟩ (.pointer (some ⟨b, o, none⟩)) := by
  obtain ⟨j, hj, hjs⟩ := infoBuilder
  go_enter Try.func148, Try.ntmps148
  go_wp2
  rw [Lib.run_to_unsafe w ⟨b, o, none⟩ Try.underlying60 Try.underlying162 hj (by rw [hjs]; decide) hsh hon]
  simp only [Result.andThen]
  rw [Oper.upon_value]
  go_wp2
  rw [run_callFunc_extern Try.func152 (by kernel_rfl) (by kernel_rfl) (by kernel_rfl) (e := Extern.AbiNoEscape.same) (by kernel_rfl)]
  rw [Lib.run_noEscape]
  simp only [Result.andThen]
  rw [Oper.upon_value]
  go_wp2
  rw [Lib.run_from_unsafe w ⟨b, o, none⟩ Try.underlying162 Try.underlying60 hj hsh hlies]
  simp only [Result.andThen]
  rw [Oper.upon_value]
  go_wp2
  go_end0
  exact ⟨rfl, rfl⟩

/-- Behind copyCheck the builder knows its own place. -/
theorem copyCheck_any {w : World} {B b o : Nat} {T : TypeId} {cs : Array Value} {v : Value} {l : List UInt8} (h : Bld w B b o T cs v l)
    (hlies : liesAt Try.prog Try.prog.depth T (cs.size / Try.prog.cellsOf T) o 63 1 = true) :
    Calls Try.prog 148 #[.pointer (some ⟨b, o, none⟩)] w fun e w' => e = .returned (.tuple #[]) ∧ Blk w' b T (cs.setIfInBounds o (.pointer (some ⟨b, o, none⟩))) ∧ Touch (· = b) w w' ∧ w'.heap.size = w.heap.size := by
  have ho : o < cs.size := by
    rcases h.addr with h1 | h1 <;> exact (Array.getElem?_eq_some_iff.1 h1).1
  rcases h.addr with h1 | h1
  · refine (copyCheck_fresh b o T cs.size w ((h.blk.cell o).trans h1) (shape_of_blk h.blk) (h.blk.frozen o) ho hlies).mono ?_
    rintro e w' ⟨rfl, rfl⟩
    exact ⟨rfl, h.blk.put _ _, (Touch.refl (· = b) w).setCell (p := ⟨b, o, none⟩) (.inl rfl) _, by simp [World.setCell]⟩
  · refine (copyCheck_used b o w ((h.blk.cell o).trans h1)).mono ?_
    rintro e w' ⟨rfl, rfl⟩
    refine ⟨rfl, ?_, Touch.refl _ _, rfl⟩
    have : cs.setIfInBounds o (.pointer (some ⟨b, o, none⟩)) = cs := by
      apply Array.ext_getElem?
      intro i
      rw [Array.getElem?_setIfInBounds]
      split
      · rename_i hi; subst hi; simp [ho] at *; exact h1.symm
      · rfl
    rw [this]
    exact h.blk

theorem Bld.lt {w : World} {B b o : Nat} {T : TypeId} {cs : Array Value} {v : Value} {l : List UInt8} (h : Bld w B b o T cs v l) : b < w.heap.size := h.blk.lt
theorem Bld.drewN {w : World} {B b o : Nat} {T : TypeId} {cs : Array Value} {v : Value} {l : List UInt8} (h : Bld w B b o T cs v l) (n : Nat) : Bld (w.drewN n) B b o T cs v l := ⟨h.blk, h.addr, h.buf, h.own, h.ne, h.nilv⟩

theorem ownsRow_touch {S : Nat → Prop} {w w' : World} {B e size n : Nat} {v : Value} {xs : List Value} (h : w.ownsRow B e size v n xs) (ht : Touch S w w') (hn : ∀ k, v.ownBlock = some k → ¬ S k) : w'.ownsRow B e size v n xs := by
  obtain ⟨h1, h2⟩ := h
  refine ⟨h1, ?_⟩
  rcases h2 with h2 | ⟨g, cap, cur, rfl, hb, hh, r⟩
  · exact .inl h2
  · exact .inr ⟨g, cap, cur, rfl, hb, (ht.block g (Array.getElem?_eq_some_iff.1 hh).1 (hn g rfl)).trans hh, r⟩

set_option maxRecDepth 100000 in
set_option maxHeartbeats 1000000 in
theorem writeByte_any {w : World} {B b o : Nat} {T : TypeId} {cs : Array Value} {v : Value} {l : List UInt8} (h : Bld w B b o T cs v l)
    (hlies : liesAt Try.prog Try.prog.depth T (cs.size / Try.prog.cellsOf T) o 63 1 = true) (x : Int) (c : UInt8) (hx : x = c.toNat) (hlen : l.length + 1 ≤ 140737488355328) (hB : B ≤ w.heap.size) :
    Calls Try.prog 131 #[.pointer (some ⟨b, o, none⟩), .int .u8 x] w fun e w' => e = .returned .nilIface ∧ ∃ v', Bld w' B b o T ((cs.setIfInBounds o (.pointer (some ⟨b, o, none⟩))).setIfInBounds (o + 1) v') v' (l ++ [c]) ∧ Touch (fun k => k = b ∨ v.ownBlock = some k) w w' := by
  obtain ⟨i0, hi, hz0, hz1, hz2⟩ := info_parts infoU8
  have ho : o + 1 < cs.size := (Array.getElem?_eq_some_iff.1 h.buf).1
  go_enter Try.func131, Try.ntmps131
  go_wp2_with fail
  refine (copyCheck_any h hlies).mono ?_
  rintro e w1 ⟨rfl, hb1, ht1, hs1⟩
  have c1 : w1.cell? ⟨b, o + 1, none⟩ = some v := by
    rw [hb1.cell, Array.getElem?_setIfInBounds_ne (by omega)]; exact h.buf
  have hown : w1.ownsRow B 5 1 v l.length (Lib.byteCells l) := ownsRow_touch h.own ht1 (fun k hk e => h.ne (by rw [hk, e]))
  have HB := hid hb1
  have HT := hid ht1
  have HS := hid hs1
  have HX := hid hx
  clear hb1 ht1 hs1 hx
  go_wp2_with (at_builtin; refine wpList_append_own_at _ rfl _ _ 61 rfl B 5 i0 (.int .u8 0) 1 1 Try.underlying61 hi hz0 hz1 hz2 rfl (by decide) _ _ _ rfl (hown.alloc _) ⟨w1.heap.size, 0, none⟩ 1 1 [.int .u8 x] rfl rfl ?c1 ?c2 ?c3 ?c4 ?c5 ?_)
  case c1 =>
    intro j u hj
    match j, hj with
    | 0, hj => simp at hj; subst hj; simp [Addr.add]
  case c2 => intro u hu; simp at hu; subst hu; rfl
  case c3 => unfold maxLen; omega
  case c4 => omega
  case c5 => have := HS.out; simp; omega
  intro v' w2 hown' hgrow _ hat
  have hlt1 := HB.out.lt
  have ht2 : Touch (fun k => v.ownBlock = some k) w1 w2 := ((Touch.refl (fun k => v.ownBlock = some k) w1).alloc _).grown hgrow (fun g hg => .inl hg)
  have hb2 : Blk w2 b T (cs.setIfInBounds o (.pointer (some ⟨b, o, none⟩))) := ht2.blk HB.out h.ne
  have d1 : w2.cell? ⟨b, o + 1, none⟩ = some v := by
    rw [hb2.cell, Array.getElem?_setIfInBounds_ne (by omega)]; exact h.buf
  have f1 : w2.frozen? ⟨b, o + 1, none⟩ = false := hb2.frozen _
  have hne' : v'.ownBlock ≠ some b := by
    rcases hat with h1 | h1
    · rw [h1]; exact h.ne
    · rw [h1]; simp; omega
  obtain ⟨g, cap, rfl⟩ : ∃ g cap, v' = .slice (some ⟨g, 0, none⟩) (l.length + 1) cap := by
    rcases hown'.2 with ⟨_, h0⟩ | ⟨g, cap, cur, hv, _⟩
    · omega
    · exact ⟨g, cap, hv⟩
  have HB2 := hid hb2
  have HT2 := hid ht2
  have HO := hid hown'
  have HN := hid hne'
  clear hb2 ht2 hown' hne' hat hgrow hown
  go_wp2
  go_ret
  refine ⟨rfl, _, ⟨HB2.out.put _ _, .inr ?_, ?_, ?_, HN.out, by simp⟩, ?_⟩
  · rw [Array.getElem?_setIfInBounds_ne (by omega), Array.getElem?_setIfInBounds_self_of_lt (by omega)]
  · rw [Array.getElem?_setIfInBounds_self_of_lt (by simp; omega)]
  · rw [byteCells_snoc, List.length_append, ← HX.out]
    exact ownsRow_touch HO.out ((Touch.refl (· = b) w2).setCell (p := ⟨b, o + 1, none⟩) (.inl rfl) _) (fun k hk e => HN.out (by rw [hk, e]))
  · exact ((HT.out.mono (fun _ h => .inl h)).trans (HT2.out.mono (fun _ h => .inr h))).setCell (p := ⟨b, o + 1, none⟩) (.inl (.inl rfl)) _

theorem touch_freeze {S : Nat → Prop} {a w : World} (h : Touch S a w) {p : Addr} (hp : S p.block ∨ a.heap.size ≤ p.block) (n : Nat) : Touch S a (w.freeze p n) := by
  unfold World.freeze
  split
  · exact h
  · refine ⟨h.os, h.tape, h.output, by simpa using h.size, fun i hi hn => ?_⟩
    refine Eq.trans ?_ (h.block i hi hn)
    show (w.heap.modify p.block _)[i]? = _
    rw [Array.getElem?_modify, if_neg]
    rintro rfl
    exact hp.elim hn (fun hle => absurd hi (by omega))

theorem unsafeString_nil (W : World) (q : Option Addr) : (Builtin.unsafeString_ #[107, 3] 9 #[.pointer q, .int .i64 0]).run Try.prog W = .ok (.string .empty) W := Lib.run_unsafeString_none W _ _ _ q

set_option maxRecDepth 100000 in
set_option maxHeartbeats 1000000 in
theorem bstring_any {w : World} {B b o : Nat} {T : TypeId} {cs : Array Value} {v : Value} {l : List UInt8} (h : Bld w B b o T cs v l) :
    Calls Try.prog 31 #[.pointer (some ⟨b, o, none⟩)] w fun e w' => e = .returned (.string ⟨l.toArray⟩) ∧ Touch (fun k => v.ownBlock = some k) w w' := by
  have c1 : w.cell? ⟨b, o + 1, none⟩ = some v := (h.blk.cell _).trans h.buf
  by_cases h0 : l = []
  · obtain rfl := h.nilv h0
    subst h0
    have hUS := unsafeString_nil
    have hSD : ∀ n : Nat, (Builtin.unsafeSliceData_ #[61] 107 #[.slice none 0 0]).run Try.prog (w.drewN n) = .ok (.pointer none) (w.drewN n) := fun _ => rfl
    clear h
    go_enter Try.func31, Try.ntmps31
    go_wp2
    go_quiet (fail)
    go_wp2
    go_ret
    exact ⟨rfl, (Touch.refl _ w).drewN _⟩
  · have hl0 : l.length ≠ 0 := by simpa using h0
    obtain ⟨g, cap, cur, rfl, hbg, hg, hnc, hcm, hcs, htake⟩ : ∃ g cap cur, v = .slice (some ⟨g, 0, none⟩) l.length cap ∧ B ≤ g ∧ w.heap[g]? = some (.cells cur 5 (0, 0)) ∧ l.length ≤ cap ∧ cap ≤ maxLen ∧ cur.size = cap * 1 ∧ cur.toList.take (l.length * 1) = Lib.byteCells l := by
      rcases h.own.2 with ⟨_, hz⟩ | ⟨g, cap, cur, hv, r⟩
      · exact absurd hz hl0
      · exact ⟨g, cap, cur, hv, r⟩
    have hown := h.own
    have hSD : ∀ n : Nat, (Builtin.unsafeSliceData_ #[61] 107 #[.slice (some ⟨g, 0, none⟩) l.length cap]).run Try.prog (w.drewN n) = .ok (.pointer (some ⟨g, 0, none⟩)) (w.drewN n) := fun n =>
      Lib.run_unsafeSliceData_row _ _ _ _ _ _ (by omega)
    have hUS : ∀ n : Nat, (Builtin.unsafeString_ #[107, 3] 9 #[.pointer (some ⟨g, 0, none⟩), .int .i64 l.length]).run Try.prog (w.drewN n) = .ok (.string ⟨l.toArray⟩) ((w.drewN n).freeze ⟨g, 0, none⟩ l.length) := fun n => by
      refine Lib.run_unsafeString_row (w.drewN n) 107 3 9 5 Try.underlying107 (by kernel_rfl) g cur.size (by simp [World.shape?, hg]) l h0 (by omega) (by unfold maxLen at hcm; omega) ?_
      intro j x hx
      have := hown.cells (g := g) rfl j (.int .u8 x.toNat) (by simp [Lib.byteCells, hx])
      exact this
    have HG := hid hg
    clear h htake hcs hcm hnc hg hown h0 hl0
    go_enter Try.func31, Try.ntmps31
    go_wp2
    refine wp_region_segs [([0,1,2,3,4,5,6,7,8,9],10)] [11] (by kernel_rfl) (by kernel_rfl) ?_
    simp only [wpSegs, pick, List.getElem?_cons_zero, List.getElem?_cons_succ]
    repeat (quiet_step (fail))
    refine wpQuiet_nil ?_
    rintro _ ⟨nq, rfl⟩
    go_wp2
    repeat (quiet_step (fail))
    refine wpQuiet_nil ?_
    rintro _ ⟨nq2, rfl⟩
    go_wp2
    go_ret
    refine ⟨rfl, ?_⟩
    exact (touch_freeze ((Touch.refl (fun k => Value.ownBlock (.slice (some ⟨g, 0, none⟩) l.length cap) = some k) w).drewN nq) (p := ⟨g, 0, none⟩) (.inl rfl) _).drewN _
end Go.Proofs.Ytilgpmpiidccjaa
