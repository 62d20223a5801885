/- Part 3 of 11 of a proof; its texts, joined: Bld, Bls, PrB, LxA, LxB, LxC, LxF, LxQ, SpA. No condition. -/
import Derived.Test.YtilgpmpiidccjaaPp1
import Derived.Lib.Builder
import Derived.Lib.UnsafeStr
import Derived.Maps.AppendAt
import Derived.Deep.RegionHeld3
import Derived.Test.YtilgpmpiidccjaaPp2
import Derived.Lib.AppendStr
import Derived.Deep.RegionWith

/- The walks of strings.Builder's methods: a builder that lies in a block that is known whole. -/
namespace Go.Proofs.Ytilgpmpiidccjaa
open Go.RowKit

/-- At place o of block b, a row of cells cs of type T, lies a builder whose buffer is v: the call's own row of the bytes l. -/
structure Bld (w : World) (B b o : Nat) (T : TypeId) (cs : Array Value) (v : Value) (l : List UInt8) : Prop where
  blk : Blk w b T cs
  addr : cs[o]? = some (.pointer none) ∨ cs[o]? = some (.pointer (some ⟨b, o, none⟩))
  buf : cs[o + 1]? = some v
  own : w.ownsRow B 5 1 v l.length (Lib.byteCells l)
  ne : v.ownBlock ≠ some b
  nilv : l = [] → v = .slice none 0 0

theorem byteCells_snoc (l : List UInt8) (c : UInt8) : Lib.byteCells (l ++ [c]) = Lib.byteCells l ++ [.int .u8 c.toNat] := by simp [Lib.byteCells]

theorem infoU8 : (Try.prog.info? 5).map (fun i => (i.zero, i.size, i.bytes)) = some (some (.int .u8 0), 1, 1) := by kernel_rfl
theorem infoBuilder : ∃ j, Try.prog.info? 63 = some j ∧ j.size = 2 := by
  have h : (Try.prog.info? 63).map (·.size) = some 2 := by kernel_rfl
  exact Option.map_eq_some_iff.1 h

theorem shape_of_blk {w : World} {g : Nat} {t : TypeId} {cs : Array Value} (h : Blk w g t cs) : w.shape? g = some (t, cs.size) := by
  unfold Blk at h; simp [World.shape?, h]

set_option maxRecDepth 100000 in
set_option maxHeartbeats 1000000 in
theorem copyCheck_used (b o : Nat) (w : World) (h0 : w.cell? ⟨b, o, none⟩ = some (.pointer (some ⟨b, o, none⟩))) :
    Calls Try.prog 148 #[.pointer (some ⟨b, o, none⟩)] w fun e w' => e = .returned (.tuple #[]) ∧ w' = w := by
  obtain ⟨j, hj, _⟩ := infoBuilder
  go_enter Try.func148, Try.ntmps148
  go_wp2
  rw [Lib.run_neq_ptr_same w _ Try.underlying60 hj]
  go_wp2
  go_end0
  exact ⟨rfl, rfl⟩

set_option maxRecDepth 100000 in
set_option maxHeartbeats 1000000 in
theorem copyCheck_fresh (b o : Nat) (T : TypeId) (n : Nat) (w : World) (h0 : w.cell? ⟨b, o, none⟩ = some (.pointer none)) (hsh : w.shape? b = some (T, n)) (hfz : w.frozen? ⟨b, o, none⟩ = false)
    (hon : o < n) (hlies : liesAt Try.prog Try.prog.depth T (n / Try.prog.cellsOf T) o 63 1 = true) :
    Calls Try.prog 148 #[.pointer (some ⟨b, o, none⟩)] w fun e w' => e = .returned (.tuple #[]) ∧ w' = w.setCell ⟨b, o, none⟩ (.pointer (some ⟨b, o, none⟩)) := by
  obtain ⟨j, hj, hjs⟩ := infoBuilder
  go_enter Try.func148, Try.ntmps148
  go_wp2
  rw [Lib.run_to_unsafe w ⟨b, o, none⟩ Try.underlying60 Try.underlying162 hj (by rw [hjs]; decide) hsh hon]
  simp only [Result.andThen]
  rw [Oper.upon_value]
  go_wp2
  rw [run_callFunc_extern Try.func152 (by kernel_rfl) (by kernel_rfl) (by kernel_rfl) (e := Extern.AbiNoEscape.same) (by kernel_rfl)]
  rw [Lib.run_noEscape]
  simp only [Result.andThen]
  rw [Oper.upon_value]
  go_wp2
  rw [Lib.run_from_unsafe w ⟨b, o, none⟩ Try.underlying162 Try.underlying60 hj hsh hlies]
  simp only [Result.andThen]
  rw [Oper.upon_value]
  go_wp2
  go_end0
  exact ⟨rfl, rfl⟩

/-- Behind copyCheck the builder knows its own place. -/
theorem copyCheck_any {w : World} {B b o : Nat} {T : TypeId} {cs : Array Value} {v : Value} {l : List UInt8} (h : Bld w B b o T cs v l)
    (hlies : liesAt Try.prog Try.prog.depth T (cs.size / Try.prog.cellsOf T) o 63 1 = true) :
    Calls Try.prog 148 #[.pointer (some ⟨b, o, none⟩)] w fun e w' => e = .returned (.tuple #[]) ∧ Blk w' b T (cs.setIfInBounds o (.pointer (some ⟨b, o, none⟩))) ∧ Touch (· = b) w w' ∧ w'.heap.size = w.heap.size := by
  have ho : o < cs.size := by
    rcases h.addr with h1 | h1 <;> exact (Array.getElem?_eq_some_iff.1 h1).1
  rcases h.addr with h1 | h1
  · refine (copyCheck_fresh b o T cs.size w ((h.blk.cell o).trans h1) (shape_of_blk h.blk) (h.blk.frozen o) ho hlies).mono ?_
    rintro e w' ⟨rfl, rfl⟩
    exact ⟨rfl, h.blk.put _ _, (Touch.refl (· = b) w).setCell (p := ⟨b, o, none⟩) (.inl rfl) _, by simp [World.setCell]⟩
  · refine (copyCheck_used b o w ((h.blk.cell o).trans h1)).mono ?_
    rintro e w' ⟨rfl, rfl⟩
    refine ⟨rfl, ?_, Touch.refl _ _, rfl⟩
    have : cs.setIfInBounds o (.pointer (some ⟨b, o, none⟩)) = cs := by
      apply Array.ext_getElem?
      intro i
      rw [Array.getElem?_setIfInBounds]
      split
      · rename_i hi; subst hi; simp [ho] at *; exact h1.symm
      · rfl
    rw [this]
    exact h.blk

theorem Bld.lt {w : World} {B b o : Nat} {T : TypeId} {cs : Array Value} {v : Value} {l : List UInt8} (h : Bld w B b o T cs v l) : b < w.heap.size := h.blk.lt
theorem Bld.drewN {w : World} {B b o : Nat} {T : TypeId} {cs : Array Value} {v : Value} {l : List UInt8} (h : Bld w B b o T cs v l) (n : Nat) : Bld (w.drewN n) B b o T cs v l := ⟨h.blk, h.addr, h.buf, h.own, h.ne, h.nilv⟩

theorem ownsRow_touch {S : Nat → Prop} {w w' : World} {B e size n : Nat} {v : Value} {xs : List Value} (h : w.ownsRow B e size v n xs) (ht : Touch S w w') (hn : ∀ k, v.ownBlock = some k → ¬ S k) : w'.ownsRow B e size v n xs := by
  obtain ⟨h1, h2⟩ := h
  refine ⟨h1, ?_⟩
  rcases h2 with h2 | ⟨g, cap, cur, rfl, hb, hh, r⟩
  · exact .inl h2
  · exact .inr ⟨g, cap, cur, rfl, hb, (ht.block g (Array.getElem?_eq_some_iff.1 hh).1 (hn g rfl)).trans hh, r⟩

set_option maxRecDepth 100000 in
set_option maxHeartbeats 1000000 in
theorem writeByte_any {w : World} {B b o : Nat} {T : TypeId} {cs : Array Value} {v : Value} {l : List UInt8} (h : Bld w B b o T cs v l)
    (hlies : liesAt Try.prog Try.prog.depth T (cs.size / Try.prog.cellsOf T) o 63 1 = true) (x : Int) (c : UInt8) (hx : x = c.toNat) (hlen : l.length + 1 ≤ 140737488355328) (hB : B ≤ w.heap.size) :
    Calls Try.prog 131 #[.pointer (some ⟨b, o, none⟩), .int .u8 x] w fun e w' => e = .returned .nilIface ∧ ∃ v', Bld w' B b o T ((cs.setIfInBounds o (.pointer (some ⟨b, o, none⟩))).setIfInBounds (o + 1) v') v' (l ++ [c]) ∧ Touch (fun k => k = b ∨ v.ownBlock = some k) w w' := by
  obtain ⟨i0, hi, hz0, hz1, hz2⟩ := info_parts infoU8
  have ho : o + 1 < cs.size := (Array.getElem?_eq_some_iff.1 h.buf).1
  go_enter Try.func131, Try.ntmps131
  go_wp2_with fail
  refine (copyCheck_any h hlies).mono ?_
  rintro e w1 ⟨rfl, hb1, ht1, hs1⟩
  have c1 : w1.cell? ⟨b, o + 1, none⟩ = some v := by
    rw [hb1.cell, Array.getElem?_setIfInBounds_ne (by omega)]; exact h.buf
  have hown : w1.ownsRow B 5 1 v l.length (Lib.byteCells l) := ownsRow_touch h.own ht1 (fun k hk e => h.ne (by rw [hk, e]))
  have HB := hid hb1
  have HT := hid ht1
  have HS := hid hs1
  have HX := hid hx
  clear hb1 ht1 hs1 hx
  go_wp2_with (at_builtin; refine wpList_append_own_at _ rfl _ _ 61 rfl B 5 i0 (.int .u8 0) 1 1 Try.underlying61 hi hz0 hz1 hz2 rfl (by decide) _ _ _ rfl (hown.alloc _) ⟨w1.heap.size, 0, none⟩ 1 1 [.int .u8 x] rfl rfl ?c1 ?c2 ?c3 ?c4 ?c5 ?_)
  case c1 =>
    intro j u hj
    match j, hj with
    | 0, hj => simp at hj; subst hj; simp [Addr.add]
  case c2 => intro u hu; simp at hu; subst hu; rfl
  case c3 => unfold maxLen; omega
  case c4 => omega
  case c5 => have := HS.out; simp; omega
  intro v' w2 hown' hgrow _ hat
  have hlt1 := HB.out.lt
  have ht2 : Touch (fun k => v.ownBlock = some k) w1 w2 := ((Touch.refl (fun k => v.ownBlock = some k) w1).alloc _).grown hgrow (fun g hg => .inl hg)
  have hb2 : Blk w2 b T (cs.setIfInBounds o (.pointer (some ⟨b, o, none⟩))) := ht2.blk HB.out h.ne
  have d1 : w2.cell? ⟨b, o + 1, none⟩ = some v := by
    rw [hb2.cell, Array.getElem?_setIfInBounds_ne (by omega)]; exact h.buf
  have f1 : w2.frozen? ⟨b, o + 1, none⟩ = false := hb2.frozen _
  have hne' : v'.ownBlock ≠ some b := by
    rcases hat with h1 | h1
    · rw [h1]; exact h.ne
    · rw [h1]; simp; omega
  obtain ⟨g, cap, rfl⟩ : ∃ g cap, v' = .slice (some ⟨g, 0, none⟩) (l.length + 1) cap := by
    rcases hown'.2 with ⟨_, h0⟩ | ⟨g, cap, cur, hv, _⟩
    · omega
    · exact ⟨g, cap, hv⟩
  have HB2 := hid hb2
  have HT2 := hid ht2
  have HO := hid hown'
  have HN := hid hne'
  clear hb2 ht2 hown' hne' hat hgrow hown
  go_wp2
  go_ret
  refine ⟨rfl, _, ⟨HB2.out.put _ _, .inr ?_, ?_, ?_, HN.out, by simp⟩, ?_⟩
  · rw [Array.getElem?_setIfInBounds_ne (by omega), Array.getElem?_setIfInBounds_self_of_lt (by omega)]
  · rw [Array.getElem?_setIfInBounds_self_of_lt (by simp; omega)]
  · rw [byteCells_snoc, List.length_append, ← HX.out]
    exact ownsRow_touch HO.out ((Touch.refl (· = b) w2).setCell (p := ⟨b, o + 1, none⟩) (.inl rfl) _) (fun k hk e => HN.out (by rw [hk, e]))
  · exact ((HT.out.mono (fun _ h => .inl h)).trans (HT2.out.mono (fun _ h => .inr h))).setCell (p := ⟨b, o + 1, none⟩) (.inl (.inl rfl)) _

theorem touch_freeze {S : Nat → Prop} {a w : World} (h : Touch S a w) {p : Addr} (hp : S p.block ∨ a.heap.size ≤ p.block) (n : Nat) : Touch S a (w.freeze p n) := by
  unfold World.freeze
  split
  · exact h
  · refine ⟨h.os, h.tape, h.output, by simpa using h.size, fun i hi hn => ?_⟩
    refine Eq.trans ?_ (h.block i hi hn)
    show (w.heap.modify p.block _)[i]? = _
    rw [Array.getElem?_modify, if_neg]
    rintro rfl
    exact hp.elim hn (fun hle => absurd hi (by omega))

theorem unsafeString_nil (W : World) (q : Option Addr) : (Builtin.unsafeString_ #[107, 3] 9 #[.pointer q, .int .i64 0]).run Try.prog W = .ok (.string .empty) W := Lib.run_unsafeString_none W _ _ _ q

set_option maxRecDepth 100000 in
set_option maxHeartbeats 1000000 in
theorem bstring_any {w : World} {B b o : Nat} {T : TypeId} {cs : Array Value} {v : Value} {l : List UInt8} (h : Bld w B b o T cs v l) :
    Calls Try.prog 31 #[.pointer (some ⟨b, o, none⟩)] w fun e w' => e = .returned (.string ⟨l.toArray⟩) ∧ Touch (fun k => v.ownBlock = some k) w w' := by
  have c1 : w.cell? ⟨b, o + 1, none⟩ = some v := (h.blk.cell _).trans h.buf
  by_cases h0 : l = []
  · obtain rfl := h.nilv h0
    subst h0
    have hUS := unsafeString_nil
    have hSD : ∀ n : Nat, (Builtin.unsafeSliceData_ #[61] 107 #[.slice none 0 0]).run Try.prog (w.drewN n) = .ok (.pointer none) (w.drewN n) := fun _ => rfl
    clear h
    go_enter Try.func31, Try.ntmps31
    go_wp2
    go_quiet (fail)
    go_wp2
    go_ret
    exact ⟨rfl, (Touch.refl _ w).drewN _⟩
  · have hl0 : l.length ≠ 0 := by simpa using h0
    obtain ⟨g, cap, cur, rfl, hbg, hg, hnc, hcm, hcs, htake⟩ : ∃ g cap cur, v = .slice (some ⟨g, 0, none⟩) l.length cap ∧ B ≤ g ∧ w.heap[g]? = some (.cells cur 5 (0, 0)) ∧ l.length ≤ cap ∧ cap ≤ maxLen ∧ cur.size = cap * 1 ∧ cur.toList.take (l.length * 1) = Lib.byteCells l := by
      rcases h.own.2 with ⟨_, hz⟩ | ⟨g, cap, cur, hv, r⟩
      · exact absurd hz hl0
      · exact ⟨g, cap, cur, hv, r⟩
    have hown := h.own
    have hSD : ∀ n : Nat, (Builtin.unsafeSliceData_ #[61] 107 #[.slice (some ⟨g, 0, none⟩) l.length cap]).run Try.prog (w.drewN n) = .ok (.pointer (some ⟨g, 0, none⟩)) (w.drewN n) := fun n =>
      Lib.run_unsafeSliceData_row _ _ _ _ _ _ (by omega)
    have hUS : ∀ n : Nat, (Builtin.unsafeString_ #[107, 3] 9 #[.pointer (some ⟨g, 0, none⟩), .int .i64 l.length]).run Try.prog (w.drewN n) = .ok (.string ⟨l.toArray⟩) ((w.drewN n).freeze ⟨g, 0, none⟩ l.length) := fun n => by
      refine Lib.run_unsafeString_row (w.drewN n) 107 3 9 5 Try.underlying107 (by kernel_rfl) g cur.size (by simp [World.shape?, hg]) l h0 (by omega) (by unfold maxLen at hcm; omega) ?_
      intro j x hx
      have := hown.cells (g := g) rfl j (.int .u8 x.toNat) (by simp [Lib.byteCells, hx])
      exact this
    have HG := hid hg
    clear h htake hcs hcm hnc hg hown h0 hl0
    go_enter Try.func31, Try.ntmps31
    go_wp2
    refine wp_region_segs [([0,1,2,3,4,5,6,7,8,9],10)] [11] (by kernel_rfl) (by kernel_rfl) ?_
    simp only [wpSegs, pick, List.getElem?_cons_zero, List.getElem?_cons_succ]
    repeat (quiet_step (fail))
    refine wpQuiet_nil ?_
    rintro _ ⟨nq, rfl⟩
    go_wp2
    repeat (quiet_step (fail))
    refine wpQuiet_nil ?_
    rintro _ ⟨nq2, rfl⟩
    go_wp2
    go_ret
    refine ⟨rfl, ?_⟩
    exact (touch_freeze ((Touch.refl (fun k => Value.ownBlock (.slice (some ⟨g, 0, none⟩) l.length cap) = some k) w).drewN nq) (p := ⟨g, 0, none⟩) (.inl rfl) _).drewN _
end Go.Proofs.Ytilgpmpiidccjaa

/- The walks of strings.Builder's WriteString and Len. -/
namespace Go.Proofs.Ytilgpmpiidccjaa
open Go.RowKit

theorem strCells_eq (s : ByteArray) : Lib.strCells s = Lib.byteCells s.data.toList := by rfl
theorem byteCells_app (l m : List UInt8) : Lib.byteCells (l ++ m) = Lib.byteCells l ++ Lib.byteCells m := by simp [Lib.byteCells]

set_option maxRecDepth 100000 in
set_option maxHeartbeats 1000000 in
theorem writeString_any {w : World} {B b o : Nat} {T : TypeId} {cs : Array Value} {v : Value} {l : List UInt8} (h : Bld w B b o T cs v l) (hbB : b < B)
    (hlies : liesAt Try.prog Try.prog.depth T (cs.size / Try.prog.cellsOf T) o 63 1 = true) (s : ByteArray) (hlen : l.length + s.size ≤ 140737488355328) (hB : B ≤ w.heap.size) :
    Calls Try.prog 129 #[.pointer (some ⟨b, o, none⟩), .string s] w fun e w' => e = .returned (.tuple #[.int .i64 s.size, .nilIface]) ∧ ∃ v', Bld w' B b o T ((cs.setIfInBounds o (.pointer (some ⟨b, o, none⟩))).setIfInBounds (o + 1) v') v' (l ++ s.data.toList) ∧ Touch (fun k => k = b ∨ v.ownBlock = some k) w w' := by
  obtain ⟨i0, hi, hz0, hz1, hz2⟩ := info_parts infoU8
  have ho : o + 1 < cs.size := (Array.getElem?_eq_some_iff.1 h.buf).1
  go_enter Try.func129, Try.ntmps129
  go_wp2_with fail
  refine (copyCheck_any h hlies).mono ?_
  rintro e w1 ⟨rfl, hb1, ht1, hs1⟩
  have c1 : w1.cell? ⟨b, o + 1, none⟩ = some v := by
    rw [hb1.cell, Array.getElem?_setIfInBounds_ne (by omega)]; exact h.buf
  have hown : w1.ownsRow B 5 1 v l.length (Lib.byteCells l) := ownsRow_touch h.own ht1 (fun k hk e => h.ne (by rw [hk, e]))
  have HB := hid hb1
  have HT := hid ht1
  have HS := hid hs1
  clear hb1 ht1 hs1
  go_wp2_with (at_builtin; refine Lib.wpList_append_own_string _ rfl _ _ 61 9 rfl B 5 i0 Try.underlying61 Try.underlying9 hi hz0 hz1 hz2 _ _ _ rfl hown s rfl ?c3 ?c4 ?c5 ?_)
  case c3 => unfold maxLen; omega
  case c4 => omega
  case c5 => have := HS.out; omega
  intro v' w2 hown' hgrow hnl
  have hlt1 := HB.out.lt
  have ht2 : Touch (fun k => v.ownBlock = some k) w1 w2 := (Touch.refl (fun k => v.ownBlock = some k) w1).grown hgrow (fun g hg => .inl hg)
  have hb2 : Blk w2 b T (cs.setIfInBounds o (.pointer (some ⟨b, o, none⟩))) := ht2.blk HB.out h.ne
  have d1 : w2.cell? ⟨b, o + 1, none⟩ = some v := by
    rw [hb2.cell, Array.getElem?_setIfInBounds_ne (by omega)]; exact h.buf
  have f1 : w2.frozen? ⟨b, o + 1, none⟩ = false := hb2.frozen _
  have hne' : v'.ownBlock ≠ some b := fun e => by have := (hown'.lt b e).1; omega
  have hnil : l ++ s.data.toList = [] → v' = .slice none 0 0 := fun e => by
    obtain ⟨e1, e2⟩ := List.append_eq_nil_iff.1 e
    refine hnl.2 ⟨h.nilv e1, ?_⟩
    apply ByteArray.ext
    apply Array.toList_inj.1
    rw [e2]; rfl
  obtain ⟨A', cap', rfl⟩ : ∃ A cap, v' = .slice A (l.length + s.size) cap := by
    rcases hown'.2 with ⟨h1, h2⟩ | ⟨g, cap, cur, h1, _⟩
    · exact ⟨none, 0, by rw [h1, h2]⟩
    · exact ⟨_, _, h1⟩
  have HB2 := hid hb2
  have HT2 := hid ht2
  have HO := hid hown'
  have HN := hid hne'
  have HNIL := hid hnil
  clear hb2 ht2 hown' hne' hgrow hown hnl hnil
  go_wp2
  go_ret2
  refine ⟨rfl, _, ⟨HB2.out.put _ _, .inr ?_, ?_, ?_, HN.out, HNIL.out⟩, ?_⟩
  · rw [Array.getElem?_setIfInBounds_ne (by omega), Array.getElem?_setIfInBounds_self_of_lt (by omega)]
  · rw [Array.getElem?_setIfInBounds_self_of_lt (by simp; omega)]
  · have hl : (l ++ s.data.toList).length = l.length + s.size := by simp
    rw [byteCells_app, ← strCells_eq, hl]
    exact ownsRow_touch HO.out ((Touch.refl (· = b) w2).setCell (p := ⟨b, o + 1, none⟩) (.inl rfl) _) (fun k hk e => HN.out (by rw [hk, e]))
  · exact ((HT.out.mono (fun _ h => .inl h)).trans (HT2.out.mono (fun _ h => .inr h))).setCell (p := ⟨b, o + 1, none⟩) (.inl (.inl rfl)) _

set_option maxRecDepth 100000 in
theorem bLen_any {w : World} {B b o : Nat} {T : TypeId} {cs : Array Value} {v : Value} {l : List UInt8} (h : Bld w B b o T cs v l) :
    Calls Try.prog 145 #[.pointer (some ⟨b, o, none⟩)] w fun e w' => e = .returned (.int .i64 l.length) ∧ w' = w := by
  obtain ⟨A, cap, rfl⟩ : ∃ A cap, v = .slice A l.length cap := by
    rcases h.own.2 with ⟨h1, h2⟩ | ⟨g, cap, cur, h1, _⟩
    · exact ⟨none, 0, by rw [h1, h2]⟩
    · exact ⟨_, _, h1⟩
  have c1 : w.cell? ⟨b, o + 1, none⟩ = some (.slice A l.length cap) := by rw [h.blk.cell]; exact h.buf
  clear h
  go_enter Try.func145, Try.ntmps145
  go_wp2_with fail
  go_ret
  exact ⟨rfl, rfl⟩
end Go.Proofs.Ytilgpmpiidccjaa

/- The printer in memory. -/
namespace Go.Proofs.Ytilgpmpiidccjaa
open Go.RowKit

def ptokCellsP (x : Lx.PTok) : List Value := [.int .i64 x.kind, .string ⟨x.text.toArray⟩, .int .i64 x.from_, .int .i64 x.to_]

/-- The printer lies in block p: its tokens, and a builder with its text; both rows lie from block B on. -/
structure Pr (w : World) (p B : Nat) (vt vb : Value) (cs : Array Value) (toks : List Lx.PTok) (txt : List UInt8) : Prop where
  lt : p < B
  bld : Bld w B p 1 65 cs vb txt
  size : cs.size = 3
  tok : cs[0]? = some vt
  own : w.ownsRow B 74 4 vt toks.length (toks.flatMap ptokCellsP)

/-- The blocks that a printer may turn: its own, and rows of tokens and of bytes from B on. -/
def PS (p B : Nat) (w : World) (k : Nat) : Prop := k = p ∨ (B ≤ k ∧ ∃ cur e fr, w.heap[k]? = some (.cells cur e fr) ∧ (e = 74 ∨ e = 5))

theorem PS.trans {p B : Nat} {a b c : World} (h : Touch (PS p B a) a b) (k : Touch (PS p B b) b c) : Touch (PS p B a) a c := by
  refine ⟨k.os.trans h.os, k.tape.trans h.tape, k.output.trans h.output, Nat.le_trans h.size k.size, fun i hi hn => ?_⟩
  have h1 := h.block i hi hn
  refine (k.block i (Nat.lt_of_lt_of_le hi h.size) fun hs => hn ?_).trans h1
  rcases hs with hs | ⟨h2, cur, e, fr, h3, h4⟩
  · exact .inl hs
  · exact .inr ⟨h2, cur, e, fr, by rw [← h1]; exact h3, h4⟩
theorem PS.fresh {p B : Nat} {a b : World} (h : Fresh a b) : Touch (PS p B a) a b := h.mono fun _ h => h.elim
theorem PS.freshL {p B : Nat} {a b c : World} (h : Fresh a b) (k : Touch (PS p B b) b c) : Touch (PS p B a) a c := PS.trans (PS.fresh h) k
theorem PS.freshR {p B : Nat} {a b c : World} (h : Touch (PS p B a) a b) (k : Fresh b c) : Touch (PS p B a) a c := PS.trans h (PS.fresh k)

theorem owns_type {w : World} {B e size n g : Nat} {v : Value} {xs : List Value} (h : w.ownsRow B e size v n xs) (hg : v.ownBlock = some g) : B ≤ g ∧ ∃ cur, w.heap[g]? = some (.cells cur e (0, 0)) := by
  rcases h.2 with ⟨h1, _⟩ | ⟨g', cap, cur, h1, h2, h3, _⟩
  · rw [h1] at hg; cases hg
  · rw [h1] at hg
    simp only [Value.ownBlock, Option.some.injEq] at hg
    subst hg
    exact ⟨h2, cur, h3⟩

/-- A box of another type stays. -/
theorem PS.blk {p B g : Nat} {t : TypeId} {cs : Array Value} {a b : World} (h : Touch (PS p B a) a b) (hb : Blk a g t cs) (hp : g ≠ p) (h1 : t ≠ 74) (h2 : t ≠ 5) : Blk b g t cs := by
  refine h.blk hb ?_
  rintro (hs | ⟨_, cur, e, fr, h3, h4⟩)
  · exact hp hs
  · unfold Blk at hb
    rw [hb] at h3
    cases h3
    rcases h4 with h4 | h4
    · exact h1 h4
    · exact h2 h4
/-- What lies below B, and is not the printer, stays. -/
theorem PS.old {p B : Nat} {a b : World} (h : Touch (PS p B a) a b) {q : Addr} {v : Value} (hc : a.cell? q = some v) (h1 : q.block < B) (h2 : q.block ≠ p) : b.cell? q = some v := by
  refine h.cell hc ?_
  rintro (hs | ⟨h3, _⟩)
  · exact h2 hs
  · omega

theorem Pr.fresh {w w' : World} {p B : Nat} {vt vb : Value} {cs : Array Value} {toks : List Lx.PTok} {txt : List UInt8} (h : Pr w p B vt vb cs toks txt) (hf : Fresh w w') : Pr w' p B vt vb cs toks txt :=
  ⟨h.lt, ⟨hf.blk h.bld.blk (fun h => h), h.bld.addr, h.bld.buf, ownsRow_touch h.bld.own hf (fun _ _ h => h), h.bld.ne, h.bld.nilv⟩, h.size, h.tok, ownsRow_touch h.own hf (fun _ _ h => h)⟩

theorem Pr.touch {S : Nat → Prop} {w w' : World} {p B : Nat} {vt vb : Value} {cs : Array Value} {toks : List Lx.PTok} {txt : List UInt8} (h : Pr w p B vt vb cs toks txt) (ht : Touch S w w') (h1 : ¬ S p) (h2 : ∀ k, vt.ownBlock = some k → ¬ S k) (h3 : ∀ k, vb.ownBlock = some k → ¬ S k) : Pr w' p B vt vb cs toks txt :=
  ⟨h.lt, ⟨ht.blk h.bld.blk h1, h.bld.addr, h.bld.buf, ownsRow_touch h.bld.own ht h3, h.bld.ne, h.bld.nilv⟩, h.size, h.tok, ownsRow_touch h.own ht h2⟩
theorem Pr.vt_lt {w : World} {p B : Nat} {vt vb : Value} {cs : Array Value} {toks : List Lx.PTok} {txt : List UInt8} (h : Pr w p B vt vb cs toks txt) : ∀ k, vt.ownBlock = some k → k < w.heap.size := fun k hk => by
  obtain ⟨_, cur, h2⟩ := owns_type h.own hk
  exact (Array.getElem?_eq_some_iff.1 h2).1
theorem Pr.vb_lt {w : World} {p B : Nat} {vt vb : Value} {cs : Array Value} {toks : List Lx.PTok} {txt : List UInt8} (h : Pr w p B vt vb cs toks txt) : ∀ k, vb.ownBlock = some k → k < w.heap.size := fun k hk => by
  obtain ⟨_, cur, h2⟩ := owns_type h.bld.own hk
  exact (Array.getElem?_eq_some_iff.1 h2).1
/-- The bytes' block is no block of another type. -/
theorem Pr.vb_ne {w : World} {p B g : Nat} {vt vb : Value} {cs : Array Value} {toks : List Lx.PTok} {txt : List UInt8} (h : Pr w p B vt vb cs toks txt) {t : TypeId} {xs : Array Value} (hb : Blk w g t xs) (ht : t ≠ 5) : vb.ownBlock ≠ some g := fun hk => by
  obtain ⟨_, cur, h2⟩ := owns_type h.bld.own hk
  unfold Blk at hb
  rw [hb] at h2
  cases h2
  exact ht rfl

/-- The builder's own blocks are among those that a printer may turn. -/
theorem PS.bld {w w' : World} {p B : Nat} {vt vb : Value} {cs : Array Value} {toks : List Lx.PTok} {txt : List UInt8} (h : Pr w p B vt vb cs toks txt) (ht : Touch (fun k => k = p ∨ vb.ownBlock = some k) w w') : Touch (PS p B w) w w' :=
  ht.mono fun k hk => hk.elim .inl fun hk => by
    obtain ⟨h1, cur, h2⟩ := owns_type h.bld.own hk
    exact .inr ⟨h1, cur, _, _, h2, .inr rfl⟩

/-- Behind a writing of the builder the tokens are as they were. -/
theorem Pr.wrote {w w' : World} {p B : Nat} {vt vb vb' : Value} {cs : Array Value} {toks : List Lx.PTok} {txt txt' : List UInt8} (h : Pr w p B vt vb cs toks txt)
    (hb : Bld w' B p 1 65 ((cs.setIfInBounds 1 (.pointer (some ⟨p, 1, none⟩))).setIfInBounds (1 + 1) vb') vb' txt') (ht : Touch (fun k => k = p ∨ vb.ownBlock = some k) w w') :
    Pr w' p B vt vb' ((cs.setIfInBounds 1 (.pointer (some ⟨p, 1, none⟩))).setIfInBounds (1 + 1) vb') toks txt' := by
  refine ⟨h.lt, hb, by simp [h.size], ?_, ownsRow_touch h.own ht ?_⟩
  · rw [Array.getElem?_setIfInBounds_ne (by decide), Array.getElem?_setIfInBounds_ne (by decide)]; exact h.tok
  · intro k hk hs
    obtain ⟨h1, cur, h2⟩ := owns_type h.own hk
    rcases hs with hs | hs
    · have := h.lt; omega
    · obtain ⟨_, cur', h3⟩ := owns_type h.bld.own hs
      rw [h2] at h3
      simp at h3
end Go.Proofs.Ytilgpmpiidccjaa

/- The walks of the lexer's small methods: fail, is, run, token. -/
namespace Go.Proofs.Ytilgpmpiidccjaa
open Go.RowKit

def lexCells (s : ByteArray) (a p e : Int) : Array Value :=
  (Array.ofFn (n := 256) fun i => Value.int .u8 (Lx.cls i.1 : Nat)) ++ #[.string s, .int .i64 a, .int .i64 p, .int .i64 e]

/-- Block L is a lexer over s at a, with a failure. -/
def LexAt (w : World) (L : Nat) (s : ByteArray) (a p e : Int) : Prop := Blk w L 85 (lexCells s a p e)

theorem lexCells_cls (s : ByteArray) (a p e : Int) (i : Nat) (h : i < 256) : (lexCells s a p e)[i]? = some (.int .u8 (Lx.cls i : Nat)) := by
  unfold lexCells
  rw [Array.getElem?_append_left (by simpa using h)]
  simp [h]
theorem lexCells_hi (s : ByteArray) (a p e : Int) (i : Nat) : (lexCells s a p e)[256 + i]? = (#[Value.string s, .int .i64 a, .int .i64 p, .int .i64 e] : Array Value)[i]? := by
  unfold lexCells
  rw [Array.getElem?_append_right (by simp)]
  simp
theorem lexCells_set (s : ByteArray) (a p e : Int) (i : Nat) (u : Value) : (lexCells s a p e).setIfInBounds (256 + i) u = (Array.ofFn (n := 256) fun i => Value.int .u8 (Lx.cls i.1 : Nat)) ++ (#[Value.string s, .int .i64 a, .int .i64 p, .int .i64 e].setIfInBounds i u) := by
  unfold lexCells
  rw [Array.setIfInBounds_append_right (by simp)]
  simp

section
variable {w : World} {L : Nat} {s : ByteArray} {a p e : Int}
theorem LexAt.text (h : LexAt w L s a p e) : w.cell? ⟨L, 256, none⟩ = some (.string s) := (Blk.cell h 256).trans (lexCells_hi s a p e 0)
theorem LexAt.at_ (h : LexAt w L s a p e) : w.cell? ⟨L, 257, none⟩ = some (.int .i64 a) := (Blk.cell h 257).trans (lexCells_hi s a p e 1)
theorem LexAt.place (h : LexAt w L s a p e) : w.cell? ⟨L, 258, none⟩ = some (.int .i64 p) := (Blk.cell h 258).trans (lexCells_hi s a p e 2)
theorem LexAt.err (h : LexAt w L s a p e) : w.cell? ⟨L, 259, none⟩ = some (.int .i64 e) := (Blk.cell h 259).trans (lexCells_hi s a p e 3)
theorem LexAt.cls (h : LexAt w L s a p e) (i : Nat) (hi : i < 256) : w.cell? ⟨L, i, none⟩ = some (.int .u8 (Lx.cls i : Nat)) := (Blk.cell h i).trans (lexCells_cls s a p e i hi)
theorem LexAt.drewN (h : LexAt w L s a p e) (n : Nat) : LexAt (w.drewN n) L s a p e := h
theorem LexAt.alloc (h : LexAt w L s a p e) (o : Obj) : LexAt (w.alloc o) L s a p e := Blk.alloc h o
theorem LexAt.setAt (h : LexAt w L s a p e) (x : Int) : LexAt (w.setCell ⟨L, 257, none⟩ (.int .i64 x)) L s x p e := by
  have := Blk.put h 257 (.int .i64 x)
  rw [show (257 : Nat) = 256 + 1 from rfl, lexCells_set] at this
  exact this
theorem LexAt.setPlace (h : LexAt w L s a p e) (x : Int) : LexAt (w.setCell ⟨L, 258, none⟩ (.int .i64 x)) L s a x e := by
  have := Blk.put h 258 (.int .i64 x)
  rw [show (258 : Nat) = 256 + 2 from rfl, lexCells_set] at this
  exact this
theorem LexAt.setErr (h : LexAt w L s a p e) (x : Int) : LexAt (w.setCell ⟨L, 259, none⟩ (.int .i64 x)) L s a p x := by
  have := Blk.put h 259 (.int .i64 x)
  rw [show (259 : Nat) = 256 + 3 from rfl, lexCells_set] at this
  exact this
theorem LexAt.touch {S : Nat → Prop} {w' : World} (h : LexAt w L s a p e) (ht : Touch S w w') (hn : ¬ S L) : LexAt w' L s a p e := ht.blk h hn
theorem LexAt.lt (h : LexAt w L s a p e) : L < w.heap.size := Blk.lt h
end

theorem lex_reads {w : World} {L : Nat} {s : ByteArray} {a p e : Int} (h : LexAt w L s a p e) : w.cell? ⟨L, 256, none⟩ = some (.string s) ∧ w.cell? ⟨L, 257, none⟩ = some (.int .i64 a) ∧ w.cell? ⟨L, 258, none⟩ = some (.int .i64 p) ∧ w.cell? ⟨L, 259, none⟩ = some (.int .i64 e) ∧
    w.frozen? ⟨L, 257, none⟩ = false ∧ w.frozen? ⟨L, 258, none⟩ = false ∧ w.frozen? ⟨L, 259, none⟩ = false ∧ L < w.heap.size :=
  ⟨h.text, h.at_, h.place, h.err, Blk.frozen h _, Blk.frozen h _, Blk.frozen h _, h.lt⟩

set_option maxHeartbeats 400000 in
theorem fail_any (L : Nat) (s : ByteArray) (a p e pl er : Int) (w : World) (h : LexAt w L s a p e) :
    Calls Try.prog 109 #[.pointer (some ⟨L, 0, none⟩), .int .i64 pl, .int .i64 er] w fun e' w' => e' = .returned (.tuple #[.agg #[.int .i64 0, .string ByteArray.empty, .int .i64 0, .int .i64 0], .bool false]) ∧ LexAt w' L s a pl er ∧ Touch (· = L) w w' := by
  obtain ⟨h1, h2, h3, h4, f1, f2, f3, hL⟩ := lex_reads h
  have H := hid h
  clear h
  go_enter Try.func109, Try.ntmps109
  go_wp2
  refine bodyPost_ret (v := .tuple #[.agg #[.int .i64 0, .string ByteArray.empty, .int .i64 0, .int .i64 0], .bool false]) (by simp [results, Try.results109, go_sem]; rfl) rfl ⟨rfl, ?_, ?_⟩
  · exact ((H.out.setPlace pl).setErr er).alloc _
  · exact (((Touch.refl (· = L) w).setCell (p := ⟨L, 258, none⟩) (.inl rfl) _).setCell (p := ⟨L, 259, none⟩) (.inl rfl) _).alloc _

theorem data_get (s : ByteArray) (k : Nat) (h : k < s.size) : s.data.toList[k]'(by simpa using h) = s[k] := rfl

set_option maxHeartbeats 400000 in
theorem is_any (L : Nat) (s : ByteArray) (a p e : Int) (x c : Int) (w : World) (h : LexAt w L s a p e) (hx : 0 ≤ x) (hc : 0 ≤ c) :
    Calls Try.prog 104 #[.pointer (some ⟨L, 0, none⟩), .int .i64 x, .int .u8 c] w fun e' w' => e' = .returned (.bool (Lx.clsI s.data.toList x.toNat == c)) ∧ ∃ n, w' = w.drewN n := by
  obtain ⟨k, rfl⟩ := Int.eq_ofNat_of_zero_le hx
  have h1 := h.text
  simp only [Int.toNat_natCast]
  by_cases hk : k < s.size
  · have hcl := h.cls s[k].toNat s[k].toNat_lt
    have hr : (Lx.clsI s.data.toList k == c) = (((Lx.cls s[k].toNat : Nat) : Int) == c) := by rw [Lx.clsI_lt _ _ (by simpa using hk)]; rfl
    rw [hr]
    clear hr h
    have hd : decide ((k : Int) < (s.size : Int)) = true := by simp; omega
    have h256 : (s[k].toNat : Int) < 256 := by have := s[k].toNat_lt; omega
    have hk2 : (k : Int) < (s.size : Int) := by omega
    have hk0 : (0 : Int) ≤ (k : Int) := by omega
    go_enter Try.func104, Try.ntmps104
    go_wp2
    go_quiet (fail)
    go_wp2
    go_ret
    exact ⟨rfl, _, rfl⟩
  · have hr : (Lx.clsI s.data.toList k == c) = false := by rw [Lx.clsI_ge _ _ (by simp; omega)]; simp; omega
    rw [hr]
    clear hr h
    have hd : decide ((k : Int) < (s.size : Int)) = false := by simp; omega
    go_enter Try.func104, Try.ntmps104
    go_wp2
    go_quiet (fail)
    go_wp2
    go_ret
    exact ⟨rfl, _, rfl⟩


set_option maxHeartbeats 400000 in
theorem run_any (L : Nat) (s : ByteArray) (a p e : Int) (x c : Int) (w : World) (h : LexAt w L s a p e) (hx : 0 ≤ x) (hc : 0 ≤ c) (hm : s.size ≤ maxLen) :
    Calls Try.prog 61 #[.pointer (some ⟨L, 0, none⟩), .int .i64 x, .int .u8 c] w fun e' w' => e' = .returned (.int .i64 (x.toNat + Lx.runI c s.data.toList x.toNat : Nat)) ∧ ∃ n, w' = w.drewN n := by
  obtain ⟨k, rfl⟩ := Int.eq_ofNat_of_zero_le hx
  simp only [Int.toNat_natCast]
  unfold maxLen at hm
  have H := hid h
  clear h hx
  go_enter Try.func61, Try.ntmps61
  go_wp2
  go_loopw [1] (fun i wr => ∃ j : Nat, i = .int .i64 j ∧ Hid (j + Lx.runI c s.data.toList j = k + Lx.runI c s.data.toList k) ∧ ∃ n, wr = w.drewN n) (fun i _ => s.size - (intOf i).toNat)
  case atStart => exact ⟨k, rfl, rfl, 0, rfl⟩
  case round =>
    obtain ⟨j, rfl, hj, n, rfl⟩ := hrel
    by_cases ht : Lx.clsI s.data.toList j = c
    · obtain ⟨hlt, hs⟩ := Lx.runI_yes c _ j hc ht
      have hlt2 : j < s.size := by simpa using hlt
      have hb : (Lx.clsI s.data.toList j == c) = true := by simpa using ht
      have HS := hid hs
      clear hs ht hlt
      go_wp2_with (go_at_call 104; refine (is_any L s a p e _ _ _ (H.out.drewN _) (by omega) hc).mono ?_; rintro e' w' ⟨rfl, n2, rfl⟩)
      go_roundw
      case rel => exact ⟨j + 1, by go_num, HS.out.trans hj, n + n2, rfl⟩
      case measure => simp [intOf]; omega
    · have hz := Lx.runI_no c _ j ht
      have hb : (Lx.clsI s.data.toList j == c) = false := by simpa using ht
      have HZ := hid hz
      clear hz ht
      go_wp2_with (go_at_call 104; refine (is_any L s a p e _ _ _ (H.out.drewN _) (by omega) hc).mono ?_; rintro e' w' ⟨rfl, n2, rfl⟩)
      go_ret
      exact ⟨ret_int (by rw [← hj.out, HZ.out]; simp), n + n2, rfl⟩

end Go.Proofs.Ytilgpmpiidccjaa

/- The walks of the lexer's methods token, number. -/
namespace Go.Proofs.Ytilgpmpiidccjaa
open Go.RowKit

/-- What a reading's result means for the values that a method hands back and for the lexer behind it. -/
def Means (r : Lx.Res) (a : Nat) (p e : Int) (k : Int) (tx : ByteArray) (f t : Int) (b : Bool) (a' p' e' : Int) : Prop :=
  match r with
  | .ok tk n => k = tk.kind ∧ tx = ⟨tk.text.toArray⟩ ∧ f = a ∧ t = (a + n : Nat) ∧ b = true ∧ a' = (a + n : Nat) ∧ p' = p ∧ e' = e
  | .err i er => k = 0 ∧ tx = ByteArray.empty ∧ f = 0 ∧ t = 0 ∧ b = false ∧ a' = a ∧ p' = (a + i : Nat) ∧ e' = er

/-- How a method of the lexer ends: with a token, or with a failure. -/
def LexRes (w : World) (L : Nat) (s : ByteArray) (a : Nat) (p e : Int) (r : Lx.Res) (e' : Ending) (w' : World) : Prop :=
  ∃ (k : Int) (tx : ByteArray) (f t : Int) (b : Bool) (a' p' e2 : Int), e' = .returned (.tuple #[.agg #[.int .i64 k, .string tx, .int .i64 f, .int .i64 t], .bool b]) ∧
    LexAt w' L s a' p' e2 ∧ Touch (· = L) w w' ∧ Means r a p e k tx f t b a' p' e2

theorem LexRes.drewN {w w' : World} {L : Nat} {s : ByteArray} {a : Nat} {p e : Int} {r : Lx.Res} {e' : Ending} (h : LexRes w L s a p e r e' w') (n : Nat) : LexRes w L s a p e r e' (w'.drewN n) := by
  obtain ⟨k, tx, f, t, b, a', p', e2, rfl, h1, h2, h3⟩ := h
  exact ⟨k, tx, f, t, b, a', p', e2, rfl, h1.drewN n, h2.drewN n, h3⟩
theorem str_of (s : ByteArray) : (⟨s.data.toList.toArray⟩ : ByteArray) = s := rfl
theorem str_nil : (⟨([] : List UInt8).toArray⟩ : ByteArray) = ByteArray.empty := rfl

/-- The end of a method that has laid its result's cells in a block ahead of a call and stored what the call handed back. -/
theorem LexRes.close {w w' : World} {L : Nat} {s : ByteArray} {a : Nat} {p e : Int} {r : Lx.Res} {k : Int} {tx : ByteArray} {f t : Int} {b : Bool} {a' p' e2 : Int} (hL : L < w.heap.size)
    (h1 : LexAt w' L s a' p' e2) (h2 : Touch (· = L) w w') (h3 : Means r a p e k tx f t b a' p' e2) :
    LexRes w L s a p e r (.returned (.tuple #[.agg #[.int .i64 k, .string tx, .int .i64 f, .int .i64 t], .bool b])) (put4 w' w.heap.size (.int .i64 k) (.string tx) (.int .i64 f) (.int .i64 t)) :=
  ⟨k, tx, f, t, b, a', p', e2, rfl, Blk.far4 h1 (by omega) _ _ _ _, h2.put4 (.inr (Nat.le_refl _)) _ _ _ _, h3⟩

set_option maxHeartbeats 400000 in
theorem token_any (L : Nat) (s : ByteArray) (a : Nat) (p e : Int) (k : Int) (kd : Nat) (text : ByteArray) (to_ : Int) (n most : Nat) (mostI : Int) (w : World) (h : LexAt w L s a p e) (hk : k = kd) (ht : to_ = (a + n : Nat)) (hmost : mostI = most) :
    Calls Try.prog 106 #[.pointer (some ⟨L, 0, none⟩), .int .i64 k, .string text, .int .i64 to_, .int .i64 mostI] w (LexRes w L s a p e (Lx.lim most ⟨kd, text.data.toList⟩ n)) := by
  obtain ⟨h1, h2, h3, h4, f1, f2, f3, hL⟩ := lex_reads h
  have H := hid h
  have HK := hid hk
  have HT := hid ht
  clear h hk ht
  by_cases hl : mostI < text.size
  · have hr : Lx.lim most ⟨kd, text.data.toList⟩ n = .err 0 6 := by unfold Lx.lim; rw [if_pos (by simp; omega)]
    rw [hr]
    clear hr hmost
    go_enter Try.func106, Try.ntmps106
    go_wp2_with (go_at_call 109; refine (fail_any L s a p e _ _ _ (H.out.alloc _)).mono ?_; rintro e' w' ⟨rfl, hx, ht⟩; obtain ⟨q0, q1, q2, q3, z0, z1, z2, z3, hg⟩ := Blk.four (ht.blk (Blk.new w _ _) (by omega)); have HX := hid hx; have HT := hid ht; clear hx ht)
    (try simp only [Exit.inBlock, Exit.then])
    refine bodyPost_ret (v := .tuple #[.agg #[.int .i64 0, .string ByteArray.empty, .int .i64 0, .int .i64 0], .bool false]) (by simp [results, Try.results106, go_sem, q0, q1, q2, q3]) rfl ?_
    exact LexRes.close hL HX.out HT.out.pre ⟨rfl, rfl, rfl, rfl, rfl, rfl, rfl, rfl⟩
  · have hr : Lx.lim most ⟨kd, text.data.toList⟩ n = .ok ⟨kd, text.data.toList⟩ n := by unfold Lx.lim; rw [if_neg (by simp; omega)]
    rw [hr]
    clear hr hmost
    go_enter Try.func106, Try.ntmps106
    go_wp2
    refine bodyPost_ret (v := .tuple #[.agg #[.int .i64 k, .string text, .int .i64 a, .int .i64 to_], .bool true]) (by simp [results, Try.results106, go_sem]) rfl ?_
    refine ⟨_, _, _, _, _, to_, p, e, rfl, ?_, ?_, HK.out, rfl, rfl, HT.out, rfl, HT.out, rfl, rfl⟩
    · exact (LexAt.setAt H.out to_).alloc _
    · exact ((Touch.refl (· = L) w).setCell (p := ⟨L, 257, none⟩) (.inl rfl) _).alloc _
end Go.Proofs.Ytilgpmpiidccjaa

/- The walk of the lexer's method number. -/
namespace Go.Proofs.Ytilgpmpiidccjaa
open Go.RowKit

theorem num_i (l : Lx.Bytes) (a m : Nat) (hm : m = a + Lx.runI 2 l a) : Lx.numLen (l.drop a) = if l[m]? = some 46 ∧ Lx.clsI l (m + 1) = 2 then m + 1 + Lx.runI 2 l (m + 1) - a else m - a := by
  subst hm
  have h0 : ∀ k, Lx.runLen 2 (l.drop k) = Lx.runI 2 l k := fun k => by
    unfold Lx.runLen Lx.runI
    have : (Lx.isB 2) = fun b : UInt8 => ((Lx.cls b.toNat : Int) == 2) := by
      funext b
      unfold Lx.isB
      rw [Bool.eq_iff_iff]; simp; omega
    rw [this]
  have h1 : ∀ k, (Lx.isAt 2 (l.drop a) k = true) ↔ Lx.clsI l (a + k) = 2 := fun k => by
    unfold Lx.isAt Lx.clsI
    rw [List.getElem?_drop]
    cases l[a + k]? with
    | none => simp
    | some b => simp [Lx.isB]; omega
  unfold Lx.numLen
  rw [h0, List.getElem?_drop, List.drop_drop, h0]
  simp only [h1, Nat.add_assoc]
  split <;> omega

set_option maxHeartbeats 400000 in
theorem number_any (L : Nat) (s : ByteArray) (a : Nat) (p e : Int) (w : World) (h : LexAt w L s a p e) (hm : s.size ≤ maxLen) (ha : a < s.size) :
    Calls Try.prog 105 #[.pointer (some ⟨L, 0, none⟩)] w (LexRes w L s a p e (Lx.number (s.data.toList.drop a))) := by
  obtain ⟨g1, g2, g3, g4, f1, f2, f3, hL⟩ := lex_reads h
  have HM := hm
  unfold maxLen at hm
  have H := hid h
  clear h
  have hle := Lx.runI_le 2 s.data.toList a
  have hll : s.data.toList.length = s.size := by simp
  rw [hll] at hle
  obtain ⟨m, hmd⟩ : ∃ m, m = a + Lx.runI 2 s.data.toList a := ⟨_, rfl⟩
  have HN := hid (num_i s.data.toList a m hmd)
  have HD := hid hmd
  have am : a ≤ m := by omega
  have ms : m ≤ s.size := by omega
  clear hmd hle
  have fin : ∀ (n : Nat), a ≤ n → n ≤ s.size → Lx.numLen (s.data.toList.drop a) = n - a →
      Lx.lim 20 ⟨2, (s.extract a n).data.toList⟩ (n - a) = Lx.number (s.data.toList.drop a) := fun n hn1 hn2 hnum => by
    unfold Lx.number
    rw [hnum]
    congr 2
    simp [ByteArray.data_extract, Array.toList_extract, List.extract_eq_take_drop]
  by_cases c1 : m < s.size
  · have t1 : decide ((m : Int) < (s.size : Int)) = true := by simp; omega
    have t1' : (m : Int) < (s.size : Int) := by omega
    have t1'' : (0 : Int) ≤ (m : Int) := by omega
    have hlm : s.data.toList[m]? = some s[m] := by rw [List.getElem?_eq_getElem (by omega)]; rfl
    by_cases c2 : s[m] = 46
    · have t2 : ((s[m].toNat : Int) == 46) = true := by rw [c2]; rfl
      by_cases c3 : Lx.clsI s.data.toList (m + 1) = 2
      · have t3 : (Lx.clsI s.data.toList (m + 1) == 2) = true := by simpa using c3
        have hle2 := Lx.runI_le 2 s.data.toList (m + 1)
        have hy := (Lx.runI_yes 2 s.data.toList (m + 1) (by omega) c3).1
        rw [hll] at hle2 hy
        obtain ⟨m2, hm2⟩ : ∃ m2, m2 = m + 1 + Lx.runI 2 s.data.toList (m + 1) := ⟨_, rfl⟩
        have HM2 := hid hm2
        have hn : Lx.numLen (s.data.toList.drop a) = m2 - a := by
          rw [HN.out, if_pos ⟨by rw [hlm, c2], c3⟩, ← hm2]
        have am2 : a ≤ m2 := by omega
        have ms2 : m2 ≤ s.size := by omega
        have hfin := hid (fin m2 am2 ms2 hn)
        clear hlm c2 c3 hll hy hm2 hle2
        clear fin hn
        go_enter Try.func105, Try.ntmps105
        go_wp2_with fail
        refine (run_any L s a p e _ 2 _ (H.out.alloc _) (by omega) (by omega) HM).mono ?_
        rintro e' w' ⟨rfl, n1, rfl⟩
        rw [Int.toNat_natCast, ← HD.out]
        go_wp2_with fail
        refine (is_any L s a p e _ 2 _ ((H.out.alloc _).drewN _) (by omega) (by omega)).mono ?_
        rintro e' w' ⟨rfl, n2, rfl⟩
        rw [show ((m : Int) + 1).toNat = m + 1 from by omega]
        go_wp2_with fail
        refine (run_any L s a p e _ 2 _ ((H.out.alloc _).drewN _) (by omega) (by omega) HM).mono ?_
        rintro e' w' ⟨rfl, n3, rfl⟩
        rw [show ((m : Int) + 1).toNat = m + 1 from by omega, ← HM2.out]
        go_wp2_with fail
        refine wp_region_segs [([0,1,2,3,4,5,6,7,8,9,10,11],12), ([13,14],15)] [16] (by kernel_rfl) (by kernel_rfl) ?_
        simp only [wpSegs, pick, List.getElem?_cons_zero, List.getElem?_cons_succ]
        repeat (quiet_step (fail))
        refine wpQuiet_nil ?_
        rintro _ ⟨nq, rfl⟩
        go_wp2_with fail
        refine (token_any L s a p e _ 2 _ _ (m2 - a) 20 _ _ ((H.out.alloc _).drewN _) rfl (by rw [Nat.add_sub_cancel' (by omega)]) rfl).mono ?_
        rintro e' w' ⟨k, tx, f, t, b, a', p', e2, rfl, hx, ht, hmn⟩
        obtain ⟨q0, q1, q2, q3, z0, z1, z2, z3, hg⟩ := Blk.four (ht.blk ((Blk.new w _ _).drewN _) (by omega))
        have HX := hid hx
        have HT2 := hid ht
        have HMN := hid hmn
        clear hx ht hmn
        go_wp2_with fail
        repeat (quiet_step (fail))
        refine wpQuiet_nil ?_
        rintro _ ⟨nq2, rfl⟩
        go_wp2
        repeat (quiet_step (fail))
        refine wpQuiet_nil ?_
        rintro _ ⟨nq3, rfl⟩
        go_wp2
        (try simp only [Exit.inBlock, Exit.then])
        refine bodyPost_ret (v := .tuple #[.agg #[.int .i64 k, .string tx, .int .i64 f, .int .i64 t], .bool b]) (by simp [results, Try.results105, go_sem, q0, q1, q2, q3]) rfl ?_
        rw [← hfin.out]
        exact (LexRes.close hL (HX.out.drewN _) (HT2.out.preN.drewN _) HMN.out).drewN _
      · have t3 : (Lx.clsI s.data.toList (m + 1) == 2) = false := by simpa using c3
        have hn : Lx.numLen (s.data.toList.drop a) = m - a := by
          rw [HN.out, if_neg (fun hx => c3 hx.2)]
        have hfin := hid (fin m am ms hn)
        clear hlm c2 c3 hll
        clear fin hn
        go_enter Try.func105, Try.ntmps105
        go_wp2_with fail
        refine (run_any L s a p e _ 2 _ (H.out.alloc _) (by omega) (by omega) HM).mono ?_
        rintro e' w' ⟨rfl, n1, rfl⟩
        rw [Int.toNat_natCast, ← HD.out]
        go_wp2_with fail
        refine (is_any L s a p e _ 2 _ ((H.out.alloc _).drewN _) (by omega) (by omega)).mono ?_
        rintro e' w' ⟨rfl, n2, rfl⟩
        rw [show ((m : Int) + 1).toNat = m + 1 from by omega]
        go_wp2_with fail
        refine wp_region_segs [([0,1,2,3,4,5,6,7,8,9,10,11],12), ([13,14],15)] [16] (by kernel_rfl) (by kernel_rfl) ?_
        simp only [wpSegs, pick, List.getElem?_cons_zero, List.getElem?_cons_succ]
        repeat (quiet_step (fail))
        refine wpQuiet_nil ?_
        rintro _ ⟨nq, rfl⟩
        go_wp2_with fail
        refine (token_any L s a p e _ 2 _ _ (m - a) 20 _ _ ((H.out.alloc _).drewN _) rfl (by rw [Nat.add_sub_cancel' (by omega)]) rfl).mono ?_
        rintro e' w' ⟨k, tx, f, t, b, a', p', e2, rfl, hx, ht, hmn⟩
        obtain ⟨q0, q1, q2, q3, z0, z1, z2, z3, hg⟩ := Blk.four (ht.blk ((Blk.new w _ _).drewN _) (by omega))
        have HX := hid hx
        have HT2 := hid ht
        have HMN := hid hmn
        clear hx ht hmn
        go_wp2_with fail
        repeat (quiet_step (fail))
        refine wpQuiet_nil ?_
        rintro _ ⟨nq2, rfl⟩
        go_wp2
        repeat (quiet_step (fail))
        refine wpQuiet_nil ?_
        rintro _ ⟨nq3, rfl⟩
        go_wp2
        (try simp only [Exit.inBlock, Exit.then])
        refine bodyPost_ret (v := .tuple #[.agg #[.int .i64 k, .string tx, .int .i64 f, .int .i64 t], .bool b]) (by simp [results, Try.results105, go_sem, q0, q1, q2, q3]) rfl ?_
        rw [← hfin.out]
        exact (LexRes.close hL (HX.out.drewN _) (HT2.out.preN.drewN _) HMN.out).drewN _
    · have t2 : ((s[m].toNat : Int) == 46) = false := by
        rw [beq_eq_false_iff_ne]; intro hx; exact c2 (UInt8.toNat_inj.1 (by simp; omega))
      have hn : Lx.numLen (s.data.toList.drop a) = m - a := by
        rw [HN.out, if_neg (fun hx => c2 (by rw [hlm] at hx; simpa using hx.1))]
      have hfin := hid (fin m am ms hn)
      clear hlm c2 hll
      clear fin hn
      go_enter Try.func105, Try.ntmps105
      go_wp2_with fail
      refine (run_any L s a p e _ 2 _ (H.out.alloc _) (by omega) (by omega) HM).mono ?_
      rintro e' w' ⟨rfl, n1, rfl⟩
      rw [Int.toNat_natCast, ← HD.out]
      go_wp2_with fail
      refine wp_region_segs [([0,1,2,3,4,5,6,7,8,9,10,11],12), ([13,14],15)] [16] (by kernel_rfl) (by kernel_rfl) ?_
      simp only [wpSegs, pick, List.getElem?_cons_zero, List.getElem?_cons_succ]
      repeat (quiet_step (fail))
      refine wpQuiet_nil ?_
      rintro _ ⟨nq, rfl⟩
      go_wp2_with fail
      refine (token_any L s a p e _ 2 _ _ (m - a) 20 _ _ ((H.out.alloc _).drewN _) rfl (by rw [Nat.add_sub_cancel' (by omega)]) rfl).mono ?_
      rintro e' w' ⟨k, tx, f, t, b, a', p', e2, rfl, hx, ht, hmn⟩
      obtain ⟨q0, q1, q2, q3, z0, z1, z2, z3, hg⟩ := Blk.four (ht.blk ((Blk.new w _ _).drewN _) (by omega))
      have HX := hid hx
      have HT2 := hid ht
      have HMN := hid hmn
      clear hx ht hmn
      go_wp2_with fail
      repeat (quiet_step (fail))
      refine wpQuiet_nil ?_
      rintro _ ⟨nq2, rfl⟩
      go_wp2
      repeat (quiet_step (fail))
      refine wpQuiet_nil ?_
      rintro _ ⟨nq3, rfl⟩
      go_wp2
      (try simp only [Exit.inBlock, Exit.then])
      refine bodyPost_ret (v := .tuple #[.agg #[.int .i64 k, .string tx, .int .i64 f, .int .i64 t], .bool b]) (by simp [results, Try.results105, go_sem, q0, q1, q2, q3]) rfl ?_
      rw [← hfin.out]
      exact (LexRes.close hL (HX.out.drewN _) (HT2.out.preN.drewN _) HMN.out).drewN _
  · have hn : Lx.numLen (s.data.toList.drop a) = m - a := by
      rw [HN.out, if_neg]
      rintro ⟨h1, _⟩
      rw [List.getElem?_eq_none (by omega)] at h1
      cases h1
    have hfin := hid (fin m am ms hn)
    have t1 : decide ((m : Int) < (s.size : Int)) = false := by simp; omega
    clear hll
    clear fin hn
    go_enter Try.func105, Try.ntmps105
    go_wp2_with fail
    refine (run_any L s a p e _ 2 _ (H.out.alloc _) (by omega) (by omega) HM).mono ?_
    rintro e' w' ⟨rfl, n1, rfl⟩
    rw [Int.toNat_natCast, ← HD.out]
    go_wp2_with fail
    refine wp_region_segs [([0,1,2,3,4,5,6,7,8,9,10,11],12), ([13,14],15)] [16] (by kernel_rfl) (by kernel_rfl) ?_
    simp only [wpSegs, pick, List.getElem?_cons_zero, List.getElem?_cons_succ]
    repeat (quiet_step (fail))
    refine wpQuiet_nil ?_
    rintro _ ⟨nq, rfl⟩
    go_wp2_with fail
    refine (token_any L s a p e _ 2 _ _ (m - a) 20 _ _ ((H.out.alloc _).drewN _) rfl (by rw [Nat.add_sub_cancel' (by omega)]) rfl).mono ?_
    rintro e' w' ⟨k, tx, f, t, b, a', p', e2, rfl, hx, ht, hmn⟩
    obtain ⟨q0, q1, q2, q3, z0, z1, z2, z3, hg⟩ := Blk.four (ht.blk ((Blk.new w _ _).drewN _) (by omega))
    have HX := hid hx
    have HT2 := hid ht
    have HMN := hid hmn
    clear hx ht hmn
    go_wp2_with fail
    repeat (quiet_step (fail))
    refine wpQuiet_nil ?_
    rintro _ ⟨nq2, rfl⟩
    go_wp2
    repeat (quiet_step (fail))
    refine wpQuiet_nil ?_
    rintro _ ⟨nq3, rfl⟩
    go_wp2
    (try simp only [Exit.inBlock, Exit.then])
    refine bodyPost_ret (v := .tuple #[.agg #[.int .i64 k, .string tx, .int .i64 f, .int .i64 t], .bool b]) (by simp [results, Try.results105, go_sem, q0, q1, q2, q3]) rfl ?_
    rw [← hfin.out]
    exact (LexRes.close hL (HX.out.drewN _) (HT2.out.preN.drewN _) HMN.out).drewN _
end Go.Proofs.Ytilgpmpiidccjaa

/- The walk of the lexer's method next. -/
namespace Go.Proofs.Ytilgpmpiidccjaa
open Go.RowKit

theorem token_as (L : Nat) (s : ByteArray) (a : Nat) (p e : Int) (k : Int) (kd : Nat) (text : ByteArray) (to_ : Int) (n most : Nat) (mostI : Int) (w : World) (r : Lx.Res) (hr : Lx.lim most ⟨kd, text.data.toList⟩ n = r) (h : LexAt w L s a p e) (hk : k = kd) (ht : to_ = (a + n : Nat)) (hmost : mostI = most) :
    Calls Try.prog 106 #[.pointer (some ⟨L, 0, none⟩), .int .i64 k, .string text, .int .i64 to_, .int .i64 mostI] w (LexRes w L s a p e r) := by
  subst hr
  exact token_any L s a p e k kd text to_ n most mostI w h hk ht hmost
theorem fail_as (L : Nat) (s : ByteArray) (a : Nat) (p e : Int) (pl er : Int) (i erN : Nat) (w : World) (r : Lx.Res) (hr : Lx.Res.err i erN = r) (h : LexAt w L s a p e) (hp : pl = (a + i : Nat)) (he : er = erN) :
    Calls Try.prog 109 #[.pointer (some ⟨L, 0, none⟩), .int .i64 pl, .int .i64 er] w (LexRes w L s a p e r) := by
  subst hr hp he
  exact (fail_any L s a p e _ _ w h).mono fun e' w' ⟨h1, h2, h3⟩ => ⟨_, _, _, _, _, _, _, _, h1, h2, h3, rfl, rfl, rfl, rfl, rfl, rfl, rfl, rfl⟩

theorem one_byte (s : ByteArray) (a : Nat) (h : a < s.size) : (s.extract a (a + 1)).data.toList = [s[a]] := by
  have h1 : s.data.toList.drop a = s[a] :: s.data.toList.drop (a + 1) := List.drop_eq_getElem_cons (by simpa using h)
  simp [ByteArray.data_extract, Array.toList_extract, List.extract_eq_take_drop, h1]
theorem one_byte_eq (s : ByteArray) (a : Nat) (h : a < s.size) (x : UInt8) : ((s.extract a (a + 1)).toList == [x]) = (s[a] == x) := by
  have h1 : (s.extract a (a + 1)).toList = [s[a]] := by rw [ByteArray.toList_eq]; exact one_byte s a h
  rw [h1]
  simp

theorem utf8_digit (d : UInt8) (h1 : 49 ≤ d.toNat) (h2 : d.toNat ≤ 52) : (Utf8.encode (d.toNat : Int)).data.toList = [d] := by
  have : d.toNat = 49 ∨ d.toNat = 50 ∨ d.toNat = 51 ∨ d.toNat = 52 := by omega
  rcases this with h | h | h | h <;> (have hd := UInt8.toNat_inj.1 (show d.toNat = (UInt8.ofNat d.toNat).toNat by simp); rw [h] at hd; subst hd; decide +kernel)

set_option maxRecDepth 100000 in
set_option maxHeartbeats 400000 in
theorem next_number (L : Nat) (s : ByteArray) (a : Nat) (p e : Int) (w : World) (h : LexAt w L s a p e) (hm : s.size ≤ maxLen) (ha : a < s.size) (r : Lx.Res) (F2 : (Lx.clsI s.data.toList a == 2) = true) (hr : Lx.number (s.data.toList.drop a) = r) :
    Calls Try.prog 62 #[.pointer (some ⟨L, 0, none⟩)] w (LexRes w L s a p e r) := by
  obtain ⟨g1, g2, g3, g4, f1, f2, f3, hL⟩ := lex_reads h
  have HM := hm
  have _ha := ha
  unfold maxLen at hm
  have H := hid h
  clear h
  have a0 : (0 : Int) ≤ (a : Int) := by omega
  have a1 : (a : Int) < (s.size : Int) := by omega
  have a2 : (a : Int) + 1 ≤ (s.size : Int) := by omega
  go_enter Try.func62, Try.ntmps62
  go_wp2_with (go_at_call 104; refine (is_any L s a p e _ _ _ (by first | exact H.out.alloc _ | exact (H.out.alloc _).drewN _) (by omega) (by omega)).mono ?_; rintro e' w' ⟨rfl, n, rfl⟩)
  all_goals
    refine ((hr ▸ number_any L s a p e _ ((H.out.alloc _).drewN _) HM ha)).mono ?_
    rintro e' w' ⟨k, tx, f, t, b, a', p', e2, rfl, hx, ht, hmn⟩
    obtain ⟨q0, q1, q2, q3, z0, z1, z2, z3, hg⟩ := Blk.four (ht.blk ((Blk.new w _ _).drewN _) (by omega))
    have HX := hid hx
    have HT := hid ht
    have HMN := hid hmn
    clear hx ht hmn
    go_wp2_with fail
    (try simp only [Exit.inBlock, Exit.then])
    refine bodyPost_ret (v := .tuple #[.agg #[.int .i64 k, .string tx, .int .i64 f, .int .i64 t], .bool b]) (by simp [results, Try.results62, go_sem, q0, q1, q2, q3]) rfl ?_
    exact LexRes.close hL HX.out HT.out.preN HMN.out

set_option maxRecDepth 100000 in
set_option maxHeartbeats 400000 in
theorem next_mark (L : Nat) (s : ByteArray) (a : Nat) (p e : Int) (w : World) (h : LexAt w L s a p e) (hm : s.size ≤ maxLen) (ha : a < s.size) (r : Lx.Res) (F2 : (Lx.clsI s.data.toList a == 2) = false) (F5 : (Lx.clsI s.data.toList a == 5) = true) (hr : Lx.lim 1 ⟨7, (s.extract a (a + 1)).data.toList⟩ 1 = r) :
    Calls Try.prog 62 #[.pointer (some ⟨L, 0, none⟩)] w (LexRes w L s a p e r) := by
  obtain ⟨g1, g2, g3, g4, f1, f2, f3, hL⟩ := lex_reads h
  have HM := hm
  have _ha := ha
  unfold maxLen at hm
  have H := hid h
  clear h
  have a0 : (0 : Int) ≤ (a : Int) := by omega
  have a1 : (a : Int) < (s.size : Int) := by omega
  have a2 : (a : Int) + 1 ≤ (s.size : Int) := by omega
  go_enter Try.func62, Try.ntmps62
  go_wp2_with (go_at_call 104; refine (is_any L s a p e _ _ _ (by first | exact H.out.alloc _ | exact (H.out.alloc _).drewN _) (by omega) (by omega)).mono ?_; rintro e' w' ⟨rfl, n, rfl⟩)
  all_goals
    refine (token_as L s a p e _ 7 _ _ 1 1 _ _ r hr ((H.out.alloc _).drewN _) rfl rfl rfl).mono ?_
    rintro e' w' ⟨k, tx, f, t, b, a', p', e2, rfl, hx, ht, hmn⟩
    obtain ⟨q0, q1, q2, q3, z0, z1, z2, z3, hg⟩ := Blk.four (ht.blk ((Blk.new w _ _).drewN _) (by omega))
    have HX := hid hx
    have HT := hid ht
    have HMN := hid hmn
    clear hx ht hmn
    go_wp2_with fail
    (try simp only [Exit.inBlock, Exit.then])
    refine bodyPost_ret (v := .tuple #[.agg #[.int .i64 k, .string tx, .int .i64 f, .int .i64 t], .bool b]) (by simp [results, Try.results62, go_sem, q0, q1, q2, q3]) rfl ?_
    exact LexRes.close hL HX.out HT.out.preN HMN.out

set_option maxRecDepth 100000 in
set_option maxHeartbeats 400000 in
theorem next_quoted (L : Nat) (s : ByteArray) (a : Nat) (p e : Int) (w : World) (h : LexAt w L s a p e) (hm : s.size ≤ maxLen) (ha : a < s.size) (r : Lx.Res) (F2 : (Lx.clsI s.data.toList a == 2) = false) (F5 : (Lx.clsI s.data.toList a == 5) = false) (C34 : ((s.extract a (a + 1)).toList == [34]) = true) (hq : ∀ w : World, LexAt w L s a p e → Calls Try.prog 107 #[.pointer (some ⟨L, 0, none⟩)] w (LexRes w L s a p e r)) :
    Calls Try.prog 62 #[.pointer (some ⟨L, 0, none⟩)] w (LexRes w L s a p e r) := by
  obtain ⟨g1, g2, g3, g4, f1, f2, f3, hL⟩ := lex_reads h
  have HM := hm
  have _ha := ha
  unfold maxLen at hm
  have H := hid h
  clear h
  have a0 : (0 : Int) ≤ (a : Int) := by omega
  have a1 : (a : Int) < (s.size : Int) := by omega
  have a2 : (a : Int) + 1 ≤ (s.size : Int) := by omega
  have HQ := hid hq
  clear hq
  go_enter Try.func62, Try.ntmps62
  go_wp2_with (go_at_call 104; refine (is_any L s a p e _ _ _ (by first | exact H.out.alloc _ | exact (H.out.alloc _).drewN _) (by omega) (by omega)).mono ?_; rintro e' w' ⟨rfl, n, rfl⟩)
  all_goals
    refine (HQ.out _ ((H.out.alloc _).drewN _)).mono ?_
    rintro e' w' ⟨k, tx, f, t, b, a', p', e2, rfl, hx, ht, hmn⟩
    obtain ⟨q0, q1, q2, q3, z0, z1, z2, z3, hg⟩ := Blk.four (ht.blk ((Blk.new w _ _).drewN _) (by omega))
    have HX := hid hx
    have HT := hid ht
    have HMN := hid hmn
    clear hx ht hmn
    go_wp2_with fail
    (try simp only [Exit.inBlock, Exit.then])
    refine bodyPost_ret (v := .tuple #[.agg #[.int .i64 k, .string tx, .int .i64 f, .int .i64 t], .bool b]) (by simp [results, Try.results62, go_sem, q0, q1, q2, q3]) rfl ?_
    exact LexRes.close hL HX.out HT.out.preN HMN.out

set_option maxRecDepth 100000 in
set_option maxHeartbeats 400000 in
theorem next_break (L : Nat) (s : ByteArray) (a : Nat) (p e : Int) (w : World) (h : LexAt w L s a p e) (hm : s.size ≤ maxLen) (ha : a < s.size) (r : Lx.Res) (F2 : (Lx.clsI s.data.toList a == 2) = false) (F5 : (Lx.clsI s.data.toList a == 5) = false) (C34 : ((s.extract a (a + 1)).toList == [34]) = false) (C92 : ((s.extract a (a + 1)).toList == [92]) = true) (hs : a + 1 < s.size) (De92 : (((s[a + 1]'hs).toNat : Int) == 92) = true) (hr : Lx.lim 2 ⟨8, (⟨#[92, 92]⟩ : ByteArray).data.toList⟩ 2 = r) :
    Calls Try.prog 62 #[.pointer (some ⟨L, 0, none⟩)] w (LexRes w L s a p e r) := by
  obtain ⟨g1, g2, g3, g4, f1, f2, f3, hL⟩ := lex_reads h
  have HM := hm
  have _ha := ha
  unfold maxLen at hm
  have H := hid h
  clear h
  have a0 : (0 : Int) ≤ (a : Int) := by omega
  have a1 : (a : Int) < (s.size : Int) := by omega
  have a2 : (a : Int) + 1 ≤ (s.size : Int) := by omega
  have S1 : decide ((a : Int) + 1 < (s.size : Int)) = true := by simp; omega
  have S2 : (a : Int) + 1 < (s.size : Int) := by omega
  have S3 : (0 : Int) ≤ (a : Int) + 1 := by omega
  go_enter Try.func62, Try.ntmps62
  go_wp2_with (go_at_call 104; refine (is_any L s a p e _ _ _ (by first | exact H.out.alloc _ | exact (H.out.alloc _).drewN _) (by omega) (by omega)).mono ?_; rintro e' w' ⟨rfl, n, rfl⟩)
  all_goals
    refine (token_as L s a p e _ 8 _ _ 2 2 _ _ r hr ((H.out.alloc _).drewN _) rfl rfl rfl).mono ?_
    rintro e' w' ⟨k, tx, f, t, b, a', p', e2, rfl, hx, ht, hmn⟩
    obtain ⟨q0, q1, q2, q3, z0, z1, z2, z3, hg⟩ := Blk.four (ht.blk ((Blk.new w _ _).drewN _) (by omega))
    have HX := hid hx
    have HT := hid ht
    have HMN := hid hmn
    clear hx ht hmn
    go_wp2_with fail
    (try simp only [Exit.inBlock, Exit.then])
    refine bodyPost_ret (v := .tuple #[.agg #[.int .i64 k, .string tx, .int .i64 f, .int .i64 t], .bool b]) (by simp [results, Try.results62, go_sem, q0, q1, q2, q3]) rfl ?_
    exact LexRes.close hL HX.out HT.out.preN HMN.out

set_option maxRecDepth 100000 in
set_option maxHeartbeats 400000 in
theorem next_name (L : Nat) (s : ByteArray) (a : Nat) (p e : Int) (w : World) (h : LexAt w L s a p e) (hm : s.size ≤ maxLen) (ha : a < s.size) (r : Lx.Res) (F2 : (Lx.clsI s.data.toList a == 2) = false) (F5 : (Lx.clsI s.data.toList a == 5) = false) (C34 : ((s.extract a (a + 1)).toList == [34]) = false) (C92 : ((s.extract a (a + 1)).toList == [92]) = true) (hs : a + 1 < s.size) (De92 : (((s[a + 1]'hs).toNat : Int) == 92) = false) (N3 : (Lx.clsI s.data.toList (a + 1) == 3) = true) (hq : ∀ w : World, LexAt w L s a p e → Calls Try.prog 108 #[.pointer (some ⟨L, 0, none⟩)] w (LexRes w L s a p e r)) :
    Calls Try.prog 62 #[.pointer (some ⟨L, 0, none⟩)] w (LexRes w L s a p e r) := by
  obtain ⟨g1, g2, g3, g4, f1, f2, f3, hL⟩ := lex_reads h
  have HM := hm
  have _ha := ha
  unfold maxLen at hm
  have H := hid h
  clear h
  have a0 : (0 : Int) ≤ (a : Int) := by omega
  have a1 : (a : Int) < (s.size : Int) := by omega
  have a2 : (a : Int) + 1 ≤ (s.size : Int) := by omega
  have S1 : decide ((a : Int) + 1 < (s.size : Int)) = true := by simp; omega
  have S2 : (a : Int) + 1 < (s.size : Int) := by omega
  have S3 : (0 : Int) ≤ (a : Int) + 1 := by omega
  have N3' : (Lx.clsI s.data.toList ((a : Int) + 1).toNat == 3) = true := by rw [show ((a : Int) + 1).toNat = a + 1 from by omega]; exact N3
  have HQ := hid hq
  clear hq
  go_enter Try.func62, Try.ntmps62
  go_wp2_with (go_at_call 104; refine (is_any L s a p e _ _ _ (by first | exact H.out.alloc _ | exact (H.out.alloc _).drewN _) (by omega) (by omega)).mono ?_; rintro e' w' ⟨rfl, n, rfl⟩)
  all_goals
    refine (HQ.out _ ((H.out.alloc _).drewN _)).mono ?_
    rintro e' w' ⟨k, tx, f, t, b, a', p', e2, rfl, hx, ht, hmn⟩
    obtain ⟨q0, q1, q2, q3, z0, z1, z2, z3, hg⟩ := Blk.four (ht.blk ((Blk.new w _ _).drewN _) (by omega))
    have HX := hid hx
    have HT := hid ht
    have HMN := hid hmn
    clear hx ht hmn
    go_wp2_with fail
    (try simp only [Exit.inBlock, Exit.then])
    refine bodyPost_ret (v := .tuple #[.agg #[.int .i64 k, .string tx, .int .i64 f, .int .i64 t], .bool b]) (by simp [results, Try.results62, go_sem, q0, q1, q2, q3]) rfl ?_
    exact LexRes.close hL HX.out HT.out.preN HMN.out

set_option maxRecDepth 100000 in
set_option maxHeartbeats 400000 in
theorem next_slash_a (L : Nat) (s : ByteArray) (a : Nat) (p e : Int) (w : World) (h : LexAt w L s a p e) (hm : s.size ≤ maxLen) (ha : a < s.size) (r : Lx.Res) (F2 : (Lx.clsI s.data.toList a == 2) = false) (F5 : (Lx.clsI s.data.toList a == 5) = false) (C34 : ((s.extract a (a + 1)).toList == [34]) = false) (C92 : ((s.extract a (a + 1)).toList == [92]) = true) (C35 : ((s.extract a (a + 1)).toList == [35]) = false) (hs : a + 1 < s.size) (De92 : (((s[a + 1]'hs).toNat : Int) == 92) = false) (N3 : (Lx.clsI s.data.toList (a + 1) == 3) = false) (F3 : (Lx.clsI s.data.toList a == 3) = false) (F4 : (Lx.clsI s.data.toList a == 4) = false) (hr : Lx.Res.err 0 3 = r) :
    Calls Try.prog 62 #[.pointer (some ⟨L, 0, none⟩)] w (LexRes w L s a p e r) := by
  obtain ⟨g1, g2, g3, g4, f1, f2, f3, hL⟩ := lex_reads h
  have HM := hm
  have _ha := ha
  unfold maxLen at hm
  have H := hid h
  clear h
  have a0 : (0 : Int) ≤ (a : Int) := by omega
  have a1 : (a : Int) < (s.size : Int) := by omega
  have a2 : (a : Int) + 1 ≤ (s.size : Int) := by omega
  have S1 : decide ((a : Int) + 1 < (s.size : Int)) = true := by simp; omega
  have S2 : (a : Int) + 1 < (s.size : Int) := by omega
  have S3 : (0 : Int) ≤ (a : Int) + 1 := by omega
  have N3' : (Lx.clsI s.data.toList ((a : Int) + 1).toNat == 3) = false := by rw [show ((a : Int) + 1).toNat = a + 1 from by omega]; exact N3
  go_enter Try.func62, Try.ntmps62
  go_wp2_with (go_at_call 104; refine (is_any L s a p e _ _ _ (by first | exact H.out.alloc _ | exact (H.out.alloc _).drewN _) (by omega) (by omega)).mono ?_; rintro e' w' ⟨rfl, n, rfl⟩)
  all_goals
    refine (fail_as L s a p e _ _ 0 3 _ r hr ((H.out.alloc _).drewN _) rfl rfl).mono ?_
    rintro e' w' ⟨k, tx, f, t, b, a', p', e2, rfl, hx, ht, hmn⟩
    obtain ⟨q0, q1, q2, q3, z0, z1, z2, z3, hg⟩ := Blk.four (ht.blk ((Blk.new w _ _).drewN _) (by omega))
    have HX := hid hx
    have HT := hid ht
    have HMN := hid hmn
    clear hx ht hmn
    go_wp2_with fail
    (try simp only [Exit.inBlock, Exit.then])
    refine bodyPost_ret (v := .tuple #[.agg #[.int .i64 k, .string tx, .int .i64 f, .int .i64 t], .bool b]) (by simp [results, Try.results62, go_sem, q0, q1, q2, q3]) rfl ?_
    exact LexRes.close hL HX.out HT.out.preN HMN.out

set_option maxRecDepth 100000 in
set_option maxHeartbeats 400000 in
theorem next_slash_b (L : Nat) (s : ByteArray) (a : Nat) (p e : Int) (w : World) (h : LexAt w L s a p e) (hm : s.size ≤ maxLen) (ha : a < s.size) (r : Lx.Res) (F2 : (Lx.clsI s.data.toList a == 2) = false) (F5 : (Lx.clsI s.data.toList a == 5) = false) (C34 : ((s.extract a (a + 1)).toList == [34]) = false) (C92 : ((s.extract a (a + 1)).toList == [92]) = true) (C35 : ((s.extract a (a + 1)).toList == [35]) = false) (hs : ¬ a + 1 < s.size) (N3 : (Lx.clsI s.data.toList (a + 1) == 3) = false) (F3 : (Lx.clsI s.data.toList a == 3) = false) (F4 : (Lx.clsI s.data.toList a == 4) = false) (hr : Lx.Res.err 0 3 = r) :
    Calls Try.prog 62 #[.pointer (some ⟨L, 0, none⟩)] w (LexRes w L s a p e r) := by
  obtain ⟨g1, g2, g3, g4, f1, f2, f3, hL⟩ := lex_reads h
  have HM := hm
  have _ha := ha
  unfold maxLen at hm
  have H := hid h
  clear h
  have a0 : (0 : Int) ≤ (a : Int) := by omega
  have a1 : (a : Int) < (s.size : Int) := by omega
  have a2 : (a : Int) + 1 ≤ (s.size : Int) := by omega
  have S1 : decide ((a : Int) + 1 < (s.size : Int)) = false := by simp; omega
  have N3' : (Lx.clsI s.data.toList ((a : Int) + 1).toNat == 3) = false := by rw [show ((a : Int) + 1).toNat = a + 1 from by omega]; exact N3
  go_enter Try.func62, Try.ntmps62
  go_wp2_with (go_at_call 104; refine (is_any L s a p e _ _ _ (by first | exact H.out.alloc _ | exact (H.out.alloc _).drewN _) (by omega) (by omega)).mono ?_; rintro e' w' ⟨rfl, n, rfl⟩)
  all_goals
    refine (fail_as L s a p e _ _ 0 3 _ r hr ((H.out.alloc _).drewN _) rfl rfl).mono ?_
    rintro e' w' ⟨k, tx, f, t, b, a', p', e2, rfl, hx, ht, hmn⟩
    obtain ⟨q0, q1, q2, q3, z0, z1, z2, z3, hg⟩ := Blk.four (ht.blk ((Blk.new w _ _).drewN _) (by omega))
    have HX := hid hx
    have HT := hid ht
    have HMN := hid hmn
    clear hx ht hmn
    go_wp2_with fail
    (try simp only [Exit.inBlock, Exit.then])
    refine bodyPost_ret (v := .tuple #[.agg #[.int .i64 k, .string tx, .int .i64 f, .int .i64 t], .bool b]) (by simp [results, Try.results62, go_sem, q0, q1, q2, q3]) rfl ?_
    exact LexRes.close hL HX.out HT.out.preN HMN.out

set_option maxRecDepth 100000 in
set_option maxHeartbeats 400000 in
theorem next_param (L : Nat) (s : ByteArray) (a : Nat) (p e : Int) (w : World) (h : LexAt w L s a p e) (hm : s.size ≤ maxLen) (ha : a < s.size) (r : Lx.Res) (F2 : (Lx.clsI s.data.toList a == 2) = false) (F5 : (Lx.clsI s.data.toList a == 5) = false) (C34 : ((s.extract a (a + 1)).toList == [34]) = false) (C92 : ((s.extract a (a + 1)).toList == [92]) = false) (C35 : ((s.extract a (a + 1)).toList == [35]) = true) (hs : a + 1 < s.size) (Dg49 : decide (49 ≤ ((s[a + 1]'hs).toNat : Int)) = true) (Dl52 : decide (((s[a + 1]'hs).toNat : Int) ≤ 52) = true) (hr : Lx.lim 1 ⟨6, (Utf8.encode (wrap32 ((s[a + 1]'hs).toNat : Int))).data.toList⟩ 2 = r) :
    Calls Try.prog 62 #[.pointer (some ⟨L, 0, none⟩)] w (LexRes w L s a p e r) := by
  obtain ⟨g1, g2, g3, g4, f1, f2, f3, hL⟩ := lex_reads h
  have HM := hm
  have _ha := ha
  unfold maxLen at hm
  have H := hid h
  clear h
  have a0 : (0 : Int) ≤ (a : Int) := by omega
  have a1 : (a : Int) < (s.size : Int) := by omega
  have a2 : (a : Int) + 1 ≤ (s.size : Int) := by omega
  have S1 : decide ((a : Int) + 1 < (s.size : Int)) = true := by simp; omega
  have S2 : (a : Int) + 1 < (s.size : Int) := by omega
  have S3 : (0 : Int) ≤ (a : Int) + 1 := by omega
  go_enter Try.func62, Try.ntmps62
  go_wp2_with (go_at_call 104; refine (is_any L s a p e _ _ _ (by first | exact H.out.alloc _ | exact (H.out.alloc _).drewN _) (by omega) (by omega)).mono ?_; rintro e' w' ⟨rfl, n, rfl⟩)
  all_goals
    generalize Utf8.encode (wrap32 ((s[a + 1]'hs).toNat : Int)) = tx0 at hr ⊢
    refine (token_as L s a p e _ 6 _ _ 2 1 _ _ r hr ((H.out.alloc _).drewN _) rfl rfl rfl).mono ?_
    rintro e' w' ⟨k, tx, f, t, b, a', p', e2, rfl, hx, ht, hmn⟩
    obtain ⟨q0, q1, q2, q3, z0, z1, z2, z3, hg⟩ := Blk.four (ht.blk ((Blk.new w _ _).drewN _) (by omega))
    have HX := hid hx
    have HT := hid ht
    have HMN := hid hmn
    clear hx ht hmn
    go_wp2_with fail
    (try simp only [Exit.inBlock, Exit.then])
    refine bodyPost_ret (v := .tuple #[.agg #[.int .i64 k, .string tx, .int .i64 f, .int .i64 t], .bool b]) (by simp [results, Try.results62, go_sem, q0, q1, q2, q3]) rfl ?_
    exact LexRes.close hL HX.out HT.out.preN HMN.out

set_option maxRecDepth 100000 in
set_option maxHeartbeats 400000 in
theorem next_hash_a (L : Nat) (s : ByteArray) (a : Nat) (p e : Int) (w : World) (h : LexAt w L s a p e) (hm : s.size ≤ maxLen) (ha : a < s.size) (r : Lx.Res) (F2 : (Lx.clsI s.data.toList a == 2) = false) (F5 : (Lx.clsI s.data.toList a == 5) = false) (C34 : ((s.extract a (a + 1)).toList == [34]) = false) (C92 : ((s.extract a (a + 1)).toList == [92]) = false) (C35 : ((s.extract a (a + 1)).toList == [35]) = true) (hs : a + 1 < s.size) (Dg49 : decide (49 ≤ ((s[a + 1]'hs).toNat : Int)) = false) (F3 : (Lx.clsI s.data.toList a == 3) = false) (F4 : (Lx.clsI s.data.toList a == 4) = false) (hr : Lx.Res.err 0 3 = r) :
    Calls Try.prog 62 #[.pointer (some ⟨L, 0, none⟩)] w (LexRes w L s a p e r) := by
  obtain ⟨g1, g2, g3, g4, f1, f2, f3, hL⟩ := lex_reads h
  have HM := hm
  have _ha := ha
  unfold maxLen at hm
  have H := hid h
  clear h
  have a0 : (0 : Int) ≤ (a : Int) := by omega
  have a1 : (a : Int) < (s.size : Int) := by omega
  have a2 : (a : Int) + 1 ≤ (s.size : Int) := by omega
  have S1 : decide ((a : Int) + 1 < (s.size : Int)) = true := by simp; omega
  have S2 : (a : Int) + 1 < (s.size : Int) := by omega
  have S3 : (0 : Int) ≤ (a : Int) + 1 := by omega
  go_enter Try.func62, Try.ntmps62
  go_wp2_with (go_at_call 104; refine (is_any L s a p e _ _ _ (by first | exact H.out.alloc _ | exact (H.out.alloc _).drewN _) (by omega) (by omega)).mono ?_; rintro e' w' ⟨rfl, n, rfl⟩)
  all_goals
    refine (fail_as L s a p e _ _ 0 3 _ r hr ((H.out.alloc _).drewN _) rfl rfl).mono ?_
    rintro e' w' ⟨k, tx, f, t, b, a', p', e2, rfl, hx, ht, hmn⟩
    obtain ⟨q0, q1, q2, q3, z0, z1, z2, z3, hg⟩ := Blk.four (ht.blk ((Blk.new w _ _).drewN _) (by omega))
    have HX := hid hx
    have HT := hid ht
    have HMN := hid hmn
    clear hx ht hmn
    go_wp2_with fail
    (try simp only [Exit.inBlock, Exit.then])
    refine bodyPost_ret (v := .tuple #[.agg #[.int .i64 k, .string tx, .int .i64 f, .int .i64 t], .bool b]) (by simp [results, Try.results62, go_sem, q0, q1, q2, q3]) rfl ?_
    exact LexRes.close hL HX.out HT.out.preN HMN.out

set_option maxRecDepth 100000 in
set_option maxHeartbeats 400000 in
theorem next_hash_b (L : Nat) (s : ByteArray) (a : Nat) (p e : Int) (w : World) (h : LexAt w L s a p e) (hm : s.size ≤ maxLen) (ha : a < s.size) (r : Lx.Res) (F2 : (Lx.clsI s.data.toList a == 2) = false) (F5 : (Lx.clsI s.data.toList a == 5) = false) (C34 : ((s.extract a (a + 1)).toList == [34]) = false) (C92 : ((s.extract a (a + 1)).toList == [92]) = false) (C35 : ((s.extract a (a + 1)).toList == [35]) = true) (hs : a + 1 < s.size) (Dg49 : decide (49 ≤ ((s[a + 1]'hs).toNat : Int)) = true) (Dl52 : decide (((s[a + 1]'hs).toNat : Int) ≤ 52) = false) (F3 : (Lx.clsI s.data.toList a == 3) = false) (F4 : (Lx.clsI s.data.toList a == 4) = false) (hr : Lx.Res.err 0 3 = r) :
    Calls Try.prog 62 #[.pointer (some ⟨L, 0, none⟩)] w (LexRes w L s a p e r) := by
  obtain ⟨g1, g2, g3, g4, f1, f2, f3, hL⟩ := lex_reads h
  have HM := hm
  have _ha := ha
  unfold maxLen at hm
  have H := hid h
  clear h
  have a0 : (0 : Int) ≤ (a : Int) := by omega
  have a1 : (a : Int) < (s.size : Int) := by omega
  have a2 : (a : Int) + 1 ≤ (s.size : Int) := by omega
  have S1 : decide ((a : Int) + 1 < (s.size : Int)) = true := by simp; omega
  have S2 : (a : Int) + 1 < (s.size : Int) := by omega
  have S3 : (0 : Int) ≤ (a : Int) + 1 := by omega
  go_enter Try.func62, Try.ntmps62
  go_wp2_with (go_at_call 104; refine (is_any L s a p e _ _ _ (by first | exact H.out.alloc _ | exact (H.out.alloc _).drewN _) (by omega) (by omega)).mono ?_; rintro e' w' ⟨rfl, n, rfl⟩)
  all_goals
    refine (fail_as L s a p e _ _ 0 3 _ r hr ((H.out.alloc _).drewN _) rfl rfl).mono ?_
    rintro e' w' ⟨k, tx, f, t, b, a', p', e2, rfl, hx, ht, hmn⟩
    obtain ⟨q0, q1, q2, q3, z0, z1, z2, z3, hg⟩ := Blk.four (ht.blk ((Blk.new w _ _).drewN _) (by omega))
    have HX := hid hx
    have HT := hid ht
    have HMN := hid hmn
    clear hx ht hmn
    go_wp2_with fail
    (try simp only [Exit.inBlock, Exit.then])
    refine bodyPost_ret (v := .tuple #[.agg #[.int .i64 k, .string tx, .int .i64 f, .int .i64 t], .bool b]) (by simp [results, Try.results62, go_sem, q0, q1, q2, q3]) rfl ?_
    exact LexRes.close hL HX.out HT.out.preN HMN.out

set_option maxRecDepth 100000 in
set_option maxHeartbeats 400000 in
theorem next_hash_c (L : Nat) (s : ByteArray) (a : Nat) (p e : Int) (w : World) (h : LexAt w L s a p e) (hm : s.size ≤ maxLen) (ha : a < s.size) (r : Lx.Res) (F2 : (Lx.clsI s.data.toList a == 2) = false) (F5 : (Lx.clsI s.data.toList a == 5) = false) (C34 : ((s.extract a (a + 1)).toList == [34]) = false) (C92 : ((s.extract a (a + 1)).toList == [92]) = false) (C35 : ((s.extract a (a + 1)).toList == [35]) = true) (hs : ¬ a + 1 < s.size) (F3 : (Lx.clsI s.data.toList a == 3) = false) (F4 : (Lx.clsI s.data.toList a == 4) = false) (hr : Lx.Res.err 0 3 = r) :
    Calls Try.prog 62 #[.pointer (some ⟨L, 0, none⟩)] w (LexRes w L s a p e r) := by
  obtain ⟨g1, g2, g3, g4, f1, f2, f3, hL⟩ := lex_reads h
  have HM := hm
  have _ha := ha
  unfold maxLen at hm
  have H := hid h
  clear h
  have a0 : (0 : Int) ≤ (a : Int) := by omega
  have a1 : (a : Int) < (s.size : Int) := by omega
  have a2 : (a : Int) + 1 ≤ (s.size : Int) := by omega
  have S1 : decide ((a : Int) + 1 < (s.size : Int)) = false := by simp; omega
  go_enter Try.func62, Try.ntmps62
  go_wp2_with (go_at_call 104; refine (is_any L s a p e _ _ _ (by first | exact H.out.alloc _ | exact (H.out.alloc _).drewN _) (by omega) (by omega)).mono ?_; rintro e' w' ⟨rfl, n, rfl⟩)
  all_goals
    refine (fail_as L s a p e _ _ 0 3 _ r hr ((H.out.alloc _).drewN _) rfl rfl).mono ?_
    rintro e' w' ⟨k, tx, f, t, b, a', p', e2, rfl, hx, ht, hmn⟩
    obtain ⟨q0, q1, q2, q3, z0, z1, z2, z3, hg⟩ := Blk.four (ht.blk ((Blk.new w _ _).drewN _) (by omega))
    have HX := hid hx
    have HT := hid ht
    have HMN := hid hmn
    clear hx ht hmn
    go_wp2_with fail
    (try simp only [Exit.inBlock, Exit.then])
    refine bodyPost_ret (v := .tuple #[.agg #[.int .i64 k, .string tx, .int .i64 f, .int .i64 t], .bool b]) (by simp [results, Try.results62, go_sem, q0, q1, q2, q3]) rfl ?_
    exact LexRes.close hL HX.out HT.out.preN HMN.out

set_option maxRecDepth 100000 in
set_option maxHeartbeats 400000 in
theorem next_letter (L : Nat) (s : ByteArray) (a : Nat) (p e : Int) (w : World) (h : LexAt w L s a p e) (hm : s.size ≤ maxLen) (ha : a < s.size) (r : Lx.Res) (F2 : (Lx.clsI s.data.toList a == 2) = false) (F5 : (Lx.clsI s.data.toList a == 5) = false) (C34 : ((s.extract a (a + 1)).toList == [34]) = false) (C92 : ((s.extract a (a + 1)).toList == [92]) = false) (C35 : ((s.extract a (a + 1)).toList == [35]) = false) (F3 : (Lx.clsI s.data.toList a == 3) = true) (hr : Lx.lim 1 ⟨1, (s.extract a (a + 1)).data.toList⟩ 1 = r) :
    Calls Try.prog 62 #[.pointer (some ⟨L, 0, none⟩)] w (LexRes w L s a p e r) := by
  obtain ⟨g1, g2, g3, g4, f1, f2, f3, hL⟩ := lex_reads h
  have HM := hm
  have _ha := ha
  unfold maxLen at hm
  have H := hid h
  clear h
  have a0 : (0 : Int) ≤ (a : Int) := by omega
  have a1 : (a : Int) < (s.size : Int) := by omega
  have a2 : (a : Int) + 1 ≤ (s.size : Int) := by omega
  go_enter Try.func62, Try.ntmps62
  go_wp2_with (go_at_call 104; refine (is_any L s a p e _ _ _ (by first | exact H.out.alloc _ | exact (H.out.alloc _).drewN _) (by omega) (by omega)).mono ?_; rintro e' w' ⟨rfl, n, rfl⟩)
  all_goals
    refine (token_as L s a p e _ 1 _ _ 1 1 _ _ r hr ((H.out.alloc _).drewN _) rfl rfl rfl).mono ?_
    rintro e' w' ⟨k, tx, f, t, b, a', p', e2, rfl, hx, ht, hmn⟩
    obtain ⟨q0, q1, q2, q3, z0, z1, z2, z3, hg⟩ := Blk.four (ht.blk ((Blk.new w _ _).drewN _) (by omega))
    have HX := hid hx
    have HT := hid ht
    have HMN := hid hmn
    clear hx ht hmn
    go_wp2_with fail
    (try simp only [Exit.inBlock, Exit.then])
    refine bodyPost_ret (v := .tuple #[.agg #[.int .i64 k, .string tx, .int .i64 f, .int .i64 t], .bool b]) (by simp [results, Try.results62, go_sem, q0, q1, q2, q3]) rfl ?_
    exact LexRes.close hL HX.out HT.out.preN HMN.out

set_option maxRecDepth 100000 in
set_option maxHeartbeats 400000 in
theorem next_sign (L : Nat) (s : ByteArray) (a : Nat) (p e : Int) (w : World) (h : LexAt w L s a p e) (hm : s.size ≤ maxLen) (ha : a < s.size) (r : Lx.Res) (F2 : (Lx.clsI s.data.toList a == 2) = false) (F5 : (Lx.clsI s.data.toList a == 5) = false) (C34 : ((s.extract a (a + 1)).toList == [34]) = false) (C92 : ((s.extract a (a + 1)).toList == [92]) = false) (C35 : ((s.extract a (a + 1)).toList == [35]) = false) (F3 : (Lx.clsI s.data.toList a == 3) = false) (F4 : (Lx.clsI s.data.toList a == 4) = true) (hr : Lx.lim 1 ⟨1, (s.extract a (a + 1)).data.toList⟩ 1 = r) :
    Calls Try.prog 62 #[.pointer (some ⟨L, 0, none⟩)] w (LexRes w L s a p e r) := by
  obtain ⟨g1, g2, g3, g4, f1, f2, f3, hL⟩ := lex_reads h
  have HM := hm
  have _ha := ha
  unfold maxLen at hm
  have H := hid h
  clear h
  have a0 : (0 : Int) ≤ (a : Int) := by omega
  have a1 : (a : Int) < (s.size : Int) := by omega
  have a2 : (a : Int) + 1 ≤ (s.size : Int) := by omega
  go_enter Try.func62, Try.ntmps62
  go_wp2_with (go_at_call 104; refine (is_any L s a p e _ _ _ (by first | exact H.out.alloc _ | exact (H.out.alloc _).drewN _) (by omega) (by omega)).mono ?_; rintro e' w' ⟨rfl, n, rfl⟩)
  all_goals
    refine (token_as L s a p e _ 1 _ _ 1 1 _ _ r hr ((H.out.alloc _).drewN _) rfl rfl rfl).mono ?_
    rintro e' w' ⟨k, tx, f, t, b, a', p', e2, rfl, hx, ht, hmn⟩
    obtain ⟨q0, q1, q2, q3, z0, z1, z2, z3, hg⟩ := Blk.four (ht.blk ((Blk.new w _ _).drewN _) (by omega))
    have HX := hid hx
    have HT := hid ht
    have HMN := hid hmn
    clear hx ht hmn
    go_wp2_with fail
    (try simp only [Exit.inBlock, Exit.then])
    refine bodyPost_ret (v := .tuple #[.agg #[.int .i64 k, .string tx, .int .i64 f, .int .i64 t], .bool b]) (by simp [results, Try.results62, go_sem, q0, q1, q2, q3]) rfl ?_
    exact LexRes.close hL HX.out HT.out.preN HMN.out

set_option maxRecDepth 100000 in
set_option maxHeartbeats 400000 in
theorem next_none (L : Nat) (s : ByteArray) (a : Nat) (p e : Int) (w : World) (h : LexAt w L s a p e) (hm : s.size ≤ maxLen) (ha : a < s.size) (r : Lx.Res) (F2 : (Lx.clsI s.data.toList a == 2) = false) (F5 : (Lx.clsI s.data.toList a == 5) = false) (C34 : ((s.extract a (a + 1)).toList == [34]) = false) (C92 : ((s.extract a (a + 1)).toList == [92]) = false) (C35 : ((s.extract a (a + 1)).toList == [35]) = false) (F3 : (Lx.clsI s.data.toList a == 3) = false) (F4 : (Lx.clsI s.data.toList a == 4) = false) (hr : Lx.Res.err 0 3 = r) :
    Calls Try.prog 62 #[.pointer (some ⟨L, 0, none⟩)] w (LexRes w L s a p e r) := by
  obtain ⟨g1, g2, g3, g4, f1, f2, f3, hL⟩ := lex_reads h
  have HM := hm
  have _ha := ha
  unfold maxLen at hm
  have H := hid h
  clear h
  have a0 : (0 : Int) ≤ (a : Int) := by omega
  have a1 : (a : Int) < (s.size : Int) := by omega
  have a2 : (a : Int) + 1 ≤ (s.size : Int) := by omega
  go_enter Try.func62, Try.ntmps62
  go_wp2_with (go_at_call 104; refine (is_any L s a p e _ _ _ (by first | exact H.out.alloc _ | exact (H.out.alloc _).drewN _) (by omega) (by omega)).mono ?_; rintro e' w' ⟨rfl, n, rfl⟩)
  all_goals
    refine (fail_as L s a p e _ _ 0 3 _ r hr ((H.out.alloc _).drewN _) rfl rfl).mono ?_
    rintro e' w' ⟨k, tx, f, t, b, a', p', e2, rfl, hx, ht, hmn⟩
    obtain ⟨q0, q1, q2, q3, z0, z1, z2, z3, hg⟩ := Blk.four (ht.blk ((Blk.new w _ _).drewN _) (by omega))
    have HX := hid hx
    have HT := hid ht
    have HMN := hid hmn
    clear hx ht hmn
    go_wp2_with fail
    (try simp only [Exit.inBlock, Exit.then])
    refine bodyPost_ret (v := .tuple #[.agg #[.int .i64 k, .string tx, .int .i64 f, .int .i64 t], .bool b]) (by simp [results, Try.results62, go_sem, q0, q1, q2, q3]) rfl ?_
    exact LexRes.close hL HX.out HT.out.preN HMN.out

end Go.Proofs.Ytilgpmpiidccjaa

/- The walk of the lexer's method quoted. -/
namespace Go.Proofs.Ytilgpmpiidccjaa
open Go.RowKit

theorem liesBuilder : liesAt Try.prog Try.prog.depth 63 (2 / Try.prog.cellsOf 63) 0 63 1 = true := by kernel_rfl

/-- What holds at the head of the loop. -/
structure QuoAt (w : World) (L : Nat) (s : ByteArray) (a : Nat) (p e : Int) (r : Lx.Res) (j : Nat) (acc : List UInt8) (cs : Array Value) (v : Value) (wr : World) : Prop where
  lex : LexAt wr L s a p e
  res : Blk wr w.heap.size 74 #[.int .i64 0, .string ByteArray.empty, .int .i64 0, .int .i64 0]
  bld : Bld wr (w.heap.size + 2) (w.heap.size + 1) 0 63 cs v acc
  size : cs.size = 2
  touch : Touch (fun _ => False) w wr
  lo : a + 1 ≤ j
  hi : j ≤ s.size
  len : acc.length ≤ j
  quo : Lx.quo (s.data.toList.drop j) acc (j - a) = r

theorem QuoAt.next {w : World} {L : Nat} {s : ByteArray} {a : Nat} {p e : Int} {r : Lx.Res} {j : Nat} {acc : List UInt8} {cs : Array Value} {v : Value} {wr w' : World} (Q : QuoAt w L s a p e r j acc cs v wr) (hL : L < w.heap.size) {j' : Nat} {c : UInt8} {v' : Value}
    (hb : Bld w' (w.heap.size + 2) (w.heap.size + 1) 0 63 ((cs.setIfInBounds 0 (.pointer (some ⟨w.heap.size + 1, 0, none⟩))).setIfInBounds (0 + 1) v') v' (acc ++ [c]))
    (ht : Touch (fun k => k = w.heap.size + 1 ∨ v.ownBlock = some k) wr w') (hj : j < j') (hs : j' ≤ s.size) (hq : Lx.quo (s.data.toList.drop j') (acc ++ [c]) (j' - a) = r) :
    QuoAt w L s a p e r j' (acc ++ [c]) ((cs.setIfInBounds 0 (.pointer (some ⟨w.heap.size + 1, 0, none⟩))).setIfInBounds (0 + 1) v') v' w' := by
  have hlt := Q.bld.own.lt
  refine ⟨ht.blk Q.lex ?_, ht.blk Q.res ?_, hb, by simp [Q.size], Q.touch.trans' ht ?_, by have := Q.lo; omega, hs, by have := Q.len; simp; omega, hq⟩
  · rintro (h1 | h1)
    · omega
    · have := (hlt _ h1).1; omega
  · rintro (h1 | h1)
    · omega
    · have := (hlt _ h1).1; omega
  · rintro i (h1 | h1)
    · right; omega
    · right; have := (hlt _ h1).1; omega

theorem u8_eq_of (x y : UInt8) (h : x = y) : ((x.toNat : Int) == (y.toNat : Int)) = true := by rw [h]; simp
theorem u8_ne_of (x y : UInt8) (h : ¬ x = y) : ((x.toNat : Int) == (y.toNat : Int)) = false := by
  rw [beq_eq_false_iff_ne]; intro hx; exact h (UInt8.toNat_inj.1 (by omega))
theorem u8_bne_of (x y : UInt8) (h : ¬ x = y) : ((x.toNat : Int) != (y.toNat : Int)) = true := by
  rw [bne_iff_ne]; intro hx; exact h (UInt8.toNat_inj.1 (by omega))
theorem u8_nbne_of (x y : UInt8) (h : x = y) : ((x.toNat : Int) != (y.toNat : Int)) = false := by rw [h]; simp

set_option maxRecDepth 100000 in
set_option maxHeartbeats 2000000 in
theorem quoted_any (L : Nat) (s : ByteArray) (a : Nat) (p e : Int) (w : World) (h : LexAt w L s a p e) (hm : s.size ≤ 1000000000) (ha : a < s.size) :
    Calls Try.prog 107 #[.pointer (some ⟨L, 0, none⟩)] w (LexRes w L s a p e (Lx.quo (s.data.toList.drop (a + 1)) [] 1)) := by
  obtain ⟨g1, g2, g3, g4, f1, f2, f3, hL⟩ := lex_reads h
  have H := hid h
  obtain ⟨r, hr⟩ : ∃ r, Lx.quo (s.data.toList.drop (a + 1)) [] 1 = r := ⟨_, rfl⟩
  rw [hr]
  have HR := hid hr
  have hll : s.data.toList.length = s.size := by simp
  have HLL := hid hll
  clear h hr hll
  go_enter Try.func107, Try.ntmps107
  go_wp2
  clear g1 g2 g3 g4 f1 f2 f3
  go_loopw [5] (fun i wr => ∃ (j : Nat) (acc : List UInt8) (cs : Array Value) (v : Value), i = .int .i64 j ∧ QuoAt w L s a p e r j acc cs v wr) (fun i _ => s.size - (intOf i).toNat)
  case atStart =>
    refine ⟨a + 1, [], #[.pointer none, .slice none 0 0], .slice none 0 0, by go_num, ?_, ?_, ?_, rfl, ?_, Nat.le_refl _, ha, by simp, ?_⟩
    · exact (H.out.alloc _).alloc _
    · exact (Blk.new w _ _).alloc _
    · refine ⟨?_, .inl rfl, rfl, World.ownsRow_nil _ _ _ _, by simp [Value.ownBlock], fun _ => rfl⟩
      have := Blk.new (w.alloc (.cells #[.int .i64 0, .string ⟨#[]⟩, .int .i64 0, .int .i64 0] 74)) 63 #[.pointer none, .slice none 0 0]
      simpa using this
    · exact ((Touch.refl _ w).alloc _).alloc _
    · rw [show a + 1 - a = 1 from by omega]; exact HR.out
  case round =>
    obtain ⟨j, acc, cs, v, rfl, Q0⟩ := hrel
    obtain ⟨g1, g2, g3, g4, f1, f2, f3, hLr⟩ := lex_reads Q0.lex
    have Q := hid Q0
    have hlo := Q0.lo
    have hhi := Q0.hi
    have hlen := Q0.len
    have hwr := Q0.touch.size
    have hbl := Q0.bld.lt
    have hres := Q0.res.lt
    clear Q0
    by_cases c1 : j < s.size
    · have b1 : decide ((j : Int) < (s.size : Int)) = true := by simp; omega
      have b1' : (j : Int) < (s.size : Int) := by omega
      have b1'' : (0 : Int) ≤ (j : Int) := by omega
      have hjl : j < s.data.toList.length := by rw [HLL.out]; exact c1
      have hget : s.data.toList[j] = s[j]'c1 := rfl
      by_cases c2 : s[j]'c1 = 34
      · have hq := Q.out.quo
        rw [Lx.quo_cons _ _ _ _ hjl, hget, if_pos c2] at hq
        have HQ := hid hq
        have b2 : (((s[j]'c1).toNat : Int) == 34) = true := u8_eq_of _ 34 c2
        clear hq c2 hget hjl
        go_wp2_with fail
        refine (bstring_any Q.out.bld).mono ?_
        rintro e1 w1 ⟨rfl, ht1⟩
        have hlx : LexAt w1 L s a p e := ht1.blk Q.out.lex (fun hk => by have := (Q.out.bld.own.lt _ hk).1; omega)
        have hrs := ht1.blk Q.out.res (fun hk => by have := (Q.out.bld.own.lt _ hk).1; omega)
        have ht1' : Touch (fun _ => False) w w1 := Q.out.touch.trans' ht1 (fun i hk => by have := (Q.out.bld.own.lt _ hk).1; right; omega)
        have HLX := hid hlx
        have HRS := hid hrs
        have HT1 := hid ht1'
        clear hlx hrs ht1 ht1'
        go_wp2_with fail
        refine (token_as L s a p e _ 3 _ _ (j - a + 1) 200 _ _ r HQ.out HLX.out rfl (by omega) rfl).mono ?_
        rintro e' w' ⟨k, tx, f, t, b, a', p', e2, rfl, hx, ht, hmn⟩
        obtain ⟨q0, q1, q2, q3, z0, z1, z2, z3, hg⟩ := Blk.four (ht.blk HRS.out (by omega))
        have HX := hid hx
        have HT2 := hid ht
        have HMN := hid hmn
        clear hx ht hmn
        go_wp2_with fail
        (try simp only [Exit.inBlock, Exit.then])
        refine bodyPost_ret (v := .tuple #[.agg #[.int .i64 k, .string tx, .int .i64 f, .int .i64 t], .bool b]) (by simp [results, Try.results107, go_sem, q0, q1, q2, q3]) rfl ?_
        exact LexRes.close hL HX.out ((HT1.out.mono (fun _ h => h.elim)).trans HT2.out) HMN.out
      · have b2 : (((s[j]'c1).toNat : Int) == 34) = false := u8_ne_of _ 34 c2
        by_cases c3 : (s[j]'c1) < 32 ∨ 126 < (s[j]'c1)
        · have hq := Q.out.quo
          rw [Lx.quo_cons _ _ _ _ hjl, hget, if_neg c2, if_pos c3] at hq
          have HQ := hid hq
          by_cases c4 : (s[j]'c1) < 32
          · have b3 : decide (((s[j]'c1).toNat : Int) < 32) = true := by simp; exact Int.ofNat_lt.2 (UInt8.lt_iff_toNat_lt.1 c4)
            clear hq c2 c3 c4 hget hjl
            go_wp2_with fail
            refine (fail_as L s a p e _ _ (j - a) 3 _ r HQ.out Q.out.lex (by omega) rfl).mono ?_
            rintro e' w' ⟨k, tx, f, t, b, a', p', e2, rfl, hx, ht, hmn⟩
            obtain ⟨q0, q1, q2, q3, z0, z1, z2, z3, hg⟩ := Blk.four (ht.blk Q.out.res (by omega))
            have HX := hid hx
            have HT2 := hid ht
            have HMN := hid hmn
            clear hx ht hmn
            go_wp2_with fail
            (try simp only [Exit.inBlock, Exit.then])
            refine bodyPost_ret (v := .tuple #[.agg #[.int .i64 k, .string tx, .int .i64 f, .int .i64 t], .bool b]) (by simp [results, Try.results107, go_sem, q0, q1, q2, q3]) rfl ?_
            exact LexRes.close hL HX.out ((Q.out.touch.mono (fun _ h => h.elim)).trans HT2.out) HMN.out
          · have b3 : decide (((s[j]'c1).toNat : Int) < 32) = false := by rw [decide_eq_false_iff_not]; intro hx; exact c4 (UInt8.lt_iff_toNat_lt.2 (by simpa using Int.ofNat_lt.1 hx))
            have b4 : decide (126 < ((s[j]'c1).toNat : Int)) = true := by
              have := UInt8.lt_iff_toNat_lt.1 (c3.resolve_left c4)
              simp at this ⊢; omega
            clear hq c2 c3 c4 hget hjl
            go_wp2_with fail
            refine (fail_as L s a p e _ _ (j - a) 3 _ r HQ.out Q.out.lex (by omega) rfl).mono ?_
            rintro e' w' ⟨k, tx, f, t, b, a', p', e2, rfl, hx, ht, hmn⟩
            obtain ⟨q0, q1, q2, q3, z0, z1, z2, z3, hg⟩ := Blk.four (ht.blk Q.out.res (by omega))
            have HX := hid hx
            have HT2 := hid ht
            have HMN := hid hmn
            clear hx ht hmn
            go_wp2_with fail
            (try simp only [Exit.inBlock, Exit.then])
            refine bodyPost_ret (v := .tuple #[.agg #[.int .i64 k, .string tx, .int .i64 f, .int .i64 t], .bool b]) (by simp [results, Try.results107, go_sem, q0, q1, q2, q3]) rfl ?_
            exact LexRes.close hL HX.out ((Q.out.touch.mono (fun _ h => h.elim)).trans HT2.out) HMN.out
        · have b3 : decide (((s[j]'c1).toNat : Int) < 32) = false := by rw [decide_eq_false_iff_not]; intro hx; exact c3 (.inl (UInt8.lt_iff_toNat_lt.2 (by simpa using Int.ofNat_lt.1 hx)))
          have b4 : decide (126 < ((s[j]'c1).toNat : Int)) = false := by rw [decide_eq_false_iff_not]; intro hx; exact c3 (.inr (UInt8.lt_iff_toNat_lt.2 (by simp; omega)))
          by_cases c5 : s[j]'c1 = 92
          · have b5 : (((s[j]'c1).toNat : Int) == 92) = true := u8_eq_of _ 92 c5
            by_cases c6 : j + 1 < s.size
            · have b6 : (((j : Int) + 1) == (s.size : Int)) = false := by rw [beq_eq_false_iff_ne]; omega
              have b6' : (j : Int) + 1 < (s.size : Int) := by omega
              have b6'' : (0 : Int) ≤ (j : Int) + 1 := by omega
              have hjl1 : j + 1 < s.data.toList.length := by rw [HLL.out]; exact c6
              have hget1 : s.data.toList[j + 1] = s[j + 1]'c6 := rfl
              have hq := Q.out.quo
              rw [Lx.quo_esc _ _ _ _ hjl (by rw [hget]; exact c5) hjl1, hget1] at hq
              by_cases c7 : s[j + 1]'c6 = 34
              · rw [if_pos (.inl c7)] at hq
                have HQ := hid hq
                have b7 : (((s[j + 1]'c6).toNat : Int) != 34) = false := u8_nbne_of _ 34 c7
                clear hq c2 c3 c5 c7 hget hjl hget1 hjl1
                go_wp2_with fail
                refine (writeByte_any Q.out.bld (by rw [Q.out.size]; exact liesBuilder) _ (s[j + 1]'c6) (by rfl) (by omega) (by omega)).mono ?_
                rintro e1 w1 ⟨rfl, v', hb1, ht1⟩
                have HN := hid (Q.out.next hL (j' := (j + 2)) hb1 ht1 (by omega) (by omega) (by rw [show j + 2 - a = j - a + 2 from by omega]; exact HQ.out))
                clear hb1 ht1
                go_wp2_with fail
                go_roundw
                case rel => exact ⟨(j + 2), _, _, _, by go_num, HN.out⟩
                case measure => simp [intOf]; omega
              · have b7 : (((s[j + 1]'c6).toNat : Int) != 34) = true := u8_bne_of _ 34 c7
                by_cases c8 : s[j + 1]'c6 = 92
                · rw [if_pos (.inr c8)] at hq
                  have HQ := hid hq
                  have b8 : (((s[j + 1]'c6).toNat : Int) != 92) = false := u8_nbne_of _ 92 c8
                  clear hq c2 c3 c5 c7 c8 hget hjl hget1 hjl1
                  go_wp2_with fail
                  refine (writeByte_any Q.out.bld (by rw [Q.out.size]; exact liesBuilder) _ (s[j + 1]'c6) (by rfl) (by omega) (by omega)).mono ?_
                  rintro e1 w1 ⟨rfl, v', hb1, ht1⟩
                  have HN := hid (Q.out.next hL (j' := (j + 2)) hb1 ht1 (by omega) (by omega) (by rw [show j + 2 - a = j - a + 2 from by omega]; exact HQ.out))
                  clear hb1 ht1
                  go_wp2_with fail
                  go_roundw
                  case rel => exact ⟨(j + 2), _, _, _, by go_num, HN.out⟩
                  case measure => simp [intOf]; omega
                · rw [if_neg (fun hx => hx.elim c7 c8)] at hq
                  have HQ := hid hq
                  have b8 : (((s[j + 1]'c6).toNat : Int) != 92) = true := u8_bne_of _ 92 c8
                  clear hq c2 c3 c5 c7 c8 hget hjl hget1 hjl1
                  go_wp2_with fail
                  refine (fail_as L s a p e _ _ (j - a) 3 _ r HQ.out Q.out.lex (by omega) rfl).mono ?_
                  rintro e' w' ⟨k, tx, f, t, b, a', p', e2, rfl, hx, ht, hmn⟩
                  obtain ⟨q0, q1, q2, q3, z0, z1, z2, z3, hg⟩ := Blk.four (ht.blk Q.out.res (by omega))
                  have HX := hid hx
                  have HT2 := hid ht
                  have HMN := hid hmn
                  clear hx ht hmn
                  go_wp2_with fail
                  (try simp only [Exit.inBlock, Exit.then])
                  refine bodyPost_ret (v := .tuple #[.agg #[.int .i64 k, .string tx, .int .i64 f, .int .i64 t], .bool b]) (by simp [results, Try.results107, go_sem, q0, q1, q2, q3]) rfl ?_
                  exact LexRes.close hL HX.out ((Q.out.touch.mono (fun _ h => h.elim)).trans HT2.out) HMN.out
            · have b6 : (((j : Int) + 1) == (s.size : Int)) = true := by rw [beq_iff_eq]; omega
              have hq := Q.out.quo
              rw [Lx.quo_esc_end _ _ _ _ hjl (by rw [hget]; exact c5) (by rw [HLL.out]; omega)] at hq
              have HQ := hid hq
              clear hq c2 c3 c5 hget hjl
              go_wp2_with fail
              refine (fail_as L s a p e _ _ (j - a) 3 _ r HQ.out Q.out.lex (by omega) rfl).mono ?_
              rintro e' w' ⟨k, tx, f, t, b, a', p', e2, rfl, hx, ht, hmn⟩
              obtain ⟨q0, q1, q2, q3, z0, z1, z2, z3, hg⟩ := Blk.four (ht.blk Q.out.res (by omega))
              have HX := hid hx
              have HT2 := hid ht
              have HMN := hid hmn
              clear hx ht hmn
              go_wp2_with fail
              (try simp only [Exit.inBlock, Exit.then])
              refine bodyPost_ret (v := .tuple #[.agg #[.int .i64 k, .string tx, .int .i64 f, .int .i64 t], .bool b]) (by simp [results, Try.results107, go_sem, q0, q1, q2, q3]) rfl ?_
              exact LexRes.close hL HX.out ((Q.out.touch.mono (fun _ h => h.elim)).trans HT2.out) HMN.out
          · have b5 : (((s[j]'c1).toNat : Int) == 92) = false := u8_ne_of _ 92 c5
            have hq := Q.out.quo
            rw [Lx.quo_plain _ _ _ _ hjl (by rw [hget]; exact c2) (by rw [hget]; exact c3) (by rw [hget]; exact c5), hget] at hq
            have HQ := hid hq
            clear hq c2 c3 c5 hget hjl
            go_wp2_with fail
            refine (writeByte_any Q.out.bld (by rw [Q.out.size]; exact liesBuilder) _ (s[j]'c1) (by rfl) (by omega) (by omega)).mono ?_
            rintro e1 w1 ⟨rfl, v', hb1, ht1⟩
            have HN := hid (Q.out.next hL (j' := (j + 1)) hb1 ht1 (by omega) (by omega) (by rw [show j + 1 - a = j - a + 1 from by omega]; exact HQ.out))
            clear hb1 ht1
            go_wp2_with fail
            go_roundw
            case rel => exact ⟨(j + 1), _, _, _, by go_num, HN.out⟩
            case measure => simp [intOf]; omega
    · have hq := Q.out.quo
      rw [Lx.quo_end _ _ _ _ (by rw [HLL.out]; omega)] at hq
      have HQ := hid hq
      have b1 : decide ((j : Int) < (s.size : Int)) = false := by simp; omega
      clear hq
      go_wp2_with fail
      refine (fail_as L s a p e _ _ (0) 12 _ r HQ.out Q.out.lex (by omega) rfl).mono ?_
      rintro e' w' ⟨k, tx, f, t, b, a', p', e2, rfl, hx, ht, hmn⟩
      obtain ⟨q0, q1, q2, q3, z0, z1, z2, z3, hg⟩ := Blk.four (ht.blk Q.out.res (by omega))
      have HX := hid hx
      have HT2 := hid ht
      have HMN := hid hmn
      clear hx ht hmn
      go_wp2_with fail
      (try simp only [Exit.inBlock, Exit.then])
      refine bodyPost_ret (v := .tuple #[.agg #[.int .i64 k, .string tx, .int .i64 f, .int .i64 t], .bool b]) (by simp [results, Try.results107, go_sem, q0, q1, q2, q3]) rfl ?_
      exact LexRes.close hL HX.out ((Q.out.touch.mono (fun _ h => h.elim)).trans HT2.out) HMN.out
end Go.Proofs.Ytilgpmpiidccjaa

/- The walk of lexer.Spell. -/
namespace Go.Proofs.Ytilgpmpiidccjaa
open Go.RowKit

theorem app_str (l : List UInt8) (t : ByteArray) : ((⟨l.toArray⟩ : ByteArray) ++ t) = ⟨(l ++ t.data.toList).toArray⟩ := by
  apply ByteArray.ext
  simp [ByteArray.data_append]

/-- The builder in the loop of Spell. -/
structure SpAt (w : World) (k : Int) (t : ByteArray) (f to_ : Int) (acc : List UInt8) (cs : Array Value) (v : Value) (wr : World) : Prop where
  tok : Blk wr w.heap.size 74 #[.int .i64 k, .string t, .int .i64 f, .int .i64 to_]
  bld : Bld wr (w.heap.size + 2) (w.heap.size + 1) 0 63 cs v acc
  size : cs.size = 2
  touch : Fresh w wr

theorem SpAt.next {w : World} {k : Int} {t : ByteArray} {f to_ : Int} {acc : List UInt8} {cs : Array Value} {v : Value} {wr w' : World} (Q : SpAt w k t f to_ acc cs v wr) {c : UInt8} {v' : Value}
    (hb : Bld w' (w.heap.size + 2) (w.heap.size + 1) 0 63 ((cs.setIfInBounds 0 (.pointer (some ⟨w.heap.size + 1, 0, none⟩))).setIfInBounds (0 + 1) v') v' (acc ++ [c]))
    (ht : Touch (fun k => k = w.heap.size + 1 ∨ v.ownBlock = some k) wr w') :
    SpAt w k t f to_ (acc ++ [c]) ((cs.setIfInBounds 0 (.pointer (some ⟨w.heap.size + 1, 0, none⟩))).setIfInBounds (0 + 1) v') v' w' := by
  have hlt := Q.bld.own.lt
  refine ⟨ht.blk Q.tok ?_, hb, by simp [Q.size], Q.touch.trans' ht ?_⟩
  · rintro (h1 | h1)
    · omega
    · have := (hlt _ h1).1; omega
  · rintro i (h1 | h1)
    · right; omega
    · right; have := (hlt _ h1).1; omega

set_option maxRecDepth 100000 in
set_option maxHeartbeats 1000000 in
theorem spell_text (t : ByteArray) (f to_ : Int) (w : World) (hm : t.size ≤ 1000000000) :
    Calls Try.prog 146 #[.agg #[.int .i64 3, .string t, .int .i64 f, .int .i64 to_]] w fun e w' => e = .returned (.string ⟨(Lx.quoteL t.data.toList).toArray⟩) ∧ Fresh w w' := by
  have hll : t.data.toList.length = t.size := by simp
  have HLL := hid hll
  clear hll
  go_enter Try.func146, Try.ntmps146
  go_wp2_with fail
  have hs0 : SpAt w 3 t f to_ [] #[.pointer none, .slice none 0 0] (.slice none 0 0) ((w.alloc (.cells #[.int .i64 3, .string t, .int .i64 f, .int .i64 to_] 74)).alloc (.cells #[.pointer none, .slice none 0 0] 63)) :=
    ⟨(Blk.new w _ _).alloc _, ⟨Blk.new2 _ _ _ _, .inl rfl, rfl, World.ownsRow_nil _ _ _ _, by simp [Value.ownBlock], fun _ => rfl⟩, rfl, ((Touch.refl _ w).alloc _).alloc _⟩
  have HS0 := hid hs0
  clear hs0
  refine (writeByte_any HS0.out.bld (by rw [HS0.out.size]; exact liesBuilder) _ 34 rfl (by simp) (by simp)).mono ?_
  rintro e1 w1 ⟨rfl, v1, hb1, ht1⟩
  have HS1 := hid (HS0.out.next hb1 ht1)
  clear hb1 ht1 HS0
  have hq := Blk.four HS1.out.tok
  obtain ⟨q0, q1, q2, q3, z0, z1, z2, z3, hg⟩ := hq
  go_wp2_with fail
  go_loopw [4] (fun i wr => ∃ (j : Nat) (acc : List UInt8) (cs : Array Value) (v : Value), i = .int .i64 j ∧ j ≤ t.size ∧ acc.length ≤ 2 * j + 1 ∧ Hid (acc = 34 :: Lx.esc (t.data.toList.take j)) ∧ Hid (SpAt w 3 t f to_ acc cs v wr)) (fun i _ => t.size - (intOf i).toNat)
  case atStart => exact ⟨0, _, _, _, rfl, Nat.zero_le _, by simp, by simp [Lx.esc, Hid], HS1⟩
  case round =>
    obtain ⟨j, acc, cs, v, rfl, hj, hacc, HA, HS⟩ := hrel
    clear q0 q1 q2 q3 z0 z1 z2 z3 hg HS1
    obtain ⟨q0, q1, q2, q3, z0, z1, z2, z3, hg⟩ := Blk.four HS.out.tok
    have hbl := HS.out.bld.lt
    by_cases c1 : j < t.size
    · have b1 : decide ((j : Int) < (t.size : Int)) = true := by simp; omega
      have b1' : (j : Int) < (t.size : Int) := by omega
      have b1'' : (0 : Int) ≤ (j : Int) := by omega
      have htk : t.data.toList.take (j + 1) = t.data.toList.take j ++ [t[j]'c1] := by
        rw [List.take_succ_eq_append_getElem (by rw [HLL.out]; exact c1)]; rfl
      have HTK := hid htk
      clear htk
      by_cases c2 : t[j]'c1 = 34
      · have b2 : (((t[j]'c1).toNat : Int) == 34) = true := u8_eq_of _ 34 c2
        have HE := hid (show Lx.escB (t[j]'c1) = [92, t[j]'c1] by unfold Lx.escB; rw [if_pos (.inl c2)])
        clear c2
        go_wp2_with fail
        refine (writeByte_any HS.out.bld (by rw [HS.out.size]; exact liesBuilder) _ 92 rfl (by omega) (by omega)).mono ?_
        rintro e2 w2 ⟨rfl, v2, hb2, ht2⟩
        have HS2 := hid (HS.out.next hb2 ht2)
        clear hb2 ht2
        clear q0 q1 q2 q3 z0 z1 z2 z3 hg
        obtain ⟨q0, q1, q2, q3, z0, z1, z2, z3, hg⟩ := Blk.four HS2.out.tok
        have hbl2 := HS2.out.bld.lt
        go_wp2_with fail
        refine (writeByte_any HS2.out.bld (by rw [HS2.out.size]; exact liesBuilder) _ (t[j]'c1) rfl (by simp; omega) (by omega)).mono ?_
        rintro e3 w3 ⟨rfl, v3, hb3, ht3⟩
        have HS3 := hid (HS2.out.next hb3 ht3)
        clear hb3 ht3
        go_wp2_with fail
        go_roundw
        case rel => exact ⟨j + 1, _, _, _, by go_num, c1, by simp; omega, by rw [HTK.out, Lx.esc_snoc, HE.out, HA.out]; simp [Hid], HS3⟩
        case measure => simp [intOf]; omega
      · have b2 : (((t[j]'c1).toNat : Int) == 34) = false := u8_ne_of _ 34 c2
        by_cases c3 : t[j]'c1 = 92
        · have b3 : (((t[j]'c1).toNat : Int) == 92) = true := u8_eq_of _ 92 c3
          have HE := hid (show Lx.escB (t[j]'c1) = [92, t[j]'c1] by unfold Lx.escB; rw [if_pos (.inr c3)])
          clear c2 c3
          go_wp2_with fail
          refine (writeByte_any HS.out.bld (by rw [HS.out.size]; exact liesBuilder) _ 92 rfl (by omega) (by omega)).mono ?_
          rintro e2 w2 ⟨rfl, v2, hb2, ht2⟩
          have HS2 := hid (HS.out.next hb2 ht2)
          clear hb2 ht2
          clear q0 q1 q2 q3 z0 z1 z2 z3 hg
          obtain ⟨q0, q1, q2, q3, z0, z1, z2, z3, hg⟩ := Blk.four HS2.out.tok
          have hbl2 := HS2.out.bld.lt
          go_wp2_with fail
          refine (writeByte_any HS2.out.bld (by rw [HS2.out.size]; exact liesBuilder) _ (t[j]'c1) rfl (by simp; omega) (by omega)).mono ?_
          rintro e3 w3 ⟨rfl, v3, hb3, ht3⟩
          have HS3 := hid (HS2.out.next hb3 ht3)
          clear hb3 ht3
          go_wp2_with fail
          go_roundw
          case rel => exact ⟨j + 1, _, _, _, by go_num, c1, by simp; omega, by rw [HTK.out, Lx.esc_snoc, HE.out, HA.out]; simp [Hid], HS3⟩
          case measure => simp [intOf]; omega
        · have b3 : (((t[j]'c1).toNat : Int) == 92) = false := u8_ne_of _ 92 c3
          have HE := hid (show Lx.escB (t[j]'c1) = [t[j]'c1] by unfold Lx.escB; rw [if_neg (fun h => h.elim c2 c3)])
          clear c2 c3
          go_wp2_with fail
          refine (writeByte_any HS.out.bld (by rw [HS.out.size]; exact liesBuilder) _ (t[j]'c1) rfl (by omega) (by omega)).mono ?_
          rintro e3 w3 ⟨rfl, v3, hb3, ht3⟩
          have HS3 := hid (HS.out.next hb3 ht3)
          clear hb3 ht3
          go_wp2_with fail
          go_roundw
          case rel => exact ⟨j + 1, _, _, _, by go_num, c1, by simp; omega, by rw [HTK.out, Lx.esc_snoc, HE.out, HA.out]; simp [Hid], HS3⟩
          case measure => simp [intOf]; omega
    · have b1 : decide ((j : Int) < (t.size : Int)) = false := by simp; omega
      have htk : t.data.toList.take j = t.data.toList := List.take_of_length_le (by rw [HLL.out]; omega)
      have HTK := hid htk
      clear htk
      go_wp2_with fail
      refine (writeByte_any HS.out.bld (by rw [HS.out.size]; exact liesBuilder) _ 34 rfl (by omega) (by omega)).mono ?_
      rintro e2 w2 ⟨rfl, v2, hb2, ht2⟩
      have HS2 := hid (HS.out.next hb2 ht2)
      clear hb2 ht2
      go_wp2_with fail
      refine (bstring_any HS2.out.bld).mono ?_
      rintro e3 w3 ⟨rfl, ht3⟩
      have HF := hid (show Fresh w w3 from HS2.out.touch.trans' ht3 (fun i hk => by have := (HS2.out.bld.own.lt _ hk).1; right; omega))
      clear ht3
      go_wp2_with fail
      go_ret
      refine ⟨?_, HF.out⟩
      rw [HA.out, HTK.out]; rfl

theorem spell_any (k : Int) (t : ByteArray) (f to_ : Int) (w : World) (hm : t.size ≤ 1000000000) :
    Calls Try.prog 146 #[.agg #[.int .i64 k, .string t, .int .i64 f, .int .i64 to_]] w fun e w' => e = .returned (.string ⟨(Lx.spellL k t.data.toList).toArray⟩) ∧ Fresh w w' := by
  by_cases k3 : k = 3
  · subst k3
    exact spell_text t f to_ w hm
  have b3 : (k == 3) = false := by simpa using k3
  by_cases k4 : k = 4
  · subst k4
    clear b3 k3
    go_enter Try.func146, Try.ntmps146
    go_wp2
    go_ret
    exact ⟨by rw [app_str [92] t]; rfl, (Touch.refl _ w).alloc _⟩
  have b4 : (k == 4) = false := by simpa using k4
  by_cases k5 : k = 5
  · subst k5
    clear b3 k3 b4 k4
    go_enter Try.func146, Try.ntmps146
    go_wp2
    go_ret
    exact ⟨by rw [app_str [92, 102, 101, 110, 99, 101] t]; rfl, (Touch.refl _ w).alloc _⟩
  have b5 : (k == 5) = false := by simpa using k5
  by_cases k6 : k = 6
  · subst k6
    clear b3 k3 b4 k4 b5 k5
    go_enter Try.func146, Try.ntmps146
    go_wp2
    go_ret
    exact ⟨by rw [app_str [35] t]; rfl, (Touch.refl _ w).alloc _⟩
  have b6 : (k == 6) = false := by simpa using k6
  have hsp : Lx.spellL k t.data.toList = t.data.toList := by unfold Lx.spellL; rw [if_neg k3, if_neg k4, if_neg k5, if_neg k6]
  have HSP := hid hsp
  clear hsp k3 k4 k5 k6
  go_enter Try.func146, Try.ntmps146
  go_wp2
  go_ret
  exact ⟨by rw [HSP.out]; rfl, (Touch.refl _ w).alloc _⟩
end Go.Proofs.Ytilgpmpiidccjaa
