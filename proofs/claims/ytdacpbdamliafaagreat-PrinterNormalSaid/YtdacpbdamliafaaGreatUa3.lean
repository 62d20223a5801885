/- Part 3 of 12 of a proof; its texts, joined: Bld, Bls, PrB, LxZ, SpA, SpB, PrC, PrI, PrH, PrJ, PrK, PrL, PrN, Tkr, App, SlA. No condition. -/
import Derived.Test.YtdacpbdamliafaaGreatUa2
import Derived.Lib.Builder
import Derived.Lib.UnsafeStr
import Derived.Maps.AppendAt
import Derived.Deep.RegionHeld3
import Derived.Lib.AppendStr
import Derived.Test.YtdacpbdamliafaaGreatUa1
import Derived.Deep.RegionLaw
import Derived.Deep.DeepCutAuto

/- The walks of strings.Builder's methods: a builder that lies in a block that is known whole. -/
namespace Go.Proofs.YtdacpbdamliafaaGreat
open Go.RowKit
structure Bld (w : World) (B b o : Nat) (T : TypeId) (cs : Array Value) (v : Value) (l : List UInt8) : Prop where
 blk : Blk w b T cs
 addr : cs[o]? = some (.pointer none) ∨ cs[o]? = some (.pointer (some ⟨b, o, none⟩))
 buf : cs[o + 1]? = some v
 own : w.ownsRow B 5 1 v l.length (Lib.byteCells l)
 ne : v.ownBlock ≠ some b
 nilv : l = [] → v = .slice none 0 0
theorem byteCells_snoc (l : List UInt8) (c : UInt8) : Lib.byteCells (l ++ [c]) = Lib.byteCells l ++ [.int .u8 c.toNat] := by simp [Lib.byteCells]
theorem infoU8 : (Tryz.prog.info? 5).map (fun i => (i.zero, i.size, i.bytes)) = some (some (.int .u8 0), 1, 1) := by kernel_rfl
theorem infoBuilder : ∃ j, Tryz.prog.info? 101 = some j ∧ j.size = 2 := by
 have h : (Tryz.prog.info? 101).map (·.size) = some 2 := by kernel_rfl
 exact Option.map_eq_some_iff.1 h
theorem shape_of_blk {w : World} {g : Nat} {t : TypeId} {cs : Array Value} (h : Blk w g t cs) : w.shape? g = some (t, cs.size) := by
 unfold Blk at h; simp [World.shape?, h]
set_option maxRecDepth 100000 in
set_option maxHeartbeats 1000000 in
theorem copyCheck_used (b o : Nat) (w : World) (h0 : w.cell? ⟨b, o, none⟩ = some (.pointer (some ⟨b, o, none⟩))) :
  Calls Tryz.prog 197 #[.pointer (some ⟨b, o, none⟩)] w fun e w' => e = .returned (.tuple #[]) ∧ w' = w := by
 obtain ⟨j, hj, _⟩ := infoBuilder
 go_enter Tryz.func197, Tryz.ntmps197
 go_wp2
 rw [Lib.run_neq_ptr_same w _ Tryz.underlying99 hj]
 go_wp2
 go_end0
 exact ⟨rfl, rfl⟩
set_option maxRecDepth 100000 in
set_option maxHeartbeats 1000000 in
theorem copyCheck_fresh (b o : Nat) (T : TypeId) (n : Nat) (w : World) (h0 : w.cell? ⟨b, o, none⟩ = some (.pointer none)) (hsh : w.shape? b = some (T, n)) (hfz : w.frozen? ⟨b, o, none⟩ = false)
  (hon : o < n) (hlies : liesAt Tryz.prog Tryz.prog.depth T (n / Tryz.prog.cellsOf T) o 101 1 = true) :
  Calls Tryz.prog 197 #[.pointer (some ⟨b, o, none⟩)] w fun e w' => e = .returned (.tuple #[]) ∧ w' = w.setCell ⟨b, o, none⟩ (.pointer (some ⟨b, o, none⟩)) := by
 obtain ⟨j, hj, hjs⟩ := infoBuilder
 go_enter Tryz.func197, Tryz.ntmps197
 go_wp2
 rw [Lib.run_to_unsafe w ⟨b, o, none⟩ Tryz.underlying99 Tryz.underlying213 hj (by rw [hjs]; decide) hsh hon]
 simp only [Result.andThen]
 rw [Oper.upon_value]
 go_wp2
 rw [run_callFunc_extern Tryz.func204 (by kernel_rfl) (by kernel_rfl) (by kernel_rfl) (e := Extern.AbiNoEscape.same) (by kernel_rfl)]
 rw [Lib.run_noEscape]
 simp only [Result.andThen]
 rw [Oper.upon_value]
 go_wp2
 rw [Lib.run_from_unsafe w ⟨b, o, none⟩ Tryz.underlying213 Tryz.underlying99 hj hsh hlies]
 simp only [Result.andThen]
 rw [Oper.upon_value]
 go_wp2
 go_end0
 exact ⟨rfl, rfl⟩
theorem copyCheck_any {w : World} {B b o : Nat} {T : TypeId} {cs : Array Value} {v : Value} {l : List UInt8} (h : Bld w B b o T cs v l)
  (hlies : liesAt Tryz.prog Tryz.prog.depth T (cs.size / Tryz.prog.cellsOf T) o 101 1 = true) :
  Calls Tryz.prog 197 #[.pointer (some ⟨b, o, none⟩)] w fun e w' => e = .returned (.tuple #[]) ∧ Blk w' b T (cs.setIfInBounds o (.pointer (some ⟨b, o, none⟩))) ∧ Touch (· = b) w w' ∧ w'.heap.size = w.heap.size := by
 have ho : o < cs.size := by
  rcases h.addr with h1 | h1 <;> exact (Array.getElem?_eq_some_iff.1 h1).1
 rcases h.addr with h1 | h1
 ·refine (copyCheck_fresh b o T cs.size w ((h.blk.cell o).trans h1) (shape_of_blk h.blk) (h.blk.frozen o) ho hlies).mono ?_
  rintro e w' ⟨rfl, rfl⟩
  exact ⟨rfl, h.blk.put _ _, (Touch.refl (· = b) w).setCell (p := ⟨b, o, none⟩) (.inl rfl) _, by simp [World.setCell]⟩
 ·refine (copyCheck_used b o w ((h.blk.cell o).trans h1)).mono ?_
  rintro e w' ⟨rfl, rfl⟩
  refine ⟨rfl, ?_, Touch.refl _ _, rfl⟩
  have : cs.setIfInBounds o (.pointer (some ⟨b, o, none⟩)) = cs := by
   apply Array.ext_getElem?
   intro i
   rw [Array.getElem?_setIfInBounds]
   split
   ·rename_i hi; subst hi; simp [ho] at *; exact h1.symm
   ·rfl
  rw [this]
  exact h.blk
theorem Bld.lt {w : World} {B b o : Nat} {T : TypeId} {cs : Array Value} {v : Value} {l : List UInt8} (h : Bld w B b o T cs v l) : b < w.heap.size := h.blk.lt
theorem Bld.drewN {w : World} {B b o : Nat} {T : TypeId} {cs : Array Value} {v : Value} {l : List UInt8} (h : Bld w B b o T cs v l) (n : Nat) : Bld (w.drewN n) B b o T cs v l := ⟨h.blk, h.addr, h.buf, h.own, h.ne, h.nilv⟩
theorem ownsRow_base {w : World} {B B' e size n : Nat} {v : Value} {xs : List Value} (h : w.ownsRow B e size v n xs) (hB : B' ≤ B) : w.ownsRow B' e size v n xs := by
 obtain ⟨h1, h2⟩ := h
 refine ⟨h1, ?_⟩
 rcases h2 with h2 | ⟨g, cap, cur, h3, h4, r⟩
 ·exact .inl h2
 ·exact .inr ⟨g, cap, cur, h3, by omega, r⟩
theorem ownsRow_touch {S : Nat → Prop} {w w' : World} {B e size n : Nat} {v : Value} {xs : List Value} (h : w.ownsRow B e size v n xs) (ht : Touch S w w') (hn : ∀ k, v.ownBlock = some k → ¬ S k) : w'.ownsRow B e size v n xs := by
 obtain ⟨h1, h2⟩ := h
 refine ⟨h1, ?_⟩
 rcases h2 with h2 | ⟨g, cap, cur, rfl, hb, hh, r⟩
 ·exact .inl h2
 ·exact .inr ⟨g, cap, cur, rfl, hb, (ht.block g (Array.getElem?_eq_some_iff.1 hh).1 (hn g rfl)).trans hh, r⟩
set_option maxRecDepth 100000 in
set_option maxHeartbeats 1000000 in
theorem writeByte_any {w : World} {B b o : Nat} {T : TypeId} {cs : Array Value} {v : Value} {l : List UInt8} (h : Bld w B b o T cs v l)
  (hlies : liesAt Tryz.prog Tryz.prog.depth T (cs.size / Tryz.prog.cellsOf T) o 101 1 = true) (x : Int) (c : UInt8) (hx : x = c.toNat) (hlen : l.length + 1 ≤ 140737488355328) (hB : B ≤ w.heap.size) :
  Calls Tryz.prog 188 #[.pointer (some ⟨b, o, none⟩), .int .u8 x] w fun e w' => e = .returned .nilIface ∧ ∃ v', Bld w' B b o T ((cs.setIfInBounds o (.pointer (some ⟨b, o, none⟩))).setIfInBounds (o + 1) v') v' (l ++ [c]) ∧ Touch (fun k => k = b ∨ v.ownBlock = some k) w w' := by
 obtain ⟨i0, hi, hz0, hz1, hz2⟩ := info_parts infoU8
 have ho : o + 1 < cs.size := (Array.getElem?_eq_some_iff.1 h.buf).1
 go_enter Tryz.func188, Tryz.ntmps188
 go_wp2_with fail
 refine (copyCheck_any h hlies).mono ?_
 rintro e w1 ⟨rfl, hb1, ht1, hs1⟩
 have c1 : w1.cell? ⟨b, o + 1, none⟩ = some v := by
  rw [hb1.cell, Array.getElem?_setIfInBounds_ne (by omega)]; exact h.buf
 have hown : w1.ownsRow B 5 1 v l.length (Lib.byteCells l) := ownsRow_touch h.own ht1 (fun k hk e => h.ne (by rw [hk, e]))
 have HB := hid hb1
 have HT := hid ht1
 have HS := hid hs1
 have HX := hid hx
 clear hb1 ht1 hs1 hx
 go_wp2_with (at_builtin; refine wpList_append_own_at _ rfl _ _ 44 rfl B 5 i0 (.int .u8 0) 1 1 Tryz.underlying44 hi hz0 hz1 hz2 rfl (by decide) _ _ _ rfl (hown.alloc _) ⟨w1.heap.size, 0, none⟩ 1 1 [.int .u8 x] rfl rfl ?c1 ?c2 ?c3 ?c4 ?c5 ?_)
 case c1 =>
  intro j u hj
  match j, hj with
  | 0, hj => simp at hj; subst hj; simp [Addr.add]
 case c2 => intro u hu; simp at hu; subst hu; rfl
 case c3 => unfold maxLen; omega
 case c4 => omega
 case c5 => have := HS.out; simp; omega
 intro v' w2 hown' hgrow _ hat
 have hlt1 := HB.out.lt
 have ht2 : Touch (fun k => v.ownBlock = some k) w1 w2 := ((Touch.refl (fun k => v.ownBlock = some k) w1).alloc _).grown hgrow (fun g hg => .inl hg)
 have hb2 : Blk w2 b T (cs.setIfInBounds o (.pointer (some ⟨b, o, none⟩))) := ht2.blk HB.out h.ne
 have d1 : w2.cell? ⟨b, o + 1, none⟩ = some v := by
  rw [hb2.cell, Array.getElem?_setIfInBounds_ne (by omega)]; exact h.buf
 have f1 : w2.frozen? ⟨b, o + 1, none⟩ = false := hb2.frozen _
 have hne' : v'.ownBlock ≠ some b := by
  rcases hat with h1 | h1
  ·rw [h1]; exact h.ne
  ·rw [h1]; simp; omega
 obtain ⟨g, cap, rfl⟩ : ∃ g cap, v' = .slice (some ⟨g, 0, none⟩) (l.length + 1) cap := by
  rcases hown'.2 with ⟨_, h0⟩ | ⟨g, cap, cur, hv, _⟩
  ·omega
  ·exact ⟨g, cap, hv⟩
 have HB2 := hid hb2
 have HT2 := hid ht2
 have HO := hid hown'
 have HN := hid hne'
 clear hb2 ht2 hown' hne' hat hgrow hown
 go_wp2
 go_ret
 refine ⟨rfl, _, ⟨HB2.out.put _ _, .inr ?_, ?_, ?_, HN.out, by simp⟩, ?_⟩
 ·rw [Array.getElem?_setIfInBounds_ne (by omega), Array.getElem?_setIfInBounds_self_of_lt (by omega)]
 ·rw [Array.getElem?_setIfInBounds_self_of_lt (by simp; omega)]
 ·rw [byteCells_snoc, List.length_append, ← HX.out]
  exact ownsRow_touch HO.out ((Touch.refl (· = b) w2).setCell (p := ⟨b, o + 1, none⟩) (.inl rfl) _) (fun k hk e => HN.out (by rw [hk, e]))
 ·exact ((HT.out.mono (fun _ h => .inl h)).trans (HT2.out.mono (fun _ h => .inr h))).setCell (p := ⟨b, o + 1, none⟩) (.inl (.inl rfl)) _
theorem touch_freeze {S : Nat → Prop} {a w : World} (h : Touch S a w) {p : Addr} (hp : S p.block ∨ a.heap.size ≤ p.block) (n : Nat) : Touch S a (w.freeze p n) := by
 unfold World.freeze
 split
 ·exact h
 ·refine ⟨h.os, h.tape, h.output, by simpa using h.size, fun i hi hn => ?_⟩
  refine Eq.trans ?_ (h.block i hi hn)
  show (w.heap.modify p.block _)[i]? = _
  rw [Array.getElem?_modify, if_neg]
  rintro rfl
  exact hp.elim hn (fun hle => absurd hi (by omega))
theorem unsafeString_nil (W : World) (q : Option Addr) : (Builtin.unsafeString_ #[147, 3] 9 #[.pointer q, .int .i64 0]).run Tryz.prog W = .ok (.string .empty) W := Lib.run_unsafeString_none W _ _ _ q
set_option maxRecDepth 100000 in
set_option maxHeartbeats 1000000 in
theorem bstring_any {w : World} {B b o : Nat} {T : TypeId} {cs : Array Value} {v : Value} {l : List UInt8} (h : Bld w B b o T cs v l) :
  Calls Tryz.prog 64 #[.pointer (some ⟨b, o, none⟩)] w fun e w' => e = .returned (.string ⟨l.toArray⟩) ∧ Touch (fun k => v.ownBlock = some k) w w' := by
 have c1 : w.cell? ⟨b, o + 1, none⟩ = some v := (h.blk.cell _).trans h.buf
 by_cases h0 : l = []
 ·obtain rfl := h.nilv h0
  subst h0
  have hUS := unsafeString_nil
  have hSD : ∀ n : Nat, (Builtin.unsafeSliceData_ #[44] 147 #[.slice none 0 0]).run Tryz.prog (w.drewN n) = .ok (.pointer none) (w.drewN n) := fun _ => rfl
  clear h
  go_enter Tryz.func64, Tryz.ntmps64
  go_wp2
  go_quiet (fail)
  go_wp2
  go_ret
  exact ⟨rfl, (Touch.refl _ w).drewN _⟩
 ·have hl0 : l.length ≠ 0 := by simpa using h0
  obtain ⟨g, cap, cur, rfl, hbg, hg, hnc, hcm, hcs, htake⟩ : ∃ g cap cur, v = .slice (some ⟨g, 0, none⟩) l.length cap ∧ B ≤ g ∧ w.heap[g]? = some (.cells cur 5 (0, 0)) ∧ l.length ≤ cap ∧ cap ≤ maxLen ∧ cur.size = cap * 1 ∧ cur.toList.take (l.length * 1) = Lib.byteCells l := by
   rcases h.own.2 with ⟨_, hz⟩ | ⟨g, cap, cur, hv, r⟩
   ·exact absurd hz hl0
   ·exact ⟨g, cap, cur, hv, r⟩
  have hown := h.own
  have hSD : ∀ n : Nat, (Builtin.unsafeSliceData_ #[44] 147 #[.slice (some ⟨g, 0, none⟩) l.length cap]).run Tryz.prog (w.drewN n) = .ok (.pointer (some ⟨g, 0, none⟩)) (w.drewN n) := fun n =>
   Lib.run_unsafeSliceData_row _ _ _ _ _ _ (by omega)
  have hUS : ∀ n : Nat, (Builtin.unsafeString_ #[147, 3] 9 #[.pointer (some ⟨g, 0, none⟩), .int .i64 l.length]).run Tryz.prog (w.drewN n) = .ok (.string ⟨l.toArray⟩) ((w.drewN n).freeze ⟨g, 0, none⟩ l.length) := fun n => by
   refine Lib.run_unsafeString_row (w.drewN n) 147 3 9 5 Tryz.underlying147 (by kernel_rfl) g cur.size (by simp [World.shape?, hg]) l h0 (by omega) (by unfold maxLen at hcm; omega) ?_
   intro j x hx
   have := hown.cells (g := g) rfl j (.int .u8 x.toNat) (by simp [Lib.byteCells, hx])
   exact this
  have HG := hid hg
  clear h htake hcs hcm hnc hg hown h0 hl0
  go_enter Tryz.func64, Tryz.ntmps64
  go_wp2
  refine wp_region_segs [([0,1,2,3,4,5,6,7,8,9],10)] [11] (by kernel_rfl) (by kernel_rfl) ?_
  simp only [wpSegs, pick, List.getElem?_cons_zero, List.getElem?_cons_succ]
  repeat (quiet_step (fail))
  refine wpQuiet_nil ?_
  rintro _ ⟨nq, rfl⟩
  go_wp2
  repeat (quiet_step (fail))
  refine wpQuiet_nil ?_
  rintro _ ⟨nq2, rfl⟩
  go_wp2
  go_ret
  refine ⟨rfl, ?_⟩
  exact (touch_freeze ((Touch.refl (fun k => Value.ownBlock (.slice (some ⟨g, 0, none⟩) l.length cap) = some k) w).drewN nq) (p := ⟨g, 0, none⟩) (.inl rfl) _).drewN _
end Go.Proofs.YtdacpbdamliafaaGreat

/- The walks of strings.Builder's WriteString and Len. -/
namespace Go.Proofs.YtdacpbdamliafaaGreat
open Go.RowKit
theorem strCells_eq (s : ByteArray) : Lib.strCells s = Lib.byteCells s.data.toList := by rfl
theorem byteCells_app (l m : List UInt8) : Lib.byteCells (l ++ m) = Lib.byteCells l ++ Lib.byteCells m := by simp [Lib.byteCells]
set_option maxRecDepth 100000 in
set_option maxHeartbeats 1000000 in
theorem writeString_any {w : World} {B b o : Nat} {T : TypeId} {cs : Array Value} {v : Value} {l : List UInt8} (h : Bld w B b o T cs v l) (hbB : b < B)
  (hlies : liesAt Tryz.prog Tryz.prog.depth T (cs.size / Tryz.prog.cellsOf T) o 101 1 = true) (s : ByteArray) (hlen : l.length + s.size ≤ 140737488355328) (hB : B ≤ w.heap.size) :
  Calls Tryz.prog 190 #[.pointer (some ⟨b, o, none⟩), .string s] w fun e w' => e = .returned (.tuple #[.int .i64 s.size, .nilIface]) ∧ ∃ v', Bld w' B b o T ((cs.setIfInBounds o (.pointer (some ⟨b, o, none⟩))).setIfInBounds (o + 1) v') v' (l ++ s.data.toList) ∧ Touch (fun k => k = b ∨ v.ownBlock = some k) w w' := by
 obtain ⟨i0, hi, hz0, hz1, hz2⟩ := info_parts infoU8
 have ho : o + 1 < cs.size := (Array.getElem?_eq_some_iff.1 h.buf).1
 go_enter Tryz.func190, Tryz.ntmps190
 go_wp2_with fail
 refine (copyCheck_any h hlies).mono ?_
 rintro e w1 ⟨rfl, hb1, ht1, hs1⟩
 have c1 : w1.cell? ⟨b, o + 1, none⟩ = some v := by
  rw [hb1.cell, Array.getElem?_setIfInBounds_ne (by omega)]; exact h.buf
 have hown : w1.ownsRow B 5 1 v l.length (Lib.byteCells l) := ownsRow_touch h.own ht1 (fun k hk e => h.ne (by rw [hk, e]))
 have HB := hid hb1
 have HT := hid ht1
 have HS := hid hs1
 clear hb1 ht1 hs1
 go_wp2_with (at_builtin; refine Lib.wpList_append_own_string _ rfl _ _ 44 9 rfl B 5 i0 Tryz.underlying44 Tryz.underlying9 hi hz0 hz1 hz2 _ _ _ rfl hown s rfl ?c3 ?c4 ?c5 ?_)
 case c3 => unfold maxLen; omega
 case c4 => omega
 case c5 => have := HS.out; omega
 intro v' w2 hown' hgrow hnl
 have hlt1 := HB.out.lt
 have ht2 : Touch (fun k => v.ownBlock = some k) w1 w2 := (Touch.refl (fun k => v.ownBlock = some k) w1).grown hgrow (fun g hg => .inl hg)
 have hb2 : Blk w2 b T (cs.setIfInBounds o (.pointer (some ⟨b, o, none⟩))) := ht2.blk HB.out h.ne
 have d1 : w2.cell? ⟨b, o + 1, none⟩ = some v := by
  rw [hb2.cell, Array.getElem?_setIfInBounds_ne (by omega)]; exact h.buf
 have f1 : w2.frozen? ⟨b, o + 1, none⟩ = false := hb2.frozen _
 have hne' : v'.ownBlock ≠ some b := fun e => by have := (hown'.lt b e).1; omega
 have hnil : l ++ s.data.toList = [] → v' = .slice none 0 0 := fun e => by
  obtain ⟨e1, e2⟩ := List.append_eq_nil_iff.1 e
  refine hnl.2 ⟨h.nilv e1, ?_⟩
  apply ByteArray.ext
  apply Array.toList_inj.1
  rw [e2]; rfl
 obtain ⟨A', cap', rfl⟩ : ∃ A cap, v' = .slice A (l.length + s.size) cap := by
  rcases hown'.2 with ⟨h1, h2⟩ | ⟨g, cap, cur, h1, _⟩
  ·exact ⟨none, 0, by rw [h1, h2]⟩
  ·exact ⟨_, _, h1⟩
 have HB2 := hid hb2
 have HT2 := hid ht2
 have HO := hid hown'
 have HN := hid hne'
 have HNIL := hid hnil
 clear hb2 ht2 hown' hne' hgrow hown hnl hnil
 go_wp2
 go_ret2
 refine ⟨rfl, _, ⟨HB2.out.put _ _, .inr ?_, ?_, ?_, HN.out, HNIL.out⟩, ?_⟩
 ·rw [Array.getElem?_setIfInBounds_ne (by omega), Array.getElem?_setIfInBounds_self_of_lt (by omega)]
 ·rw [Array.getElem?_setIfInBounds_self_of_lt (by simp; omega)]
 ·have hl : (l ++ s.data.toList).length = l.length + s.size := by simp
  rw [byteCells_app, ← strCells_eq, hl]
  exact ownsRow_touch HO.out ((Touch.refl (· = b) w2).setCell (p := ⟨b, o + 1, none⟩) (.inl rfl) _) (fun k hk e => HN.out (by rw [hk, e]))
 ·exact ((HT.out.mono (fun _ h => .inl h)).trans (HT2.out.mono (fun _ h => .inr h))).setCell (p := ⟨b, o + 1, none⟩) (.inl (.inl rfl)) _
set_option maxRecDepth 100000 in
theorem bLen_any {w : World} {B b o : Nat} {T : TypeId} {cs : Array Value} {v : Value} {l : List UInt8} (h : Bld w B b o T cs v l) :
  Calls Tryz.prog 189 #[.pointer (some ⟨b, o, none⟩)] w fun e w' => e = .returned (.int .i64 l.length) ∧ w' = w := by
 obtain ⟨A, cap, rfl⟩ : ∃ A cap, v = .slice A l.length cap := by
  rcases h.own.2 with ⟨h1, h2⟩ | ⟨g, cap, cur, h1, _⟩
  ·exact ⟨none, 0, by rw [h1, h2]⟩
  ·exact ⟨_, _, h1⟩
 have c1 : w.cell? ⟨b, o + 1, none⟩ = some (.slice A l.length cap) := by rw [h.blk.cell]; exact h.buf
 clear h
 go_enter Tryz.func189, Tryz.ntmps189
 go_wp2_with fail
 go_ret
 exact ⟨rfl, rfl⟩
end Go.Proofs.YtdacpbdamliafaaGreat

/- The printer in memory. -/
namespace Go.Proofs.YtdacpbdamliafaaGreat
open Go.RowKit
def ptokCellsP (x : Lx.PTok) : List Value := [.int .i64 x.kind, .string ⟨x.text.toArray⟩, .int .i64 x.from_, .int .i64 x.to_]
structure Pr (w : World) (p B : Nat) (vt vb : Value) (cs : Array Value) (toks : List Lx.PTok) (txt : List UInt8) : Prop where
 lt : p < B
 bld : Bld w B p 1 103 cs vb txt
 size : cs.size = 3
 tok : cs[0]? = some vt
 own : w.ownsRow B 150 4 vt toks.length (toks.flatMap ptokCellsP)
def PS (p B : Nat) (w : World) (k : Nat) : Prop := k = p ∨ (B ≤ k ∧ ∃ cur e fr, w.heap[k]? = some (.cells cur e fr) ∧ (e = 150 ∨ e = 5))
theorem PS.trans {p B : Nat} {a b c : World} (h : Touch (PS p B a) a b) (k : Touch (PS p B b) b c) : Touch (PS p B a) a c := by
 refine ⟨k.os.trans h.os, k.tape.trans h.tape, k.output.trans h.output, Nat.le_trans h.size k.size, fun i hi hn => ?_⟩
 have h1 := h.block i hi hn
 refine (k.block i (Nat.lt_of_lt_of_le hi h.size) fun hs => hn ?_).trans h1
 rcases hs with hs | ⟨h2, cur, e, fr, h3, h4⟩
 ·exact .inl hs
 ·exact .inr ⟨h2, cur, e, fr, by rw [← h1]; exact h3, h4⟩
theorem PS.fresh {p B : Nat} {a b : World} (h : Fresh a b) : Touch (PS p B a) a b := h.mono fun _ h => h.elim
theorem PS.freshL {p B : Nat} {a b c : World} (h : Fresh a b) (k : Touch (PS p B b) b c) : Touch (PS p B a) a c := PS.trans (PS.fresh h) k
theorem PS.freshR {p B : Nat} {a b c : World} (h : Touch (PS p B a) a b) (k : Fresh b c) : Touch (PS p B a) a c := PS.trans h (PS.fresh k)
theorem owns_type {w : World} {B e size n g : Nat} {v : Value} {xs : List Value} (h : w.ownsRow B e size v n xs) (hg : v.ownBlock = some g) : B ≤ g ∧ ∃ cur, w.heap[g]? = some (.cells cur e (0, 0)) := by
 rcases h.2 with ⟨h1, _⟩ | ⟨g', cap, cur, h1, h2, h3, _⟩
 ·rw [h1] at hg; cases hg
 ·rw [h1] at hg
  simp only [Value.ownBlock, Option.some.injEq] at hg
  subst hg
  exact ⟨h2, cur, h3⟩
theorem PS.blk {p B g : Nat} {t : TypeId} {cs : Array Value} {a b : World} (h : Touch (PS p B a) a b) (hb : Blk a g t cs) (hp : g ≠ p) (h1 : t ≠ 150) (h2 : t ≠ 5) : Blk b g t cs := by
 refine h.blk hb ?_
 rintro (hs | ⟨_, cur, e, fr, h3, h4⟩)
 ·exact hp hs
 ·unfold Blk at hb
  rw [hb] at h3
  cases h3
  rcases h4 with h4 | h4
  ·exact h1 h4
  ·exact h2 h4
theorem PS.old {p B : Nat} {a b : World} (h : Touch (PS p B a) a b) {q : Addr} {v : Value} (hc : a.cell? q = some v) (h1 : q.block < B) (h2 : q.block ≠ p) : b.cell? q = some v := by
 refine h.cell hc ?_
 rintro (hs | ⟨h3, _⟩)
 ·exact h2 hs
 ·omega
theorem Pr.fresh {w w' : World} {p B : Nat} {vt vb : Value} {cs : Array Value} {toks : List Lx.PTok} {txt : List UInt8} (h : Pr w p B vt vb cs toks txt) (hf : Fresh w w') : Pr w' p B vt vb cs toks txt :=
 ⟨h.lt, ⟨hf.blk h.bld.blk (fun h => h), h.bld.addr, h.bld.buf, ownsRow_touch h.bld.own hf (fun _ _ h => h), h.bld.ne, h.bld.nilv⟩, h.size, h.tok, ownsRow_touch h.own hf (fun _ _ h => h)⟩
theorem Pr.touch {S : Nat → Prop} {w w' : World} {p B : Nat} {vt vb : Value} {cs : Array Value} {toks : List Lx.PTok} {txt : List UInt8} (h : Pr w p B vt vb cs toks txt) (ht : Touch S w w') (h1 : ¬ S p) (h2 : ∀ k, vt.ownBlock = some k → ¬ S k) (h3 : ∀ k, vb.ownBlock = some k → ¬ S k) : Pr w' p B vt vb cs toks txt :=
 ⟨h.lt, ⟨ht.blk h.bld.blk h1, h.bld.addr, h.bld.buf, ownsRow_touch h.bld.own ht h3, h.bld.ne, h.bld.nilv⟩, h.size, h.tok, ownsRow_touch h.own ht h2⟩
theorem Pr.vt_lt {w : World} {p B : Nat} {vt vb : Value} {cs : Array Value} {toks : List Lx.PTok} {txt : List UInt8} (h : Pr w p B vt vb cs toks txt) : ∀ k, vt.ownBlock = some k → k < w.heap.size := fun k hk => by
 obtain ⟨_, cur, h2⟩ := owns_type h.own hk
 exact (Array.getElem?_eq_some_iff.1 h2).1
theorem Pr.vb_lt {w : World} {p B : Nat} {vt vb : Value} {cs : Array Value} {toks : List Lx.PTok} {txt : List UInt8} (h : Pr w p B vt vb cs toks txt) : ∀ k, vb.ownBlock = some k → k < w.heap.size := fun k hk => by
 obtain ⟨_, cur, h2⟩ := owns_type h.bld.own hk
 exact (Array.getElem?_eq_some_iff.1 h2).1
theorem Pr.vb_ne {w : World} {p B g : Nat} {vt vb : Value} {cs : Array Value} {toks : List Lx.PTok} {txt : List UInt8} (h : Pr w p B vt vb cs toks txt) {t : TypeId} {xs : Array Value} (hb : Blk w g t xs) (ht : t ≠ 5) : vb.ownBlock ≠ some g := fun hk => by
 obtain ⟨_, cur, h2⟩ := owns_type h.bld.own hk
 unfold Blk at hb
 rw [hb] at h2
 cases h2
 exact ht rfl
theorem PS.bld {w w' : World} {p B : Nat} {vt vb : Value} {cs : Array Value} {toks : List Lx.PTok} {txt : List UInt8} (h : Pr w p B vt vb cs toks txt) (ht : Touch (fun k => k = p ∨ vb.ownBlock = some k) w w') : Touch (PS p B w) w w' :=
 ht.mono fun k hk => hk.elim .inl fun hk => by
  obtain ⟨h1, cur, h2⟩ := owns_type h.bld.own hk
  exact .inr ⟨h1, cur, _, _, h2, .inr rfl⟩
theorem Pr.wrote {w w' : World} {p B : Nat} {vt vb vb' : Value} {cs : Array Value} {toks : List Lx.PTok} {txt txt' : List UInt8} (h : Pr w p B vt vb cs toks txt)
  (hb : Bld w' B p 1 103 ((cs.setIfInBounds 1 (.pointer (some ⟨p, 1, none⟩))).setIfInBounds (1 + 1) vb') vb' txt') (ht : Touch (fun k => k = p ∨ vb.ownBlock = some k) w w') :
  Pr w' p B vt vb' ((cs.setIfInBounds 1 (.pointer (some ⟨p, 1, none⟩))).setIfInBounds (1 + 1) vb') toks txt' := by
 refine ⟨h.lt, hb, by simp [h.size], ?_, ownsRow_touch h.own ht ?_⟩
 ·rw [Array.getElem?_setIfInBounds_ne (by decide), Array.getElem?_setIfInBounds_ne (by decide)]; exact h.tok
 ·intro k hk hs
  obtain ⟨h1, cur, h2⟩ := owns_type h.own hk
  rcases hs with hs | hs
  ·have := h.lt; omega
  ·obtain ⟨_, cur', h3⟩ := owns_type h.bld.own hs
   rw [h2] at h3
   simp at h3
end Go.Proofs.YtdacpbdamliafaaGreat

/- Small lemmas on bytes and strings. -/
namespace Go.Proofs.YtdacpbdamliafaaGreat
open Go.RowKit
theorem liesBuilder : liesAt Tryz.prog Tryz.prog.depth 101 (2 / Tryz.prog.cellsOf 101) 0 101 1 = true := by kernel_rfl
theorem str_of (s : ByteArray) : (⟨s.data.toList.toArray⟩ : ByteArray) = s := rfl
theorem str_nil : (⟨([] : List UInt8).toArray⟩ : ByteArray) = ByteArray.empty := rfl
theorem data_get (s : ByteArray) (k : Nat) (h : k < s.size) : s.data.toList[k]'(by simpa using h) = s[k] := rfl
theorem u8_eq_of (x y : UInt8) (h : x = y) : ((x.toNat : Int) == (y.toNat : Int)) = true := by rw [h]; simp
theorem u8_ne_of (x y : UInt8) (h : ¬ x = y) : ((x.toNat : Int) == (y.toNat : Int)) = false := by
 rw [beq_eq_false_iff_ne]; intro hx; exact h (UInt8.toNat_inj.1 (by omega))
theorem u8_bne_of (x y : UInt8) (h : ¬ x = y) : ((x.toNat : Int) != (y.toNat : Int)) = true := by
 rw [bne_iff_ne]; intro hx; exact h (UInt8.toNat_inj.1 (by omega))
theorem u8_nbne_of (x y : UInt8) (h : x = y) : ((x.toNat : Int) != (y.toNat : Int)) = false := by rw [h]; simp
end Go.Proofs.YtdacpbdamliafaaGreat

/- The walk of lexer.Spell. -/
namespace Go.Proofs.YtdacpbdamliafaaGreat
open Go.RowKit
theorem app_str (l : List UInt8) (t : ByteArray) : ((⟨l.toArray⟩ : ByteArray) ++ t) = ⟨(l ++ t.data.toList).toArray⟩ := by
 apply ByteArray.ext
 simp [ByteArray.data_append]
structure SpAt (w : World) (k : Int) (t : ByteArray) (f to_ : Int) (acc : List UInt8) (cs : Array Value) (v : Value) (wr : World) : Prop where
 tok : Blk wr w.heap.size 150 #[.int .i64 k, .string t, .int .i64 f, .int .i64 to_]
 bld : Bld wr (w.heap.size + 2) (w.heap.size + 1) 0 101 cs v acc
 size : cs.size = 2
 touch : Fresh w wr
theorem SpAt.next {w : World} {k : Int} {t : ByteArray} {f to_ : Int} {acc : List UInt8} {cs : Array Value} {v : Value} {wr w' : World} (Q : SpAt w k t f to_ acc cs v wr) {c : UInt8} {v' : Value}
  (hb : Bld w' (w.heap.size + 2) (w.heap.size + 1) 0 101 ((cs.setIfInBounds 0 (.pointer (some ⟨w.heap.size + 1, 0, none⟩))).setIfInBounds (0 + 1) v') v' (acc ++ [c]))
  (ht : Touch (fun k => k = w.heap.size + 1 ∨ v.ownBlock = some k) wr w') :
  SpAt w k t f to_ (acc ++ [c]) ((cs.setIfInBounds 0 (.pointer (some ⟨w.heap.size + 1, 0, none⟩))).setIfInBounds (0 + 1) v') v' w' := by
 have hlt := Q.bld.own.lt
 refine ⟨ht.blk Q.tok ?_, hb, by simp [Q.size], Q.touch.trans' ht ?_⟩
 ·rintro (h1 | h1)
  ·omega
  ·have := (hlt _ h1).1; omega
 ·rintro i (h1 | h1)
  ·right; omega
  ·right; have := (hlt _ h1).1; omega
set_option maxRecDepth 100000 in
set_option maxHeartbeats 1000000 in
theorem spell_text (t : ByteArray) (f to_ : Int) (w : World) (hm : t.size ≤ 1000000000) :
  Calls Tryz.prog 191 #[.agg #[.int .i64 3, .string t, .int .i64 f, .int .i64 to_]] w fun e w' => e = .returned (.string ⟨(Lx.quoteL t.data.toList).toArray⟩) ∧ Fresh w w' := by
 have hll : t.data.toList.length = t.size := by simp
 have HLL := hid hll
 clear hll
 go_enter Tryz.func191, Tryz.ntmps191
 go_wp2_with fail
 have hs0 : SpAt w 3 t f to_ [] #[.pointer none, .slice none 0 0] (.slice none 0 0) ((w.alloc (.cells #[.int .i64 3, .string t, .int .i64 f, .int .i64 to_] 150)).alloc (.cells #[.pointer none, .slice none 0 0] 101)) :=
  ⟨(Blk.new w _ _).alloc _, ⟨Blk.new2 _ _ _ _, .inl rfl, rfl, World.ownsRow_nil _ _ _ _, by simp [Value.ownBlock], fun _ => rfl⟩, rfl, ((Touch.refl _ w).alloc _).alloc _⟩
 have HS0 := hid hs0
 clear hs0
 refine (writeByte_any HS0.out.bld (by rw [HS0.out.size]; exact liesBuilder) _ 34 rfl (by simp) (by simp)).mono ?_
 rintro e1 w1 ⟨rfl, v1, hb1, ht1⟩
 have HS1 := hid (HS0.out.next hb1 ht1)
 clear hb1 ht1 HS0
 have hq := Blk.four HS1.out.tok
 obtain ⟨q0, q1, q2, q3, z0, z1, z2, z3, hg⟩ := hq
 go_wp2_with fail
 go_loopw [4] (fun i wr => ∃ (j : Nat) (acc : List UInt8) (cs : Array Value) (v : Value), i = .int .i64 j ∧ j ≤ t.size ∧ acc.length ≤ 2 * j + 1 ∧ Hid (acc = 34 :: Lx.esc (t.data.toList.take j)) ∧ Hid (SpAt w 3 t f to_ acc cs v wr)) (fun i _ => t.size - (intOf i).toNat)
 case atStart => exact ⟨0, _, _, _, rfl, Nat.zero_le _, by simp, by simp [Lx.esc, Hid], HS1⟩
 case round =>
  obtain ⟨j, acc, cs, v, rfl, hj, hacc, HA, HS⟩ := hrel
  clear q0 q1 q2 q3 z0 z1 z2 z3 hg HS1
  obtain ⟨q0, q1, q2, q3, z0, z1, z2, z3, hg⟩ := Blk.four HS.out.tok
  have hbl := HS.out.bld.lt
  by_cases c1 : j < t.size
  ·have b1 : decide ((j : Int) < (t.size : Int)) = true := by simp; omega
   have b1' : (j : Int) < (t.size : Int) := by omega
   have b1'' : (0 : Int) ≤ (j : Int) := by omega
   have htk : t.data.toList.take (j + 1) = t.data.toList.take j ++ [t[j]'c1] := by
    rw [List.take_succ_eq_append_getElem (by rw [HLL.out]; exact c1)]; rfl
   have HTK := hid htk
   clear htk
   by_cases c2 : t[j]'c1 = 34
   ·have b2 : (((t[j]'c1).toNat : Int) == 34) = true := u8_eq_of _ 34 c2
    have HE := hid (show Lx.escB (t[j]'c1) = [92, t[j]'c1] by unfold Lx.escB; rw [if_pos (.inl c2)])
    clear c2
    go_wp2_with fail
    refine (writeByte_any HS.out.bld (by rw [HS.out.size]; exact liesBuilder) _ 92 rfl (by omega) (by omega)).mono ?_
    rintro e2 w2 ⟨rfl, v2, hb2, ht2⟩
    have HS2 := hid (HS.out.next hb2 ht2)
    clear hb2 ht2
    clear q0 q1 q2 q3 z0 z1 z2 z3 hg
    obtain ⟨q0, q1, q2, q3, z0, z1, z2, z3, hg⟩ := Blk.four HS2.out.tok
    have hbl2 := HS2.out.bld.lt
    go_wp2_with fail
    refine (writeByte_any HS2.out.bld (by rw [HS2.out.size]; exact liesBuilder) _ (t[j]'c1) rfl (by simp; omega) (by omega)).mono ?_
    rintro e3 w3 ⟨rfl, v3, hb3, ht3⟩
    have HS3 := hid (HS2.out.next hb3 ht3)
    clear hb3 ht3
    go_wp2_with fail
    go_roundw
    case rel => exact ⟨j + 1, _, _, _, by go_num, c1, by simp; omega, by rw [HTK.out, Lx.esc_snoc, HE.out, HA.out]; simp [Hid], HS3⟩
    case measure => simp [intOf]; omega
   ·have b2 : (((t[j]'c1).toNat : Int) == 34) = false := u8_ne_of _ 34 c2
    by_cases c3 : t[j]'c1 = 92
    ·have b3 : (((t[j]'c1).toNat : Int) == 92) = true := u8_eq_of _ 92 c3
     have HE := hid (show Lx.escB (t[j]'c1) = [92, t[j]'c1] by unfold Lx.escB; rw [if_pos (.inr c3)])
     clear c2 c3
     go_wp2_with fail
     refine (writeByte_any HS.out.bld (by rw [HS.out.size]; exact liesBuilder) _ 92 rfl (by omega) (by omega)).mono ?_
     rintro e2 w2 ⟨rfl, v2, hb2, ht2⟩
     have HS2 := hid (HS.out.next hb2 ht2)
     clear hb2 ht2
     clear q0 q1 q2 q3 z0 z1 z2 z3 hg
     obtain ⟨q0, q1, q2, q3, z0, z1, z2, z3, hg⟩ := Blk.four HS2.out.tok
     have hbl2 := HS2.out.bld.lt
     go_wp2_with fail
     refine (writeByte_any HS2.out.bld (by rw [HS2.out.size]; exact liesBuilder) _ (t[j]'c1) rfl (by simp; omega) (by omega)).mono ?_
     rintro e3 w3 ⟨rfl, v3, hb3, ht3⟩
     have HS3 := hid (HS2.out.next hb3 ht3)
     clear hb3 ht3
     go_wp2_with fail
     go_roundw
     case rel => exact ⟨j + 1, _, _, _, by go_num, c1, by simp; omega, by rw [HTK.out, Lx.esc_snoc, HE.out, HA.out]; simp [Hid], HS3⟩
     case measure => simp [intOf]; omega
    ·have b3 : (((t[j]'c1).toNat : Int) == 92) = false := u8_ne_of _ 92 c3
     have HE := hid (show Lx.escB (t[j]'c1) = [t[j]'c1] by unfold Lx.escB; rw [if_neg (fun h => h.elim c2 c3)])
     clear c2 c3
     go_wp2_with fail
     refine (writeByte_any HS.out.bld (by rw [HS.out.size]; exact liesBuilder) _ (t[j]'c1) rfl (by omega) (by omega)).mono ?_
     rintro e3 w3 ⟨rfl, v3, hb3, ht3⟩
     have HS3 := hid (HS.out.next hb3 ht3)
     clear hb3 ht3
     go_wp2_with fail
     go_roundw
     case rel => exact ⟨j + 1, _, _, _, by go_num, c1, by simp; omega, by rw [HTK.out, Lx.esc_snoc, HE.out, HA.out]; simp [Hid], HS3⟩
     case measure => simp [intOf]; omega
  ·have b1 : decide ((j : Int) < (t.size : Int)) = false := by simp; omega
   have htk : t.data.toList.take j = t.data.toList := List.take_of_length_le (by rw [HLL.out]; omega)
   have HTK := hid htk
   clear htk
   go_wp2_with fail
   refine (writeByte_any HS.out.bld (by rw [HS.out.size]; exact liesBuilder) _ 34 rfl (by omega) (by omega)).mono ?_
   rintro e2 w2 ⟨rfl, v2, hb2, ht2⟩
   have HS2 := hid (HS.out.next hb2 ht2)
   clear hb2 ht2
   go_wp2_with fail
   refine (bstring_any HS2.out.bld).mono ?_
   rintro e3 w3 ⟨rfl, ht3⟩
   have HF := hid (show Fresh w w3 from HS2.out.touch.trans' ht3 (fun i hk => by have := (HS2.out.bld.own.lt _ hk).1; right; omega))
   clear ht3
   go_wp2_with fail
   go_ret
   refine ⟨?_, HF.out⟩
   rw [HA.out, HTK.out]; rfl
theorem spell_any (k : Int) (t : ByteArray) (f to_ : Int) (w : World) (hm : t.size ≤ 1000000000) :
  Calls Tryz.prog 191 #[.agg #[.int .i64 k, .string t, .int .i64 f, .int .i64 to_]] w fun e w' => e = .returned (.string ⟨(Lx.spellL k t.data.toList).toArray⟩) ∧ Fresh w w' := by
 by_cases k3 : k = 3
 ·subst k3
  exact spell_text t f to_ w hm
 have b3 : (k == 3) = false := by simpa using k3
 by_cases k4 : k = 4
 ·subst k4
  clear b3 k3
  go_enter Tryz.func191, Tryz.ntmps191
  go_wp2
  go_ret
  exact ⟨by rw [app_str [92] t]; rfl, (Touch.refl _ w).alloc _⟩
 have b4 : (k == 4) = false := by simpa using k4
 by_cases k5 : k = 5
 ·subst k5
  clear b3 k3 b4 k4
  go_enter Tryz.func191, Tryz.ntmps191
  go_wp2
  go_ret
  exact ⟨by rw [app_str [92, 102, 101, 110, 99, 101] t]; rfl, (Touch.refl _ w).alloc _⟩
 have b5 : (k == 5) = false := by simpa using k5
 by_cases k6 : k = 6
 ·subst k6
  clear b3 k3 b4 k4 b5 k5
  go_enter Tryz.func191, Tryz.ntmps191
  go_wp2
  go_ret
  exact ⟨by rw [app_str [35] t]; rfl, (Touch.refl _ w).alloc _⟩
 have b6 : (k == 6) = false := by simpa using k6
 have hsp : Lx.spellL k t.data.toList = t.data.toList := by unfold Lx.spellL; rw [if_neg k3, if_neg k4, if_neg k5, if_neg k6]
 have HSP := hid hsp
 clear hsp k3 k4 k5 k6
 go_enter Tryz.func191, Tryz.ntmps191
 go_wp2
 go_ret
 exact ⟨by rw [HSP.out]; rfl, (Touch.refl _ w).alloc _⟩
end Go.Proofs.YtdacpbdamliafaaGreat

/- The walks of Joins, and of the reference's Letter, Joins, Quoted, Spell. -/
namespace Go.Proofs.YtdacpbdamliafaaGreat
open Go.RowKit
def letB (b : UInt8) : Bool := Lx.isB 3 b
def joinsL (ka kb : Int) (tb : List UInt8) : Bool := (ka == 2 && kb == 2) || (ka == 4 && kb == 1 && (match tb with | [] => false | b :: _ => Lx.isB 3 b))
theorem letter_of_256 : ∀ n : Fin 256, (Lx.cls n.1 == 3) = (decide (97 ≤ n.1 ∧ n.1 ≤ 122) || decide (65 ≤ n.1 ∧ n.1 ≤ 90)) := by decide +kernel
theorem or32_of_256 : ∀ n : Fin 256, (Lx.cls n.1 == 3) = (decide ((97 : Int) ≤ bits .or .u8 (n.1 : Int) 32) && decide (bits .or .u8 (n.1 : Int) 32 ≤ (122 : Int))) := by decide +kernel
set_option maxHeartbeats 400000 in
theorem rLetter_any (x : Int) (b : UInt8) (hx : x = b.toNat) (w : World) :
  Calls Tryz.prog 59 #[.int .u8 x] w fun e w' => e = .returned (.bool (Lx.isB 3 b)) ∧ w' = w := by
 have h := letter_of_256 ⟨b.toNat, b.toNat_lt⟩
 have hb : Lx.isB 3 b = (Lx.cls b.toNat == 3) := rfl
 rw [hb, h]
 have HX := hid hx
 clear h hb hx
 by_cases c1 : 97 ≤ b.toNat ∧ b.toNat ≤ 122
 ·have b1 : decide (97 ≤ x) = true := by rw [HX.out]; simp; omega
  have b2 : decide (x ≤ 122) = true := by rw [HX.out]; simp; omega
  have hr := hid (show (decide (97 ≤ b.toNat ∧ b.toNat ≤ 122) || decide (65 ≤ b.toNat ∧ b.toNat ≤ 90)) = true by simp [c1])
  clear c1
  go_enter Tryz.func59, Tryz.ntmps59
  go_wp2
  go_ret
  exact ⟨by rw [hr.out]; rfl, rfl⟩
 ·by_cases c2 : 65 ≤ b.toNat ∧ b.toNat ≤ 90
  ·have b1 : decide (97 ≤ x) = false := by rw [HX.out]; simp; omega
   have b3 : decide (65 ≤ x) = true := by rw [HX.out]; simp; omega
   have b4 : decide (x ≤ 90) = true := by rw [HX.out]; simp; omega
   have hr := hid (show (decide (97 ≤ b.toNat ∧ b.toNat ≤ 122) || decide (65 ≤ b.toNat ∧ b.toNat ≤ 90)) = true by simp [c2])
   clear c1 c2
   go_enter Tryz.func59, Tryz.ntmps59
   go_wp2
   go_ret
   exact ⟨by rw [hr.out]; rfl, rfl⟩
  ·have hr := hid (show (decide (97 ≤ b.toNat ∧ b.toNat ≤ 122) || decide (65 ≤ b.toNat ∧ b.toNat ≤ 90)) = false by simp [c1, c2])
   by_cases d1 : 97 ≤ b.toNat
   ·have b1 : decide (97 ≤ x) = true := by rw [HX.out]; simp; omega
    have b2 : decide (x ≤ 122) = false := by rw [HX.out]; simp; omega
    have b3 : decide (65 ≤ x) = true := by rw [HX.out]; simp; omega
    have b4 : decide (x ≤ 90) = false := by rw [HX.out]; simp; omega
    clear c1 c2 d1
    go_enter Tryz.func59, Tryz.ntmps59
    go_wp2
    go_ret
    exact ⟨by rw [hr.out]; rfl, rfl⟩
   ·have b1 : decide (97 ≤ x) = false := by rw [HX.out]; simp; omega
    by_cases d2 : 65 ≤ b.toNat
    ·have b3 : decide (65 ≤ x) = true := by rw [HX.out]; simp; omega
     have b4 : decide (x ≤ 90) = false := by rw [HX.out]; simp; omega
     clear c1 c2 d1 d2
     go_enter Tryz.func59, Tryz.ntmps59
     go_wp2
     go_ret
     exact ⟨by rw [hr.out]; rfl, rfl⟩
    ·have b3 : decide (65 ≤ x) = false := by rw [HX.out]; simp; omega
     clear c1 c2 d1 d2
     go_enter Tryz.func59, Tryz.ntmps59
     go_wp2
     go_ret
     exact ⟨by rw [hr.out]; rfl, rfl⟩
theorem isEmpty_toList (s : ByteArray) : s.toList.isEmpty = decide (s.size = 0) := by
 rw [ByteArray.toList_eq, Bool.eq_iff_iff, List.isEmpty_iff_length_eq_zero, decide_eq_true_iff]
 simp
theorem head_list (s : ByteArray) (h : 0 < s.size) : s.data.toList = (s[0]'h) :: s.data.toList.drop 1 := by
 have := List.drop_eq_getElem_cons (l := s.data.toList) (i := 0) (by simpa using h)
 rw [List.drop_zero] at this
 exact this
theorem nil_list (s : ByteArray) (h : s.size = 0) : s.data.toList = [] := by
 apply List.eq_nil_of_length_eq_zero; simpa using h
theorem bool_ret (b c : Bool) (h : b = c) : Ending.returned (.bool b) = .returned (.bool c) := by rw [h]
set_option maxHeartbeats 400000 in
theorem joins_any (ka fa ta kb fb tb' : Int) (sa sb : ByteArray) (w : World) :
  Calls Tryz.prog 187 #[.agg #[.int .i64 ka, .string sa, .int .i64 fa, .int .i64 ta], .agg #[.int .i64 kb, .string sb, .int .i64 fb, .int .i64 tb']] w fun e w' => e = .returned (.bool (joinsL ka kb sb.data.toList)) ∧ Fresh w w' := by
 by_cases c1 : ka = 2
 ·subst c1
  by_cases c2 : kb = 2
  ·subst c2
   have hr := hid (show joinsL 2 2 sb.data.toList = true from rfl)
   go_enter Tryz.func187, Tryz.ntmps187
   go_wp2
   go_ret
   exact ⟨by rw [hr.out]; rfl, ((Touch.refl _ w).alloc _).alloc _⟩
  ·have b2 : (kb == 2) = false := by simpa using c2
   have hr := hid (show joinsL 2 kb sb.data.toList = false by unfold joinsL; rw [b2]; rfl)
   clear c2
   go_enter Tryz.func187, Tryz.ntmps187
   go_wp2
   go_ret
   exact ⟨by rw [hr.out]; rfl, ((Touch.refl _ w).alloc _).alloc _⟩
 ·have b1 : (ka == 2) = false := by simpa using c1
  by_cases c2 : ka = 4
  ·subst c2
   clear b1 c1
   by_cases c3 : kb = 1
   ·subst c3
    by_cases c4 : sb.size = 0
    ·have hr := hid (show joinsL 4 1 sb.data.toList = false by rw [nil_list sb c4]; rfl)
     have b4 : sb.toList.isEmpty = true := by rw [isEmpty_toList, decide_eq_true_iff]; exact c4
     clear c4
     go_enter Tryz.func187, Tryz.ntmps187
     go_wp2
     go_ret
     exact ⟨by rw [hr.out]; rfl, ((Touch.refl _ w).alloc _).alloc _⟩
    ·have h0 : 0 < sb.size := by omega
     have hr : joinsL 4 1 sb.data.toList = (decide ((97 : Int) ≤ bits .or .u8 ((sb[0]'h0).toNat : Int) 32) && decide (bits .or .u8 ((sb[0]'h0).toNat : Int) 32 ≤ (122 : Int))) := by
      rw [head_list sb h0]; exact or32_of_256 ⟨(sb[0]'h0).toNat, (sb[0]'h0).toNat_lt⟩
     rw [hr]
     clear hr c4
     have b4 : sb.toList.isEmpty = false := by rw [isEmpty_toList, decide_eq_false_iff_not]; omega
     cases d1 : decide ((97 : Int) ≤ bits .or .u8 ((sb[0]'h0).toNat : Int) 32) with
     | true =>
      go_enter Tryz.func187, Tryz.ntmps187
      go_wp2
      go_ret
      exact ⟨rfl, ((Touch.refl _ w).alloc _).alloc _⟩
     | false =>
      go_enter Tryz.func187, Tryz.ntmps187
      go_wp2
      go_ret
      exact ⟨rfl, ((Touch.refl _ w).alloc _).alloc _⟩
   ·have b2 : (kb != 1) = true := by rw [bne_iff_ne]; exact c3
    have hr := hid (show joinsL 4 kb sb.data.toList = false by unfold joinsL; rw [beq_eq_false_iff_ne.2 c3]; rfl)
    clear c3
    go_enter Tryz.func187, Tryz.ntmps187
    go_wp2
    go_ret
    exact ⟨by rw [hr.out]; rfl, ((Touch.refl _ w).alloc _).alloc _⟩
  ·have b2 : (ka != 4) = true := by rw [bne_iff_ne]; exact c2
   have hr := hid (show joinsL ka kb sb.data.toList = false by unfold joinsL; rw [b1, beq_eq_false_iff_ne.2 c2]; rfl)
   clear c1 c2
   go_enter Tryz.func187, Tryz.ntmps187
   go_wp2
   go_ret
   exact ⟨by rw [hr.out]; rfl, ((Touch.refl _ w).alloc _).alloc _⟩
set_option maxHeartbeats 400000 in
theorem rJoins_any (ka fa ta kb fb tb' : Int) (sa sb : ByteArray) (w : World) :
  Calls Tryz.prog 26 #[.agg #[.int .i64 ka, .string sa, .int .i64 fa, .int .i64 ta], .agg #[.int .i64 kb, .string sb, .int .i64 fb, .int .i64 tb']] w fun e w' => e = .returned (.bool (joinsL ka kb sb.data.toList)) ∧ Fresh w w' := by
 by_cases c1 : ka = 4
 ·subst c1
  by_cases c2 : kb = 1
  ·subst c2
   by_cases c4 : sb.size = 0
   ·have hr := hid (show joinsL 4 1 sb.data.toList = false by rw [nil_list sb c4]; rfl)
    have b4 : decide (0 < sb.size) = false := by rw [decide_eq_false_iff_not]; omega
    clear c4
    go_enter Tryz.func26, Tryz.ntmps26
    go_wp2
    go_ret
    exact ⟨by rw [hr.out]; rfl, ((Touch.refl _ w).alloc _).alloc _⟩
   ·have h0 : 0 < sb.size := by omega
    have hr := hid (show joinsL 4 1 sb.data.toList = Lx.isB 3 (sb[0]'h0) by rw [head_list sb h0]; rfl)
    have b4 : decide (0 < sb.size) = true := by rw [decide_eq_true_iff]; omega
    clear c4
    go_enter Tryz.func26, Tryz.ntmps26
    go_wp2_with fail
    refine (rLetter_any _ (sb[0]'h0) rfl _).mono ?_
    rintro e1 w1 ⟨rfl, rfl⟩
    go_wp2_with fail
    go_ret
    exact ⟨by rw [hr.out]; rfl, ((Touch.refl _ w).alloc _).alloc _⟩
  ·have b2 : (kb == 1) = false := by simpa using c2
   have hr := hid (show joinsL 4 kb sb.data.toList = false by unfold joinsL; rw [b2]; rfl)
   clear c2
   go_enter Tryz.func26, Tryz.ntmps26
   go_wp2
   go_ret
   exact ⟨by rw [hr.out]; rfl, ((Touch.refl _ w).alloc _).alloc _⟩
 ·have b1 : (ka == 4) = false := by simpa using c1
  by_cases c2 : ka = 2
  ·subst c2
   by_cases c3 : kb = 2
   ·subst c3
    have hr := hid (show joinsL 2 2 sb.data.toList = true from rfl)
    clear c1 b1
    go_enter Tryz.func26, Tryz.ntmps26
    go_wp2
    go_ret
    exact ⟨by rw [hr.out]; rfl, ((Touch.refl _ w).alloc _).alloc _⟩
   ·have b3 : (kb == 2) = false := by simpa using c3
    have hr := hid (show joinsL 2 kb sb.data.toList = false by unfold joinsL; rw [b3]; rfl)
    clear c1 b1 c3
    go_enter Tryz.func26, Tryz.ntmps26
    go_wp2
    go_ret
    exact ⟨by rw [hr.out]; rfl, ((Touch.refl _ w).alloc _).alloc _⟩
  ·have b2 : (ka == 2) = false := by simpa using c2
   have hr := hid (show joinsL ka kb sb.data.toList = false by unfold joinsL; rw [b1, b2]; rfl)
   clear c1 c2
   go_enter Tryz.func26, Tryz.ntmps26
   go_wp2
   go_ret
   exact ⟨by rw [hr.out]; rfl, ((Touch.refl _ w).alloc _).alloc _⟩
end Go.Proofs.YtdacpbdamliafaaGreat

/- The walk of printer.add. -/
namespace Go.Proofs.YtdacpbdamliafaaGreat
open Go.RowKit
theorem liesPr : liesAt Tryz.prog Tryz.prog.depth 103 (3 / Tryz.prog.cellsOf 103) 1 101 1 = true := by kernel_rfl
theorem infoTokP : (Tryz.prog.info? 150).map (fun i => (i.zero, i.size, i.bytes)) = some (some (.agg #[.int .i64 0, .string ⟨#[]⟩, .int .i64 0, .int .i64 0]), 4, 40) := by kernel_rfl
theorem step_append_own {P : Program} {ops : Array Oper} {o : Oper} {a : Act} {w : World} {K : Act → World → Prop} {Q : Exit → Act → World → Prop} {E : Prop}
  (hg : o.guard = none) (s x : Operand) (t : TypeId) (hop : o.op = Op.call { callee := Callee.builtin Builtin.append, args := #[s, x], argTypes := #[t, t] })
  (base : Nat) (e : TypeId) (i : TypeInfo) (z : Value) (size bytes : Nat) (ht : P.underlying t = some (.slice e)) (hi : P.info? e = some i) (hz : i.zero = some z)
  (hsize : i.size = size) (hby : i.bytes = bytes) (hzs : z.cells.size = size) (hsz : 0 < size)
  (v : Value) (n : Nat) (xs : List Value) (hs : a.eval s = v) (hown : w.ownsRow base e size v n xs)
  (ad : Addr) (m c : Nat) (news : List Value) (hx : a.eval x = .slice (some ad) m c) (hl : news.length = m * size) (hnews : ∀ j u, news[j]? = some u → w.cell? (ad.add j) = some u) (h1 : ∀ u ∈ news, u.oneCell' = true)
  (h63 : n + m ≤ maxLen) (hbytes : (n + m) * bytes ≤ 140737488355328) (hbase : base ≤ w.heap.size)
  (h : ∀ v' w', w'.ownsRow base e size v' (n + m) (xs ++ news) → w.grownBy w' v.ownBlock → K (a.put o.dst v') w') :
  if Region.wanted o (yielded ops a.tmps) = true then Oper.wp P o a w K Q else E := by
 have hw : Region.wanted o (yielded ops a.tmps) = true := by simp [Region.wanted, hg]
 rw [if_pos hw]
 exact wp_append_own w s x t hop base e i z size bytes ht hi hz hsize hby hzs hsz v n xs hs hown ad m c news hx hl hnews h1 h63 hbytes hbase fun v' w' h2 h3 _ => h v' w' h2 h3
def joinLast (toks : List Lx.PTok) (t : Lx.Tok) : Bool := match toks.getLast? with | none => false | some x => Lx.join (Lx.tok x) t
def gap (toks : List Lx.PTok) (t : Lx.Tok) : List UInt8 := if joinLast toks t then [32] else []
def added (toks : List Lx.PTok) (txt : List UInt8) (t : Lx.Tok) : List Lx.PTok := toks ++ [⟨t.kind, t.text, (txt ++ gap toks t).length, (txt ++ gap toks t ++ Lx.spell t).length⟩]
theorem app_pr {W w' : World} {p B n : Nat} {vt vb v' : Value} {cs : Array Value} {toks : List Lx.PTok} {txt : List UInt8} {xs : List Value} {o : Obj} (h : Pr W p B vt vb cs toks txt) (ho : w'.ownsRow B 150 4 v' (n + 1) xs) (hg : ((W.alloc o).drew).grownBy w' vt.ownBlock) :
  ∃ g cap, v' = .slice (some ⟨g, 0, none⟩) (n + 1) cap ∧ w'.cell? ⟨p, 0, none⟩ = some vt ∧ w'.frozen? ⟨p, 0, none⟩ = false ∧ Hid (Touch (fun k => vt.ownBlock = some k) W w') ∧ Hid (w'.ownsRow B 150 4 v' (n + 1) xs) := by
 obtain ⟨g, cap, hv⟩ : ∃ g cap, v' = .slice (some ⟨g, 0, none⟩) (n + 1) cap := by
  rcases ho.2 with ⟨_, h0⟩ | ⟨g, cap, cur, hv, _⟩
  ·omega
  ·exact ⟨g, cap, hv⟩
 have ht : Touch (fun k => vt.ownBlock = some k) W w' := (((Touch.refl (fun k => vt.ownBlock = some k) W).alloc o).drew).grown hg (fun g hg => .inl hg)
 have hp : vt.ownBlock ≠ some p := fun e => by
  obtain ⟨h1, _⟩ := owns_type h.own e
  have := h.lt
  omega
 have hb := ht.blk h.bld.blk hp
 exact ⟨g, cap, hv, (hb.cell 0).trans h.tok, hb.frozen 0, ht, ho⟩
theorem Pr.appended {W w' : World} {p B : Nat} {vt vb v' : Value} {cs : Array Value} {toks : List Lx.PTok} {txt : List UInt8} {x : Lx.PTok} (h : Pr W p B vt vb cs toks txt) (ht : Touch (fun k => vt.ownBlock = some k) W w')
  (ho : w'.ownsRow B 150 4 v' (toks.length + 1) (toks.flatMap ptokCellsP ++ ptokCellsP x)) : Pr (w'.setCell ⟨p, 0, none⟩ v') p B v' vb (cs.setIfInBounds 0 v') (toks ++ [x]) txt ∧ Touch (PS p B W) W (w'.setCell ⟨p, 0, none⟩ v') := by
 have hsz := h.size
 have hlt := h.lt
 have hp : vt.ownBlock ≠ some p := fun e => by
  obtain ⟨h1, _⟩ := owns_type h.own e
  omega
 have hv : ∀ k, v'.ownBlock = some k → k ≠ p := fun k e => by
  have := (ho.lt k e).1
  omega
 have hb := ht.blk h.bld.blk hp
 have hvb : w'.ownsRow B 5 1 vb txt.length (Lib.byteCells txt) := ownsRow_touch h.bld.own ht fun k hk hs => by
  obtain ⟨_, cur, h2⟩ := owns_type h.bld.own hk
  obtain ⟨_, cur', h3⟩ := owns_type h.own hs
  rw [h2] at h3
  simp at h3
 have hset := (Touch.refl (fun k => k = p) w').setCell (p := ⟨p, 0, none⟩) (.inl rfl) v'
 refine ⟨⟨hlt, ⟨hb.put 0 v', ?_, ?_, ownsRow_touch hvb hset (fun k hk hs => h.bld.ne (hs ▸ hk)), h.bld.ne, h.bld.nilv⟩, by simp [hsz], by rw [Array.getElem?_setIfInBounds_self_of_lt (by omega)], ?_⟩, ?_⟩
 ·rw [Array.getElem?_setIfInBounds_ne (by decide)]; exact h.bld.addr
 ·rw [Array.getElem?_setIfInBounds_ne (by decide)]; exact h.bld.buf
 ·have e : (toks ++ [x]).flatMap ptokCellsP = toks.flatMap ptokCellsP ++ ptokCellsP x := by simp
  rw [List.length_append, e]
  exact ownsRow_touch ho hset (fun k hk hs => hv k hk hs)
 ·have h1 : Touch (PS p B W) W w' := ht.mono fun k hk => by
   obtain ⟨h1, cur, h2⟩ := owns_type h.own hk
   exact .inr ⟨h1, cur, _, _, h2, .inl rfl⟩
  exact h1.setCell (p := ⟨p, 0, none⟩) (.inl (.inl rfl)) v'
theorem news_of_blkP {W : World} {g : Nat} {t : TypeId} {cs : Array Value} (h : Blk W g t cs) : ∀ j u, cs.toList[j]? = some u → W.cell? ((⟨g, 0, none⟩ : Addr).add j) = some u := by
 intro j u hu
 rw [Addr.add_mid, Nat.zero_add, h.cell]
 simpa using hu
theorem spellL_le (k : Int) (t : List UInt8) : (Lx.spellL k t).length ≤ 2 * t.length + 6 := by
 unfold Lx.spellL
 have := Lx.esc_len t
 repeat' split
 ·simp [Lx.quoteL]; omega
 ·simp; omega
 ·simp; omega
 ·simp; omega
 ·omega
set_option maxRecDepth 100000 in
set_option maxHeartbeats 4000000 in
theorem add_first {w : World} {p B : Nat} {vt vb : Value} {cs : Array Value} {txt : List UInt8} (h : Pr w p B vt vb cs [] txt) (k : Nat) (t : List UInt8) (hB : B ≤ w.heap.size) (hl : txt.length ≤ 2000000) (ht : t.length ≤ 2000000) :
  Calls Tryz.prog 167 #[.pointer (some ⟨p, 0, none⟩), .int .i64 (k : Int), .string ⟨t.toArray⟩] w fun e w' => e = .returned (.tuple #[]) ∧
   ∃ vt' vb' cs', Pr w' p B vt' vb' cs' (added [] txt ⟨k, t⟩) (txt ++ gap [] ⟨k, t⟩ ++ Lx.spell ⟨k, t⟩) ∧ Touch (PS p B w) w w' := by
 obtain ⟨i0, hi, hz0, hz1, hz2⟩ := info_parts infoTokP
 have hpt := h.bld.blk.lt
 obtain ⟨A, cap, rfl⟩ : ∃ A cap, vt = .slice A 0 cap := by
  rcases h.own.2 with ⟨h1, h2⟩ | ⟨g, cap, cur, h1, _⟩
  ·exact ⟨none, 0, h1⟩
  ·exact ⟨_, _, h1⟩
 have q0 : w.cell? ⟨p, 0, none⟩ = some (.slice A 0 cap) := (h.bld.blk.cell 0).trans h.tok
 have HP := hid h
 clear h
 go_enter Tryz.func167, Tryz.ntmps167
 go_wp2_with fail
 go_quiet (fail)
 go_wp2_with fail
 refine (bLen_any (HP.out.fresh (((Touch.refl _ w).alloc _).drewN _)).bld).mono ?_
 rintro _ _ ⟨rfl, rfl⟩
 go_wp2_with fail
 refine forget_world (fun W => Fresh w W ∧ Blk W w.heap.size 150 #[.int .i64 (k : Int), .string ⟨t.toArray⟩, .int .i64 (txt.length : Int), .int .i64 0]) ⟨(((Touch.refl _ w).alloc _).drewN _).setCell (.inr (Nat.le_refl _)) _, ((Blk.new w 150 _).drewN _).put 2 _⟩ ?_
 rintro W4 ⟨hf4, hb4⟩
 have hp4 := HP.out.fresh hf4
 obtain ⟨r0, r1, r2, r3, _, _, _, _, hg4⟩ := Blk.four hb4
 have g0 := cell_regrown r0
 have g1 := cell_regrown r1
 have g2 := cell_regrown r2
 have g3 := cell_regrown r3
 have C1 := hid (calmP (fun w => (spell_any k ⟨t.toArray⟩ txt.length 0 w (by show t.toArray.size ≤ _; simp; omega) : Calls Tryz.prog 191 _ w fun e w' => e = .returned (.string ⟨(Lx.spellL k t).toArray⟩) ∧ Fresh w w')) W4)
 have HF4 := hid hf4
 have HB4 := hid hb4
 have HP4 := hid hp4
 clear hf4 hb4 hp4 q0
 refine wp_region_segs_below [([0,1,2,3,4],5)] [] (by kernel_rfl) (by kernel_rfl) ?_
 simp only [wpSegsC, pick, List.getElem?_cons_zero, List.getElem?_cons_succ]
 repeat (quiet_step (with_reducible exact C1.out _ _))
 refine wpQuiet_nil ?_
 rintro W5 ⟨⟨_, _⟩, hW5⟩
 have hf5 : Fresh W4 W5 := by rw [hW5]; exact fresh_of_below (below_regrown _ _ _)
 have hp5 := HP4.out.fresh hf5
 have hb5 := hf5.blk HB4.out (fun h => h)
 have HF5 := hid hf5
 clear hW5 hf5 g0 g1 g2 g3 r0 r1 r2 r3
 have hsl := spellL_le k t
 have hB5 : B ≤ W5.heap.size := Nat.le_trans hB (Nat.le_trans HF4.out.size HF5.out.size)
 have hne : w.heap.size ≠ p := by omega
 have HW6 := hid (writeString_any hp5.bld hp5.lt (by rw [hp5.size]; exact liesPr) ⟨(Lx.spellL k t).toArray⟩ (by show txt.length + (Lx.spellL k t).toArray.size ≤ _; simp; omega) hB5)
 have HP5 := hid hp5
 have HB5 := hid hb5
 clear hp5 hb5
 go_wp2_with fail
 refine HW6.out.mono ?_
 rintro _ w6 ⟨rfl, vb6, hb6, ht6⟩
 have hp6 := HP5.out.wrote hb6 ht6
 have hpt6 : Touch (PS p B w) w w6 := PS.freshL (HF4.out.trans HF5.out) (PS.bld HP5.out ht6)
 have hbk6 := ht6.blk HB5.out (fun hs => hs.elim (fun h => hne h) (fun h => HP5.out.vb_ne HB5.out (by decide) h))
 have HP6a := hid hp6
 have HT6a := hid hpt6
 have HB6a := hid hbk6
 clear hb6 ht6 hp6 hpt6 hbk6 HW6
 go_wp2_with fail
 refine wpQuiet_nil ?_
 rintro W7 ⟨⟨_, _⟩, hW7⟩
 have hf7 : Fresh w6 W7 := by rw [hW7]; exact fresh_of_below (below_regrown _ _ _)
 have HP6 := hid (HP6a.out.fresh hf7)
 have HT6 := hid (PS.freshR HT6a.out hf7)
 have HB6 := hid (hf7.blk HB6a.out (fun h => h))
 clear hW7 hf7 HP6a HT6a HB6a
 go_wp2_with fail
 refine (bLen_any HP6.out.bld).mono ?_
 rintro _ _ ⟨rfl, rfl⟩
 obtain ⟨r0, r1, r2, r3, z0, z1, z2, z3, hg6⟩ := Blk.four HB6.out
 go_wp2_with fail
 refine forget_world (fun W => ∃ cs', Pr W p B (.slice A 0 cap) vb6 cs' [] (txt ++ (Lx.spellL k t)) ∧ Blk W w.heap.size 150 #[.int .i64 (k : Int), .string ⟨t.toArray⟩, .int .i64 (txt.length : Int), .int .i64 ((txt.length : Int) + ((Lx.spellL k t).length : Int))] ∧ Touch (PS p B w) w W) ⟨_, HP6.out.touch (S := fun k => k = w.heap.size) (Touch.setCell (S := fun k => k = w.heap.size) (Touch.refl _ _) (p := ⟨w.heap.size, 3, none⟩) (.inl rfl) _) (fun h => hne h.symm) (fun k hk h => by have := HP.out.vt_lt k hk; omega) (fun k hk h => HP6.out.vb_ne HB6.out (by decide) (h ▸ hk)), HB6.out.put 3 _, HT6.out.setCell (p := ⟨w.heap.size, 3, none⟩) (.inr (Nat.le_refl _)) _⟩ ?_
 rintro W8 ⟨cs8, hp8, hb8, ht8⟩
 have p0 : W8.cell? ⟨p, 0, none⟩ = some (.slice A 0 cap) := (hp8.bld.blk.cell 0).trans hp8.tok
 have pz : W8.frozen? ⟨p, 0, none⟩ = false := hp8.bld.blk.frozen 0
 obtain ⟨s0, s1, s2, s3, _, _, _, _, hg8⟩ := Blk.four hb8
 have HP8 := hid hp8
 have HB8 := hid hb8
 have HT8 := hid ht8
 have hown8 := hid hp8.own
 have hplt := hp8.bld.blk.lt
 have hB8 : B ≤ W8.heap.size := by have := ht8.size; omega
 clear hp8 hb8 ht8 r0 r1 r2 r3 z0 z1 z2 z3 HP6 HB6 HT6
 obtain ⟨tolen, hto⟩ : ∃ tolen : Int, (txt.length : Int) + ((Lx.spellL k t).length : Int) = tolen := ⟨_, rfl⟩
 rw [hto] at s3
 have hnew := hid (fun (o : Obj) (ho : o = .cells #[.int .i64 (k : Int), .string ⟨t.toArray⟩, .int .i64 (txt.length : Int), .int .i64 tolen] 150) => ho ▸ news_of_blkP (W := (W8.alloc o).drew) (g := W8.heap.size) (t := 150) (cs := #[.int .i64 (k : Int), .string ⟨t.toArray⟩, .int .i64 (txt.length : Int), .int .i64 tolen]) (ho ▸ (Blk.new W8 150 _)))
 go_region_law (refine step_append_own rfl (.tmp 56) (.tmp 58) 98 rfl B 150 i0 _ 4 40 Tryz.underlying98 hi hz0 hz1 hz2 rfl (by decide) (.slice A 0 cap) 0 [] (by simp [Act.eval]) ((hown8.out.alloc _).drew) ⟨W8.heap.size, 0, none⟩ 1 1 [.int .i64 (k : Int), .string ⟨t.toArray⟩, .int .i64 (txt.length : Int), .int .i64 tolen] (by simp [Act.eval]) rfl (hnew.out _ rfl) (by intro u hu; simp only [List.mem_cons, List.not_mem_nil, or_false] at hu; rcases hu with rfl | rfl | rfl | rfl <;> rfl) (by decide) (by decide) (by have := World.size_alloc W8; simp; omega) ?_; intro v9 w9 ho9 hg9; obtain ⟨g9, cap9, rfl, c9, z9, HT9, HO9⟩ := app_pr HP8.out ho9 hg9; clear ho9 hg9)
 all_goals
  go_end0
  obtain ⟨hpr, htc⟩ := HP8.out.appended (x := ⟨k, t, txt.length, (txt ++ Lx.spellL k t).length⟩) HT9.out (by
   have := HO9.out
   rw [← hto] at this
   simpa [ptokCellsP] using this)
  have e1 : txt ++ gap [] ⟨k, t⟩ ++ Lx.spell ⟨k, t⟩ = txt ++ Lx.spellL k t := by simp [gap, joinLast, Lx.spell]
  have e2 : added [] txt ⟨k, t⟩ = [] ++ [⟨k, t, txt.length, (txt ++ Lx.spellL k t).length⟩] := by
   unfold added
   rw [e1]
   simp [gap, joinLast]
  rw [e1, e2]
  exact ⟨rfl, _, vb6, _, hpr, PS.trans HT8.out htc⟩
end Go.Proofs.YtdacpbdamliafaaGreat

/- The walk of printer.add behind other tokens. -/
namespace Go.Proofs.YtdacpbdamliafaaGreat
open Go.RowKit
theorem toksP_cells {W : World} {B : Nat} {v : Value} {ts : List Lx.PTok} (h : W.ownsRow B 150 4 v ts.length (ts.flatMap ptokCellsP)) (i : Nat) (hi : i < ts.length) :
  ∃ g cap, v = .slice (some ⟨g, 0, none⟩) ts.length cap ∧ B ≤ g ∧ g < W.heap.size ∧ ∀ j u, (ptokCellsP ts[i])[j]? = some u → W.cell? ⟨g, 4 * i + j, none⟩ = some u := by
 rcases h.2 with ⟨_, h0⟩ | ⟨g, cap, cur, hv, hB, r⟩
 ·omega
 ·subst hv
  refine ⟨g, cap, rfl, hB, (h.lt g rfl).2, fun j u hu => ?_⟩
  have hcl := h.cells (g := g) rfl (4 * i + j) u ?_
  ·rw [Addr.add_mid, Nat.zero_add] at hcl; exact hcl
  ·have hj : j < 4 := by have := (List.getElem?_eq_some_iff.1 hu).1; simpa [ptokCellsP] using this
   clear h r
   induction ts generalizing i with
   | nil => simp at hi
   | cons x l ih =>
    cases i with
    | zero => rw [List.flatMap_cons, List.getElem?_append_left (by simp [ptokCellsP]; omega)]; simpa using hu
    | succ i =>
     rw [List.flatMap_cons, List.getElem?_append_right (by simp [ptokCellsP]; omega)]
     have := ih i (by simpa using hi) (by simpa using hu)
     rw [← this]; congr 1; simp [ptokCellsP]; omega
theorem tokP_four {W W' : World} {x : Lx.PTok} {g i : Nat} (h : ∀ j u, (ptokCellsP x)[j]? = some u → W.cell? ⟨g, 4 * i + j, none⟩ = some u) (ht : Fresh W W') :
  W'.cell? ⟨g, i * 4, none⟩ = some (.int .i64 x.kind) ∧ W'.cell? ⟨g, i * 4 + 1, none⟩ = some (.string ⟨x.text.toArray⟩) ∧ W'.cell? ⟨g, i * 4 + 2, none⟩ = some (.int .i64 x.from_) ∧ W'.cell? ⟨g, i * 4 + 3, none⟩ = some (.int .i64 x.to_) := by
 rw [Nat.mul_comm i 4]
 exact ⟨ht.cell (h 0 _ rfl) (fun h => h), ht.cell (h 1 _ rfl) (fun h => h), ht.cell (h 2 _ rfl) (fun h => h), ht.cell (h 3 _ rfl) (fun h => h)⟩
theorem gap_of {toks : List Lx.PTok} {y : Lx.PTok} {m k : Nat} {t : List UInt8} {j : Bool} (hm : toks.length = m + 1) (hy : toks[m]? = some y) (hj : joinsL (y.kind : Int) (k : Int) (ByteArray.mk t.toArray).data.toList = j) : gap toks ⟨k, t⟩ = if j then [32] else [] := by
 have e0 : toks.getLast? = some y := by rw [List.getLast?_eq_getElem?, hm]; exact hy
 have e2 : ∀ a n : Nat, ((a : Int) == (n : Int)) = (a == n) := fun a n => by rw [Bool.eq_iff_iff]; simp; omega
 have e1 : joinLast toks ⟨k, t⟩ = j := by
  rw [← hj]
  unfold joinLast
  rw [e0]
  unfold joinsL
  have a1 : ((y.kind : Int) == 2) = (y.kind == 2) := e2 y.kind 2
  have a2 : ((k : Int) == 2) = (k == 2) := e2 k 2
  have a3 : ((y.kind : Int) == 4) = (y.kind == 4) := e2 y.kind 4
  have a4 : ((k : Int) == 1) = (k == 1) := e2 k 1
  rw [a1, a2, a3, a4]
  rfl
 unfold gap
 rw [e1]
set_option maxRecDepth 100000 in
set_option maxHeartbeats 4000000 in
theorem add_more {w : World} {p B : Nat} {vt vb : Value} {cs : Array Value} {txt : List UInt8} {toks : List Lx.PTok} {y : Lx.PTok} {m : Nat} (hm : toks.length = m + 1) (hy : toks[m]? = some y) (h : Pr w p B vt vb cs toks txt) (k : Nat) (t : List UInt8) (hB : B ≤ w.heap.size) (hl : txt.length ≤ 2000000) (ht : t.length ≤ 2000000) (hn : m ≤ 2000000) :
  Calls Tryz.prog 167 #[.pointer (some ⟨p, 0, none⟩), .int .i64 (k : Int), .string ⟨t.toArray⟩] w fun e w' => e = .returned (.tuple #[]) ∧
   ∃ vt' vb' cs', Pr w' p B vt' vb' cs' (added toks txt ⟨k, t⟩) (txt ++ gap toks ⟨k, t⟩ ++ Lx.spell ⟨k, t⟩) ∧ Touch (PS p B w) w w' := by
 obtain ⟨i0, hi, hz0, hz1, hz2⟩ := info_parts infoTokP
 have hpt := h.bld.blk.lt
 obtain ⟨A, cap, hvt, hA1, hA2, hcells⟩ := toksP_cells h.own m (by omega)
 have ey : toks[m]'(by omega) = y := by rw [List.getElem?_eq_getElem (by omega)] at hy; simpa using hy
 rw [ey] at hcells
 rw [hm] at hvt
 subst hvt
 have q0 : w.cell? ⟨p, 0, none⟩ = some (.slice (some ⟨A, 0, none⟩) (m + 1) cap) := (h.bld.blk.cell 0).trans h.tok
 have hA : A ≠ p := by have := h.lt; omega
 have HP := hid h
 have HC := hid hcells
 clear h hcells
 go_enter Tryz.func167, Tryz.ntmps167
 go_wp2_with fail
 refine forget_world (fun W => Fresh w W ∧ Blk W w.heap.size 150 #[.int .i64 (k : Int), .string ⟨t.toArray⟩, .int .i64 0, .int .i64 0]) ⟨(((Touch.refl _ w).alloc _)), ((Blk.new w 150 _))⟩ ?_
 rintro W1 ⟨hf1, hb1⟩
 have q1 := hf1.cell q0 (fun h => h)
 obtain ⟨u0, u1, u2, u3⟩ := tokP_four (i := m) HC.out hf1
 obtain ⟨r0, r1, r2, r3, _, _, _, _, hg1⟩ := Blk.four hb1
 have g0 := cell_regrown r0
 have g1 := cell_regrown r1
 have g2 := cell_regrown r2
 have g3 := cell_regrown r3
 have k0 := cell_regrown u0
 have k1 := cell_regrown u1
 have k2 := cell_regrown u2
 have k3 := cell_regrown u3
 have kq := cell_regrown q1
 have d1 : ((m : Int) + 1 - 1) = (m : Int) := by omega
 have d2 : IntKind.i64.wrap (m : Int) = (m : Int) := IntWalk.i64_in _ (by omega)
 have d3 : (m : Int) < (m : Int) + 1 := by omega
 have C1 := hid (calmP (fun w => joins_any y.kind y.from_ y.to_ k 0 0 ⟨y.text.toArray⟩ ⟨t.toArray⟩ w) W1)
 obtain ⟨j, hj⟩ : ∃ j, joinsL (y.kind : Int) (k : Int) (ByteArray.mk t.toArray).data.toList = j := ⟨_, rfl⟩
 rw [hj] at C1
 have HP1 := hid (HP.out.fresh hf1)
 have HF1 := hid hf1
 have HB1 := hid hb1
 clear hf1 hb1 q0
 refine wp_region_quiet_below (by kernel_rfl) (by kernel_rfl) ?_
 repeat (quiet_step (with_reducible exact C1.out _ _))
 refine wpQuiet_nil ?_
 rintro W2 ⟨⟨_, _⟩, hW2⟩
 have hf2 : Fresh W1 W2 := by rw [hW2]; exact fresh_of_below (below_regrown _ _ _)
 have HP2 := hid (HP1.out.fresh hf2)
 have HB2 := hid (hf2.blk HB1.out (fun h => h))
 have HT2 := hid (PS.fresh (p := p) (B := B) (HF1.out.trans hf2))
 have hgap := gap_of hm hy hj
 obtain ⟨txt1, htx⟩ : ∃ txt1, txt ++ gap toks ⟨k, t⟩ = txt1 := ⟨_, rfl⟩
 have hB2 : B ≤ W2.heap.size := by have := HT2.out.size; omega
 have hne : w.heap.size ≠ p := by omega
 clear hW2 hf2 g0 g1 g2 g3 k0 k1 k2 k3 kq r0 r1 r2 r3 u0 u1 u2 u3 q1 hg1 C1 HP1 HB1 HF1 hj d1 d2 d3
 cases j
 ·rw [hgap] at htx
  have htx' : txt = txt1 := by simpa using htx
  rw [htx'] at HP2
  have hl1 : txt1.length ≤ 2000001 := by rw [← htx']; omega
  have HPa := HP2
  have HBa := HB2
  have HTa := HT2
  obtain ⟨Wa, hWa⟩ : ∃ Wa, W2 = Wa := ⟨_, rfl⟩
  subst hWa
  obtain ⟨vba, hva⟩ : ∃ v, vb = v := ⟨_, rfl⟩
  subst hva
  go_wp2_with fail
  refine (bLen_any HPa.out.bld).mono ?_
  rintro _ _ ⟨rfl, rfl⟩
  obtain ⟨r0, r1, r2, r3, z0, z1, z2, z3, hg2⟩ := Blk.four HBa.out
  go_wp2_with fail
  refine forget_world (fun W => ∃ cs', Pr W p B (.slice (some ⟨A, 0, none⟩) (m + 1) cap) vb cs' toks txt1 ∧ Blk W w.heap.size 150 #[.int .i64 (k : Int), .string ⟨t.toArray⟩, .int .i64 (txt1.length : Int), .int .i64 0] ∧ Touch (PS p B w) w W) ⟨_, HPa.out.touch (S := fun k => k = w.heap.size) (Touch.setCell (S := fun k => k = w.heap.size) (Touch.refl _ _) (p := ⟨w.heap.size, 2, none⟩) (.inl rfl) _) (fun h => hne h.symm) (fun k hk h => by simp [Value.ownBlock] at hk; omega) (fun k hk h => HPa.out.vb_ne HBa.out (by decide) (h ▸ hk)), HBa.out.put 2 _, HTa.out.setCell (p := ⟨w.heap.size, 2, none⟩) (.inr (Nat.le_refl _)) _⟩ ?_
  rintro W4 ⟨cs4, hp4, hb4, ht4⟩
  clear r0 r1 r2 r3 z0 z1 z2 z3
  obtain ⟨r0, r1, r2, r3, _, _, _, _, hg4⟩ := Blk.four hb4
  have g0 := cell_regrown r0
  have g1 := cell_regrown r1
  have g2 := cell_regrown r2
  have g3 := cell_regrown r3
  have C1 := hid (calmP (fun w => (spell_any k ⟨t.toArray⟩ txt1.length 0 w (by show t.toArray.size ≤ _; simp; omega) : Calls Tryz.prog 191 _ w fun e w' => e = .returned (.string ⟨(Lx.spellL k t).toArray⟩) ∧ Fresh w w')) W4)
  have HT4 := hid ht4
  have HB4 := hid hb4
  have HP4 := hid hp4
  clear ht4 hb4 hp4
  refine wp_region_segs_below [([0,1,2,3,4],5)] [] (by kernel_rfl) (by kernel_rfl) ?_
  simp only [wpSegsC, pick, List.getElem?_cons_zero, List.getElem?_cons_succ]
  repeat (quiet_step (with_reducible exact C1.out _ _))
  refine wpQuiet_nil ?_
  rintro W5 ⟨⟨_, _⟩, hW5⟩
  have hf5 : Fresh W4 W5 := by rw [hW5]; exact fresh_of_below (below_regrown _ _ _)
  have hp5 := HP4.out.fresh hf5
  have hb5 := hf5.blk HB4.out (fun h => h)
  have ht5 := PS.freshR HT4.out hf5
  clear hW5 hf5 g0 g1 g2 g3 r0 r1 r2 r3
  have hsl := spellL_le k t
  have hB5 : B ≤ W5.heap.size := Nat.le_trans hB ht5.size
  have HW6 := hid (writeString_any hp5.bld hp5.lt (by rw [hp5.size]; exact liesPr) ⟨(Lx.spellL k t).toArray⟩ (by show txt1.length + (Lx.spellL k t).toArray.size ≤ _; simp; omega) hB5)
  have HP5 := hid hp5
  have HB5 := hid hb5
  have HT5 := hid ht5
  clear hp5 hb5 ht5
  go_wp2_with fail
  refine HW6.out.mono ?_
  rintro _ w6 ⟨rfl, vb6, hb6, ht6⟩
  have hp6 := HP5.out.wrote hb6 ht6
  have hpt6 : Touch (PS p B w) w w6 := PS.trans HT5.out (PS.bld HP5.out ht6)
  have hbk6 := ht6.blk HB5.out (fun hs => hs.elim (fun h => hne h) (fun h => HP5.out.vb_ne HB5.out (by decide) h))
  have HP6a := hid hp6
  have HT6a := hid hpt6
  have HB6a := hid hbk6
  clear hb6 ht6 hp6 hpt6 hbk6 HW6
  go_wp2_with fail
  refine wpQuiet_nil ?_
  rintro W7 ⟨⟨_, _⟩, hW7⟩
  have hf7 : Fresh w6 W7 := by rw [hW7]; exact fresh_of_below (below_regrown _ _ _)
  have HP6 := hid (HP6a.out.fresh hf7)
  have HT6 := hid (PS.freshR HT6a.out hf7)
  have HB6 := hid (hf7.blk HB6a.out (fun h => h))
  clear hW7 hf7 HP6a HT6a HB6a
  go_wp2_with fail
  refine (bLen_any HP6.out.bld).mono ?_
  rintro _ _ ⟨rfl, rfl⟩
  obtain ⟨r0, r1, r2, r3, z0, z1, z2, z3, hg6⟩ := Blk.four HB6.out
  go_wp2_with fail
  refine forget_world (fun W => ∃ cs', Pr W p B (.slice (some ⟨A, 0, none⟩) (m + 1) cap) vb6 cs' toks (txt1 ++ (Lx.spellL k t)) ∧ Blk W w.heap.size 150 #[.int .i64 (k : Int), .string ⟨t.toArray⟩, .int .i64 (txt1.length : Int), .int .i64 ((txt1.length : Int) + ((Lx.spellL k t).length : Int))] ∧ Touch (PS p B w) w W) ⟨_, HP6.out.touch (S := fun k => k = w.heap.size) (Touch.setCell (S := fun k => k = w.heap.size) (Touch.refl _ _) (p := ⟨w.heap.size, 3, none⟩) (.inl rfl) _) (fun h => hne h.symm) (fun k hk h => by simp [Value.ownBlock] at hk; omega) (fun k hk h => HP6.out.vb_ne HB6.out (by decide) (h ▸ hk)), HB6.out.put 3 _, HT6.out.setCell (p := ⟨w.heap.size, 3, none⟩) (.inr (Nat.le_refl _)) _⟩ ?_
  rintro W8 ⟨cs8, hp8, hb8, ht8⟩
  have p0 : W8.cell? ⟨p, 0, none⟩ = some (.slice (some ⟨A, 0, none⟩) (m + 1) cap) := (hp8.bld.blk.cell 0).trans hp8.tok
  have pz : W8.frozen? ⟨p, 0, none⟩ = false := hp8.bld.blk.frozen 0
  obtain ⟨s0, s1, s2, s3, _, _, _, _, hg8⟩ := Blk.four hb8
  have HP8 := hid hp8
  have HB8 := hid hb8
  have HT8 := hid ht8
  have hown8 := hid (hm ▸ hp8.own : W8.ownsRow B 150 4 _ (m + 1) _)
  have hplt := hp8.bld.blk.lt
  have hB8 : B ≤ W8.heap.size := by have := ht8.size; omega
  clear hp8 hb8 ht8 r0 r1 r2 r3 z0 z1 z2 z3 HP6 HB6 HT6
  obtain ⟨tolen, hto⟩ : ∃ tolen : Int, (txt1.length : Int) + ((Lx.spellL k t).length : Int) = tolen := ⟨_, rfl⟩
  rw [hto] at s3
  have hnew := hid (fun (o : Obj) (ho : o = .cells #[.int .i64 (k : Int), .string ⟨t.toArray⟩, .int .i64 (txt1.length : Int), .int .i64 tolen] 150) => ho ▸ news_of_blkP (W := (W8.alloc o).drew) (g := W8.heap.size) (t := 150) (cs := #[.int .i64 (k : Int), .string ⟨t.toArray⟩, .int .i64 (txt1.length : Int), .int .i64 tolen]) (ho ▸ (Blk.new W8 150 _)))
  have hmx : maxLen = 9223372036854775807 := rfl
  go_region_law (refine step_append_own rfl (.tmp 56) (.tmp 58) 98 rfl B 150 i0 _ 4 40 Tryz.underlying98 hi hz0 hz1 hz2 rfl (by decide) (.slice (some ⟨A, 0, none⟩) (m + 1) cap) (m + 1) _ (by simp [Act.eval]) ((hown8.out.alloc _).drew) ⟨W8.heap.size, 0, none⟩ 1 1 [.int .i64 (k : Int), .string ⟨t.toArray⟩, .int .i64 (txt1.length : Int), .int .i64 tolen] (by simp [Act.eval]) rfl (hnew.out _ rfl) (by intro u hu; simp only [List.mem_cons, List.not_mem_nil, or_false] at hu; rcases hu with rfl | rfl | rfl | rfl <;> rfl) (by omega) (by omega) (by have := World.size_alloc W8; simp; omega) ?_; intro v9 w9 ho9 hg9; obtain ⟨g9, cap9, rfl, c9, z9, HT9, HO9⟩ := app_pr HP8.out ho9 hg9; clear ho9 hg9)
  all_goals
   go_end0
   obtain ⟨hpr, htc⟩ := HP8.out.appended (x := ⟨k, t, txt1.length, (txt1 ++ Lx.spellL k t).length⟩) HT9.out (by
    have := HO9.out
    rw [← hto] at this
    rw [hm]
    simpa [ptokCellsP] using this)
   unfold added
   rw [hgap]
   rw [htx]
   exact ⟨rfl, _, vb6, _, hpr, PS.trans HT8.out htc⟩
 ·rw [hgap] at htx
  have htx' : txt ++ [32] = txt1 := by simpa using htx
  have hl1 : txt1.length ≤ 2000001 := by rw [← htx']; simp; omega
  have HWB := hid (writeByte_any HP2.out.bld (by rw [HP2.out.size]; exact liesPr) 32 32 rfl (by omega) hB2)
  go_wp2_with fail
  refine HWB.out.mono ?_
  rintro _ W3 ⟨rfl, vb3, hb3, ht3⟩
  have hp3 := HP2.out.wrote hb3 ht3
  rw [htx'] at hp3
  have HPa := hid hp3
  have HTa := hid (PS.trans HT2.out (PS.bld HP2.out ht3))
  have HBa := hid (ht3.blk HB2.out (fun hs => hs.elim (fun h => hne h) (fun h => HP2.out.vb_ne HB2.out (by decide) h)))
  clear hb3 ht3 hp3 HWB HP2 HB2 HT2
  go_wp2_with fail
  refine (bLen_any HPa.out.bld).mono ?_
  rintro _ _ ⟨rfl, rfl⟩
  obtain ⟨r0, r1, r2, r3, z0, z1, z2, z3, hg2⟩ := Blk.four HBa.out
  go_wp2_with fail
  refine forget_world (fun W => ∃ cs', Pr W p B (.slice (some ⟨A, 0, none⟩) (m + 1) cap) vb3 cs' toks txt1 ∧ Blk W w.heap.size 150 #[.int .i64 (k : Int), .string ⟨t.toArray⟩, .int .i64 (txt1.length : Int), .int .i64 0] ∧ Touch (PS p B w) w W) ⟨_, HPa.out.touch (S := fun k => k = w.heap.size) (Touch.setCell (S := fun k => k = w.heap.size) (Touch.refl _ _) (p := ⟨w.heap.size, 2, none⟩) (.inl rfl) _) (fun h => hne h.symm) (fun k hk h => by simp [Value.ownBlock] at hk; omega) (fun k hk h => HPa.out.vb_ne HBa.out (by decide) (h ▸ hk)), HBa.out.put 2 _, HTa.out.setCell (p := ⟨w.heap.size, 2, none⟩) (.inr (Nat.le_refl _)) _⟩ ?_
  rintro W4 ⟨cs4, hp4, hb4, ht4⟩
  clear r0 r1 r2 r3 z0 z1 z2 z3
  obtain ⟨r0, r1, r2, r3, _, _, _, _, hg4⟩ := Blk.four hb4
  have g0 := cell_regrown r0
  have g1 := cell_regrown r1
  have g2 := cell_regrown r2
  have g3 := cell_regrown r3
  have C1 := hid (calmP (fun w => (spell_any k ⟨t.toArray⟩ txt1.length 0 w (by show t.toArray.size ≤ _; simp; omega) : Calls Tryz.prog 191 _ w fun e w' => e = .returned (.string ⟨(Lx.spellL k t).toArray⟩) ∧ Fresh w w')) W4)
  have HT4 := hid ht4
  have HB4 := hid hb4
  have HP4 := hid hp4
  clear ht4 hb4 hp4
  refine wp_region_segs_below [([0,1,2,3,4],5)] [] (by kernel_rfl) (by kernel_rfl) ?_
  simp only [wpSegsC, pick, List.getElem?_cons_zero, List.getElem?_cons_succ]
  repeat (quiet_step (with_reducible exact C1.out _ _))
  refine wpQuiet_nil ?_
  rintro W5 ⟨⟨_, _⟩, hW5⟩
  have hf5 : Fresh W4 W5 := by rw [hW5]; exact fresh_of_below (below_regrown _ _ _)
  have hp5 := HP4.out.fresh hf5
  have hb5 := hf5.blk HB4.out (fun h => h)
  have ht5 := PS.freshR HT4.out hf5
  clear hW5 hf5 g0 g1 g2 g3 r0 r1 r2 r3
  have hsl := spellL_le k t
  have hB5 : B ≤ W5.heap.size := Nat.le_trans hB ht5.size
  have HW6 := hid (writeString_any hp5.bld hp5.lt (by rw [hp5.size]; exact liesPr) ⟨(Lx.spellL k t).toArray⟩ (by show txt1.length + (Lx.spellL k t).toArray.size ≤ _; simp; omega) hB5)
  have HP5 := hid hp5
  have HB5 := hid hb5
  have HT5 := hid ht5
  clear hp5 hb5 ht5
  go_wp2_with fail
  refine HW6.out.mono ?_
  rintro _ w6 ⟨rfl, vb6, hb6, ht6⟩
  have hp6 := HP5.out.wrote hb6 ht6
  have hpt6 : Touch (PS p B w) w w6 := PS.trans HT5.out (PS.bld HP5.out ht6)
  have hbk6 := ht6.blk HB5.out (fun hs => hs.elim (fun h => hne h) (fun h => HP5.out.vb_ne HB5.out (by decide) h))
  have HP6a := hid hp6
  have HT6a := hid hpt6
  have HB6a := hid hbk6
  clear hb6 ht6 hp6 hpt6 hbk6 HW6
  go_wp2_with fail
  refine wpQuiet_nil ?_
  rintro W7 ⟨⟨_, _⟩, hW7⟩
  have hf7 : Fresh w6 W7 := by rw [hW7]; exact fresh_of_below (below_regrown _ _ _)
  have HP6 := hid (HP6a.out.fresh hf7)
  have HT6 := hid (PS.freshR HT6a.out hf7)
  have HB6 := hid (hf7.blk HB6a.out (fun h => h))
  clear hW7 hf7 HP6a HT6a HB6a
  go_wp2_with fail
  refine (bLen_any HP6.out.bld).mono ?_
  rintro _ _ ⟨rfl, rfl⟩
  obtain ⟨r0, r1, r2, r3, z0, z1, z2, z3, hg6⟩ := Blk.four HB6.out
  go_wp2_with fail
  refine forget_world (fun W => ∃ cs', Pr W p B (.slice (some ⟨A, 0, none⟩) (m + 1) cap) vb6 cs' toks (txt1 ++ (Lx.spellL k t)) ∧ Blk W w.heap.size 150 #[.int .i64 (k : Int), .string ⟨t.toArray⟩, .int .i64 (txt1.length : Int), .int .i64 ((txt1.length : Int) + ((Lx.spellL k t).length : Int))] ∧ Touch (PS p B w) w W) ⟨_, HP6.out.touch (S := fun k => k = w.heap.size) (Touch.setCell (S := fun k => k = w.heap.size) (Touch.refl _ _) (p := ⟨w.heap.size, 3, none⟩) (.inl rfl) _) (fun h => hne h.symm) (fun k hk h => by simp [Value.ownBlock] at hk; omega) (fun k hk h => HP6.out.vb_ne HB6.out (by decide) (h ▸ hk)), HB6.out.put 3 _, HT6.out.setCell (p := ⟨w.heap.size, 3, none⟩) (.inr (Nat.le_refl _)) _⟩ ?_
  rintro W8 ⟨cs8, hp8, hb8, ht8⟩
  have p0 : W8.cell? ⟨p, 0, none⟩ = some (.slice (some ⟨A, 0, none⟩) (m + 1) cap) := (hp8.bld.blk.cell 0).trans hp8.tok
  have pz : W8.frozen? ⟨p, 0, none⟩ = false := hp8.bld.blk.frozen 0
  obtain ⟨s0, s1, s2, s3, _, _, _, _, hg8⟩ := Blk.four hb8
  have HP8 := hid hp8
  have HB8 := hid hb8
  have HT8 := hid ht8
  have hown8 := hid (hm ▸ hp8.own : W8.ownsRow B 150 4 _ (m + 1) _)
  have hplt := hp8.bld.blk.lt
  have hB8 : B ≤ W8.heap.size := by have := ht8.size; omega
  clear hp8 hb8 ht8 r0 r1 r2 r3 z0 z1 z2 z3 HP6 HB6 HT6
  obtain ⟨tolen, hto⟩ : ∃ tolen : Int, (txt1.length : Int) + ((Lx.spellL k t).length : Int) = tolen := ⟨_, rfl⟩
  rw [hto] at s3
  have hnew := hid (fun (o : Obj) (ho : o = .cells #[.int .i64 (k : Int), .string ⟨t.toArray⟩, .int .i64 (txt1.length : Int), .int .i64 tolen] 150) => ho ▸ news_of_blkP (W := (W8.alloc o).drew) (g := W8.heap.size) (t := 150) (cs := #[.int .i64 (k : Int), .string ⟨t.toArray⟩, .int .i64 (txt1.length : Int), .int .i64 tolen]) (ho ▸ (Blk.new W8 150 _)))
  have hmx : maxLen = 9223372036854775807 := rfl
  go_region_law (refine step_append_own rfl (.tmp 56) (.tmp 58) 98 rfl B 150 i0 _ 4 40 Tryz.underlying98 hi hz0 hz1 hz2 rfl (by decide) (.slice (some ⟨A, 0, none⟩) (m + 1) cap) (m + 1) _ (by simp [Act.eval]) ((hown8.out.alloc _).drew) ⟨W8.heap.size, 0, none⟩ 1 1 [.int .i64 (k : Int), .string ⟨t.toArray⟩, .int .i64 (txt1.length : Int), .int .i64 tolen] (by simp [Act.eval]) rfl (hnew.out _ rfl) (by intro u hu; simp only [List.mem_cons, List.not_mem_nil, or_false] at hu; rcases hu with rfl | rfl | rfl | rfl <;> rfl) (by omega) (by omega) (by have := World.size_alloc W8; simp; omega) ?_; intro v9 w9 ho9 hg9; obtain ⟨g9, cap9, rfl, c9, z9, HT9, HO9⟩ := app_pr HP8.out ho9 hg9; clear ho9 hg9)
  all_goals
   go_end0
   obtain ⟨hpr, htc⟩ := HP8.out.appended (x := ⟨k, t, txt1.length, (txt1 ++ Lx.spellL k t).length⟩) HT9.out (by
    have := HO9.out
    rw [← hto] at this
    rw [hm]
    simpa [ptokCellsP] using this)
   unfold added
   rw [hgap]
   rw [htx]
   exact ⟨rfl, _, vb6, _, hpr, PS.trans HT8.out htc⟩
theorem add_any {w : World} {p B : Nat} {vt vb : Value} {cs : Array Value} {txt : List UInt8} {toks : List Lx.PTok} (h : Pr w p B vt vb cs toks txt) (k : Nat) (t : List UInt8) (hB : B ≤ w.heap.size) (hl : txt.length ≤ 2000000) (ht : t.length ≤ 2000000) (hn : toks.length ≤ 2000000) :
  Calls Tryz.prog 167 #[.pointer (some ⟨p, 0, none⟩), .int .i64 (k : Int), .string ⟨t.toArray⟩] w fun e w' => e = .returned (.tuple #[]) ∧
   ∃ vt' vb' cs', Pr w' p B vt' vb' cs' (added toks txt ⟨k, t⟩) (txt ++ gap toks ⟨k, t⟩ ++ Lx.spell ⟨k, t⟩) ∧ Touch (PS p B w) w w' := by
 cases he : toks.length with
 | zero =>
  have e0 : toks = [] := List.length_eq_zero_iff.1 he
  subst e0
  exact add_first h k t hB hl ht
 | succ m =>
  have hlt : m < toks.length := by omega
  exact add_more he (List.getElem?_eq_getElem hlt) h k t hB hl ht (by omega)
end Go.Proofs.YtdacpbdamliafaaGreat

/- The text of a valid tree has the tree's tokens; two valid trees with one text are equal. -/
namespace Go.Proofs.YtdacpbdamliafaaGreat.Tr
open Lx (Tok TokOK)
theorem byte_all (p : UInt8 → Prop) [DecidablePred p] (h : ∀ n : Fin 256, p (UInt8.ofNat n.1)) (c : UInt8) : p c := by
 have := h ⟨c.toNat, c.toNat_lt⟩
 simpa using this
theorem letter_isB (c : UInt8) : letter c = Lx.isB 3 c := byte_all (fun c => letter c = Lx.isB 3 c) (by decide +kernel) c
theorem digit_isB (c : UInt8) : digit c = Lx.isB 2 c := byte_all (fun c => digit c = Lx.isB 2 c) (by decide +kernel) c
theorem sign_isB (c : UInt8) : signs.contains c = Lx.isB 4 c := byte_all (fun c => signs.contains c = Lx.isB 4 c) (by decide +kernel) c
theorem delim_is (c : UInt8) : delims.contains c = Lx.isDelim c := byte_all (fun c => delims.contains c = Lx.isDelim c) (by decide +kernel) c
theorem all_letter (l : Bytes) : l.all letter = l.all (Lx.isB 3) := by
 congr 1; funext c; exact letter_isB c
theorem all_digit (l : Bytes) : l.all digit = l.all (Lx.isB 2) := by
 congr 1; funext c; exact digit_isB c
theorem tok_mark (b : UInt8) (h : Lx.isB 5 b = true) : TokOK (mk7 b) := .inr (.inr (.inr (.inr (.inr (.inr (.inl ⟨rfl, b, rfl, h⟩))))))
theorem tok_break : TokOK ⟨8, [92, 92]⟩ := .inr (.inr (.inr (.inr (.inr (.inr (.inr ⟨rfl, rfl⟩))))))
theorem tok_name (t : Bytes) (h1 : t.length ≤ 16) (h2 : t ≠ []) (h3 : t.all letter = true) (h4 : t ≠ [102, 101, 110, 99, 101]) : TokOK (name t) :=
 .inr (.inr (.inr (.inl ⟨rfl, h1, h2, by rw [← all_letter]; exact h3, h4⟩)))
theorem tok_sym (t : Bytes) (h : symbol t = true) : TokOK (if t.length = 1 then ⟨1, t⟩ else ⟨4, t⟩) := by
 unfold symbol at h
 match t, h with
 | [c], h =>
  rw [if_pos (show ([c] : Bytes).length = 1 from rfl)]
  refine .inl ⟨rfl, c, rfl, ?_⟩
  have h' : (letter c || signs.contains c) = true := h
  rw [letter_isB, sign_isB, Bool.or_eq_true] at h'
  exact h'
 | [], h => exact absurd (show symbol [] = true from h) (by decide)
 | a :: b :: l, h =>
  rw [if_neg (by simp)]
  simp only [Bool.and_eq_true, Bool.not_eq_true', decide_eq_true_eq] at h
  obtain ⟨⟨⟨⟨h1, h2⟩, h3⟩, h4⟩, h5⟩ := h
  exact tok_name _ h3 (by simp) h1 (by intro e; rw [e] at h4; revert h4; decide)
theorem tok_num (t : Bytes) (h : isNum t = true) : TokOK ⟨2, t⟩ := by
 unfold isNum at h
 rw [Bool.and_eq_true, Bool.and_eq_true, decide_eq_true_iff, decide_eq_true_iff, Bool.or_eq_true] at h
 obtain ⟨⟨h1, h2⟩, h3⟩ := h
 refine .inr (.inl ⟨rfl, h1, ?_⟩)
 rcases h3 with h3 | h3
 ·exact ⟨t, h2, by rw [← all_digit]; exact h3, .inl rfl⟩
 ·split at h3
  ·rename_i x b hd
   simp only [Bool.and_eq_true, decide_eq_true_eq] at h3
   obtain ⟨⟨⟨h4, h5⟩, h6⟩, h7⟩ := h3
   refine ⟨t.takeWhile (· ≠ 46), h4, by rw [← all_digit]; exact h5, .inr ⟨b, h6, by rw [← all_digit]; exact h7, ?_⟩⟩
   have hx : x = 46 := by
    have := List.head?_dropWhile_not (fun b : UInt8 => decide (b ≠ 46)) t
    rw [hd] at this
    simpa using this
   have := List.takeWhile_append_dropWhile (p := fun b : UInt8 => decide (b ≠ 46)) (l := t)
   rw [hd, hx] at this
   exact this.symm
  ·cases h3
theorem tok_text (t : Bytes) (h : (decide (t.length ≤ 200) && printable t) = true) : TokOK ⟨3, t⟩ := by
 rw [Bool.and_eq_true, decide_eq_true_iff] at h
 refine .inr (.inr (.inl ⟨rfl, h.1, ?_⟩))
 have h2 := h.2
 unfold printable at h2
 rw [List.all_eq_true] at h2 ⊢
 intro b hb
 have := h2 b hb
 simpa using this
theorem tok_fence (t : Bytes) (h : fence t = true) : TokOK ⟨5, t⟩ := by
 unfold fence at h
 split at h
 ·rename_i a b
  rw [Bool.and_eq_true, delim_is, delim_is] at h
  exact .inr (.inr (.inr (.inr (.inl ⟨rfl, a, b, rfl, h.1, h.2⟩))))
 ·cases h
theorem tok_accent (t : Bytes) (h : accents.contains t = true) : TokOK (name t) := by
 have : t ∈ accents := by simpa using h
 simp only [accents, List.mem_cons, List.not_mem_nil, or_false] at this
 rcases this with rfl | rfl | rfl | rfl | rfl | rfl <;> exact tok_name _ (by decide) (by decide) (by decide) (by decide)
def AllOK (l : List Tok) : Prop := ∀ t ∈ l, TokOK t
theorem AllOK.app {l m : List Tok} (h : AllOK l) (k : AllOK m) : AllOK (l ++ m) := fun t ht => (List.mem_append.1 ht).elim (h t) (k t)
theorem AllOK.cons {x : Tok} {m : List Tok} (h : TokOK x) (k : AllOK m) : AllOK (x :: m) := fun t ht => (List.mem_cons.1 ht).elim (fun e => e ▸ h) (k t)
theorem AllOK.nil : AllOK [] := fun t ht => by cases ht
theorem rows_ok (ks : List Nd) (h : ∀ x ∈ ks, AllOK (itemT x)) : AllOK (rowT ks) := by
 induction ks with
 | nil => rw [rowT_nil]; exact .nil
 | cons x ks ih => rw [rowT_cons]; exact (h x (by simp)).app (ih fun y hy => h y (by simp [hy]))
theorem braces_ok (ks : List Nd) (h : ∀ x ∈ ks, AllOK (itemT x)) (a b : UInt8) (ha : Lx.isB 5 a = true) (hb : Lx.isB 5 b = true) : AllOK (mk7 a :: (rowT ks ++ [mk7 b])) :=
 .cons (tok_mark a ha) ((rows_ok ks h).app (.cons (tok_mark b hb) .nil))
theorem args_ok (a : Nd) (h : ∀ x ∈ a.kids, AllOK (itemT x)) : AllOK (argT a) := by
 rw [argT_eq]
 split
 ·rename_i x hx
  rw [hx] at h
  split
  ·exact h x (by simp)
  ·exact braces_ok _ h _ _ rfl rfl
 ·exact braces_ok _ h _ _ rfl rfl
theorem base_ok (a : Nd) (h : ∀ x ∈ a.kids, AllOK (itemT x)) : AllOK (baseT a) := by
 rw [baseT_eq]
 split
 ·rename_i x hx
  rw [hx] at h
  split
  ·exact braces_ok _ h _ _ rfl rfl
  ·exact h x (by simp)
 ·exact braces_ok _ h _ _ rfl rfl
theorem cells_ok (c : Int) (ks : List Nd) : ∀ i, (∀ k ∈ ks, ∀ x ∈ k.kids, AllOK (itemT x)) → AllOK (cellsT c i ks) := by
 induction ks with
 | nil => intro i _; rw [cellsT]; exact .nil
 | cons k ks ih =>
  intro i h
  rw [cellsT]
  refine .app ?_ ((rows_ok _ (h k (by simp))).app (ih _ fun y hy => h y (by simp [hy])))
  split
  ·exact .nil
  ·split
   ·exact .cons tok_break .nil
   ·exact .cons (tok_mark _ rfl) .nil
theorem item_ok (m : Nat) : ∀ n, count n ≤ m → View n → AllOK (itemT n) := by
 induction m with
 | zero => intro n h; have := count_pos n; omega
 | succ m ih =>
  intro n hc v
  have hk : ∀ (k : Int) (t : Bytes) (c : Int) (ks : List Nd), n = .mk k t c ks → ∀ a ∈ ks, IsRow a → ∀ x ∈ a.kids, AllOK (itemT x) := fun k t c ks e a ha hr x hx => by
   have h1 := count_mem hx
   have h2 := count_kids a
   have h3 := count_mem ha
   rw [e, count] at hc
   exact ih x (by omega) (hr.views x hx)
  cases v with
  | sym t h => rw [itemT_sym]; exact .cons (tok_sym t h) .nil
  | num t h => rw [itemT_num]; exact .cons (tok_num t h) .nil
  | text t h => rw [itemT_text]; exact .cons (tok_text t h) .nil
  | frac a b ha hb =>
   rw [itemT_frac]
   exact .cons (tok_name _ (by decide) (by decide) (by decide) (by decide)) ((args_ok a (hk _ _ _ _ rfl a (by simp) ha)).app (args_ok b (hk _ _ _ _ rfl b (by simp) hb)))
  | root a b ha hb =>
   rw [itemT_root]
   refine .cons (tok_name _ (by decide) (by decide) (by decide) (by decide)) (.app ?_ (args_ok b (hk _ _ _ _ rfl b (by simp) hb)))
   split
   ·exact .nil
   ·exact braces_ok _ (hk _ _ _ _ rfl a (by simp) ha) _ _ rfl rfl
  | sub a b ha hb =>
   rw [itemT_sub]
   exact (base_ok a (hk _ _ _ _ rfl a (by simp) ha)).app (.cons (tok_mark _ rfl) (args_ok b (hk _ _ _ _ rfl b (by simp) hb)))
  | sup a b ha hb =>
   rw [itemT_sup]
   exact (base_ok a (hk _ _ _ _ rfl a (by simp) ha)).app (.cons (tok_mark _ rfl) (args_ok b (hk _ _ _ _ rfl b (by simp) hb)))
  | both a b d ha hb hd =>
   rw [itemT_both]
   exact (base_ok a (hk _ _ _ _ rfl a (by simp) ha)).app (.cons (tok_mark _ rfl) ((args_ok b (hk _ _ _ _ rfl b (by simp) hb)).app (.cons (tok_mark _ rfl) (args_ok d (hk _ _ _ _ rfl d (by simp) hd)))))
  | accent t a h ha =>
   rw [itemT_accent]
   exact .cons (tok_accent t h) (args_ok a (hk _ _ _ _ rfl a (by simp) ha))
  | fence t a h ha =>
   rw [itemT_fence]
   split
   ·rename_i ht
    rcases ht with rfl | rfl <;> exact braces_ok _ (hk _ _ _ _ rfl a (by simp) ha) _ _ rfl rfl
   ·exact .cons (tok_fence t h) (args_ok a (hk _ _ _ _ rfl a (by simp) ha))
  | matrix c ks hc1 hn hm h =>
   rw [itemT_matrix c ks (by rintro rfl; simp at hn)]
   exact .cons (tok_name _ (by decide) (by decide) (by decide) (by decide)) (.cons (tok_mark _ rfl) ((cells_ok c ks 0 fun k hk' => hk _ _ _ _ rfl k hk' (h k hk')).app (.cons (tok_mark _ rfl) .nil)))
theorem row_ok (a : Nd) (ha : IsRow a) : AllOK (rowT a.kids) := rows_ok _ fun x hx => item_ok _ x (Nat.le_refl _) (ha.views x hx)
def sepd : Option Tok → List Tok → List (Bytes × Tok)
 | _, [] => []
 | o, t :: ts => ((match o with | some a => if Lx.join a t then [32] else [] | none => []), t) :: sepd (some t) ts
def wtext (l : List Tok) : Bytes := Lx.flat (sepd none l)
theorem sepd_spaced : ∀ (l : List Tok) (o : Option Tok), AllOK l → Lx.spaced o (sepd o l)
 | [], _, _ => trivial
 | t :: ts, o, h => by
  refine ⟨?_, h t (by simp), ?_, sepd_spaced ts (some t) fun x hx => h x (by simp [hx])⟩
  ·cases o with
   | none => rfl
   | some a => simp only; split <;> rfl
  ·intro e a ha
   subst ha
   simp only at e
   cases hj : Lx.join a t with
   | false => rfl
   | true => rw [hj] at e; simp at e
theorem sepd_toks : ∀ (l : List Tok) (o : Option Tok), (sepd o l).map (·.2) = l
 | [], _ => rfl
 | t :: ts, o => by simp only [sepd, List.map_cons, sepd_toks ts]
theorem wtext_lex (l : List Tok) (h : AllOK l) : Lx.lexAll (wtext l) = (Lx.placed 0 (sepd none l), none) := Lx.lexAll_flat _ (sepd_spaced l none h)
theorem wtext_inj (l m : List Tok) (hl : AllOK l) (hm : AllOK m) (h : wtext l = wtext m) : l = m := by
 have h1 := wtext_lex l hl
 have h2 := wtext_lex m hm
 rw [h, h2] at h1
 have h3 := congrArg (fun p : List Lx.PTok × Option (Nat × Nat) => p.1.map Lx.tok) h1
 simp only [Lx.placed_toks, sepd_toks] at h3
 exact h3.symm
theorem text_tells (a b : Nd) (ha : IsRow a) (hb : IsRow b) : (wtext (rowT a.kids) = wtext (rowT b.kids)) ↔ a = b :=
 ⟨fun h => rowT_inj a b ha hb (wtext_inj _ _ (row_ok a ha) (row_ok b hb) h), fun h => by rw [h]⟩
theorem valid_row (a : Nd) (h : valid a = true) : IsRow a := by
 unfold valid at h
 simp only [Bool.and_eq_true, beq_iff_eq, decide_eq_true_eq] at h
 exact ⟨h.1.1.1, h.1.1.2⟩
end Go.Proofs.YtdacpbdamliafaaGreat.Tr

/- Plain law: tokens added one by one. -/
namespace Go.Proofs.YtdacpbdamliafaaGreat
def adds : List Lx.Tok → List Lx.PTok → List UInt8 → List Lx.PTok × List UInt8
 | [], toks, txt => (toks, txt)
 | t :: l, toks, txt => adds l (added toks txt t) (txt ++ gap toks t ++ Lx.spell t)
theorem adds_app : ∀ (l m : List Lx.Tok) (toks : List Lx.PTok) (txt : List UInt8), adds (l ++ m) toks txt = adds m (adds l toks txt).1 (adds l toks txt).2
 | [], _, _, _ => rfl
 | t :: l, m, toks, txt => by
  show adds (l ++ m) _ _ = _
  rw [adds_app l m]
  rfl
theorem adds_eq : ∀ (l : List Lx.Tok) (toks : List Lx.PTok) (txt : List UInt8), adds l toks txt = (toks ++ Lx.placed txt.length (Tr.sepd (toks.getLast?.map Lx.tok) l), txt ++ Lx.flat (Tr.sepd (toks.getLast?.map Lx.tok) l))
 | [], toks, txt => by simp [adds, Tr.sepd, Lx.placed, Lx.flat]
 | t :: l, toks, txt => by
  have hs : Tr.sepd (toks.getLast?.map Lx.tok) (t :: l) = (gap toks t, t) :: Tr.sepd (some t) l := by
   unfold gap joinLast
   cases toks.getLast? <;> rfl
  have e1 : (added toks txt t).getLast?.map Lx.tok = some t := by simp [added, Lx.tok]
  show adds l (added toks txt t) (txt ++ gap toks t ++ Lx.spell t) = _
  rw [adds_eq l, e1, hs]
  simp [added, Lx.placed, Lx.flat, Nat.add_assoc]
theorem adds_wtext (l : List Lx.Tok) : adds l [] [] = (Lx.placed 0 (Tr.sepd none l), Tr.wtext l) := by
 rw [adds_eq]
 rfl
end Go.Proofs.YtdacpbdamliafaaGreat

/- Small methods of the printer: mark. -/
namespace Go.Proofs.YtdacpbdamliafaaGreat
open Go.RowKit
def PrAdd (w w' : World) (p B : Nat) (toks : List Lx.PTok) (txt : List UInt8) (l : List Lx.Tok) : Prop :=
 ∃ vt' vb' cs', Pr w' p B vt' vb' cs' (adds l toks txt).1 (adds l toks txt).2 ∧ Touch (PS p B w) w w'
theorem PrAdd.app {a b c : World} {p B : Nat} {toks : List Lx.PTok} {txt : List UInt8} {l m : List Lx.Tok} (h : PrAdd a b p B toks txt l) (k : PrAdd b c p B (adds l toks txt).1 (adds l toks txt).2 m) : PrAdd a c p B toks txt (l ++ m) := by
 obtain ⟨_, _, _, _, ht⟩ := h
 obtain ⟨vt, vb, cs, hp, ht'⟩ := k
 rw [← adds_app] at hp
 exact ⟨vt, vb, cs, hp, PS.trans ht ht'⟩
theorem add_one {w : World} {p B : Nat} {vt vb : Value} {cs : Array Value} {txt : List UInt8} {toks : List Lx.PTok} (h : Pr w p B vt vb cs toks txt) (k : Nat) (t : List UInt8) (hB : B ≤ w.heap.size) (hl : txt.length ≤ 2000000) (ht : t.length ≤ 2000000) (hn : toks.length ≤ 2000000) :
  Calls Tryz.prog 167 #[.pointer (some ⟨p, 0, none⟩), .int .i64 (k : Int), .string ⟨t.toArray⟩] w fun e w' => e = .returned (.tuple #[]) ∧ PrAdd w w' p B toks txt [⟨k, t⟩] :=
 add_any h k t hB hl ht hn
set_option maxRecDepth 100000 in
theorem pmark_any {w : World} {p B : Nat} {vt vb : Value} {cs : Array Value} {txt : List UInt8} {toks : List Lx.PTok} (h : Pr w p B vt vb cs toks txt) (t : List UInt8) (hB : B ≤ w.heap.size) (hl : txt.length ≤ 2000000) (ht : t.length ≤ 2000000) (hn : toks.length ≤ 2000000) :
  Calls Tryz.prog 169 #[.pointer (some ⟨p, 0, none⟩), .string ⟨t.toArray⟩] w fun e w' => e = .returned (.tuple #[]) ∧ PrAdd w w' p B toks txt [⟨7, t⟩] := by
 have H := hid (add_one h 7 t hB hl ht hn)
 clear h
 go_enter Tryz.func169, Tryz.ntmps169
 go_wp2_with fail
 refine H.out.mono ?_
 rintro _ w1 ⟨rfl, h1⟩
 have H1 := hid h1
 clear h1
 go_wp2_with fail
 go_end0
 exact ⟨rfl, H1.out⟩
theorem PrAdd.freshL {a b c : World} {p B : Nat} {toks : List Lx.PTok} {txt : List UInt8} {l : List Lx.Tok} (hf : Fresh a b) (k : PrAdd b c p B toks txt l) : PrAdd a c p B toks txt l := by
 obtain ⟨vt, vb, cs, hp, ht'⟩ := k
 exact ⟨vt, vb, cs, hp, PS.freshL hf ht'⟩
set_option maxRecDepth 100000 in
theorem number_pr {w : World} {p B : Nat} {vt vb : Value} {cs : Array Value} {txt : List UInt8} {toks : List Lx.PTok} (h : Pr w p B vt vb cs toks txt) (x c : Value) (kd : Value) (t : List UInt8) (hB : B ≤ w.heap.size) (hl : txt.length ≤ 2000000) (ht : t.length ≤ 2000000) (hn : toks.length ≤ 2000000) :
  Calls Tryz.prog 126 #[.pointer (some ⟨p, 0, none⟩), .agg #[kd, .string ⟨t.toArray⟩, c, x]] w fun e w' => e = .returned (.tuple #[]) ∧ PrAdd w w' p B toks txt [⟨2, t⟩] := by
 have hf : ∀ o, Fresh w (w.alloc o) := fun o => (Touch.refl _ w).alloc o
 have H := hid (fun o => add_one (h.fresh (hf o)) 2 t (Nat.le_trans hB (hf o).size) hl ht hn)
 clear h
 go_enter Tryz.func126, Tryz.ntmps126
 go_wp2_with fail
 refine (H.out _).mono ?_
 rintro _ w1 ⟨rfl, h1⟩
 have H1 := hid (PrAdd.freshL (hf _) h1)
 clear h1
 go_wp2_with fail
 go_end0
 exact ⟨rfl, H1.out⟩
set_option maxRecDepth 100000 in
theorem quoted_pr {w : World} {p B : Nat} {vt vb : Value} {cs : Array Value} {txt : List UInt8} {toks : List Lx.PTok} (h : Pr w p B vt vb cs toks txt) (x c : Value) (kd : Value) (t : List UInt8) (hB : B ≤ w.heap.size) (hl : txt.length ≤ 2000000) (ht : t.length ≤ 2000000) (hn : toks.length ≤ 2000000) :
  Calls Tryz.prog 127 #[.pointer (some ⟨p, 0, none⟩), .agg #[kd, .string ⟨t.toArray⟩, c, x]] w fun e w' => e = .returned (.tuple #[]) ∧ PrAdd w w' p B toks txt [⟨3, t⟩] := by
 have hf : ∀ o, Fresh w (w.alloc o) := fun o => (Touch.refl _ w).alloc o
 have H := hid (fun o => add_one (h.fresh (hf o)) 3 t (Nat.le_trans hB (hf o).size) hl ht hn)
 clear h
 go_enter Tryz.func127, Tryz.ntmps127
 go_wp2_with fail
 refine (H.out _).mono ?_
 rintro _ w1 ⟨rfl, h1⟩
 have H1 := hid (PrAdd.freshL (hf _) h1)
 clear h1
 go_wp2_with fail
 go_end0
 exact ⟨rfl, H1.out⟩
set_option maxRecDepth 100000 in
theorem symbol_pr {w : World} {p B : Nat} {vt vb : Value} {cs : Array Value} {txt : List UInt8} {toks : List Lx.PTok} (h : Pr w p B vt vb cs toks txt) (x c : Value) (kd : Value) (t : List UInt8) (hB : B ≤ w.heap.size) (hl : txt.length ≤ 2000000) (ht : t.length ≤ 2000000) (hn : toks.length ≤ 2000000) :
  Calls Tryz.prog 125 #[.pointer (some ⟨p, 0, none⟩), .agg #[kd, .string ⟨t.toArray⟩, c, x]] w fun e w' => e = .returned (.tuple #[]) ∧ PrAdd w w' p B toks txt [⟨if t.length = 1 then 1 else 4, t⟩] := by
 have hf : ∀ o, Fresh w (w.alloc o) := fun o => (Touch.refl _ w).alloc o
 have H := hid (fun k o => add_one (h.fresh (hf o)) k t (Nat.le_trans hB (hf o).size) hl ht hn)
 clear h
 have hsz : (ByteArray.mk t.toArray).size = t.length := by show t.toArray.size = _; simp
 by_cases h1 : t.length = 1
 ·have d1 : ((ByteArray.mk t.toArray).size : Int) = 1 := by omega
  have HE := hid (if_pos h1 : (if t.length = 1 then 1 else 4) = (1 : Nat))
  rw [HE.out]
  clear h1
  go_enter Tryz.func125, Tryz.ntmps125
  go_wp2_with fail
  refine (H.out 1 _).mono ?_
  rintro _ w1 ⟨rfl, h1⟩
  have H1 := hid (PrAdd.freshL (hf _) h1)
  clear h1
  go_wp2_with fail
  go_end0
  exact ⟨rfl, H1.out⟩
 ·have d1 : (((ByteArray.mk t.toArray).size : Int) == 1) = false := by simp; omega
  have d2 : ¬ ((ByteArray.mk t.toArray).size : Int) = 1 := by omega
  have HE := hid (if_neg h1 : (if t.length = 1 then 1 else 4) = (4 : Nat))
  rw [HE.out]
  clear h1
  go_enter Tryz.func125, Tryz.ntmps125
  go_wp2_with fail
  refine (H.out 4 _).mono ?_
  rintro _ w1 ⟨rfl, h1⟩
  have H1 := hid (PrAdd.freshL (hf _) h1)
  clear h1
  go_wp2_with fail
  go_end0
  exact ⟨rfl, H1.out⟩
end Go.Proofs.YtdacpbdamliafaaGreat

/- The printer's methods: words for their contracts. -/
namespace Go.Proofs.YtdacpbdamliafaaGreat
open Go.RowKit
abbrev Low (W0 w : World) : Prop := Touch (fun k => W0.heap.size ≤ k) W0 w
theorem low_no {W0 : World} {q : Addr} {v : Value} (h : W0.cell? q = some v) : ¬ W0.heap.size ≤ q.block := by
 have := block_lt_of_cell (a := q) (v := v) h
 omega
theorem Low.cell {W0 w : World} (hl : Low W0 w) {q : Addr} {v : Value} (h : W0.cell? q = some v) : w.cell? q = some v := Touch.cell hl h (low_no h)
theorem low4 {w w' : World} {a b c d : Addr} {x y z u : Value} (h : Low w w') (h0 : w.cell? a = some x) (h1 : w.cell? b = some y) (h2 : w.cell? c = some z) (h3 : w.cell? d = some u) :
  w'.cell? a = some x ∧ w'.cell? b = some y ∧ w'.cell? c = some z ∧ w'.cell? d = some u := ⟨h.cell h0, h.cell h1, h.cell h2, h.cell h3⟩
theorem Low.fresh {W0 w w' : World} (hl : Low W0 w) (hf : Fresh w w') : Low W0 w' := hl.trans' hf fun _ h => h.elim
theorem RepL.low {W0 w : World} {ks : List Tr.Nd} {v : Value} (h : RepL W0 ks v) (hl : Low W0 w) : RepL w ks v := by
 induction h with
 | nil A cap => exact .nil A cap
 | row g o cap ks sl hg hln ht h0 h1 h2 h3 hk ih =>
  exact .row g o cap ks sl (Nat.lt_of_lt_of_le hg hl.size) hln ht (fun i hi => hl.cell (h0 i hi)) (fun i hi => hl.cell (h1 i hi)) (fun i hi => hl.cell (h2 i hi)) (fun i hi => hl.cell (h3 i hi)) ih
structure PSt (W0 : World) (p B : Nat) (w : World) (toks : List Lx.PTok) (txt : List UInt8) : Prop where
 low : Low W0 w
 hp : W0.heap.size ≤ p
 hB : B ≤ w.heap.size
 pr : ∃ vt vb cs, Pr w p B vt vb cs toks txt
theorem PSt.lt {W0 : World} {p B : Nat} {w : World} {toks : List Lx.PTok} {txt : List UInt8} (h : PSt W0 p B w toks txt) : p < B := by
 obtain ⟨_, _, _, h⟩ := h.pr
 exact h.lt
theorem PS.low {W0 : World} {p B : Nat} {w w' : World} (hl : Low W0 w) (hp : W0.heap.size ≤ p) (hB : p < B) (ht : Touch (PS p B w) w w') : Low W0 w' :=
 hl.trans' ht fun k hk => .inl (by
  rcases hk with rfl | ⟨h, _⟩
  ·exact hp
  ·omega)
theorem PSt.add {W0 : World} {p B : Nat} {w w' : World} {toks : List Lx.PTok} {txt : List UInt8} {l : List Lx.Tok} (h : PSt W0 p B w toks txt) (k : PrAdd w w' p B toks txt l) : PSt W0 p B w' (adds l toks txt).1 (adds l toks txt).2 := by
 obtain ⟨vt, vb, cs, hp, ht⟩ := k
 exact ⟨PS.low h.low h.hp h.lt ht, h.hp, Nat.le_trans h.hB ht.size, vt, vb, cs, hp⟩
theorem PSt.add2 {W0 : World} {p B : Nat} {w w' : World} {toks : List Lx.PTok} {txt : List UInt8} {l m : List Lx.Tok} (h : PSt W0 p B w (adds l toks txt).1 (adds l toks txt).2) (k : PrAdd w w' p B (adds l toks txt).1 (adds l toks txt).2 m) : PSt W0 p B w' (adds (l ++ m) toks txt).1 (adds (l ++ m) toks txt).2 := by
 rw [adds_app]
 exact h.add k
theorem PSt.fresh {W0 : World} {p B : Nat} {w w' : World} {toks : List Lx.PTok} {txt : List UInt8} (h : PSt W0 p B w toks txt) (hf : Fresh w w') : PSt W0 p B w' toks txt := by
 obtain ⟨vt, vb, cs, hp⟩ := h.pr
 exact ⟨h.low.fresh hf, h.hp, Nat.le_trans h.hB hf.size, vt, vb, cs, hp.fresh hf⟩
def Fits (l : List Lx.Tok) (toks : List Lx.PTok) (txt : List UInt8) : Prop := (adds l toks txt).1.length ≤ 2000000 ∧ (adds l toks txt).2.length ≤ 2000000
theorem adds_mono : ∀ (l : List Lx.Tok) (toks : List Lx.PTok) (txt : List UInt8), toks.length ≤ (adds l toks txt).1.length ∧ txt.length ≤ (adds l toks txt).2.length
 | [], _, _ => ⟨Nat.le_refl _, Nat.le_refl _⟩
 | t :: l, toks, txt => by
  have := adds_mono l (added toks txt t) (txt ++ gap toks t ++ Lx.spell t)
  simp only [adds, added, List.length_append, List.length_singleton] at this ⊢
  omega
theorem Fits.left {l m : List Lx.Tok} {toks : List Lx.PTok} {txt : List UInt8} (h : Fits (l ++ m) toks txt) : Fits l toks txt := by
 unfold Fits at h ⊢
 rw [adds_app] at h
 have := adds_mono m (adds l toks txt).1 (adds l toks txt).2
 omega
theorem Fits.right {l m : List Lx.Tok} {toks : List Lx.PTok} {txt : List UInt8} (h : Fits (l ++ m) toks txt) : Fits m (adds l toks txt).1 (adds l toks txt).2 := by
 unfold Fits at h ⊢
 rw [adds_app] at h
 exact h
theorem Fits.right2 {k l m : List Lx.Tok} {toks : List Lx.PTok} {txt : List UInt8} (h : Fits (l ++ m) (adds k toks txt).1 (adds k toks txt).2) : Fits m (adds (k ++ l) toks txt).1 (adds (k ++ l) toks txt).2 := by
 rw [adds_app]
 exact h.right
theorem Fits.start {l : List Lx.Tok} {toks : List Lx.PTok} {txt : List UInt8} (h : Fits l toks txt) : toks.length ≤ 2000000 ∧ txt.length ≤ 2000000 := by
 unfold Fits at h
 have := adds_mono l toks txt
 omega
theorem spell_le (t : Lx.Tok) : t.text.length ≤ (Lx.spell t).length := Lx.spellL_len _ _
theorem Fits.one {t : Lx.Tok} {toks : List Lx.PTok} {txt : List UInt8} (h : Fits [t] toks txt) : t.text.length ≤ 2000000 := by
 unfold Fits at h
 simp only [adds, List.length_append] at h
 have := spell_le t
 omega
def Emits (f : Nat) (args : Array Value) (W0 : World) (p B : Nat) (l : List Lx.Tok) : Prop :=
 ∀ (w : World) (toks : List Lx.PTok) (txt : List UInt8), PSt W0 p B w toks txt → Fits l toks txt → Calls Tryz.prog f args w fun e w' => e = .returned (.tuple #[]) ∧ PrAdd w w' p B toks txt l
abbrev nv (n : Tr.Nd) (sl : Value) : Value := .agg #[.int .i64 n.kind, .string ⟨n.text.toArray⟩, .int .i64 n.cols, sl]
abbrev pp (p : Nat) : Value := .pointer (some ⟨p, 0, none⟩)
theorem add_em (W0 : World) (p B k : Nat) (t : List UInt8) : Emits 167 #[pp p, .int .i64 (k : Int), .string ⟨t.toArray⟩] W0 p B [⟨k, t⟩] := by
 intro w toks txt h hf
 obtain ⟨vt, vb, cs, hp⟩ := h.pr
 exact add_one hp k t h.hB hf.start.2 hf.one hf.start.1
theorem mark_em (W0 : World) (p B : Nat) (t : List UInt8) : Emits 169 #[pp p, .string ⟨t.toArray⟩] W0 p B [⟨7, t⟩] := by
 intro w toks txt h hf
 obtain ⟨vt, vb, cs, hp⟩ := h.pr
 exact pmark_any hp t h.hB hf.start.2 hf.one hf.start.1
theorem number_em (W0 : World) (p B : Nat) (n : Tr.Nd) (sl : Value) : Emits 126 #[pp p, nv n sl] W0 p B [⟨2, n.text⟩] := by
 intro w toks txt h hf
 obtain ⟨vt, vb, cs, hp⟩ := h.pr
 exact number_pr hp _ _ _ n.text h.hB hf.start.2 hf.one hf.start.1
theorem quoted_em (W0 : World) (p B : Nat) (n : Tr.Nd) (sl : Value) : Emits 127 #[pp p, nv n sl] W0 p B [⟨3, n.text⟩] := by
 intro w toks txt h hf
 obtain ⟨vt, vb, cs, hp⟩ := h.pr
 exact quoted_pr hp _ _ _ n.text h.hB hf.start.2 hf.one hf.start.1
theorem symbol_em (W0 : World) (p B : Nat) (n : Tr.Nd) (sl : Value) : Emits 125 #[pp p, nv n sl] W0 p B [⟨if n.text.length = 1 then 1 else 4, n.text⟩] := by
 intro w toks txt h hf
 obtain ⟨vt, vb, cs, hp⟩ := h.pr
 exact symbol_pr hp _ _ _ n.text h.hB hf.start.2 hf.one hf.start.1
def RowE (W0 : World) (p B : Nat) (n : Tr.Nd) : Prop := ∀ sl, RepL W0 n.kids sl → Emits 63 #[pp p, nv n sl] W0 p B (Tr.rowT n.kids)
def GroupE (W0 : World) (p B : Nat) (n : Tr.Nd) : Prop := ∀ sl, RepL W0 n.kids sl → Emits 171 #[pp p, nv n sl] W0 p B ([Tr.mk7 123] ++ (Tr.rowT n.kids ++ [Tr.mk7 125]))
def ArgE (W0 : World) (p B : Nat) (n : Tr.Nd) : Prop := ∀ sl, RepL W0 n.kids sl → Emits 168 #[pp p, nv n sl] W0 p B (Tr.argT n)
end Go.Proofs.YtdacpbdamliafaaGreat

/- The tokens of a small valid tree fit into a printer. -/
namespace Go.Proofs.YtdacpbdamliafaaGreat
open Tr (Nd View IsRow itemT rowT argT baseT cellsT count countL AllOK)
def cost : List Lx.Tok → Nat
 | [] => 0
 | t :: l => (Lx.spell t).length + 1 + cost l
theorem adds_len : ∀ (l : List Lx.Tok) (toks : List Lx.PTok) (txt : List UInt8), (adds l toks txt).1.length = toks.length + l.length ∧ (adds l toks txt).2.length ≤ txt.length + cost l
 | [], _, _ => ⟨rfl, Nat.le_refl _⟩
 | t :: l, toks, txt => by
  have h := adds_len l (added toks txt t) (txt ++ gap toks t ++ Lx.spell t)
  have hg : (gap toks t).length ≤ 1 := by unfold gap; split <;> simp
  simp only [adds, added, List.length_append, List.length_nil, List.length_cons, cost] at h ⊢
  omega
theorem ok_text (t : Lx.Tok) (h : Lx.TokOK t) : t.text.length ≤ 200 := by
 rcases h with ⟨_, c, h, _⟩ | ⟨_, h, _⟩ | ⟨_, h, _⟩ | ⟨_, h, _⟩ | ⟨_, a, b, h, _⟩ | ⟨_, c, h, _⟩ | ⟨_, c, h, _⟩ | ⟨_, h⟩
 ·rw [h]; simp
 ·omega
 ·exact h
 ·omega
 ·rw [h]; simp
 ·rw [h]; simp
 ·rw [h]; simp
 ·rw [h]; simp
theorem ok_cost : ∀ l : List Lx.Tok, AllOK l → cost l ≤ 407 * l.length
 | [], _ => Nat.le_refl _
 | t :: l, h => by
  have h1 := ok_cost l fun x hx => h x (by simp [hx])
  have h2 := ok_text t (h t (by simp))
  have h3 := spellL_le t.kind t.text
  have h4 : (Lx.spell t).length ≤ 2 * t.text.length + 6 := h3
  simp only [cost, List.length_cons]
  omega
theorem rowT_len (ks : List Nd) (h : ∀ x ∈ ks, (itemT x).length ≤ 3 * count x) : (rowT ks).length ≤ 3 * countL ks := by
 induction ks with
 | nil => rw [Tr.rowT_nil]; simp
 | cons x ks ih =>
  rw [Tr.rowT_cons, List.length_append, countL]
  have h1 := h x (by simp)
  have h2 := ih fun y hy => h y (by simp [hy])
  omega
theorem argT_len (a : Nd) (h : ∀ x ∈ a.kids, (itemT x).length ≤ 3 * count x) : (argT a).length ≤ 3 * count a - 1 := by
 have hc := Tr.count_kids a
 have hr := rowT_len a.kids h
 rw [Tr.argT_eq]
 split
 ·rename_i x hx
  rw [hx] at h hc hr
  have h1 := h x (by simp)
  simp only [countL] at hc
  split
  ·omega
  ·simp only [List.length_cons, List.length_append, List.length_nil, countL] at hr ⊢; omega
 ·simp only [List.length_cons, List.length_append, List.length_nil]; omega
theorem baseT_len (a : Nd) (h : ∀ x ∈ a.kids, (itemT x).length ≤ 3 * count x) : (baseT a).length ≤ 3 * count a - 1 := by
 have hc := Tr.count_kids a
 have hr := rowT_len a.kids h
 rw [Tr.baseT_eq]
 split
 ·rename_i x hx
  rw [hx] at h hc hr
  have h1 := h x (by simp)
  simp only [countL] at hc
  split
  ·simp only [List.length_cons, List.length_append, List.length_nil, countL] at hr ⊢; omega
  ·omega
 ·simp only [List.length_cons, List.length_append, List.length_nil]; omega
theorem cellsT_len (c : Int) : ∀ (ks : List Nd) (i : Nat), (∀ k ∈ ks, ∀ x ∈ k.kids, (itemT x).length ≤ 3 * count x) → (cellsT c i ks).length ≤ 3 * countL ks
 | [], _, _ => by rw [cellsT]; simp
 | k :: ks, i, h => by
  have h1 := cellsT_len c ks (i + 1) fun y hy => h y (by simp [hy])
  have h2 := rowT_len k.kids (h k (by simp))
  have h3 := Tr.count_kids k
  rw [cellsT, List.length_append, List.length_append, countL]
  have h4 : (if i = 0 then [] else if (i : Int) % c = 0 then [(⟨8, [92, 92]⟩ : Lx.Tok)] else [Tr.mk7 38]).length ≤ 1 := by
   split
   ·simp
   ·split <;> simp
  omega
theorem item_len (m : Nat) : ∀ n, count n ≤ m → View n → (itemT n).length ≤ 3 * count n := by
 induction m with
 | zero => intro n h; have := Tr.count_pos n; omega
 | succ m ih =>
  intro n hc v
  have hk : ∀ (k : Int) (t : Tr.Bytes) (c : Int) (ks : List Nd), n = .mk k t c ks → ∀ a ∈ ks, IsRow a → ∀ x ∈ a.kids, (itemT x).length ≤ 3 * count x := fun k t c ks e a ha hr x hx => by
   have h1 := Tr.count_mem hx
   have h2 := Tr.count_kids a
   have h3 := Tr.count_mem ha
   rw [e, count] at hc
   exact ih x (by omega) (hr.views x hx)
  cases v with
  | sym t h => rw [Tr.itemT_sym]; simp [count]; omega
  | num t h => rw [Tr.itemT_num]; simp [count]; omega
  | text t h => rw [Tr.itemT_text]; simp [count]; omega
  | frac a b ha hb =>
   have h1 := argT_len a (hk _ _ _ _ rfl a (by simp) ha)
   have h2 := argT_len b (hk _ _ _ _ rfl b (by simp) hb)
   have h3 := Tr.count_pos a
   have h4 := Tr.count_pos b
   rw [Tr.itemT_frac]
   simp only [List.length_cons, List.length_append, count, countL]
   omega
  | root a b ha hb =>
   have h1 := rowT_len a.kids (hk _ _ _ _ rfl a (by simp) ha)
   have h2 := argT_len b (hk _ _ _ _ rfl b (by simp) hb)
   have h3 := Tr.count_kids a
   have h4 := Tr.count_pos b
   rw [Tr.itemT_root]
   simp only [List.length_cons, List.length_append, count, countL]
   split
   ·simp only [List.length_nil]; omega
   ·simp only [List.length_cons, List.length_append, List.length_nil]; omega
  | sub a b ha hb =>
   have h1 := baseT_len a (hk _ _ _ _ rfl a (by simp) ha)
   have h2 := argT_len b (hk _ _ _ _ rfl b (by simp) hb)
   have h3 := Tr.count_pos a
   have h4 := Tr.count_pos b
   rw [Tr.itemT_sub]
   simp only [List.length_cons, List.length_append, count, countL]
   omega
  | sup a b ha hb =>
   have h1 := baseT_len a (hk _ _ _ _ rfl a (by simp) ha)
   have h2 := argT_len b (hk _ _ _ _ rfl b (by simp) hb)
   have h3 := Tr.count_pos a
   have h4 := Tr.count_pos b
   rw [Tr.itemT_sup]
   simp only [List.length_cons, List.length_append, count, countL]
   omega
  | both a b d ha hb hd =>
   have h1 := baseT_len a (hk _ _ _ _ rfl a (by simp) ha)
   have h2 := argT_len b (hk _ _ _ _ rfl b (by simp) hb)
   have h3 := argT_len d (hk _ _ _ _ rfl d (by simp) hd)
   have h4 := Tr.count_pos a
   have h5 := Tr.count_pos b
   have h6 := Tr.count_pos d
   rw [Tr.itemT_both]
   simp only [List.length_cons, List.length_append, count, countL]
   omega
  | accent t a h ha =>
   have h1 := argT_len a (hk _ _ _ _ rfl a (by simp) ha)
   rw [Tr.itemT_accent]
   simp only [List.length_cons, count, countL]
   omega
  | fence t a h ha =>
   have h1 := argT_len a (hk _ _ _ _ rfl a (by simp) ha)
   have h2 := rowT_len a.kids (hk _ _ _ _ rfl a (by simp) ha)
   have h3 := Tr.count_kids a
   rw [Tr.itemT_fence]
   split
   ·simp only [List.length_cons, List.length_append, List.length_nil, count, countL]; omega
   ·simp only [List.length_cons, count, countL]; omega
  | matrix c ks hc1 hn hm h =>
   have h1 := cellsT_len c ks 0 fun k hk' => hk _ _ _ _ rfl k hk' (h k hk')
   rw [Tr.itemT_matrix c ks (by rintro rfl; simp at hn)]
   simp only [List.length_cons, List.length_append, List.length_nil, count]
   omega
theorem row_len (a : Nd) (ha : IsRow a) : (rowT a.kids).length ≤ 3 * count a := by
 have := rowT_len a.kids fun x hx => item_len _ x (Nat.le_refl _) (ha.views x hx)
 have := Tr.count_kids a
 omega
theorem row_fits (a : Nd) (ha : IsRow a) (hc : count a ≤ 1000) : Fits (rowT a.kids) [] [] := by
 have h1 := row_len a ha
 have h2 := ok_cost _ (Tr.row_ok a ha)
 have h3 := adds_len (rowT a.kids) [] []
 simp only [List.length_nil] at h3
 unfold Fits
 omega
end Go.Proofs.YtdacpbdamliafaaGreat

/- Rows of tokens in memory. -/
namespace Go.Proofs.YtdacpbdamliafaaGreat
open Go.RowKit
def ptokCells (x : Lx.PTok) : List Value := [.int .i64 x.kind, .string ⟨x.text.toArray⟩, .int .i64 x.from_, .int .i64 x.to_]
def TokRow (W : World) (v : Value) (ts : List Lx.PTok) : Prop :=
 ∃ A cap, v = .slice A ts.length cap ∧ ∀ i (hi : i < ts.length), ∃ g o, A = some ⟨g, o, none⟩ ∧ g < W.heap.size ∧
  W.cell? ⟨g, o + i * 4, none⟩ = some (.int .i64 ts[i].kind) ∧ W.cell? ⟨g, o + i * 4 + 1, none⟩ = some (.string ⟨ts[i].text.toArray⟩) ∧ W.cell? ⟨g, o + i * 4 + 2, none⟩ = some (.int .i64 ts[i].from_) ∧ W.cell? ⟨g, o + i * 4 + 3, none⟩ = some (.int .i64 ts[i].to_)
theorem TokRow.fresh {W W' : World} {v : Value} {ts : List Lx.PTok} (h : TokRow W v ts) (hf : Fresh W W') : TokRow W' v ts := by
 obtain ⟨A, cap, hv, hc⟩ := h
 refine ⟨A, cap, hv, fun i hi => ?_⟩
 obtain ⟨g, o, h1, h2, h3, h4, h5, h6⟩ := hc i hi
 exact ⟨g, o, h1, Nat.lt_of_lt_of_le h2 hf.size, hf.cell h3 (fun h => h), hf.cell h4 (fun h => h), hf.cell h5 (fun h => h), hf.cell h6 (fun h => h)⟩
theorem owns_cells {W : World} {B e : Nat} {v : Value} {ts : List Lx.PTok} (h : W.ownsRow B e 4 v ts.length (ts.flatMap ptokCells)) (i : Nat) (hi : i < ts.length) :
  ∃ g cap, v = .slice (some ⟨g, 0, none⟩) ts.length cap ∧ B ≤ g ∧ g < W.heap.size ∧ ∀ j u, (ptokCells ts[i])[j]? = some u → W.cell? ⟨g, 4 * i + j, none⟩ = some u := by
 rcases h.2 with ⟨_, h0⟩ | ⟨g, cap, cur, hv, hB, r⟩
 ·omega
 ·subst hv
  refine ⟨g, cap, rfl, hB, (h.lt g rfl).2, fun j u hu => ?_⟩
  have hcl := h.cells (g := g) rfl (4 * i + j) u ?_
  ·rw [Addr.add_mid, Nat.zero_add] at hcl; exact hcl
  ·have hj : j < 4 := by have := (List.getElem?_eq_some_iff.1 hu).1; simpa [ptokCells] using this
   clear h r
   induction ts generalizing i with
   | nil => simp at hi
   | cons x l ih =>
    cases i with
    | zero => rw [List.flatMap_cons, List.getElem?_append_left (by simp [ptokCells]; omega)]; simpa using hu
    | succ i =>
     rw [List.flatMap_cons, List.getElem?_append_right (by simp [ptokCells]; omega)]
     have := ih i (by simpa using hi) (by simpa using hu)
     rw [← this]; congr 1; simp [ptokCells]; omega
theorem owns_row {W : World} {B e : Nat} {v : Value} {ts : List Lx.PTok} (h : W.ownsRow B e 4 v ts.length (ts.flatMap ptokCells)) : TokRow W v ts := by
 obtain ⟨A, cap, hv⟩ : ∃ A cap, v = .slice A ts.length cap := by
  rcases h.2 with ⟨h1, h2⟩ | ⟨g, cap, cur, h1, _⟩
  ·exact ⟨none, 0, by rw [h1, h2]⟩
  ·exact ⟨_, _, h1⟩
 refine ⟨A, cap, hv, fun i hi => ?_⟩
 obtain ⟨g, cap', h1, h2, h3, h4⟩ := owns_cells h i hi
 rw [hv] at h1
 cases h1
 refine ⟨g, 0, rfl, h3, ?_⟩
 rw [Nat.zero_add, Nat.mul_comm i 4]
 exact ⟨h4 0 _ rfl, h4 1 _ rfl, h4 2 _ rfl, h4 3 _ rfl⟩
theorem TokRow.nil (W : World) : TokRow W (.slice none 0 0) [] := ⟨none, 0, rfl, fun i hi => by simp at hi⟩
theorem infoRTok : (Tryz.prog.info? 51).map (fun i => (i.zero, i.size, i.bytes)) = some (some (.agg #[.int .i64 0, .string ⟨#[]⟩, .int .i64 0, .int .i64 0]), 4, 40) := by kernel_rfl
end Go.Proofs.YtdacpbdamliafaaGreat

/- An append to a row of the call's own, whatever the source: nothing, or cells at an address. -/
namespace Go.Proofs.YtdacpbdamliafaaGreat
open Go.RowKit
def Stay (p : Prop) : Prop := p
theorem Stay.mk {p : Prop} (h : Stay p) : p := h
theorem Stay.go {p : Prop} (h : p) : Stay p := h
def Src (w : World) (size : Nat) (y : Value) (m : Nat) (news : List Value) : Prop :=
 ∃ A c, y = .slice A m c ∧ news.length = m * size ∧ ((A = none ∧ m = 0 ∧ news = []) ∨ ∃ ad, A = some ad ∧ ∀ j u, news[j]? = some u → w.cell? (ad.add j) = some u)
theorem Src.fresh {w w' : World} {size m : Nat} {y : Value} {news : List Value} (h : Src w size y m news) (hf : Fresh w w') : Src w' size y m news := by
 obtain ⟨A, c, h1, h2, h3⟩ := h
 refine ⟨A, c, h1, h2, h3.imp id ?_⟩
 rintro ⟨ad, ha, hc⟩
 exact ⟨ad, ha, fun j u hu => hf.cell (hc j u hu) (fun h => h)⟩
theorem Src.of_own {w : World} {base e size n : Nat} {v : Value} {xs : List Value} (h : w.ownsRow base e size v n xs) : Src w size v n xs := by
 rcases h.2 with ⟨h1, h2⟩ | ⟨g, cap, cur, h1, _⟩
 ·refine ⟨none, 0, by rw [h1, h2], h.1, .inl ⟨rfl, h2, ?_⟩⟩
  have := h.1
  rw [h2, Nat.zero_mul] at this
  exact List.length_eq_zero_iff.1 this
 ·exact ⟨some ⟨g, 0, none⟩, cap, h1, h.1, .inr ⟨_, rfl, h.cells (by rw [h1]; rfl)⟩⟩
theorem Src.of_blk {w : World} {g : Nat} {t : TypeId} {cs : Array Value} {size m c : Nat} (h : Blk w g t cs) (hs : cs.size = m * size) : Src w size (.slice (some ⟨g, 0, none⟩) m c) m cs.toList :=
 ⟨_, _, rfl, by simpa using hs, .inr ⟨_, rfl, fun j u hu => by rw [Addr.add_mid, Nat.zero_add, h.cell]; simpa using hu⟩⟩
section
variable {P : Program} (w : World)
theorem run_append_src (base : Nat) (t ty e : TypeId) (i : TypeInfo) (z : Value) (size bytes : Nat) (ht : P.underlying t = some (.slice e)) (hi : P.info? e = some i) (hz : i.zero = some z)
  (hsize : i.size = size) (hby : i.bytes = bytes) (hzs : z.cells.size = size) (hsz : 0 < size)
  (v : Value) (n : Nat) (xs : List Value) (hown : w.ownsRow base e size v n xs) (y : Value) (m : Nat) (news : List Value) (hsrc : Src w size y m news) (h1 : ∀ u ∈ news, u.oneCell' = true)
  (h63 : n + m ≤ maxLen) (hbytes : (n + m) * bytes ≤ 140737488355328) (hbase : base ≤ w.heap.size) :
  ∃ v' w', (Builtin.append_ #[t, t] ty #[v, y]).run P w = .ok v' w' ∧ w'.ownsRow base e size v' (n + m) (xs ++ news) ∧ w.grownBy w' v.ownBlock ∧ (v'.ownBlock = v.ownBlock ∨ v'.ownBlock = some w.heap.size) := by
 obtain ⟨A, c, rfl, hl, hA⟩ := hsrc
 rcases hA with ⟨rfl, rfl, rfl⟩ | ⟨ad, rfl, hc⟩
 ·refine ⟨v, w, ?_, by simpa using hown, World.grownBy.refl w _, .inl rfl⟩
  rcases hown.2 with ⟨rfl, rfl⟩ | ⟨g, cap, cur, rfl, _, _, hnc, _⟩
  ·simp [Builtin.append_, run_underlying ht, sizeOf, typeInfo, hi, Builtin.lenOf, Builtin.firstCells]
  ·simp [Builtin.append_, run_underlying ht, sizeOf, typeInfo, hi, Builtin.lenOf, Builtin.firstCells, hnc, storeCells]
 ·obtain ⟨v', w', hrun, h2, h3, _, h5⟩ := run_append_own_at (P := P) w base t ty e i z size bytes ht hi hz hsize hby hzs hsz v n xs hown ad m c news hl hc h1 h63 hbytes hbase
  exact ⟨v', w', hrun, h2, h3, h5⟩
theorem wp_append_src {o : Oper} {a : Act} {K : Act → World → Prop} {Q : Exit → Act → World → Prop} (s x : Operand) (t : TypeId)
  (ho : o.op = .call { callee := .builtin .append, args := #[s, x], argTypes := #[t, t] })
  (base : Nat) (e : TypeId) (i : TypeInfo) (z : Value) (size bytes : Nat) (ht : P.underlying t = some (.slice e)) (hi : P.info? e = some i) (hz : i.zero = some z)
  (hsize : i.size = size) (hby : i.bytes = bytes) (hzs : z.cells.size = size) (hsz : 0 < size)
  (v : Value) (n : Nat) (xs : List Value) (hs : a.eval s = v) (hown : w.ownsRow base e size v n xs)
  (y : Value) (m : Nat) (news : List Value) (hx : a.eval x = y) (hsrc : Src w size y m news) (h1 : ∀ u ∈ news, u.oneCell' = true)
  (h63 : n + m ≤ maxLen) (hbytes : (n + m) * bytes ≤ 140737488355328) (hbase : base ≤ w.heap.size)
  (h : ∀ v' w', w'.ownsRow base e size v' (n + m) (xs ++ news) → w.grownBy w' v.ownBlock → (v'.ownBlock = v.ownBlock ∨ v'.ownBlock = some w.heap.size) → K (a.put o.dst v') w') : o.wp P a w K Q := by
 obtain ⟨v', w', hrun, h2, h3, h4⟩ := run_append_src (P := P) w base t o.type e i z size bytes ht hi hz hsize hby hzs hsz v n xs hown y m news hsrc h1 h63 hbytes hbase
 unfold Oper.wp execOp
 simp only [ho, resolve, invoke, builtin, Sem.run_bind, Sem.run_pure, Result.andThen_ok, List.map_toArray, List.map_cons, List.map_nil, hs, hx, hrun]
 exact h v' w' h2 h3 h4
theorem wpList_append_src {ops : Array Oper} {rest : List Oper} {o : Oper} {a : Act} {Q : Exit → Act → World → Prop} (hgd : o.guard = none) (s x : Operand) (t : TypeId)
  (ho : o.op = .call { callee := .builtin .append, args := #[s, x], argTypes := #[t, t] })
  (base : Nat) (e : TypeId) (i : TypeInfo) (z : Value) (size bytes : Nat) (ht : P.underlying t = some (.slice e)) (hi : P.info? e = some i) (hz : i.zero = some z)
  (hsize : i.size = size) (hby : i.bytes = bytes) (hzs : z.cells.size = size) (hsz : 0 < size)
  (v : Value) (n : Nat) (xs : List Value) (hs : a.eval s = v) (hown : w.ownsRow base e size v n xs)
  (y : Value) (m : Nat) (news : List Value) (hx : a.eval x = y) (hsrc : Src w size y m news) (h1 : ∀ u ∈ news, u.oneCell' = true)
  (h63 : n + m ≤ maxLen) (hbytes : (n + m) * bytes ≤ 140737488355328) (hbase : base ≤ w.heap.size)
  (h : ∀ v' w', w'.ownsRow base e size v' (n + m) (xs ++ news) → w.grownBy w' v.ownBlock → (v'.ownBlock = v.ownBlock ∨ v'.ownBlock = some w.heap.size) → wpList P ops Q rest (a.put o.dst v') w') : wpList P ops Q (o :: rest) a w :=
 wpList_plain hgd fun _ hK => wp_append_src w s x t ho base e i z size bytes ht hi hz hsize hby hzs hsz v n xs hs hown y m news hx hsrc h1 h63 hbytes hbase fun v' w' h2 h3 h4 => hK _ _ (h v' w' h2 h3 h4)
theorem step_append_src {ops : Array Oper} {o : Oper} {a : Act} {K : Act → World → Prop} {Q : Exit → Act → World → Prop} {E : Prop} (hgd : o.guard = none) (s x : Operand) (t : TypeId)
  (ho : o.op = .call { callee := .builtin .append, args := #[s, x], argTypes := #[t, t] })
  (base : Nat) (e : TypeId) (i : TypeInfo) (z : Value) (size bytes : Nat) (ht : P.underlying t = some (.slice e)) (hi : P.info? e = some i) (hz : i.zero = some z)
  (hsize : i.size = size) (hby : i.bytes = bytes) (hzs : z.cells.size = size) (hsz : 0 < size)
  (v : Value) (n : Nat) (xs : List Value) (hs : a.eval s = v) (hown : w.ownsRow base e size v n xs)
  (y : Value) (m : Nat) (news : List Value) (hx : a.eval x = y) (hsrc : Src w size y m news) (h1 : ∀ u ∈ news, u.oneCell' = true)
  (h63 : n + m ≤ maxLen) (hbytes : (n + m) * bytes ≤ 140737488355328) (hbase : base ≤ w.heap.size)
  (h : ∀ v' w', w'.ownsRow base e size v' (n + m) (xs ++ news) → w.grownBy w' v.ownBlock → (v'.ownBlock = v.ownBlock ∨ v'.ownBlock = some w.heap.size) → K (a.put o.dst v') w') :
  if Region.wanted o (yielded ops a.tmps) = true then Oper.wp P o a w K Q else E := by
 have hw : Region.wanted o (yielded ops a.tmps) = true := by simp [Region.wanted, hgd]
 rw [if_pos hw]
 exact wp_append_src w s x t ho base e i z size bytes ht hi hz hsize hby hzs hsz v n xs hs hown y m news hx hsrc h1 h63 hbytes hbase h
end
end Go.Proofs.YtdacpbdamliafaaGreat

/- Slices of numbers: slices.Equal, slices.Compare. -/
namespace Go.Proofs.YtdacpbdamliafaaGreat
open Go.RowKit
def Ints (w : World) (v : Value) (l : List Int) : Prop :=
 ∃ A cap, v = .slice A l.length cap ∧ (l = [] ∨ ∃ g o, A = some ⟨g, o, none⟩ ∧ g < w.heap.size ∧ ∀ i (h : i < l.length), w.cell? ⟨g, o + i, none⟩ = some (.int .i64 l[i]))
theorem Ints.get {w : World} {A : Option Addr} {n cap : Nat} {l : List Int} (h : Ints w (.slice A n cap) l) (i : Nat) (hi : i < l.length) : ∃ g o, A = some ⟨g, o, none⟩ ∧ g < w.heap.size ∧ w.cell? ⟨g, o + i, none⟩ = some (.int .i64 l[i]) := by
 obtain ⟨A', cap', hv, h⟩ := h
 cases hv
 rcases h with rfl | ⟨g, o, h1, h2, h3⟩
 ·simp at hi
 ·exact ⟨g, o, h1, h2, h3 i hi⟩
theorem Ints.slice {w : World} {v : Value} {l : List Int} (h : Ints w v l) : ∃ A cap, v = .slice A l.length cap := by
 obtain ⟨A, cap, h, _⟩ := h
 exact ⟨A, cap, h⟩
theorem Ints.nil (w : World) (A : Option Addr) (cap : Nat) : Ints w (.slice A 0 cap) [] := ⟨A, cap, rfl, .inl rfl⟩
theorem Ints.fresh {w w' : World} {v : Value} {l : List Int} (h : Ints w v l) (hf : Fresh w w') : Ints w' v l := by
 obtain ⟨A, cap, h, h'⟩ := h
 exact ⟨A, cap, h, h'.imp id fun ⟨g, o, h1, h2, h3⟩ => ⟨g, o, h1, Nat.lt_of_lt_of_le h2 hf.size, fun i hi => hf.cell (h3 i hi) (fun h => h)⟩⟩
theorem Ints.own {w : World} {B e : Nat} {v : Value} {l : List Int} (h : w.ownsRow B e 1 v l.length (l.map fun x => .int .i64 x)) : Ints w v l := by
 rcases h.2 with ⟨h1, h2⟩ | ⟨g, cap, cur, h1, _⟩
 ·rw [List.length_eq_zero_iff.1 h2, h1]
  exact Ints.nil _ _ _
 ·refine ⟨_, cap, h1, .inr ⟨g, 0, rfl, (h.lt g (by rw [h1]; rfl)).2, fun i hi => ?_⟩⟩
  have := h.cells (g := g) (by rw [h1]; rfl) i (.int .i64 l[i]) (by simp [hi])
  rw [Addr.add_mid, Nat.zero_add] at this
  rw [Nat.zero_add]
  exact this
theorem take_snoc_eq (a b : List Int) (j : Nat) (ha : j < a.length) (hb : j < b.length) (h : a.take j = b.take j) (he : a[j] = b[j]) : a.take (j + 1) = b.take (j + 1) := by
 rw [List.take_succ_eq_append_getElem ha, List.take_succ_eq_append_getElem hb, h, he]
set_option maxHeartbeats 1000000 in
theorem equal_ints (a b : List Int) (va vb : Value) (w : World) (h1 : Ints w va a) (h2 : Ints w vb b) (ha : a.length ≤ maxLen) (hb : b.length ≤ maxLen) :
  Calls Tryz.prog 40 #[va, vb] w fun e w' => e = .returned (.bool (decide (a = b))) ∧ Fresh w w' := by
 unfold maxLen at ha hb
 obtain ⟨A, cap, rfl⟩ := h1.slice
 obtain ⟨B, cbp, rfl⟩ := h2.slice
 have HA := hid h1
 have HB := hid h2
 clear h1 h2
 by_cases c0 : a.length = b.length
 ·have b0 : ((a.length : Int) == (b.length : Int)) = true := by rw [c0]; simp
  have b0' : ((a.length : Int) != (b.length : Int)) = false := by rw [bne, b0]; rfl
  have C0 := hid c0
  clear c0
  go_enter Tryz.func40, Tryz.ntmps40
  go_wp2_with fail
  go_loopw [13] (fun i wr => ∃ j : Nat, i = .int .i64 j ∧ j ≤ a.length ∧ Hid (a.take j = b.take j) ∧ Hid (Fresh w wr)) (fun i _ => a.length - (intOf i).toNat)
  case atStart => exact ⟨0, rfl, Nat.zero_le _, rfl, Touch.refl _ _⟩
  case round =>
   obtain ⟨j, rfl, hj, HT, HF⟩ := hrel
   by_cases c1 : j < a.length
   ·have d1 : decide ((j : Int) < (a.length : Int)) = true := by simp; omega
    have d1' : (j : Int) < (a.length : Int) := by omega
    have c1y : j < b.length := by rw [← C0.out]; exact c1
    have d1y : (j : Int) < (b.length : Int) := by omega
    obtain ⟨g, o, rfl, _, m0⟩ := HA.out.get j c1
    obtain ⟨g', o', rfl, _, n0⟩ := HB.out.get j c1y
    have HS := hid (take_snoc_eq a b j c1 c1y HT.out)
    have HN := hid (show a[j] ≠ b[j] → a ≠ b from fun h e => by subst e; exact h rfl)
    have a0 := HF.out.cell m0 (fun h => h)
    have b1 := HF.out.cell n0 (fun h => h)
    clear m0 n0
    generalize a[j] = x at *
    generalize b[j] = y at *
    cases e : (x == y) with
    | true =>
     have e' : (x != y) = false := by rw [bne, e]; rfl
     go_wp2_with fail
     go_quiet (fail)
     go_wp2_with fail
     go_roundw
     case rel => exact ⟨j + 1, by go_num, c1, HS.out (by simpa using e), HF.out.drewN _⟩
     case measure => simp [intOf]; omega
    | false =>
     have e' : (x != y) = true := by rw [bne, e]; rfl
     go_wp2_with fail
     go_quiet (fail)
     go_wp2_with fail
     go_ret
     exact ⟨by rw [decide_eq_false (HN.out (by simpa using e))]; rfl, HF.out.drewN _⟩
   ·have d1 : decide ((j : Int) < (a.length : Int)) = false := by simp; omega
    obtain rfl : j = a.length := by omega
    go_wp2_with fail
    go_ret
    refine ⟨?_, HF.out⟩
    have := HT.out
    rw [List.take_length, C0.out, List.take_length] at this
    rw [decide_eq_true this]
    rfl
 ·have b0 : ((a.length : Int) == (b.length : Int)) = false := by rw [beq_eq_false_iff_ne]; omega
  have b0' : ((a.length : Int) != (b.length : Int)) = true := by rw [bne, b0]; rfl
  have HLN := hid (show a ≠ b from fun e => c0 (by rw [e]))
  clear c0
  go_enter Tryz.func40, Tryz.ntmps40
  go_wp2_with fail
  go_ret
  exact ⟨by rw [decide_eq_false HLN.out]; rfl, Touch.refl _ _⟩
def cmpI : List Int → List Int → Int
 | [], [] => 0
 | [], _ :: _ => -1
 | _ :: _, [] => 1
 | a :: l, b :: m => if a < b then -1 else if b < a then 1 else cmpI l m
def cmp1 (a b : Int) : Int := if a < b then -1 else if b < a then 1 else 0
theorem nan_int (x : Int) (w : World) : Calls Tryz.prog 145 #[.int .i64 x] w fun e w' => e = .returned (.bool false) ∧ w' = w := by
 have e : (x == x) = true := by simp
 have e' : (x != x) = false := by simp
 go_enter Tryz.func145, Tryz.ntmps145
 go_wp2_with fail
 go_ret
 exact ⟨rfl, rfl⟩
theorem cmp_int (x y : Int) (w : World) : Calls Tryz.prog 104 #[.int .i64 x, .int .i64 y] w fun e w' => e = .returned (.int .i64 (cmp1 x y)) ∧ w' = w := by
 by_cases c1 : x < y
 ·have e1 : decide (x < y) = true := by simp [c1]
  have HR := hid (show cmp1 x y = -1 by unfold cmp1; rw [if_pos c1])
  go_enter Tryz.func104, Tryz.ntmps104
  go_wp2_with (with_reducible refine (nan_int _ _).mono ?_; rintro _ _ ⟨rfl, rfl⟩)
  go_ret
  exact ⟨by rw [HR.out]; rfl, rfl⟩
 ·have e1 : decide (x < y) = false := by simp; omega
  by_cases c2 : y < x
  ·have e2 : decide (y < x) = true := by simp [c2]
   have HR := hid (show cmp1 x y = 1 by unfold cmp1; rw [if_neg c1, if_pos c2])
   go_enter Tryz.func104, Tryz.ntmps104
   go_wp2_with (with_reducible refine (nan_int _ _).mono ?_; rintro _ _ ⟨rfl, rfl⟩)
   go_ret
   exact ⟨by rw [HR.out]; rfl, rfl⟩
  ·have e2 : decide (y < x) = false := by simp; omega
   have HR := hid (show cmp1 x y = 0 by unfold cmp1; rw [if_neg c1, if_neg c2])
   go_enter Tryz.func104, Tryz.ntmps104
   go_wp2_with (with_reducible refine (nan_int _ _).mono ?_; rintro _ _ ⟨rfl, rfl⟩)
   go_ret
   exact ⟨by rw [HR.out]; rfl, rfl⟩
theorem cmpI_cons (a b : Int) (l m : List Int) : cmpI (a :: l) (b :: m) = if cmp1 a b = 0 then cmpI l m else cmp1 a b := by
 rw [cmpI]
 unfold cmp1
 by_cases h1 : a < b
 ·rw [if_pos h1, if_pos h1]; rfl
 ·rw [if_neg h1, if_neg h1]
  by_cases h2 : b < a
  ·rw [if_pos h2, if_pos h2]; rfl
  ·rw [if_neg h2, if_neg h2]; rfl
set_option maxHeartbeats 1000000 in
theorem compare_ints (a b : List Int) (va vb : Value) (w : World) (h1 : Ints w va a) (h2 : Ints w vb b) (ha : a.length ≤ maxLen) (_hb : b.length ≤ maxLen) :
  Calls Tryz.prog 73 #[va, vb] w fun e w' => e = .returned (.int .i64 (cmpI a b)) ∧ Fresh w w' := by
 unfold maxLen at ha _hb
 obtain ⟨A, cap, rfl⟩ := h1.slice
 obtain ⟨B, cbp, rfl⟩ := h2.slice
 have HA := hid h1
 have HB := hid h2
 clear h1 h2
 go_enter Tryz.func73, Tryz.ntmps73
 go_wp2_with fail
 go_loopw [11] (fun i wr => ∃ j : Nat, i = .int .i64 j ∧ j ≤ a.length ∧ j ≤ b.length ∧ Hid (cmpI (a.drop j) (b.drop j) = cmpI a b) ∧ Hid (Fresh w wr)) (fun i _ => a.length - (intOf i).toNat)
 case atStart => exact ⟨0, rfl, Nat.zero_le _, Nat.zero_le _, rfl, Touch.refl _ _⟩
 case round =>
  obtain ⟨j, rfl, hj, hjb, HT, HF⟩ := hrel
  by_cases c1 : j < a.length
  ·have d1 : decide ((j : Int) < (a.length : Int)) = true := by simp; omega
   have d1' : (j : Int) < (a.length : Int) := by omega
   by_cases c2 : j < b.length
   ·have d2 : decide ((b.length : Int) ≤ (j : Int)) = false := by simp; omega
    have d2' : (j : Int) < (b.length : Int) := by omega
    obtain ⟨g, o, rfl, _, m0⟩ := HA.out.get j c1
    obtain ⟨g', o', rfl, _, n0⟩ := HB.out.get j c2
    have HS := hid (show cmpI a b = if cmp1 a[j] b[j] = 0 then cmpI (a.drop (j + 1)) (b.drop (j + 1)) else cmp1 a[j] b[j] by
     rw [← HT.out, List.drop_eq_getElem_cons c1, List.drop_eq_getElem_cons c2, cmpI_cons])
    have a0 := HF.out.cell m0 (fun h => h)
    have b1 := HF.out.cell n0 (fun h => h)
    clear m0 n0
    generalize a[j] = x at *
    generalize b[j] = y at *
    cases e : (cmp1 x y == 0) with
    | true =>
     have e' : (cmp1 x y != 0) = false := by rw [bne, e]; rfl
     go_wp2_with fail
     refine (cmp_int _ _ _).mono ?_
     rintro _ wq ⟨rfl, hw⟩
     replace hw := hw.symm
     subst hw
     go_wp2_with fail
     go_roundw
     case rel => exact ⟨j + 1, by go_num, c1, c2, by unfold Hid; rw [HS.out, if_pos (by simpa using e)], HF.out⟩
     case measure => simp [intOf]; omega
    | false =>
     have e' : (cmp1 x y != 0) = true := by rw [bne, e]; rfl
     go_wp2_with fail
     refine (cmp_int _ _ _).mono ?_
     rintro _ wq ⟨rfl, hw⟩
     replace hw := hw.symm
     subst hw
     go_wp2_with fail
     go_ret
     exact ⟨by rw [HS.out, if_neg (by simpa using e)]; rfl, HF.out⟩
   ·have d2 : decide ((b.length : Int) ≤ (j : Int)) = true := by simp; omega
    have HR := hid (show cmpI a b = 1 by
     rw [← HT.out, List.drop_eq_getElem_cons c1, List.drop_eq_nil_of_le (show b.length ≤ j by omega)]; rfl)
    obtain ⟨g, o, rfl, _, m0⟩ := HA.out.get j c1
    have a0 := HF.out.cell m0 (fun h => h)
    clear m0
    generalize a[j] = x at *
    go_wp2_with fail
    go_ret
    exact ⟨by rw [HR.out]; rfl, HF.out⟩
  ·have d1 : decide ((j : Int) < (a.length : Int)) = false := by simp; omega
   obtain rfl : j = a.length := by omega
   by_cases c2 : a.length < b.length
   ·have d2 : decide ((a.length : Int) < (b.length : Int)) = true := by simp; omega
    have HR := hid (show cmpI a b = -1 by
     rw [← HT.out, List.drop_eq_nil_of_le (Nat.le_refl _), List.drop_eq_getElem_cons c2]; rfl)
    go_wp2_with fail
    go_ret
    exact ⟨by rw [HR.out]; rfl, HF.out⟩
   ·have d2 : decide ((a.length : Int) < (b.length : Int)) = false := by simp; omega
    have HR := hid (show cmpI a b = 0 by
     rw [← HT.out, List.drop_eq_nil_of_le (Nat.le_refl _), List.drop_eq_nil_of_le (by omega)]; rfl)
    go_wp2_with fail
    go_ret
    exact ⟨by rw [HR.out]; rfl, HF.out⟩
theorem pcompare_ints (a b : List Int) (va vb : Value) (w : World) (h1 : Ints w va a) (h2 : Ints w vb b) (ha : a.length ≤ maxLen) (hb : b.length ≤ maxLen) :
  Calls Tryz.prog 46 #[va, vb] w fun e w' => e = .returned (.int .i64 (cmpI a b)) ∧ Fresh w w' := by
 go_enter Tryz.func46, Tryz.ntmps46
 go_wp2_with fail
 refine (compare_ints a b va vb _ h1 h2 ha hb).mono ?_
 rintro _ w1 ⟨rfl, hf⟩
 go_wp2_with fail
 go_ret
 exact ⟨rfl, hf⟩
end Go.Proofs.YtdacpbdamliafaaGreat
