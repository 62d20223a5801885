/- Part 9 of 48 of a proof; its texts, joined: Bld, LxZ, SpA. No condition. -/
import Derived.Test.YtncnoeoicaglaaaGreatVc8
import Derived.Lib.Builder
import Derived.Lib.UnsafeStr
import Derived.Maps.AppendAt
import Derived.Deep.RegionHeld3
import Derived.Test.YtncnoeoicaglaaaGreatVc1

/- The walks of strings.Builder's methods: a builder that lies in a block that is known whole. -/
namespace Go.Proofs.YtncnoeoicaglaaaGreat
open Go.RowKit
structure Bld (w : World) (B b o : Nat) (T : TypeId) (cs : Array Value) (v : Value) (l : List UInt8) : Prop where
 blk : Blk w b T cs
 addr : cs[o]? = some (.pointer none) ∨ cs[o]? = some (.pointer (some ⟨b, o, none⟩))
 buf : cs[o + 1]? = some v
 own : w.ownsRow B 5 1 v l.length (Lib.byteCells l)
 ne : v.ownBlock ≠ some b
 nilv : l = [] → v = .slice none 0 0
theorem byteCells_snoc (l : List UInt8) (c : UInt8) : Lib.byteCells (l ++ [c]) = Lib.byteCells l ++ [.int .u8 c.toNat] := by simp [Lib.byteCells]
theorem infoU8 : (Tryz.prog.info? 5).map (fun i => (i.zero, i.size, i.bytes)) = some (some (.int .u8 0), 1, 1) := by kernel_rfl
theorem infoBuilder : ∃ j, Tryz.prog.info? 81 = some j ∧ j.size = 2 := by
 have h : (Tryz.prog.info? 81).map (·.size) = some 2 := by kernel_rfl
 exact Option.map_eq_some_iff.1 h
theorem shape_of_blk {w : World} {g : Nat} {t : TypeId} {cs : Array Value} (h : Blk w g t cs) : w.shape? g = some (t, cs.size) := by
 unfold Blk at h; simp [World.shape?, h]
set_option maxRecDepth 100000 in
set_option maxHeartbeats 1000000 in
theorem copyCheck_used (b o : Nat) (w : World) (h0 : w.cell? ⟨b, o, none⟩ = some (.pointer (some ⟨b, o, none⟩))) :
  Calls Tryz.prog 158 #[.pointer (some ⟨b, o, none⟩)] w fun e w' => e = .returned (.tuple #[]) ∧ w' = w := by
 obtain ⟨j, hj, _⟩ := infoBuilder
 go_enter Tryz.func158, Tryz.ntmps158
 go_wp2
 rw [Lib.run_neq_ptr_same w _ Tryz.underlying79 hj]
 go_wp2
 go_end0
 exact ⟨rfl, rfl⟩
set_option maxRecDepth 100000 in
set_option maxHeartbeats 1000000 in
theorem copyCheck_fresh (b o : Nat) (T : TypeId) (n : Nat) (w : World) (h0 : w.cell? ⟨b, o, none⟩ = some (.pointer none)) (hsh : w.shape? b = some (T, n)) (hfz : w.frozen? ⟨b, o, none⟩ = false)
  (hon : o < n) (hlies : liesAt Tryz.prog Tryz.prog.depth T (n / Tryz.prog.cellsOf T) o 81 1 = true) :
  Calls Tryz.prog 158 #[.pointer (some ⟨b, o, none⟩)] w fun e w' => e = .returned (.tuple #[]) ∧ w' = w.setCell ⟨b, o, none⟩ (.pointer (some ⟨b, o, none⟩)) := by
 obtain ⟨j, hj, hjs⟩ := infoBuilder
 go_enter Tryz.func158, Tryz.ntmps158
 go_wp2
 rw [Lib.run_to_unsafe w ⟨b, o, none⟩ Tryz.underlying79 Tryz.underlying187 hj (by rw [hjs]; decide) hsh hon]
 simp only [Result.andThen]
 rw [Oper.upon_value]
 go_wp2
 rw [run_callFunc_extern Tryz.func166 (by kernel_rfl) (by kernel_rfl) (by kernel_rfl) (e := Extern.AbiNoEscape.same) (by kernel_rfl)]
 rw [Lib.run_noEscape]
 simp only [Result.andThen]
 rw [Oper.upon_value]
 go_wp2
 rw [Lib.run_from_unsafe w ⟨b, o, none⟩ Tryz.underlying187 Tryz.underlying79 hj hsh hlies]
 simp only [Result.andThen]
 rw [Oper.upon_value]
 go_wp2
 go_end0
 exact ⟨rfl, rfl⟩
theorem copyCheck_any {w : World} {B b o : Nat} {T : TypeId} {cs : Array Value} {v : Value} {l : List UInt8} (h : Bld w B b o T cs v l)
  (hlies : liesAt Tryz.prog Tryz.prog.depth T (cs.size / Tryz.prog.cellsOf T) o 81 1 = true) :
  Calls Tryz.prog 158 #[.pointer (some ⟨b, o, none⟩)] w fun e w' => e = .returned (.tuple #[]) ∧ Blk w' b T (cs.setIfInBounds o (.pointer (some ⟨b, o, none⟩))) ∧ Touch (· = b) w w' ∧ w'.heap.size = w.heap.size := by
 have ho : o < cs.size := by
  rcases h.addr with h1 | h1 <;> exact (Array.getElem?_eq_some_iff.1 h1).1
 rcases h.addr with h1 | h1
 ·refine (copyCheck_fresh b o T cs.size w ((h.blk.cell o).trans h1) (shape_of_blk h.blk) (h.blk.frozen o) ho hlies).mono ?_
  rintro e w' ⟨rfl, rfl⟩
  exact ⟨rfl, h.blk.put _ _, (Touch.refl (· = b) w).setCell (p := ⟨b, o, none⟩) (.inl rfl) _, by simp [World.setCell]⟩
 ·refine (copyCheck_used b o w ((h.blk.cell o).trans h1)).mono ?_
  rintro e w' ⟨rfl, rfl⟩
  refine ⟨rfl, ?_, Touch.refl _ _, rfl⟩
  have : cs.setIfInBounds o (.pointer (some ⟨b, o, none⟩)) = cs := by
   apply Array.ext_getElem?
   intro i
   rw [Array.getElem?_setIfInBounds]
   split
   ·rename_i hi; subst hi; simp [ho] at *; exact h1.symm
   ·rfl
  rw [this]
  exact h.blk
theorem Bld.lt {w : World} {B b o : Nat} {T : TypeId} {cs : Array Value} {v : Value} {l : List UInt8} (h : Bld w B b o T cs v l) : b < w.heap.size := h.blk.lt
theorem Bld.drewN {w : World} {B b o : Nat} {T : TypeId} {cs : Array Value} {v : Value} {l : List UInt8} (h : Bld w B b o T cs v l) (n : Nat) : Bld (w.drewN n) B b o T cs v l := ⟨h.blk, h.addr, h.buf, h.own, h.ne, h.nilv⟩
theorem ownsRow_base {w : World} {B B' e size n : Nat} {v : Value} {xs : List Value} (h : w.ownsRow B e size v n xs) (hB : B' ≤ B) : w.ownsRow B' e size v n xs := by
 obtain ⟨h1, h2⟩ := h
 refine ⟨h1, ?_⟩
 rcases h2 with h2 | ⟨g, cap, cur, h3, h4, r⟩
 ·exact .inl h2
 ·exact .inr ⟨g, cap, cur, h3, by omega, r⟩
theorem ownsRow_touch {S : Nat → Prop} {w w' : World} {B e size n : Nat} {v : Value} {xs : List Value} (h : w.ownsRow B e size v n xs) (ht : Touch S w w') (hn : ∀ k, v.ownBlock = some k → ¬ S k) : w'.ownsRow B e size v n xs := by
 obtain ⟨h1, h2⟩ := h
 refine ⟨h1, ?_⟩
 rcases h2 with h2 | ⟨g, cap, cur, rfl, hb, hh, r⟩
 ·exact .inl h2
 ·exact .inr ⟨g, cap, cur, rfl, hb, (ht.block g (Array.getElem?_eq_some_iff.1 hh).1 (hn g rfl)).trans hh, r⟩
set_option maxRecDepth 100000 in
set_option maxHeartbeats 1000000 in
theorem writeByte_any {w : World} {B b o : Nat} {T : TypeId} {cs : Array Value} {v : Value} {l : List UInt8} (h : Bld w B b o T cs v l)
  (hlies : liesAt Tryz.prog Tryz.prog.depth T (cs.size / Tryz.prog.cellsOf T) o 81 1 = true) (x : Int) (c : UInt8) (hx : x = c.toNat) (hlen : l.length + 1 ≤ 140737488355328) (hB : B ≤ w.heap.size) :
  Calls Tryz.prog 144 #[.pointer (some ⟨b, o, none⟩), .int .u8 x] w fun e w' => e = .returned .nilIface ∧ ∃ v', Bld w' B b o T ((cs.setIfInBounds o (.pointer (some ⟨b, o, none⟩))).setIfInBounds (o + 1) v') v' (l ++ [c]) ∧ Touch (fun k => k = b ∨ v.ownBlock = some k) w w' := by
 obtain ⟨i0, hi, hz0, hz1, hz2⟩ := info_parts infoU8
 have ho : o + 1 < cs.size := (Array.getElem?_eq_some_iff.1 h.buf).1
 go_enter Tryz.func144, Tryz.ntmps144
 go_wp2_with fail
 refine (copyCheck_any h hlies).mono ?_
 rintro e w1 ⟨rfl, hb1, ht1, hs1⟩
 have c1 : w1.cell? ⟨b, o + 1, none⟩ = some v := by
  rw [hb1.cell, Array.getElem?_setIfInBounds_ne (by omega)]; exact h.buf
 have hown : w1.ownsRow B 5 1 v l.length (Lib.byteCells l) := ownsRow_touch h.own ht1 (fun k hk e => h.ne (by rw [hk, e]))
 have HB := hid hb1
 have HT := hid ht1
 have HS := hid hs1
 have HX := hid hx
 clear hb1 ht1 hs1 hx
 go_wp2_with (at_builtin; refine wpList_append_own_at _ rfl _ _ 22 rfl B 5 i0 (.int .u8 0) 1 1 Tryz.underlying22 hi hz0 hz1 hz2 rfl (by decide) _ _ _ rfl (hown.alloc _) ⟨w1.heap.size, 0, none⟩ 1 1 [.int .u8 x] rfl rfl ?c1 ?c2 ?c3 ?c4 ?c5 ?_)
 case c1 =>
  intro j u hj
  match j, hj with
  | 0, hj => simp at hj; subst hj; simp [Addr.add]
 case c2 => intro u hu; simp at hu; subst hu; rfl
 case c3 => unfold maxLen; omega
 case c4 => omega
 case c5 => have := HS.out; simp; omega
 intro v' w2 hown' hgrow _ hat
 have hlt1 := HB.out.lt
 have ht2 : Touch (fun k => v.ownBlock = some k) w1 w2 := ((Touch.refl (fun k => v.ownBlock = some k) w1).alloc _).grown hgrow (fun g hg => .inl hg)
 have hb2 : Blk w2 b T (cs.setIfInBounds o (.pointer (some ⟨b, o, none⟩))) := ht2.blk HB.out h.ne
 have d1 : w2.cell? ⟨b, o + 1, none⟩ = some v := by
  rw [hb2.cell, Array.getElem?_setIfInBounds_ne (by omega)]; exact h.buf
 have f1 : w2.frozen? ⟨b, o + 1, none⟩ = false := hb2.frozen _
 have hne' : v'.ownBlock ≠ some b := by
  rcases hat with h1 | h1
  ·rw [h1]; exact h.ne
  ·rw [h1]; simp; omega
 obtain ⟨g, cap, rfl⟩ : ∃ g cap, v' = .slice (some ⟨g, 0, none⟩) (l.length + 1) cap := by
  rcases hown'.2 with ⟨_, h0⟩ | ⟨g, cap, cur, hv, _⟩
  ·omega
  ·exact ⟨g, cap, hv⟩
 have HB2 := hid hb2
 have HT2 := hid ht2
 have HO := hid hown'
 have HN := hid hne'
 clear hb2 ht2 hown' hne' hat hgrow hown
 go_wp2
 go_ret
 refine ⟨rfl, _, ⟨HB2.out.put _ _, .inr ?_, ?_, ?_, HN.out, by simp⟩, ?_⟩
 ·rw [Array.getElem?_setIfInBounds_ne (by omega), Array.getElem?_setIfInBounds_self_of_lt (by omega)]
 ·rw [Array.getElem?_setIfInBounds_self_of_lt (by simp; omega)]
 ·rw [byteCells_snoc, List.length_append, ← HX.out]
  exact ownsRow_touch HO.out ((Touch.refl (· = b) w2).setCell (p := ⟨b, o + 1, none⟩) (.inl rfl) _) (fun k hk e => HN.out (by rw [hk, e]))
 ·exact ((HT.out.mono (fun _ h => .inl h)).trans (HT2.out.mono (fun _ h => .inr h))).setCell (p := ⟨b, o + 1, none⟩) (.inl (.inl rfl)) _
theorem touch_freeze {S : Nat → Prop} {a w : World} (h : Touch S a w) {p : Addr} (hp : S p.block ∨ a.heap.size ≤ p.block) (n : Nat) : Touch S a (w.freeze p n) := by
 unfold World.freeze
 split
 ·exact h
 ·refine ⟨h.os, h.tape, h.output, by simpa using h.size, fun i hi hn => ?_⟩
  refine Eq.trans ?_ (h.block i hi hn)
  show (w.heap.modify p.block _)[i]? = _
  rw [Array.getElem?_modify, if_neg]
  rintro rfl
  exact hp.elim hn (fun hle => absurd hi (by omega))
theorem unsafeString_nil (W : World) (q : Option Addr) : (Builtin.unsafeString_ #[123, 3] 9 #[.pointer q, .int .i64 0]).run Tryz.prog W = .ok (.string .empty) W := Lib.run_unsafeString_none W _ _ _ q
set_option maxRecDepth 100000 in
set_option maxHeartbeats 1000000 in
theorem bstring_any {w : World} {B b o : Nat} {T : TypeId} {cs : Array Value} {v : Value} {l : List UInt8} (h : Bld w B b o T cs v l) :
  Calls Tryz.prog 37 #[.pointer (some ⟨b, o, none⟩)] w fun e w' => e = .returned (.string ⟨l.toArray⟩) ∧ Touch (fun k => v.ownBlock = some k) w w' := by
 have c1 : w.cell? ⟨b, o + 1, none⟩ = some v := (h.blk.cell _).trans h.buf
 by_cases h0 : l = []
 ·obtain rfl := h.nilv h0
  subst h0
  have hUS := unsafeString_nil
  have hSD : ∀ n : Nat, (Builtin.unsafeSliceData_ #[22] 123 #[.slice none 0 0]).run Tryz.prog (w.drewN n) = .ok (.pointer none) (w.drewN n) := fun _ => rfl
  clear h
  go_enter Tryz.func37, Tryz.ntmps37
  go_wp2
  go_quiet (fail)
  go_wp2
  go_ret
  exact ⟨rfl, (Touch.refl _ w).drewN _⟩
 ·have hl0 : l.length ≠ 0 := by simpa using h0
  obtain ⟨g, cap, cur, rfl, hbg, hg, hnc, hcm, hcs, htake⟩ : ∃ g cap cur, v = .slice (some ⟨g, 0, none⟩) l.length cap ∧ B ≤ g ∧ w.heap[g]? = some (.cells cur 5 (0, 0)) ∧ l.length ≤ cap ∧ cap ≤ maxLen ∧ cur.size = cap * 1 ∧ cur.toList.take (l.length * 1) = Lib.byteCells l := by
   rcases h.own.2 with ⟨_, hz⟩ | ⟨g, cap, cur, hv, r⟩
   ·exact absurd hz hl0
   ·exact ⟨g, cap, cur, hv, r⟩
  have hown := h.own
  have hSD : ∀ n : Nat, (Builtin.unsafeSliceData_ #[22] 123 #[.slice (some ⟨g, 0, none⟩) l.length cap]).run Tryz.prog (w.drewN n) = .ok (.pointer (some ⟨g, 0, none⟩)) (w.drewN n) := fun n =>
   Lib.run_unsafeSliceData_row _ _ _ _ _ _ (by omega)
  have hUS : ∀ n : Nat, (Builtin.unsafeString_ #[123, 3] 9 #[.pointer (some ⟨g, 0, none⟩), .int .i64 l.length]).run Tryz.prog (w.drewN n) = .ok (.string ⟨l.toArray⟩) ((w.drewN n).freeze ⟨g, 0, none⟩ l.length) := fun n => by
   refine Lib.run_unsafeString_row (w.drewN n) 123 3 9 5 Tryz.underlying123 (by kernel_rfl) g cur.size (by simp [World.shape?, hg]) l h0 (by omega) (by unfold maxLen at hcm; omega) ?_
   intro j x hx
   have := hown.cells (g := g) rfl j (.int .u8 x.toNat) (by simp [Lib.byteCells, hx])
   exact this
  have HG := hid hg
  clear h htake hcs hcm hnc hg hown h0 hl0
  go_enter Tryz.func37, Tryz.ntmps37
  go_wp2
  refine wp_region_segs [([0,1,2,3,4,5,6,7,8,9],10)] [11] (by kernel_rfl) (by kernel_rfl) ?_
  simp only [wpSegs, pick, List.getElem?_cons_zero, List.getElem?_cons_succ]
  repeat (quiet_step (fail))
  refine wpQuiet_nil ?_
  rintro _ ⟨nq, rfl⟩
  go_wp2
  repeat (quiet_step (fail))
  refine wpQuiet_nil ?_
  rintro _ ⟨nq2, rfl⟩
  go_wp2
  go_ret
  refine ⟨rfl, ?_⟩
  exact (touch_freeze ((Touch.refl (fun k => Value.ownBlock (.slice (some ⟨g, 0, none⟩) l.length cap) = some k) w).drewN nq) (p := ⟨g, 0, none⟩) (.inl rfl) _).drewN _
end Go.Proofs.YtncnoeoicaglaaaGreat

/- Small lemmas on bytes and strings. -/
namespace Go.Proofs.YtncnoeoicaglaaaGreat
open Go.RowKit
theorem liesBuilder : liesAt Tryz.prog Tryz.prog.depth 81 (2 / Tryz.prog.cellsOf 81) 0 81 1 = true := by kernel_rfl
theorem str_of (s : ByteArray) : (⟨s.data.toList.toArray⟩ : ByteArray) = s := rfl
theorem str_nil : (⟨([] : List UInt8).toArray⟩ : ByteArray) = ByteArray.empty := rfl
theorem data_get (s : ByteArray) (k : Nat) (h : k < s.size) : s.data.toList[k]'(by simpa using h) = s[k] := rfl
theorem u8_eq_of (x y : UInt8) (h : x = y) : ((x.toNat : Int) == (y.toNat : Int)) = true := by rw [h]; simp
theorem u8_ne_of (x y : UInt8) (h : ¬ x = y) : ((x.toNat : Int) == (y.toNat : Int)) = false := by
 rw [beq_eq_false_iff_ne]; intro hx; exact h (UInt8.toNat_inj.1 (by omega))
theorem u8_bne_of (x y : UInt8) (h : ¬ x = y) : ((x.toNat : Int) != (y.toNat : Int)) = true := by
 rw [bne_iff_ne]; intro hx; exact h (UInt8.toNat_inj.1 (by omega))
theorem u8_nbne_of (x y : UInt8) (h : x = y) : ((x.toNat : Int) != (y.toNat : Int)) = false := by rw [h]; simp
end Go.Proofs.YtncnoeoicaglaaaGreat

/- The walk of lexer.Spell. -/
namespace Go.Proofs.YtncnoeoicaglaaaGreat
open Go.RowKit
theorem app_str (l : List UInt8) (t : ByteArray) : ((⟨l.toArray⟩ : ByteArray) ++ t) = ⟨(l ++ t.data.toList).toArray⟩ := by
 apply ByteArray.ext
 simp [ByteArray.data_append]
structure SpAt (w : World) (k : Int) (t : ByteArray) (f to_ : Int) (acc : List UInt8) (cs : Array Value) (v : Value) (wr : World) : Prop where
 tok : Blk wr w.heap.size 134 #[.int .i64 k, .string t, .int .i64 f, .int .i64 to_]
 bld : Bld wr (w.heap.size + 2) (w.heap.size + 1) 0 81 cs v acc
 size : cs.size = 2
 touch : Fresh w wr
theorem SpAt.next {w : World} {k : Int} {t : ByteArray} {f to_ : Int} {acc : List UInt8} {cs : Array Value} {v : Value} {wr w' : World} (Q : SpAt w k t f to_ acc cs v wr) {c : UInt8} {v' : Value}
  (hb : Bld w' (w.heap.size + 2) (w.heap.size + 1) 0 81 ((cs.setIfInBounds 0 (.pointer (some ⟨w.heap.size + 1, 0, none⟩))).setIfInBounds (0 + 1) v') v' (acc ++ [c]))
  (ht : Touch (fun k => k = w.heap.size + 1 ∨ v.ownBlock = some k) wr w') :
  SpAt w k t f to_ (acc ++ [c]) ((cs.setIfInBounds 0 (.pointer (some ⟨w.heap.size + 1, 0, none⟩))).setIfInBounds (0 + 1) v') v' w' := by
 have hlt := Q.bld.own.lt
 refine ⟨ht.blk Q.tok ?_, hb, by simp [Q.size], Q.touch.trans' ht ?_⟩
 ·rintro (h1 | h1)
  ·omega
  ·have := (hlt _ h1).1; omega
 ·rintro i (h1 | h1)
  ·right; omega
  ·right; have := (hlt _ h1).1; omega
set_option maxRecDepth 100000 in
set_option maxHeartbeats 1000000 in
theorem spell_text (t : ByteArray) (f to_ : Int) (w : World) (hm : t.size ≤ 1000000000) :
  Calls Tryz.prog 147 #[.agg #[.int .i64 3, .string t, .int .i64 f, .int .i64 to_]] w fun e w' => e = .returned (.string ⟨(Lx.quoteL t.data.toList).toArray⟩) ∧ Fresh w w' := by
 have hll : t.data.toList.length = t.size := by simp
 have HLL := hid hll
 clear hll
 go_enter Tryz.func147, Tryz.ntmps147
 go_wp2_with fail
 have hs0 : SpAt w 3 t f to_ [] #[.pointer none, .slice none 0 0] (.slice none 0 0) ((w.alloc (.cells #[.int .i64 3, .string t, .int .i64 f, .int .i64 to_] 134)).alloc (.cells #[.pointer none, .slice none 0 0] 81)) :=
  ⟨(Blk.new w _ _).alloc _, ⟨Blk.new2 _ _ _ _, .inl rfl, rfl, World.ownsRow_nil _ _ _ _, by simp [Value.ownBlock], fun _ => rfl⟩, rfl, ((Touch.refl _ w).alloc _).alloc _⟩
 have HS0 := hid hs0
 clear hs0
 refine (writeByte_any HS0.out.bld (by rw [HS0.out.size]; exact liesBuilder) _ 34 rfl (by simp) (by simp)).mono ?_
 rintro e1 w1 ⟨rfl, v1, hb1, ht1⟩
 have HS1 := hid (HS0.out.next hb1 ht1)
 clear hb1 ht1 HS0
 have hq := Blk.four HS1.out.tok
 obtain ⟨q0, q1, q2, q3, z0, z1, z2, z3, hg⟩ := hq
 go_wp2_with fail
 go_loopw [4] (fun i wr => ∃ (j : Nat) (acc : List UInt8) (cs : Array Value) (v : Value), i = .int .i64 j ∧ j ≤ t.size ∧ acc.length ≤ 2 * j + 1 ∧ Hid (acc = 34 :: Lx.esc (t.data.toList.take j)) ∧ Hid (SpAt w 3 t f to_ acc cs v wr)) (fun i _ => t.size - (intOf i).toNat)
 case atStart => exact ⟨0, _, _, _, rfl, Nat.zero_le _, by simp, by simp [Lx.esc, Hid], HS1⟩
 case round =>
  obtain ⟨j, acc, cs, v, rfl, hj, hacc, HA, HS⟩ := hrel
  clear q0 q1 q2 q3 z0 z1 z2 z3 hg HS1
  obtain ⟨q0, q1, q2, q3, z0, z1, z2, z3, hg⟩ := Blk.four HS.out.tok
  have hbl := HS.out.bld.lt
  by_cases c1 : j < t.size
  ·have b1 : decide ((j : Int) < (t.size : Int)) = true := by simp; omega
   have b1' : (j : Int) < (t.size : Int) := by omega
   have b1'' : (0 : Int) ≤ (j : Int) := by omega
   have htk : t.data.toList.take (j + 1) = t.data.toList.take j ++ [t[j]'c1] := by
    rw [List.take_succ_eq_append_getElem (by rw [HLL.out]; exact c1)]; rfl
   have HTK := hid htk
   clear htk
   by_cases c2 : t[j]'c1 = 34
   ·have b2 : (((t[j]'c1).toNat : Int) == 34) = true := u8_eq_of _ 34 c2
    have HE := hid (show Lx.escB (t[j]'c1) = [92, t[j]'c1] by unfold Lx.escB; rw [if_pos (.inl c2)])
    clear c2
    go_wp2_with fail
    refine (writeByte_any HS.out.bld (by rw [HS.out.size]; exact liesBuilder) _ 92 rfl (by omega) (by omega)).mono ?_
    rintro e2 w2 ⟨rfl, v2, hb2, ht2⟩
    have HS2 := hid (HS.out.next hb2 ht2)
    clear hb2 ht2
    clear q0 q1 q2 q3 z0 z1 z2 z3 hg
    obtain ⟨q0, q1, q2, q3, z0, z1, z2, z3, hg⟩ := Blk.four HS2.out.tok
    have hbl2 := HS2.out.bld.lt
    go_wp2_with fail
    refine (writeByte_any HS2.out.bld (by rw [HS2.out.size]; exact liesBuilder) _ (t[j]'c1) rfl (by simp; omega) (by omega)).mono ?_
    rintro e3 w3 ⟨rfl, v3, hb3, ht3⟩
    have HS3 := hid (HS2.out.next hb3 ht3)
    clear hb3 ht3
    go_wp2_with fail
    go_roundw
    case rel => exact ⟨j + 1, _, _, _, by go_num, c1, by simp; omega, by rw [HTK.out, Lx.esc_snoc, HE.out, HA.out]; simp [Hid], HS3⟩
    case measure => simp [intOf]; omega
   ·have b2 : (((t[j]'c1).toNat : Int) == 34) = false := u8_ne_of _ 34 c2
    by_cases c3 : t[j]'c1 = 92
    ·have b3 : (((t[j]'c1).toNat : Int) == 92) = true := u8_eq_of _ 92 c3
     have HE := hid (show Lx.escB (t[j]'c1) = [92, t[j]'c1] by unfold Lx.escB; rw [if_pos (.inr c3)])
     clear c2 c3
     go_wp2_with fail
     refine (writeByte_any HS.out.bld (by rw [HS.out.size]; exact liesBuilder) _ 92 rfl (by omega) (by omega)).mono ?_
     rintro e2 w2 ⟨rfl, v2, hb2, ht2⟩
     have HS2 := hid (HS.out.next hb2 ht2)
     clear hb2 ht2
     clear q0 q1 q2 q3 z0 z1 z2 z3 hg
     obtain ⟨q0, q1, q2, q3, z0, z1, z2, z3, hg⟩ := Blk.four HS2.out.tok
     have hbl2 := HS2.out.bld.lt
     go_wp2_with fail
     refine (writeByte_any HS2.out.bld (by rw [HS2.out.size]; exact liesBuilder) _ (t[j]'c1) rfl (by simp; omega) (by omega)).mono ?_
     rintro e3 w3 ⟨rfl, v3, hb3, ht3⟩
     have HS3 := hid (HS2.out.next hb3 ht3)
     clear hb3 ht3
     go_wp2_with fail
     go_roundw
     case rel => exact ⟨j + 1, _, _, _, by go_num, c1, by simp; omega, by rw [HTK.out, Lx.esc_snoc, HE.out, HA.out]; simp [Hid], HS3⟩
     case measure => simp [intOf]; omega
    ·have b3 : (((t[j]'c1).toNat : Int) == 92) = false := u8_ne_of _ 92 c3
     have HE := hid (show Lx.escB (t[j]'c1) = [t[j]'c1] by unfold Lx.escB; rw [if_neg (fun h => h.elim c2 c3)])
     clear c2 c3
     go_wp2_with fail
     refine (writeByte_any HS.out.bld (by rw [HS.out.size]; exact liesBuilder) _ (t[j]'c1) rfl (by omega) (by omega)).mono ?_
     rintro e3 w3 ⟨rfl, v3, hb3, ht3⟩
     have HS3 := hid (HS.out.next hb3 ht3)
     clear hb3 ht3
     go_wp2_with fail
     go_roundw
     case rel => exact ⟨j + 1, _, _, _, by go_num, c1, by simp; omega, by rw [HTK.out, Lx.esc_snoc, HE.out, HA.out]; simp [Hid], HS3⟩
     case measure => simp [intOf]; omega
  ·have b1 : decide ((j : Int) < (t.size : Int)) = false := by simp; omega
   have htk : t.data.toList.take j = t.data.toList := List.take_of_length_le (by rw [HLL.out]; omega)
   have HTK := hid htk
   clear htk
   go_wp2_with fail
   refine (writeByte_any HS.out.bld (by rw [HS.out.size]; exact liesBuilder) _ 34 rfl (by omega) (by omega)).mono ?_
   rintro e2 w2 ⟨rfl, v2, hb2, ht2⟩
   have HS2 := hid (HS.out.next hb2 ht2)
   clear hb2 ht2
   go_wp2_with fail
   refine (bstring_any HS2.out.bld).mono ?_
   rintro e3 w3 ⟨rfl, ht3⟩
   have HF := hid (show Fresh w w3 from HS2.out.touch.trans' ht3 (fun i hk => by have := (HS2.out.bld.own.lt _ hk).1; right; omega))
   clear ht3
   go_wp2_with fail
   go_ret
   refine ⟨?_, HF.out⟩
   rw [HA.out, HTK.out]; rfl
theorem spell_any (k : Int) (t : ByteArray) (f to_ : Int) (w : World) (hm : t.size ≤ 1000000000) :
  Calls Tryz.prog 147 #[.agg #[.int .i64 k, .string t, .int .i64 f, .int .i64 to_]] w fun e w' => e = .returned (.string ⟨(Lx.spellL k t.data.toList).toArray⟩) ∧ Fresh w w' := by
 by_cases k3 : k = 3
 ·subst k3
  exact spell_text t f to_ w hm
 have b3 : (k == 3) = false := by simpa using k3
 by_cases k4 : k = 4
 ·subst k4
  clear b3 k3
  go_enter Tryz.func147, Tryz.ntmps147
  go_wp2
  go_ret
  exact ⟨by rw [app_str [92] t]; rfl, (Touch.refl _ w).alloc _⟩
 have b4 : (k == 4) = false := by simpa using k4
 by_cases k5 : k = 5
 ·subst k5
  clear b3 k3 b4 k4
  go_enter Tryz.func147, Tryz.ntmps147
  go_wp2
  go_ret
  exact ⟨by rw [app_str [92, 102, 101, 110, 99, 101] t]; rfl, (Touch.refl _ w).alloc _⟩
 have b5 : (k == 5) = false := by simpa using k5
 by_cases k6 : k = 6
 ·subst k6
  clear b3 k3 b4 k4 b5 k5
  go_enter Tryz.func147, Tryz.ntmps147
  go_wp2
  go_ret
  exact ⟨by rw [app_str [35] t]; rfl, (Touch.refl _ w).alloc _⟩
 have b6 : (k == 6) = false := by simpa using k6
 have hsp : Lx.spellL k t.data.toList = t.data.toList := by unfold Lx.spellL; rw [if_neg k3, if_neg k4, if_neg k5, if_neg k6]
 have HSP := hid hsp
 clear hsp k3 k4 k5 k6
 go_enter Tryz.func147, Tryz.ntmps147
 go_wp2
 go_ret
 exact ⟨by rw [HSP.out]; rfl, (Touch.refl _ w).alloc _⟩
end Go.Proofs.YtncnoeoicaglaaaGreat
