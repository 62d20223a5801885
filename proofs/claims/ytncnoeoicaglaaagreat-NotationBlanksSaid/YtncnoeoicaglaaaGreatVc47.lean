/- Part 47 of 48 of a proof; its texts, joined: NwE, SpG. No condition. -/
import Derived.Test.YtncnoeoicaglaaaGreatVc46
import Derived.Test.YtncnoeoicaglaaaGreatVc41
import Derived.Test.YtncnoeoicaglaaaGreatVc25

/- The walk of the reference lexer's Tokens. -/
namespace Go.Proofs.YtncnoeoicaglaaaGreat
open Go.RowKit
structure RTk (w : World) (pre : List Lx.PTok) (v : Value) (wr : World) : Prop where
 own : wr.ownsRow w.heap.size 34 4 v pre.length (pre.flatMap ptokCells)
 fresh : Fresh w wr
theorem RTk.start (w : World) : RTk w [] (.slice none 0 0) w := ⟨World.ownsRow_nil _ _ _ _, Touch.refl _ _⟩
theorem RTk.mv {w wr W : World} {pre : List Lx.PTok} {v : Value} (h : RTk w pre v wr) (hf : Fresh wr W) : RTk w pre v W := ⟨ownsRow_touch h.own hf (fun _ _ h => h), h.fresh.trans hf⟩
theorem RTk.next {w wr w' : World} {pre : List Lx.PTok} {v v' : Value} (t : Lx.PTok) (h : RTk w pre v wr) (hown : w'.ownsRow w.heap.size 34 4 v' (pre.length + 1) (pre.flatMap ptokCells ++ ptokCells t)) (hg : wr.grownBy w' v.ownBlock) : RTk w (pre ++ [t]) v' w' := by
 refine ⟨?_, h.fresh.grown hg fun g hk => .inr (h.own.lt g hk).1⟩
 rw [List.length_append, List.flatMap_append, List.flatMap_singleton]
 exact hown
theorem RTk.blk {w wr W w' : World} {pre : List Lx.PTok} {v : Value} {g : Nat} {t : TypeId} {cs : Array Value} (h : RTk w pre v wr) (hg : W.grownBy w' v.ownBlock) (hb : Blk W g t cs) (hl : wr.heap.size ≤ g) : Blk w' g t cs :=
 (hg.block g hb.lt (fun hk => by have := (h.own.lt g hk.symm).2; omega)).trans hb
theorem RTk.slice {w wr : World} {pre : List Lx.PTok} {v : Value} (h : RTk w pre v wr) : ∃ A cap, v = .slice A pre.length cap := by
 rcases h.own.2 with ⟨h1, h2⟩ | ⟨g, cap, cur, h1, _⟩
 ·exact ⟨none, 0, by rw [h1, h2]⟩
 ·exact ⟨_, _, h1⟩
theorem blank_is : ∀ c : UInt8, Lx.isB 1 c = ((c == 32) || (c == 9) || (c == 10)) := Tr.byte_all (fun c => Lx.isB 1 c = ((c == 32) || (c == 9) || (c == 10))) (by decide +kernel)
def Toks18 (w : World) (l : List UInt8) (e : Ending) (w' : World) : Prop :=
 match Lx.lexAll l with
 | (ts, none) => ∃ v, e = .returned (.tuple #[v, .int .i64 0, .int .i64 0]) ∧ w'.ownsRow w.heap.size 34 4 v ts.length (ts.flatMap ptokCells) ∧ Fresh w w'
 | (_, some (p, er)) => e = .returned (.tuple #[.slice none 0 0, .int .i64 (p : Int), .int .i64 (er : Int)]) ∧ Fresh w w'
set_option maxRecDepth 100000 in
set_option maxHeartbeats 3000000 in
theorem tokens18_any (s : ByteArray) (w : World) (hm : s.size ≤ 8000) :
  Calls Tryz.prog 7 #[.string s] w (Toks18 w s.data.toList) := by
 obtain ⟨j0, hj, hj0, hj1, hj2⟩ := info_parts infoRTok
 have hll : s.data.toList.length = s.size := by simp
 have HLL := hid hll
 clear hll
 have HNX := hid (fun (a : Nat) (w : World) (ha : a < s.size) => next18_any s a w (by omega) ha)
 have HNE := hid (lexAll_err_ne s.data.toList)
 refine Calls.via fun Q hQ => ?_
 have HQ := hid hQ
 clear hQ
 go_enter Tryz.func7, Tryz.ntmps7
 go_wp2_with fail
 have HS0 := hid (RTk.start w)
 go_loopw [5, 6] (fun x i wr => ∃ (a : Nat) (pre : List Lx.PTok), i = .int .i64 (a : Int) ∧ a ≤ s.size ∧ pre.length ≤ a ∧ Hid (Lx.lexAll s.data.toList = (pre ++ (Lx.lexFrom s.data.toList a).1, (Lx.lexFrom s.data.toList a).2)) ∧ Hid (RTk w pre x wr)) (fun _ i _ => s.size - (intOf i).toNat)
 case atStart => exact ⟨0, [], rfl, Nat.zero_le _, Nat.le_refl _, rfl, HS0⟩
 case round =>
  obtain ⟨a, pre, rfl, ha, hpa, HA, HR⟩ := hrel
  clear HS0
  obtain ⟨A, cap, rfl⟩ := HR.out.slice
  by_cases c1 : a < s.size
  ·have d1 : decide ((a : Int) < (s.size : Int)) = true := by simp only [decide_eq_true_eq]; omega
   have d1n : decide (a < s.size) = true := by simp only [decide_eq_true_eq]; omega
   have d1' : (a : Int) < (s.size : Int) := by omega
   have hsl : s.data.toList[a]'(by rw [HLL.out]; exact c1) = s[a]'c1 := rfl
   have hbl := Lx.lexFrom_blank s.data.toList a (by rw [HLL.out]; exact c1)
   have hnx := Lx.lexFrom_next s.data.toList a (by rw [HLL.out]; exact c1)
   rw [hsl] at hbl hnx
   obtain ⟨c, hc⟩ : ∃ c, s[a]'c1 = c := ⟨_, rfl⟩
   rw [hc] at hbl hnx
   rw [blank_is] at hbl hnx
   have HBL := hid hbl
   have HNXT := hid hnx
   clear hbl hnx hsl
   by_cases c32 : c = 32
   ·have b32 : ((c.toNat : Int) == 32) = true := u8_eq_of c 32 c32
    have HE := hid (show Lx.lexAll s.data.toList = (pre ++ (Lx.lexFrom s.data.toList (a + 1)).1, (Lx.lexFrom s.data.toList (a + 1)).2) by rw [HBL.out (by rw [c32]; rfl), HA.out])
    go_wp2_with fail
    go_roundw
    case rel => exact ⟨a + 1, pre, by go_num, c1, by omega, HE, HR⟩
    case measure => simp [intOf]; omega
   have b32 : ((c.toNat : Int) == 32) = false := u8_ne_of c 32 c32
   by_cases c9 : c = 9
   ·have b9 : ((c.toNat : Int) == 9) = true := u8_eq_of c 9 c9
    have HE := hid (show Lx.lexAll s.data.toList = (pre ++ (Lx.lexFrom s.data.toList (a + 1)).1, (Lx.lexFrom s.data.toList (a + 1)).2) by rw [HBL.out (by rw [c9]; rfl), HA.out])
    go_wp2_with fail
    go_roundw
    case rel => exact ⟨a + 1, pre, by go_num, c1, by omega, HE, HR⟩
    case measure => simp [intOf]; omega
   have b9 : ((c.toNat : Int) == 9) = false := u8_ne_of c 9 c9
   by_cases c10 : c = 10
   ·have b10 : ((c.toNat : Int) == 10) = true := u8_eq_of c 10 c10
    have HE := hid (show Lx.lexAll s.data.toList = (pre ++ (Lx.lexFrom s.data.toList (a + 1)).1, (Lx.lexFrom s.data.toList (a + 1)).2) by rw [HBL.out (by rw [c10]; rfl), HA.out])
    go_wp2_with fail
    go_roundw
    case rel => exact ⟨a + 1, pre, by go_num, c1, by omega, HE, HR⟩
    case measure => simp [intOf]; omega
   have b10 : ((c.toNat : Int) == 10) = false := u8_ne_of c 10 c10
   have HNB := hid (HNXT.out (by simp [c32, c9, c10]))
   clear HNXT HBL c32 c9 c10
   go_wp2_with fail
   refine Calls.mono (HNX.out a _ c1) ?_
   rintro e1 w1 ⟨he, hf⟩
   have HF1 := hid hf
   clear hf
   cases hq : Lx.nextP (s.data.toList.drop a) with
   | err i er =>
    have HN2 := HNB.out
    rw [hq] at he HN2
    unfold Tok18 at he
    simp only at he HN2
    subst he
    have HE := hid (show Lx.lexAll s.data.toList = (pre, some (a + i, er)) by rw [HA.out, HN2, List.append_nil])
    have e0 := fail_ne (HNE.out _ _ (by rw [HE.out]))
    clear hq HN2
    go_wp2_with fail
    go_ret3
    refine HQ.out _ _ ?_
    unfold Toks18
    rw [HE.out]
    exact ⟨rfl, (HR.out.fresh.trans HF1.out).alloc _⟩
   | ok t n =>
    have HN2 := HNB.out
    rw [hq] at he HN2
    unfold Tok18 at he
    simp only at he HN2
    subst he
    have hp := Lx.nextP_pos _ t n hq
    rw [List.length_drop, HLL.out] at hp
    have HL1 := hid HN2.1
    have HL2 := hid HN2.2
    clear hq HN2 HNB
    obtain ⟨m, hmm⟩ : ∃ m, m = a + n := ⟨_, rfl⟩
    rw [← hmm]
    rw [← hmm] at HL2
    have HMM := hid hmm
    clear hmm
    have hma : a < m := by have := HMM.out; omega
    have hms : m ≤ s.size := by have := HMM.out; omega
    clear hp
    have HB2 := hid (Blk.new w1 34 #[.int .i64 t.kind, .string ⟨t.text.toArray⟩, .int .i64 (a : Int), .int .i64 (m : Int)])
    have HR2 := hid ((HR.out.mv HF1.out).mv ((Touch.refl _ w1).alloc (.cells #[.int .i64 t.kind, .string ⟨t.text.toArray⟩, .int .i64 (a : Int), .int .i64 (m : Int)] 34)))
    have HR1 := hid (HR.out.mv HF1.out)
    have e0 : ((0 : Int) == 0) = true := rfl
    go_wp2_with fail
    refine Calls.mono (long18_any ⟨t.kind, t.text, a, m⟩ _) ?_
    rintro _ w3 ⟨rfl, hf3⟩
    have HB3 := hid (hf3.blk HB2.out fun h => h)
    have HR3 := hid (HR2.out.mv hf3)
    clear hf3 HR2 HB2
    obtain ⟨p0, p1, p2, p3, _, _, _, _, hlt⟩ := Blk.four HB3.out
    cases hl : Lx.long ⟨t.kind, t.text⟩ with
    | true =>
     have HE := hid (show Lx.lexAll s.data.toList = (pre, some (a, 6)) by rw [HA.out, HL1.out hl, List.append_nil])
     go_wp2_with fail
     go_ret3
     refine HQ.out _ _ ?_
     unfold Toks18
     rw [HE.out]
     exact ⟨rfl, HR3.out.fresh⟩
    | false =>
     have HE := hid (show Lx.lexAll s.data.toList = ((pre ++ [⟨t.kind, t.text, a, m⟩]) ++ (Lx.lexFrom s.data.toList m).1, (Lx.lexFrom s.data.toList m).2) by rw [HA.out, HL2.out hl]; simp)
     have d8 : decide ((8000 : Int) ≤ (pre.length : Int)) = false := by simp only [decide_eq_false_iff_not]; omega
     have d8n : decide (8000 ≤ pre.length) = false := by simp only [decide_eq_false_iff_not]; omega
     clear hl HL1 HL2
     go_wp2_with (at_builtin; refine wpList_append_src _ rfl (.tmp 51) (.tmp 53) 30 rfl w.heap.size 34 j0 _ 4 40 Tryz.underlying30 hj hj0 hj1 hj2 rfl (by decide) (.slice A pre.length cap) pre.length (pre.flatMap ptokCells) (by simp [Act.eval]) (HR3.out.own.alloc _) (.slice (some ⟨w3.heap.size, 0, none⟩) 1 1) 1 (ptokCells ⟨t.kind, t.text, a, m⟩) (by simp [Act.eval]) (Src.of_blk (Blk.new w3 34 #[.int .i64 t.kind, .string ⟨t.text.toArray⟩, .int .i64 (a : Int), .int .i64 (m : Int)]) rfl) (by intro u hu; simp [ptokCells] at hu; rcases hu with rfl | rfl | rfl | rfl <;> rfl) (by unfold maxLen; omega) (by omega) (by have := HR3.out.fresh.size; simp only [World.size_alloc]; omega) ?_; intro v4 w4 ho4 hg4 _; refine Stay.mk ?_)
     have HR4 := hid (RTk.next ⟨t.kind, t.text, a, m⟩ (HR3.out.mv ((Touch.refl _ w3).alloc _)) ho4 hg4)
     have HB4 := hid (HR1.out.blk hg4 (HB3.out.alloc _) (Nat.le_refl _))
     clear ho4 hg4 p0 p1 p2 p3 hlt
     obtain ⟨p0, p1, p2, p3, _, _, _, _, hlt⟩ := Blk.four HB4.out
     refine Stay.go ?_
     go_wp2_with fail
     go_roundw
     case rel => exact ⟨m, pre ++ [⟨t.kind, t.text, a, m⟩], rfl, hms, by simp; omega, HE, HR4⟩
     case measure => simp [intOf]; omega
  ·have d1 : decide ((a : Int) < (s.size : Int)) = false := by simp only [decide_eq_false_iff_not]; omega
   have d1n : decide (a < s.size) = false := by simp only [decide_eq_false_iff_not]; omega
   have hend := Lx.lexFrom_end s.data.toList a (by rw [HLL.out]; have := (Lx.skip_le s.data.toList a (by rw [HLL.out]; exact ha)).1; omega)
   have HE := hid (show Lx.lexAll s.data.toList = (pre, none) by rw [HA.out, hend, List.append_nil])
   clear hend
   go_wp2_with fail
   go_ret3
   refine HQ.out _ _ ?_
   unfold Toks18
   rw [HE.out]
   exact ⟨_, rfl, HR.out.own, HR.out.fresh⟩
end Go.Proofs.YtncnoeoicaglaaaGreat

/- The walk of the reference's Spell. -/
namespace Go.Proofs.YtncnoeoicaglaaaGreat
open Go.RowKit
set_option maxHeartbeats 400000 in
theorem rSpell_any (k : Int) (t : ByteArray) (f to_ : Int) (w : World) (hm : t.size ≤ 1000000000) :
  Calls Tryz.prog 9 #[.agg #[.int .i64 k, .string t, .int .i64 f, .int .i64 to_]] w fun e w' => e = .returned (.string ⟨(Lx.spellL k t.data.toList).toArray⟩) ∧ Fresh w w' := by
 by_cases k3 : k = 3
 ·subst k3
  go_enter Tryz.func9, Tryz.ntmps9
  go_wp2_with fail
  refine (rQuoted_any t _ hm).mono ?_
  rintro e1 w1 ⟨rfl, hf⟩
  have HF := hid hf
  clear hf
  go_wp2_with fail
  go_ret
  exact ⟨rfl, HF.out.pre⟩
 have b3 : (k == 3) = false := by simpa using k3
 by_cases k4 : k = 4
 ·subst k4
  clear b3 k3
  go_enter Tryz.func9, Tryz.ntmps9
  go_wp2
  go_ret
  exact ⟨by rw [app_str [92] t]; rfl, (Touch.refl _ w).alloc _⟩
 have b4 : (k == 4) = false := by simpa using k4
 by_cases k5 : k = 5
 ·subst k5
  clear b3 k3 b4 k4
  go_enter Tryz.func9, Tryz.ntmps9
  go_wp2
  go_ret
  exact ⟨by rw [app_str [92, 102, 101, 110, 99, 101] t]; rfl, (Touch.refl _ w).alloc _⟩
 have b5 : (k == 5) = false := by simpa using k5
 by_cases k6 : k = 6
 ·subst k6
  clear b3 k3 b4 k4 b5 k5
  go_enter Tryz.func9, Tryz.ntmps9
  go_wp2
  go_ret
  exact ⟨by rw [app_str [35] t]; rfl, (Touch.refl _ w).alloc _⟩
 have b6 : (k == 6) = false := by simpa using k6
 have hsp : Lx.spellL k t.data.toList = t.data.toList := by unfold Lx.spellL; rw [if_neg k3, if_neg k4, if_neg k5, if_neg k6]
 have HSP := hid hsp
 clear hsp k3 k4 k5 k6
 go_enter Tryz.func9, Tryz.ntmps9
 go_wp2
 go_ret
 exact ⟨by rw [HSP.out]; rfl, (Touch.refl _ w).alloc _⟩
end Go.Proofs.YtncnoeoicaglaaaGreat
