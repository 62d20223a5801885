/- Part 7 of 12 of a proof; its texts, joined: NqD, NqE, NqF, RegF, NqG, NqK, NqH, NqI. No condition. -/
import Derived.Test.YtdacpbdamliafaaGreatUa6
import Derived.ArgAppend

/- The parser's names: a map of methods; no macros. -/
namespace Go.Proofs.YtdacpbdamliafaaGreat
open Go.RowKit
open Tr (Nd)
open Lx (PTok)
def namedL : List (List UInt8 × FuncId) := [(Tr.sFrac, 107), (Tr.sRoot, 108), (Tr.sMatrix, 109), ([104, 97, 116], 110), ([98, 97, 114], 110), ([118, 101, 99], 110), ([100, 111, 116], 110), ([116, 105, 108, 100, 101], 110), ([99, 104, 101, 99, 107], 110)]
def methodV (g : Nat) (f : FuncId) : Value := .func (.func f) #[.pointer (some ⟨g, 0, none⟩)] #[]
def namedF (s : List UInt8) : Option FuncId := (namedL.find? fun x => x.1 == s).map (·.2)
def namedEs (g : Nat) : List MapEntry := namedL.zipIdx.map fun x => ⟨.string ⟨x.1.1.toArray⟩, methodV g x.1.2, x.2⟩
theorem findNow_str (s : List UInt8) : ∀ (l : List ((List UInt8 × Value) × Nat)) (i : Nat), ∃ j, Instr.findNow .string (.string ⟨s.toArray⟩) (l.map fun x => ⟨.string ⟨x.1.1.toArray⟩, x.1.2, x.2⟩) i = some ((l.find? fun x => x.1.1 == s).map fun x => (j, x.1.2))
 | [], i => ⟨0, rfl⟩
 | x :: l, i => by
  rw [List.map_cons, Instr.findNow, List.find?_cons]
  have hs : Instr.sameNow .string (.string ⟨s.toArray⟩) (.string ⟨x.1.1.toArray⟩) = some (x.1.1 == s) := by
   show some ((⟨s.toArray⟩ : ByteArray) == (⟨x.1.1.toArray⟩ : ByteArray)) = _
   rw [str_eq']
   congr 1
   by_cases h : s = x.1.1
   ·rw [h]
   ·rw [beq_eq_false_iff_ne.2 h, beq_eq_false_iff_ne.2 (fun e => h e.symm)]
  simp only [hs]
  cases h : (x.1.1 == s) with
  | true => exact ⟨i, rfl⟩
  | false => exact findNow_str s l (i + 1)
theorem findNow_named (g : Nat) (s : List UInt8) : ∃ j, Instr.findNow .string (.string ⟨s.toArray⟩) (namedEs g) 0 = some ((namedF s).map fun f => (j, methodV g f)) := by
 have h := findNow_str s (namedL.zipIdx.map fun x => ((x.1.1, methodV g x.1.2), x.2)) 0
 obtain ⟨j, h⟩ := h
 refine ⟨j, ?_⟩
 have e : (namedL.zipIdx.map fun x => ((x.1.1, methodV g x.1.2), x.2)).map (fun x => (⟨.string ⟨x.1.1.toArray⟩, x.1.2, x.2⟩ : MapEntry)) = namedEs g := by rw [List.map_map]; rfl
 rw [e] at h
 rw [h]
 congr 1
 unfold namedF
 rw [List.find?_map]
 simp only [Option.map_map]
 have e2 : ∀ (l : List (List UInt8 × FuncId)) (n : Nat), ((l.zipIdx n).find? fun x => x.1.1 == s).map (fun x => (j, methodV g x.1.2)) = (l.find? fun x => x.1 == s).map fun x => (j, methodV g x.2) := by
  intro l
  induction l with
  | nil => intro n; rfl
  | cons y l ih =>
   intro n
   rw [List.zipIdx_cons, List.find?_cons, List.find?_cons]
   cases hy : (y.1 == s) with
   | true => rfl
   | false => exact ih (n + 1)
 exact e2 namedL 0
theorem zero_method (w : World) : (zeroValue 127).run Tryz.prog w = .ok .nilFunc w := by
 have := Tryz.zeroValue127 w
 exact this
theorem check_str (e : Bool) (s : ByteArray) (w : World) : (Instr.checkKey e 10000 9 (.string s)).run Tryz.prog w = .ok () w := by
 rw [show (10000 : Nat) = 9999 + 1 from rfl]
 unfold Instr.checkKey
 simp [run_underlying Tryz.underlying9]
theorem findKey_named (g : Nat) (s : List UInt8) (w : World) : ∃ j, (Instr.findKey 9 (.string ⟨s.toArray⟩) (namedEs g)).run Tryz.prog w = .ok ((namedF s).map fun f => (j, methodV g f)) w := by
 obtain ⟨j, hj⟩ := findNow_named g s
 refine ⟨j, ?_⟩
 unfold Instr.findKey
 simp [run_underlying Tryz.underlying9, hj]
theorem run_named {w : World} {bm g clock : Nat} (hb : w.heap[bm]? = some (.map (namedEs g).toArray clock)) (s : List UInt8) (ok : Bool) :
  (Instr.lookup 128 (.map (some bm)) (.string ⟨s.toArray⟩) ok).run Tryz.prog w = .ok (match namedF s with
   | some f => if ok then .tuple #[methodV g f, .bool true] else methodV g f
   | none => if ok then .tuple #[.nilFunc, .bool false] else .nilFunc) w := by
 obtain ⟨j, hj⟩ := findKey_named g s w
 have hg : (getObj bm).run Tryz.prog w = .ok (.map (namedEs g).toArray clock) w := by simp [getObj, Sem.run, hb]
 have hc := check_str
 have hz := zero_method w
 unfold Instr.lookup
 cases hf : namedF s with
 | none =>
  rw [hf] at hj
  cases ok <;> simp [run_underlying Tryz.underlying128, hg, hc, hj, hz]
 | some f =>
  rw [hf] at hj
  cases ok <;> simp [run_underlying Tryz.underlying128, hg, hc, hj]
def Cf.Named (c : Cf) (bm : Nat) : Prop := c.mv = .map (some bm) ∧ c.W0.heap[bm]? = some (.map (namedEs c.g).toArray 9) ∧ bm ≠ c.g
theorem Cf.Named.at {c : Cf} {bm : Nat} (h : c.Named bm) {k : Nat} {op : List Nat} {w : World} (hp : Ps c k op w) : w.heap[bm]? = some (.map (namedEs c.g).toArray 9) :=
 (hp.low.block bm (Array.getElem?_eq_some_iff.1 h.2.1).1 h.2.2).trans h.2.1
theorem namedF_eq (s : List UInt8) : namedF s = if s = Tr.sFrac then some 107 else if s = Tr.sRoot then some 108 else if s = Tr.sMatrix then some 109 else if Np.accented s = true then some 110 else none := by
 by_cases h1 : s = Tr.sFrac
 ·subst h1; rfl
 ·by_cases h2 : s = Tr.sRoot
  ·subst h2; rfl
  ·by_cases h3 : s = Tr.sMatrix
   ·subst h3; rfl
   ·rw [if_neg h1, if_neg h2, if_neg h3]
    have b1 : (Tr.sFrac == s) = false := by simpa using fun e => h1 e.symm
    have b2 : (Tr.sRoot == s) = false := by simpa using fun e => h2 e.symm
    have b3 : (Tr.sMatrix == s) = false := by simpa using fun e => h3 e.symm
    unfold namedF namedL Np.accented Tr.accents
    simp only [List.find?_cons, b1, b2, b3, List.contains_cons, List.find?_nil, List.contains_nil]
    have hc : ∀ x : List UInt8, (x == s) = (s == x) := fun x => by
     by_cases e : x = s
     ·subst e; simp
     ·rw [beq_eq_false_iff_ne.2 e, beq_eq_false_iff_ne.2 (fun h => e h.symm)]
    simp only [hc]
    cases (s == ([104, 97, 116] : List UInt8)) <;> cases (s == ([98, 97, 114] : List UInt8)) <;> cases (s == ([118, 101, 99] : List UInt8)) <;> cases (s == ([100, 111, 116] : List UInt8)) <;> cases (s == ([116, 105, 108, 100, 101] : List UInt8)) <;> cases (s == ([99, 104, 101, 99, 107] : List UInt8)) <;> rfl
theorem namedF_special (s : List UInt8) : namedF s = none ↔ Np.special s = false := by
 rw [namedF_eq]
 unfold Np.special
 by_cases h1 : s = Tr.sFrac
 ·rw [if_pos h1]
  exact ⟨fun h => (by cases h), fun h => by rw [h1] at h; revert h; decide⟩
 ·by_cases h2 : s = Tr.sRoot
  ·rw [if_neg h1, if_pos h2]
   exact ⟨fun h => (by cases h), fun h => by rw [h2] at h; revert h; decide⟩
  ·by_cases h3 : s = Tr.sMatrix
   ·rw [if_neg h1, if_neg h2, if_pos h3]
    exact ⟨fun h => (by cases h), fun h => by rw [h3] at h; revert h; decide⟩
   ·have b1 : (s == Tr.sFrac) = false := by simpa using h1
    have b2 : (s == Tr.sRoot) = false := by simpa using h2
    have b3 : (s == Tr.sMatrix) = false := by simpa using h3
    rw [if_neg h1, if_neg h2, if_neg h3, b1, b2, b3]
    cases Np.accented s <;> simp
set_option maxRecDepth 100000 in
set_option maxHeartbeats 400000 in
theorem get_nil (s : ByteArray) (w : World) : Calls Tryz.prog 198 #[.pointer none, .string s] w fun e w' => e = .returned (.tuple #[.int .i64 0, .agg #[.int .i64 0, .string ⟨#[]⟩, .int .i64 0, .slice none 0 0], .bool false]) ∧ Fresh w w' := by
 go_enter Tryz.func198, Tryz.ntmps198
 go_wp2_with fail
 (try simp only [Exit.inBlock, Exit.then])
 obtain ⟨p0, p1, p2, p3, _⟩ := Blk.four (Blk.new w 24 #[.int .i64 0, .string ⟨#[]⟩, .int .i64 0, .slice none 0 0])
 refine bodyPost_ret (v := .tuple #[.int .i64 0, .agg #[.int .i64 0, .string ⟨#[]⟩, .int .i64 0, .slice none 0 0], .bool false]) (by simp [results, Tryz.results198, go_sem, p0, p1, p2, p3]) rfl ?_
 exact ⟨rfl, (Touch.refl _ _).alloc _⟩
set_option maxRecDepth 100000 in
set_option maxHeartbeats 400000 in
theorem macro_any_n (c : Cf) (k : Nat) (op : List Nat) (s : ByteArray) (w : World) (h : Ps c k op w) :
  Calls Tryz.prog 192 #[pp0 c, .string s] w fun e w' => e = .returned (.tuple #[.int .i64 0, .bool false]) ∧ Fresh w w' := by
 obtain ⟨ov, hb, _⟩ := h.box
 have q4 := hb.cell 4
 have hgw := hb.lt
 clear hb
 unfold pp0
 go_enter Tryz.func192, Tryz.ntmps192
 go_wp2_with fail
 refine (get_nil s _).mono ?_
 rintro _ w1 ⟨rfl, hf⟩
 have HF := hid hf
 clear hf q4
 go_wp2_with fail
 go_ret2
 exact ⟨rfl, HF.out.alloc _⟩
end Go.Proofs.YtdacpbdamliafaaGreat

/- The parser's simple. -/
namespace Go.Proofs.YtdacpbdamliafaaGreat
open Go.RowKit
open Tr (Nd)
open Lx (PTok)
attribute [local go_sem] stillV stillUpon
def leafO : List PTok → Option Nd
 | [] => none
 | t :: _ => Np.leafOf t
def SimpleE (c : Cf) (k : Nat) (op : List Nat) (w : World) (e : Ending) (w' : World) : Prop :=
 (∃ x b, leafO (c.T.drop k) = some x ∧ e = .returned (.tuple #[.slice (some ⟨b, 0, none⟩) 1 1, .bool true]) ∧ TreT w.heap.size w' [x] (.slice (some ⟨b, 0, none⟩) 1 1) ∧ Ps c (k + 1) op w' ∧ Mp c.g c.W0.heap.size w w') ∨
 (leafO (c.T.drop k) = none ∧ e = .returned (.tuple #[.slice none 0 0, .bool false]) ∧ Fresh w w')
theorem kind_is (n m : Nat) (h : n = m) : ((n : Int) == (m : Int)) = true := by rw [h]; simp
theorem kind_no (n m : Nat) (h : n ≠ m) : ((n : Int) == (m : Int)) = false := by rw [beq_eq_false_iff_ne]; omega
set_option maxRecDepth 100000 in
set_option maxHeartbeats 400000 in
theorem simple_any_n (c : Cf) (hc : c.Good) (k : Nat) (op : List Nat) (w : World) (h : Ps c k op w) :
  Calls Tryz.prog 181 #[pp0 c] w (SimpleE c k op w) := by
 have HT := hid (fun (w' : World) (hf : Fresh w w') => tok_any_n c hc k op w' (h.fresh hf))
 have HS := hid (fun (w' : World) (hf : Fresh w w') (kd : Int) (tx : List UInt8) (hk : k < c.T.length) (htx : tx.length ≤ maxLen) => single_any_n c hc k op kd tx w' (h.fresh hf) hk htx)
 have HTX := hid hc.txt
 have HPA := hid hc.par
 obtain ⟨ov, hb, _⟩ := h.box
 have HB := hid hb
 unfold SimpleE
 have H := hid h
 clear h hb hc
 cases hl : c.T.drop k with
 | nil =>
  rw [hl] at HT
  unfold tokV at HT
  clear hl
  go_enter Tryz.func181, Tryz.ntmps181
  go_wp2_with fail
  refine (HT.out _ (Touch.refl _ _)).mono ?_
  rintro _ w1 ⟨rfl, hf⟩
  have HF := hid hf
  clear hf
  go_wp2_with fail
  go_quiet (fail)
  go_wp2_with fail
  go_ret2
  exact .inr ⟨rfl, rfl, HF.out.alloc _ |>.drewN _⟩
 | cons t r =>
  rw [hl] at HT
  unfold tokV at HT
  have hk : k < c.T.length := by
   rcases Nat.lt_or_ge k c.T.length with h | h
   ·exact h
   ·rw [List.drop_eq_nil_of_le h] at hl; cases hl
  have hmem : t ∈ c.T := List.mem_of_mem_drop (i := k) (by rw [hl]; simp)
  have HK := hid hk
  have HX := hid (HTX.out t hmem)
  have HP := hid (HPA.out t hmem)
  clear hmem HTX HPA hl hk
  go_enter Tryz.func181, Tryz.ntmps181
  go_wp2_with fail
  refine (HT.out _ (Touch.refl _ _)).mono ?_
  rintro _ w1 ⟨rfl, hf⟩
  have HF := hid hf
  have HSZ := hid (show w.heap.size ≤ (w1.alloc (.cells #[.int .i64 t.kind, .string ⟨t.text.toArray⟩, .int .i64 (t.from_ : Int), .int .i64 (t.to_ : Int)] 150)).heap.size from (hf.alloc _).size)
  clear hf
  by_cases h1 : t.kind = 1
  ·have e1 := kind_is _ 1 h1
   have HL := hid (show leafO (t :: r) = some (.mk 2 t.text 0 []) from by show Np.leafOf t = _; unfold Np.leafOf; rw [if_pos h1])
   clear  h1
   go_wp2_with fail
   refine (HS.out _ (HF.out.alloc _) 2 t.text HK.out HX.out).mono ?_
   rintro _ w2 ⟨b, rfl, htr, hp, hm⟩
   have HTR := hid htr
   have HP2 := hid hp
   have HM2 := hid ((Mp.fresh (HF.out.alloc _)).trans hm)
   clear htr hp hm
   unfold failV
   go_wp2_with fail
   go_ret2
   exact .inl ⟨_, b, HL.out, rfl, HTR.out.base HSZ.out, HP2.out, HM2.out⟩
  ·by_cases h2 : t.kind = 2
   ·have e1 := kind_no _ 1 h1
    have e2 := kind_is _ 2 h2
    have HL := hid (show leafO (t :: r) = some (.mk 3 t.text 0 []) from by show Np.leafOf t = _; unfold Np.leafOf; rw [if_neg h1, if_pos h2])
    clear h1 h2
    go_wp2_with fail
    refine (HS.out _ (HF.out.alloc _) 3 t.text HK.out HX.out).mono ?_
    rintro _ w2 ⟨b, rfl, htr, hp, hm⟩
    have HTR := hid htr
    have HP2 := hid hp
    have HM2 := hid ((Mp.fresh (HF.out.alloc _)).trans hm)
    clear htr hp hm
    unfold failV
    go_wp2_with fail
    go_ret2
    exact .inl ⟨_, b, HL.out, rfl, HTR.out.base HSZ.out, HP2.out, HM2.out⟩
   ·by_cases h3 : t.kind = 3
    ·have e1 := kind_no _ 1 h1
     have e2 := kind_no _ 2 h2
     have e3 := kind_is _ 3 h3
     have HL := hid (show leafO (t :: r) = some (.mk 4 t.text 0 []) from by show Np.leafOf t = _; unfold Np.leafOf; rw [if_neg h1, if_neg h2, if_pos h3])
     clear h1 h2 h3
     go_wp2_with fail
     refine (HS.out _ (HF.out.alloc _) 4 t.text HK.out HX.out).mono ?_
     rintro _ w2 ⟨b, rfl, htr, hp, hm⟩
     have HTR := hid htr
     have HP2 := hid hp
     have HM2 := hid ((Mp.fresh (HF.out.alloc _)).trans hm)
     clear htr hp hm
     unfold failV
     go_wp2_with fail
     go_ret2
     exact .inl ⟨_, b, HL.out, rfl, HTR.out.base HSZ.out, HP2.out, HM2.out⟩
    ·have HL := hid (show leafO (t :: r) = none from by show Np.leafOf t = _; unfold Np.leafOf; rw [if_neg h1, if_neg h2, if_neg h3])
     have e1 := kind_no _ 1 h1
     have e2 := kind_no _ 2 h2
     have e3 := kind_no _ 3 h3
     clear h1 h2 h3
     have HPS := hid (H.out.fresh (HF.out.alloc (.cells #[.int .i64 t.kind, .string ⟨t.text.toArray⟩, .int .i64 (t.from_ : Int), .int .i64 (t.to_ : Int)] 150)))
     go_wp2_with fail
     have hf2 := HF.out.alloc (.cells #[.int .i64 t.kind, .string ⟨t.text.toArray⟩, .int .i64 (t.from_ : Int), .int .i64 (t.to_ : Int)] 150)
     have hb2 : Blk (w1.alloc (.cells #[.int .i64 t.kind, .string ⟨t.text.toArray⟩, .int .i64 (t.from_ : Int), .int .i64 (t.to_ : Int)] 150)) w1.heap.size 150 #[.int .i64 t.kind, .string ⟨t.text.toArray⟩, .int .i64 (t.from_ : Int), .int .i64 (t.to_ : Int)] := Blk.new _ _ _
     generalize (w1.alloc (.cells #[.int .i64 t.kind, .string ⟨t.text.toArray⟩, .int .i64 (t.from_ : Int), .int .i64 (t.to_ : Int)] 150)) = W2 at HPS hf2 hb2 ⊢
     have HF2 := hid hf2
     obtain ⟨p0, p1, p2, p3, _, _, _, _, hlt⟩ := Blk.four hb2
     have r0 := cell_regrown p0
     have r1 := cell_regrown p1
     obtain ⟨ov2, hbx, _⟩ := HPS.out.box
     have r5 := cell_regrown ((hbx.cell 5).trans rfl)
     have hgx := hbx.lt
     clear hf2 hb2 p0 p1 p2 p3 hbx
     by_cases h6 : t.kind = 6
     ·obtain ⟨b, hb, hb1, hb2⟩ := HP.out h6
      rw [h6, show ((6 : Nat) : Int) = 6 from rfl] at r0
      clear h6
      rw [hb] at r1
      unfold pp0
      refine wp_region_mix [] [(0, true), (1, true), (2, true), (3, true), (4, true), (5, true), (6, true), (7, true), (8, true), (9, true), (10, true), (11, true), (12, true), (13, true), (14, true), (15, true)] (by kernel_rfl) (fun _ _ d _ _ h => by cases d <;> exact h) (by kernel_rfl) ?_
      refine wpMix_last ?_
      have hbn : b.toNat = (b.toNat - 48) + 48 := by
       have : 49 ≤ b.toNat := UInt8.le_iff_toNat_le.1 hb1
       omega
      have hbr : 49 ≤ b.toNat ∧ b.toNat ≤ 57 := ⟨UInt8.le_iff_toNat_le.1 hb1, UInt8.le_iff_toNat_le.1 hb2⟩
      obtain ⟨m, hm, hm2⟩ : ∃ m, b.toNat = m + 48 ∧ 1 ≤ m ∧ m ≤ 9 := ⟨b.toNat - 48, by omega, by omega, by omega⟩
      have e1' : ((b.toNat : Nat) : Int) - 48 = (m : Int) := by omega
      have w1' : IntKind.u8.wrap (m : Int) = (m : Int) := by
       exact IntWalk.u8_in _ (by omega)
      have hwr : decide (IntKind.i64.wrap (IntKind.u8.wrap ((b.toNat : Int) - 48)) ≤ 0) = false := by
       rw [e1', w1', IntWalk.i64_in _ (by omega)]
       simp
       omega
      have hwr' : ¬ (IntKind.i64.wrap (IntKind.u8.wrap ((b.toNat : Int) - 48)) ≤ 0) := by
       rw [e1', w1', IntWalk.i64_in _ (by omega)]
       omega
      clear e1' w1'
      clear hbn hbr
      repeat (refine wpSeq_plain rfl (fun K hK => ?_); go_simp; refine hK _ ?_; clear hK K)
      refine wpSeq_end ?_
      go_wp2_with fail
      go_ret2
      exact .inr ⟨HL.out, rfl, HF2.out.drewN _⟩
     ·have e6 : ¬ ((t.kind : Int) = 6) := by omega
      clear h6
      refine wp_region_mix [] [(0, true), (1, true), (2, true), (3, true), (4, true), (5, true), (6, true), (7, true), (8, true), (9, true), (10, true), (11, true), (12, true), (13, true), (14, true), (15, true)] (by kernel_rfl) (fun _ _ d _ _ h => by cases d <;> exact h) (by kernel_rfl) ?_
      refine wpMix_last ?_
      repeat (refine wpSeq_plain rfl (fun K hK => ?_); go_simp; refine hK _ ?_; clear hK K)
      refine wpSeq_end ?_
      go_wp2_with fail
      go_ret2
      exact .inr ⟨HL.out, rfl, HF2.out.drewN _⟩
end Go.Proofs.YtdacpbdamliafaaGreat

/- How the parser's methods end; enclosed and script. -/
namespace Go.Proofs.YtdacpbdamliafaaGreat
open Go.RowKit
open Tr (Nd)
open Lx (PTok)
open Np (R pRow pIn pScript pItem pPrim pArgs pName pCells pArg)
attribute [local go_sem] stillV stillUpon
def ItemsE (c : Cf) (k : Nat) (op : List Nat) (r : R (List Nd)) (w : World) (e : Ending) (w' : World) : Prop :=
 match r with
 | .ok items rest => ∃ A cp k', e = .returned (.tuple #[.slice A items.length cp, failV 0 0]) ∧ TreT w.heap.size w' items (.slice A items.length cp) ∧ c.T.drop k' = rest ∧ k ≤ k' ∧ Ps c k' op w' ∧ Mp c.g c.W0.heap.size w w'
 | .err i er => er ≠ 0 ∧ ∃ A n cp, e = .returned (.tuple #[.slice A n cp, failV i er]) ∧ Mp c.g c.W0.heap.size w w'
 | .out => True
def nodeV (n : Nd) (A : Option Addr) (cp : Nat) : Value := .agg #[.int .i64 n.kind, .string ⟨n.text.toArray⟩, .int .i64 n.cols, .slice A n.kids.length cp]
def NodeE (c : Cf) (k : Nat) (op : List Nat) (r : R Nd) (w : World) (e : Ending) (w' : World) : Prop :=
 match r with
 | .ok a rest => ∃ A cp k', e = .returned (.tuple #[nodeV a A cp, failV 0 0]) ∧ TreT w.heap.size w' a.kids (.slice A a.kids.length cp) ∧ a.text.length ≤ maxLen ∧ c.T.drop k' = rest ∧ k ≤ k' ∧ Ps c k' op w' ∧ Mp c.g c.W0.heap.size w w'
 | .err i er => er ≠ 0 ∧ ∃ n A cp, e = .returned (.tuple #[nodeV n A cp, failV i er]) ∧ Mp c.g c.W0.heap.size w w'
 | .out => True
def ScriptE (c : Cf) (k : Nat) (op : List Nat) (r : R (Option Nd)) (w : World) (e : Ending) (w' : World) : Prop :=
 match r with
 | .ok none rest => ∃ k', e = .returned (.tuple #[.agg #[.int .i64 0, .string ⟨#[]⟩, .int .i64 0, .slice none 0 0], .bool false, failV 0 0]) ∧ c.T.drop k' = rest ∧ k ≤ k' ∧ Ps c k' op w' ∧ Mp c.g c.W0.heap.size w w'
 | .ok (some a) rest => ∃ A cp k', e = .returned (.tuple #[nodeV a A cp, .bool true, failV 0 0]) ∧ TreT w.heap.size w' a.kids (.slice A a.kids.length cp) ∧ a.text.length ≤ maxLen ∧ c.T.drop k' = rest ∧ k ≤ k' ∧ Ps c k' op w' ∧ Mp c.g c.W0.heap.size w w'
 | .err i er => er ≠ 0 ∧ ∃ n A cp, e = .returned (.tuple #[nodeV n A cp, .bool true, failV i er]) ∧ Mp c.g c.W0.heap.size w w'
 | .out => True
theorem isM_lt {c : Cf} {k : Nat} {b : UInt8} (h : Np.isM b (c.T.drop k) = true) : k < c.T.length := by
 rcases Nat.lt_or_ge k c.T.length with h1 | h1
 ·exact h1
 ·rw [List.drop_eq_nil_of_le h1] at h; cases h
theorem drop_lt {c : Cf} {k : Nat} (h : c.T.drop k ≠ []) : k < c.T.length := by
 rcases Nat.lt_or_ge k c.T.length with h1 | h1
 ·exact h1
 ·rw [List.drop_eq_nil_of_le h1] at h; exact absurd rfl h
def RowN (c : Cf) (f : Nat) : Prop := ∀ (k : Nat) (op : List Nat) (w : World), Ps c k op w → op.length ≤ k → pRow c.en f op (c.T.drop k) ≠ .out → Calls Tryz.prog 81 #[pp0 c] w (ItemsE c k op (pRow c.en f op (c.T.drop k)) w)
def EnclosedN (c : Cf) (f : Nat) : Prop := ∀ (k : Nat) (op : List Nat) (b : UInt8) (w : World), Ps c k op w → op.length ≤ k → k < c.T.length → pIn c.en f b op (c.T.drop k) ≠ .out → Calls Tryz.prog 151 #[pp0 c, .string ⟨#[b]⟩] w (ItemsE c k op (pIn c.en f b op (c.T.drop k)) w)
def ArgumentN (c : Cf) (f : Nat) : Prop := ∀ (k : Nat) (op : List Nat) (w : World), Ps c k op w → op.length ≤ k → pArg c.en f op (c.T.drop k) ≠ .out → Calls Tryz.prog 180 #[pp0 c] w (NodeE c k op (pArg c.en f op (c.T.drop k)) w)
def ScriptN (c : Cf) (f : Nat) : Prop := ∀ (k : Nat) (op : List Nat) (b : UInt8) (w : World), Ps c k op w → op.length ≤ k → pScript c.en f b op (c.T.drop k) ≠ .out → Calls Tryz.prog 155 #[pp0 c, .string ⟨#[b]⟩] w (ScriptE c k op (pScript c.en f b op (c.T.drop k)) w)
theorem Mp.two {g B : Nat} {a b : World} {k : Nat} {t : TypeId} {x y : Value} (h : Mp g B a b) (hb : Blk a k t #[x, y]) (hk : k ≠ g) (ht : t ≠ 3) : Blk b k t #[x, y] := h.blk hb hk ht
theorem TreT.mp {B : Nat} {c : Cf} {k : Nat} {op : List Nat} {w w' : World} {ks : List Nd} {v : Value} (h : TreT B w ks v) (hm : Mp c.g c.W0.heap.size w w') (hp : Ps c k op w) : TreT B w' ks v := by
 obtain ⟨ov, hb, _⟩ := hp.box
 refine h.mv hm fun b cs fr hs _ e => ?_
 rcases hs with rfl | ⟨_, cs', fr', h3⟩
 ·unfold Blk at hb
  rw [hb] at e
  cases e
 ·rw [h3] at e
  cases e
def put2 (w : World) (g : Nat) (x0 x1 : Value) : World := (w.setCell ⟨g, 0, none⟩ x0).setCell ⟨g, 1, none⟩ x1
theorem Blk.self2 {w : World} {g : Nat} {t : TypeId} {a b : Value} (h : Blk w g t #[a, b]) (x0 x1 : Value) : Blk (put2 w g x0 x1) g t #[x0, x1] := (h.put 0 x0).put 1 x1
theorem Blk.self4 {w : World} {g : Nat} {t : TypeId} {a b c d : Value} (h : Blk w g t #[a, b, c, d]) (x0 x1 x2 x3 : Value) : Blk (put4 w g x0 x1 x2 x3) g t #[x0, x1, x2, x3] := (((h.put 0 x0).put 1 x1).put 2 x2).put 3 x3
theorem Blk.far2 {w : World} {L g : Nat} {t : TypeId} {cs : Array Value} (h : Blk w L t cs) (hne : L ≠ g) (x0 x1 : Value) : Blk (put2 w g x0 x1) L t cs := (h.far (p := ⟨g, 0, none⟩) hne _).far (p := ⟨g, 1, none⟩) hne _
theorem Touch.put2 {S : Nat → Prop} {w w' : World} {g : Nat} (h : Touch S w w') (hg : S g ∨ w.heap.size ≤ g) (x0 x1 : Value) : Touch S w (put2 w' g x0 x1) := (h.setCell (p := ⟨g, 0, none⟩) hg _).setCell (p := ⟨g, 1, none⟩) hg _
theorem Ps.put2 {c : Cf} {k : Nat} {op : List Nat} {w : World} (h : Ps c k op w) {b : Nat} {t : TypeId} {y0 y1 : Value} (hb : Blk w b t #[y0, y1]) (ht : t ≠ 3) (hne : b ≠ c.g) (hB : c.W0.heap.size ≤ b) (x0 x1 : Value) : Ps c k op (put2 w b x0 x1) :=
 (h.put hb ht hne hB 0 x0).put (hb.put 0 x0) ht hne hB 1 x1
theorem Ps.put4 {c : Cf} {k : Nat} {op : List Nat} {w : World} (h : Ps c k op w) {b : Nat} {t : TypeId} {y0 y1 y2 y3 : Value} (hb : Blk w b t #[y0, y1, y2, y3]) (ht : t ≠ 3) (hne : b ≠ c.g) (hB : c.W0.heap.size ≤ b) (x0 x1 x2 x3 : Value) : Ps c k op (put4 w b x0 x1 x2 x3) :=
 (((h.put hb ht hne hB 0 x0).put (hb.put 0 x0) ht hne hB 1 x1).put ((hb.put 0 x0).put 1 x1) ht hne hB 2 x2).put (((hb.put 0 x0).put 1 x1).put 2 x2) ht hne hB 3 x3
theorem touch2 (w : World) (b : Nat) (x0 x1 : Value) : Touch (fun k => k = b) w (put2 w b x0 x1) := (Touch.refl (fun k => k = b) w).put2 (.inl rfl) x0 x1
theorem touch4 (w : World) (b : Nat) (x0 x1 x2 x3 : Value) : Touch (fun k => k = b) w (put4 w b x0 x1 x2 x3) := (Touch.refl (fun k => k = b) w).put4 (.inl rfl) x0 x1 x2 x3
theorem TreT.far {B : Nat} {w w' : World} {b : Nat} {ks : List Nd} {v : Value} (h : TreT B w ks v) (ht : Touch (fun k => k = b) w w') (hb : b < B) : TreT B w' ks v := h.mv ht fun k _ _ hk hB => by omega
theorem TreT.other {B : Nat} {w w' : World} {b : Nat} {t : TypeId} {cs : Array Value} {ks : List Nd} {v : Value} (h : TreT B w ks v) (hb : Blk w b t cs) (ht : t ≠ 24) (hw : Touch (fun k => k = b) w w') : TreT B w' ks v :=
 h.mv hw fun k cs' fr hk _ e => by
  subst hk
  unfold Blk at hb
  rw [hb] at e
  cases e
  exact ht rfl
theorem Calls.via {P : Program} {f : FuncId} {args : Array Value} {w : World} {R : Ending → World → Prop} (h : ∀ Q : Ending → World → Prop, (∀ e w', R e w' → Q e w') → Calls P f args w Q) : Calls P f args w R := h R fun _ _ h => h
theorem fail_ne {e : Nat} (h : e ≠ 0) : ((e : Int) == (0 : Int)) = false := by rw [beq_eq_false_iff_ne]; omega
set_option maxRecDepth 100000 in
set_option maxHeartbeats 400000 in
theorem enclosed_n (c : Cf) (hc : c.Good) (f : Nat) (hrow : RowN c f) : EnclosedN c (f + 1) := by
 intro k op b w h hop hk hne
 have htl := hc.tl
 have HBE := hid (fun (w' : World) (hf : Fresh w w') => begin_any_n c hc k op w' (h.fresh hf) hk (by omega))
 have HR := hid hrow
 have HF := hid (fun (k' : Nat) (w' : World) (h : Ps c k' (op ++ [Np.place c.en (c.T.drop k)]) w') (hk : k' < c.T.length ∨ Np.isM b (c.T.drop k') = false) => finish_any_n c hc k' op _ b w' h hk)
 have H := hid h
 have HOP := hid hop
 have hgl : c.g < w.heap.size := h.glt
 have HW0 := hid h.low.size
 have hr : pIn c.en (f + 1) b op (c.T.drop k) = (pRow c.en f (op ++ [Np.place c.en (c.T.drop k)]) (c.T.drop (k + 1))).bind fun items r => if Np.isM b r then .ok items r.tail else Np.refuse c.en r := by
  rw [pIn, List.tail_drop]
 rw [hr] at hne ⊢
 generalize Np.place c.en (c.T.drop k) = pl at *
 have HNE := hid hne
 refine Calls.via fun Q hQ => ?_
 have HQ := hid hQ
 clear hne hr hrow h hop hc hQ
 go_enter Tryz.func151, Tryz.ntmps151
 go_wp2_with fail
 refine (HBE.out _ ((Touch.refl _ _).alloc _)).mono ?_
 rintro _ w1 ⟨rfl, hp1, hm1⟩
 have HP1 := hid hp1
 have HM1 := hid ((Mp.fresh ((Touch.refl _ w).alloc _)).trans hm1)
 have HB1 := hid (hm1.blk (Blk.new w 88 #[.int .i64 0, .int .i64 0]) (by omega) (by decide))
 clear hp1 hm1
 go_wp2_with fail
 refine (HR.out (k + 1) (op ++ [pl]) _ HP1.out (by have := HOP.out; simp; omega) (fun h => HNE.out (by rw [h]; rfl))).mono ?_
 intro e w2 hres
 generalize pRow c.en f (op ++ [pl]) (c.T.drop (k + 1)) = r at *
 cases r with
 | out => exact absurd rfl HNE.out
 | err i er =>
  obtain ⟨he0, A, n, cp, rfl, hm⟩ := hres
  have HE0 := hid he0
  have e0 := fail_ne he0
  have HM2 := hid (HM1.out.trans hm)
  have HB2 := hid (hm.blk HB1.out (by omega) (by decide))
  clear hm he0
  unfold failV
  go_wp2_with fail
  have hbe : Blk (w2.alloc (.cells #[.int .i64 (i : Int), .int .i64 (er : Int)] 88)) w2.heap.size 88 #[.int .i64 (i : Int), .int .i64 (er : Int)] := Blk.new _ _ _
  have hbr : Blk (w2.alloc (.cells #[.int .i64 (i : Int), .int .i64 (er : Int)] 88)) w.heap.size 88 #[.int .i64 0, .int .i64 0] := HB2.out.alloc _
  have hmr := HM2.out.alloc (.cells #[.int .i64 (i : Int), .int .i64 (er : Int)] 88)
  generalize (w2.alloc (.cells #[.int .i64 (i : Int), .int .i64 (er : Int)] 88)) = W3 at hbe hbr hmr ⊢
  have r0 := cell_regrown (hbe.cell 0 |>.trans rfl)
  have r1 := cell_regrown (hbe.cell 1 |>.trans rfl)
  have hlt3 := hbe.lt
  have HBR := hid hbr
  have HMR := hid hmr
  clear hbe hbr hmr
  refine wp_region_mix [([(0, true), (1, true)], 2)] [] (by kernel_rfl) (fun _ _ d _ _ h => by cases d <;> exact h) (by kernel_rfl) ?_
  refine wpMix_seg ?_
  repeat (refine wpSeq_plain rfl (fun K hK => ?_); go_simp; refine hK _ ?_; clear hK K)
  obtain ⟨p0, p1, y0, y1, hlt⟩ := Blk.two (HBR.out.drewN 1)
  refine wpSeq_shut rfl (fun K hK => ?_)
  go_wp2_with fail
  refine wpMix_end ?_
  go_wp2_with fail
  have hb5 : Blk _ (w.heap.size) 88 #[.int .i64 (i : Int), .int .i64 (er : Int)] := ((HBR.out.drewN 1).put 0 (.int .i64 (i : Int))).put 1 (.int .i64 (er : Int))
  have hm5 := ((HMR.out.drewN 1).setCell (p := ⟨w.heap.size, 0, none⟩) (.inr (by show w.heap.size ≤ w.heap.size; omega)) (.int .i64 (i : Int))).setCell (p := ⟨w.heap.size, 1, none⟩) (.inr (by show w.heap.size ≤ w.heap.size; omega)) (.int .i64 (er : Int))
  obtain ⟨f0, f1, _⟩ := Blk.two hb5
  (try simp only [Exit.inBlock, Exit.then])
  refine bodyPost_ret (v := .tuple #[.slice none 0 0, failV i er]) (by simp [failV, results, Tryz.results151, go_sem, f0, f1]) rfl ?_
  exact HQ.out _ _ ⟨HE0.out, none, 0, 0, rfl, hm5⟩
 | ok items rest => 
  obtain ⟨A, cp, k', rfl, htr, hdr, hkk, hp, hm⟩ := hres
  have HTR := hid htr
  have HP2 := hid hp
  have HKK := hid hkk
  have HM2 := hid (HM1.out.trans hm)
  have HB2 := hid (hm.blk HB1.out (by omega) (by decide))
  clear hm hp htr hkk
  unfold failV
  go_wp2_with fail
  have hmb := HM2.out.alloc (.cells #[.int .i64 0, .int .i64 0] 88)
  have hfb : Fresh w2 (w2.alloc (.cells #[.int .i64 0, .int .i64 0] 88)) := (Touch.refl _ _).alloc _
  have hbb : Blk (w2.alloc (.cells #[.int .i64 0, .int .i64 0] 88)) w2.heap.size 88 #[.int .i64 0, .int .i64 0] := Blk.new _ _ _
  generalize (w2.alloc (.cells #[.int .i64 0, .int .i64 0] 88)) = W3 at hmb hfb hbb ⊢
  have HM3 := hid (show Mp c.g c.W0.heap.size w W3 from hmb)
  have HB3 := hid (hfb.blk HB2.out (fun h => h))
  have HE3 := hid hbb
  have HTR3 := hid (HTR.out.fresh hfb)
  have HP3 := hid (HP2.out.fresh hfb)
  have hlt22 := HB2.out.lt
  have hgl2 : c.g < w2.heap.size := HP2.out.glt
  have hnm : k' < c.T.length ∨ Np.isM b (c.T.drop k') = false := by
   cases hm : Np.isM b (c.T.drop k') with
   | true => exact .inl (isM_lt hm)
   | false => exact .inr rfl
  have HNM := hid hnm
  subst hdr
  have HBND := hid (show (Np.R.ok items (c.T.drop k')).bind (fun items r => if Np.isM b r = true then Np.R.ok items r.tail else Np.refuse c.en r) = if Np.isM b (c.T.drop k') = true then .ok items (c.T.drop (k' + 1)) else .err (Np.place c.en (c.T.drop k')) 3 from by
   rw [← List.tail_drop]; rfl)
  rw [HBND.out] at HQ
  clear hmb hfb hbb HNE HTR HB2 HP2 HBND hnm HBE HR
  refine (HF.out k' _ HP3.out HNM.out).mono ?_
  rintro _ w4 (⟨hm, rfl, hp, hmv⟩ | ⟨hm, rfl, hmv⟩)
  ·rw [hm, if_pos rfl] at HQ
   have HP4 := hid hp
   have HM4 := hid (HM3.out.trans hmv)
   have HB4 := hid (hmv.blk HB3.out (by omega) (by decide))
   have hbe := hmv.blk HE3.out (by omega) (by decide)
   have HTR4 := hid (TreT.mp HTR3.out hmv HP3.out)
   have HBE4 := hid hbe
   obtain ⟨p0, p1, y0, y1, hlt⟩ := Blk.two hbe
   obtain ⟨s0, s1, x0, x1, hlt2⟩ := Blk.two HB4.out
   clear hp hmv hbe hm HF
   unfold failV
   go_wp2_with fail
   have z5 := HB4.out.far2 (Nat.ne_of_lt hlt22) (.int .i64 0) (.int .i64 0)
   have hb5 := z5.self2 (.int .i64 0) (.int .i64 0)
   have hps := (HP4.out.put2 HBE4.out (by decide) (by omega) (by have := HW0.out; omega) (.int .i64 0) (.int .i64 0)).put2 z5 (by decide) (by omega) HW0.out (.int .i64 0) (.int .i64 0)
   have hm5 := (HM4.out.put2 (g := w2.heap.size) (.inr (by omega)) (.int .i64 0) (.int .i64 0)).put2 (.inr (Nat.le_refl w.heap.size)) (.int .i64 0) (.int .i64 0)
   have htr5 := (HTR4.out.other HBE4.out (by decide) (touch2 _ _ (.int .i64 0) (.int .i64 0))).other z5 (by decide) (touch2 _ _ (.int .i64 0) (.int .i64 0))
   obtain ⟨f0, f1, _⟩ := Blk.two hb5
   simp only [put2] at f0 f1
   (try simp only [Exit.inBlock, Exit.then])
   refine bodyPost_ret (v := .tuple #[.slice A items.length cp, failV 0 0]) (by simp [failV, results, Tryz.results151, go_sem, f0, f1]) rfl ?_
   exact HQ.out _ _ ⟨A, cp, k' + 1, rfl, htr5.base (by have := HM1.out.size; omega), rfl, by have := HKK.out; omega, hps, hm5⟩
  ·rw [hm, if_neg (by simp)] at HQ
   generalize Np.place c.en (c.T.drop k') = pq at *
   have HM4 := hid (HM3.out.trans hmv)
   have HB4 := hid (hmv.blk HB3.out (by omega) (by decide))
   have hbe := hmv.blk HE3.out (by omega) (by decide)
   have HBE4 := hid hbe
   obtain ⟨p0, p1, y0, y1, hlt⟩ := Blk.two hbe
   clear hmv hbe hm HF HNM
   unfold failV
   go_wp2_with fail
   have hbe : Blk _ w2.heap.size 88 #[.int .i64 (pq : Int),   .int .i64 3] := (HBE4.out.put 0 (.int .i64 (pq : Int))).put 1 (.int .i64 3)
   have hbr : Blk _ w.heap.size 88 #[.int .i64 0, .int .i64 0] := ((HB4.out.far (p := ⟨w2.heap.size, 0, none⟩) (Nat.ne_of_lt hlt22) (.int .i64 (pq : Int))).far (p := ⟨w2.heap.size, 1, none⟩) (Nat.ne_of_lt hlt22) (.int .i64 3))
   have hmr := ((HM4.out.setCell (p := ⟨w2.heap.size, 0, none⟩) (.inr (by show w.heap.size ≤ w2.heap.size; omega)) (.int .i64 (pq : Int))).setCell (p := ⟨w2.heap.size, 1, none⟩) (.inr (by show w.heap.size ≤ w2.heap.size; omega)) (.int .i64 3))
   generalize ((w4.setCell ⟨w2.heap.size, 0, none⟩ (.int .i64 (pq : Int))).setCell ⟨w2.heap.size, 1, none⟩ (.int .i64 3)) = W3 at hbe hbr hmr ⊢
   have r0 := cell_regrown (hbe.cell 0 |>.trans rfl)
   have r1 := cell_regrown (hbe.cell 1 |>.trans rfl)
   have hlt3 := hbe.lt
   have HBR := hid hbr
   have HMR := hid hmr
   clear hbe hbr hmr
   refine wp_region_mix [([(0, true), (1, true)], 2)] [] (by kernel_rfl) (fun _ _ d _ _ h => by cases d <;> exact h) (by kernel_rfl) ?_
   refine wpMix_seg ?_
   repeat (refine wpSeq_plain rfl (fun K hK => ?_); go_simp; refine hK _ ?_; clear hK K)
   obtain ⟨p0, p1, y0, y1, hlt⟩ := Blk.two (HBR.out.drewN 1)
   refine wpSeq_shut rfl (fun K hK => ?_)
   go_wp2_with fail
   refine wpMix_end ?_
   go_wp2_with fail
   have hb5 : Blk _ (w.heap.size) 88 #[.int .i64 (pq : Int), .int .i64 3] := ((HBR.out.drewN 1).put 0 (.int .i64 (pq : Int))).put 1 (.int .i64 3)
   have hm5 := ((HMR.out.drewN 1).setCell (p := ⟨w.heap.size, 0, none⟩) (.inr (by show w.heap.size ≤ w.heap.size; omega)) (.int .i64 (pq : Int))).setCell (p := ⟨w.heap.size, 1, none⟩) (.inr (by show w.heap.size ≤ w.heap.size; omega)) (.int .i64 3)
   obtain ⟨f0, f1, _⟩ := Blk.two hb5
   (try simp only [Exit.inBlock, Exit.then])
   refine bodyPost_ret (v := .tuple #[.slice none 0 0, failV pq 3]) (by simp [failV, results, Tryz.results151, go_sem, f0, f1]) rfl ?_
   exact HQ.out _ _ ⟨by decide, none, 0, 0, rfl, hm5⟩
end Go.Proofs.YtdacpbdamliafaaGreat

/- A law on regions that draw their order: all worlds that occur lie in a class in which the plain operations yield the same. -/
namespace Go.Proofs.YtdacpbdamliafaaGreat
open Go.RowKit
theorem wp_region_in {P : Program} {Q : Exit → Act → World → Prop} {id : Nat} {a : Act} {w : World} {l : List Oper} (C : World → Prop) (last : List (Nat × Bool)) (hm : P.follows .mixedOrders = true) (hQ : ∀ c a d v w, Q (.panic c) (Act.put a d v) w → Q (.panic c) a w)
  (hB : (Region.noSelect l.toArray && decide (last.length = l.toArray.size) && (shutB .any l.toArray (last.map (·.1)) none (Array.replicate l.toArray.size false) && seqB .any l.toArray last (Array.replicate l.toArray.size false) && (Region.ready .any l.toArray (setAll (last.map (·.1)) (Array.replicate l.toArray.size false))).isEmpty)) = true)
  (hC : C (w.drewN 1)) (h : wpSeq P l Q C (fun a' w' => Q .normal a' w') last a (w.drewN 1)) : (Code.region id l.toArray true).wp P Q a w := by
 simp only [Bool.and_eq_true, decide_eq_true_eq, List.isEmpty_iff] at hB
 obtain ⟨⟨hsel, hn⟩, ⟨hs, hl⟩, hr⟩ := hB
 refine wp_region_any hm ?_
 rw [← hn]
 rw [← hn] at hs hl hr
 have inv : Closed .any l.toArray (Array.replicate last.length false) := ⟨by simp [hn], fun j oj _ hl => by rw [getD_repl] at hl; cases hl⟩
 have hz : ZInv .any l.toArray (last.map (·.1)) (Array.replicate last.length false) (Array.replicate last.length false) := ⟨inv, fun _ h => h, fun _ h => .inl h⟩
 have := wpAnyU_seq (P := P) (C := C) (Q := Q) (fin := setAll (last.map (·.1)) (Array.replicate last.length false)) (Lq := fun a' w' => Q .normal a' w') hsel hQ hs (by rw [hr]; simp) last _ a (w.drewN 1) (fun k hk => List.mem_map.2 ⟨k, hk, rfl⟩) hz hl rfl hC h
 exact wpAny_of_U (g := 0) (fun listed' a' w' _ hL => wpAny_done (by rw [hL.1]; exact hr) hL.2 0) last.length _ a _ hC this
end Go.Proofs.YtdacpbdamliafaaGreat

/- The parser's script. -/
namespace Go.Proofs.YtdacpbdamliafaaGreat
open Go.RowKit
open Tr (Nd)
open Lx (PTok)
open Np (R pRow pIn pScript pItem pPrim pArgs pName pCells pArg)
attribute [local go_sem] stillV stillUpon
theorem Ps.mv {c : Cf} {k : Nat} {op : List Nat} {w w' : World} {S : Nat → Prop} (h : Ps c k op w) (ht : Touch S w w') (hS : ∀ b, S b → b ≠ c.g ∧ c.W0.heap.size ≤ b ∧ ∃ t cs, t ≠ 3 ∧ Blk w b t cs) : Ps c k op w' := by
 obtain ⟨ov, hb, ho⟩ := h.box
 refine ⟨h.low.trans' ht fun i hi => .inr (hS i hi).2.1, ⟨ov, ht.blk hb fun hs => (hS _ hs).1 rfl, ownsRow_touch ho ht fun b hb' hs => ?_⟩, h.le⟩
 obtain ⟨_, cur, h2⟩ := owns_type ho hb'
 obtain ⟨t, cs, h3, h4⟩ := (hS b hs).2.2
 unfold Blk at h4
 rw [h4] at h2
 cases h2
 exact h3 rfl
abbrev zeroN : Array Value := #[.int .i64 0, .string ⟨#[]⟩, .int .i64 0, .slice none 0 0]
abbrev nodeC (n : Nd) (A : Option Addr) (cp : Nat) : Array Value := #[.int .i64 n.kind, .string ⟨n.text.toArray⟩, .int .i64 n.cols, .slice A n.kids.length cp]
set_option maxRecDepth 100000 in
set_option maxHeartbeats 400000 in
theorem script_n (c : Cf) (hc : c.Good) (f : Nat) (harg : ArgumentN c f) : ScriptN c (f + 1) := by
 intro k op b w h hop hne
 have HA := hid (fun (w' : World) (hf : Fresh w w') => at_any_n c hc k op b w' (h.fresh hf))
 have HARG := hid harg
 have htl := hc.tl
 have H := hid h
 have HOP := hid hop
 have hgl : c.g < w.heap.size := h.glt
 have HW0 := hid h.low.size
 have hr : pScript c.en (f + 1) b op (c.T.drop k) = if Np.isM b (c.T.drop k) then (pArg c.en f op (c.T.drop (k + 1))).map some else .ok none (c.T.drop k) := by rw [pScript, List.tail_drop]
 rw [hr] at hne ⊢
 have HNE := hid hne
 refine Calls.via fun Q hQ => ?_
 have HQ := hid hQ
 have hlt := @isM_lt c k b
 clear hne hr harg h hop hc hQ
 cases hm : Np.isM b (c.T.drop k) with
 | false =>
  rw [hm] at HQ HA
  rw [if_neg (by simp)] at HQ
  clear hm hlt HNE
  go_enter Tryz.func155, Tryz.ntmps155
  go_wp2_with fail
  refine (HA.out _ (((Touch.refl _ _).alloc _).alloc _)).mono ?_
  rintro _ w1 ⟨rfl, hf⟩
  have HF := hid (show Fresh w w1 from Touch.pre (Touch.pre hf))
  have HBN := hid (hf.blk ((Blk.new w 24 zeroN).alloc (.cells #[.int .i64 0, .int .i64 0] 88)) (fun h => h))
  have HBF := hid (hf.blk (Blk.new2 w (.cells zeroN 24) 88 #[.int .i64 0, .int .i64 0]) (fun h => h))
  obtain ⟨p0, p1, p2, p3, y0, y1, y2, y3, hlt0⟩ := Blk.four HBN.out
  obtain ⟨q0, q1, z0, z1, hlt1⟩ := Blk.two HBF.out
  clear hf
  go_wp2_with fail
  have n1 := HBN.out.self4 (.int .i64 0) (.string ⟨#[]⟩) (.int .i64 0) (.slice none 0 0)
  have hne : w.heap.size ≠ w.heap.size + 1 := by omega
  have n2 := HBF.out.far4 (Ne.symm hne) (.int .i64 0) (.string ⟨#[]⟩) (.int .i64 0) (.slice none 0 0)
  have n3 := n1.far2 hne (.int .i64 0) (.int .i64 0)
  have n4 := n2.self2 (.int .i64 0) (.int .i64 0)
  have hps := ((H.out.fresh HF.out).put4 HBN.out (by decide) (by omega) HW0.out (.int .i64 0) (.string ⟨#[]⟩) (.int .i64 0) (.slice none 0 0)).put2 n2 (by decide) (by omega) (by have := HW0.out; omega) (.int .i64 0) (.int .i64 0)
  have hm5 : Mp c.g c.W0.heap.size w _ := ((Mp.fresh HF.out).put4 (g := w.heap.size) (.inr (Nat.le_refl _)) (.int .i64 0) (.string ⟨#[]⟩) (.int .i64 0) (.slice none 0 0)).put2 (g := w.heap.size + 1) (.inr (by omega)) (.int .i64 0) (.int .i64 0)
  obtain ⟨g0, g1, g2, g3, _⟩ := Blk.four n3
  obtain ⟨f0, f1, _⟩ := Blk.two n4
  simp only [put2, put4] at g0 g1 g2 g3 f0 f1
  (try simp only [Exit.inBlock, Exit.then])
  refine bodyPost_ret (v := .tuple #[.agg zeroN, .bool false, failV 0 0]) (by simp [failV, results, Tryz.results155, go_sem, f0, f1, g0, g1, g2, g3]) rfl ?_
  exact HQ.out _ _ ⟨k, rfl, rfl, Nat.le_refl _, hps, hm5⟩
 | true =>
  have HK := hid (hlt hm)
  rw [hm] at HQ HA HNE
  rw [if_pos rfl] at HQ HNE
  clear hm hlt
  have e3 : ((k : Int) + 1) = ((k + 1 : Nat) : Int) := by simp
  have hk4 : k ≤ 100000 := by have := HK.out; omega
  have HE := hid e3
  clear e3
  unfold pp0 at HA
  go_enter Tryz.func155, Tryz.ntmps155
  unfold pp0
  go_wp2_with fail
  refine (HA.out _ (((Touch.refl _ _).alloc _).alloc _)).mono ?_
  rintro _ w1 ⟨rfl, hf⟩
  have HF := hid (show Fresh w w1 from Touch.pre (Touch.pre hf))
  have HBN := hid (hf.blk ((Blk.new w 24 zeroN).alloc (.cells #[.int .i64 0, .int .i64 0] 88)) (fun h => h))
  have HBF := hid (hf.blk (Blk.new2 w (.cells zeroN 24) 88 #[.int .i64 0, .int .i64 0]) (fun h => h))
  have HP1 := hid (H.out.fresh HF.out)
  obtain ⟨ov, hb, _⟩ := HP1.out.box
  have q1 := hb.cell 1
  have z1 := hb.frozen 1
  have hg1 := hb.lt
  clear hf hb
  go_wp2_with fail
  obtain ⟨n1, n2⟩ := HP1.out.next HK.out _ HE.out
  have HP2 := hid n1
  have HM2 := hid ((Mp.fresh HF.out).trans n2)
  have HBN2 := hid (HBN.out.far (p := ⟨c.g, 1, none⟩) (fun e => by have e' : w.heap.size = c.g := e; omega) (.int .i64 ((k : Int) + 1)))
  have HBF2 := hid (HBF.out.far (p := ⟨c.g, 1, none⟩) (fun e => by have e' : w.heap.size + 1 = c.g := e; omega) (.int .i64 ((k : Int) + 1)))
  have HL2 := hid (show w.heap.size + 1 < (w1.setCell ⟨c.g, 1, none⟩ (.int .i64 ((k : Int) + 1))).heap.size from HBF2.out.lt)
  generalize (w1.setCell ⟨c.g, 1, none⟩ (.int .i64 ((k : Int) + 1))) = w2 at HP2 HM2 HBN2 HBF2 HL2 ⊢
  clear n1 n2 q1 z1 hg1
  refine (HARG.out (k + 1) op _ HP2.out (by have := HOP.out; omega) (fun h => HNE.out (by rw [h]; rfl))).mono ?_
  intro e w3 hres
  generalize pArg c.en f op (c.T.drop (k + 1)) = r at HQ HNE hres
  cases r with
  | out => exact absurd rfl HNE.out
  | err i er =>
   obtain ⟨he0, n, A, cp, rfl, hm⟩ := hres
   have HE0 := hid he0
   have HM3 := hid (HM2.out.trans hm)
   have HBN3 := hid (hm.blk HBN2.out (by omega) (by decide))
   have HBF3 := hid (hm.blk HBF2.out (by omega) (by decide))
   obtain ⟨p0, p1, p2, p3, y0, y1, y2, y3, hlt0⟩ := Blk.four HBN3.out
   obtain ⟨q0, q1, z0, z1, hlt1⟩ := Blk.two HBF3.out
   clear hm he0
   unfold failV nodeV
   go_wp2_with fail
   have hne : w.heap.size ≠ w.heap.size + 1 := by omega
   have n1 := (HBN3.out.self4 (.int .i64 n.kind) (.string ⟨n.text.toArray⟩) (.int .i64 n.cols) (.slice A n.kids.length cp)).far2 hne (.int .i64 (i : Int)) (.int .i64 (er : Int))
   have n2 := (HBF3.out.far4 (Ne.symm hne) (.int .i64 n.kind) (.string ⟨n.text.toArray⟩) (.int .i64 n.cols) (.slice A n.kids.length cp)).self2 (.int .i64 (i : Int)) (.int .i64 (er : Int))
   have hm4 : Mp c.g c.W0.heap.size w (put2 (put4 w3 w.heap.size (.int .i64 n.kind) (.string ⟨n.text.toArray⟩) (.int .i64 n.cols) (.slice A n.kids.length cp)) (w.heap.size + 1) (.int .i64 (i : Int)) (.int .i64 (er : Int))) := (HM3.out.put4 (g := w.heap.size) (.inr (Nat.le_refl _)) (.int .i64 n.kind) (.string ⟨n.text.toArray⟩) (.int .i64 n.cols) (.slice A n.kids.length cp)).put2 (g := w.heap.size + 1) (.inr (by omega)) (.int .i64 (i : Int)) (.int .i64 (er : Int))
   have ht4 : Touch (fun k => k = w.heap.size ∨ k = w.heap.size + 1) w3 (put2 (put4 w3 w.heap.size (.int .i64 n.kind) (.string ⟨n.text.toArray⟩) (.int .i64 n.cols) (.slice A n.kids.length cp)) (w.heap.size + 1) (.int .i64 (i : Int)) (.int .i64 (er : Int))) := ((touch4 _ _ (.int .i64 n.kind) (.string ⟨n.text.toArray⟩) (.int .i64 n.cols) (.slice A n.kids.length cp)).mono fun _ h => .inl h).trans ((touch2 _ _ (.int .i64 (i : Int)) (.int .i64 (er : Int))).mono fun _ h => .inr h)
   simp only [put2, put4] at n1 n2 hm4 ht4
   generalize (World.setCell (World.setCell (World.setCell (World.setCell (World.setCell (World.setCell w3 ⟨w.heap.size, 0, none⟩ _) ⟨w.heap.size, 1, none⟩ _) ⟨w.heap.size, 2, none⟩ _) ⟨w.heap.size, 3, none⟩ _) ⟨w.heap.size + 1, 0, none⟩ _) ⟨w.heap.size + 1, 1, none⟩ _) = W4 at n1 n2 hm4 ht4 ⊢
   have HN1 := hid n1
   have HN2 := hid n2
   have HM4 := hid hm4
   have HT4 := hid ht4
   clear n1 n2 hm4 ht4 p0 p1 p2 p3 y0 y1 y2 y3 q0 q1 z0 z1
   refine wp_region_in (fun W => Blk W w.heap.size 24 (nodeC n A cp) ∧ Blk W (w.heap.size + 1) 88 #[.int .i64 (i : Int), .int .i64 (er : Int)] ∧ Touch (fun k => k = w.heap.size ∨ k = w.heap.size + 1) W4 W) [(0, true), (1, true), (2, false), (3, true), (4, false)] (by kernel_rfl) (fun _ _ d _ _ h => by cases d <;> exact h) (by kernel_rfl) ⟨HN1.out.drewN 1, HN2.out.drewN 1, (Touch.refl _ _).drewN 1⟩ ?_
   refine wpSeq_plain rfl (fun K hK => ?_)
   rw [if_pos (by rfl)]
   refine ⟨.agg (nodeC n A cp), fun W hW => ?_, hK _ ?_⟩
   ·obtain ⟨h1, _, _⟩ := hW
    obtain ⟨p0, p1, p2, p3, _⟩ := Blk.four h1
    go_simp
   clear hK K
   refine wpSeq_plain rfl (fun K hK => ?_)
   rw [if_pos (by rfl)]
   refine ⟨.agg #[.int .i64 (i : Int), .int .i64 (er : Int)], fun W hW => ?_, hK _ ?_⟩
   ·obtain ⟨_, h1, _⟩ := hW
    obtain ⟨p0, p1, _⟩ := Blk.two h1
    go_simp
   clear hK K
   obtain ⟨p0, p1, p2, p3, y0, y1, y2, y3, hlt0⟩ := Blk.four (HN1.out.drewN 1)
   obtain ⟨q0, q1, z0, z1, hlt1⟩ := Blk.two (HN2.out.drewN 1)
   refine wpSeq_lone rfl (fun K hK => ?_)
   go_wp2_with fail
   have hx := HM4.out.size
   have m1 := (HN1.out.drewN 1).self4 (.int .i64 n.kind) (.string ⟨n.text.toArray⟩) (.int .i64 n.cols) (.slice A n.kids.length cp)
   have m2 := (HN2.out.drewN 1).far4 (Ne.symm hne) (.int .i64 n.kind) (.string ⟨n.text.toArray⟩) (.int .i64 n.cols) (.slice A n.kids.length cp)
   have mt : Touch (fun k => k = w.heap.size ∨ k = w.heap.size + 1) W4 (put4 (W4.drewN 1) w.heap.size (.int .i64 n.kind) (.string ⟨n.text.toArray⟩) (.int .i64 n.cols) (.slice A n.kids.length cp)) := ((Touch.refl _ _).drewN 1).trans ((touch4 _ _ (.int .i64 n.kind) (.string ⟨n.text.toArray⟩) (.int .i64 n.cols) (.slice A n.kids.length cp)).mono fun _ h => .inl h)
   have mm : Mp c.g c.W0.heap.size w (put4 (W4.drewN 1) w.heap.size (.int .i64 n.kind) (.string ⟨n.text.toArray⟩) (.int .i64 n.cols) (.slice A n.kids.length cp)) := (HM4.out.drewN 1).put4 (g := w.heap.size) (.inr (Nat.le_refl _)) (.int .i64 n.kind) (.string ⟨n.text.toArray⟩) (.int .i64 n.cols) (.slice A n.kids.length cp)
   simp only [put4] at m1 m2 mt mm
   generalize (World.setCell (World.setCell (World.setCell (World.setCell (W4.drewN 1) ⟨w.heap.size, 0, none⟩ _) ⟨w.heap.size, 1, none⟩ _) ⟨w.heap.size, 2, none⟩ _) ⟨w.heap.size, 3, none⟩ _) = W5 at m1 m2 mt mm ⊢
   refine hK _ _ ⟨m1, m2, mt⟩ ?_
   have HN5 := hid m1
   have HF5 := hid m2
   have HT5 := hid mt
   have HM5 := hid mm
   clear hK K p0 p1 p2 p3 y0 y1 y2 y3 q0 q1 z0 z1 m1 m2 mt mm
   refine wpSeq_plain rfl (fun K hK => ?_)
   rw [if_pos (by rfl)]
   refine ⟨.bool true, fun W hW => ?_, hK _ ?_⟩
   ·go_simp
   clear hK K
   obtain ⟨q0, q1, z0, z1, hlt1⟩ := Blk.two HF5.out
   refine wpSeq_lone rfl (fun K hK => ?_)
   go_wp2_with fail
   have m1 := HN5.out.far2 hne (.int .i64 (i : Int)) (.int .i64 (er : Int))
   have m2 := HF5.out.self2 (.int .i64 (i : Int)) (.int .i64 (er : Int))
   have mt : Touch (fun k => k = w.heap.size ∨ k = w.heap.size + 1) W4 (put2 W5 (w.heap.size + 1) (.int .i64 (i : Int)) (.int .i64 (er : Int))) := HT5.out.trans ((touch2 _ _ (.int .i64 (i : Int)) (.int .i64 (er : Int))).mono fun _ h => .inr h)
   have mm : Mp c.g c.W0.heap.size w (put2 W5 (w.heap.size + 1) (.int .i64 (i : Int)) (.int .i64 (er : Int))) := HM5.out.put2 (g := w.heap.size + 1) (.inr (by omega)) (.int .i64 (i : Int)) (.int .i64 (er : Int))
   simp only [put2] at m1 m2 mt mm
   generalize (World.setCell (World.setCell W5 ⟨w.heap.size + 1, 0, none⟩ _) ⟨w.heap.size + 1, 1, none⟩ _) = W6 at m1 m2 mt mm ⊢
   refine hK _ _ ⟨m1, m2, mt⟩ ?_
   clear hK K q0 q1 z0 z1
   refine wpSeq_end ?_
   go_wp2_with fail
   obtain ⟨g0, g1, g2, g3, _⟩ := Blk.four m1
   obtain ⟨f0, f1, _⟩ := Blk.two m2
   (try simp only [Exit.inBlock, Exit.then])
   refine bodyPost_ret (v := .tuple #[nodeV n A cp, .bool true, failV i er]) (by simp [failV, nodeV, results, Tryz.results155, go_sem, f0, f1, g0, g1, g2, g3]) rfl ?_
   exact HQ.out _ _ ⟨HE0.out, n, A, cp, rfl, mm⟩
  | ok a rest =>
   obtain ⟨A, cp, k', rfl, htr, htx, hdr, hkk, hp, hm⟩ := hres
   have HTR := hid htr
   have HTX := hid htx
   have HDR := hid hdr
   have HKK := hid hkk
   have HP3 := hid hp
   have HM3 := hid (HM2.out.trans hm)
   have HBN3 := hid (hm.blk HBN2.out (by omega) (by decide))
   have HBF3 := hid (hm.blk HBF2.out (by omega) (by decide))
   obtain ⟨p0, p1, p2, p3, y0, y1, y2, y3, hlt0⟩ := Blk.four HBN3.out
   obtain ⟨q0, q1, z0, z1, hlt1⟩ := Blk.two HBF3.out
   clear hm htr htx hdr hkk hp
   unfold failV nodeV
   go_wp2_with fail
   have hne : w.heap.size ≠ w.heap.size + 1 := by omega
   have n1 := (HBN3.out.self4 (.int .i64 a.kind) (.string ⟨a.text.toArray⟩) (.int .i64 a.cols) (.slice A a.kids.length cp)).far2 hne (.int .i64 0) (.int .i64 0)
   have n2 := (HBF3.out.far4 (Ne.symm hne) (.int .i64 a.kind) (.string ⟨a.text.toArray⟩) (.int .i64 a.cols) (.slice A a.kids.length cp)).self2 (.int .i64 0) (.int .i64 0)
   have hm4 : Mp c.g c.W0.heap.size w (put2 (put4 w3 w.heap.size (.int .i64 a.kind) (.string ⟨a.text.toArray⟩) (.int .i64 a.cols) (.slice A a.kids.length cp)) (w.heap.size + 1) (.int .i64 0) (.int .i64 0)) := (HM3.out.put4 (g := w.heap.size) (.inr (Nat.le_refl _)) (.int .i64 a.kind) (.string ⟨a.text.toArray⟩) (.int .i64 a.cols) (.slice A a.kids.length cp)).put2 (g := w.heap.size + 1) (.inr (by omega)) (.int .i64 0) (.int .i64 0)
   have ht4 : Touch (fun k => k = w.heap.size ∨ k = w.heap.size + 1) w3 (put2 (put4 w3 w.heap.size (.int .i64 a.kind) (.string ⟨a.text.toArray⟩) (.int .i64 a.cols) (.slice A a.kids.length cp)) (w.heap.size + 1) (.int .i64 0) (.int .i64 0)) := ((touch4 _ _ (.int .i64 a.kind) (.string ⟨a.text.toArray⟩) (.int .i64 a.cols) (.slice A a.kids.length cp)).mono fun _ h => .inl h).trans ((touch2 _ _ (.int .i64 0) (.int .i64 0)).mono fun _ h => .inr h)
   simp only [put2, put4] at n1 n2 hm4 ht4
   generalize (World.setCell (World.setCell (World.setCell (World.setCell (World.setCell (World.setCell w3 ⟨w.heap.size, 0, none⟩ _) ⟨w.heap.size, 1, none⟩ _) ⟨w.heap.size, 2, none⟩ _) ⟨w.heap.size, 3, none⟩ _) ⟨w.heap.size + 1, 0, none⟩ _) ⟨w.heap.size + 1, 1, none⟩ _) = W4 at n1 n2 hm4 ht4 ⊢
   have HN1 := hid n1
   have HN2 := hid n2
   have HM4 := hid hm4
   have HT4 := hid ht4
   clear n1 n2 hm4 ht4 p0 p1 p2 p3 y0 y1 y2 y3 q0 q1 z0 z1
   refine wp_region_in (fun W => Blk W w.heap.size 24 (nodeC a A cp) ∧ Blk W (w.heap.size + 1) 88 #[.int .i64 0, .int .i64 0] ∧ Touch (fun k => k = w.heap.size ∨ k = w.heap.size + 1) W4 W) [(0, true), (1, true), (2, false), (3, true), (4, false)] (by kernel_rfl) (fun _ _ d _ _ h => by cases d <;> exact h) (by kernel_rfl) ⟨HN1.out.drewN 1, HN2.out.drewN 1, (Touch.refl _ _).drewN 1⟩ ?_
   refine wpSeq_plain rfl (fun K hK => ?_)
   rw [if_pos (by rfl)]
   refine ⟨.agg (nodeC a A cp), fun W hW => ?_, hK _ ?_⟩
   ·obtain ⟨h1, _, _⟩ := hW
    obtain ⟨p0, p1, p2, p3, _⟩ := Blk.four h1
    go_simp
   clear hK K
   refine wpSeq_plain rfl (fun K hK => ?_)
   rw [if_pos (by rfl)]
   refine ⟨.agg #[.int .i64 0, .int .i64 0], fun W hW => ?_, hK _ ?_⟩
   ·obtain ⟨_, h1, _⟩ := hW
    obtain ⟨p0, p1, _⟩ := Blk.two h1
    go_simp
   clear hK K
   obtain ⟨p0, p1, p2, p3, y0, y1, y2, y3, hlt0⟩ := Blk.four (HN1.out.drewN 1)
   obtain ⟨q0, q1, z0, z1, hlt1⟩ := Blk.two (HN2.out.drewN 1)
   refine wpSeq_lone rfl (fun K hK => ?_)
   go_wp2_with fail
   have hx := HM4.out.size
   have m1 := (HN1.out.drewN 1).self4 (.int .i64 a.kind) (.string ⟨a.text.toArray⟩) (.int .i64 a.cols) (.slice A a.kids.length cp)
   have m2 := (HN2.out.drewN 1).far4 (Ne.symm hne) (.int .i64 a.kind) (.string ⟨a.text.toArray⟩) (.int .i64 a.cols) (.slice A a.kids.length cp)
   have mt : Touch (fun k => k = w.heap.size ∨ k = w.heap.size + 1) W4 (put4 (W4.drewN 1) w.heap.size (.int .i64 a.kind) (.string ⟨a.text.toArray⟩) (.int .i64 a.cols) (.slice A a.kids.length cp)) := ((Touch.refl _ _).drewN 1).trans ((touch4 _ _ (.int .i64 a.kind) (.string ⟨a.text.toArray⟩) (.int .i64 a.cols) (.slice A a.kids.length cp)).mono fun _ h => .inl h)
   have mm : Mp c.g c.W0.heap.size w (put4 (W4.drewN 1) w.heap.size (.int .i64 a.kind) (.string ⟨a.text.toArray⟩) (.int .i64 a.cols) (.slice A a.kids.length cp)) := (HM4.out.drewN 1).put4 (g := w.heap.size) (.inr (Nat.le_refl _)) (.int .i64 a.kind) (.string ⟨a.text.toArray⟩) (.int .i64 a.cols) (.slice A a.kids.length cp)
   simp only [put4] at m1 m2 mt mm
   generalize (World.setCell (World.setCell (World.setCell (World.setCell (W4.drewN 1) ⟨w.heap.size, 0, none⟩ _) ⟨w.heap.size, 1, none⟩ _) ⟨w.heap.size, 2, none⟩ _) ⟨w.heap.size, 3, none⟩ _) = W5 at m1 m2 mt mm ⊢
   refine hK _ _ ⟨m1, m2, mt⟩ ?_
   have HN5 := hid m1
   have HF5 := hid m2
   have HT5 := hid mt
   have HM5 := hid mm
   clear hK K p0 p1 p2 p3 y0 y1 y2 y3 q0 q1 z0 z1 m1 m2 mt mm
   refine wpSeq_plain rfl (fun K hK => ?_)
   rw [if_pos (by rfl)]
   refine ⟨.bool true, fun W hW => ?_, hK _ ?_⟩
   ·go_simp
   clear hK K
   obtain ⟨q0, q1, z0, z1, hlt1⟩ := Blk.two HF5.out
   refine wpSeq_lone rfl (fun K hK => ?_)
   go_wp2_with fail
   have m1 := HN5.out.far2 hne (.int .i64 0) (.int .i64 0)
   have m2 := HF5.out.self2 (.int .i64 0) (.int .i64 0)
   have mt : Touch (fun k => k = w.heap.size ∨ k = w.heap.size + 1) W4 (put2 W5 (w.heap.size + 1) (.int .i64 0) (.int .i64 0)) := HT5.out.trans ((touch2 _ _ (.int .i64 0) (.int .i64 0)).mono fun _ h => .inr h)
   have mm : Mp c.g c.W0.heap.size w (put2 W5 (w.heap.size + 1) (.int .i64 0) (.int .i64 0)) := HM5.out.put2 (g := w.heap.size + 1) (.inr (by omega)) (.int .i64 0) (.int .i64 0)
   simp only [put2] at m1 m2 mt mm
   generalize (World.setCell (World.setCell W5 ⟨w.heap.size + 1, 0, none⟩ _) ⟨w.heap.size + 1, 1, none⟩ _) = W6 at m1 m2 mt mm ⊢
   refine hK _ _ ⟨m1, m2, mt⟩ ?_
   clear hK K q0 q1 z0 z1
   refine wpSeq_end ?_
   go_wp2_with fail
   obtain ⟨g0, g1, g2, g3, _⟩ := Blk.four m1
   obtain ⟨f0, f1, _⟩ := Blk.two m2
   (try simp only [Exit.inBlock, Exit.then])
   refine bodyPost_ret (v := .tuple #[nodeV a A cp, .bool true, failV 0 0]) (by simp [failV, nodeV, results, Tryz.results155, go_sem, f0, f1, g0, g1, g2, g3]) rfl ?_
   have ht6 := HT4.out.trans mt
   have hps := HP3.out.mv ht6 (fun b hb => by
    rcases hb with rfl | rfl
    ·exact ⟨by omega, HW0.out, _, _, (by decide), HBN3.out⟩
    ·exact ⟨by omega, by have := HW0.out; omega, _, _, (by decide), HBF3.out⟩)
   have htr := HTR.out.mv ht6 (fun b _ _ hb hB => by have := HL2.out; rcases hb with rfl | rfl <;> omega)
   exact HQ.out _ _ ⟨A, cp, k', rfl, htr.base HM2.out.size, HTX.out, HDR.out, by have := HKK.out; omega, hps, mm⟩
end Go.Proofs.YtdacpbdamliafaaGreat

/- Rows of nodes that grow: their trees stay apart from the row's own block and from the boxes. -/
namespace Go.Proofs.YtdacpbdamliafaaGreat
open Go.RowKit
open Tr (Nd)
def Nty (w : World) (k : Nat) : Prop := ∃ cs fr, w.heap[k]? = some (.cells cs 24 fr)
theorem Nty.lt {w : World} {k : Nat} (h : Nty w k) : k < w.heap.size := by
 obtain ⟨_, _, h⟩ := h
 exact (Array.getElem?_eq_some_iff.1 h).1
def GS (D : Nat → Prop) (B0 : Nat) (o : Option Nat) (w : World) (k : Nat) : Prop := o = some k ∨ D k ∨ k < B0 ∨ ¬ Nty w k
def Saf (D : Nat → Prop) (B0 : Nat) (o : Option Nat) (w : World) (ks : List Nd) (cs : List Value) : Prop := ∀ W', Touch (GS D B0 o w) w W' → NodesT B0 W' ks cs
theorem GS.pre {D : Nat → Prop} {B0 : Nat} {o o' : Option Nat} {w w1 W' : World} {S : Nat → Prop} (ht : Touch S w w1) (hS : ∀ k, S k → GS D B0 o w k) (ho : ∀ k, o' = some k → o = some k ∨ w.heap.size ≤ k) (hW : Touch (GS D B0 o' w1) w1 W') : Touch (GS D B0 o w) w W' := by
 refine ⟨hW.os.trans ht.os, hW.tape.trans ht.tape, hW.output.trans ht.output, Nat.le_trans ht.size hW.size, fun i hi hn => ?_⟩
 have e := ht.block i hi fun hs => hn (hS i hs)
 refine (hW.block i (Nat.lt_of_lt_of_le hi ht.size) fun hs => hn ?_).trans e
 rcases hs with hs | hs | hs | hs
 ·rcases ho i hs with h1 | h1
  ·exact .inl h1
  ·omega
 ·exact .inr (.inl hs)
 ·exact .inr (.inr (.inl hs))
 ·exact .inr (.inr (.inr fun ⟨cs, fr, e2⟩ => hs ⟨cs, fr, by rw [e]; exact e2⟩))
theorem Saf.mv {D : Nat → Prop} {B0 : Nat} {o : Option Nat} {w w1 : World} {ks : List Nd} {cs : List Value} {S : Nat → Prop} (h : Saf D B0 o w ks cs) (ht : Touch S w w1) (hS : ∀ k, S k → GS D B0 o w k) : Saf D B0 o w1 ks cs :=
 fun W' hW => h W' (GS.pre ht hS (fun _ h => .inl h) hW)
theorem Saf.push {D : Nat → Prop} {B0 B1 : Nat} {o o' : Option Nat} {w w' : World} {ks : List Nd} {cs : List Value} {a : Nd} {sl : Value} (h : Saf D B0 o w ks cs) (hgr : w.grownBy w' o) (hv : ∀ k, o' = some k → o = some k ∨ w.heap.size ≤ k) (htr : TreT B1 w a.kids sl) (hB1 : B0 ≤ B1) (hown : ∀ k, o = some k → k < B1) (hD : ∀ k, D k → k < B1) (htx : a.text.length ≤ maxLen) :
  Saf D B0 o' w' (ks ++ [a]) (cs ++ [.int .i64 a.kind, .string ⟨a.text.toArray⟩, .int .i64 a.cols, sl]) := fun W' hW => by
 have hT := GS.pre (o := o) (Touch.grown (S := fun k => o = some k) (Touch.refl _ w) hgr fun k hk => .inl hk) (fun k hk => .inl hk) hv hW
 refine (h W' hT).append ⟨sl, [], rfl, ⟨(htr.mv hT fun k cs fr hk hB he => ?_).base hB1, htx⟩, rfl⟩
 rcases hk with hk | hk | hk | hk
 ·have := hown k hk; omega
 ·have := hD k hk; omega
 ·omega
 ·exact hk ⟨_, _, he⟩
def Grow (D : Nat → Prop) (w : World) (B0 B : Nat) (ks : List Nd) (v : Value) : Prop := ∃ cs, w.ownsRow B 24 4 v ks.length cs ∧ Saf D B0 v.ownBlock w ks cs
def Full (D : Nat → Prop) (w : World) (B0 : Nat) (ks : List Nd) (v : Value) : Prop := ∃ cs, ∀ W', Touch (GS D B0 none w) w W' → Src W' 4 v ks.length cs ∧ NodesT B0 W' ks cs ∧ TreT B0 W' ks v
theorem TreT.full {B0 : Nat} {w w1 : World} {ks : List Nd} {v : Value} {D : Nat → Prop} (h : TreT B0 w ks v) (hf : Fresh w w1) (hD : ∀ k, D k → w.heap.size ≤ k) : Full D w1 B0 ks v := by
 obtain ⟨cs, h1, h2⟩ := h.src
 refine ⟨cs, fun W' hW => ?_⟩
 have hT : Touch (fun k => k < B0 ∨ ¬ Nty w k) w W' := by
  refine ⟨hW.os.trans hf.os, hW.tape.trans hf.tape, hW.output.trans hf.output, Nat.le_trans hf.size hW.size, fun i hi hn => ?_⟩
  have e := hf.block i hi fun hs => hs
  refine (hW.block i (Nat.lt_of_lt_of_le hi hf.size) fun hs => hn ?_).trans e
  rcases hs with hs | hs | hs | hs
  ·cases hs
  ·have := hD i hs; omega
  ·exact .inl hs
  ·exact .inr fun ⟨cs, fr, e2⟩ => hs ⟨cs, fr, by rw [e]; exact e2⟩
 have hno : ∀ k cs fr, (k < B0 ∨ ¬ Nty w k) → B0 ≤ k → w.heap[k]? ≠ some (.cells cs 24 fr) := fun k cs fr hk hB he => by
  rcases hk with hk | hk
  ·omega
  ·exact hk ⟨_, _, he⟩
 refine ⟨?_, h1.mv hT hno, h.mv hT hno⟩
 obtain ⟨A, c, e1, e2, e3⟩ := h2
 refine ⟨A, c, e1, e2, ?_⟩
 cases h with
 | nil A' cap =>
  cases e1
  rw [List.length_nil, Nat.zero_mul, List.length_eq_zero_iff] at e2
  subst e2
  cases A with
  | none => exact .inl ⟨rfl, rfl, rfl⟩
  | some a => exact .inr ⟨a, rfl, fun j u hu => by simp at hu⟩
 | row g cap _ sl hB hg hl =>
  cases e1
  rcases e3 with ⟨e4, _⟩ | ⟨ad, e4, e5⟩
  ·cases e4
  ·cases e4
   obtain ⟨ds, fr, hg⟩ := hg
   refine .inr ⟨_, rfl, fun j u hu => ?_⟩
   have e6 := e5 j u hu
   rw [Addr.add_mid, Nat.zero_add] at e6 ⊢
   exact hT.cell e6 fun hs => hno g ds fr hs hB hg
theorem Full.mv {D : Nat → Prop} {B0 : Nat} {w w1 : World} {ks : List Nd} {v : Value} {S : Nat → Prop} (h : Full D w B0 ks v) (ht : Touch S w w1) (hS : ∀ k, S k → GS D B0 none w k) : Full D w1 B0 ks v := by
 obtain ⟨cs, h⟩ := h
 exact ⟨cs, fun W' hW => h W' (GS.pre ht hS (fun _ h => .inl h) hW)⟩
theorem Full.tree {D : Nat → Prop} {B0 : Nat} {w : World} {ks : List Nd} {v : Value} (h : Full D w B0 ks v) : TreT B0 w ks v := by
 obtain ⟨cs, h⟩ := h
 exact (h w (Touch.refl _ _)).2.2
theorem Full.fresh {D : Nat → Prop} {B0 : Nat} {w w1 : World} {ks : List Nd} {v : Value} (h : Full D w B0 ks v) (ht : Fresh w w1) : Full D w1 B0 ks v := h.mv ht fun _ h => h.elim
theorem Grow.tree {D : Nat → Prop} {w : World} {B0 B : Nat} {ks : List Nd} {v : Value} (h : Grow D w B0 B ks v) (hB : B0 ≤ B) : TreT B0 w ks v := by
 obtain ⟨cs, h1, h2⟩ := h
 exact (h2 w (Touch.refl _ _)).own hB h1
theorem Grow.nil (D : Nat → Prop) (w : World) (B0 B : Nat) : Grow D w B0 B [] (.slice none 0 0) := ⟨[], World.ownsRow_nil _ _ _ _, fun _ _ => rfl⟩
theorem Grow.mv {D : Nat → Prop} {w w1 : World} {B0 B : Nat} {ks : List Nd} {v : Value} {S : Nat → Prop} (h : Grow D w B0 B ks v) (ht : Touch S w w1) (hB : B0 ≤ B) (hD : ∀ k, D k → k < B) (hS : ∀ k, S k → D k ∨ k < B0 ∨ ¬ Nty w k) : Grow D w1 B0 B ks v := by
 obtain ⟨cs, h1, h2⟩ := h
 refine ⟨cs, ownsRow_touch h1 ht fun k hk hs => ?_, h2.mv ht fun k hk => .inr (hS k hk)⟩
 obtain ⟨h3, cur, h4⟩ := owns_type h1 hk
 rcases hS k hs with h5 | h5 | h5
 ·have := hD k h5; omega
 ·omega
 ·exact h5 ⟨_, _, h4⟩
theorem Grow.fresh {D : Nat → Prop} {w w1 : World} {B0 B : Nat} {ks : List Nd} {v : Value} (h : Grow D w B0 B ks v) (ht : Fresh w w1) : Grow D w1 B0 B ks v := by
 obtain ⟨cs, h1, h2⟩ := h
 exact ⟨cs, ownsRow_touch h1 ht fun k hk hs => hs, h2.mv ht fun k hk => hk.elim⟩
theorem Grow.slice {D : Nat → Prop} {w : World} {B0 B : Nat} {ks : List Nd} {v : Value} (h : Grow D w B0 B ks v) : ∃ A cap, v = .slice A ks.length cap := by
 obtain ⟨cs, h1, _⟩ := h
 exact own_slc h1
theorem PT.nty {c : Cf} {k : Nat} {op : List Nat} {w : World} {b : Nat} (hp : Ps c k op w) (hk : PT c.g c.W0.heap.size w b) : ¬ Nty w b := by
 rintro ⟨cs, fr, e⟩
 obtain ⟨ov, hb, _⟩ := hp.box
 rcases hk with rfl | ⟨_, cs', fr', h3⟩
 ·unfold Blk at hb
  rw [hb] at e
  cases e
 ·rw [h3] at e
  cases e
theorem Src.cells1 {w : World} {size m c g : Nat} {news : List Value} (h : Src w size (.slice (some ⟨g, 0, none⟩) m c) m news) : ∀ j u, news[j]? = some u → w.cell? ((⟨g, 0, none⟩ : Addr).add j) = some u := by
 obtain ⟨A, c', h1, h2, h3⟩ := h
 cases h1
 rcases h3 with ⟨h4, _⟩ | ⟨ad, h4, h5⟩
 ·cases h4
 ·cases h4; exact h5
theorem TreT.lit {B : Nat} {w : World} {n : Nd} {sl : Value} (h : TreT B w n.kids sl) (hB : B ≤ w.heap.size) (ht : n.text.length ≤ maxLen) : TreT B (w.alloc (.cells #[.int .i64 n.kind, .string ⟨n.text.toArray⟩, .int .i64 n.cols, sl] 24)) [n] (.slice (some ⟨w.heap.size, 0, none⟩) 1 1) := by
 have hb := Blk.new w 24 #[.int .i64 n.kind, .string ⟨n.text.toArray⟩, .int .i64 n.cols, sl]
 obtain ⟨p0, p1, p2, p3, _⟩ := Blk.four hb
 exact TreT.one hB ⟨_, _, hb⟩ p0 p1 p2 p3 (h.fresh ((Touch.refl _ _).alloc _)) ht
def Grew (B : Nat) (w w' : World) : Prop := Touch (fun k => B ≤ k ∧ ∃ cs, Blk w k 24 cs) w w'
theorem Grew.size {B : Nat} {w w' : World} (h : Grew B w w') : w.heap.size ≤ w'.heap.size := Touch.size h
theorem Grew.blk1 {B : Nat} {w w' : World} {k : Nat} {t : TypeId} {cs : Array Value} (h : Grew B w w') (hb : Blk w k t cs) (hk : k < B) : Blk w' k t cs := Touch.blk h hb fun ⟨h1, _⟩ => by omega
theorem Grew.mp {g B B' : Nat} {w W W' : World} (h : Grew B' W W') (hm : Mp g B w W) (hB : w.heap.size ≤ B') : Mp g B w W' := Touch.trans' hm h fun _ hi => .inr (Nat.le_trans hB hi.1)
theorem Grew.ps {c : Cf} {k B' : Nat} {op : List Nat} {W W' : World} (h : Grew B' W W') (hp : Ps c k op W) (hB : c.W0.heap.size ≤ B') (hg : c.g < B') : Ps c k op W' := hp.mv h fun b hb => ⟨by have := hb.1; omega, Nat.le_trans hB hb.1, 24, hb.2.elim fun cs h => ⟨cs, by decide, h⟩⟩
section
variable {w : World} {ops : Array Oper} {rest : List Oper} {o : Oper} {a : Act} {Q : Exit → Act → World → Prop}
set_option maxRecDepth 100000 in
theorem wpList_append_grow (hgd : o.guard = none) (s x : Operand)
  (ho : o.op = .call { callee := .builtin .append, args := #[s, x], argTypes := #[22, 22] })
  (i : TypeInfo) (z : Value) (hi : Tryz.prog.info? 24 = some i) (hz : i.zero = some z) (hsize : i.size = 4) (hby : i.bytes = 56) (hzs : z.cells.size = 4)
  {D : Nat → Prop} {B0 B B1 : Nat} {ks : List Nd} {v y : Value} (h : Grow D w B0 B ks v) (hs : a.eval s = v) (n : Nd) (sl : Value) (hx : a.eval x = y) (hsrc : Src w 4 y 1 [.int .i64 n.kind, .string ⟨n.text.toArray⟩, .int .i64 n.cols, sl])
  (htr : TreT B1 w n.kids sl) (hB1 : B0 ≤ B1) (hD : ∀ k, D k → k < B1) (hown : ∀ k, v.ownBlock = some k → k < B1) (htx : n.text.length ≤ maxLen) (hlen : ks.length < 2 ^ 40) (hB : B ≤ w.heap.size)
  (hK : ∀ A cp w', Grow D w' B0 B (ks ++ [n]) (.slice A (ks.length + 1) cp) → Grew B w w' → wpList Tryz.prog ops Q rest (a.put o.dst (.slice A (ks.length + 1) cp)) w') : wpList Tryz.prog ops Q (o :: rest) a w := by
 obtain ⟨cs, h1, h2⟩ := h
 have h3 : ∀ u ∈ [Value.int .i64 n.kind, .string ⟨n.text.toArray⟩, .int .i64 n.cols, sl], u.oneCell' = true := by
  obtain ⟨_, _, rfl⟩ := htr.slice
  simp [Value.oneCell']
 refine wpList_append_src _ hgd s x 22 ho B 24 i z 4 56 rfl hi hz hsize hby hzs (by decide) v ks.length cs hs h1 y 1 _ hx hsrc h3 (by simp only [maxLen]; omega) (by omega) hB fun v' w' ho' hgr hv => ?_
 obtain ⟨A, cp, rfl⟩ := own_slc ho'
 exact hK A cp w' ⟨_, by rw [List.length_append]; exact ho', h2.push hgr (fun k hk => by rcases hv with h6 | h6 <;> rw [h6] at hk <;> first | exact .inl hk | (cases hk; exact .inr (Nat.le_refl _))) htr hB1 hown hD htx⟩ (Touch.grown (Touch.refl _ _) hgr fun k hk => .inl (by
  obtain ⟨h4, cur, h5⟩ := owns_type h1 hk
  exact ⟨h4, _, h5⟩))
set_option maxRecDepth 100000 in
theorem wpList_append_first (hgd : o.guard = none) (s x : Operand)
  (ho : o.op = .call { callee := .builtin .append, args := #[s, x], argTypes := #[22, 22] })
  (i : TypeInfo) (z : Value) (hi : Tryz.prog.info? 24 = some i) (hz : i.zero = some z) (hsize : i.size = 4) (hby : i.bytes = 56) (hzs : z.cells.size = 4)
  {D : Nat → Prop} {B0 B B1 : Nat} {ks : List Nd} {A0 : Option Addr} (h : Full D w B0 ks (.slice A0 ks.length ks.length)) (hs : a.eval s = .slice A0 ks.length ks.length) (n : Nd) (sl : Value) (ad : Addr) (hx : a.eval x = .slice (some ad) 1 1) (hsrc : ∀ j u, [Value.int .i64 n.kind, .string ⟨n.text.toArray⟩, .int .i64 n.cols, sl][j]? = some u → w.cell? (ad.add j) = some u)
  (htr : TreT B1 w n.kids sl) (hB1 : B0 ≤ B1) (hD : ∀ k, D k → k < B1) (htx : n.text.length ≤ maxLen) (hlen : ks.length < 2 ^ 40) (hB : B ≤ w.heap.size)
  (hK : ∀ A cp w', Grow D w' B0 B (ks ++ [n]) (.slice A (ks.length + 1) cp) → Grew B w w' → wpList Tryz.prog ops Q rest (a.put o.dst (.slice A (ks.length + 1) cp)) w') : wpList Tryz.prog ops Q (o :: rest) a w := by
 obtain ⟨cs, hf⟩ := h
 obtain ⟨⟨A', c', h2, h4, h5⟩, _⟩ := hf w (Touch.refl _ _)
 cases h2
 have h3 : ∀ u ∈ [Value.int .i64 n.kind, .string ⟨n.text.toArray⟩, .int .i64 n.cols, sl], u.oneCell' = true := by
  obtain ⟨_, _, rfl⟩ := htr.slice
  simp [Value.oneCell']
 refine wpList_append_grows w hgd s x 22 ho 24 i z 4 56 rfl hi hz hsize hby hzs (by decide) A0 ks.length ks.length cs hs (fun e => ?_) h4 (fun b e j u hu => ?_) ad 1 1 _ hx rfl hsrc h3 (by omega) (by simp only [maxLen]; omega) (by omega) fun v' w' ho' hgr => ?_
 ·rcases h5 with ⟨_, h6, _⟩ | ⟨_, h6, _⟩
  ·exact ⟨h6, h6⟩
  ·rw [e] at h6; cases h6
 ·rcases h5 with ⟨h6, _⟩ | ⟨ad', h6, h7⟩
  ·rw [e] at h6; cases h6
  ·rw [e] at h6; cases h6; exact h7 j u hu
 ·obtain ⟨A, cp, rfl⟩ := own_slc ho'
  have hs : Saf D B0 none w ks cs := fun W' hW => (hf W' hW).2.1
  refine hK A cp w' ⟨_, by rw [List.length_append]; exact ownsRow_base ho' hB, hs.push hgr (fun k hk => .inr (owns_type ho' hk).1) htr hB1 (fun k hk => by cases hk) hD htx⟩ (Touch.grown (Touch.refl _ _) hgr fun k hk => by cases hk)
end
end Go.Proofs.YtdacpbdamliafaaGreat

/- The parser's with: arguments of an item. -/
namespace Go.Proofs.YtdacpbdamliafaaGreat
open Go.RowKit
open Tr (Nd)
open Lx (PTok)
open Np (R pRow pIn pScript pItem pPrim pArgs pName pCells pArg)
attribute [local go_sem] stillV stillUpon
def WithN (c : Cf) (f n : Nat) : Prop := ∀ (k : Nat) (op : List Nat) (kd : Int) (tx : List UInt8) (ks0 : List Nd) (A0 : Option Addr) (B0 : Nat) (w : World), Ps c k op w → op.length ≤ k → tx.length ≤ maxLen → ks0.length ≤ 10 → B0 ≤ w.heap.size → TreT B0 w ks0 (.slice A0 ks0.length ks0.length) → pArgs c.en f n op (c.T.drop k) ≠ .out →
 Calls Tryz.prog 150 #[pp0 c, .agg #[.int .i64 kd, .string ⟨tx.toArray⟩, .int .i64 0, .slice A0 ks0.length ks0.length], .int .i64 (n : Int)] w fun e w' =>
  match pArgs c.en f n op (c.T.drop k) with
  | .ok ks rest => ∃ b k', e = .returned (.tuple #[.slice (some ⟨b, 0, none⟩) 1 1, failV 0 0]) ∧ TreT B0 w' [.mk kd tx 0 (ks0 ++ ks)] (.slice (some ⟨b, 0, none⟩) 1 1) ∧ c.T.drop k' = rest ∧ k ≤ k' ∧ Ps c k' op w' ∧ Mp c.g c.W0.heap.size w w'
  | .err i er => er ≠ 0 ∧ ∃ A n cp, e = .returned (.tuple #[.slice A n cp, failV i er]) ∧ Mp c.g c.W0.heap.size w w'
  | .out => True
theorem infoNodeN : (Tryz.prog.info? 24).map (fun i => (i.zero, i.size, i.bytes)) = some (some (.agg #[.int .i64 0, .string ⟨#[]⟩, .int .i64 0, .slice none 0 0]), 4, 56) := by kernel_rfl
set_option maxRecDepth 100000 in
set_option maxHeartbeats 400000 in
theorem with_n (c : Cf) (hc : c.Good) (F n : Nat) (hn : n ≤ 2) (harg : ∀ f', f' < F → ArgumentN c f') : WithN c F n := by
 intro k op kd tx ks0 A0 B0 w h hop htx hk0 hB0 htr hne
 obtain ⟨i, hi, hz0, hz1, hz2⟩ := info_parts infoNodeN
 have HARG := hid harg
 have htl := hc.tl
 have H := hid h
 have HOP := hid hop
 have HTX := hid htx
 have HTR := hid htr
 have HB0 := hid hB0
 have hgl : c.g < w.heap.size := h.glt
 have HW0 := hid h.low.size
 have HNE := hid hne
 refine Calls.via fun Q hQ => ?_
 have HQ := hid hQ
 clear hne harg h hop hc hQ htx htr hB0
 generalize hX : pArgs c.en F n op (c.T.drop k) = X at HNE HQ
 have HX := hid hX
 clear hX
 go_enter Tryz.func150, Tryz.ntmps150
 go_wp2_with fail
 have hf1 : Fresh w ((w.alloc (.cells #[.int .i64 kd, .string ⟨tx.toArray⟩, .int .i64 0, .slice A0 ks0.length ks0.length] 24)).alloc (.cells #[.int .i64 0, .int .i64 0] 88)) := ((Touch.refl _ _).alloc _).alloc _
 have hbn : Blk ((w.alloc (.cells #[.int .i64 kd, .string ⟨tx.toArray⟩, .int .i64 0, .slice A0 ks0.length ks0.length] 24)).alloc (.cells #[.int .i64 0, .int .i64 0] 88)) w.heap.size 24 #[.int .i64 kd, .string ⟨tx.toArray⟩, .int .i64 0, .slice A0 ks0.length ks0.length] := (Blk.new _ _ _).alloc _
 have hbf : Blk ((w.alloc (.cells #[.int .i64 kd, .string ⟨tx.toArray⟩, .int .i64 0, .slice A0 ks0.length ks0.length] 24)).alloc (.cells #[.int .i64 0, .int .i64 0] 88)) (w.heap.size + 1) 88 #[.int .i64 0, .int .i64 0] := Blk.new2 _ _ _ _
 have hsw1 : ((w.alloc (.cells #[.int .i64 kd, .string ⟨tx.toArray⟩, .int .i64 0, .slice A0 ks0.length ks0.length] 24)).alloc (.cells #[.int .i64 0, .int .i64 0] 88)).heap.size = w.heap.size + 2 := by simp
 generalize ((w.alloc (.cells #[.int .i64 kd, .string ⟨tx.toArray⟩, .int .i64 0, .slice A0 ks0.length ks0.length] 24)).alloc (.cells #[.int .i64 0, .int .i64 0] 88)) = W1 at hf1 hbn hbf hsw1 ⊢
 have HF1 := hid hf1
 have HSZ1 := hid hsw1
 have HBN1 := hid hbn
 have HBF1 := hid hbf
 clear hf1 hbn hbf hsw1
 go_loopw [11] (fun j wr => ∃ (m k1 : Nat) (ks : List Nd) (A : Option Addr) (cp : Nat), j = .int .i64 m ∧ m ≤ n ∧ ks.length = m ∧ Hid (Blk wr w.heap.size 24 #[.int .i64 kd, .string ⟨tx.toArray⟩, .int .i64 0, .slice A (ks0 ++ ks).length cp]) ∧ Hid (Blk wr (w.heap.size + 1) 88 #[.int .i64 0, .int .i64 0]) ∧ Hid ((m = 0 ∧ cp = (ks0 ++ ks).length ∧ Full (fun k => k = w.heap.size ∨ k = w.heap.size + 1) wr B0 (ks0 ++ ks) (.slice A (ks0 ++ ks).length cp)) ∨ Grow (fun k => k = w.heap.size ∨ k = w.heap.size + 1) wr B0 W1.heap.size (ks0 ++ ks) (.slice A (ks0 ++ ks).length cp)) ∧ Hid (Ps c k1 op wr) ∧ k ≤ k1 ∧ Hid (Mp c.g c.W0.heap.size w wr) ∧ W1.heap.size ≤ wr.heap.size ∧ Hid (X = (pArgs c.en (F - m) (n - m) op (c.T.drop k1)).map fun l => ks ++ l)) (fun j _ => n - (intOf j).toNat)
 case atStart =>
  refine ⟨0, k, [], A0, ks0.length, rfl, Nat.zero_le _, rfl, by rw [List.append_nil]; exact HBN1, HBF1, .inl ⟨rfl, by rw [List.append_nil], by rw [List.append_nil]; exact HTR.out.full HF1.out (fun k hk => by rcases hk with rfl | rfl <;> omega)⟩, H.out.fresh HF1.out, Nat.le_refl _, Mp.fresh HF1.out, Nat.le_refl _, ?_⟩
  unfold Hid
  rw [← HX.out, Nat.sub_zero, Nat.sub_zero]
  cases pArgs c.en F n op (c.T.drop k) <;> rfl
 case round =>
  obtain ⟨m, k1, ks, A, cp, rfl, hm, hks, HBN, HBF, HG, HP, hkk, HM, hsz, HXX⟩ := hrel
  have HKS := hid hks
  clear hks
  by_cases c1 : m < n
  ·have d1 : decide ((m : Int) < (n : Int)) = true := by simp; omega
   have d1n : decide (m < n) = true := by simp; omega
   have d1' : (m : Int) < (n : Int) := by omega
   obtain ⟨f', hf'⟩ : ∃ f', F - m = f' + 1 := by
    rcases Nat.eq_zero_or_pos (F - m) with h0 | h0
    ·exfalso
     have h1 := HXX.out
     rw [h0] at h1
     exact HNE.out (by rw [h1]; cases n - m <;> rfl)
    ·exact ⟨F - m - 1, by omega⟩
   obtain ⟨n', hn'⟩ : ∃ n', n - m = n' + 1 := ⟨n - m - 1, by omega⟩
   have HXS := hid (show X = ((pArg c.en f' op (c.T.drop k1)).bind fun a r => (pArgs c.en f' n' op r).map fun l => a :: l).map fun l => ks ++ l from by rw [HXX.out, hf', hn', pArgs])
   have HFF := hid (show f' < F ∧ f' = F - (m + 1) ∧ n' = n - (m + 1) from by omega)
   obtain ⟨p0, p1, p2, p3, y0, y1, y2, y3, hlt0⟩ := Blk.four HBN.out
   obtain ⟨q0, q1, z0, z1, hlt1⟩ := Blk.two HBF.out
   clear hf' hn' HXX
   go_wp2_with fail
   refine (HARG.out f' HFF.out.1 k1 op _ HP.out (by have := HOP.out; omega) (fun h => HNE.out (by rw [HXS.out, h]; rfl))).mono ?_
   intro e w2 hres
   generalize pArg c.en f' op (c.T.drop k1) = r at HXS hres
   cases r with
   | out => exact absurd (by rw [HXS.out]; rfl) HNE.out
   | err ei er =>
    obtain ⟨he0, nn, An, cn, rfl, hmv⟩ := hres
    have HE0 := hid he0
    have e0 := fail_ne he0
    have HM2 := hid (HM.out.trans hmv)
    have hbr2 := hmv.blk HBF.out (by omega) (by decide)
    have HBF2 := hid hbr2
    have HXE := hid (show X = .err ei er from HXS.out)
    have hsz2 := hmv.size
    clear hmv he0 hbr2 p0 p1 p2 p3 y0 y1 y2 y3 q0 q1 z0 z1
    unfold failV nodeV
    go_wp2_with fail
    have hbe : Blk ((w2.alloc (.cells #[.int .i64 nn.kind, .string ⟨nn.text.toArray⟩, .int .i64 nn.cols, .slice An nn.kids.length cn] 24)).alloc (.cells #[.int .i64 (ei : Int), .int .i64 (er : Int)] 88)) (w2.heap.size + 1) 88 #[.int .i64 (ei : Int), .int .i64 (er : Int)] := Blk.new2 _ _ _ _
    have hbr : Blk ((w2.alloc (.cells #[.int .i64 nn.kind, .string ⟨nn.text.toArray⟩, .int .i64 nn.cols, .slice An nn.kids.length cn] 24)).alloc (.cells #[.int .i64 (ei : Int), .int .i64 (er : Int)] 88)) (w.heap.size + 1) 88 #[.int .i64 0, .int .i64 0] := (HBF2.out.alloc _).alloc _
    have hmr : Mp c.g c.W0.heap.size w ((w2.alloc (.cells #[.int .i64 nn.kind, .string ⟨nn.text.toArray⟩, .int .i64 nn.cols, .slice An nn.kids.length cn] 24)).alloc (.cells #[.int .i64 (ei : Int), .int .i64 (er : Int)] 88)) := (HM2.out.alloc _).alloc _
    generalize ((w2.alloc (.cells #[.int .i64 nn.kind, .string ⟨nn.text.toArray⟩, .int .i64 nn.cols, .slice An nn.kids.length cn] 24)).alloc (.cells #[.int .i64 (ei : Int), .int .i64 (er : Int)] 88)) = W3 at hbe hbr hmr ⊢
    have r0 := cell_regrown (hbe.cell 0 |>.trans rfl)
    have r1 := cell_regrown (hbe.cell 1 |>.trans rfl)
    have hlt3 := hbe.lt
    have HBR := hid hbr
    have HMR := hid hmr
    clear hbe hbr hmr
    refine wp_region_mix [([(0, true), (1, true)], 2)] [] (by kernel_rfl) (fun _ _ d _ _ h => by cases d <;> exact h) (by kernel_rfl) ?_
    refine wpMix_seg ?_
    repeat (refine wpSeq_plain rfl (fun K hK => ?_); go_simp; refine hK _ ?_; clear hK K)
    obtain ⟨p0, p1, y0, y1, hlt⟩ := Blk.two (HBR.out.drewN 1)
    refine wpSeq_shut rfl (fun K hK => ?_)
    go_wp2_with fail
    refine wpMix_end ?_
    go_wp2_with fail
    have hb5 : Blk _ (w.heap.size + 1) 88 #[.int .i64 (ei : Int), .int .i64 (er : Int)] := ((HBR.out.drewN 1).put 0 (.int .i64 (ei : Int))).put 1 (.int .i64 (er : Int))
    have hm5 := ((HMR.out.drewN 1).setCell (p := ⟨w.heap.size + 1, 0, none⟩) (.inr (by show w.heap.size ≤ w.heap.size + 1; omega)) (.int .i64 (ei : Int))).setCell (p := ⟨w.heap.size + 1, 1, none⟩) (.inr (by show w.heap.size ≤ w.heap.size + 1; omega)) (.int .i64 (er : Int))
    obtain ⟨f0, f1, _⟩ := Blk.two hb5
    (try simp only [Exit.inBlock, Exit.then])
    refine bodyPost_ret (v := .tuple #[.slice none 0 0, failV ei er]) (by simp [failV, results, Tryz.results150, go_sem, f0, f1]) rfl ?_
    rw [HXE.out] at HQ
    exact HQ.out _ _ ⟨HE0.out, none, 0, 0, rfl, hm5⟩
   | ok a rest =>
    obtain ⟨A1, cp1, k', rfl, htr, htx, hdr, hkk2, hp, hm⟩ := hres
    have HTR := hid htr
    have HTX := hid htx
    have HDR := hid hdr
    have HP3 := hid hp
    have HM2 := hid (HM.out.trans hm)
    have HBN2 := hid (hm.blk HBN.out (by omega) (by decide))
    have HBF2 := hid (hm.blk HBF.out (by omega) (by decide))
    have hsz2 := hm.size
    have HTx := hid (show a.text.length ≤ maxLen from htx)
    have HMM := hid hm
    obtain ⟨p0, p1, p2, p3, y0, y1, y2, y3, hlt0⟩ := Blk.four HBN2.out
    clear htr htx hdr hp hm q0 q1 z0 z1
    unfold failV nodeV
    have HBB := hid (show B0 ≤ w.heap.size ∧ W1.heap.size ≤ wr.heap.size ∧ W1.heap.size = w.heap.size + 2 from by have := HB0.out; have := HSZ1.out; omega)
    rcases HG.out with ⟨rfl, rfl, hg⟩ | hg
    ·have HG2 := hid (show Full (fun k => k = w.heap.size ∨ k = w.heap.size + 1) w2 B0 ks0 (.slice A ks0.length ks0.length) from by
      have h0 : ks = [] := List.length_eq_zero_iff.1 HKS.out; subst h0; rw [List.append_nil] at hg; exact hg.mv HMM.out (fun k hk => .inr (.inr (.inr (PT.nty HP.out hk)))))
     have h0 : ks = [] := List.length_eq_zero_iff.1 HKS.out; subst h0; clear hg
     have HLN := hid (show ks0.length ≤ 10 from hk0)
     have FR := hid (show Fresh w2 (((w2.alloc (.cells #[.int .i64 a.kind, .string ⟨a.text.toArray⟩, .int .i64 a.cols, .slice A1 a.kids.length cp1] 24)).alloc (.cells #[.int .i64 0, .int .i64 0] 88)).alloc (.cells #[.int .i64 a.kind, .string ⟨a.text.toArray⟩, .int .i64 a.cols, .slice A1 a.kids.length cp1] 24)) from (((Touch.refl _ _).alloc _).alloc _).alloc _)
     have BL := hid (show Blk (((w2.alloc (.cells #[.int .i64 a.kind, .string ⟨a.text.toArray⟩, .int .i64 a.cols, .slice A1 a.kids.length cp1] 24)).alloc (.cells #[.int .i64 0, .int .i64 0] 88)).alloc (.cells #[.int .i64 a.kind, .string ⟨a.text.toArray⟩, .int .i64 a.cols, .slice A1 a.kids.length cp1] 24)) (w2.heap.size + 1 + 1) 24 #[.int .i64 a.kind, .string ⟨a.text.toArray⟩, .int .i64 a.cols, .slice A1 a.kids.length cp1] from by have := Blk.new ((w2.alloc (.cells #[.int .i64 a.kind, .string ⟨a.text.toArray⟩, .int .i64 a.cols, .slice A1 a.kids.length cp1] 24)).alloc (.cells #[.int .i64 0, .int .i64 0] 88)) 24 #[.int .i64 a.kind, .string ⟨a.text.toArray⟩, .int .i64 a.cols, .slice A1 a.kids.length cp1]; simpa using this)
     go_wp2_with (at_builtin; refine wpList_append_first rfl (.tmp 23) (.tmp 25) rfl i _ hi hz0 hz1 hz2 rfl (B0 := B0) (B := W1.heap.size) (B1 := wr.heap.size) (ks := ks0) (A0 := A) (HG2.out.fresh FR.out) (by simp [Act.eval]) a (.slice A1 a.kids.length cp1) ⟨w2.heap.size + 1 + 1, 0, none⟩ (by simp [Act.eval]) (fun j u hu => (Src.of_blk (size := 4) (m := 1) (c := 1) BL.out rfl).cells1 j u hu) (HTR.out.fresh FR.out) (by have := HBB.out; omega) (fun k hk => by have := HBB.out; rcases hk with rfl | rfl <;> omega) HTX.out (by have := HLN.out; omega) (by have := HBB.out; have := FR.out.size; omega) ?_; intro A8 cp8 W8 hg8 ht8; refine Stay.mk ?_)
     have HG8 := hid hg8
     have HB8 := hid (ht8.blk1 (FR.out.blk HBN2.out fun h => h) (by have := HBB.out; omega))
     have HF8 := hid (ht8.blk1 (FR.out.blk HBF2.out fun h => h) (by have := HBB.out; omega))
     have HP8 := hid (ht8.ps (HP3.out.fresh FR.out) (by have := HBB.out; have := HW0.out; omega) (by have := HBB.out; omega))
     have HM8 := hid (ht8.mp (HM2.out.trans (Mp.fresh FR.out)) (by have := HBB.out; omega))
     have HSZ8 := hid (show wr.heap.size ≤ W8.heap.size from by have := ht8.size; have := FR.out.size; omega)
     clear hg8 ht8 p0 p1 p2 p3 y0 y1 y2 y3 hlt0
     obtain ⟨p0, p1, p2, p3, y0, y1, y2, y3, hlt0⟩ := Blk.four HB8.out
     refine Stay.go ?_
     go_wp2_with fail
     have hb9 := HB8.out.put 3 (.slice A8 (ks0.length + 1) cp8)
     have hf9 := HF8.out.far (p := ⟨w.heap.size, 3, none⟩) (by simp) (.slice A8 (ks0.length + 1) cp8)
     have ht9 := (Touch.refl (fun b => b = w.heap.size) W8).setCell (p := ⟨w.heap.size, 3, none⟩) (.inl rfl) (.slice A8 (ks0.length + 1) cp8)
     have hm9 := HM8.out.setCell (p := ⟨w.heap.size, 3, none⟩) (.inr (Nat.le_refl _)) (.slice A8 (ks0.length + 1) cp8)
     generalize (World.setCell W8 ⟨w.heap.size, 3, none⟩ (.slice A8 (ks0.length + 1) cp8)) = W9 at hb9 hf9 ht9 hm9 ⊢
     have hlen : (ks0 ++ ([] ++ [a])).length = ks0.length + 1 := by simp
     have happ : ks0 ++ ([] ++ [a]) = ks0 ++ [a] := by simp
     have hgr9 : Grow (fun k => k = w.heap.size ∨ k = w.heap.size + 1) W9 B0 W1.heap.size (ks0 ++ ([] ++ [a])) (.slice A8 (ks0.length + 1) cp8) := by
      rw [happ]
      have := HG8.out.mv ht9 (by have := HBB.out; omega) (fun k hk => by have := HBB.out; rcases hk with rfl | rfl <;> omega) (fun k hk => .inl (.inl hk))
      exact this
     have hps9 := HP8.out.mv ht9 (fun b hb => by have := HW0.out; subst hb; exact ⟨by omega, HW0.out, _, _, (by decide), HB8.out⟩)
     refine ⟨⟨0 + 1, k', [] ++ [a], A8, cp8, by simp, by omega, by have := HKS.out; rfl, by rw [hlen]; exact hb9, hf9, .inr (by rw [hlen]; exact hgr9), hps9, by have := hkk2; omega, hm9, by have := ht9.size; have := HSZ8.out; have := HBB.out; omega, ?_⟩, by simp [intOf]; omega⟩
     unfold Hid
     rw [HXS.out, HDR.out, ← HFF.out.2.1, ← HFF.out.2.2]
     show ((pArgs c.en f' n' op rest).map fun l => a :: l).map (fun l => [] ++ l) = _
     cases pArgs c.en f' n' op rest <;> simp [Np.R.map, Np.R.bind]
    ·have HG2 := hid (show Grow (fun k => k = w.heap.size ∨ k = w.heap.size + 1) w2 B0 W1.heap.size (ks0 ++ ks) (.slice A (ks0 ++ ks).length cp) from by
      exact hg.mv HMM.out (by have := HBB.out; omega) (fun k hk => by have := HBB.out; rcases hk with rfl | rfl <;> omega) (fun k hk => .inr (.inr (PT.nty HP.out hk))))
     have HOB := hid (show ∀ k, (Value.slice A (ks0 ++ ks).length cp).ownBlock = some k → k < wr.heap.size from fun k hk => by obtain ⟨cs, h1, _⟩ := hg; obtain ⟨_, cur, h4⟩ := owns_type h1 hk; exact (Array.getElem?_eq_some_iff.1 h4).1)
     clear hg
     have HLN := hid (show ks0.length ≤ 10 ∧ ks.length ≤ 10 from ⟨hk0, by have := HKS.out; omega⟩)
     have FR := hid (show Fresh w2 (((w2.alloc (.cells #[.int .i64 a.kind, .string ⟨a.text.toArray⟩, .int .i64 a.cols, .slice A1 a.kids.length cp1] 24)).alloc (.cells #[.int .i64 0, .int .i64 0] 88)).alloc (.cells #[.int .i64 a.kind, .string ⟨a.text.toArray⟩, .int .i64 a.cols, .slice A1 a.kids.length cp1] 24)) from (((Touch.refl _ _).alloc _).alloc _).alloc _)
     have BL := hid (show Blk (((w2.alloc (.cells #[.int .i64 a.kind, .string ⟨a.text.toArray⟩, .int .i64 a.cols, .slice A1 a.kids.length cp1] 24)).alloc (.cells #[.int .i64 0, .int .i64 0] 88)).alloc (.cells #[.int .i64 a.kind, .string ⟨a.text.toArray⟩, .int .i64 a.cols, .slice A1 a.kids.length cp1] 24)) (w2.heap.size + 1 + 1) 24 #[.int .i64 a.kind, .string ⟨a.text.toArray⟩, .int .i64 a.cols, .slice A1 a.kids.length cp1] from by have := Blk.new ((w2.alloc (.cells #[.int .i64 a.kind, .string ⟨a.text.toArray⟩, .int .i64 a.cols, .slice A1 a.kids.length cp1] 24)).alloc (.cells #[.int .i64 0, .int .i64 0] 88)) 24 #[.int .i64 a.kind, .string ⟨a.text.toArray⟩, .int .i64 a.cols, .slice A1 a.kids.length cp1]; simpa using this)
     go_wp2_with (at_builtin; refine wpList_append_grow rfl (.tmp 23) (.tmp 25) rfl i _ hi hz0 hz1 hz2 rfl (B0 := B0) (B := W1.heap.size) (B1 := wr.heap.size) (ks := ks0 ++ ks) (v := .slice A (ks0 ++ ks).length cp) (y := .slice (some ⟨w2.heap.size + 1 + 1, 0, none⟩) 1 1) (HG2.out.fresh FR.out) (by simp [Act.eval]) a (.slice A1 a.kids.length cp1) (by simp [Act.eval]) (Src.of_blk (BL.out) rfl) (HTR.out.fresh FR.out) (by have := HBB.out; omega) (fun k hk => by have := HBB.out; rcases hk with rfl | rfl <;> omega) HOB.out HTX.out (by have := HLN.out; simp; omega) (by have := HBB.out; have := FR.out.size; omega) ?_; intro A8 cp8 W8 hg8 ht8; refine Stay.mk ?_)
     have HG8 := hid hg8
     have HB8 := hid (ht8.blk1 (FR.out.blk HBN2.out fun h => h) (by have := HBB.out; omega))
     have HF8 := hid (ht8.blk1 (FR.out.blk HBF2.out fun h => h) (by have := HBB.out; omega))
     have HP8 := hid (ht8.ps (HP3.out.fresh FR.out) (by have := HBB.out; have := HW0.out; omega) (by have := HBB.out; omega))
     have HM8 := hid (ht8.mp (HM2.out.trans (Mp.fresh FR.out)) (by have := HBB.out; omega))
     have HSZ8 := hid (show wr.heap.size ≤ W8.heap.size from by have := ht8.size; have := FR.out.size; omega)
     clear hg8 ht8 p0 p1 p2 p3 y0 y1 y2 y3 hlt0
     obtain ⟨p0, p1, p2, p3, y0, y1, y2, y3, hlt0⟩ := Blk.four HB8.out
     refine Stay.go ?_
     go_wp2_with fail
     have hb9 := HB8.out.put 3 (.slice A8 (ks0.length + ks.length + 1) cp8)
     have hf9 := HF8.out.far (p := ⟨w.heap.size, 3, none⟩) (by simp) (.slice A8 (ks0.length + ks.length + 1) cp8)
     have ht9 := (Touch.refl (fun b => b = w.heap.size) W8).setCell (p := ⟨w.heap.size, 3, none⟩) (.inl rfl) (.slice A8 (ks0.length + ks.length + 1) cp8)
     have hm9 := HM8.out.setCell (p := ⟨w.heap.size, 3, none⟩) (.inr (Nat.le_refl _)) (.slice A8 (ks0.length + ks.length + 1) cp8)
     generalize (World.setCell W8 ⟨w.heap.size, 3, none⟩ (.slice A8 (ks0.length + ks.length + 1) cp8)) = W9 at hb9 hf9 ht9 hm9 ⊢
     have hlen : (ks0 ++ (ks ++ [a])).length = ks0.length + ks.length + 1 := by simp; omega
     have happ : ks0 ++ (ks ++ [a]) = (ks0 ++ ks) ++ [a] := by simp
     have hgr9 : Grow (fun k => k = w.heap.size ∨ k = w.heap.size + 1) W9 B0 W1.heap.size (ks0 ++ (ks ++ [a])) (.slice A8 (ks0.length + ks.length + 1) cp8) := by
      rw [happ]
      have := HG8.out.mv ht9 (by have := HBB.out; omega) (fun k hk => by have := HBB.out; rcases hk with rfl | rfl <;> omega) (fun k hk => .inl (.inl hk))
      rw [List.length_append] at this; exact this
     have hps9 := HP8.out.mv ht9 (fun b hb => by have := HW0.out; subst hb; exact ⟨by omega, HW0.out, _, _, (by decide), HB8.out⟩)
     refine ⟨⟨m + 1, k', ks ++ [a], A8, cp8, by simp, by omega, by have := HKS.out; simp; omega, by rw [hlen]; exact hb9, hf9, .inr (by rw [hlen]; exact hgr9), hps9, by have := hkk2; omega, hm9, by have := ht9.size; have := HSZ8.out; have := HBB.out; omega, ?_⟩, by simp [intOf]; omega⟩
     unfold Hid
     rw [HXS.out, HDR.out, ← HFF.out.2.1, ← HFF.out.2.2]
     show ((pArgs c.en f' n' op rest).map fun l => a :: l).map (fun l => ks ++ l) = _
     cases pArgs c.en f' n' op rest <;> simp [Np.R.map, Np.R.bind]
  ·have hmn : m = n := by omega
   have HKS2 := hid (show ks.length = n by rw [HKS.out, hmn])
   have d1 : decide ((m : Int) < (n : Int)) = false := by simp; omega
   have d1n : decide (m < n) = false := by simp; omega
   have d1' : ¬ ((m : Int) < (n : Int)) := by omega
   obtain ⟨p0, p1, p2, p3, y0, y1, y2, y3, hlt0⟩ := Blk.four HBN.out
   obtain ⟨q0, q1, z0, z1, hlt1⟩ := Blk.two HBF.out
   have HMN := hid hmn
   clear hmn
   go_wp2_with fail
   have htr1 : TreT B0 wr (ks0 ++ ks) (.slice A (ks0 ++ ks).length cp) := by
    have h1 := HB0.out
    have h2 := HSZ1.out
    rcases HG.out with ⟨_, _, hg⟩ | hg
    ·exact hg.tree
    ·exact hg.tree (by omega)
   rw [List.length_append] at htr1
   have htw := (touch2 wr (w.heap.size + 1) (.int .i64 0) (.int .i64 0))
   have hmw : Mp c.g c.W0.heap.size w ((put2 wr (w.heap.size + 1) (.int .i64 0) (.int .i64 0)).alloc (.cells #[.int .i64 kd, .string ⟨tx.toArray⟩, .int .i64 0, .slice A (ks0.length + ks.length) cp] 24)) := (HM.out.put2 (g := w.heap.size + 1) (.inr (by omega)) (.int .i64 0) (.int .i64 0)).alloc _
   have htr2 := htr1.other HBF.out (by decide) htw
   have hps := (HP.out.mv htw (fun b hb => by have := HW0.out; subst hb; exact ⟨by omega, by omega, _, _, (by decide), HBF.out⟩)).fresh ((Touch.refl _ _).alloc (.cells #[.int .i64 kd, .string ⟨tx.toArray⟩, .int .i64 0, .slice A (ks0.length + ks.length) cp] 24))
   have hbq := ((HBF.out.self2 (.int .i64 0) (.int .i64 0)).alloc (.cells #[.int .i64 kd, .string ⟨tx.toArray⟩, .int .i64 0, .slice A (ks0.length + ks.length) cp] 24))
   have hone := TreT.lit (n := .mk kd tx 0 (ks0 ++ ks)) htr2 (by have := HB0.out; have := HSZ1.out; have := htw.size; omega) HTX.out
   have hszp : (put2 wr (w.heap.size + 1) (.int .i64 0) (.int .i64 0)).heap.size = wr.heap.size := by simp [put2]
   rw [hszp] at hone
   simp only [put2] at hmw hps hbq hone
   obtain ⟨f0, f1, _⟩ := Blk.two hbq
   (try simp only [Exit.inBlock, Exit.then])
   refine bodyPost_ret (v := .tuple #[.slice (some ⟨wr.heap.size, 0, none⟩) 1 1, failV 0 0]) (by simp [failV, results, Tryz.results150, go_sem, f0, f1]) rfl ?_
   obtain ⟨f', hf'⟩ : ∃ f', F - m = f' + 1 := by
    rcases Nat.eq_zero_or_pos (F - m) with h0 | h0
    ·exfalso
     have h1 := HXX.out
     rw [h0] at h1
     exact HNE.out (by rw [h1]; cases n - m <;> rfl)
    ·exact ⟨F - m - 1, by omega⟩
   have HXO : X = .ok ks (c.T.drop k1) := by
    rw [HXX.out, hf', HMN.out, Nat.sub_self, pArgs]
    simp [Np.R.map, Np.R.bind]
   rw [HXO] at HQ
   exact HQ.out _ _ ⟨wr.heap.size, k1, rfl, hone, rfl, hkk, hps, hmw⟩
end Go.Proofs.YtdacpbdamliafaaGreat

/- The parser's fraction, accent and root. -/
namespace Go.Proofs.YtdacpbdamliafaaGreat
open Go.RowKit
open Tr (Nd)
open Lx (PTok)
open Np (R pRow pIn pScript pItem pPrim pArgs pName pCells pArg)
attribute [local go_sem] stillV stillUpon
theorem R.map_out {α β : Type} {f : α → β} {r : R α} (h : r.map f ≠ .out) : r ≠ .out := fun e => h (by rw [e]; rfl)
theorem R.map_ok {α β : Type} {f : α → β} {a : α} {l : List PTok} : (R.ok a l).map f = .ok (f a) l := rfl
theorem R.map_err {α β : Type} {f : α → β} {i e : Nat} : (R.err i e : R α).map f = .err i e := rfl
def FractionN (c : Cf) (f : Nat) : Prop := ∀ (k : Nat) (op : List Nat) (w : World), Ps c k op w → op.length ≤ k → k < c.T.length → pArgs c.en f 2 op (c.T.drop (k + 1)) ≠ .out →
 Calls Tryz.prog 107 #[pp0 c] w (ItemsE c k op ((pArgs c.en f 2 op (c.T.drop (k + 1))).map fun ks => [.mk 5 [] 0 ks]) w)
set_option maxRecDepth 100000 in
set_option maxHeartbeats 400000 in
theorem fraction_n (c : Cf) (hc : c.Good) (f : Nat) (hwith : WithN c f 2) : FractionN c f := by
 intro k op w h hop hk hne
 have htl := hc.tl
 have hk4 : k ≤ 100000 := by omega
 have HW := hid hwith
 have H := hid h
 have HOP := hid hop
 have HNE := hid hne
 have HW0 := hid h.low.size
 have HK := hid hk
 have hgl : c.g < w.heap.size := h.glt
 obtain ⟨ov, hb, _⟩ := h.box
 have q1 := hb.cell 1
 have z1 := hb.frozen 1
 clear hb h hne hwith hc hop
 refine Calls.via fun Q hQ => ?_
 have HQ := hid hQ
 clear hQ
 unfold pp0
 have e1 : ((k : Int) + 1) = ((k + 1 : Nat) : Int) := by simp
 have HE := hid e1
 clear e1
 go_enter Tryz.func107, Tryz.ntmps107
 go_wp2_with fail
 have hn := H.out.next hk ((k : Int) + 1) HE.out
 have hs : (w.setCell ⟨c.g, 1, none⟩ (.int .i64 ((k : Int) + 1))).heap.size = w.heap.size := by simp
 generalize (w.setCell ⟨c.g, 1, none⟩ (.int .i64 ((k : Int) + 1))) = W1 at hn hs ⊢
 have hbf : Blk (W1.alloc (.cells #[.int .i64 0, .int .i64 0] 88)) W1.heap.size 88 #[.int .i64 0, .int .i64 0] := Blk.new _ _ _
 have hp2 := hn.1.fresh ((Touch.refl _ _).alloc (.cells #[.int .i64 0, .int .i64 0] 88))
 have hm2 := hn.2.trans (Mp.fresh ((Touch.refl _ W1).alloc (.cells #[.int .i64 0, .int .i64 0] 88)))
 have hs2 : (W1.alloc (.cells #[.int .i64 0, .int .i64 0] 88)).heap.size = w.heap.size + 1 := by simp [hs]
 rw [hs] at hbf
 generalize (W1.alloc (.cells #[.int .i64 0, .int .i64 0] 88)) = W2 at hbf hp2 hm2 hs2 ⊢
 (try rw [hs])
 have HP2 := hid hp2
 have HM2 := hid hm2
 have HS2 := hid hs2
 have HBF := hid hbf
 clear hn hs hbf hp2 hm2 q1 z1 hs2
 refine (HW.out (k + 1) op 5 [] [] none w.heap.size W2 HP2.out (by have := HOP.out; omega) (by simp [maxLen]) (by simp) (by have := HS2.out; omega) (.nil _ _) HNE.out).mono ?_
 intro e w3 hres
 generalize pArgs c.en f 2 op (c.T.drop (k + 1)) = r at HNE HQ hres
 cases r with
 | out => exact absurd rfl HNE.out
 | err i er =>
  obtain ⟨he0, A, n, cp, rfl, hm⟩ := hres
  have HM3 := hid (HM2.out.trans hm)
  have HBF3 := hid (hm.blk HBF.out (by omega) (by decide))
  have HE0 := hid he0
  clear hm he0
  obtain ⟨q0, q1, z0, z1, hlt3⟩ := Blk.two HBF3.out
  unfold failV
  go_wp2_with fail
  have n1 := HBF3.out.self2 (.int .i64 (i : Int)) (.int .i64 (er : Int))
  have hm4 : Mp c.g c.W0.heap.size w (put2 w3 w.heap.size (.int .i64 (i : Int)) (.int .i64 (er : Int))) := HM3.out.put2 (g := w.heap.size) (.inr (Nat.le_refl _)) (.int .i64 (i : Int)) (.int .i64 (er : Int))
  have ht4 := touch2 w3 w.heap.size (.int .i64 (i : Int)) (.int .i64 (er : Int))
  simp only [put2] at n1 hm4 ht4
  generalize (World.setCell (World.setCell w3 ⟨w.heap.size, 0, none⟩ _) ⟨w.heap.size, 1, none⟩ _) = W4 at n1 hm4 ht4 ⊢
  obtain ⟨f0, f1, _⟩ := Blk.two n1
  (try simp only [Exit.inBlock, Exit.then])
  refine bodyPost_ret (v := .tuple #[.slice A n cp, failV i er]) (by simp [failV, results, Tryz.results107, go_sem, f0, f1]) rfl ?_
  exact HQ.out _ _ ⟨HE0.out, A, n, cp, rfl, hm4⟩
 | ok ks rest =>
  obtain ⟨b, k', rfl, htr, hdr, hkk, hp, hm⟩ := hres
  have HM3 := hid (HM2.out.trans hm)
  have HBF3 := hid (hm.blk HBF.out (by omega) (by decide))
  have HTR := hid htr
  have HDR := hid hdr
  have HKK := hid hkk
  have HP3 := hid hp
  clear hm htr hdr hkk hp
  obtain ⟨q0, q1, z0, z1, hlt3⟩ := Blk.two HBF3.out
  unfold failV
  go_wp2_with fail
  have n1 := HBF3.out.self2 (.int .i64 0) (.int .i64 0)
  have hm4 : Mp c.g c.W0.heap.size w (put2 w3 w.heap.size (.int .i64 0) (.int .i64 0)) := HM3.out.put2 (g := w.heap.size) (.inr (Nat.le_refl _)) (.int .i64 0) (.int .i64 0)
  have ht4 := touch2 w3 w.heap.size (.int .i64 0) (.int .i64 0)
  simp only [put2] at n1 hm4 ht4
  generalize (World.setCell (World.setCell w3 ⟨w.heap.size, 0, none⟩ _) ⟨w.heap.size, 1, none⟩ _) = W4 at n1 hm4 ht4 ⊢
  obtain ⟨f0, f1, _⟩ := Blk.two n1
  (try simp only [Exit.inBlock, Exit.then])
  refine bodyPost_ret (v := .tuple #[.slice (some ⟨b, 0, none⟩) 1 1, failV 0 0]) (by simp [failV, results, Tryz.results107, go_sem, f0, f1]) rfl ?_
  have hps := HP3.out.mv ht4 (fun b hb => by have := HW0.out; subst hb; exact ⟨by omega, by omega, _, _, (by decide), HBF3.out⟩)
  exact HQ.out _ _ ⟨_, 1, k', rfl, HTR.out.other HBF3.out (by decide) ht4, HDR.out, by have := HKK.out; omega, hps, hm4⟩
def AccentN (c : Cf) (f : Nat) : Prop := ∀ (k : Nat) (op : List Nat) (t : PTok) (r : List PTok) (w : World), Ps c k op w → op.length ≤ k → c.T.drop k = t :: r → pArgs c.en f 1 op (c.T.drop (k + 1)) ≠ .out →
 Calls Tryz.prog 110 #[pp0 c] w (ItemsE c k op ((pArgs c.en f 1 op (c.T.drop (k + 1))).map fun ks => [.mk 10 t.text 0 ks]) w)
set_option maxRecDepth 100000 in
set_option maxHeartbeats 400000 in
theorem accent_n (c : Cf) (hc : c.Good) (f : Nat) (hwith : WithN c f 1) : AccentN c f := by
 intro k op t r w h hop hl hne
 have htl := hc.tl
 have hk := drop_lt (c := c) (k := k) (by rw [hl]; exact List.cons_ne_nil _ _)
 have hk4 : k ≤ 100000 := by omega
 have HT := hid (fun (w' : World) (hf : Fresh w w') => tok_any_n c hc k op w' (h.fresh hf))
 have htx := hc.txt t (List.mem_of_mem_drop (i := k) (by rw [hl]; simp))
 have HTX := hid htx
 rw [hl] at HT
 unfold tokV at HT
 clear hl htx
 have HW := hid hwith
 have H := hid h
 have HOP := hid hop
 have HNE := hid hne
 have HW0 := hid h.low.size
 have HK := hid hk
 have hgl : c.g < w.heap.size := h.glt
 obtain ⟨ov, hb, _⟩ := h.box
 have HB := hid hb
 have q1 := hb.cell 1
 have z1 := hb.frozen 1
 clear hb h hne hwith hc hop
 refine Calls.via fun Q hQ => ?_
 have HQ := hid hQ
 clear hQ
 unfold pp0
 have e1 : ((k : Int) + 1) = ((k + 1 : Nat) : Int) := by simp
 have HE := hid e1
 clear e1
 go_enter Tryz.func110, Tryz.ntmps110
 go_wp2_with fail
 refine (HT.out _ ((Touch.refl _ _).alloc _)).mono ?_
 rintro _ w1 ⟨rfl, hf⟩
 have hf1 : Fresh w w1 := (((Touch.refl _ _).alloc _).trans hf)
 have hb1 := hf1.blk HB.out (fun h => h)
 have hbf1 : Blk w1 w.heap.size 88 #[.int .i64 0, .int .i64 0] := hf.blk (Blk.new _ _ _) (fun h => h)
 clear hf q1 z1
 have q1 := hb1.cell 1
 have z1 := hb1.frozen 1
 have hg1 := hb1.lt
 have HF1 := hid hf1
 have HBF1 := hid hbf1
 clear hf1 hb1 hbf1
 have r1 := field_tok1 (.int .i64 (t.kind : Int)) (.string ⟨t.text.toArray⟩) (.int .i64 (t.from_ : Int)) (.int .i64 (t.to_ : Int)) w1
 go_wp2_with fail
 clear r1
 have hp1 := H.out.fresh HF1.out
 have hn := hp1.next hk ((k : Int) + 1) HE.out
 have hs2 : (w1.setCell ⟨c.g, 1, none⟩ (.int .i64 ((k : Int) + 1))).heap.size = w1.heap.size := by simp
 have hbf := HBF1.out.far (p := ⟨c.g, 1, none⟩) (by simp; omega) (.int .i64 ((k : Int) + 1))
 generalize (w1.setCell ⟨c.g, 1, none⟩ (.int .i64 ((k : Int) + 1))) = W2 at hn hbf hs2 ⊢
 have HP2 := hid hn.1
 have HM2 := hid ((Mp.fresh HF1.out).trans hn.2)
 have HS2 := hid (show w.heap.size < W2.heap.size from hbf.lt)
 have HBF := hid hbf
 clear hn hbf hp1 q1 z1 hs2 hg1
 refine (HW.out (k + 1) op 10 t.text [] none w.heap.size W2 HP2.out (by have := HOP.out; omega) HTX.out (by simp) (by have := HS2.out; omega) (.nil _ _) HNE.out).mono ?_
 intro e w3 hres
 generalize pArgs c.en f 1 op (c.T.drop (k + 1)) = r at HNE HQ hres
 cases r with
 | out => exact absurd rfl HNE.out
 | err i er =>
  obtain ⟨he0, A, n, cp, rfl, hm⟩ := hres
  have HM3 := hid (HM2.out.trans hm)
  have HBF3 := hid (hm.blk HBF.out (by omega) (by decide))
  have HE0 := hid he0
  clear hm he0
  obtain ⟨q0, q1, z0, z1, hlt3⟩ := Blk.two HBF3.out
  unfold failV
  go_wp2_with fail
  have n1 := HBF3.out.self2 (.int .i64 (i : Int)) (.int .i64 (er : Int))
  have hm4 : Mp c.g c.W0.heap.size w (put2 w3 w.heap.size (.int .i64 (i : Int)) (.int .i64 (er : Int))) := HM3.out.put2 (g := w.heap.size) (.inr (Nat.le_refl _)) (.int .i64 (i : Int)) (.int .i64 (er : Int))
  have ht4 := touch2 w3 w.heap.size (.int .i64 (i : Int)) (.int .i64 (er : Int))
  simp only [put2] at n1 hm4 ht4
  generalize (World.setCell (World.setCell w3 ⟨w.heap.size, 0, none⟩ _) ⟨w.heap.size, 1, none⟩ _) = W4 at n1 hm4 ht4 ⊢
  obtain ⟨f0, f1, _⟩ := Blk.two n1
  (try simp only [Exit.inBlock, Exit.then])
  refine bodyPost_ret (v := .tuple #[.slice A n cp, failV i er]) (by simp [failV, results, Tryz.results110, go_sem, f0, f1]) rfl ?_
  exact HQ.out _ _ ⟨HE0.out, A, n, cp, rfl, hm4⟩
 | ok ks rest =>
  obtain ⟨b, k', rfl, htr, hdr, hkk, hp, hm⟩ := hres
  have HM3 := hid (HM2.out.trans hm)
  have HBF3 := hid (hm.blk HBF.out (by omega) (by decide))
  have HTR := hid htr
  have HDR := hid hdr
  have HKK := hid hkk
  have HP3 := hid hp
  clear hm htr hdr hkk hp
  obtain ⟨q0, q1, z0, z1, hlt3⟩ := Blk.two HBF3.out
  unfold failV
  go_wp2_with fail
  have n1 := HBF3.out.self2 (.int .i64 0) (.int .i64 0)
  have hm4 : Mp c.g c.W0.heap.size w (put2 w3 w.heap.size (.int .i64 0) (.int .i64 0)) := HM3.out.put2 (g := w.heap.size) (.inr (Nat.le_refl _)) (.int .i64 0) (.int .i64 0)
  have ht4 := touch2 w3 w.heap.size (.int .i64 0) (.int .i64 0)
  simp only [put2] at n1 hm4 ht4
  generalize (World.setCell (World.setCell w3 ⟨w.heap.size, 0, none⟩ _) ⟨w.heap.size, 1, none⟩ _) = W4 at n1 hm4 ht4 ⊢
  obtain ⟨f0, f1, _⟩ := Blk.two n1
  (try simp only [Exit.inBlock, Exit.then])
  refine bodyPost_ret (v := .tuple #[.slice (some ⟨b, 0, none⟩) 1 1, failV 0 0]) (by simp [failV, results, Tryz.results110, go_sem, f0, f1]) rfl ?_
  have hps := HP3.out.mv ht4 (fun b hb => by have := HW0.out; subst hb; exact ⟨by omega, by omega, _, _, (by decide), HBF3.out⟩)
  exact HQ.out _ _ ⟨_, 1, k', rfl, HTR.out.other HBF3.out (by decide) ht4, HDR.out, by have := HKK.out; omega, hps, hm4⟩
def rootR (c : Cf) (f : Nat) (op : List Nat) (r : List PTok) : R (List Nd) :=
 if Np.isM 91 r then (pIn c.en f 93 op r).bind fun d r' => (pArgs c.en f 1 op r').map fun ks => [.mk 6 [] 0 (Np.slot d :: ks)] else (pArgs c.en f 1 op r).map fun ks => [.mk 6 [] 0 (Np.slot [] :: ks)]
def RootN (c : Cf) (f : Nat) : Prop := ∀ (k : Nat) (op : List Nat) (w : World), Ps c k op w → op.length ≤ k → k < c.T.length → rootR c f op (c.T.drop (k + 1)) ≠ .out →
 Calls Tryz.prog 108 #[pp0 c] w (ItemsE c k op (rootR c f op (c.T.drop (k + 1))) w)
set_option maxRecDepth 100000 in
set_option maxHeartbeats 400000 in
theorem root_n (c : Cf) (hc : c.Good) (f : Nat) (hwith : WithN c f 1) (henc : EnclosedN c f) : RootN c f := by
 intro k op w h hop hk hne
 have htl := hc.tl
 have hk4 : k ≤ 100000 := by omega
 have HAT := hid (fun (w' : World) (hp : Ps c (k + 1) op w') => at_any_n c hc (k + 1) op 91 w' hp)
 have HENC := hid henc
 have HW := hid hwith
 have H := hid h
 have HOP := hid hop
 have HNE := hid hne
 have HW0 := hid h.low.size
 have HK := hid hk
 have hgl : c.g < w.heap.size := h.glt
 obtain ⟨ov, hb, _⟩ := h.box
 have q1 := hb.cell 1
 have z1 := hb.frozen 1
 clear hb h hne hwith hc hop
 refine Calls.via fun Q hQ => ?_
 have HQ := hid hQ
 clear hQ
 unfold pp0
 have e1 : ((k : Int) + 1) = ((k + 1 : Nat) : Int) := by simp
 have HE := hid e1
 clear e1
 go_enter Tryz.func108, Tryz.ntmps108
 go_wp2_with fail
 have hn := H.out.next hk ((k : Int) + 1) HE.out
 have hs : (w.setCell ⟨c.g, 1, none⟩ (.int .i64 ((k : Int) + 1))).heap.size = w.heap.size := by simp
 generalize (w.setCell ⟨c.g, 1, none⟩ (.int .i64 ((k : Int) + 1))) = W1 at hn hs ⊢
 have hbf : Blk (W1.alloc (.cells #[.int .i64 0, .int .i64 0] 88)) W1.heap.size 88 #[.int .i64 0, .int .i64 0] := Blk.new _ _ _
 have hp2 := hn.1.fresh ((Touch.refl _ _).alloc (.cells #[.int .i64 0, .int .i64 0] 88))
 have hm2 := hn.2.trans (Mp.fresh ((Touch.refl _ W1).alloc (.cells #[.int .i64 0, .int .i64 0] 88)))
 have hs2 : (W1.alloc (.cells #[.int .i64 0, .int .i64 0] 88)).heap.size = w.heap.size + 1 := by simp [hs]
 rw [hs] at hbf
 generalize (W1.alloc (.cells #[.int .i64 0, .int .i64 0] 88)) = W2 at hbf hp2 hm2 hs2 ⊢
 (try rw [hs])
 have HP2 := hid hp2
 have HM2 := hid hm2
 have HS2 := hid hs2
 have HBF := hid hbf
 clear hn hs hbf hp2 hm2 q1 z1 hs2
 refine (HAT.out _ HP2.out).mono ?_
 rintro _ w1 ⟨rfl, hf⟩
 have HF1 := hid hf
 clear hf
 unfold rootR at HNE HQ
 cases hat : Np.isM 91 (c.T.drop (k + 1)) with
 | false =>
  rw [hat, if_neg Bool.false_ne_true] at HNE HQ
  clear hat
  have HNE := hid (R.map_out HNE.out)
  go_wp2_with fail
  refine (slot_any_n none (0) 0 _).mono ?_
  rintro _ w4 ⟨rfl, hf4⟩
  have hff := (HF1.out.trans hf4).alloc (.cells #[.int .i64 1, .string ⟨#[]⟩, .int .i64 0, .slice none 0 0] 24)
  have hlit : TreT w.heap.size (w4.alloc (.cells #[.int .i64 1, .string ⟨#[]⟩, .int .i64 0, .slice none 0 0] 24)) [Np.slot []] (.slice (some ⟨w4.heap.size, 0, none⟩) 1 1) := TreT.lit (n := Np.slot []) (TreT.nil _ _) (by have := (HF1.out.trans hf4).size; have := HS2.out; omega) (by simp [Np.slot, maxLen, Nd.text])
  go_wp2_with fail
  generalize (w4.alloc (.cells #[.int .i64 1, .string ⟨#[]⟩, .int .i64 0, .slice none 0 0] 24)) = W5 at hff hlit ⊢
  generalize w4.heap.size = b4 at hlit ⊢
  have HP2' := hid (HP2.out.fresh hff)
  have HM2' := hid (HM2.out.trans (Mp.fresh hff))
  have hbf5 := hff.blk HBF.out (fun h => h)
  have HBF' := hid hbf5
  have HS2' := hid (show w.heap.size < W5.heap.size from hbf5.lt)
  have HLIT := hid hlit
  clear hff hlit hbf5 HP2 HM2 HBF HS2 hf4
  have HP2 := HP2'
  have HM2 := HM2'
  have HBF := HBF'
  have HS2 := HS2'
  clear HP2' HM2' HBF' HS2'
  refine (HW.out (k + 1) op 6 [] [Np.slot []] (some ⟨b4, 0, none⟩) w.heap.size W5 HP2.out (by have := HOP.out; omega) (by simp [maxLen]) (by simp) (by have := HS2.out; omega) HLIT.out HNE.out).mono ?_
  intro e w3 hres
  generalize pArgs c.en f 1 op (c.T.drop (k + 1)) = r at HNE HQ hres
  cases r with
  | out => exact absurd rfl HNE.out
  | err i er =>
   obtain ⟨he0, A, n, cp, rfl, hm⟩ := hres
   have HM3 := hid (HM2.out.trans hm)
   have HBF3 := hid (hm.blk HBF.out (by omega) (by decide))
   have HE0 := hid he0
   clear hm he0
   obtain ⟨q0, q1, z0, z1, hlt3⟩ := Blk.two HBF3.out
   unfold failV
   go_wp2_with fail
   have n1 := HBF3.out.self2 (.int .i64 (i : Int)) (.int .i64 (er : Int))
   have hm4 : Mp c.g c.W0.heap.size w (put2 w3 w.heap.size (.int .i64 (i : Int)) (.int .i64 (er : Int))) := HM3.out.put2 (g := w.heap.size) (.inr (Nat.le_refl _)) (.int .i64 (i : Int)) (.int .i64 (er : Int))
   have ht4 := touch2 w3 w.heap.size (.int .i64 (i : Int)) (.int .i64 (er : Int))
   simp only [put2] at n1 hm4 ht4
   generalize (World.setCell (World.setCell w3 ⟨w.heap.size, 0, none⟩ _) ⟨w.heap.size, 1, none⟩ _) = W4 at n1 hm4 ht4 ⊢
   obtain ⟨f0, f1, _⟩ := Blk.two n1
   (try simp only [Exit.inBlock, Exit.then])
   refine bodyPost_ret (v := .tuple #[.slice A n cp, failV i er]) (by simp [failV, results, Tryz.results108, go_sem, f0, f1]) rfl ?_
   exact HQ.out _ _ ⟨HE0.out, A, n, cp, rfl, hm4⟩
  | ok ks rest =>
   obtain ⟨b, k', rfl, htr, hdr, hkk, hp, hm⟩ := hres
   have HM3 := hid (HM2.out.trans hm)
   have HBF3 := hid (hm.blk HBF.out (by omega) (by decide))
   have HTR := hid htr
   have HDR := hid hdr
   have HKK := hid hkk
   have HP3 := hid hp
   clear hm htr hdr hkk hp
   obtain ⟨q0, q1, z0, z1, hlt3⟩ := Blk.two HBF3.out
   unfold failV
   go_wp2_with fail
   have n1 := HBF3.out.self2 (.int .i64 0) (.int .i64 0)
   have hm4 : Mp c.g c.W0.heap.size w (put2 w3 w.heap.size (.int .i64 0) (.int .i64 0)) := HM3.out.put2 (g := w.heap.size) (.inr (Nat.le_refl _)) (.int .i64 0) (.int .i64 0)
   have ht4 := touch2 w3 w.heap.size (.int .i64 0) (.int .i64 0)
   simp only [put2] at n1 hm4 ht4
   generalize (World.setCell (World.setCell w3 ⟨w.heap.size, 0, none⟩ _) ⟨w.heap.size, 1, none⟩ _) = W4 at n1 hm4 ht4 ⊢
   obtain ⟨f0, f1, _⟩ := Blk.two n1
   (try simp only [Exit.inBlock, Exit.then])
   refine bodyPost_ret (v := .tuple #[.slice (some ⟨b, 0, none⟩) 1 1, failV 0 0]) (by simp [failV, results, Tryz.results108, go_sem, f0, f1]) rfl ?_
   have hps := HP3.out.mv ht4 (fun b hb => by have := HW0.out; subst hb; exact ⟨by omega, by omega, _, _, (by decide), HBF3.out⟩)
   exact HQ.out _ _ ⟨_, 1, k', rfl, HTR.out.other HBF3.out (by decide) ht4, HDR.out, by have := HKK.out; omega, hps, hm4⟩
 | true =>
  have HLT := hid (isM_lt hat)
  rw [hat, if_pos rfl] at HNE HQ
  clear hat
  go_wp2_with fail
  have hf5 := HF1.out.alloc (.cells #[.int .i64 0, .int .i64 0] 88)
  have hb5 := hf5.blk HBF.out (fun h => h)
  have hx5 := Blk.new w1 88 #[.int .i64 0, .int .i64 0]
  have hz5 : (w1.alloc (.cells #[.int .i64 0, .int .i64 0] 88)).heap.size = w1.heap.size + 1 := by simp
  generalize (w1.alloc (.cells #[.int .i64 0, .int .i64 0] 88)) = W5 at hf5 hb5 hx5 hz5 ⊢
  have HSX := hid (show w.heap.size < w1.heap.size from by have := HF1.out.size; have := HS2.out; omega)
  have HP5 := hid (HP2.out.fresh hf5)
  have HM5 := hid (HM2.out.trans (Mp.fresh hf5))
  have HB5 := hid hb5
  have HX5 := hid hx5
  clear hf5 hb5 hx5
  refine (HENC.out (k + 1) op 93 W5 HP5.out (by have := HOP.out; omega) HLT.out (fun h => HNE.out (by rw [h]; rfl))).mono ?_
  intro e w3 hres
  generalize pIn c.en f 93 op (c.T.drop (k + 1)) = X at HNE HQ hres
  cases X with
  | out => exact absurd rfl HNE.out
  | err i er =>
   obtain ⟨he0, A, n, cp, rfl, hm⟩ := hres
   have HE0 := hid he0
   have e0 := fail_ne he0
   have HM6 := hid (HM5.out.trans hm)
   have HB6 := hid (hm.blk HB5.out (by omega) (by decide))
   have HX6 := hid (hm.blk HX5.out (by have := HSX.out; omega) (by decide))
   obtain ⟨q0, q1, z0, z1, hlt3⟩ := Blk.two HX6.out
   clear hm he0
   unfold failV
   go_wp2_with fail
   have hne : w.heap.size ≠ w1.heap.size := by have := HSX.out; omega
   have hbe := HX6.out.self2 (.int .i64 (i : Int)) (.int .i64 (er : Int))
   have hbr := HB6.out.far2 hne (.int .i64 (i : Int)) (.int .i64 (er : Int))
   have hmr : Mp c.g c.W0.heap.size w (put2 w3 w1.heap.size (.int .i64 (i : Int)) (.int .i64 (er : Int))) := HM6.out.put2 (g := w1.heap.size) (.inr (by have := HSX.out; omega)) (.int .i64 (i : Int)) (.int .i64 (er : Int))
   clear q0 q1 z0 z1 hlt3
   simp only [put2] at hbe hbr hmr
   generalize (World.setCell (World.setCell w3 ⟨w1.heap.size, 0, none⟩ _) ⟨w1.heap.size, 1, none⟩ _) = W3 at hbe hbr hmr ⊢
   have r0 := cell_regrown (hbe.cell 0 |>.trans rfl)
   have r1 := cell_regrown (hbe.cell 1 |>.trans rfl)
   have hlt3 := hbe.lt
   have HBR := hid hbr
   have HMR := hid hmr
   clear hbe hbr hmr
   refine wp_region_mix [([(0, true), (1, true)], 2)] [] (by kernel_rfl) (fun _ _ d _ _ h => by cases d <;> exact h) (by kernel_rfl) ?_
   refine wpMix_seg ?_
   repeat (refine wpSeq_plain rfl (fun K hK => ?_); go_simp; refine hK _ ?_; clear hK K)
   obtain ⟨p0, p1, y0, y1, hlt⟩ := Blk.two (HBR.out.drewN 1)
   refine wpSeq_shut rfl (fun K hK => ?_)
   go_wp2_with fail
   refine wpMix_end ?_
   go_wp2_with fail
   have hb5 : Blk _ (w.heap.size) 88 #[.int .i64 (i : Int), .int .i64 (er : Int)] := ((HBR.out.drewN 1).put 0 (.int .i64 (i : Int))).put 1 (.int .i64 (er : Int))
   have hm5 := ((HMR.out.drewN 1).setCell (p := ⟨w.heap.size, 0, none⟩) (.inr (by show w.heap.size ≤ w.heap.size; omega)) (.int .i64 (i : Int))).setCell (p := ⟨w.heap.size, 1, none⟩) (.inr (by show w.heap.size ≤ w.heap.size; omega)) (.int .i64 (er : Int))
   obtain ⟨f0, f1, _⟩ := Blk.two hb5
   (try simp only [Exit.inBlock, Exit.then])
   refine bodyPost_ret (v := .tuple #[.slice none 0 0, failV i er]) (by simp [failV, results, Tryz.results108, go_sem, f0, f1]) rfl ?_
   exact HQ.out _ _ ⟨HE0.out, none, 0, 0, rfl, hm5⟩
  | ok d rest =>
   obtain ⟨A, cp, k2, rfl, htr, rfl, hkk, hp, hm⟩ := hres
   have HTR6 := hid htr
   have HKK6 := hid hkk
   have HP6 := hid hp
   have HM6 := hid (HM5.out.trans hm)
   have HB6 := hid (hm.blk HB5.out (by omega) (by decide))
   have HX6 := hid (hm.blk HX5.out (by have := HSX.out; omega) (by decide))
   obtain ⟨q0, q1, z0, z1, hlt3⟩ := Blk.two HX6.out
   have HZ6 := hid (show w.heap.size < W5.heap.size from by have := HSX.out; omega)
   clear hm htr hkk hp
   unfold failV
   go_wp2_with fail
   have hne : w.heap.size ≠ w1.heap.size := by have := HSX.out; omega
   have hw6 := touch2 w3 w1.heap.size (.int .i64 0) (.int .i64 0)
   have hb7 := HB6.out.far2 hne (.int .i64 0) (.int .i64 0)
   have hp7 := HP6.out.mv hw6 (fun b hb => by have := HSX.out; have := HW0.out; subst hb; exact ⟨by omega, by omega, _, _, (by decide), HX6.out⟩)
   have hm7 : Mp c.g c.W0.heap.size w (put2 w3 w1.heap.size (.int .i64 0) (.int .i64 0)) := HM6.out.put2 (g := w1.heap.size) (.inr (by have := HSX.out; omega)) (.int .i64 0) (.int .i64 0)
   have ht7 := (HTR6.out.base (Nat.le_of_lt HZ6.out)).other HX6.out (by decide) hw6
   clear q0 q1 z0 z1 hlt3
   simp only [put2] at hw6 hb7 hp7 hm7 ht7
   generalize (World.setCell (World.setCell w3 ⟨w1.heap.size, 0, none⟩ _) ⟨w1.heap.size, 1, none⟩ _) = W2' at hw6 hb7 hp7 hm7 ht7 ⊢
   clear HP2 HM2 HBF HS2
   have HP2 := hid hp7
   have HM2 := hid hm7
   have HBF := hid hb7
   have HS2 := hid (show W2'.heap.size ≥ w.heap.size + 1 from by have := hb7.lt; omega)
   have HT7 := hid ht7
   clear hw6 hb7 hp7 hm7 ht7
   have HNE := hid (show pArgs c.en f 1 op (c.T.drop k2) ≠ .out from R.map_out HNE.out)
   have HQ := hid (show ∀ e w', ItemsE c k op ((pArgs c.en f 1 op (c.T.drop k2)).map fun ks => [.mk 6 [] 0 (Np.slot d :: ks)]) w e w' → Q e w' from HQ.out)
   refine (slot_any_n A (d.length) cp _).mono ?_
   rintro _ w4 ⟨rfl, hf4⟩
   have hff := ((Touch.refl _ _ : Fresh W2' W2').trans hf4).alloc (.cells #[.int .i64 1, .string ⟨#[]⟩, .int .i64 0, .slice A d.length cp] 24)
   have hlit : TreT w.heap.size (w4.alloc (.cells #[.int .i64 1, .string ⟨#[]⟩, .int .i64 0, .slice A d.length cp] 24)) [Np.slot d] (.slice (some ⟨w4.heap.size, 0, none⟩) 1 1) := TreT.lit (n := Np.slot d) (HT7.out.fresh ((Touch.refl _ _ : Fresh W2' W2').trans hf4)) (by have := ((Touch.refl _ _ : Fresh W2' W2').trans hf4).size; have := HS2.out; omega) (by simp [Np.slot, maxLen, Nd.text])
   go_wp2_with fail
   generalize (w4.alloc (.cells #[.int .i64 1, .string ⟨#[]⟩, .int .i64 0, .slice A d.length cp] 24)) = W5 at hff hlit ⊢
   generalize w4.heap.size = b4 at hlit ⊢
   have HP2' := hid (HP2.out.fresh hff)
   have HM2' := hid (HM2.out.trans (Mp.fresh hff))
   have hbf5 := hff.blk HBF.out (fun h => h)
   have HBF' := hid hbf5
   have HS2' := hid (show w.heap.size < W5.heap.size from hbf5.lt)
   have HLIT := hid hlit
   clear hff hlit hbf5 HP2 HM2 HBF HS2 hf4
   have HP2 := HP2'
   have HM2 := HM2'
   have HBF := HBF'
   have HS2 := HS2'
   clear HP2' HM2' HBF' HS2'
   refine (HW.out (k2) op 6 [] [Np.slot d] (some ⟨b4, 0, none⟩) w.heap.size W5 HP2.out (by have := HOP.out; have := HKK6.out; omega) (by simp [maxLen]) (by simp) (by have := HS2.out; omega) HLIT.out HNE.out).mono ?_
   intro e w3 hres
   generalize pArgs c.en f 1 op (c.T.drop (k2)) = r at HNE HQ hres
   cases r with
   | out => exact absurd rfl HNE.out
   | err i er =>
    obtain ⟨he0, A, n, cp, rfl, hm⟩ := hres
    have HM3 := hid (HM2.out.trans hm)
    have HBF3 := hid (hm.blk HBF.out (by omega) (by decide))
    have HE0 := hid he0
    clear hm he0
    obtain ⟨q0, q1, z0, z1, hlt3⟩ := Blk.two HBF3.out
    unfold failV
    go_wp2_with fail
    have n1 := HBF3.out.self2 (.int .i64 (i : Int)) (.int .i64 (er : Int))
    have hm4 : Mp c.g c.W0.heap.size w (put2 w3 w.heap.size (.int .i64 (i : Int)) (.int .i64 (er : Int))) := HM3.out.put2 (g := w.heap.size) (.inr (Nat.le_refl _)) (.int .i64 (i : Int)) (.int .i64 (er : Int))
    have ht4 := touch2 w3 w.heap.size (.int .i64 (i : Int)) (.int .i64 (er : Int))
    simp only [put2] at n1 hm4 ht4
    generalize (World.setCell (World.setCell w3 ⟨w.heap.size, 0, none⟩ _) ⟨w.heap.size, 1, none⟩ _) = W4 at n1 hm4 ht4 ⊢
    obtain ⟨f0, f1, _⟩ := Blk.two n1
    (try simp only [Exit.inBlock, Exit.then])
    refine bodyPost_ret (v := .tuple #[.slice A n cp, failV i er]) (by simp [failV, results, Tryz.results108, go_sem, f0, f1]) rfl ?_
    exact HQ.out _ _ ⟨HE0.out, A, n, cp, rfl, hm4⟩
   | ok ks rest =>
    obtain ⟨b, k', rfl, htr, hdr, hkk, hp, hm⟩ := hres
    have HM3 := hid (HM2.out.trans hm)
    have HBF3 := hid (hm.blk HBF.out (by omega) (by decide))
    have HTR := hid htr
    have HDR := hid hdr
    have HKK := hid hkk
    have HP3 := hid hp
    clear hm htr hdr hkk hp
    obtain ⟨q0, q1, z0, z1, hlt3⟩ := Blk.two HBF3.out
    unfold failV
    go_wp2_with fail
    have n1 := HBF3.out.self2 (.int .i64 0) (.int .i64 0)
    have hm4 : Mp c.g c.W0.heap.size w (put2 w3 w.heap.size (.int .i64 0) (.int .i64 0)) := HM3.out.put2 (g := w.heap.size) (.inr (Nat.le_refl _)) (.int .i64 0) (.int .i64 0)
    have ht4 := touch2 w3 w.heap.size (.int .i64 0) (.int .i64 0)
    simp only [put2] at n1 hm4 ht4
    generalize (World.setCell (World.setCell w3 ⟨w.heap.size, 0, none⟩ _) ⟨w.heap.size, 1, none⟩ _) = W4 at n1 hm4 ht4 ⊢
    obtain ⟨f0, f1, _⟩ := Blk.two n1
    (try simp only [Exit.inBlock, Exit.then])
    refine bodyPost_ret (v := .tuple #[.slice (some ⟨b, 0, none⟩) 1 1, failV 0 0]) (by simp [failV, results, Tryz.results108, go_sem, f0, f1]) rfl ?_
    have hps := HP3.out.mv ht4 (fun b hb => by have := HW0.out; subst hb; exact ⟨by omega, by omega, _, _, (by decide), HBF3.out⟩)
    exact HQ.out _ _ ⟨_, 1, k', rfl, HTR.out.other HBF3.out (by decide) ht4, HDR.out, by have := HKK.out; have := HKK6.out; omega, hps, hm4⟩
end Go.Proofs.YtdacpbdamliafaaGreat
