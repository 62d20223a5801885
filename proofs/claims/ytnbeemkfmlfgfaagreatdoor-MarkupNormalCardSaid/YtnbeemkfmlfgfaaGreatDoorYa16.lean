/- Part 16 of 35 of a proof; its texts, joined: XpF, XpG, XpH. No condition. -/
import Derived.Test.YtnbeemkfmlfgfaaGreatDoorYa15
import Derived.Laws.IdiomStrings
import Derived.Laws.BytesArg
import Derived.Lib.ConvBytes
import Derived.Test.YtnbeemkfmlfgfaaGreatDoorYa14
set_option maxRecDepth 100000
set_option maxHeartbeats 4000000
namespace Go.Proofs.YtnbeemkfmlfgfaaGreatDoor
open Go.RowKit
open Xp (Rs Sfx charR replR textR)
namespace Xp
theorem replR_lt (c : Nat) : ∀ (l p : List UInt8) (x : UInt8) (l2 : List UInt8) (c2 : Nat), replR c p l = .ok x l2 c2 → l2.length < l.length
 | [], p, x, l2, c2, h => by rw [replR] at h; cases h
 | b :: l, p, x, l2, c2, h => by
  rw [replR] at h;split at h
  ·cases h; rw [List.length_cons]; omega
  ·split at h
   ·have := replR_lt c l _ x l2 c2 h
    rw [List.length_cons]; omega
   ·cases h
theorem charR_lt {n c : Nat} {l : List UInt8} {x : UInt8} {l2 : List UInt8} {c2 : Nat} (h : charR n c l = .ok x l2 c2) : l2.length < l.length := by
 cases l with
 | nil => cases h
 | cons b l =>
  have h : (if 200 ≤ n ∨ b = 60 ∨ El.printable b = false then Rs.bad (b :: l) else if b = 38 then replR c [] (b :: l) else .ok b l c) = .ok x l2 c2 := h;split at h
  ·cases h
  ·split at h
   ·exact replR_lt c _ _ _ _ _ h
   ·cases h; rw [List.length_cons]; omega
theorem charR_n {n c : Nat} {l : List UInt8} {x : UInt8} {l2 : List UInt8} {c2 : Nat} (h : charR n c l = .ok x l2 c2) : n < 200 := by
 cases l with
 | nil => cases h
 | cons b l =>
  have h : (if 200 ≤ n ∨ b = 60 ∨ El.printable b = false then Rs.bad (b :: l) else if b = 38 then replR c [] (b :: l) else .ok b l c) = .ok x l2 c2 := h;split at h
  ·cases h
  ·rename_i hn
   simp only [not_or] at hn;omega
theorem replR_cnt (c : Nat) : ∀ (l p : List UInt8) (x : UInt8) (l2 : List UInt8) (c2 : Nat), replR c p l = .ok x l2 c2 → c2 = c
 | [], p, x, l2, c2, h => by rw [replR] at h; cases h
 | b :: l, p, x, l2, c2, h => by
  rw [replR] at h;split at h
  ·cases h; rfl
  ·split at h
   ·exact replR_cnt c l _ x l2 c2 h
   ·cases h
theorem charR_cnt {n c : Nat} {l : List UInt8} {x : UInt8} {l2 : List UInt8} {c2 : Nat} (h : charR n c l = .ok x l2 c2) : c2 = c := by
 cases l with
 | nil => cases h
 | cons b l =>
  have h : (if 200 ≤ n ∨ b = 60 ∨ El.printable b = false then Rs.bad (b :: l) else if b = 38 then replR c [] (b :: l) else .ok b l c) = .ok x l2 c2 := h;split at h
  ·cases h
  ·split at h
   ·exact replR_cnt c _ _ _ _ _ h
   ·cases h; rfl
theorem textR_fuel' (q : UInt8) (c : Nat) : ∀ (m f : Nat) (acc l : List UInt8), l.length ≤ m → l.length < f → textR q c f acc l = textR q c (l.length + 1) acc l := by
 intro m
 induction m with
 | zero =>
  intro f acc l hm hf;obtain ⟨f, rfl⟩ : ∃ k, f = k + 1 := ⟨f - 1, by omega⟩;have : l = [] := List.length_eq_zero_iff.1 (by omega);subst this;rw [textR, textR]
 | succ m ih =>
  intro f acc l hm hf;obtain ⟨f, rfl⟩ : ∃ k, f = k + 1 := ⟨f - 1, by omega⟩;cases l with
  | nil => rw [textR, textR]
  | cons b l =>
   rw [textR, textR];split
   ·rfl
   ·cases hc : charR acc.length c (b :: l) with
    | bad l2 => rfl
    | ok x l2 c2 =>
     have h1 := charR_lt hc;rw [List.length_cons] at hm hf h1
     dsimp only
     rw [ih f (acc ++ [x]) l2 (by omega) (by omega), ih (b :: l).length (acc ++ [x]) l2 (by omega) (by rw [List.length_cons]; omega)]
theorem textR_fuel (q : UInt8) (c : Nat) (f : Nat) (acc l : List UInt8) (h : l.length < f) : textR q c f acc l = textR q c (l.length + 1) acc l := textR_fuel' q c _ f acc l (Nat.le_refl _) h
def textA (q : UInt8) (c : Nat) (acc l : List UInt8) : Rs (List UInt8) := textR q c (l.length + 1) acc l
theorem textA_nil (q : UInt8) (c : Nat) (acc : List UInt8) : textA q c acc [] = .bad [] := by unfold textA; rw [textR]
theorem textA_end (q : UInt8) (c : Nat) (acc l : List UInt8) : textA q c acc (q :: l) = .ok acc (q :: l) c := by unfold textA; rw [textR]; exact if_pos rfl
theorem textA_bad {q : UInt8} {c : Nat} {acc l : List UInt8} {b : UInt8} (hb : ¬ b = q) {l2 : List UInt8} (hc : charR acc.length c (b :: l) = .bad l2) : textA q c acc (b :: l) = .bad l2 := by unfold textA; rw [textR, if_neg hb, hc]
theorem textA_step {q : UInt8} {c : Nat} {acc l : List UInt8} {b : UInt8} (hb : ¬ b = q) {x : UInt8} {l2 : List UInt8} {c2 : Nat} (hc : charR acc.length c (b :: l) = .ok x l2 c2) : textA q c acc (b :: l) = textA q c (acc ++ [x]) l2 := by
 unfold textA;rw [textR, if_neg hb, hc];exact textR_fuel q c _ _ _ (charR_lt hc)
end Xp
def OwnM (B : Nat) (w : World) (acc : List UInt8) (v : Value) : Prop := (acc = [] ∧ v = .slice none 0 0) ∨
 ∃ g cap cur fz, v = .slice (some ⟨g, 0, none⟩) acc.length cap ∧ B ≤ g ∧ w.heap[g]? = some (.cells cur 5 fz) ∧ (fz.2 = 0 ∨ cap ≤ fz.1) ∧ acc.length ≤ cap ∧ cap ≤ maxLen ∧ cur.size = cap ∧ cur.toList.take acc.length = Lib.byteCells acc
def GrowB (B : Nat) (w : World) (acc : List UInt8) (v : Value) : Prop := B ≤ w.heap.size ∧ OwnM B w acc v
theorem GrowB.nil {B : Nat} {w : World} (hB : B ≤ w.heap.size) : GrowB B w [] (.slice none 0 0) := ⟨hB, .inl ⟨rfl, rfl⟩⟩
theorem GrowB.own_lt {B : Nat} {w : World} {acc : List UInt8} {v : Value} (h : GrowB B w acc v) : ∀ k, v.ownBlock = some k → B ≤ k ∧ k < w.heap.size := by
 intro k hk
 rcases h.2 with ⟨_, rfl⟩ | ⟨g, cap, cur, fz, rfl, hb, hg, _⟩
 ·cases hk
 ·cases hk
  exact ⟨hb, (Array.getElem?_eq_some_iff.1 hg).1⟩
theorem GrowB.mv {B : Nat} {w w1 : World} {acc : List UInt8} {v : Value} {S : Nat → Prop} (h : GrowB B w acc v) (ht : Touch S w w1) (hS : ∀ k, S k → k < w.heap.size → k < B) : GrowB B w1 acc v := by
 refine ⟨Nat.le_trans h.1 ht.size, ?_⟩
 rcases h.2 with h | ⟨g, cap, cur, fz, rfl, hb, hg, r⟩
 ·exact .inl h
 ·have hl := (Array.getElem?_eq_some_iff.1 hg).1
  exact .inr ⟨g, cap, cur, fz, rfl, hb, (ht.block g hl fun hs => by have := hS g hs hl; omega).trans hg, r⟩
theorem GrowB.fresh {B : Nat} {w w1 : World} {acc : List UInt8} {v : Value} (h : GrowB B w acc v) (ht : Fresh w w1) : GrowB B w1 acc v := h.mv ht fun _ h => h.elim
theorem GrowB.slice {B : Nat} {w : World} {acc : List UInt8} {v : Value} (h : GrowB B w acc v) : ∃ A cap, v = .slice A acc.length cap := by
 rcases h.2 with ⟨rfl, rfl⟩ | ⟨g, cap, cur, fz, rfl, _⟩
 ·exact ⟨none, 0, rfl⟩
 ·exact ⟨_, _, rfl⟩
theorem GrowB.conv (w : World) (s : ByteArray) (hs : s.size ≤ 1099511627776) : GrowB w.heap.size (Lib.bytesWorld w 5 s) s.data.toList (.slice (some ⟨w.heap.size, 0, none⟩) s.size (grownCap w s.size 0 5)) ∧ Fresh w (Lib.bytesWorld w 5 s) := by
 have hge := grownCap_ge w s.size 0 5;have hcm : grownCap w s.size 0 5 ≤ maxLen := grownCap_le_maxLen w s.size 0 5 (by simp only [maxLen]; omega);have hl : s.data.toList.length = s.size := by simp
 have hcs : (Lib.bytesCells w 5 s).size = grownCap w s.size 0 5 := by
  unfold Lib.bytesCells;rw [Array.size_append, Array.size_map, Array.size_replicate];show s.size + _ = _;omega
 refine ⟨⟨by rw [Lib.bytesWorld_size]; omega, .inr ⟨w.heap.size, grownCap w s.size 0 5, _, _, by rw [hl], Nat.le_refl _, Lib.bytesWorld_at_new w 5 s, .inr (by rw [hcs]; exact Nat.le_refl _), by rw [hl]; exact hge, hcm, hcs, ?_⟩⟩, ?_⟩
 ·unfold Lib.bytesCells
  rw [Array.toList_append, hl, List.take_append_of_le_length (by simp)];rw [List.take_of_length_le (by simp)];simp [Lib.byteCells]
 ·refine ⟨?_, ?_, ?_, by rw [Lib.bytesWorld_size]; omega, fun k hk _ => Lib.bytesWorld_at_old w 5 s k hk⟩
  all_goals
   unfold Lib.bytesWorld World.freeze;split <;> rfl
section
variable {w : World} {ops : Array Oper} {rest : List Oper} {o : Oper} {a : Act} {Q : Exit → Act → World → Prop}
theorem run_append_byte {P : Program} {t ty e : TypeId} {i : TypeInfo} (ht : P.underlying t = some (.slice e)) (hi : P.info? e = some i) (hs1 : i.size = 1) {g n cap : Nat} {cur : Array Value} {fz : Nat × Nat} (hg : w.heap[g]? = some (.cells cur e fz)) (hfz : fz.2 = 0 ∨ cap ≤ fz.1) (hcs : cur.size = cap)
  (ad : Addr) (u : Value) (hu : w.cell? ad = some u) (h1 : u.oneCell' = true) (hroom : n + 1 ≤ cap) :
  (Builtin.append_ #[t, t] ty #[.slice (some ⟨g, 0, none⟩) n cap, .slice (some ad) 1 1]).run P w = .ok (.slice (some ⟨g, 0, none⟩) (n + 1) cap) (w.setCell ⟨g, n, none⟩ u) := by
 have hf := run_firstCells_some (P := P) w 1 1 ad 1 1 [u] rfl (fun j x hx => by
  match j, hx with
  | 0, hx =>
   cases hx;have : ad.add 0 = ad := by unfold Addr.add; split <;> simp_all
   rw [this]; exact hu)
 have hadd : (⟨g, n, none⟩ : Addr).add 0 = ⟨g, n, none⟩ := by unfold Addr.add; split <;> simp_all
 have hcell : w.cell? ⟨g, n, none⟩ = some cur[n] := by
  have hi : n < cur.size := by omega
  simp [World.cell?, hg, hi]
 have hfro : w.frozen? ⟨g, n, none⟩ = false := by
  obtain ⟨lo, hi'⟩ := fz;simp only [World.frozen?, hg, Bool.and_eq_false_iff, decide_eq_false_iff_not]
  rcases hfz with h | h
  ·right; simp only at h; omega
  ·left; simp only at h; omega
 have hst : (store ((⟨g, n, none⟩ : Addr).add 0) u).run P w = .ok () (w.setCell ⟨g, n, none⟩ u) := by
  rw [hadd, run_store P w _ u _ h1, hcell];simp [hfro]
 have hst2 : (storeCells ⟨g, n, none⟩ [u] 0).run P w = .ok () (w.setCell ⟨g, n, none⟩ u) := by
  simp only [storeCells, Sem.run_bind, hst, Result.andThen_ok];rfl
 simp [Builtin.append_, run_underlying ht, sizeOf, typeInfo, hi, hs1, Builtin.lenOf, hroom, hf, Addr.add_lit, hst2]
theorem wpList_append_byte (hgd : o.guard = none) (s x : Operand)
  (ho : o.op = .call { callee := .builtin .append, args := #[s, x], argTypes := #[65, 65] })
  {B n g : Nat} {acc : List UInt8} {v : Value} (h : GrowB B w acc v) (hn : acc.length = n) (hs : a.eval s = v) (b : UInt8) (hb : Blk w g 5 #[.int .u8 (b.toNat : Int)]) (hx : a.eval x = .slice (some ⟨g, 0, none⟩) 1 1) (hlen : n < 2 ^ 40)
  (hK : ∀ A cp w', GrowB B w' (acc ++ [b]) (.slice A (n + 1) cp) → Touch (fun k => v.ownBlock = some k) w w' → wpList Tryz.prog ops Q rest (a.put o.dst (.slice A (n + 1) cp)) w') : wpList Tryz.prog ops Q (o :: rest) a w := by
 subst hn;obtain ⟨hBw, hOw⟩ := h;obtain ⟨i, hi, hz0, hz1, hz2⟩ := info_parts infoU8
 have own : ∀ v', w.ownsRow B 5 1 v' acc.length (Lib.byteCells acc) → v' = v → wpList Tryz.prog ops Q (o :: rest) a w := by
  intro v' h1 hv';subst hv';refine wpList_append_src _ hgd s x 65 ho B 5 i _ 1 1 Tryz.underlying65 hi hz0 hz1 hz2 rfl (by decide) v' acc.length (Lib.byteCells acc) hs h1 _ 1 _ hx (Src.of_blk hb rfl) (by simp [Value.oneCell']) (by simp only [maxLen]; omega) (by omega) hBw fun v2 w' ho' hgr hv2 => ?_
  obtain ⟨A, cp, rfl⟩ := own_slc ho';have ht : Touch (fun k => v'.ownBlock = some k) w w' := Touch.grown (Touch.refl _ _) hgr fun k hk => .inl hk
  refine hK A cp w' ⟨Nat.le_trans hBw hgr.size, ?_⟩ ht
  rcases ho'.2 with ⟨h1, h2⟩ | ⟨g', cap, cur, h1, hB, hg', hn', hc', hcs', hcu⟩
  ·omega
  ·refine .inr ⟨g', cap, cur, (0, 0), by rw [h1, List.length_append]; rfl, hB, hg', .inl rfl, by rw [List.length_append]; exact hn', hc', by simpa using hcs', ?_⟩
   rw [List.length_append];simp only [Nat.mul_one] at hcu;rw [byteCells_snoc];exact hcu
 rcases hOw with ⟨rfl, rfl⟩ | ⟨g', cap, cur, fz, rfl, hB, hg', hfz, hn', hc', hcs', hcu⟩
 ·exact own _ (World.ownsRow_nil _ _ _ _) rfl
 ·by_cases hroom : acc.length + 1 ≤ cap
  ·have hr := run_append_byte (P := Tryz.prog) (ty := o.type) Tryz.underlying65 hi hz1 hg' hfz hcs' ⟨g, 0, none⟩ (.int .u8 (b.toNat : Int)) (by rw [hb.cell]; rfl) rfl hroom
   refine wpList_plain hgd fun K hKK => ?_
   unfold Oper.wp execOp;simp only [ho, resolve, invoke, builtin, Sem.run_bind, Sem.run_pure, Result.andThen_ok, List.map_toArray, List.map_cons, List.map_nil, hs, hx, hr];refine hKK _ _ (hK (some ⟨g', 0, none⟩) cap _ ⟨?_, .inr ⟨g', cap, cur.setIfInBounds acc.length (.int .u8 (b.toNat : Int)), fz, by rw [List.length_append]; rfl, hB, ?_, hfz, by rw [List.length_append]; exact hroom, hc', by rw [Array.size_setIfInBounds]; exact hcs', ?_⟩⟩ ?_)
   ·simpa [World.setCell] using hBw
   ·simp [World.setCell, Array.getElem?_modify, hg']
   ·rw [Array.toList_setIfInBounds, List.length_append, byteCells_snoc, ← hcu]
    show (cur.toList.set acc.length _).take (acc.length + 1) = _;rw [List.take_add_one, List.take_set_of_le (Nat.le_refl _), List.getElem?_set_self (by simpa using (by omega : acc.length < cur.size))];rfl
   ·exact (Touch.refl (fun k => Value.ownBlock (.slice (some ⟨g', 0, none⟩) acc.length cap) = some k) w).setCell (p := ⟨g', acc.length, none⟩) (.inl rfl) _
  ·have hxl : (Lib.byteCells acc).length = acc.length := Lib.byteCells_length acc
   have holds : ∀ j u, (Lib.byteCells acc)[j]? = some u → w.cell? ((⟨g', 0, none⟩ : Addr).add j) = some u := by
    intro j u hu;rw [Addr.add_mid, Nat.zero_add, cell_of_row w g' j cur 5 fz hg'];rw [← hcu, List.getElem?_take] at hu;split at hu
    ·simpa using hu
    ·cases hu
   have hge := grownCap_ge w (acc.length + 1) cap 5;have hcm : grownCap w (acc.length + 1) cap 5 ≤ maxLen := grownCap_le_maxLen w (acc.length + 1) cap 5 (by simp only [maxLen]; omega)
   have hr := run_append_grow (P := Tryz.prog) w 65 o.type 5 i _ Tryz.underlying65 hi hz0 ⟨g', 0, none⟩ acc.length cap (Lib.byteCells acc) (by rw [hz1, hxl, Nat.mul_one]) holds ⟨g, 0, none⟩ 1 1 [.int .u8 (b.toNat : Int)] (by rw [hz1]; rfl) (fun j u hu => by
    match j, hu with
    | 0, hu => cases hu; rw [Addr.add_mid, Nat.zero_add, hb.cell]; rfl) (by omega) (by simp only [maxLen] at hc'; omega) (by rw [hz2]; exact growslice_fits (by omega) (by omega))
   refine wpList_plain hgd fun K hKK => ?_
   unfold Oper.wp execOp;simp only [ho, resolve, invoke, builtin, Sem.run_bind, Sem.run_pure, Result.andThen_ok, List.map_toArray, List.map_cons, List.map_nil, hs, hx, hr];refine hKK _ _ (hK (some ⟨w.heap.size, 0, none⟩) _ _ ⟨?_, .inr ⟨w.heap.size, _, _, (0, 0), by rw [List.length_append]; rfl, hBw, heap_alloc_new w.drew _, .inl rfl, by rw [List.length_append]; exact hge, hcm, ?_, ?_⟩⟩ ?_)
   ·have : (w.drew).heap.size = w.heap.size := rfl
    simp
    omega
   ·simp only [Array.size_append, List.size_toArray, size_zeroCells, hxl]
    have : (Value.int IntKind.u8 0).cells.size = 1 := rfl;simp only [List.length_cons, List.length_nil, this];omega
   ·rw [List.length_append, byteCells_snoc, Array.toList_append, Array.toList_append]
    rw [List.take_append_of_le_length (by simp [hxl]), List.take_of_length_le (by simp [hxl])]
   ·exact ((Touch.refl _ _).drewN 1).alloc _
end
theorem GrowB.str {B : Nat} {w : World} {acc : List UInt8} {A : Option Addr} {n cap : Nat} (h : GrowB B w acc (.slice A n cap)) (hn : acc.length = n) : (convert 65 9 (.slice A n cap)).run Tryz.prog w = .ok (.string ⟨acc.toArray⟩) w := by
 subst hn
 rcases h.2 with ⟨h2, h1⟩ | ⟨g, cap', cur, fz, h1, hB, hg, _, _, _, _, hcu⟩
 ·injection h1 with e1 e2 e3
  subst e1;subst h2;exact run_convert_bytes_nil w 65 5 Tryz.underlying65 Tryz.underlying5 _ _ _ Tryz.underlying9
 ·cases h1
  refine run_convert_bytes_back w 65 9 5 ⟨g, 0, none⟩ cap acc Tryz.underlying65 Tryz.underlying5 Tryz.underlying9 fun j hj => ?_
  rw [Addr.add_mid, Nat.zero_add, cell_of_row w g j cur 5 fz hg];have h3 : (Lib.byteCells acc)[j]? = some (.int .u8 (acc[j].toNat : Int)) := by simp [Lib.byteCells, hj]
  rw [← hcu, List.getElem?_take] at h3;rw [if_pos hj] at h3;simpa using h3
end Go.Proofs.YtnbeemkfmlfgfaaGreatDoor
namespace Go.Proofs.YtnbeemkfmlfgfaaGreatDoor
open Go.RowKit
open Xp (Rs Sfx charR replR textR expectR nameR)
open El (E Attrs)
def XA (S : ByteArray) (g : Nat) (w : World) (r : Rs (List UInt8 × List UInt8)) (e : Ending) (w' : World) : Prop := match r with
 | .ok x l' c' => e = .returned (.agg #[.string ⟨x.1.toArray⟩, .string ⟨x.2.toArray⟩]) ∧ Touch (fun b => b = g) w w' ∧ Xr S g l' c' w'
 | .bad l' => XS S g w l' e w'
theorem Blk.two_ {w : World} {g : Nat} {t : TypeId} {x0 x1 : Value} (h : Blk w g t #[x0, x1]) :
  w.cell? ⟨g, 0, none⟩ = some x0 ∧ w.cell? ⟨g, 1, none⟩ = some x1 ∧ w.frozen? ⟨g, 0, none⟩ = false ∧ w.frozen? ⟨g, 1, none⟩ = false ∧ g < w.heap.size := ⟨h.cell 0, h.cell 1, h.frozen 0, h.frozen 1, h.lt⟩
def attrK3 (nm : List UInt8) (c : Nat) : Rs (List UInt8) → Rs (List UInt8 × List UInt8)
 | .bad l4 => .bad l4
 | .ok v l4 _ => .ok (nm, v) (l4.drop 1) c
def attrK2 (nm : List UInt8) (c : Nat) : Rs Unit → Rs (List UInt8 × List UInt8)
 | .bad l3 => .bad l3
 | .ok _ l3 _ => attrK3 nm c (Xp.textA 34 c [] l3)
def attrK (as_ : Attrs) (nm : List UInt8) (c : Nat) : List UInt8 → Rs (List UInt8 × List UInt8)
 | [] => .bad []
 | b :: l2 => if b ≠ 61 ∨ as_.any (fun x => x.1 == nm) = true then .bad (b :: l2) else attrK2 nm c (expectR 34 c l2)
theorem attrR_bad {as_ : Attrs} {c : Nat} {l l1 : List UInt8} (h : nameR c l = .bad l1) : Xp.attrR as_ c l = .bad l1 := by unfold Xp.attrR; rw [h]
theorem attrR_ok {as_ : Attrs} {c : Nat} {l nm l1 : List UInt8} {c1 : Nat} (h : nameR c l = .ok nm l1 c1) : Xp.attrR as_ c l = attrK as_ nm c l1 := by
 unfold Xp.attrR;rw [h];cases l1 with
 | nil => rfl
 | cons b l2 =>
  show (if _ then _ else _) = (if _ then _ else _);split
  ·rfl
  ·cases he : expectR 34 c l2 with
   | bad l3 => rfl
   | ok u l3 c3 =>
    cases ht : textR 34 c (l3.length + 1) [] l3 with
    | bad l4 => simp only [attrK2, attrK3, Xp.textA, ht]
    | ok v l4 c4 => simp only [attrK2, attrK3, Xp.textA, ht]
theorem nameR_cnt {c : Nat} {l x l1 : List UInt8} {c1 : Nat} (h : nameR c l = .ok x l1 c1) : c1 = c := by
 cases l with
 | nil => cases h
 | cons b l =>
  have h : (if El.letter b = true then Rs.ok ((b :: l).takeWhile El.inner) ((b :: l).dropWhile El.inner) c else .bad (b :: l)) = .ok x l1 c1 := h;split at h
  ·cases h; rfl
  ·cases h
theorem xattr_any (S : ByteArray) (g c : Nat) (l : List UInt8) (as_ : Attrs) (va : Value) (w : World) (hS : S.size ≤ 1099511627776) (has : Stab (fun b => b = g) w fun W => RepA W as_ va) (h : Xr S g l c w) : Calls Tryz.prog 168 #[.pointer (some ⟨g, 0, none⟩), va] w fun e w' => XA S g w (Xp.attrR as_ c l) e w' := by
 have HX := hid h;have HAS := hid has;have hg0 := h.lt;obtain ⟨A0, ca0, hva⟩ := has.now.slice;subst hva;clear h has;have HF0 := hid ((Touch.refl (fun _ => False) w).alloc (.cells #[.string ⟨#[]⟩, .string ⟨#[]⟩] 79));have HR0 := hid (Blk.new w 79 #[.string ⟨#[]⟩, .string ⟨#[]⟩]);cases hnm : nameR c l with
 | bad l1 =>
  have HFIN := hid (show Xp.attrR as_ c l = .bad l1 from attrR_bad hnm);go_enter Tryz.func168, Tryz.ntmps168;go_wp2_with fail
  refine (xname23_any S g c l _ hS (HX.out.fresh HF0.out)).mono ?_;intro e w1 he;rw [hnm] at he;obtain ⟨rfl, ht⟩ := he;refine ⟨rfl, (?_ : XA S g w (Xp.attrR as_ c l) _ _)⟩;rw [HFIN.out];exact ⟨rfl, (HF0.out.mono fun _ h => h.elim).trans ht⟩
 | ok nm l1 c1 =>
 have hc1 := nameR_cnt hnm;subst hc1;have HNM := hid hnm;have HA1 := hid (show Xp.attrR as_ c1 l = attrK as_ nm c1 l1 from attrR_ok hnm);clear hnm;go_enter Tryz.func168, Tryz.ntmps168;go_wp2_with fail
 refine (xname23_any S g c1 l _ hS (HX.out.fresh HF0.out)).mono ?_;intro e w1 he;rw [HNM.out] at he;obtain ⟨rfl, ht, hx⟩ := he;have HX1 := hid hx;have HT1 := hid (show Touch (fun b => b = g) w w1 from (HF0.out.mono fun _ h => h.elim).trans ht);have HR1 := hid (ht.blk HR0.out fun h => by omega);clear ht hx HF0 HR0 HX HNM;cases l1 with
 | nil =>
  have HFIN := hid (show Xp.attrR as_ c1 l = .bad [] from HA1.out);go_wp2_with fail
  refine (xpeek_end S g c1 _ HX1.out).mono ?_;rintro _ w2 ⟨rfl, ht⟩;refine ⟨rfl, (?_ : XA S g w (Xp.attrR as_ c1 l) _ _)⟩;rw [HFIN.out];exact ⟨rfl, HT1.out.trans ht⟩
 | cons b l2 =>
 by_cases hb : b = 61
 rotate_left
 focus
  have hbn : ((b.toNat : Int) != (61 : Int)) = true := u8_bne_of b 61 hb;have HFIN := hid (show Xp.attrR as_ c1 l = .bad (b :: l2) by rw [HA1.out]; exact if_pos (.inl hb));clear hb;go_wp2_with fail
  refine (xpeek_byte S g c1 b l2 _ HX1.out).mono ?_;rintro _ w2 ⟨rfl, hf⟩;have HX2 := hid (HX1.out.fresh hf);have HT2 := hid (HT1.out.trans (hf.mono fun _ h => h.elim));clear hf;go_wp2_with fail
  refine (xstop_any S g (b :: l2) c1 _ HX2.out).mono ?_;rintro _ w3 ⟨rfl, rfl⟩;refine ⟨rfl, (?_ : XA S g w (Xp.attrR as_ c1 l) _ _)⟩;rw [HFIN.out];exact ⟨rfl, HT2.out⟩
 have hbn : ((b.toNat : Int) != (61 : Int)) = false := u8_nbne_of b 61 hb;have HB61 := hid hb;clear hb;go_wp2_with fail
 refine (xpeek_byte S g c1 b l2 _ HX1.out).mono ?_;rintro _ w2 ⟨rfl, hf⟩;have HX2 := hid (HX1.out.fresh hf);have HT2 := hid (HT1.out.trans (hf.mono fun _ h => h.elim));have HR2 := hid (hf.blk HR1.out fun h => h);clear hf HX1 HR1;go_wp2_with fail
 refine (xhas_any as_ nm _ _ (HAS.out _ HT2.out)).mono ?_;rintro _ w3 ⟨rfl, hf⟩;have HX3 := hid (HX2.out.fresh hf);have HT3 := hid (HT2.out.trans (hf.mono fun _ h => h.elim));have HR3 := hid (hf.blk HR2.out fun h => h);clear hf HX2 HR2 HT1 HT2;cases hh : as_.any (fun x => x.1 == nm) with
 | true =>
  have HFIN := hid (show Xp.attrR as_ c1 l = .bad (b :: l2) by rw [HA1.out]; exact if_pos (.inr hh));go_wp2_with fail
  refine (xstop_any S g (b :: l2) c1 _ HX3.out).mono ?_;rintro _ w4 ⟨rfl, rfl⟩;refine ⟨rfl, (?_ : XA S g w (Xp.attrR as_ c1 l) _ _)⟩;rw [HFIN.out];exact ⟨rfl, HT3.out⟩
 | false =>
 have HA2 := hid (show Xp.attrR as_ c1 l = attrK2 nm c1 (expectR 34 c1 l2) by
  rw [HA1.out];exact if_neg (by rintro (h | h); exact h HB61.out; rw [hh] at h; cases h))
 clear HA1 hh;obtain ⟨q0, q1, q2, f0, f1, f2, hg⟩ := blk3 HX3.out.blk;have hle := HX3.out.len;have hw : IntKind.i64.wrap (((S.size - (b :: l2).length : Nat) : Int) + 1) = ((S.size - (b :: l2).length : Nat) : Int) + 1 := IntWalk.i64_in _ (by omega);have HX4 := hid HX3.out.adv;have HT4 := hid (HT3.out.setCell (p := ⟨g, 1, none⟩) (.inl rfl) (.int .i64 (((S.size - (b :: l2).length : Nat) : Int) + 1)));have HR4 := hid (HR3.out.far (p := ⟨g, 1, none⟩) (by show _ ≠ g; omega) (.int .i64 (((S.size - (b :: l2).length : Nat) : Int) + 1)));generalize S.size - (b :: l2).length = k at *;go_wp2_with fail
 generalize (w3.setCell ⟨g, 1, none⟩ (.int .i64 ((k : Int) + 1))) = w4 at HX4 HT4 HR4 ⊢;clear q0 q1 q2 f0 f1 f2 hg hle hw HX3 HT3 HR3;have HE34 := hid (show Calls Tryz.prog 109 #[.pointer (some ⟨g, 0, none⟩), .int .u8 34] w4 fun e w' => XU S g w4 (expectR 34 c1 l2) e w' from xexpect_any S g c1 34 l2 w4 hS HX4.out);refine HE34.out.mono ?_;intro e w5 he;cases hr : expectR 34 c1 l2 with
 | bad l3 =>
  have HFIN := hid (show Xp.attrR as_ c1 l = .bad l3 by rw [HA2.out, hr]; rfl);rw [hr] at he;obtain ⟨rfl, ht⟩ := he;refine ⟨rfl, (?_ : XA S g w (Xp.attrR as_ c1 l) _ _)⟩;rw [HFIN.out];exact ⟨rfl, HT4.out.trans ht⟩
 | ok u l3 c3 =>
 have hc3 := expectR_cnt hr;subst hc3;have HAR := hid (show Xp.attrR as_ c3 l = attrK3 nm c3 (Xp.textA 34 c3 [] l3) by rw [HA2.out, hr]; rfl);rw [hr] at he;obtain ⟨rfl, ht, hx⟩ := he;have HX5 := hid hx;have HT5 := hid (HT4.out.trans ht);have HR5 := hid (ht.blk HR4.out fun h => by omega);have hbase : w.heap.size + 1 ≤ w5.heap.size := by have := HR5.out.lt; omega
 clear ht hx hr HX4 HT4 HR4 HA2 HE34;obtain ⟨c, rfl⟩ : ∃ c, c = c3 := ⟨_, rfl⟩;go_wp2_with fail
 go_loopw [6] (fun v wr => ∃ (acc l1 : List UInt8) (A : Option Addr) (n cp : Nat), v = .slice A n cp ∧ Hid (acc.length = n) ∧ n ≤ 1000 ∧ Hid (Xp.textA 34 c [] l3 = Xp.textA 34 c acc l1) ∧ Hid (GrowB (w.heap.size + 1) wr acc (.slice A n cp)) ∧ Hid (Touch (fun b => b = g) w wr) ∧ Hid (Xr S g l1 c wr) ∧ Hid (Blk wr w.heap.size 79 #[.string ⟨#[]⟩, .string ⟨#[]⟩])) (fun _ wr => S.size - posOf g wr)
 case atStart => exact ⟨[], l3, none, 0, 0, rfl, hid rfl, by omega, hid rfl, GrowB.nil hbase, HT5, HX5, HR5⟩
 case round =>
  obtain ⟨acc, l1, A, n, cp, rfl, HNL, hn, HTX, HG, HT, HX, HR⟩ := hrel;rename_i wr _;have HP := hid (posOf_at HX.out);have hgs := HX.out.lt;cases l1 with
  | nil =>
   have HFIN := hid (show Xp.attrR as_ c l = .bad [] by rw [HAR.out, HTX.out, Xp.textA_nil]; rfl);go_wp2_with fail
   refine (xpeek_end S g c _ HX.out).mono ?_;rintro _ w9 ⟨rfl, ht9⟩;refine ⟨rfl, (?_ : XA S g w (Xp.attrR as_ c l) _ _)⟩;rw [HFIN.out];exact ⟨rfl, HT.out.trans ht9⟩
  | cons b l2 =>
   by_cases hb : b = 34
   ·have hbn : ((b.toNat : Int) != (34 : Int)) = false := u8_nbne_of b 34 hb
    have HTE := hid (show Xp.textA 34 c [] l3 = .ok acc (34 :: l2) c by rw [HTX.out, hb]; exact Xp.textA_end 34 c acc l2);have HBQ := hid hb;clear hb;go_wp2_with fail
    refine (xpeek_byte S g c b l2 _ HX.out).mono ?_;rintro _ w9 ⟨rfl, hf9⟩;have HX9 := hid (HX.out.fresh hf9);have HT9 := hid (HT.out.trans (hf9.mono fun _ h => h.elim));have HR9 := hid (hf9.blk HR.out fun h => h);have HG9 := hid (HG.out.fresh hf9);have HFIN := hid (show Xp.attrR as_ c l = .ok (nm, acc) l2 c by rw [HAR.out, HTE.out]; rfl);clear hf9;obtain ⟨q0, q1, q2, f0, f1, f2, hg⟩ := blk3 HX9.out.blk;have hle := HX9.out.len;have hw : IntKind.i64.wrap (((S.size - (b :: l2).length : Nat) : Int) + 1) = ((S.size - (b :: l2).length : Nat) : Int) + 1 := IntWalk.i64_in _ (by omega);have HXA := hid HX9.out.adv;have HTA := hid (HT9.out.setCell (p := ⟨g, 1, none⟩) (.inl rfl) (.int .i64 (((S.size - (b :: l2).length : Nat) : Int) + 1)));have HRA := hid (HR9.out.far (p := ⟨g, 1, none⟩) (by show _ ≠ g; omega) (.int .i64 (((S.size - (b :: l2).length : Nat) : Int) + 1)));have hcv := (HG9.out.mv ((Touch.refl (fun b => b = g) w9).setCell (p := ⟨g, 1, none⟩) (.inl rfl) (.int .i64 (((S.size - (b :: l2).length : Nat) : Int) + 1))) fun k hk _ => by omega).str HNL.out;generalize S.size - (b :: l2).length = k at *;obtain ⟨y0, y1, z0, z1, hgr⟩ := Blk.two_ HR9.out;have hgne : w.heap.size ≠ g := by omega
    have hgne' : g ≠ w.heap.size := by omega
    go_wp2_with fail
    have HRF := hid (show Blk _ w.heap.size 79 #[.string ⟨nm.toArray⟩, .string ⟨acc.toArray⟩] from (HRA.out.put 0 (.string ⟨nm.toArray⟩)).put 1 (.string ⟨acc.toArray⟩));have HTF := hid (((Touch.refl (fun k => k = w.heap.size) (w9.setCell ⟨g, 1, none⟩ (.int .i64 ((k : Int) + 1)))).setCell (p := ⟨w.heap.size, 0, none⟩) (.inl rfl) (.string ⟨nm.toArray⟩)).setCell (p := ⟨w.heap.size, 1, none⟩) (.inl rfl) (.string ⟨acc.toArray⟩));obtain ⟨r0, r1, _⟩ := Blk.two_ HRF.out;refine bodyPost_ret (v := .agg #[.string ⟨nm.toArray⟩, .string ⟨acc.toArray⟩]) (by simp [results, Tryz.results168, go_sem, r0, r1]) rfl ?_;rw [HFIN.out];exact ⟨rfl, HTA.out.trans' HTF.out fun k hk => .inr (by omega), HXA.out.move HTF.out (by omega)⟩
   ·have hbn : ((b.toNat : Int) != (34 : Int)) = true := u8_bne_of b 34 hb
    cases hr : charR n c (b :: l2) with
    | bad l7 =>
     have HFIN := hid (show Xp.attrR as_ c l = .bad l7 by rw [HAR.out, HTX.out, Xp.textA_bad hb (by rw [HNL.out]; exact hr)]; rfl);clear hb;go_wp2_with fail
     refine (xpeek_byte S g c b l2 _ HX.out).mono ?_;rintro _ w9 ⟨rfl, hf9⟩;have HX9 := hid (HX.out.fresh hf9);have HT9 := hid (HT.out.trans (hf9.mono fun _ h => h.elim));clear hf9;go_wp2_with fail
     refine (xchar_any S g c n (b :: l2) _ hS (by omega) HX9.out).mono ?_;intro e w3 he;rw [hr] at he;obtain ⟨rfl, ht⟩ := he;refine ⟨rfl, (?_ : XA S g w (Xp.attrR as_ c l) _ _)⟩;rw [HFIN.out];exact ⟨rfl, HT9.out.trans ht⟩
    | ok x l7 c7 =>
     have HTS := hid (show Xp.textA 34 c [] l3 = Xp.textA 34 c (acc ++ [x]) l7 by rw [HTX.out]; exact Xp.textA_step hb (by rw [HNL.out]; exact hr));have hn2 := Xp.charR_n hr;have hlt := Xp.charR_lt hr;have hc7 := Xp.charR_cnt hr;subst hc7;have HRR := hid hr;have HLT := hid hlt;clear hb hr hlt;go_wp2_with fail
     refine (xpeek_byte S g c7 b l2 _ HX.out).mono ?_;rintro _ w9 ⟨rfl, hf9⟩;have HX9 := hid (HX.out.fresh hf9);have HT9 := hid (HT.out.trans (hf9.mono fun _ h => h.elim));have HG9 := hid (HG.out.fresh hf9);have HR9 := hid (hf9.blk HR.out fun h => h);clear hf9;go_wp2_with fail
     refine (xchar_any S g c7 n (b :: l2) _ hS (by omega) HX9.out).mono ?_;intro e w3 he;rw [HRR.out] at he;obtain ⟨rfl, ht, hx⟩ := he;have HX3 := hid (hx.fresh ((Touch.refl _ w3).alloc (.cells #[.int .u8 (x.toNat : Int)] 5)));have HT3 := hid ((HT9.out.trans ht).alloc (.cells #[.int .u8 (x.toNat : Int)] 5));have HG3 := hid ((HG9.out.mv ht fun k hk _ => by omega).fresh ((Touch.refl _ w3).alloc (.cells #[.int .u8 (x.toNat : Int)] 5)));have HBV := hid (Blk.new w3 5 #[.int .u8 (x.toNat : Int)]);have HR3 := hid ((ht.blk HR9.out fun h => by omega).alloc (.cells #[.int .u8 (x.toNat : Int)] 5));clear ht hx
     go_wp2_with (at_builtin; go_loud (refine wpList_append_byte rfl (.tmp 31) (.tmp 36) rfl HG3.out HNL.out (by simp [Act.eval]) x HBV.out (by simp [Act.eval]) (by omega) ?_); intro A8 c8 w8 hg8 ht8; refine Stay.mk ?_)
     have HOW := hid HG3.out.own_lt;have HX8 := hid (HX3.out.move ht8 fun h => by have := (HOW.out _ h).1; omega);have HT8 := hid (show Touch (fun b => b = g) w w8 from HT3.out.trans' ht8 fun k hk => .inr (by have := (HOW.out _ hk).1; omega));have HG8 := hid hg8;have HR8 := hid (ht8.blk HR3.out fun h => by have := (HOW.out _ h).1; omega);have HM := hid (posOf_at HX8.out);clear hg8 ht8;refine Stay.go ?_;go_wp2_with fail
     go_roundw
     case rel => exact ⟨acc ++ [x], l7, A8, n + 1, c8, rfl, hid (by rw [List.length_append, HNL.out]; rfl), by omega, HTS, HG8, HT8, HX8, HR8⟩
     case measure =>
      rw [HM.out, HP.out];have h1 := HX.out.len;have h2 := HLT.out;rw [List.length_cons] at *;omega
end Go.Proofs.YtnbeemkfmlfgfaaGreatDoor
namespace Go.Proofs.YtnbeemkfmlfgfaaGreatDoor
open Go.RowKit
open Xp (Rs Sfx charR textR)
open El (E Attrs)
namespace Xp
theorem textA_len (q : UInt8) (c : Nat) : ∀ (m : Nat) (l acc v l2 : List UInt8) (c2 : Nat), l.length ≤ m → textA q c acc l = .ok v l2 c2 → v.length + l2.length ≤ acc.length + l.length := by
 intro m
 induction m with
 | zero =>
  intro l acc v l2 c2 hm h;have : l = [] := List.length_eq_zero_iff.1 (by omega);subst this;rw [textA_nil] at h; cases h
 | succ m ih =>
  intro l acc v l2 c2 hm h;cases l with
  | nil => rw [textA_nil] at h; cases h
  | cons b l =>
   by_cases hb : b = q
   ·subst hb
    rw [textA_end] at h;cases h;exact Nat.le_refl _
   ·cases hc : charR acc.length c (b :: l) with
    | bad l3 => rw [textA_bad hb hc] at h; cases h
    | ok x l3 c3 =>
     rw [textA_step hb hc] at h;have h1 := charR_lt hc;rw [List.length_cons] at hm h1 ⊢;have := ih l3 (acc ++ [x]) v l2 c2 (by omega) h;rw [List.length_append] at this;simp only [List.length_cons, List.length_nil] at this;omega
end Xp
theorem nameR_len {c : Nat} {l x l1 : List UInt8} {c1 : Nat} (h : Xp.nameR c l = .ok x l1 c1) : x.length ≤ l.length ∧ l1.length ≤ l.length := by
 cases l with
 | nil => cases h
 | cons b l =>
  have h : (if El.letter b = true then Rs.ok ((b :: l).takeWhile El.inner) ((b :: l).dropWhile El.inner) c else .bad (b :: l)) = .ok x l1 c1 := h;split at h
  ·cases h
   have h1 : ((b :: l).takeWhile El.inner ++ (b :: l).dropWhile El.inner).length = (b :: l).length := by rw [List.takeWhile_append_dropWhile]
   rw [List.length_append] at h1;omega
  ·cases h
theorem attrR_len {as_ : Attrs} {c : Nat} {l : List UInt8} {x : List UInt8 × List UInt8} {l1 : List UInt8} {c1 : Nat} (h : Xp.attrR as_ c l = .ok x l1 c1) : x.1.length ≤ l.length ∧ x.2.length ≤ l.length ∧ c1 = c := by
 cases hn : Xp.nameR c l with
 | bad l2 => rw [attrR_bad hn] at h; cases h
 | ok nm l2 c2 =>
  rw [attrR_ok hn] at h;have hl := nameR_len hn;cases l2 with
  | nil => cases h
  | cons b l3 =>
   have h : (if b ≠ 61 ∨ as_.any (fun x => x.1 == nm) = true then Rs.bad (b :: l3) else attrK2 nm c (Xp.expectR 34 c l3)) = .ok x l1 c1 := h;split at h
   ·cases h
   ·cases he : Xp.expectR 34 c l3 with
    | bad l4 => rw [he] at h; cases h
    | ok u l4 c4 =>
     rw [he] at h;have h : attrK3 nm c (Xp.textA 34 c [] l4) = .ok x l1 c1 := h;have h4 := (Xp.expectR_left 34 c l3).len;rw [he] at h4;have h4 : l4.length ≤ l3.length := h4;cases ht : Xp.textA 34 c [] l4 with
     | bad l5 => rw [ht] at h; cases h
     | ok v l5 c5 =>
      rw [ht] at h;cases h;have h5 := Xp.textA_len 34 c _ l4 [] v l5 c5 (Nat.le_refl _) ht;have h6 := hl.2;simp only [List.length_cons, List.length_nil] at h5 h6;exact ⟨hl.1, by show v.length ≤ _; omega, rfl⟩
def cellsA (as_ : Attrs) : List Value := as_.flatMap fun x => [.string ⟨x.1.toArray⟩, .string ⟨x.2.toArray⟩]
theorem cellsA_get : ∀ (as_ : Attrs) (i : Nat) (hi : i < as_.length), (cellsA as_)[i * 2]? = some (.string ⟨as_[i].1.toArray⟩) ∧ (cellsA as_)[i * 2 + 1]? = some (.string ⟨as_[i].2.toArray⟩)
 | [], i, h => by simp at h
 | x :: l, 0, _ => ⟨rfl, rfl⟩
 | x :: l, i + 1, h => by
  have := cellsA_get l i (by simpa using h);rw [show (i + 1) * 2 = i * 2 + 2 by omega, show i * 2 + 2 + 1 = i * 2 + 1 + 2 by omega];exact this
def GrowA (B : Nat) (w : World) (as_ : Attrs) (v : Value) : Prop := B ≤ w.heap.size ∧ (∀ x ∈ as_, x.1.length ≤ maxLen ∧ x.2.length ≤ maxLen) ∧ w.ownsRow B 79 2 v as_.length (cellsA as_)
theorem GrowA.nil {B : Nat} {w : World} (hB : B ≤ w.heap.size) : GrowA B w [] (.slice none 0 0) := ⟨hB, (fun _ h => by cases h), World.ownsRow_nil _ _ _ _⟩
theorem GrowA.own_lt {B : Nat} {w : World} {as_ : Attrs} {v : Value} (h : GrowA B w as_ v) : ∀ k, v.ownBlock = some k → B ≤ k ∧ k < w.heap.size := fun k hk => h.2.2.lt k hk
theorem GrowA.mv {B : Nat} {w w1 : World} {as_ : Attrs} {v : Value} {S : Nat → Prop} (h : GrowA B w as_ v) (ht : Touch S w w1) (hS : ∀ k, S k → k < w.heap.size → k < B) : GrowA B w1 as_ v := by
 refine ⟨Nat.le_trans h.1 ht.size, h.2.1, ownsRow_touch h.2.2 ht fun k hk hs => ?_⟩;have h3 := h.2.2.lt k hk;have := hS k hs h3.2;omega
theorem GrowA.fresh {B : Nat} {w w1 : World} {as_ : Attrs} {v : Value} (h : GrowA B w as_ v) (ht : Fresh w w1) : GrowA B w1 as_ v := h.mv ht fun _ h => h.elim
theorem GrowA.slice {B : Nat} {w : World} {as_ : Attrs} {v : Value} (h : GrowA B w as_ v) : ∃ A cap, v = .slice A as_.length cap := own_slc h.2.2
theorem GrowA.rep {B : Nat} {w : World} {as_ : Attrs} {v : Value} (h : GrowA B w as_ v) : RepA w as_ v := by
 obtain ⟨_, hx, ho⟩ := h
 rcases ho.2 with ⟨rfl, h0⟩ | ⟨g, cap, cur, rfl, hB, hb, h1, h2, _⟩
 ·have : as_ = [] := List.length_eq_zero_iff.1 h0
  subst this;exact RepA.nil _ _ _
 ·refine ⟨_, cap, rfl, ⟨Nat.le_trans h1 h2, h1⟩, hx, .inr ⟨g, 0, rfl, (ho.lt g rfl).2, fun i hi => ?_⟩⟩
  obtain ⟨c0, c1⟩ := cellsA_get as_ i hi;have e0 := ho.cells (g := g) rfl _ _ c0;have e1 := ho.cells (g := g) rfl _ _ c1;rw [Addr.add_mid, Nat.zero_add] at e0 e1;rw [Nat.zero_add];exact ⟨e0, e1⟩
theorem GrowA.stab {B : Nat} {w : World} {as_ : Attrs} {v : Value} (h : GrowA B w as_ v) : Stab (fun k => k < B) w fun W => RepA W as_ v := fun _ hW => (h.mv hW fun _ h _ => h).rep
section
variable {w : World} {ops : Array Oper} {rest : List Oper} {o : Oper} {a : Act} {Q : Exit → Act → World → Prop}
theorem infoAttrX : (Tryz.prog.info? 79).map (fun i => (i.zero, i.size, i.bytes)) = some (some (.agg #[.string ⟨#[]⟩, .string ⟨#[]⟩]), 2, 32) := infoAttr
theorem wpList_append_attr (hgd : o.guard = none) (s x : Operand)
  (ho : o.op = .call { callee := .builtin .append, args := #[s, x], argTypes := #[42, 42] })
  {B n g : Nat} {as_ : Attrs} {v : Value} (h : GrowA B w as_ v) (hn : as_.length = n) (hs : a.eval s = v) (y : List UInt8 × List UInt8) (hy : y.1.length ≤ maxLen ∧ y.2.length ≤ maxLen) (hb : Blk w g 79 #[.string ⟨y.1.toArray⟩, .string ⟨y.2.toArray⟩]) (hx : a.eval x = .slice (some ⟨g, 0, none⟩) 1 1) (hlen : n < 2 ^ 40)
  (hK : ∀ A cp w', GrowA B w' (as_ ++ [y]) (.slice A (n + 1) cp) → Touch (fun k => v.ownBlock = some k) w w' → wpList Tryz.prog ops Q rest (a.put o.dst (.slice A (n + 1) cp)) w') : wpList Tryz.prog ops Q (o :: rest) a w := by
 subst hn;obtain ⟨hBw, hall, h1⟩ := h;obtain ⟨i, hi, hz0, hz1, hz2⟩ := info_parts infoAttr;refine wpList_append_src _ hgd s x 42 ho B 79 i _ 2 32 Tryz.underlying42 hi hz0 hz1 hz2 rfl (by decide) v as_.length (cellsA as_) hs h1 _ 1 _ hx (Src.of_blk hb rfl) (by simp [Value.oneCell']) (by simp only [maxLen]; omega) (by omega) hBw fun v' w' ho' hgr hv' => ?_
 obtain ⟨A, cp, rfl⟩ := own_slc ho';have ht : Touch (fun k => v.ownBlock = some k) w w' := Touch.grown (Touch.refl _ _) hgr fun k hk => .inl hk
 refine hK A cp w' ⟨Nat.le_trans hBw hgr.size, fun z hz => ?_, ?_⟩ ht
 ·rcases List.mem_append.1 hz with hz | hz
  ·exact hall z hz
  ·rw [List.mem_singleton.1 hz]; exact hy
 ·rw [List.length_append]
  have : cellsA (as_ ++ [y]) = cellsA as_ ++ [.string ⟨y.1.toArray⟩, .string ⟨y.2.toArray⟩] := by unfold cellsA; rw [List.flatMap_append]; rfl
  rw [this];exact ho'
end
def xputAt4 (w : World) (g o : Nat) (x0 x1 x2 x3 : Value) : World := (((w.setCell ⟨g, o, none⟩ x0).setCell ⟨g, o + 1, none⟩ x1).setCell ⟨g, o + 2, none⟩ x2).setCell ⟨g, o + 3, none⟩ x3
theorem xtouchAt4 (w : World) (g o : Nat) (x0 x1 x2 x3 : Value) : Touch (fun k => k = g) w (xputAt4 w g o x0 x1 x2 x3) :=
 ((((Touch.refl (fun k => k = g) w).setCell (p := ⟨g, o, none⟩) (.inl rfl) _).setCell (p := ⟨g, o + 1, none⟩) (.inl rfl) _).setCell (p := ⟨g, o + 2, none⟩) (.inl rfl) _).setCell (p := ⟨g, o + 3, none⟩) (.inl rfl) _
theorem xown_put4 {w : World} {B t g n cap : Nat} {xs : List Value} {z0 z1 z2 z3 : Value} (h : w.ownsRow B t 4 (.slice (some ⟨g, 0, none⟩) (n + 1) cap) (n + 1) (xs ++ [z0, z1, z2, z3])) (y0 y1 y2 y3 : Value) :
  (xputAt4 w g (n * 4) y0 y1 y2 y3).ownsRow B t 4 (.slice (some ⟨g, 0, none⟩) (n + 1) cap) (n + 1) (xs ++ [y0, y1, y2, y3]) := by
 have hl : xs.length = n * 4 := by have := h.1; rw [List.length_append] at this; simp only [List.length_cons, List.length_nil] at this; omega
 have h1 := (((((h.stored (n * 4) y0).1.stored (n * 4 + 1) y1).1).stored (n * 4 + 2) y2).1.stored (n * 4 + 3) y3).1
 have e : ((((xs ++ [z0, z1, z2, z3]).set (n * 4) y0).set (n * 4 + 1) y1).set (n * 4 + 2) y2).set (n * 4 + 3) y3 = xs ++ [y0, y1, y2, y3] := by
  rw [List.set_append_right _ _ (by omega), List.set_append_right _ _ (by omega), List.set_append_right _ _ (by omega), List.set_append_right _ _ (by omega), show n * 4 - xs.length = 0 by omega, show n * 4 + 1 - xs.length = 1 by omega, show n * 4 + 2 - xs.length = 2 by omega, show n * 4 + 3 - xs.length = 3 by omega];rfl
 rw [e] at h1;exact h1
def GrowEZ (B : Nat) (w : World) (es : List E) (e : E) (va vk v : Value) : Prop := B ≤ w.heap.size ∧ ∃ cs0, w.ownsRow B 45 4 v (es.length + 1) (cs0 ++ [.string ⟨#[]⟩, .slice none 0 0, .slice none 0 0, .string ⟨#[]⟩]) ∧
 Stab (fun k => v.ownBlock = some k ∨ k < B) w fun W => ElsAt W es cs0 ∧ RepV W e va vk
theorem GrowEZ.mv {B : Nat} {w w1 : World} {es : List E} {e : E} {va vk v : Value} {S : Nat → Prop} (h : GrowEZ B w es e va vk v) (ht : Touch S w w1) (hS : ∀ k, S k → k < w.heap.size → k < B) : GrowEZ B w1 es e va vk v := by
 obtain ⟨hB, cs, h1, h2⟩ := h;refine ⟨Nat.le_trans hB ht.size, cs, ownsRow_touch h1 ht fun k hk hs => ?_, h2.step ht (fun i hi hs => .inr (hS i hs hi)) (fun _ _ h => h)⟩;have h3 := h1.lt k hk;have := hS k hs h3.2;omega
theorem GrowEZ.cells {B n : Nat} {w : World} {es : List E} {e : E} {va vk v : Value} (h : GrowEZ B w es e va vk v) (hn : es.length = n) : ∃ g cap, v = .slice (some ⟨g, 0, none⟩) (n + 1) cap ∧ n + 1 ≤ cap ∧ B ≤ g ∧ g < w.heap.size ∧
  w.cell? ⟨g, n * 4, none⟩ = some (.string ⟨#[]⟩) ∧ w.cell? ⟨g, n * 4 + 1, none⟩ = some (.slice none 0 0) ∧ w.cell? ⟨g, n * 4 + 2, none⟩ = some (.slice none 0 0) ∧ w.cell? ⟨g, n * 4 + 3, none⟩ = some (.string ⟨#[]⟩) ∧
  w.frozen? ⟨g, n * 4, none⟩ = false ∧ w.frozen? ⟨g, n * 4 + 1, none⟩ = false ∧ w.frozen? ⟨g, n * 4 + 2, none⟩ = false ∧ w.frozen? ⟨g, n * 4 + 3, none⟩ = false := by
 subst hn;obtain ⟨hB, cs, h1, h2⟩ := h;have hl : cs.length = es.length * 4 := by have := h1.1; rw [List.length_append] at this; simp only [List.length_cons, List.length_nil] at this; omega
 obtain ⟨g, cap, rfl, hcap, hb⟩ : ∃ g cap, v = .slice (some ⟨g, 0, none⟩) (es.length + 1) cap ∧ es.length + 1 ≤ cap ∧ B ≤ g := by
  rcases h1.2 with ⟨_, h0⟩ | ⟨g, cap, cur, e, hb, _, h5, _⟩
  ·omega
  ·exact ⟨g, cap, e, h5, hb⟩
 have hc : ∀ i z, ([Value.string ⟨#[]⟩, .slice none 0 0, .slice none 0 0, .string ⟨#[]⟩])[i]? = some z → i < 4 → w.cell? ⟨g, es.length * 4 + i, none⟩ = some z := fun i z hz hi4 => by
  rw [h1.cellAt _ (by omega), List.getElem?_append_right (by omega), show es.length * 4 + i - cs.length = i by omega];exact hz
 exact ⟨g, cap, rfl, hcap, hb, (h1.lt g rfl).2, hc 0 _ rfl (by omega), hc 1 _ rfl (by omega), hc 2 _ rfl (by omega), hc 3 _ rfl (by omega), h1.frozenAt _, h1.frozenAt _, h1.frozenAt _, h1.frozenAt _⟩
theorem GrowEZ.put {B n : Nat} {w : World} {es : List E} {e : E} {va vk : Value} {g cap : Nat} (h : GrowEZ B w es e va vk (.slice (some ⟨g, 0, none⟩) (n + 1) cap)) (hn : es.length = n) :
  GrowE B (xputAt4 w g (n * 4) (.string ⟨e.name.toArray⟩) va vk (.string ⟨e.text.toArray⟩)) (es ++ [e]) (.slice (some ⟨g, 0, none⟩) (n + 1) cap) := by
 subst hn;obtain ⟨hB, cs, h1, h2⟩ := h;refine ⟨Nat.le_trans hB (xtouchAt4 w g _ _ _ _ _).size, _, by rw [List.length_append]; exact xown_put4 h1 _ _ _ _, ?_⟩;refine (h2.step (xtouchAt4 w g _ _ _ _ _) (fun i _ hs => .inl (by subst hs; rfl)) (fun _ _ h => h)).imp fun W ⟨g1, g2⟩ => g1.append (ElsAt.one g2)
section
variable {w : World} {ops : Array Oper} {rest : List Oper} {o : Oper} {a : Act} {Q : Exit → Act → World → Prop}
theorem wpList_append_ezero (hgd : o.guard = none) (s x : Operand)
  (ho : o.op = .call { callee := .builtin .append, args := #[s, x], argTypes := #[43, 43] })
  {B n g : Nat} {es : List E} {v : Value} (h : GrowE B w es v) (hn : es.length = n) (hs : a.eval s = v) (e : E) {va vk : Value} (hb : Blk w g 45 #[.string ⟨#[]⟩, .slice none 0 0, .slice none 0 0, .string ⟨#[]⟩]) (hx : a.eval x = .slice (some ⟨g, 0, none⟩) 1 1)
  (w0 : Nat) (hB : B ≤ w0) (hown : ∀ k, v.ownBlock = some k → k < w0) (hrv : Stab (fun k => k < w0) w fun W => RepV W e va vk) (hlen : n < 2 ^ 40)
  (hK : ∀ A cp w', GrowEZ B w' es e va vk (.slice A (n + 1) cp) → Touch (fun k => v.ownBlock = some k) w w' → wpList Tryz.prog ops Q rest (a.put o.dst (.slice A (n + 1) cp)) w') : wpList Tryz.prog ops Q (o :: rest) a w := by
 subst hn;obtain ⟨hBw, cs, h1, h2⟩ := h;obtain ⟨i, hi, hz0, hz1, hz2⟩ := info_parts infoElem;have h3 : ∀ u ∈ [Value.string ⟨#[]⟩, .slice none 0 0, .slice none 0 0, .string ⟨#[]⟩], u.oneCell' = true := by simp [Value.oneCell']
 refine wpList_append_src _ hgd s x 43 ho B 45 i _ 4 80 Tryz.underlying43 hi hz0 hz1 hz2 rfl (by decide) v es.length cs hs h1 _ 1 _ hx (Src.of_blk hb rfl) h3 (by simp only [maxLen]; omega) (by omega) hBw fun v' w' ho' hgr hv' => ?_
 obtain ⟨A, cp, rfl⟩ := own_slc ho';have ht : Touch (fun k => v.ownBlock = some k) w w' := Touch.grown (Touch.refl _ _) hgr fun k hk => .inl hk
 refine hK A cp w' ⟨Nat.le_trans hBw hgr.size, _, ho', ?_⟩ ht
 have hS : ∀ i, i < w.heap.size → ((Value.slice A (es.length + 1) cp).ownBlock = some i ∨ i < B) → (v.ownBlock = some i ∨ i < B) := fun i hi hs => by
  rcases hs with hs | hs
  ·rcases hv' with h6 | h6 <;> rw [h6] at hs
   ·exact .inl hs
   ·cases hs; omega
  ·exact .inr hs
 refine (h2.step ht (fun i _ hs => .inl hs) hS).and (hrv.step ht (fun i hi hs => hown i hs) fun i hi hs => ?_)
 rcases hS i hi hs with h6 | h6
 ·exact hown i h6
 ·omega
end
end Go.Proofs.YtnbeemkfmlfgfaaGreatDoor
