/- Part 13 of 31 of a proof; its texts, joined: NqA, NmC, NyB. No condition. -/
import Derived.Test.YtnamnmpnoiodnaaYa1
import Derived.Test.YtnamnmpnoiodnaaYa3
import Derived.Test.YtnamnmpnoiodnaaYa6
import Derived.Test.YtnamnmpnoiodnaaYa12
import Derived.Test.YtnamnmpnoiodnaaYa5
set_option maxRecDepth 100000
set_option maxHeartbeats 400000
namespace Go.Proofs.Ytnamnmpnoiodnaa
open Go.RowKit
open Tr (Nd)
open Lx (PTok)
def PT (g B : Nat) (w : World) (b : Nat) : Prop := b = g ∨ (B ≤ b ∧ ∃ cs fr, w.heap[b]? = some (.cells cs 3 fr))
abbrev Mp (g B : Nat) (w w' : World) : Prop := Touch (PT g B w) w w'
theorem Mp.trans {g B : Nat} {a b c : World} (h : Mp g B a b) (k : Mp g B b c) : Mp g B a c := by
 refine ⟨k.os.trans h.os, k.tape.trans h.tape, k.output.trans h.output, Nat.le_trans h.size k.size, fun i hi hn => ?_⟩;have h1 := h.block i hi hn;refine (k.block i (Nat.lt_of_lt_of_le hi h.size) fun hs => hn ?_).trans h1
 rcases hs with hs | ⟨h2, cs, fr, h3⟩
 ·exact .inl hs
 ·exact .inr ⟨h2, cs, fr, by rw [← h1]; exact h3⟩
theorem Mp.fresh {g B : Nat} {a b : World} (h : Fresh a b) : Mp g B a b := h.mono fun _ h => h.elim
theorem Mp.blk {g B : Nat} {a b : World} {k : Nat} {t : TypeId} {cs : Array Value} (h : Mp g B a b) (hb : Blk a k t cs) (hk : k ≠ g) (ht : t ≠ 3) : Blk b k t cs := by
 refine Touch.blk h hb ?_;rintro (e | ⟨_, cur, fr, h3⟩)
 ·exact hk e
 ·unfold Blk at hb
  rw [hb] at h3;cases h3;exact ht rfl
theorem Mp.put {g B : Nat} (w : World) (i : Nat) (v : Value) : Mp g B w (w.setCell ⟨g, i, none⟩ v) := (Touch.refl _ _).setCell (.inl (.inl rfl)) v
theorem Mp.grown {g B : Nat} {a b c : World} {n : Nat} {v : Value} {xs : List Value} (h : Mp g B a b) (ho : b.ownsRow B 3 1 v n xs) (hg : b.grownBy c v.ownBlock) : Mp g B a c :=
 Mp.trans h (Touch.grown (S := PT g B b) (Touch.refl _ b) hg fun k hk => .inl (by
  obtain ⟨h1, cur, h2⟩ := owns_type ho hk;exact .inr ⟨h1, cur, _, h2⟩))
inductive TreT (B : Nat) (W : World) : List Nd → Value → Prop
 | nil (A : Option Addr) (cap : Nat) : TreT B W [] (.slice A 0 cap)
 | row (g cap : Nat) (ks : List Nd) (sl : Nat → Value) (hB : B ≤ g) (hg : ∃ cs fr, W.heap[g]? = some (.cells cs 32 fr)) (hl : ks.length ≤ maxLen)
   (ht : ∀ i (hi : i < ks.length), ks[i].text.length ≤ maxLen)
   (h0 : ∀ i (hi : i < ks.length), W.cell? ⟨g, i * 4, none⟩ = some (.int .i64 ks[i].kind))
   (h1 : ∀ i (hi : i < ks.length), W.cell? ⟨g, i * 4 + 1, none⟩ = some (.string ⟨ks[i].text.toArray⟩))
   (h2 : ∀ i (hi : i < ks.length), W.cell? ⟨g, i * 4 + 2, none⟩ = some (.int .i64 ks[i].cols))
   (h3 : ∀ i (_hi : i < ks.length), W.cell? ⟨g, i * 4 + 3, none⟩ = some (sl i))
   (hk : ∀ i (hi : i < ks.length), TreT B W ks[i].kids (sl i)) : TreT B W ks (.slice (some ⟨g, 0, none⟩) ks.length cap)
theorem TreT.slice {B : Nat} {W : World} {ks : List Nd} {v : Value} (h : TreT B W ks v) : ∃ A cap, v = .slice A ks.length cap := by
 cases h with
 | nil A cap => exact ⟨A, cap, rfl⟩
 | row g cap _ sl => exact ⟨_, _, rfl⟩
theorem TreT.len {B : Nat} {W : World} {ks : List Nd} {v : Value} (h : TreT B W ks v) : ks.length ≤ maxLen := by
 cases h with
 | nil A cap => exact Nat.zero_le _
 | row g cap _ sl hB hg hl => exact hl
theorem TreT.mv {B : Nat} {W W' : World} {S : Nat → Prop} {ks : List Nd} {v : Value} (h : TreT B W ks v) (ht : Touch S W W') (hS : ∀ k cs fr, S k → B ≤ k → W.heap[k]? ≠ some (.cells cs 32 fr)) : TreT B W' ks v := by
 induction h with
 | nil A cap => exact .nil A cap
 | row g cap ks sl hB hg hl hx h0 h1 h2 h3 hk ih =>
  obtain ⟨cs, fr, hg⟩ := hg;have hn : ¬ S g := fun hs => hS g cs fr hs hB hg
  exact .row g cap ks sl hB ⟨cs, fr, (ht.block g (Array.getElem?_eq_some_iff.1 hg).1 hn).trans hg⟩ hl hx (fun i hi => ht.cell (h0 i hi) hn) (fun i hi => ht.cell (h1 i hi) hn) (fun i hi => ht.cell (h2 i hi) hn) (fun i hi => ht.cell (h3 i hi) hn) ih
theorem TreT.base {B B' : Nat} {W : World} {ks : List Nd} {v : Value} (h : TreT B W ks v) (hb : B' ≤ B) : TreT B' W ks v := by
 induction h with
 | nil A cap => exact .nil A cap
 | row g cap ks sl hB hg hl hx h0 h1 h2 h3 hk ih => exact .row g cap ks sl (Nat.le_trans hb hB) hg hl hx h0 h1 h2 h3 ih
theorem TreT.fresh {B : Nat} {W W' : World} {ks : List Nd} {v : Value} (h : TreT B W ks v) (hf : Fresh W W') : TreT B W' ks v := h.mv hf fun _ _ _ h _ => h.elim
theorem TreT.rep {B : Nat} {W : World} {ks : List Nd} {v : Value} (h : TreT B W ks v) : RepL W ks v := by
 induction h with
 | nil A cap => exact .nil A cap
 | row g cap ks sl hB hg hl hx h0 h1 h2 h3 hk ih =>
  obtain ⟨cs, fr, hg⟩ := hg;exact RepL.row g 0 cap ks sl (Array.getElem?_eq_some_iff.1 hg).1 hl hx (by simpa using h0) (by simpa using h1) (by simpa using h2) (by simpa using h3) ih
def NodesT (B : Nat) (W : World) : List Nd → List Value → Prop
 | [], cs => cs = []
 | n :: ks, cs => ∃ sl ds, cs = .int .i64 n.kind :: .string ⟨n.text.toArray⟩ :: .int .i64 n.cols :: sl :: ds ∧ (TreT B W n.kids sl ∧ n.text.length ≤ maxLen) ∧ NodesT B W ks ds
theorem NodesT.length {B : Nat} {W : World} : ∀ {ks : List Nd} {cs : List Value}, NodesT B W ks cs → cs.length = ks.length * 4
 | [], _, h => by rw [show _ = [] from h]; rfl
 | _ :: _, _, ⟨_, _, h, _, hd⟩ => by subst h; simp [hd.length]; omega
theorem NodesT.mv {B : Nat} {W W' : World} {S : Nat → Prop} (ht : Touch S W W') (hS : ∀ k cs fr, S k → B ≤ k → W.heap[k]? ≠ some (.cells cs 32 fr)) : ∀ {ks : List Nd} {cs : List Value}, NodesT B W ks cs → NodesT B W' ks cs
 | [], _, h => h
 | _ :: _, _, ⟨sl, ds, h, h1, hd⟩ => ⟨sl, ds, h, ⟨h1.1.mv ht hS, h1.2⟩, hd.mv ht hS⟩
theorem NodesT.base {B B' : Nat} {W : World} (hb : B' ≤ B) : ∀ {ks : List Nd} {cs : List Value}, NodesT B W ks cs → NodesT B' W ks cs
 | [], _, h => h
 | _ :: _, _, ⟨sl, ds, h, h1, hd⟩ => ⟨sl, ds, h, ⟨h1.1.base hb, h1.2⟩, hd.base hb⟩
theorem NodesT.fresh {B : Nat} {W W' : World} (hf : Fresh W W') {ks : List Nd} {cs : List Value} (h : NodesT B W ks cs) : NodesT B W' ks cs := h.mv hf fun _ _ _ h _ => h.elim
theorem NodesT.append {B : Nat} {W : World} : ∀ {ks ms : List Nd} {cs ds : List Value}, NodesT B W ks cs → NodesT B W ms ds → NodesT B W (ks ++ ms) (cs ++ ds)
 | [], _, _, _, h, hm => by rw [show _ = [] from h]; exact hm
 | _ :: _, _, _, _, ⟨sl, es, h, h1, hd⟩, hm => by subst h; exact ⟨sl, es ++ _, by simp, h1, hd.append hm⟩
theorem TreT.oneCell {B : Nat} {W : World} {ks : List Nd} {v : Value} (h : TreT B W ks v) : v.oneCell' = true := by
 obtain ⟨A, c, rfl⟩ := h.slice;rfl
theorem NodesT.oneCell {B : Nat} {W : World} : ∀ {ks : List Nd} {cs : List Value}, NodesT B W ks cs → ∀ u ∈ cs, u.oneCell' = true
 | [], _, h, u, hu => by rw [show _ = [] from h] at hu; cases hu
 | _ :: _, _, ⟨sl, ds, h, h1, hd⟩, u, hu => by
  subst h
  rcases List.mem_cons.1 hu with rfl | hu
  ·rfl
  ·rcases List.mem_cons.1 hu with rfl | hu
   ·rfl
   ·rcases List.mem_cons.1 hu with rfl | hu
    ·rfl
    ·rcases List.mem_cons.1 hu with rfl | hu
     ·exact h1.1.oneCell
     ·exact hd.oneCell u hu
theorem NodesT.get {B : Nat} {W : World} : ∀ {ks : List Nd} {cs : List Value}, NodesT B W ks cs → ∀ i (hi : i < ks.length), ∃ sl, cs[i * 4]? = some (.int .i64 ks[i].kind) ∧ cs[i * 4 + 1]? = some (.string ⟨ks[i].text.toArray⟩) ∧ cs[i * 4 + 2]? = some (.int .i64 ks[i].cols) ∧ cs[i * 4 + 3]? = some sl ∧
  TreT B W ks[i].kids sl ∧ ks[i].text.length ≤ maxLen
 | [], _, _, i, hi => by simp at hi
 | n :: ks, _, ⟨sl, ds, h, h1, hd⟩, i, hi => by
  subst h;cases i with
  | zero => exact ⟨sl, rfl, rfl, rfl, rfl, h1.1, h1.2⟩
  | succ i =>
   obtain ⟨sl', e0, e1, e2, e3, e4, e5⟩ := hd.get i (by simpa using hi)
   have hx : ∀ j, (.int .i64 n.kind :: .string ⟨n.text.toArray⟩ :: .int .i64 n.cols :: sl :: ds : List Value)[(i + 1) * 4 + j]? = ds[i * 4 + j]? := fun j => by
    rw [show (i + 1) * 4 + j = (i * 4 + j) + 4 by omega];rfl
   exact ⟨sl', (hx 0).trans e0, (hx 1).trans e1, (hx 2).trans e2, (hx 3).trans e3, e4, e5⟩
theorem NodesT.own {B B' : Nat} {W : World} {ks : List Nd} {cs : List Value} {v : Value} (h : NodesT B W ks cs) (hBB : B ≤ B') (ho : W.ownsRow B' 32 4 v ks.length cs) : TreT B W ks v := by
 rcases ho.2 with ⟨h1, h2⟩ | ⟨g, cap, cur, h1, hB', hg, h2, h3, _⟩
 ·rw [List.length_eq_zero_iff] at h2
  subst h2;rw [h1];exact .nil _ _
 ·have hc : ∀ j u, cs[j]? = some u → W.cell? ⟨g, j, none⟩ = some u := fun j u hu => by
   have := ho.cells (g := g) (by rw [h1]; rfl) j u hu
   rwa [Addr.add_mid, Nat.zero_add] at this
  have hsl : ∀ i, ∃ sl, ∀ (hi : i < ks.length), cs[i * 4 + 3]? = some sl ∧ TreT B W ks[i].kids sl := fun i => by
   by_cases hi : i < ks.length
   ·obtain ⟨sl, _, _, _, e3, e4, _⟩ := h.get i hi
    exact ⟨sl, fun _ => ⟨e3, e4⟩⟩
   ·exact ⟨.bool false, fun h => absurd h hi⟩
  rw [h1];refine .row g cap ks (fun i => Classical.choose (hsl i)) (Nat.le_trans hBB hB') ⟨_, _, hg⟩ (Nat.le_trans h2 h3) (fun i hi => (h.get i hi).elim fun _ e => e.2.2.2.2.2) (fun i hi => ?_) (fun i hi => ?_) (fun i hi => ?_) (fun i hi => hc _ _ (Classical.choose_spec (hsl i) hi).1) (fun i hi => (Classical.choose_spec (hsl i) hi).2)
  ·obtain ⟨_, e0, _⟩ := h.get i hi; exact hc _ _ e0
  ·obtain ⟨_, _, e1, _⟩ := h.get i hi; exact hc _ _ e1
  ·obtain ⟨_, _, _, e2, _⟩ := h.get i hi; exact hc _ _ e2
theorem TreT.src {B : Nat} {W : World} {ks : List Nd} {v : Value} (h : TreT B W ks v) : ∃ cs, NodesT B W ks cs ∧ Src W 4 v ks.length cs := by
 cases h with
 | nil A cap => 
  refine ⟨[], rfl, A, cap, rfl, rfl, ?_⟩;cases A with
  | none => exact .inl ⟨rfl, rfl, rfl⟩
  | some a => exact .inr ⟨a, rfl, fun j u hu => by simp at hu⟩
 | row g cap _ sl hB hg hl hx h0 h1 h2 h3 hk =>
  have : ∀ (l : List Nd) (o : Nat), (∀ i (hi : i < l.length), ∃ hq : o + i < ks.length, l[i] = ks[o + i]) → ∃ cs, NodesT B W l cs ∧ ∀ j u, cs[j]? = some u → W.cell? ⟨g, o * 4 + j, none⟩ = some u := by
   intro l
   induction l with
   | nil => intro o _; exact ⟨[], rfl, fun j u hu => by simp at hu⟩
   | cons n l ih =>
    intro o hl
    obtain ⟨ds, d1, d2⟩ := ih (o + 1) fun i hi => by
     obtain ⟨hq, e⟩ := hl (i + 1) (by simpa using hi);refine ⟨by omega, ?_⟩;have e' : l[i] = ks[o + (i + 1)] := by simpa using e
     rw [e']
     congr 1
     omega
    obtain ⟨hq, e⟩ := hl 0 (by simp);simp only [List.getElem_cons_zero, Nat.add_zero] at e hq;refine ⟨.int .i64 n.kind :: .string ⟨n.text.toArray⟩ :: .int .i64 n.cols :: sl o :: ds, ⟨sl o, ds, rfl, ⟨by rw [e]; exact hk o hq, by rw [e]; exact hx o hq⟩, d1⟩, fun j u hu => ?_⟩
    match j, hu with
    | 0, hu => cases hu; rw [e]; exact h0 o hq
    | 1, hu => cases hu; rw [e]; exact h1 o hq
    | 2, hu => cases hu; rw [e]; exact h2 o hq
    | 3, hu => cases hu; exact h3 o hq
    | j + 4, hu =>
     have := d2 j u hu;rw [show o * 4 + (j + 4) = (o + 1) * 4 + j by omega];exact this
  obtain ⟨cs, d1, d2⟩ := this ks 0 fun i hi => ⟨by simpa using hi, by simp⟩
  refine ⟨cs, d1, _, cap, rfl, d1.length, .inr ⟨_, rfl, fun j u hu => ?_⟩⟩;rw [Addr.add_mid, Nat.zero_add];simpa using d2 j u hu
end Go.Proofs.Ytnamnmpnoiodnaa
namespace Go.Proofs.Ytnamnmpnoiodnaa
open Go.RowKit
open Tr (Nd)
theorem RepL.same {W : World} : ∀ {ks : List Nd} {v : Value}, RepL W ks v → ∀ {ms : List Nd}, RepL W ms v → ks = ms := by
 intro ks v h
 induction h with
 | nil A cap =>
  intro ms hm;obtain ⟨A', c', e⟩ := hm.slice;have hl : (0 : Nat) = ms.length := by injection e
  exact (List.length_eq_zero_iff.1 hl.symm).symm
 | row g o cap ks sl hg hl ht h0 h1 h2 h3 hk ih =>
  intro ms hm;obtain ⟨A', c', e⟩ := hm.slice;have hlen : ks.length = ms.length := by injection e
  rw [e] at hm;have eA : A' = some ⟨g, o, none⟩ := by injection e with e1; exact e1.symm
  subst eA;refine List.ext_getElem hlen fun i hi hj => ?_
  obtain ⟨g', o', sl', e0, _, k0, k1, k2, k3, k4⟩ := hm.get i hj;cases e0;have c0 := (h0 i hi).symm.trans k0;have c1 := (h1 i hi).symm.trans k1;have c2 := (h2 i hi).symm.trans k2;have c3 := (h3 i hi).symm.trans k3;cases c3;have c4 := ih i hi k4;have c5 : ks[i].kind = ms[i].kind := by simpa using c0
  have c6 : ks[i].cols = ms[i].cols := by simpa using c2
  have c7 : ks[i].text = ms[i].text := by
   have : ks[i].text.toArray = ms[i].text.toArray := by simpa using c1
   simpa using this
  cases hx : ks[i] with
  | mk a b c d =>
   cases hy : ms[i] with
   | mk a' b' c' d' =>
    rw [hx, hy] at c4 c5 c6 c7;simp only [Tr.Nd.kids, Tr.Nd.kind, Tr.Nd.cols, Tr.Nd.text] at c4 c5 c6 c7;rw [c4, c5, c6, c7]
inductive TreX (w0 : World) (pend : List Addr) (W : World) : Addr → List Nd → Value → Prop
 | wait (a : Addr) (ks : List Nd) (v : Value) (ha : a ∈ pend) (h : RepL w0 ks v) : TreX w0 pend W a ks v
 | nil (a : Addr) (A : Option Addr) (cap : Nat) : TreX w0 pend W a [] (.slice A 0 cap)
 | row (a : Addr) (g cap : Nat) (ks : List Nd) (sl : Nat → Value) (hB : w0.heap.size + 2 ≤ g) (hg : ∃ cs fr, W.heap[g]? = some (.cells cs 32 fr)) (hl : ks.length ≤ maxLen) (ht : ∀ i (hi : i < ks.length), ks[i].text.length ≤ maxLen)
   (h0 : ∀ i (hi : i < ks.length), W.cell? ⟨g, i * 4, none⟩ = some (.int .i64 ks[i].kind))
   (h1 : ∀ i (hi : i < ks.length), W.cell? ⟨g, i * 4 + 1, none⟩ = some (.string ⟨ks[i].text.toArray⟩))
   (h2 : ∀ i (hi : i < ks.length), W.cell? ⟨g, i * 4 + 2, none⟩ = some (.int .i64 ks[i].cols))
   (h3 : ∀ i, i < ks.length → W.cell? ⟨g, i * 4 + 3, none⟩ = some (sl i))
   (hk : ∀ i (hi : i < ks.length), TreX w0 pend W ⟨g, i * 4, none⟩ ks[i].kids (sl i)) : TreX w0 pend W a ks (.slice (some ⟨g, 0, none⟩) ks.length cap)
theorem TreX.done {w0 W : World} {pend : List Addr} {a : Addr} {ks : List Nd} {v : Value} (h : TreX w0 pend W a ks v) (hp : pend = []) : TreT w0.heap.size W ks v := by
 induction h with
 | wait a ks v ha h => rw [hp] at ha; cases ha
 | nil a A cap => exact .nil A cap
 | row a g cap ks sl hB hg hl ht h0 h1 h2 h3 hk ih => exact .row g cap ks sl (by omega) hg hl ht h0 h1 h2 h3 ih
theorem TreX.mv {w0 W W' : World} {pend : List Addr} {S : Nat → Prop} {a : Addr} {ks : List Nd} {v : Value} (h : TreX w0 pend W a ks v) (ht : Touch S W W') (hS : ∀ k, S k → (k ≤ w0.heap.size + 1) ∨ ∀ cs fr, W.heap[k]? ≠ some (.cells cs 32 fr)) : TreX w0 pend W' a ks v := by
 induction h with
 | wait a ks v ha h => exact .wait a ks v ha h
 | nil a A cap => exact .nil a A cap
 | row a g cap ks sl hB hg hl hx h0 h1 h2 h3 hk ih =>
  obtain ⟨cs, fr, hg⟩ := hg
  have hn : ¬ S g := fun hs => by
   rcases hS g hs with h | h
   ·omega
   ·exact h cs fr hg
  exact .row a g cap ks sl hB ⟨cs, fr, (ht.block g (Array.getElem?_eq_some_iff.1 hg).1 hn).trans hg⟩ hl hx (fun i hi => ht.cell (h0 i hi) hn) (fun i hi => ht.cell (h1 i hi) hn) (fun i hi => ht.cell (h2 i hi) hn) (fun i hi => ht.cell (h3 i hi) hn) ih
theorem TreX.kids {w0 W : World} {pend : List Addr} {a : Addr} {ks ms : List Nd} {A : Option Addr} {n c : Nat} (h : TreX w0 pend W a ks (.slice A n c)) (hm : RepL w0 ms (.slice A n c)) : ks = ms := by
 generalize hv : Value.slice A n c = v at h
 have hml : n = ms.length := by
  obtain ⟨_, _, e⟩ := hm.slice;injection e
 cases h with
 | wait _ _ _ ha h => subst hv; exact h.same hm
 | nil _ A' cap =>
  injection hv with _ e2
  rw [e2] at hml;exact (List.length_eq_zero_iff.1 hml.symm).symm
 | row _ g cap _ sl hB hg hl ht h0 h1 h2 h3 hk =>
  injection hv with e1 e2
  cases hms : ms with
  | nil =>
   rw [hms, List.length_nil, e2] at hml;exact List.length_eq_zero_iff.1 hml
  | cons y ys =>
   obtain ⟨g', o', _, e3, e4, _⟩ := hm.get 0 (by rw [hms]; simp);rw [e1] at e3;cases e3;omega
theorem TreX.swap {w0 W W' : World} {P P' : List Addr} {g0 j : Nat} {cs0 : Array Value} {A : Option Addr} {n c : Nat} {ms : List Nd} {s' : Value} (h0 : Blk W g0 32 cs0) (hj : cs0[j + 3]? = some (.slice A n c)) (h1 : Blk W' g0 32 (cs0.setIfInBounds (j + 3) s')) (ht : Touch (fun k => k = g0) W W')
  (hm : RepL w0 ms (.slice A n c)) (hP : ∀ a ∈ P, a ≠ ⟨g0, j, none⟩ → a ∈ P') (hs : TreX w0 P' W' ⟨g0, j, none⟩ ms s') : ∀ {a : Addr} {ks : List Nd} {v : Value}, a ≠ ⟨g0, j, none⟩ → TreX w0 P W a ks v → TreX w0 P' W' a ks v := by
 have hjl : j + 3 < cs0.size := (Array.getElem?_eq_some_iff.1 hj).1
 have hp' : W'.cell? ⟨g0, j + 3, none⟩ = some s' := by
  have := h1.cell (j + 3);rw [this];simp [hjl]
 have hq : ∀ g i v, W.cell? ⟨g, i, none⟩ = some v → ¬ (g = g0 ∧ i = j + 3) → W'.cell? ⟨g, i, none⟩ = some v := fun g i v h hn => by
  by_cases e : g = g0
  ·subst e
   have hij : i ≠ j + 3 := fun e => hn ⟨rfl, e⟩
   rw [h0.cell i] at h;rw [h1.cell i, Array.getElem?_setIfInBounds_ne (fun e => hij e.symm)];exact h
  ·exact ht.cell h e
 have hp : W.cell? ⟨g0, j + 3, none⟩ = some (.slice A n c) := by rw [h0.cell (j + 3)]; exact hj
 intro a ks v hne h
 have hc : ∀ g i v, W.cell? ⟨g, i, none⟩ = some v → (∀ a b c, v ≠ .slice a b c) → W'.cell? ⟨g, i, none⟩ = some v := fun g i v h hv => by
  refine hq g i v h fun ⟨e1, e2⟩ => ?_
  subst e1 e2;rw [hp] at h;cases h;exact hv _ _ _ rfl
 induction h with
 | wait a ks v ha h => exact .wait a ks v (hP a ha hne) h
 | nil a A cap => exact .nil a A cap
 | row a g cap ks sl hB hg hl hx k0 k1 k2 k3 hk ih =>
  have hz : ∀ i, ∃ t, ∀ (hi : i < ks.length), W'.cell? ⟨g, i * 4 + 3, none⟩ = some t ∧ TreX w0 P' W' ⟨g, i * 4, none⟩ ks[i].kids t := fun i => by
   by_cases hi : i < ks.length
   ·by_cases e : (⟨g, i * 4, none⟩ : Addr) = ⟨g0, j, none⟩
    ·simp only [Addr.mk.injEq, and_true] at e
     have h4 := k3 i hi;rw [e.1, e.2, hp] at h4;have h5 : sl i = .slice A n c := by injection h4 with h4; exact h4.symm
     have h6 := hk i hi;rw [h5] at h6;have h7 := h6.kids hm;refine ⟨s', fun _ => ⟨by rw [e.1, e.2]; exact hp', by rw [h7, e.1, e.2]; exact hs⟩⟩
    ·refine ⟨sl i, fun _ => ⟨hq _ _ _ (k3 i hi) fun e2 => e (by rw [e2.1, show i * 4 = j by omega]), ih i hi e⟩⟩
   ·exact ⟨s', fun h => absurd h hi⟩
  refine .row a g cap ks (fun i => Classical.choose (hz i)) hB ?_ hl hx (fun i hi => hc _ _ _ (k0 i hi) (fun _ _ _ e => by cases e)) (fun i hi => hc _ _ _ (k1 i hi) (fun _ _ _ e => by cases e)) (fun i hi => hc _ _ _ (k2 i hi) (fun _ _ _ e => by cases e))
   (fun i hi => (Classical.choose_spec (hz i) hi).1) (fun i hi => (Classical.choose_spec (hz i) hi).2)
  obtain ⟨cs, fr, e3⟩ := hg
  by_cases e : g = g0
  ·exact ⟨_, _, by rw [e]; exact h1⟩
  ·exact ⟨cs, fr, (ht.block g (Array.getElem?_eq_some_iff.1 e3).1 e).trans e3⟩
end Go.Proofs.Ytnamnmpnoiodnaa
namespace Go.Proofs.Ytnamnmpnoiodnaa
open Go.RowKit
open Tr (Nd)
open Lx (PTok)
attribute [local go_sem] stillV stillUpon
theorem TreT.one {B : Nat} {W : World} {g cap : Nat} {n : Nd} {sl : Value} (hB : B ≤ g) (hg : ∃ cs fr, W.heap[g]? = some (.cells cs 32 fr)) (h0 : W.cell? ⟨g, 0, none⟩ = some (.int .i64 n.kind)) (h1 : W.cell? ⟨g, 1, none⟩ = some (.string ⟨n.text.toArray⟩))
  (h2 : W.cell? ⟨g, 2, none⟩ = some (.int .i64 n.cols)) (h3 : W.cell? ⟨g, 3, none⟩ = some sl) (hk : TreT B W n.kids sl) (ht : n.text.length ≤ maxLen) : TreT B W [n] (.slice (some ⟨g, 0, none⟩) 1 cap) :=
 TreT.row g cap [n] (fun _ => sl) hB hg (by simp [maxLen]) (fun i hi => match i, hi with | 0, _ => ht) (fun i hi => match i, hi with | 0, _ => h0) (fun i hi => match i, hi with | 0, _ => h1) (fun i hi => match i, hi with | 0, _ => h2) (fun i hi => match i, hi with | 0, _ => h3) (fun i hi => match i, hi with | 0, _ => hk)
structure Kp where
 p : Nat
 n : Nat
 b : Bool
def Kp.up (k : Kp) : Kp := ⟨k.p + 1, k.n, k.b⟩
@[simp] theorem Kp.up_p (k : Kp) : k.up.p = k.p + 1 := rfl
structure Cf where
 g : Nat
 W0 : World
 tv : Value
 mv : Value
 en : Nat
 T : List PTok
 P : Nat
 tb : Mcr.Table
 tp : Value
abbrev Cf.E (c : Cf) : Mcr.En := ⟨c.en, c.P, c.tb⟩
def Cf.at (c : Cf) (k : Kp) : Mcr.St := ⟨c.T.drop k.p, k.n, k.b⟩
theorem Cf.at_l (c : Cf) (k : Kp) : (c.at k).l = c.T.drop k.p := rfl
theorem Cf.at_up (c : Cf) (k : Kp) : (c.at k).up = c.at k.up := by
 show (⟨(c.T.drop k.p).tail, k.n, k.b⟩ : Mcr.St) = _;rw [List.tail_drop];rfl
def pp0 (c : Cf) : Value := .pointer (some ⟨c.g, 0, none⟩)
def macV (m : Mcr.Mac) (sl : Value) : Value := .agg #[.int .i64 (m.params : Int), .int .i64 m.tree.kind, .string ⟨m.tree.text.toArray⟩, .int .i64 m.tree.cols, sl]
def macEs (tb : Mcr.Table) (sls : Nat → Value) : List MapEntry := tb.zipIdx.map fun x => ⟨.string ⟨x.1.name.toArray⟩, macV x.1 (sls x.2), x.2⟩
structure TabAt (W : World) (g : Nat) (tb : Mcr.Table) (gt bm : Nat) (nv : Value) (sls : Nat → Value) : Prop where
 blk : Blk W gt 52 #[nv, .map (some bm)]
 map : W.heap[bm]? = some (.map (macEs tb sls).toArray tb.length)
 tree : ∀ i (hi : i < tb.length), TreT 0 W tb[i].tree.kids (sls i)
 txt : ∀ m ∈ tb, m.tree.text.length ≤ maxLen ∧ m.params ≤ 4 ∧ Tr.count m.tree ≤ 1000
 ng : gt ≠ g
 nm : bm ≠ g
def TabV (W : World) (g : Nat) (tb : Mcr.Table) (tp : Value) : Prop := (tp = .pointer none ∧ tb = []) ∨ ∃ gt bm nv sls, tp = .pointer (some ⟨gt, 0, none⟩) ∧ TabAt W g tb gt bm nv sls
structure Cf.Good (c : Cf) : Prop where
 tok : TokRow c.W0 c.tv c.T
 glt : c.g < c.W0.heap.size
 far : ∀ gt o n cap, c.tv = .slice (some ⟨gt, o, none⟩) n cap → gt ≠ c.g
 tl : c.T.length ≤ 100000
 enl : c.en ≤ 1000000000
 txt : ∀ t ∈ c.T, t.text.length ≤ maxLen
 knz : ∀ t ∈ c.T, t.kind ≠ 0
 par : ∀ t ∈ c.T, t.kind = 6 → ∃ b : UInt8, t.text = [b] ∧ 49 ≤ b ∧ b ≤ 57
 par4 : c.P ≤ 4
 tab : TabV c.W0 c.g c.tb c.tp
 gty : ∃ cs, Blk c.W0 c.g 76 cs
structure Ps (c : Cf) (k : Kp) (op : List Nat) (w : World) : Prop where
 low : Touch (fun b => b = c.g) c.W0 w
 box : ∃ ov, Blk w c.g 76 #[c.tv, .int .i64 (k.p : Int), .int .i64 (c.en : Int), ov, c.tp, .int .i64 (c.P : Int), c.mv, .int .i64 (k.n : Int), .bool k.b] ∧ w.ownsRow c.W0.heap.size 3 1 ov op.length (intVs (up op))
 le : k.p ≤ c.T.length
 nl : k.n ≤ 1000 * k.p
theorem Ps.fresh {c : Cf} {k : Kp} {op : List Nat} {w w' : World} (h : Ps c k op w) (hf : Fresh w w') : Ps c k op w' := by
 obtain ⟨ov, hb, ho⟩ := h.box;exact ⟨h.low.trans (hf.mono fun _ h => h.elim), ⟨ov, hf.blk hb (fun h => h), ownsRow_touch ho hf (fun _ _ h => h)⟩, h.le, h.nl⟩
theorem Ps.glt {c : Cf} {k : Kp} {op : List Nat} {w : World} (h : Ps c k op w) : c.g < w.heap.size := by
 obtain ⟨ov, hb, _⟩ := h.box;exact hb.lt
def tokV (en : Nat) : List PTok → Value
 | [] => .agg #[.int .i64 0, .string ⟨#[]⟩, .int .i64 (en : Int), .int .i64 (en : Int)]
 | t :: _ => .agg #[.int .i64 t.kind, .string ⟨t.text.toArray⟩, .int .i64 (t.from_ : Int), .int .i64 (t.to_ : Int)]
theorem tok_any_n (c : Cf) (hc : c.Good) (k : Kp) (op : List Nat) (w : World) (h : Ps c k op w) :
  Calls Try.prog 43 #[pp0 c] w fun e w' => e = .returned (tokV c.en (c.at k).l) ∧ Fresh w w' := by
 obtain ⟨ov, hb, ho⟩ := h.box;obtain ⟨At, ct, htv, htk⟩ := hc.tok;have hlow := h.low;have hgl := hc.glt;have htl := hc.tl;have hle := h.le;have hfar := hc.far;clear h hc;obtain ⟨g, W0, tv, mv, en, T, P, tb, tp⟩ := c;obtain ⟨k, kn, kb⟩ := k;unfold Cf.at;unfold pp0;simp only at *;subst htv;have HTK := hid htk;have HLOW := hid hlow;have hgw := hb.lt;have q0 := hb.cell 0;have q1 := hb.cell 1;have q2 := hb.cell 2;have hk4 : k ≤ 100000 := by omega
 clear htk hb ho hlow
 by_cases c1 : k < T.length
 ·have d1 : decide ((k : Int) < (T.length : Int)) = true := by simp; omega
  have d1n : decide (k < T.length) = true := by simp; omega
  have d1' : (k : Int) < (T.length : Int) := by omega
  obtain ⟨gt, o, hA, hgt, h0, h1, h2, h3⟩ := HTK.out k c1;cases hA;have HE := hid (show tokV en (T.drop k) = .agg #[.int .i64 T[k].kind, .string ⟨T[k].text.toArray⟩, .int .i64 (T[k].from_ : Int), .int .i64 (T[k].to_ : Int)] from by rw [List.drop_eq_getElem_cons c1]; rfl);generalize T[k] = t at h0 h1 h2 h3 HE;have hne : gt ≠ g := hfar gt o _ _ rfl;have a0 := HLOW.out.cell h0 (by exact hne);have a1 := HLOW.out.cell h1 (by exact hne);have a2 := HLOW.out.cell h2 (by exact hne);have a3 := HLOW.out.cell h3 (by exact hne);have hgt' : gt < w.heap.size := bL a0;clear h0 h1 h2 h3;clear hfar;go_enter Try.func43, Try.ntmps43;go_wp2_with fail
  go_quiet (fail)
  go_wp2_with fail
  have hf1 : Fresh w ((w.alloc (.cells #[.int .i64 0, .string ⟨#[]⟩, .int .i64 0, .int .i64 0] 107)).drewN nq) := ((Touch.refl _ _).alloc _).drewN _;have hb1 : Blk ((w.alloc (.cells #[.int .i64 0, .string ⟨#[]⟩, .int .i64 0, .int .i64 0] 107)).drewN nq) w.heap.size 107 #[.int .i64 0, .string ⟨#[]⟩, .int .i64 0, .int .i64 0] := (Blk.new _ _ _).drewN _;generalize ((w.alloc (.cells #[.int .i64 0, .string ⟨#[]⟩, .int .i64 0, .int .i64 0] 107)).drewN nq) = W1 at hf1 hb1 ⊢;have r0 := cR (hf1.cell (q0.trans rfl) (fun h => h));have r1 := cR (hf1.cell (q1.trans rfl) (fun h => h));have s0 := cR (hf1.cell a0 (fun h => h));have s1 := cR (hf1.cell a1 (fun h => h));have s2 := cR (hf1.cell a2 (fun h => h));have s3 := cR (hf1.cell a3 (fun h => h));have hlt1 := hb1.lt;have hgt1 : gt < W1.heap.size := Nat.lt_of_lt_of_le hgt' hf1.size;have hgg1 : g < W1.heap.size := Nat.lt_of_lt_of_le hgw hf1.size;have HF1 := hid hf1;have HB1 := hid hb1;clear q0 q1 q2 a0 a1 a2 a3 hf1 hb1;refine wp_region_mix [([(0, true), (1, true), (2, true), (3, true), (4, true), (5, true), (6, true), (7, true), (8, true), (9, true)], 10)] [] (by kernel_rfl) (fun _ _ d _ _ h => by cases d <;> exact h) (by kernel_rfl) ?_;refine wpMix_seg ?_
  repeat (refine wpSeq_plain rfl (fun K hK => ?_); go_simp; refine hK _ ?_; clear hK K)
  have hb2 := HB1.out.drewN 1;obtain ⟨p0, p1, p2, p3, z0, z1, z2, z3, _⟩ := Blk.four hb2;refine wpSeq_shut rfl (fun K hK => ?_);go_wp2_with fail
  refine wpMix_end ?_;go_wp2_with fail
  refine bodyPost_ret (v := .agg #[.int .i64 t.kind, .string ⟨t.text.toArray⟩, .int .i64 (t.from_ : Int), .int .i64 (t.to_ : Int)]) (by simp [results, Try.results43, go_sem, p0, p1, p2, p3]) rfl ?_;exact ⟨by rw [HE.out], Touch.put4 (HF1.out.drewN 1) (.inr (Nat.le_refl _)) _ _ _ _⟩
 ·have d1 : decide ((k : Int) < (T.length : Int)) = false := by simp; omega
  have d1n : decide (k < T.length) = false := by simp; omega
  have HE := hid (show tokV en (T.drop k) = .agg #[.int .i64 0, .string ⟨#[]⟩, .int .i64 (en : Int), .int .i64 (en : Int)] from by rw [List.drop_eq_nil_of_le (by omega)]; rfl);clear hfar;go_enter Try.func43, Try.ntmps43;go_wp2_with fail
  go_quiet (fail)
  go_wp2_with fail
  have hf1 : Fresh w ((w.alloc (.cells #[.int .i64 0, .string ⟨#[]⟩, .int .i64 0, .int .i64 0] 107)).drewN nq) := ((Touch.refl _ _).alloc _).drewN _;have hb1 : Blk ((w.alloc (.cells #[.int .i64 0, .string ⟨#[]⟩, .int .i64 0, .int .i64 0] 107)).drewN nq) w.heap.size 107 #[.int .i64 0, .string ⟨#[]⟩, .int .i64 0, .int .i64 0] := (Blk.new _ _ _).drewN _;generalize ((w.alloc (.cells #[.int .i64 0, .string ⟨#[]⟩, .int .i64 0, .int .i64 0] 107)).drewN nq) = W1 at hf1 hb1 ⊢;have r2 := cR (hf1.cell (q2.trans rfl) (fun h => h));have hlt1 := hb1.lt;have hgg1 : g < W1.heap.size := Nat.lt_of_lt_of_le hgw hf1.size;have HF1 := hid hf1;have HB1 := hid hb1;clear q0 q1 q2 hf1 hb1;refine wp_region_mix [([(0, true), (1, true), (2, true), (3, true), (4, true), (5, true), (6, true), (7, true), (8, true)], 9)] [] (by kernel_rfl) (fun _ _ d _ _ h => by cases d <;> exact h) (by kernel_rfl) ?_;refine wpMix_seg ?_
  repeat (refine wpSeq_plain rfl (fun K hK => ?_); go_simp; refine hK _ ?_; clear hK K)
  have hb2 := HB1.out.drewN 1;obtain ⟨p0, p1, p2, p3, z0, z1, z2, z3, _⟩ := Blk.four hb2;refine wpSeq_shut rfl (fun K hK => ?_);go_wp2_with fail
  refine wpMix_end ?_;go_wp2_with fail
  refine bodyPost_ret (v := .agg #[.int .i64 0, .string ⟨#[]⟩, .int .i64 (en : Int), .int .i64 (en : Int)]) (by simp [results, Try.results43, go_sem, p0, p1, p2, p3]) rfl ?_;exact ⟨by rw [HE.out], Touch.put4 (HF1.out.drewN 1) (.inr (Nat.le_refl _)) _ _ _ _⟩
theorem at_any_n (c : Cf) (hc : c.Good) (k : Kp) (op : List Nat) (b : UInt8) (w : World) (h : Ps c k op w) :
  Calls Try.prog 44 #[pp0 c, .string ⟨#[b]⟩] w fun e w' => e = .returned (.bool (Np.isM b (c.at k).l)) ∧ Fresh w w' := by
 have HT := hid (tok_any_n c hc k op w h);clear hc h;generalize (c.at k).l = l at HT ⊢;go_enter Try.func44, Try.ntmps44;go_wp2_with fail
 refine HT.out.mono ?_;rintro _ w1 ⟨rfl, hf⟩;have HF := hid hf;clear hf;cases l with
 | nil =>
  unfold tokV;go_wp2_with fail
  go_ret;exact ⟨rfl, HF.out.alloc _⟩
 | cons t r =>
  unfold tokV;have HI := hid (show Np.isM b (t :: r) = ((t.kind == 7) && (t.text == [b])) from rfl);have hs : ((⟨t.text.toArray⟩ : ByteArray) == (⟨#[b]⟩ : ByteArray)) = (t.text == [b]) := by rw [str_eq']
  cases hk : (t.kind == 7) with
  | false =>
   have hkI : ((t.kind : Int) == (7 : Int)) = false := by
    have : t.kind ≠ 7 := by simpa using hk
    rw [beq_eq_false_iff_ne];omega
   go_wp2_with fail
   go_ret;exact ⟨by rw [HI.out, hk]; rfl, HF.out.alloc _⟩
  | true =>
   have hkI : ((t.kind : Int) == (7 : Int)) = true := by
    have : t.kind = 7 := by simpa using hk
    rw [this];rfl
   go_wp2_with fail
   go_ret;exact ⟨by rw [HI.out, hk]; rfl, HF.out.alloc _⟩
def failV (i e : Nat) : Value := .agg #[.int .i64 (i : Int), .int .i64 (e : Int)]
theorem field_tok0 (a b c d : Value) (w : World) : (Instr.field 107 (.agg #[a, b, c, d]) 0).run Try.prog w = .ok a w := by
 simp [Instr.field, run_underlying Try.underlying107, part, isAgg, asAgg, run_underlying Try.underlying3]
theorem field_tok1 (a b c d : Value) (w : World) : (Instr.field 107 (.agg #[a, b, c, d]) 1).run Try.prog w = .ok b w := by
 simp [Instr.field, run_underlying Try.underlying107, part, isAgg, asAgg, run_underlying Try.underlying9]
theorem field_tok2 (a b c d : Value) (w : World) : (Instr.field 107 (.agg #[a, b, c, d]) 2).run Try.prog w = .ok c w := by
 simp [Instr.field, run_underlying Try.underlying107, part, isAgg, asAgg, run_underlying Try.underlying3]
theorem Blk.two {w : World} {g : Nat} {t : TypeId} {x0 x1 : Value} (h : Blk w g t #[x0, x1]) :
  w.cell? ⟨g, 0, none⟩ = some x0 ∧ w.cell? ⟨g, 1, none⟩ = some x1 ∧ w.frozen? ⟨g, 0, none⟩ = false ∧ w.frozen? ⟨g, 1, none⟩ = false ∧ g < w.heap.size := ⟨h.cell 0, h.cell 1, h.frozen 0, h.frozen 1, h.lt⟩
theorem tok_place (en : Nat) (l : List PTok) : ∃ (r0 r1 r3 : Value) (r2 : Nat), tokV en l = .agg #[r0, r1, .int .i64 (r2 : Int), r3] ∧ r2 = Np.place en l := by
 cases l with
 | nil => exact ⟨_, _, _, _, rfl, rfl⟩
 | cons t r => exact ⟨_, _, _, _, rfl, rfl⟩
theorem refuse_any_n (c : Cf) (hc : c.Good) (k : Kp) (op : List Nat) (w : World) (h : Ps c k op w) :
  Calls Try.prog 28 #[pp0 c] w fun e w' => e = .returned (failV (Np.place c.en (c.at k).l) 3) ∧ Fresh w w' := by
 have HT := hid (fun (w' : World) (hf : Fresh w w') => tok_any_n c hc k op w' (h.fresh hf));clear hc h;generalize (c.at k).l = l at HT ⊢;obtain ⟨r0, r1, r3, r2, hr, hp⟩ := tok_place c.en l;rw [← hp];rw [hr] at HT;have hfd := field_tok2;clear hr hp;go_enter Try.func28, Try.ntmps28;go_wp2_with fail
 refine (HT.out _ ((Touch.refl _ _).alloc _)).mono ?_;rintro _ w1 ⟨rfl, hf⟩;have HF := hid (show Fresh w w1 from Touch.pre hf);obtain ⟨p0, p1, z0, z1, hlt⟩ := Blk.two (hf.blk (Blk.new w 56 #[.int .i64 0, .int .i64 0]) (fun h => h));clear hf;go_wp2_with fail
 (try simp only [Exit.inBlock, Exit.then])
 refine bodyPost_ret (v := failV r2 3) (by simp [failV, results, Try.results28, go_sem, p0, p1]) rfl ?_;exact ⟨rfl, (HF.out.setCell (p := ⟨w.heap.size, 0, none⟩) (.inr (Nat.le_refl _)) _).setCell (p := ⟨w.heap.size, 1, none⟩) (.inr (Nat.le_refl _)) _⟩
theorem slot_any_n (A : Option Addr) (n cap : Nat) (w : World) :
  Calls Try.prog 29 #[.slice A n cap] w fun e w' => e = .returned (.agg #[.int .i64 1, .string ⟨#[]⟩, .int .i64 0, .slice A n cap]) ∧ Fresh w w' := by
 go_enter Try.func29, Try.ntmps29;go_wp2_with fail
 (try simp only [Exit.inBlock, Exit.then])
 obtain ⟨p0, p1, p2, p3, _⟩ := Blk.four (Blk.new w 32 #[.int .i64 1, .string ⟨#[]⟩, .int .i64 0, .slice A n cap]);refine bodyPost_ret (v := .agg #[.int .i64 1, .string ⟨#[]⟩, .int .i64 0, .slice A n cap]) (by simp [results, Try.results29, go_sem, p0, p1, p2, p3]) rfl ?_;exact ⟨rfl, (Touch.refl _ _).alloc _⟩
theorem Ps.next {c : Cf} {k : Kp} {op : List Nat} {w : World} (h : Ps c k op w) (hk : k.p < c.T.length) (x : Int) (hx : x = ((k.p + 1 : Nat) : Int)) : Ps c k.up op (w.setCell ⟨c.g, 1, none⟩ (.int .i64 x)) ∧ Mp c.g c.W0.heap.size w (w.setCell ⟨c.g, 1, none⟩ (.int .i64 x)) := by
 obtain ⟨ov, hb, ho⟩ := h.box
 have hne : ∀ b, ov.ownBlock = some b → b ≠ c.g := fun b hb' => by
  obtain ⟨h1, cur, h2⟩ := owns_type ho hb';intro e;subst e;unfold Blk at hb;rw [hb] at h2;cases h2
 refine ⟨⟨h.low.setCell (p := ⟨c.g, 1, none⟩) (.inl rfl) _, ⟨ov, ?_, ownsRow_touch ho ((Touch.refl (fun b => b = c.g) w).setCell (p := ⟨c.g, 1, none⟩) (.inl rfl) _) hne⟩, hk, by have := h.nl; show k.n ≤ 1000 * (k.p + 1); omega⟩, Mp.put w 1 _⟩;have := hb.put 1 (.int .i64 x);rw [hx] at this ⊢;exact this
theorem single_any_n (c : Cf) (hc : c.Good) (k : Kp) (op : List Nat) (kd : Int) (tx : List UInt8) (w : World) (h : Ps c k op w) (hk : k.p < c.T.length) (htx : tx.length ≤ maxLen) :
  Calls Try.prog 84 #[pp0 c, .int .i64 kd, .string ⟨tx.toArray⟩] w fun e w' => ∃ b, e = .returned (.tuple #[.slice (some ⟨b, 0, none⟩) 1 1, failV 0 0]) ∧ TreT w.heap.size w' [.mk kd tx 0 []] (.slice (some ⟨b, 0, none⟩) 1 1) ∧ Ps c k.up op w' ∧ Mp c.g c.W0.heap.size w w' := by
 have htl := hc.tl;have hk4 : k.p ≤ 100000 := by omega
 obtain ⟨ov, hb, ho⟩ := h.box;have hgw := hb.lt;have q1 := hb.cell 1;have z1 := hb.frozen 1;have H := hid h;clear hc hb ho h;unfold pp0;have e1 : ((k.p : Int) + 1) = ((k.p + 1 : Nat) : Int) := by simp
 have HE := hid e1;clear e1;go_enter Try.func84, Try.ntmps84;go_wp2_with fail
 have hn := H.out.next hk ((k.p : Int) + 1) HE.out;have hs : (w.setCell ⟨c.g, 1, none⟩ (.int .i64 ((k.p : Int) + 1))).heap.size = w.heap.size := by simp
 generalize (w.setCell ⟨c.g, 1, none⟩ (.int .i64 ((k.p : Int) + 1))) = W1 at hn hs ⊢;rw [← hs]
 (try simp only [Exit.inBlock, Exit.then])
 have hbf : Blk ((W1.alloc (.cells #[.int .i64 0, .int .i64 0] 56)).alloc (.cells #[.int .i64 kd, .string ⟨tx.toArray⟩, .int .i64 0, .slice none 0 0] 32)) W1.heap.size 56 #[.int .i64 0, .int .i64 0] := (Blk.new _ _ _).alloc _;have hbn : Blk ((W1.alloc (.cells #[.int .i64 0, .int .i64 0] 56)).alloc (.cells #[.int .i64 kd, .string ⟨tx.toArray⟩, .int .i64 0, .slice none 0 0] 32)) (W1.heap.size + 1) 32 #[.int .i64 kd, .string ⟨tx.toArray⟩, .int .i64 0, .slice none 0 0] := Blk.new2 _ _ _ _;have hf2 : Fresh W1 ((W1.alloc (.cells #[.int .i64 0, .int .i64 0] 56)).alloc (.cells #[.int .i64 kd, .string ⟨tx.toArray⟩, .int .i64 0, .slice none 0 0] 32)) := ((Touch.refl _ _).alloc _).alloc _;generalize ((W1.alloc (.cells #[.int .i64 0, .int .i64 0] 56)).alloc (.cells #[.int .i64 kd, .string ⟨tx.toArray⟩, .int .i64 0, .slice none 0 0] 32)) = W2 at hbf hbn hf2 ⊢;obtain ⟨p0, p1, _⟩ := Blk.two hbf;refine bodyPost_ret (v := .tuple #[.slice (some ⟨W1.heap.size + 1, 0, none⟩) 1 1, failV 0 0]) (by simp [failV, results, Try.results84, go_sem, p0, p1]) rfl ?_;refine ⟨_, rfl, ?_, hn.1.fresh hf2, hn.2.trans (Mp.fresh hf2)⟩;obtain ⟨n0, n1, n2, n3, _⟩ := Blk.four hbn;exact TreT.one (by omega) ⟨_, _, hbn⟩ n0 n1 n2 n3 (.nil _ _) htx
end Go.Proofs.Ytnamnmpnoiodnaa
