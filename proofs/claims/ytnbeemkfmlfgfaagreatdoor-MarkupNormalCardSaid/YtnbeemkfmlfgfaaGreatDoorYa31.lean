/- Part 31 of 35 of a proof; its texts, joined: XmK, XmF, XmG, XmH, MkD. No condition. -/
import Derived.Test.YtnbeemkfmlfgfaaGreatDoorYa21
import Derived.Test.YtnbeemkfmlfgfaaGreatDoorYa29
import Derived.Test.YtnbeemkfmlfgfaaGreatDoorYa19
import Derived.Test.YtnbeemkfmlfgfaaGreatDoorYa30
import Derived.Test.YtnbeemkfmlfgfaaGreatDoorYa18
import Derived.Test.YtnbeemkfmlfgfaaGreatDoorYa4
import Derived.Test.YtnbeemkfmlfgfaaGreatDoorYa3
import Derived.Test.YtnbeemkfmlfgfaaGreatDoorYa13
import Derived.Laws.Concat
import Derived.Test.YtnbeemkfmlfgfaaGreatDoorYa26
set_option maxRecDepth 100000
set_option maxHeartbeats 4000000
namespace Go.Proofs.YtnbeemkfmlfgfaaGreatDoor
open Go.RowKit
open Tr (Nd)
open El (E Attrs writeE nodeF nilNd elM)
open Xp (parseX documentR)
def importF (T : List UInt8) : Nd × Int × Int := if (parseX T).2.2 = 0 then nodeF (parseX T).1 else (nilNd, (parseX T).2.1, (parseX T).2.2)
theorem import_ok (T : List UInt8) (h : (importF T).2.2 = 0) : Tr.valid (importF T).1 = true ∧ (importF T).2.1 = 0 := by
 unfold importF at h ⊢;split
 ·rename_i h0
  rw [if_pos h0] at h;exact El.node_valid _ h
 ·rename_i h0
  rw [if_neg h0] at h;exact absurd h h0
theorem import_nil (T : List UInt8) (h : (importF T).2.2 ≠ 0) : (importF T).1 = nilNd := by
 unfold importF at h ⊢;split
 ·rename_i h0
  rw [if_pos h0] at h;exact El.node_nil _ h
 ·rfl
theorem import_back (n : Nd) (h : Tr.valid n = true) : importF (writeE (elM n)) = (n, 0, 0) := by
 have h1 : parseX (writeE (elM n)) = (elM n, 0, 0) := parse_ok (Xp.document_write _ (El.tree_valid n h));unfold importF;rw [h1];exact El.node_back n h
theorem import_any (S : ByteArray) (w : World) (hS : S.size ≤ 1099511627776) :
  Calls Tryz.prog 14 #[.string S] w fun x w' => ∃ v, x = .returned (.tuple #[v, .int .i64 (importF S.data.toList).2.1, .int .i64 (importF S.data.toList).2.2]) ∧ MakesN w w' (importF S.data.toList).1 v := by
 have HPA := hid (fun (W : World) => xparse_any S W hS);have HIM := hid (show importF S.data.toList = if (parseX S.data.toList).2.2 = 0 then nodeF (parseX S.data.toList).1 else (nilNd, (parseX S.data.toList).2.1, (parseX S.data.toList).2.2) from rfl);have HLT0 := hid (Nat.lt_irrefl w.heap.size);have HB0 := hid (Blk.new w 31 #[.int .i64 0, .string ⟨#[]⟩, .int .i64 0, .slice none 0 0]);have HF0 := hid ((Touch.refl (fun _ => False) w).alloc (.cells #[.int .i64 0, .string ⟨#[]⟩, .int .i64 0, .slice none 0 0] 31));generalize importF S.data.toList = R at *;generalize parseX S.data.toList = P at *;obtain ⟨e, pat, per⟩ := P;clear hS;go_enter Tryz.func14, Tryz.ntmps14;go_wp2_with fail
 generalize (w.alloc (.cells #[.int .i64 0, .string ⟨#[]⟩, .int .i64 0, .slice none 0 0] 31)) = w0 at HB0 HF0 ⊢;refine (HPA.out _).mono ?_;rintro _ w1 ⟨va, vk, rfl, hf1, hst1⟩;have HF1 := hid (HF0.out.trans hf1);have HB1 := hid (hf1.blk HB0.out fun h => h);have HRV := hid hst1.now;obtain ⟨A, ca, hva⟩ := hst1.now.1.slice;obtain ⟨B, cb, hvk⟩ := hst1.now.2.1.slice;clear hf1 hst1 HF0 HB0 HPA;obtain ⟨n, ats, ks, t⟩ := e;replace hva : va = .slice A ats.length ca := hva;replace hvk : vk = .slice B ks.length cb := hvk;subst hva;subst hvk;unfold ev;simp only [E.name, E.text]
 by_cases h0 : per = 0
 ·subst h0
  have HR0 := hid (show R = nodeF (.mk n ats ks t) by rw [HIM.out]; rfl);have HMN := hid (fun (W : World) (h : RepV W (.mk n ats ks t) (.slice A ats.length ca) (.slice B ks.length cb)) => mkNode_any (.mk n ats ks t) _ _ W h);clear HIM;rw [← HR0.out] at HMN;clear HR0;unfold ev at HMN;simp only [E.name, E.text] at HMN;obtain ⟨⟨rk, rt, rc, rks⟩, rat, rer⟩ := R;have HFE := hid ((Touch.refl (fun _ => False) w1).alloc (.cells #[.string ⟨n.toArray⟩, .slice A ats.length ca, .slice B ks.length cb, .string ⟨t.toArray⟩] 45));have HBE := hid (Blk.new w1 45 #[.string ⟨n.toArray⟩, .slice A ats.length ca, .slice B ks.length cb, .string ⟨t.toArray⟩]);go_wp2_with fail
  have HF2 := hid (HF1.out.trans HFE.out);have HB2 := hid (HFE.out.blk HB1.out fun h => h);have HR2 := hid (HRV.out.fresh HFE.out);clear HF1 HB1 HRV HFE HBE;generalize (w1.alloc (.cells #[.string ⟨n.toArray⟩, .slice A ats.length ca, .slice B ks.length cb, .string ⟨t.toArray⟩] 45)) = w2 at HF2 HB2 HR2 ⊢;refine (HMN.out _ HR2.out).mono ?_;rintro _ w3 ⟨v3, rfl, s3, rfl, hf3, htl3, hst3⟩;obtain ⟨A3, c3, rfl⟩ := hst3.now.slice;have HF3 := hid (HF2.out.trans hf3);have HB3 := hid (hf3.blk HB2.out fun h => h);have HTL := hid htl3;have HLT := hid HB2.out.lt;have HST := hid (show Stab (fun k => k < w2.heap.size) w3 fun W => RepL W rks (.slice A3 rks.length c3) from hst3);have hz2 := HF2.out.size;clear hf3 hst3 htl3;obtain ⟨p0, p1, p2, p3, y0, y1, y2, y3, hg1⟩ := Blk.four HB3.out;unfold nv;simp only [Nd.kind, Nd.text, Nd.cols, Nd.kids];go_wp2_with fail
  obtain ⟨r0, r1, r2, r3, _, _, _, _, _⟩ := Blk.four (HB3.out.self4 (.int .i64 rk) (.string ⟨rt.toArray⟩) (.int .i64 rc) (.slice A3 rks.length c3));simp only [put4] at r0 r1 r2 r3;refine bodyPost_ret (v := .tuple #[.agg #[.int .i64 rk, .string ⟨rt.toArray⟩, .int .i64 rc, .slice A3 rks.length c3], .int .i64 rat, .int .i64 rer]) (by simp [results, Tryz.results14, go_sem, r0, r1, r2, r3]) rfl ?_;refine ⟨_, rfl, .slice A3 rks.length c3, rfl, Touch.put4 HF3.out (.inr (by omega)) _ _ _ _, HTL.out, ?_⟩;exact HST.out.step ((Touch.refl (fun k => k = w.heap.size) w3).put4 (.inl rfl) _ _ _ _) (fun i _ hi => by have hi : i = w.heap.size := hi; have := HLT.out; omega) (fun i _ hi => by omega)
 ·have HR0 := hid (show R = (nilNd, pat, per) by rw [HIM.out]; exact if_neg h0)
  have b0 : (per == 0) = false := by simpa using h0
  have b1 : (per != 0) = true := by simpa using h0
  have HFE := hid ((Touch.refl (fun _ => False) w1).alloc (.cells #[.string ⟨n.toArray⟩, .slice A ats.length ca, .slice B ks.length cb, .string ⟨t.toArray⟩] 45));have HF2 := hid (HF1.out.trans HFE.out);have HB2 := hid (HFE.out.blk HB1.out fun h => h);clear HIM;obtain ⟨p0, p1, p2, p3, y0, y1, y2, y3, hg1⟩ := Blk.four HB2.out;go_wp2_with fail
  obtain ⟨r0, r1, r2, r3, _, _, _, _, _⟩ := Blk.four (HB2.out.self4 (.int .i64 0) (.string ⟨#[]⟩) (.int .i64 0) (.slice none 0 0));simp only [put4] at r0 r1 r2 r3;refine bodyPost_ret (v := .tuple #[.agg #[.int .i64 0, .string ⟨#[]⟩, .int .i64 0, .slice none 0 0], .int .i64 pat, .int .i64 per]) (by simp [results, Tryz.results14, go_sem, r0, r1, r2, r3]) rfl ?_;rw [HR0.out];exact ⟨_, rfl, nil_makes _ _ (Touch.put4 HF2.out (.inr (by omega)) _ _ _ _)⟩
end Go.Proofs.YtnbeemkfmlfgfaaGreatDoor
namespace Go.Proofs.YtnbeemkfmlfgfaaGreatDoor
open Go.RowKit
open El (E Attrs escL escB)
def Kb (w w' : World) : Prop := ∀ k T cs, T ≠ 5 → T ≠ 67 → Blk w k T cs → Blk w' k T cs
theorem Kb.refl (w : World) : Kb w w := fun _ _ _ _ _ h => h
theorem Kb.trans {a b c : World} (h : Kb a b) (h' : Kb b c) : Kb a c := fun k T cs h1 h2 h3 => h' k T cs h1 h2 (h k T cs h1 h2 h3)
structure BW (w0 : World) (g : Nat) (l : List UInt8) (w : World) : Prop where
 bld : ∃ cs v, Bld w (g + 1) g 0 67 cs v l ∧ cs.size = 2
 frs : Fresh w0 w
 le : w0.heap.size ≤ g
theorem BW.lt {w0 w : World} {g : Nat} {l : List UInt8} (h : BW w0 g l w) : g < w.heap.size := by
 obtain ⟨cs, v, h1, _⟩ := h.bld;exact h1.lt
theorem bld_alloc {w : World} {B b o : Nat} {T : TypeId} {cs : Array Value} {v : Value} {l : List UInt8} (h : Bld w B b o T cs v l) {w' : World} (hf : Fresh w w') : Bld w' B b o T cs v l :=
 ⟨hf.blk h.blk (fun h => h), h.addr, h.buf, ownsRow_touch h.own hf (fun _ _ h => h), h.ne, h.nilv⟩
theorem BW.fresh {w0 w w' : World} {g : Nat} {l : List UInt8} (h : BW w0 g l w) (hf : Fresh w w') : BW w0 g l w' := by
 obtain ⟨cs, v, h1, h2⟩ := h.bld;exact ⟨⟨cs, v, bld_alloc h1 hf, h2⟩, h.frs.trans hf, h.le⟩
theorem Fresh.kb {w w' : World} (hf : Fresh w w') : Kb w w' := fun _ _ _ _ _ h => hf.blk h fun h => h
theorem blk_type {w : World} {k : Nat} {T T' : TypeId} {cs cs' : Array Value} {s : Nat × Nat} (h : Blk w k T cs) (h' : w.heap[k]? = some (.cells cs' T' s)) : T = T' := by
 unfold Blk at h;rw [h] at h';cases h';rfl
theorem BW.step {w0 w w' : World} {g : Nat} {l : List UInt8} {cs : Array Value} {v : Value} (h : BW w0 g l w) (hb : Bld w (g + 1) g 0 67 cs v l) {m : List UInt8} {cs' : Array Value} {v' : Value}
  (hb' : Bld w' (g + 1) g 0 67 cs' v' m) (hs : cs'.size = 2) (ht : Touch (fun k => k = g ∨ v.ownBlock = some k) w w') : BW w0 g m w' ∧ Kb w w' := by
 have hl := h.le;refine ⟨⟨⟨cs', v', hb', hs⟩, h.frs.trans' ht ?_, h.le⟩, fun k T ds h1 h2 h3 => ht.blk h3 ?_⟩
 ·rintro i (h1 | h1)
  ·right; omega
  ·right; have := (hb.own.lt _ h1).1; omega
 ·rintro (h4 | h4)
  ·subst h4
   exact h2 (blk_type h3 hb.blk)
  ·obtain ⟨_, h5⟩ := hb.own
   rcases h5 with ⟨h5, _⟩ | ⟨g', cap, cur, h5, _, h6, _⟩
   ·rw [h5] at h4; cases h4
   ·rw [h5] at h4
    cases h4;exact h1 (blk_type h3 h6)
theorem bw_byte {w0 w : World} {g : Nat} {l : List UInt8} (h : BW w0 g l w) (x : Int) (c : UInt8) (hx : x = c.toNat) (hl : l.length + 1 ≤ 140737488355328) :
  Calls Tryz.prog 107 #[.pointer (some ⟨g, 0, none⟩), .int .u8 x] w fun e w' => e = .returned .nilIface ∧ BW w0 g (l ++ [c]) w' ∧ Kb w w' := by
 obtain ⟨cs, v, hb, hs⟩ := h.bld;refine (writeByte_any hb (by rw [hs]; exact liesBuilder) x c hx hl (by have := h.lt; omega)).mono ?_;rintro _ w' ⟨rfl, v', hb', ht⟩;exact ⟨rfl, h.step hb hb' (by simp [hs]) ht⟩
theorem bw_str {w0 w : World} {g : Nat} {l : List UInt8} (h : BW w0 g l w) (m : List UInt8) (hl : l.length + m.length ≤ 140737488355328) :
  Calls Tryz.prog 105 #[.pointer (some ⟨g, 0, none⟩), .string ⟨m.toArray⟩] w fun e w' => e = .returned (.tuple #[.int .i64 m.length, .nilIface]) ∧ BW w0 g (l ++ m) w' ∧ Kb w w' := by
 obtain ⟨cs, v, hb, hs⟩ := h.bld;refine (writeString_any hb (by omega) (by rw [hs]; exact liesBuilder) ⟨m.toArray⟩ (by show _ + m.toArray.size ≤ _; simpa using hl) (by have := h.lt; omega)).mono ?_;rintro _ w' ⟨rfl, v', hb', ht⟩;exact ⟨by show _ = Ending.returned (.tuple #[.int .i64 (m.length : Nat), .nilIface]); simp [ByteArray.size], h.step hb (by simpa using hb') (by simp [hs]) ht⟩
theorem bw_string {w0 w : World} {g : Nat} {l : List UInt8} (h : BW w0 g l w) :
  Calls Tryz.prog 30 #[.pointer (some ⟨g, 0, none⟩)] w fun e w' => e = .returned (.string ⟨l.toArray⟩) ∧ Fresh w0 w' ∧ Kb w w' := by
 obtain ⟨cs, v, hb, hs⟩ := h.bld;have hl := h.le;refine (bstring_any hb).mono ?_;rintro _ w' ⟨rfl, ht⟩;refine ⟨rfl, h.frs.trans' ht (fun i h1 => by right; have := (hb.own.lt _ h1).1; omega), fun k T ds h1 h2 h3 => ht.blk h3 fun h4 => ?_⟩;obtain ⟨_, h5⟩ := hb.own
 rcases h5 with ⟨h5, _⟩ | ⟨g', cap, cur, h5, _, h6, _⟩
 ·rw [h5] at h4; cases h4
 ·rw [h5] at h4
  cases h4;exact h1 (blk_type h3 h6)
theorem bw_new (w0 w : World) (h : Fresh w0 w) : BW w0 w.heap.size [] (w.alloc (.cells #[.pointer none, .slice none 0 0] 67)) :=
 ⟨⟨_, _, ⟨Blk.new _ _ _, .inl rfl, rfl, World.ownsRow_nil _ _ _ _, by simp [Value.ownBlock], fun _ => rfl⟩, rfl⟩, h.alloc _, h.size⟩
theorem escL_le (s : List UInt8) (j : Nat) : (escL (s.take j)).length ≤ (escL s).length := by
 have : escL s = escL (s.take j) ++ escL (s.drop j) := by unfold El.escL; rw [← List.flatMap_append, List.take_append_drop]
 rw [this, List.length_append]; omega
theorem escL_take (s : List UInt8) (j : Nat) (h : j < s.length) : escL (s.take (j + 1)) = escL (s.take j) ++ escB s[j] := by
 rw [List.take_succ_eq_append_getElem h, El.escL_snoc]
theorem escape_any (s : List UInt8) (w0 : World) (g : Nat) (l : List UInt8) (w : World) (h : BW w0 g l w) (hl : l.length + (escL s).length ≤ 140737488355328) (hs : s.length ≤ 9223372036854775807) :
  Calls Tryz.prog 106 #[.pointer (some ⟨g, 0, none⟩), .string ⟨s.toArray⟩] w fun e w' => e = .returned (.tuple #[]) ∧ BW w0 g (l ++ escL s) w' ∧ Kb w w' := by
 have H := hid h;have HL := hid hl;have HSZ := hid (show (⟨s.toArray⟩ : ByteArray).size = s.length from by simp [ByteArray.size]);obtain ⟨t, ht⟩ : ∃ t : ByteArray, t = ⟨s.toArray⟩ := ⟨_, rfl⟩;rw [← ht];rw [← ht] at HSZ;have HTE := hid ht;have hm : t.size ≤ 9223372036854775807 := by rw [HSZ.out]; exact hs
 clear h hl ht;go_enter Tryz.func106, Tryz.ntmps106;go_wp2_with fail
 go_loopw [4] (fun i wr => ∃ j : Nat, i = .int .i64 j ∧ j ≤ t.size ∧ Hid (BW w0 g (l ++ escL (s.take j)) wr) ∧ Hid (Kb w wr)) (fun i _ => t.size - (intOf i).toNat)
 case atStart => exact ⟨0, rfl, Nat.zero_le _, hid (by simpa [El.escL_nil] using H.out), Kb.refl _⟩
 case round =>
  obtain ⟨j, rfl, hj, HB, HK⟩ := hrel
  by_cases c1 : j < t.size
  ·have d1 : decide ((j : Int) < (t.size : Int)) = true := dT (by omega)
   have d1' : (j : Int) < (t.size : Int) := by omega
   have d1n : decide (j < t.size) = true := dT (by omega);have c1s : j < s.length := by rw [← HSZ.out]; exact c1
   obtain ⟨b, hb⟩ : ∃ b, t[j]'c1 = b := ⟨_, rfl⟩;have HSB := hid (show s[j] = b by rw [← hb]; have := HTE.out; subst this; rfl);have HST := hid (escL_take s j c1s);have HLE := hid (show (escL (s.take j)).length + (escB s[j]).length ≤ (escL s).length by rw [← List.length_append, ← HST.out]; exact escL_le s (j + 1));rw [HSB.out] at HST HLE;clear HSB
   by_cases c2 : b = 38
   ·have b2 : ((b.toNat : Int) == 38) = true := u8_eq_of _ 38 c2
    have HEB := hid (show escB b = [38, 97, 109, 112, 59] by unfold El.escB; rw [if_pos c2]);go_wp2_with fail
    refine (bw_str HB.out [38, 97, 109, 112, 59] (by have := HLE.out; rw [HEB.out] at this; have := HL.out; rw [List.length_append]; omega)).mono ?_;rintro _ w2 ⟨rfl, hb2, hk2⟩;have HB2 := hid hb2;have HK2 := hid (HK.out.trans hk2);clear hb2 hk2;go_wp2_with fail
    go_roundw
    case rel => exact ⟨j + 1, by go_num, c1, by unfold Hid; rw [HST.out, HEB.out, ← List.append_assoc]; exact HB2.out, HK2⟩
    case measure => simp [intOf]; omega
   have b2 : ((b.toNat : Int) == 38) = false := u8_ne_of _ 38 c2
   by_cases c3 : b = 60
   ·have b3 : ((b.toNat : Int) == 60) = true := u8_eq_of _ 60 c3
    have HEB := hid (show escB b = [38, 108, 116, 59] by unfold El.escB; rw [if_neg c2, if_pos c3]);go_wp2_with fail
    refine (bw_str HB.out [38, 108, 116, 59] (by have := HLE.out; rw [HEB.out] at this; have := HL.out; rw [List.length_append]; omega)).mono ?_;rintro _ w2 ⟨rfl, hb2, hk2⟩;have HB2 := hid hb2;have HK2 := hid (HK.out.trans hk2);clear hb2 hk2;go_wp2_with fail
    go_roundw
    case rel => exact ⟨j + 1, by go_num, c1, by unfold Hid; rw [HST.out, HEB.out, ← List.append_assoc]; exact HB2.out, HK2⟩
    case measure => simp [intOf]; omega
   have b3 : ((b.toNat : Int) == 60) = false := u8_ne_of _ 60 c3
   by_cases c4 : b = 62
   ·have b4 : ((b.toNat : Int) == 62) = true := u8_eq_of _ 62 c4
    have HEB := hid (show escB b = [38, 103, 116, 59] by unfold El.escB; rw [if_neg c2, if_neg c3, if_pos c4]);go_wp2_with fail
    refine (bw_str HB.out [38, 103, 116, 59] (by have := HLE.out; rw [HEB.out] at this; have := HL.out; rw [List.length_append]; omega)).mono ?_;rintro _ w2 ⟨rfl, hb2, hk2⟩;have HB2 := hid hb2;have HK2 := hid (HK.out.trans hk2);clear hb2 hk2;go_wp2_with fail
    go_roundw
    case rel => exact ⟨j + 1, by go_num, c1, by unfold Hid; rw [HST.out, HEB.out, ← List.append_assoc]; exact HB2.out, HK2⟩
    case measure => simp [intOf]; omega
   have b4 : ((b.toNat : Int) == 62) = false := u8_ne_of _ 62 c4
   by_cases c5 : b = 34
   ·have b5 : ((b.toNat : Int) == 34) = true := u8_eq_of _ 34 c5
    have HEB := hid (show escB b = [38, 113, 117, 111, 116, 59] by unfold El.escB; rw [if_neg c2, if_neg c3, if_neg c4, if_pos c5]);go_wp2_with fail
    refine (bw_str HB.out [38, 113, 117, 111, 116, 59] (by have := HLE.out; rw [HEB.out] at this; have := HL.out; rw [List.length_append]; omega)).mono ?_;rintro _ w2 ⟨rfl, hb2, hk2⟩;have HB2 := hid hb2;have HK2 := hid (HK.out.trans hk2);clear hb2 hk2;go_wp2_with fail
    go_roundw
    case rel => exact ⟨j + 1, by go_num, c1, by unfold Hid; rw [HST.out, HEB.out, ← List.append_assoc]; exact HB2.out, HK2⟩
    case measure => simp [intOf]; omega
   have b5 : ((b.toNat : Int) == 34) = false := u8_ne_of _ 34 c5;have HEB := hid (show escB b = [b] by unfold El.escB; rw [if_neg c2, if_neg c3, if_neg c4, if_neg c5]);go_wp2_with fail
   refine (bw_byte HB.out _ b rfl (by have := HLE.out; rw [HEB.out] at this; have := HL.out; rw [List.length_append]; simp at *; omega)).mono ?_;rintro _ w2 ⟨rfl, hb2, hk2⟩;have HB2 := hid hb2;have HK2 := hid (HK.out.trans hk2);clear hb2 hk2;go_wp2_with fail
   go_roundw
   case rel => exact ⟨j + 1, by go_num, c1, by unfold Hid; rw [HST.out, HEB.out, ← List.append_assoc]; exact HB2.out, HK2⟩
   case measure => simp [intOf]; omega
  ·have d1 : decide ((j : Int) < (t.size : Int)) = false := dF (by omega)
   have d1n : decide (j < t.size) = false := dF (by omega);have HTK := hid (show s.take j = s from List.take_of_length_le (by rw [← HSZ.out]; omega));go_wp2_with fail
   go_end0
   exact ⟨rfl, by have := HB.out; rwa [HTK.out] at this, HK.out⟩
end Go.Proofs.YtnbeemkfmlfgfaaGreatDoor
namespace Go.Proofs.YtnbeemkfmlfgfaaGreatDoor
open Go.RowKit
open El (E Attrs escL escB writeE writeL attrW attrsW)
def WriteC (e : E) : Prop := ∀ (w0 : World) (ge oe g : Nat) (va vk : Value) (l : List UInt8) (w : World), ElAt w0 ge oe e va vk → BW w0 g l w → l.length + (writeE e).length ≤ 8000000 →
 Calls Tryz.prog 59 #[.pointer (some ⟨g, 0, none⟩), .pointer (some ⟨ge, oe, none⟩)] w fun x w' => x = .returned (.tuple #[]) ∧ BW w0 g (l ++ writeE e) w' ∧ Kb w w'
theorem write_step (e : E) (ih : ∀ x ∈ e.kids, WriteC x) : WriteC e := by
 intro w0 ge oe g va vk l w he hb hl;obtain ⟨n, ats, ks, t⟩ := e;have HE := hid he;have HB := hid hb;have HL := hid hl;have HIH := hid ih;obtain ⟨A, ca, hva⟩ := he.2.2.2.2.2.1.slice;obtain ⟨B, cb, hvb⟩ := he.2.2.2.2.2.2.1.slice;replace hva : va = .slice A ats.length ca := hva;replace hvb : vk = .slice B ks.length cb := hvb;subst hva;subst hvb;have HW := hid (show writeE (.mk n ats ks t) = 60 :: n ++ attrsW ats ++ (if t.isEmpty && ks.isEmpty then [47, 62] else 62 :: escL t ++ writeL ks ++ ([60, 47] ++ n ++ [62])) by rw [writeE])
 have hwl : l.length + (n.length + 1 + (attrsW ats).length) + 2 ≤ 8000000 := by
  rw [HW.out] at hl
  have h2 : 2 ≤ (if t.isEmpty && ks.isEmpty then [47, 62] else 62 :: escL t ++ writeL ks ++ ([60, 47] ++ n ++ [62]) : List UInt8).length := by
   split
   ·simp
   ·simp only [List.length_append, List.length_cons]; omega
  simp only [List.length_append, List.length_cons] at hl h2 ⊢;omega
 have hl1 : ats.length ≤ maxLen := by obtain ⟨_, _, _, h, _⟩ := he.2.2.2.2.2.1; exact h.1
 have hl2 : ks.length ≤ maxLen := he.2.2.2.2.2.2.1.len;have htl : t.length ≤ maxLen := he.2.2.2.2.2.2.2.2;unfold maxLen at hl1 hl2 htl;have hE1 := he.fresh hb.frs;obtain ⟨hg, h0, h1, h2, h3, _⟩ := hE1;replace h0 : w.cell? ⟨ge, oe, none⟩ = some (.string ⟨n.toArray⟩) := h0;have hadd := fun W : World => run_string_add_lists (P := Tryz.prog) W [60] n (by simp) (by omega)
 clear he hb hl ih;go_enter Tryz.func59, Tryz.ntmps59;go_wp2_with fail
 refine (bw_str HB.out (60 :: n) (by simp; omega)).mono ?_;rintro _ w1 ⟨rfl, hb1, hk1⟩;have HB1 := hid hb1;have HK1 := hid hk1;clear hb1 hk1 h0 h1 h2 h3 hg hadd;obtain ⟨hg, h0, h1, h2, h3, _⟩ := HE.out.fresh HB1.out.frs;replace h1 : w1.cell? ⟨ge, oe + 1, none⟩ = some (.slice A ats.length ca) := h1;go_wp2_with fail
 clear hg h0 h1 h2 h3
 go_loopw [19] (fun i wr => ∃ j : Nat, i = .int .i64 j ∧ j ≤ ats.length ∧ Hid (BW w0 g (l ++ (60 :: n) ++ attrsW (ats.take j)) wr) ∧ Hid (Kb w wr)) (fun i _ => ats.length - (intOf i).toNat)
 case atStart => exact ⟨0, rfl, Nat.zero_le _, hid (by simpa [attrsW] using HB1.out), HK1⟩
 case round =>
  obtain ⟨j, rfl, hj, HBj, HKj⟩ := hrel
  by_cases c1 : j < ats.length
  ·have d1 : decide ((j : Int) < (ats.length : Int)) = true := dT (by omega)
   have d1' : (j : Int) < (ats.length : Int) := by omega
   have HA := hid (show RepA w0 ats _ from HE.out.2.2.2.2.2.1);obtain ⟨ga, oa, rfl, hga, m0, m1, hx1, hx2⟩ := HA.out.get j c1;have e0 := HBj.out.frs.cell m0 (fun h => h);have f0 := HBj.out.frs.cell m1 (fun h => h);have HAS := hid (El.attrsW_snoc ats j c1)
   have hxl : (attrsW (ats.take j)).length + ((ats[j]).1.length + (escL (ats[j]).2).length + 4) ≤ (attrsW ats).length := by
    have := El.attrsW_le ats (j + 1);rw [HAS.out, List.length_append] at this;unfold El.attrW at this;simp only [List.length_append, List.length_cons, List.length_nil] at this;omega
   have hx2' : (ats[j]).2.length ≤ 9223372036854775807 := hx2;clear m0 m1 hx1 hx2;generalize ats[j] = x at *;have hadd1 := fun W : World => run_string_add_lists (P := Tryz.prog) W [32] x.1 (by simp) (by omega)
   have hadd2 := fun W : World => run_string_add_lists (P := Tryz.prog) W (32 :: x.1) [61, 34] (by simp; omega) (by simp)
   go_wp2_with fail
   refine (bw_str (HBj.out.fresh ((Touch.refl _ wr).alloc (.cells #[.string ⟨x.1.toArray⟩, .string ⟨x.2.toArray⟩] 79))) (32 :: (x.1 ++ [61, 34])) (by simp only [List.length_append, List.length_cons, List.length_nil]; omega)).mono ?_;rintro _ w3 ⟨rfl, hb3, hk3⟩;have hq := hk3 _ _ _ (by decide) (by decide) (Blk.new wr 79 #[.string ⟨x.1.toArray⟩, .string ⟨x.2.toArray⟩]);have HB3 := hid hb3;have HK3 := hid (HKj.out.trans ((Fresh.kb ((Touch.refl _ wr).alloc _)).trans hk3));have HQ := hid hq;have q1 : w3.cell? ⟨wr.heap.size, 1, none⟩ = some (.string ⟨x.2.toArray⟩) := hq.cell 1;have qz : wr.heap.size < w3.heap.size := hq.lt;clear hb3 hk3 e0 f0 hadd1 hadd2 hq;go_wp2_with fail
   refine (escape_any x.2 w0 g _ w3 HB3.out (by simp only [List.length_append, List.length_cons, List.length_nil]; omega) hx2').mono ?_;rintro _ w4 ⟨rfl, hb4, hk4⟩;have HB4 := hid hb4;have HK4 := hid (HK3.out.trans hk4);clear hb4 hk4 q1 qz;go_wp2_with fail
   refine (bw_byte HB4.out _ 34 rfl (by simp only [List.length_append, List.length_cons, List.length_nil]; omega)).mono ?_;rintro _ w5 ⟨rfl, hb5, hk5⟩;have HB5 := hid (show BW w0 g (l ++ (60 :: n) ++ attrsW (ats.take (j + 1))) w5 by rw [HAS.out]; unfold El.attrW; simpa [List.append_assoc] using hb5);have HK5 := hid (HK4.out.trans hk5);clear hb5 hk5;go_wp2_with fail
   go_roundw
   case rel => exact ⟨j + 1, by go_num, c1, HB5, HK5⟩
   case measure => simp [intOf]; omega
  ·have d1 : decide ((j : Int) < (ats.length : Int)) = false := dF (by omega)
   obtain rfl : j = ats.length := by omega
   have HB2 := hid (show BW w0 g (l ++ (60 :: n) ++ attrsW ats) wr by have := HBj.out; rwa [List.take_length] at this);obtain ⟨hg, h0, h1, h2, h3, _⟩ := HE.out.fresh HB2.out.frs;replace h2 : wr.cell? ⟨ge, oe + 2, none⟩ = some (.slice B ks.length cb) := h2;replace h3 : wr.cell? ⟨ge, oe + 3, none⟩ = some (.string ⟨t.toArray⟩) := h3;clear h0 h1 d1 hj
   by_cases c2 : t = [] ∧ ks.length = 0
   ·obtain ⟨rfl, ck⟩ := c2
    have hks : ks = [] := List.eq_nil_of_length_eq_zero ck;have HW2 := hid (show writeE (.mk n ats ks []) = 60 :: n ++ attrsW ats ++ [47, 62] by rw [HW.out, hks]; rfl);have d2 : ((ks.length : Int) == 0) = true := by rw [ck]; rfl
    clear hks ck;go_wp2_with fail
    refine (bw_str HB2.out [47, 62] (by simp only [List.length_append, List.length_cons, List.length_nil]; omega)).mono ?_;rintro _ w6 ⟨rfl, hb6, hk6⟩;have HB6 := hid hb6;have HK6 := hid (HKj.out.trans hk6);clear hb6 hk6;go_wp2_with fail
    refine bodyPost_ret (results_none rfl _ _ _) rfl ?_;exact ⟨rfl, by rw [HW2.out]; simpa [List.append_assoc] using HB6.out, HK6.out⟩
   ·have HW2 := hid (show writeE (.mk n ats ks t) = 60 :: n ++ attrsW ats ++ (62 :: escL t ++ writeL ks ++ ([60, 47] ++ n ++ [62])) by
     rw [HW.out, if_neg];rw [Bool.and_eq_true, List.isEmpty_iff, List.isEmpty_iff];rintro ⟨e1, e2⟩;exact c2 ⟨e1, by rw [e2]; rfl⟩)
    have hwl2 : l.length + (n.length + 1 + (attrsW ats).length) + (1 + (escL t).length + (writeL ks).length + (n.length + 3)) ≤ 8000000 := by
     have := HL.out;rw [HW2.out] at this;simp only [List.length_append, List.length_cons, List.length_nil] at this;omega
    have hte : t.isEmpty = true → ((ks.length : Int) == 0) = false := fun h => by
     rw [beq_eq_false_iff_ne];intro h2;exact c2 ⟨List.isEmpty_iff.1 h, by omega⟩
    have HTE := hid hte;clear c2 hte
    by_cases ct : t.isEmpty = true
    focus
     have d2 := HTE.out ct;have et : t.isEmpty = true := ct;clear ct;go_wp2_with fail
    rotate_left
    focus
     have et : t.isEmpty = false := by simpa using ct
     clear ct;go_wp2_with fail
    all_goals
     refine (bw_byte HB2.out _ 62 rfl (by simp only [List.length_append, List.length_cons]; omega)).mono ?_;rintro _ w6 ⟨rfl, hb6, hk6⟩;have HB6 := hid hb6;have HK6 := hid (HKj.out.trans hk6);clear hb6 hk6 hg h2 h3;obtain ⟨hg, h0, h1, h2, h3, _⟩ := HE.out.fresh HB6.out.frs;replace h3 : w6.cell? ⟨ge, oe + 3, none⟩ = some (.string ⟨t.toArray⟩) := h3;clear et
     try clear d2
     clear h0 h1 h2;go_wp2_with fail
     refine (escape_any _ w0 g _ w6 HB6.out (by simp only [List.length_append, List.length_cons, List.length_nil]; omega) htl).mono ?_;rintro _ w7 ⟨rfl, hb7, hk7⟩;have HB7 := hid hb7;have HK7 := hid (HK6.out.trans hk7);clear hb7 hk7 hg h3;obtain ⟨hg, h0, h1, h2, h3, _⟩ := HE.out.fresh HB7.out.frs;replace h2 : w7.cell? ⟨ge, oe + 2, none⟩ = some (.slice B ks.length cb) := h2;clear h0 h1 h3;go_wp2_with fail
     clear hg h2
     go_loopw [64] (fun i wr => ∃ j : Nat, i = .int .i64 j ∧ j ≤ ks.length ∧ Hid (BW w0 g (l ++ (60 :: n) ++ attrsW ats ++ [62] ++ escL t ++ writeL (ks.take j)) wr) ∧ Hid (Kb w wr)) (fun i _ => ks.length - (intOf i).toNat)
     case atStart => exact ⟨0, rfl, Nat.zero_le _, hid (by simpa [El.writeL] using HB7.out), HK7⟩
     case round =>
      obtain ⟨j, rfl, hj, HBj, HKj⟩ := hrel;rename_i wr _
      by_cases c1 : j < ks.length
      ·have d1 : decide ((j : Int) < (ks.length : Int)) = true := dT (by omega)
       have d1' : (j : Int) < (ks.length : Int) := by omega
       obtain ⟨gk, ok, wa, wk, rfl, hek⟩ := (show RepE w0 ks _ from HE.out.2.2.2.2.2.2.1).elAt j c1;have HS := hid (El.writeL_snoc ks j c1)
       have hsm : (writeL (ks.take j)).length + (writeE ks[j]).length ≤ (writeL ks).length := by
        rw [← List.length_append, ← HS.out]; exact El.writeL_le ks (j + 1)
       obtain ⟨hg, h0, h1, h2, h3, _⟩ := HE.out.fresh HBj.out.frs;replace h2 : wr.cell? ⟨ge, oe + 2, none⟩ = some (.slice (some ⟨gk, ok, none⟩) ks.length cb) := h2;have HC := hid (HIH.out ks[j] (List.getElem_mem c1) w0 gk (ok + j * 4) g wa wk _ wr hek HBj.out (by simp only [List.length_append, List.length_cons, List.length_nil]; omega));clear h0 h1 h3 hek;generalize ks[j] = x at *;go_wp2_with fail
       refine HC.out.mono ?_;rintro _ w8 ⟨rfl, hb8, hk8⟩;have HB8 := hid (show BW w0 g (l ++ (60 :: n) ++ attrsW ats ++ [62] ++ escL t ++ writeL (ks.take (j + 1))) w8 by rw [HS.out, ← List.append_assoc]; exact hb8);have HK8 := hid (HKj.out.trans hk8);clear hb8 hk8 hg h2;go_wp2_with fail
       go_roundw
       case rel => exact ⟨j + 1, by go_num, c1, HB8, HK8⟩
       case measure => simp [intOf]; omega
      ·have d1 : decide ((j : Int) < (ks.length : Int)) = false := dF (by omega)
       obtain rfl : j = ks.length := by omega
       have HB8 := hid (show BW w0 g (l ++ (60 :: n) ++ attrsW ats ++ [62] ++ escL t ++ writeL ks) wr by have := HBj.out; rwa [List.take_length] at this);obtain ⟨hg, h0, h1, h2, h3, _⟩ := HE.out.fresh HB8.out.frs;replace h0 : wr.cell? ⟨ge, oe, none⟩ = some (.string ⟨n.toArray⟩) := h0;have hadd := fun W : World => run_string_add_lists (P := Tryz.prog) W [60, 47] n (by simp) (by omega)
       have hadd2 := fun W : World => run_string_add_lists (P := Tryz.prog) W ([60, 47] ++ n) [62] (by simp; omega) (by simp)
       clear h1 h2 h3 d1 hj;go_wp2_with fail
       rw [show ((⟨(60 :: 47 :: n).toArray⟩ : ByteArray) ++ ⟨#[62]⟩) = ⟨(60 :: 47 :: (n ++ [62])).toArray⟩ from by apply ByteArray.ext; simp [ByteArray.data_append]];refine (bw_str HB8.out (60 :: 47 :: (n ++ [62])) (by simp only [List.length_append, List.length_cons, List.length_nil]; omega)).mono ?_;rintro _ w9 ⟨rfl, hb9, hk9⟩;have HB9 := hid hb9;have HK9 := hid (HKj.out.trans hk9);clear hb9 hk9;go_wp2_with fail
       go_end0
       exact ⟨rfl, by rw [HW2.out]; simpa [List.append_assoc] using HB9.out, HK9.out⟩
theorem write_any (e : E) : WriteC e := El.E.ind (p := WriteC) write_step e
end Go.Proofs.YtnbeemkfmlfgfaaGreatDoor
namespace Go.Proofs.YtnbeemkfmlfgfaaGreatDoor
open Go.RowKit
open El (E Attrs writeE)
def printX (e : E) : List UInt8 := if El.valid e then writeE e else []
def printXEr (e : E) : Int := if El.valid e then 0 else 1
theorem xPrint_any (e : E) (va vk : Value) (w : World) (hr : RepV w e va vk) (hl : El.valid e = true → (writeE e).length ≤ 8000000) :
  Calls Tryz.prog 31 #[ev e va vk] w fun x w' => x = .returned (.tuple #[.string ⟨(printX e).toArray⟩, .int .i64 (printXEr e)]) ∧ Fresh w w' := by
 have HV := hid (fun (w : World) (h : RepV w e va vk) => xValid_any e va vk w h);obtain ⟨A, ca, hva⟩ := hr.1.slice;obtain ⟨B, cb, hvk⟩ := hr.2.1.slice;have HR := hid hr;have HL := hid hl;have HX := hid (write_any e);have HPX := hid (show printX e = if El.valid e then writeE e else [] from rfl);have HPE := hid (show printXEr e = if El.valid e then 0 else 1 from rfl);subst hva;subst hvk;clear hr hl;obtain ⟨n, ats, ks, t⟩ := e;unfold ev at *;simp only [E.name, E.attrs, E.kids, E.text] at *;cases hv : El.valid (.mk n ats ks t) with
 | false =>
  have HP := hid (show printX (.mk n ats ks t) = [] by rw [HPX.out, hv]; rfl);have HE := hid (show printXEr (.mk n ats ks t) = 1 by rw [HPE.out, hv]; rfl);rw [HP.out, HE.out];go_enter Tryz.func31, Tryz.ntmps31;go_wp2_with fail
  refine (HV.out _ (HR.out.fresh ((Touch.refl _ w).alloc _))).mono ?_;rintro _ w1 ⟨rfl, hf⟩;rw [hv];have HF := hid (Touch.pre hf);clear hf;go_wp2_with fail
  go_ret2;exact ⟨rfl, HF.out⟩
 | true =>
  have HP := hid (show printX (.mk n ats ks t) = writeE (.mk n ats ks t) by rw [HPX.out, hv]; rfl);have HE := hid (show printXEr (.mk n ats ks t) = 0 by rw [HPE.out, hv]; rfl);rw [HP.out, HE.out];have HL2 := hid (HL.out hv);go_enter Tryz.func31, Tryz.ntmps31;go_wp2_with fail
  refine (HV.out _ (HR.out.fresh ((Touch.refl _ w).alloc _))).mono ?_;rintro _ w1 ⟨rfl, hf⟩;rw [hv];have HF := hid (Touch.pre hf);have hb0 := hf.blk (Blk.new w 45 #[.string ⟨n.toArray⟩, .slice A ats.length ca, .slice B ks.length cb, .string ⟨t.toArray⟩]) (fun h => h);obtain ⟨q0, q1, q2, q3, _, _, _, _, hg⟩ := Blk.four hb0;have HE0 := hid (show ElAt w1 w.heap.size 0 (.mk n ats ks t) (.slice A ats.length ca) (.slice B ks.length cb) from ⟨hg, q0, q1, q2, q3, HR.out.fresh HF.out⟩);clear hf hb0 q0 q1 q2 q3 hg;go_wp2_with fail
  refine (HX.out w1 w.heap.size 0 w1.heap.size _ _ [] _ HE0.out (bw_new w1 w1 (Touch.refl _ _)) (by simpa using HL2.out)).mono ?_;rintro _ w2 ⟨rfl, hb2, _⟩;have HB2 := hid hb2;clear hb2;go_wp2_with fail
  refine (bw_string HB2.out).mono ?_;rintro _ w3 ⟨rfl, hf3, _⟩;have HF3 := hid (HF.out.trans hf3);clear hf3;go_wp2_with fail
  go_ret2;exact ⟨rfl, HF3.out⟩
end Go.Proofs.YtnbeemkfmlfgfaaGreatDoor
namespace Go.Proofs.YtnbeemkfmlfgfaaGreatDoor
open Go.RowKit
open Tr (Nd)
open El (E mrow nMtr)
def TabSt (B : Nat) (w : World) (vo : Value) (L r : List E) (B2 : Nat) (v2 : Value) (cs0 : List Value) : Prop := B ≤ B2 ∧ (∀ k, vo.ownBlock = some k → k < B2) ∧
 w.ownsRow B 45 4 vo (L.length + 1) (cs0 ++ [.string ⟨nMtr.toArray⟩, .slice none 0 0, v2, .string ⟨#[]⟩]) ∧ Stab (fun k => vo.ownBlock = some k ∨ k < B ∨ B2 ≤ k) w (fun W => ElsAt W L cs0) ∧ GrowE B2 w r v2
theorem TabSt.grow {B : Nat} {w : World} {vo : Value} {L r : List E} {B2 : Nat} {v2 : Value} {cs0 : List Value} (h : TabSt B w vo L r B2 v2 cs0) : GrowE B w (L ++ [mrow nMtr r]) vo := by
 obtain ⟨h1, h2, h3, h4, h5⟩ := h;refine ⟨Nat.le_trans h1 h5.base, _, by rw [List.length_append]; exact h3, ?_⟩;refine ((h4.mono fun i _ hi => hi.imp id .inl).and (h5.done.mono fun i _ hi => ?_)).imp fun W ⟨g1, g2⟩ => g1.append (ElsAt.one (e := mrow nMtr r) ⟨RepA.nil _ _ _, g2, show nMtr.length ≤ maxLen by decide, Nat.zero_le _⟩)
 rcases hi with hi | hi
 ·exact h2 i hi
 ·omega
theorem TabSt.mv {B : Nat} {w w1 : World} {vo : Value} {L r : List E} {B2 : Nat} {v2 : Value} {cs0 : List Value} {S : Nat → Prop} (h : TabSt B w vo L r B2 v2 cs0) (ht : Touch S w w1) (hS : ∀ k, S k → k < w.heap.size → k < B) : TabSt B w1 vo L r B2 v2 cs0 := by
 obtain ⟨h1, h2, h3, h4, h5⟩ := h;refine ⟨h1, h2, ownsRow_touch h3 ht fun k hk hs => ?_, h4.step ht (fun i hi hs => .inr (.inl (hS i hs hi))) (fun _ _ h => h), h5.mv ht fun k hk hl => Nat.lt_of_lt_of_le (hS k hk hl) h1⟩;have h6 := h3.lt k hk;have := hS k hs h6.2;omega
theorem TabSt.fresh {B : Nat} {w w1 : World} {vo : Value} {L r : List E} {B2 : Nat} {v2 : Value} {cs0 : List Value} (h : TabSt B w vo L r B2 v2 cs0) (ht : Fresh w w1) : TabSt B w1 vo L r B2 v2 cs0 := h.mv ht fun _ h => h.elim
theorem TabSt.len {B : Nat} {w : World} {vo : Value} {L r : List E} {B2 : Nat} {v2 : Value} {cs0 : List Value} (h : TabSt B w vo L r B2 v2 cs0) : cs0.length = L.length * 4 := by
 have := h.2.2.1.1;rw [List.length_append] at this;simp only [List.length_cons, List.length_nil] at this;omega
theorem TabSt.last {B n : Nat} {w : World} {vo : Value} {L r : List E} {B2 : Nat} {v2 : Value} {cs0 : List Value} (h : TabSt B w vo L r B2 v2 cs0) (hn : L.length = n) : ∃ g cap, vo = .slice (some ⟨g, 0, none⟩) (n + 1) cap ∧ B ≤ g ∧ g < w.heap.size ∧ w.cell? ⟨g, n * 4 + 2, none⟩ = some v2 ∧ w.frozen? ⟨g, n * 4 + 2, none⟩ = false := by
 subst hn;have hl := h.len;obtain ⟨_, _, h3, _⟩ := h
 obtain ⟨g, cap, rfl, hb⟩ : ∃ g cap, vo = .slice (some ⟨g, 0, none⟩) (L.length + 1) cap ∧ B ≤ g := by
  rcases h3.2 with ⟨_, h0⟩ | ⟨g, cap, cur, e, hb, _⟩
  ·omega
  ·exact ⟨g, cap, e, hb⟩
 have h4 := h3.cellAt (L.length * 4 + 2) (by omega);refine ⟨g, cap, rfl, hb, (h3.lt g rfl).2, ?_, h3.frozenAt _⟩;rw [h4, List.getElem?_append_right (by omega), show L.length * 4 + 2 - cs0.length = 2 by omega];rfl
theorem TabSt.push {B : Nat} {w5 w7 w8 W : World} {vo : Value} {L r : List E} {B2 : Nat} {v2 v2' va vk : Value} {cs0 cs2 : List Value} {e : E} {g g2 : Nat} (h : TabSt B w5 vo L r B2 v2 cs0) (hi : w5.ownsRow B2 45 4 v2 r.length cs2) (hsi : Stab (fun k => v2.ownBlock = some k ∨ k < B2) w5 fun W => ElsAt W r cs2)
  (h57 : Fresh w5 w7) (hrv : Stab (fun k => k < w5.heap.size) w7 fun W => RepV W e va vk) (ht : Touch (fun k => v2.ownBlock = some k) w7 w8) (hv : v2'.ownBlock = v2.ownBlock ∨ v2'.ownBlock = some w7.heap.size)
  (hvo : vo.ownBlock = some g) (hv2 : v2'.ownBlock = some g2) (hW : Touch (fun k => k = g2 ∨ k = g) w8 W) (h9 : W.ownsRow B2 45 4 v2' (r.length + 1) (cs2 ++ [.string ⟨e.name.toArray⟩, va, vk, .string ⟨e.text.toArray⟩]))
  (h10 : W.ownsRow B 45 4 vo (L.length + 1) (cs0 ++ [.string ⟨nMtr.toArray⟩, .slice none 0 0, v2', .string ⟨#[]⟩])) : TabSt B W vo L (r ++ [e]) B2 v2' cs0 := by
 obtain ⟨h1, h2, h3, h4, h5⟩ := h;have hg := h2 g hvo;have hB5 := h5.base;have hl2 : ∀ k, v2.ownBlock = some k → B2 ≤ k ∧ k < w5.heap.size := fun k hk => hi.lt k hk
 have hg2 : ∀ i, i < w7.heap.size → i = g2 → v2.ownBlock = some i := fun i hi he => by
  subst he
  rcases hv with hv | hv <;> rw [hv2] at hv
  ·exact hv.symm
  ·cases hv; omega
 have hsz := h57.size;refine ⟨h1, h2, h10, ?_, ?_⟩
 ·refine (((h4.fresh h57).step (S2 := fun k => vo.ownBlock = some k ∨ k < B ∨ B2 ≤ k) ht (fun i hi hs => .inr (.inr (hl2 i hs).1)) (fun _ _ h => h)).step hW (fun i hi hs => ?_) (fun _ _ h => h))
  rcases hs with hs | hs
  ·rcases Nat.lt_or_ge i w7.heap.size with h6 | h6
   ·exact .inr (.inr (hl2 i (hg2 i h6 hs)).1)
   ·exact .inr (.inr (by omega))
  ·subst hs; exact .inl hvo
 ·refine ⟨Nat.le_trans (Nat.le_trans hB5 hsz) (Nat.le_trans ht.size hW.size), _, by rw [List.length_append]; exact h9, ?_⟩
  have e1 : ∀ i, i < w7.heap.size → (v2'.ownBlock = some i ∨ i < B2) → (v2.ownBlock = some i ∨ i < B2) := fun i hi hs => by
   rcases hs with hs | hs
   ·rcases hv with h6 | h6 <;> rw [h6] at hs
    ·exact .inl hs
    ·cases hs; omega
   ·exact .inr hs
  have hT : ∀ W', Touch (fun k => v2'.ownBlock = some k ∨ k < B2) W W' → Touch (fun k => v2.ownBlock = some k ∨ k < B2) w7 W' := fun W' hW' => by
   have a1 : Touch (fun k => v2.ownBlock = some k ∨ k < B2) w7 W := ht.join hW (fun i _ hs => .inl hs) fun i hi hs => by
    rcases hs with hs | hs
    ·exact .inl (hg2 i hi hs)
    ·subst hs; exact .inr hg
   exact a1.join hW' (fun _ _ h => h) e1
  intro W' hW';have a2 := hT W' hW';refine ElsAt.append ((hsi.fresh h57) W' a2) (ElsAt.one (hrv W' (a2.mono fun i hs => ?_)))
  rcases hs with hs | hs
  ·exact (hl2 i hs).2
  ·omega
theorem own_put4 {w : World} {B t g n cap : Nat} {xs : List Value} {z0 z1 z2 z3 : Value} (h : w.ownsRow B t 4 (.slice (some ⟨g, 0, none⟩) (n + 1) cap) (n + 1) (xs ++ [z0, z1, z2, z3])) (y0 y1 y2 y3 : Value) :
  ((((w.setCell ⟨g, n * 4, none⟩ y0).setCell ⟨g, n * 4 + 1, none⟩ y1).setCell ⟨g, n * 4 + 2, none⟩ y2).setCell ⟨g, n * 4 + 3, none⟩ y3).ownsRow B t 4 (.slice (some ⟨g, 0, none⟩) (n + 1) cap) (n + 1) (xs ++ [y0, y1, y2, y3]) := by
 have hl : xs.length = n * 4 := by have := h.1; rw [List.length_append] at this; simp only [List.length_cons, List.length_nil] at this; omega
 have h1 := (((((h.stored (n * 4) y0).1.stored (n * 4 + 1) y1).1).stored (n * 4 + 2) y2).1.stored (n * 4 + 3) y3).1
 have e : ((((xs ++ [z0, z1, z2, z3]).set (n * 4) y0).set (n * 4 + 1) y1).set (n * 4 + 2) y2).set (n * 4 + 3) y3 = xs ++ [y0, y1, y2, y3] := by
  rw [List.set_append_right _ _ (by omega), List.set_append_right _ _ (by omega), List.set_append_right _ _ (by omega), List.set_append_right _ _ (by omega), show n * 4 - xs.length = 0 by omega, show n * 4 + 1 - xs.length = 1 by omega, show n * 4 + 2 - xs.length = 2 by omega, show n * 4 + 3 - xs.length = 3 by omega];rfl
 rw [e] at h1;exact h1
theorem own_put_kids {w : World} {B t g n cap : Nat} {xs : List Value} {z0 z1 z2 z3 : Value} (h : w.ownsRow B t 4 (.slice (some ⟨g, 0, none⟩) (n + 1) cap) (n + 1) (xs ++ [z0, z1, z2, z3])) (y : Value) :
  (w.setCell ⟨g, n * 4 + 2, none⟩ y).ownsRow B t 4 (.slice (some ⟨g, 0, none⟩) (n + 1) cap) (n + 1) (xs ++ [z0, z1, y, z3]) := by
 have hl : xs.length = n * 4 := by have := h.1; rw [List.length_append] at this; simp only [List.length_cons, List.length_nil] at this; omega
 have h1 := (h.stored (n * 4 + 2) y).1
 have e : (xs ++ [z0, z1, z2, z3]).set (n * 4 + 2) y = xs ++ [z0, z1, y, z3] := by
  rw [List.set_append_right _ _ (by omega), show n * 4 + 2 - xs.length = 2 by omega];rfl
 rw [e] at h1;exact h1
def putAt4 (w : World) (g o : Nat) (x0 x1 x2 x3 : Value) : World := (((w.setCell ⟨g, o, none⟩ x0).setCell ⟨g, o + 1, none⟩ x1).setCell ⟨g, o + 2, none⟩ x2).setCell ⟨g, o + 3, none⟩ x3
theorem touchAt4 (w : World) (g o : Nat) (x0 x1 x2 x3 : Value) : Touch (fun k => k = g) w (putAt4 w g o x0 x1 x2 x3) :=
 ((((Touch.refl (fun k => k = g) w).setCell (p := ⟨g, o, none⟩) (.inl rfl) _).setCell (p := ⟨g, o + 1, none⟩) (.inl rfl) _).setCell (p := ⟨g, o + 2, none⟩) (.inl rfl) _).setCell (p := ⟨g, o + 3, none⟩) (.inl rfl) _
theorem touch1 (w : World) (g o : Nat) (x : Value) : Touch (fun k => k = g) w (w.setCell ⟨g, o, none⟩ x) := (Touch.refl (fun k => k = g) w).setCell (p := ⟨g, o, none⟩) (.inl rfl) _
theorem TabSt.stores {B n : Nat} {w5 w7 w8 : World} {L r : List E} {B2 : Nat} {v2 va vk z0 z1 z2 z3 : Value} {cs0 cs2 : List Value} {e : E} {g c g2 c2 : Nat} (h : TabSt B w5 (.slice (some ⟨g, 0, none⟩) (n + 1) c) L r B2 v2 cs0) (hn : L.length = n) (hi : w5.ownsRow B2 45 4 v2 r.length cs2) (hsi : Stab (fun k => v2.ownBlock = some k ∨ k < B2) w5 fun W => ElsAt W r cs2)
  (h57 : Fresh w5 w7) (hrv : Stab (fun k => k < w5.heap.size) w7 fun W => RepV W e va vk) (h8 : w8.ownsRow B2 45 4 (.slice (some ⟨g2, 0, none⟩) (r.length + 1) c2) (r.length + 1) (cs2 ++ [z0, z1, z2, z3])) (ht : Touch (fun k => v2.ownBlock = some k) w7 w8) (hv : (Value.slice (some ⟨g2, 0, none⟩) (r.length + 1) c2).ownBlock = v2.ownBlock ∨ (Value.slice (some ⟨g2, 0, none⟩) (r.length + 1) c2).ownBlock = some w7.heap.size) :
  TabSt B ((putAt4 w8 g2 (r.length * 4) (.string ⟨e.name.toArray⟩) va vk (.string ⟨e.text.toArray⟩)).setCell ⟨g, n * 4 + 2, none⟩ (.slice (some ⟨g2, 0, none⟩) (r.length + 1) c2)) (.slice (some ⟨g, 0, none⟩) (n + 1) c) L (r ++ [e]) B2 (.slice (some ⟨g2, 0, none⟩) (r.length + 1) c2) cs0 ∧
  TabSt B (putAt4 (w8.setCell ⟨g, n * 4 + 2, none⟩ (.slice (some ⟨g2, 0, none⟩) (r.length + 1) c2)) g2 (r.length * 4) (.string ⟨e.name.toArray⟩) va vk (.string ⟨e.text.toArray⟩)) (.slice (some ⟨g, 0, none⟩) (n + 1) c) L (r ++ [e]) B2 (.slice (some ⟨g2, 0, none⟩) (r.length + 1) c2) cs0 := by
 subst hn;have hg : g < B2 := h.2.1 g rfl;have hg2 : B2 ≤ g2 := (h8.lt g2 rfl).1
 have ho : w8.ownsRow B 45 4 (.slice (some ⟨g, 0, none⟩) (L.length + 1) c) (L.length + 1) (cs0 ++ [.string ⟨nMtr.toArray⟩, .slice none 0 0, v2, .string ⟨#[]⟩]) :=
  ownsRow_touch (ownsRow_touch h.2.2.1 h57 fun k _ hs => hs) ht fun k hk hs => by cases hk; have := (hi.lt g hs).1; omega
 constructor
 ·refine h.push hi hsi h57 hrv ht hv rfl rfl ((touchAt4 w8 g2 _ _ _ _ _ |>.mono fun i hi => .inl hi).trans (touch1 _ g _ _ |>.mono fun i hi => .inr hi)) ?_ ?_
  ·exact ownsRow_touch (own_put4 h8 _ _ _ _) (touch1 _ g _ _) fun k hk hs => by cases hk; have hs : g2 = g := hs; omega
  ·exact own_put_kids (ownsRow_touch ho (touchAt4 w8 g2 _ _ _ _ _) fun k hk hs => by cases hk; have hs : g = g2 := hs; omega) _
 ·refine h.push hi hsi h57 hrv ht hv rfl rfl ((touch1 w8 g _ _ |>.mono fun i hi => .inr hi).trans (touchAt4 _ g2 _ _ _ _ _ |>.mono fun i hi => .inl hi)) ?_ ?_
  ·exact own_put4 (ownsRow_touch h8 (touch1 _ g _ _) fun k hk hs => by cases hk; have hs : g2 = g := hs; omega) _ _ _ _
  ·exact ownsRow_touch (own_put_kids ho _) (touchAt4 _ g2 _ _ _ _ _) fun k hk hs => by cases hk; have hs : g = g2 := hs; omega
section
variable {w : World} {ops : Array Oper} {rest : List Oper} {o : Oper} {a : Act} {Q : Exit → Act → World → Prop}
theorem wpList_append_line (hgd : o.guard = none) (s x : Operand)
  (ho : o.op = .call { callee := .builtin .append, args := #[s, x], argTypes := #[43, 43] })
  {B n g : Nat} {es : List E} {v : Value} (h : GrowE B w es v) (hn : es.length = n) (hs : a.eval s = v) (hb : Blk w g 45 #[.string ⟨nMtr.toArray⟩, .slice none 0 0, .slice none 0 0, .string ⟨#[]⟩]) (hx : a.eval x = .slice (some ⟨g, 0, none⟩) 1 1) (hlen : n < 2 ^ 40)
  (hK : ∀ A cp w' cs0, TabSt B w' (.slice A (n + 1) cp) es [] w'.heap.size (.slice none 0 0) cs0 → Touch (fun k => v.ownBlock = some k) w w' → wpList Tryz.prog ops Q rest (a.put o.dst (.slice A (n + 1) cp)) w') : wpList Tryz.prog ops Q (o :: rest) a w := by
 subst hn;obtain ⟨hBw, cs, h1, h2⟩ := h;obtain ⟨i, hi, hz0, hz1, hz2⟩ := info_parts infoElem;have h3 : ∀ u ∈ [Value.string ⟨nMtr.toArray⟩, .slice none 0 0, .slice none 0 0, .string ⟨#[]⟩], u.oneCell' = true := by simp [Value.oneCell']
 refine wpList_append_src _ hgd s x 43 ho B 45 i _ 4 80 Tryz.underlying43 hi hz0 hz1 hz2 rfl (by decide) v es.length cs hs h1 _ 1 _ hx (Src.of_blk hb rfl) h3 (by simp only [maxLen]; omega) (by omega) hBw fun v' w' ho' hgr hv' => ?_
 obtain ⟨A, cp, rfl⟩ := own_slc ho';have ht : Touch (fun k => v.ownBlock = some k) w w' := Touch.grown (Touch.refl _ _) hgr fun k hk => .inl hk
 refine hK A cp w' cs ⟨Nat.le_trans hBw hgr.size, fun k hk => (ho'.lt k hk).2, ho', ?_, GrowE.nil (Nat.le_refl _)⟩ ht;refine h2.step ht (fun i _ hs => .inl hs) fun i hi hs => ?_
 rcases hs with hs | hs | hs
 ·rcases hv' with h6 | h6 <;> rw [h6] at hs
  ·exact .inl hs
  ·cases hs; omega
 ·exact .inr hs
 ·have := hgr.size; omega
end
end Go.Proofs.YtnbeemkfmlfgfaaGreatDoor
