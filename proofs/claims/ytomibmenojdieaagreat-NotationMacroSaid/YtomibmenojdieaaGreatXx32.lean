/- Part 32 of 42 of a proof; its texts, joined: NmN, NmA, NmQ, NmU, RegI, RegJ. No condition. -/
import Derived.Test.YtomibmenojdieaaGreatXx25
import Derived.Test.YtomibmenojdieaaGreatXx21
import Derived.Test.YtomibmenojdieaaGreatXx18
import Derived.Test.YtomibmenojdieaaGreatXx7
import Derived.Test.YtomibmenojdieaaGreatXx5
import Derived.Test.YtomibmenojdieaaGreatXx30
import Derived.Test.YtomibmenojdieaaGreatXx6
set_option maxRecDepth 100000
set_option maxHeartbeats 4000000
namespace Go.Proofs.YtomibmenojdieaaGreat
open Go.RowKit
open Tr (Nd)
theorem infoNodeD : (Tryz.prog.info? 35).map (fun i => (i.zero, i.size, i.bytes)) = some (some (.agg #[.int .i64 0, .string ⟨#[]⟩, .int .i64 0, .slice none 0 0]), 4, 56) := by kernel_rfl
theorem countL_mem {x : Nd} {l : List Nd} (h : x ∈ l) : Tr.count x ≤ Tr.countL l := Tr.count_mem h
theorem dnodes_any (ks : List Nd) (v : Value) (w : World) (hcnt : Tr.countL ks ≤ 1000000) (hr : RepL w ks v) : Calls Tryz.prog 56 #[v] w fun e w' => ∃ A cp, e = .returned (.slice A ks.length cp) ∧ TreT w.heap.size w' ks (.slice A ks.length cp) ∧ Fresh w w' := by
 obtain ⟨A, cap, rfl⟩ := hr.slice;have HR := hid hr;have HCN := hid hcnt;have hkl := Tr.countL_len ks;have hk6 : ks.length ≤ 1000000 := by omega
 have HK6 := hid hk6;clear hr hcnt hkl;go_enter Tryz.func56, Tryz.ntmps56;go_wp2_with fail
 go_loopw [3, 7] (fun a i wr0 => ∃ (wr : World) (j : Nat) (A' : Option Addr) (cp : Nat), wr = wr0 ∧ a = .slice A' j cp ∧ i = .int .i64 j ∧ j ≤ ks.length ∧ Hid (Grow (fun _ => False) wr w.heap.size w.heap.size (ks.take j) (.slice A' j cp)) ∧ Hid (Fresh w wr)) (fun _ i _ => ks.length - (intOf i).toNat)
 case atStart => exact ⟨_, 0, none, 0, rfl, rfl, rfl, Nat.zero_le _, hid (Grow.nil _ _ _ _), hid (Touch.refl _ _)⟩
 case round =>
  obtain ⟨wr, j, A', cp, rfl, rfl, rfl, hj, HG, HF⟩ := hrel
  by_cases c1 : j < ks.length
  ·have d1 : decide ((j : Int) < (ks.length : Int)) = true := dT (by omega)
   have d1n : decide (j < ks.length) = true := dT c1;have d1' : (j : Int) < (ks.length : Int) := by omega
   have hjb : j ≤ 1000000 := by omega
   obtain ⟨g, o, sl, rfl, hg, e0, e1, e2, e3, e4⟩ := HR.out.get j c1;have htl := HR.out.texts j c1;have HTL := hid htl;have HE4 := hid e4;have HCX := hid (show Tr.count ks[j] ≤ 1000000 by have := countL_mem (List.getElem_mem c1); have := HCN.out; omega);have HTK := hid (show ks.take (j + 1) = ks.take j ++ [ks[j]] by rw [List.take_add_one, List.getElem?_eq_getElem c1]; rfl);have a0 := HF.out.cell e0 (fun h => h);have a1 := HF.out.cell e1 (fun h => h);have a2 := HF.out.cell e2 (fun h => h);have a3 := HF.out.cell e3 (fun h => h);have HJ := hid (And.intro hjb c1);clear e0 e1 e2 e3 e4 htl hg;generalize ks[j] = x at *;obtain ⟨Ax, cx, rfl⟩ := HE4.out.slice;go_wp2_with fail
   refine (dnode_any x (.slice Ax x.kids.length cx) wr HCX.out (HE4.out.fresh HF.out)).mono ?_;rintro _ w2 ⟨s2, rfl, ht2, hf2⟩;have HT2 := hid ht2;have HF2 := hid hf2;obtain ⟨A2, c2, rfl⟩ := ht2.slice;have HG2 := hid (HG.out.fresh hf2)
   have HOW := hid (show ∀ k, (Value.slice A' j cp).ownBlock = some k → k < wr.heap.size from fun k hk => by
    obtain ⟨cs, h1, _⟩ := HG.out;obtain ⟨_, cur, h4⟩ := owns_type h1 hk;exact (Array.getElem?_eq_some_iff.1 h4).1)
   clear ht2 hf2 a0 a1 a2 a3;have HBV := hid (Blk.new w2 35 #[.int .i64 x.kind, .string ⟨x.text.toArray⟩, .int .i64 x.cols, .slice A2 x.kids.length c2]);have HF3 := hid (show Fresh w2 (w2.alloc (.cells #[.int .i64 x.kind, .string ⟨x.text.toArray⟩, .int .i64 x.cols, .slice A2 x.kids.length c2] 35)) from (Touch.refl _ w2).alloc _);have HLT := hid (show (ks.take j).length = j by rw [List.length_take]; omega);obtain ⟨i, hi, hz0, hz1, hz2⟩ := info_parts infoNodeD;have HG3 := hid (HG2.out.fresh HF3.out);obtain ⟨ns, hns⟩ : ∃ ns, ns = ks.take j := ⟨_, rfl⟩;rw [← hns] at HG3 HLT HTK;have HNS := hid hns;clear hns;rw [← HLT.out] at HG3 HOW
   go_wp2_with (at_builtin; go_loud (refine wpList_append_grow rfl (.tmp 10) (.tmp 16) rfl i _ hi hz0 hz1 hz2 rfl (B0 := w.heap.size) (B := w.heap.size) (B1 := wr.heap.size) (ks := ns) (v := .slice A' ns.length cp) (y := .slice (some ⟨w2.heap.size, 0, none⟩) 1 1) HG3.out (by simp [Act.eval, HLT.out]) x (.slice A2 x.kids.length c2) (by simp [Act.eval]) (Src.of_blk HBV.out rfl) (HT2.out.fresh HF3.out) HF.out.size (fun _ h => h.elim) HOW.out HTL.out (by rw [HLT.out]; have := HJ.out; omega) (by have := HF.out.size; have := HF2.out.size; have := HF3.out.size; omega) ?_); intro A8 c8 w8 hg8 ht8; refine Stay.mk ?_)
   rw [← HTK.out, HLT.out] at hg8
   (try rw [HLT.out])
   have HG8 := hid hg8;have HF8 := hid (show Fresh w w8 from ((HF.out.trans HF2.out).trans HF3.out).trans' ht8 fun k hk => .inr hk.1);clear hg8 ht8;refine Stay.go ?_;go_wp2_with fail
   go_roundw
   case rel => exact ⟨_, j + 1, A8, c8, rfl, rfl, by go_num, by have := HJ.out; omega, HG8, HF8⟩
   case measure => simp [intOf]; have := HJ.out; omega
  ·have d1 : decide ((j : Int) < (ks.length : Int)) = false := dF (by omega)
   have d1n : decide (j < ks.length) = false := dF c1;obtain rfl : j = ks.length := by omega
   go_wp2_with fail
   go_ret;exact ⟨A', cp, rfl, by have h := HG.out.tree (Nat.le_refl _); rwa [List.take_length] at h, HF.out⟩
end Go.Proofs.YtomibmenojdieaaGreat
namespace Go.Proofs.YtomibmenojdieaaGreat
open Go.RowKit
open Tr (Nd)
open Mcr (placeN)
def PlaceE (n : Nd) (w : World) (e : Ending) (w' : World) : Prop := ∃ k : Int, e = .returned (.tuple #[.int .i64 k, .bool (placeN n).isSome]) ∧ (∀ j, placeN n = some j → k = (j : Int) ∧ 1 ≤ j ∧ j ≤ 4) ∧ w' = w
theorem place_no {n : Nd} {w : World} (h : placeN n = none) : PlaceE n w (.returned (.tuple #[.int .i64 0, .bool false])) w := ⟨0, by rw [h]; rfl, (fun j hj => by rw [h] at hj; cases hj), rfl⟩
theorem place_any (n : Nd) (g o cap : Nat) (A : Option Addr) (w : World) (h0 : w.cell? ⟨g, o, none⟩ = some (.int .i64 n.kind)) (h1 : w.cell? ⟨g, o + 1, none⟩ = some (.string ⟨n.text.toArray⟩)) (h2 : w.cell? ⟨g, o + 2, none⟩ = some (.int .i64 n.cols)) (h3 : w.cell? ⟨g, o + 3, none⟩ = some (.slice A n.kids.length cap)) :
  Calls Tryz.prog 55 #[.pointer (some ⟨g, o, none⟩)] w (PlaceE n w) := by
 have HP := hid (show placeN n = if n.kind = 2 ∧ n.cols = 0 ∧ n.kids = [] then (match n.text with
  | [a, b] => if a = 35 ∧ 49 ≤ b ∧ b ≤ 52 then some (b.toNat - 48) else none
  | _ => none) else none from rfl)
 obtain ⟨kd, tx, cl, ks⟩ := n;simp only [Nd.kind, Nd.text, Nd.cols, Nd.kids] at *
 by_cases c1 : kd = 2
 case neg =>
  have d1 : (kd != (2 : Int)) = true := by simpa using c1
  have HN := hid (show placeN (.mk kd tx cl ks) = none from HP.out.trans (if_neg (fun h => c1 h.1)));clear HP c1;go_enter Tryz.func55, Tryz.ntmps55;go_wp2_with fail
  refine bodyPost_ret (results_tmp2 rfl _ _ _) rfl ?_;exact place_no HN.out
 subst c1
 by_cases c2 : cl = 0
 case neg =>
  have d2 : (cl != (0 : Int)) = true := by simpa using c2
  have HN := hid (show placeN (.mk 2 tx cl ks) = none from HP.out.trans (if_neg (fun h => c2 h.2.1)));clear HP c2;go_enter Tryz.func55, Tryz.ntmps55;go_wp2_with fail
  refine bodyPost_ret (results_tmp2 rfl _ _ _) rfl ?_;exact place_no HN.out
 subst c2;cases ks with
 | cons x xs =>
  have d3 : decide ((0 : Int) < ((x :: xs).length : Int)) = true := decide_eq_true (by simp only [List.length_cons]; omega);have d3n : decide (0 < (x :: xs).length) = true := decide_eq_true (by simp only [List.length_cons]; omega);have HN := hid (show placeN (.mk 2 tx 0 (x :: xs)) = none from HP.out.trans (if_neg (fun h => by cases h.2.2)));clear HP;generalize (x :: xs).length = m at *;have d3' : (0 : Int) < (m : Int) := of_decide_eq_true d3;go_enter Tryz.func55, Tryz.ntmps55;go_wp2_with fail
  refine bodyPost_ret (results_tmp2 rfl _ _ _) rfl ?_;exact place_no HN.out
 | nil =>
 rw [show ([] : List Nd).length = 0 from rfl] at h3
 have hways : (tx.length ≠ 2 ∧ placeN (.mk 2 tx 0 []) = none) ∨ ∃ a b, tx = [a, b] := by
  cases tx with
  | nil => exact .inl ⟨by simp, rfl⟩
  | cons a t => cases t with
   | nil => exact .inl ⟨by simp, rfl⟩
   | cons b t => cases t with
    | nil => exact .inr ⟨a, b, rfl⟩
    | cons c t => exact .inl ⟨by simp only [List.length_cons]; omega, rfl⟩
 rcases hways with ⟨hl, hn⟩ | ⟨a, b, rfl⟩
 focus
  have d4 : ((tx.length : Int) != (2 : Int)) = true := by rw [bne_iff_ne]; omega
  have HN := hid hn;clear HP hn;go_enter Tryz.func55, Tryz.ntmps55;go_wp2_with fail
  refine bodyPost_ret (results_tmp2 rfl _ _ _) rfl ?_;exact place_no HN.out
 focus
  have hpl : placeN (.mk 2 [a, b] 0 []) = if a = 35 ∧ 49 ≤ b ∧ b ≤ 52 then some (b.toNat - 48) else none := HP.out.trans (if_pos ⟨rfl, rfl, rfl⟩)
  have HPL := hid hpl;clear HP hpl;have hx0 : (⟨#[a, b]⟩ : ByteArray)[0]'(by show 0 < 2; omega) = a := rfl
  by_cases c5 : a = 35
  case neg =>
   have d5 : ((a.toNat : Int) != (35 : Int)) = true := u8_bne_of a 35 c5;have HN := hid (show placeN (.mk 2 [a, b] 0 []) = none from HPL.out.trans (if_neg (fun h => c5 h.1)));clear HPL c5;go_enter Tryz.func55, Tryz.ntmps55;go_wp2_with fail
   refine bodyPost_ret (results_tmp2 rfl _ _ _) rfl ?_;exact place_no HN.out
  subst c5;have hx1 : (⟨#[35, b]⟩ : ByteArray)[1]'(by show 1 < 2; omega) = b := rfl;have hb2 := b.toNat_lt;have hw0 : IntKind.i64.wrap (b.toNat : Int) = (b.toNat : Int) := IntWalk.i64_in _ (by omega);obtain ⟨k, hk⟩ : ∃ k : Int, k = (b.toNat : Int) - 48 := ⟨_, rfl⟩;have hw : IntKind.i64.wrap ((b.toNat : Int) - 48) = k := by rw [hk]; exact IntWalk.i64_in _ (by omega)
  have HK := hid hk
  have hways : (decide ((1 : Int) ≤ k) = false ∧ placeN (.mk 2 [35, b] 0 []) = none) ∨ (decide ((1 : Int) ≤ k) = true ∧ decide (k ≤ (4 : Int)) = false ∧ placeN (.mk 2 [35, b] 0 []) = none) ∨ (decide ((1 : Int) ≤ k) = true ∧ decide (k ≤ (4 : Int)) = true ∧ placeN (.mk 2 [35, b] 0 []) = some (b.toNat - 48)) := by
   have hb1 : (49 ≤ b) ↔ 49 ≤ b.toNat := by rw [UInt8.le_iff_toNat_le]; rfl
   have hb3 : (b ≤ 52) ↔ b.toNat ≤ 52 := by rw [UInt8.le_iff_toNat_le]; rfl
   by_cases k1 : 1 ≤ k
   ·by_cases k2 : k ≤ 4
    ·exact .inr (.inr ⟨decide_eq_true k1, decide_eq_true k2, HPL.out.trans (if_pos ⟨rfl, hb1.2 (by omega), hb3.2 (by omega)⟩)⟩)
    ·exact .inr (.inl ⟨decide_eq_true k1, decide_eq_false k2, HPL.out.trans (if_neg (fun h => by have := hb3.1 h.2.2; omega))⟩)
   ·exact .inl ⟨decide_eq_false k1, HPL.out.trans (if_neg (fun h => by have := hb1.1 h.2.1; omega))⟩
  clear hk HPL hb2
  rcases hways with ⟨d6, hn⟩ | ⟨d6, d7, hn⟩ | ⟨d6, d7, hn⟩
  all_goals
   have HN := hid hn;clear hn;go_enter Tryz.func55, Tryz.ntmps55;go_wp2_with fail
   refine bodyPost_ret (results_tmp2 rfl _ _ _) rfl ?_;unfold PlaceE;rw [HN.out];refine ⟨k, rfl, fun j hj => ?_, rfl⟩
   first
    | (cases hj; done)
    | (have hj := Option.some.inj hj; have h1 := of_decide_eq_true d6; have h2 := of_decide_eq_true d7; have h3 := HK.out; omega)
end Go.Proofs.YtomibmenojdieaaGreat
namespace Go.Proofs.YtomibmenojdieaaGreat.Mcr
open Tr (Nd)
open Np (slot)
def fill1 (args : List Nd) (x : Nd) : List Nd := match placeN x with
 | some j => (args.getD (j - 1) (.mk 0 [] 0 [])).kids
 | none => [fillS args x]
theorem fillL_app (args : List Nd) : ∀ (a b : List Nd), fillL args (a ++ b) = fillL args a ++ fillL args b
 | [], b => by rw [fillL]; rfl
 | x :: a, b => by rw [List.cons_append, fillL, fillL, fillL_app args a b, List.append_assoc]
theorem fillL_snoc (args ks : List Nd) (j : Nat) (hj : j < ks.length) : fillL args (ks.take (j + 1)) = fillL args (ks.take j) ++ fill1 args ks[j] := by
 rw [List.take_succ_eq_append_getElem hj, fillL_app]
 congr 1
 rw [fillL, fillL, List.append_nil];rfl
theorem slotsL_app (args : List Nd) : ∀ (a b : List Nd), slotsL args (a ++ b) = slotsL args a ++ slotsL args b
 | [], b => by rw [slotsL]; rfl
 | .mk _ _ _ ks :: a, b => by rw [List.cons_append, slotsL, slotsL, slotsL_app args a b]; rfl
theorem slotsL_snoc (args ks : List Nd) (j : Nat) (hj : j < ks.length) : slotsL args (ks.take (j + 1)) = slotsL args (ks.take j) ++ [slot (fillL args ks[j].kids)] := by
 rw [List.take_succ_eq_append_getElem hj, slotsL_app]
 congr 1
 cases ks[j] with
 | mk a b c d => rw [slotsL, slotsL]; rfl
theorem slotsL_len (args : List Nd) : ∀ (ks : List Nd), (slotsL args ks).length = ks.length
 | [] => by rw [slotsL]
 | .mk _ _ _ _ :: ks => by rw [slotsL, List.length_cons, List.length_cons, slotsL_len args ks]
def Small (args : List Nd) : Prop := ∀ a ∈ args, Tr.count a ≤ 1000
theorem fill1_len {args : List Nd} (h : Small args) (x : Nd) : (fill1 args x).length ≤ 1000 := by
 unfold fill1;split
 ·rename_i j _
  rw [List.getD_eq_getElem?_getD];cases ha : args[j - 1]? with
  | none => simp [Nd.kids]
  | some a =>
   have h1 := h a (List.mem_of_getElem? ha);have h2 := Tr.countL_len a.kids;rw [Tr.count_kids] at h1;simp only [Option.getD_some];omega
 ·simp
theorem fillL_len {args : List Nd} (h : Small args) : ∀ (ks : List Nd), (fillL args ks).length ≤ 1000 * ks.length
 | [] => by rw [fillL]; simp
 | x :: ks => by
  have h1 := fillL_len h ks;have h2 : (fillL args (x :: ks)) = fill1 args x ++ fillL args ks := by rw [fillL]; rfl
  have h3 := fill1_len h x;rw [h2, List.length_append, List.length_cons];omega
mutual
def inR (n : Nat) : Nd → Prop
 | .mk k t c ks => (∀ j, placeN (.mk k t c ks) = some j → j ≤ n) ∧ inRL n ks
def inRL (n : Nat) : List Nd → Prop
 | [] => True
 | x :: xs => inR n x ∧ inRL n xs
end
theorem inRL_mem {n : Nat} : ∀ {ks : List Nd}, inRL n ks → ∀ x ∈ ks, inR n x
 | [], _, x, hx => by cases hx
 | y :: ys, h, x, hx => by
  rw [inRL] at h
  rcases List.mem_cons.1 hx with rfl | hx
  ·exact h.1
  ·exact inRL_mem h.2 x hx
theorem inR_kids {n : Nat} {x : Nd} (h : inR n x) : inRL n x.kids := by
 cases x with
 | mk a b c d => rw [inR] at h; exact h.2
theorem inR_place {n : Nat} {x : Nd} (h : inR n x) {j : Nat} (hj : placeN x = some j) : j ≤ n := by
 cases x with
 | mk a b c d => rw [inR] at h; exact h.1 j hj
mutual
theorem plainR_in (P : Nat) : ∀ (n : Nd) (d m : Nat) (z : Bool), (plainR P d n (m, z)).2.2 = true → inR P n
 | .mk k t c ks, d, m, z, h => by
  rw [plainR] at h;rw [inR]
  by_cases c1 : 1000 < m + 1 ∨ 24 < d
  ·rw [if_pos c1] at h; cases h
  ·rw [if_neg c1] at h
   simp only at h;cases hp : placeN (.mk k t c ks) with
   | none =>
    rw [hp] at h;exact ⟨fun j hj => (by cases hj), plainL_in P ks (d + 1) (m + 1) _ h (by omega)⟩
   | some j =>
    rw [hp] at h;simp only at h;have h1 := (plainL_cnt P ks (d + 1) (m + 1) _ h (by omega)).1;rw [Bool.and_eq_true, decide_eq_true_eq] at h1;refine ⟨fun i hi => ?_, plainL_in P ks (d + 1) (m + 1) _ h (by omega)⟩;cases hi;omega
theorem plainL_in (P : Nat) : ∀ (ks : List Nd) (d m : Nat) (z : Bool), (plainL P d ks (m, z)).2.2 = true → m ≤ 1000 → inRL P ks
 | [], _, _, _, _, _ => by rw [inRL]; trivial
 | x :: xs, d, m, z, h, hm => by
  rw [plainL] at h;rw [inRL]
  by_cases c1 : z = false
  ·rw [if_pos c1] at h; rw [c1] at h; cases h
  ·rw [if_neg c1] at h
   simp only at h;cases hr : (plainR P d x (m, z)).2 with
   | mk m1 z1 =>
    rw [hr] at h
    have hz1 : z1 = true := by
     cases z1 with
     | true => rfl
     | false =>
      have : plainL P d xs (m1, false) = ([], (m1, false)) := by
       cases xs with
       | nil => rw [plainL]
       | cons y ys => rw [plainL, if_pos rfl]
      rw [this] at h;cases h
    have h1 := plainR_cnt P x d m z (by rw [hr]; exact hz1);rw [hr] at h1;exact ⟨plainR_in P x d m z (by rw [hr]; exact hz1), plainL_in P xs d m1 z1 h h1.2.2⟩
end
theorem templ_in {n : Nd} {P : Nat} (h : templF n P = true) : inRL P n.kids := by
 unfold templF at h;split at h
 ·cases h
 ·rw [Bool.and_eq_true] at h
  exact inR_kids (plainR_in P n 1 0 true h.1)
end Go.Proofs.YtomibmenojdieaaGreat.Mcr
namespace Go.Proofs.YtomibmenojdieaaGreat
open Go.RowKit
open Tr (Nd)
attribute [local go_sem] stillV stillUpon
def FillC (args : List Nd) (W0 : World) (va : Value) (ks : List Nd) : Prop := ∀ (v : Value) (w : World), RepL W0 ks v → Fresh W0 w → Calls Tryz.prog 33 #[v, va] w fun e w' => ∃ A cp, e = .returned (.slice A (Mcr.fillL args ks).length cp) ∧ TreT w.heap.size w' (Mcr.fillL args ks) (.slice A (Mcr.fillL args ks).length cp) ∧ Fresh w w'
theorem Grow.own_lt {D : Nat → Prop} {w : World} {B0 B : Nat} {ks : List Nd} {v : Value} (h : Grow D w B0 B ks v) : ∀ k, v.ownBlock = some k → k < w.heap.size := fun k hk => by
 obtain ⟨cs, h1, _⟩ := h;obtain ⟨_, cur, h4⟩ := owns_type h1 hk;exact (Array.getElem?_eq_some_iff.1 h4).1
theorem fill_step (args : List Nd) (W0 : World) (va : Value) (ks : List Nd) (hsm : Mcr.Small args) (hal : args.length ≤ 1000) (hra : RepL W0 args va) (hin : Mcr.inRL args.length ks) (hcnt : Tr.countL ks ≤ 1000) (ih : ∀ x ∈ ks, ∀ y ∈ x.kids, FillC args W0 va y.kids) : FillC args W0 va ks := by
 intro v w hr hf;obtain ⟨A, cap, rfl⟩ := hr.slice;obtain ⟨Aa, ca, rfl⟩ := hra.slice;have HR := hid hr;have HRA := hid hra;have HF0 := hid hf;have HSM := hid hsm;have HIN := hid hin;have HCN := hid hcnt;have HIH := hid ih;have hk6 : ks.length ≤ 1000 := Nat.le_trans (Tr.countL_len ks) hcnt;have HK6 := hid (And.intro hk6 hal);obtain ⟨Z, hZ⟩ : ∃ Z, Z = Mcr.fillL args ks := ⟨_, rfl⟩;have HZ := hid hZ;rw [← hZ];refine Calls.via fun Q hQ => ?_
 have HQ := hid hQ;clear hr hra hf hsm hin hcnt ih hZ hal hQ;go_enter Tryz.func33, Tryz.ntmps33;go_wp2_with fail
 go_loopw [5, 15] (fun a i wr0 => ∃ (wr : World) (j : Nat) (ns : List Nd) (A' : Option Addr) (cp : Nat), wr = wr0 ∧ a = .slice A' ns.length cp ∧ i = .int .i64 j ∧ j ≤ ks.length ∧ Hid (ns = Mcr.fillL args (ks.take j)) ∧ Hid (Grow (fun _ => False) wr w.heap.size w.heap.size ns (.slice A' ns.length cp)) ∧ Hid (Fresh w wr)) (fun _ i _ => ks.length - (intOf i).toNat)
 case atStart => exact ⟨_, 0, [], none, 0, rfl, rfl, rfl, Nat.zero_le _, hid (by rw [List.take_zero, Mcr.fillL]), hid (Grow.nil _ _ _ _), hid (Touch.refl _ _)⟩
 case round =>
  obtain ⟨wr, j, ns, A', cp, rfl, rfl, rfl, hj, HNS, HG, HF⟩ := hrel
  by_cases c1 : j < ks.length
  ·have d1 : decide ((j : Int) < (ks.length : Int)) = true := dT (by omega)
   have d1n : decide (j < ks.length) = true := dT c1;have d1' : (j : Int) < (ks.length : Int) := by omega
   have hjb : j ≤ 1000 := by omega
   obtain ⟨g, o, sl, rfl, hg, e0, e1, e2, e3, e4⟩ := HR.out.get j c1;have htl := HR.out.texts j c1;have HTL := hid htl;have HE4 := hid e4;have HSN := hid (Mcr.fillL_snoc args ks j c1);have HXI := hid (Mcr.inRL_mem HIN.out ks[j] (List.getElem_mem c1));have HIX := hid (HIH.out ks[j] (List.getElem_mem c1));have HCX := hid (show Tr.count ks[j] ≤ 1000 by have := countL_mem (List.getElem_mem c1); have := HCN.out; omega);have HNL := hid (show ns.length ≤ 1000000 by rw [HNS.out]; have h := Mcr.fillL_len HSM.out (ks.take j); rw [List.length_take] at h; omega);have HJ := hid (And.intro hjb c1);have hfr := HF0.out.trans HF.out;have a0 := hfr.cell e0 (fun h => h);have a1 := hfr.cell e1 (fun h => h);have a2 := hfr.cell e2 (fun h => h);have a3 := hfr.cell e3 (fun h => h);have HFR := hid hfr;have HGL := hid hg;clear e0 e1 e2 e3 e4 htl hg hfr;generalize ks[j] = x at *;obtain ⟨Ax, cx, rfl⟩ := HE4.out.slice;have HPL := hid (place_any x g (o + j * 4) cx Ax wr a0 a1 a2 a3);go_wp2_with fail
   refine HPL.out.mono ?_;rintro _ w1 ⟨kp, rfl, hkp, rfl⟩;have HKP := hid hkp;clear hkp HPL;cases hp : Mcr.placeN x with
   | some i =>
    obtain ⟨hk, hi1, hi4⟩ := HKP.out i hp;subst hk;have hin := Mcr.inR_place HXI.out hp;have HF1 := hid (show Mcr.fill1 args x = (args.getD (i - 1) (.mk 0 [] 0 [])).kids by unfold Mcr.fill1; rw [hp]);obtain ⟨i', rfl⟩ : ∃ i', i = i' + 1 := ⟨i - 1, by omega⟩;have hil : i' < args.length := by omega
    have HF2 := hid (show Mcr.fill1 args x = args[i'].kids by rw [HF1.out, List.getD_eq_getElem?_getD, Nat.add_sub_cancel, List.getElem?_eq_getElem hil]; rfl);obtain ⟨ga, oa, sa, rfl, hga, b0, b1, b2, b3, b4⟩ := HRA.out.get i' hil;have HB4 := hid b4
    have HAC := hid (show Tr.countL args[i'].kids ≤ 1000000 by
     have h1 := HSM.out args[i'] (List.getElem_mem hil);rw [Tr.count_kids] at h1;omega)
    have y3 := HFR.out.cell b3 (fun h => h);have w1' : IntKind.i64.wrap (i' : Int) = (i' : Int) := IntWalk.i64_in _ (by omega);have w2' : ((i' : Int) + 1) - 1 = (i' : Int) := by omega
    have w3' : (i' : Int) < (args.length : Int) := by omega
    have HIL := hid (And.intro hil hi4);clear HKP hp hin HF1 b0 b1 b2 b3 b4 hga hi1 hi4;generalize args[i'] = y at *;obtain ⟨Ay, cy, rfl⟩ := HB4.out.slice;go_wp2_with fail
    refine (dnodes_any y.kids (.slice Ay y.kids.length cy) _ HAC.out (HB4.out.fresh HFR.out)).mono ?_;rintro _ w2 ⟨A2, c2, rfl, ht2, hf2⟩;have HT2 := hid ht2;have HF3 := hid hf2;have HOW := hid HG.out.own_lt;have HG2 := hid (HG.out.fresh hf2);obtain ⟨ii, hi, hz0, hz1, hz2⟩ := info_parts infoNodeD;have HYL := hid (show y.kids.length ≤ 1000000 from Nat.le_trans (Tr.countL_len y.kids) HAC.out);clear ht2 hf2 a0 a1 a2 a3 y3 w1' w2' w3'
    go_wp2_with (at_builtin; go_loud (refine wpList_append_growL rfl (.tmp 27) (.tmp 34) rfl ii _ hi hz0 hz1 hz2 rfl (B0 := w.heap.size) (B := w.heap.size) (B1 := w1.heap.size) (ks := ns) (ms := y.kids) (v := .slice A' ns.length cp) (y := .slice A2 y.kids.length c2) HG2.out (by simp [Act.eval]) (by simp [Act.eval]) HT2.out HF.out.size (fun _ h => h.elim) HOW.out (by have := HNL.out; have := HYL.out; omega) (by have := HF.out.size; have := HF3.out.size; omega) ?_); intro A8 c8 w8 hg8 ht8; refine Stay.mk ?_)
    have HF8 := hid (show Fresh w w8 from (HF.out.trans HF3.out).trans' ht8 fun k hk => .inr hk.1);have HN8 := hid (show ns ++ y.kids = Mcr.fillL args (ks.take (j + 1)) by rw [HSN.out, HNS.out, HF2.out]);rw [← List.length_append] at hg8;rw [← List.length_append];have HG8 := hid hg8;clear hg8 ht8;refine Stay.go ?_;go_wp2_with fail
    exact ⟨⟨_, j + 1, ns ++ y.kids, A8, c8, rfl, rfl, by simp, by have := HJ.out; omega, hid HN8.out, HG8, HF8⟩, by simp [intOf]; have := HJ.out; omega⟩
   | none =>
    have HF1 := hid (show Mcr.fill1 args x = [Mcr.fillS args x] by unfold Mcr.fill1; rw [hp]);clear HKP hp;go_wp2_with fail
    have r0 := cR (a0.trans rfl);have r1 := cR (a1.trans rfl);have r2 := cR (a2.trans rfl);have hg1 : g < w1.heap.size := bL a0;refine wp_region_mix [([(0, true), (1, true), (2, true), (3, true), (4, true), (5, true), (6, true), (7, true), (8, true), (9, true), (10, true), (11, true), (12, true), (13, false)], 14)] [] (by kernel_rfl) (fun _ _ d _ _ h => by cases d <;> exact h) (by kernel_rfl) ?_;refine wpMix_seg ?_
    repeat (refine wpSeq_plain rfl (fun K hK => ?_); go_simp; refine hK _ ?_; clear hK K)
    refine wpSeq_lone rfl (fun K hK => ?_);go_wp2_with fail
    refine hK _ _ (growing_fresh (((Touch.refl (fun _ => False) _).drewN 1).alloc _)) ?_;clear hK K;have HF4 := hid (((Touch.refl (fun _ => False) w1).drewN 1).alloc (.cells #[.int .i64 0, .string ⟨#[]⟩, .int .i64 0, .slice none 0 0] 35));have HBM := hid (show Blk ((w1.drewN 1).alloc (.cells #[.int .i64 0, .string ⟨#[]⟩, .int .i64 0, .slice none 0 0] 35)) w1.heap.size 35 #[.int .i64 0, .string ⟨#[]⟩, .int .i64 0, .slice none 0 0] from Blk.new (w1.drewN 1) 35 _);generalize ((w1.drewN 1).alloc (.cells #[.int .i64 0, .string ⟨#[]⟩, .int .i64 0, .slice none 0 0] 35)) = W4 at HF4 HBM ⊢;obtain ⟨p0, p1, p2, p3, y0, y1, y2, y3, hlt4⟩ := Blk.four HBM.out;refine wpSeq_shut rfl (fun K hK => ?_);go_wp2_with fail
    refine wpMix_end ?_;have n5 := HBM.out.self4 (.int .i64 x.kind) (.string ⟨x.text.toArray⟩) (.int .i64 x.cols) (.slice none 0 0);have hf5 := HF4.out.put4 (g := w1.heap.size) (.inr (Nat.le_refl _)) (.int .i64 x.kind) (.string ⟨x.text.toArray⟩) (.int .i64 x.cols) (.slice none 0 0);simp only [put4] at n5 hf5;generalize (World.setCell (World.setCell (World.setCell (World.setCell W4 ⟨w1.heap.size, 0, none⟩ _) ⟨w1.heap.size, 1, none⟩ _) ⟨w1.heap.size, 2, none⟩ _) ⟨w1.heap.size, 3, none⟩ _) = W5 at n5 hf5 ⊢;have HBM5 := hid n5;have HF5 := hid hf5;clear n5 hf5 p0 p1 p2 p3 y0 y1 y2 y3 hlt4 HBM HF4 r0 r1 r2 a0 a1 a2 hg1;have a3' := HF5.out.cell a3 (fun h => h);clear a3;have HRK := hid (show RepL W0 x.kids (.slice Ax x.kids.length cx) from HE4.out);have HKL := hid (show x.kids.length ≤ 1000 by have h1 := Tr.countL_len x.kids; have h2 := HCX.out; rw [Tr.count_kids] at h2; omega);have HIK := hid (Mcr.inR_kids HXI.out);go_wp2_with fail
    go_loopw [54] (fun i wq0 => ∃ (wq : World) (q : Nat) (ms : List Nd) (A2 : Option Addr) (c2 : Nat), wq = wq0 ∧ i = .int .i64 q ∧ q ≤ x.kids.length ∧ Hid (ms = Mcr.slotsL args (x.kids.take q)) ∧ Hid (Blk wq w1.heap.size 35 #[.int .i64 x.kind, .string ⟨x.text.toArray⟩, .int .i64 x.cols, .slice A2 ms.length c2]) ∧ Hid (Grow (fun _ => False) wq W5.heap.size W5.heap.size ms (.slice A2 ms.length c2)) ∧ Hid (Fresh w1 wq) ∧ Hid (W5.heap.size ≤ wq.heap.size)) (fun i _ => x.kids.length - (intOf i).toNat)
    case atStart => exact ⟨_, 0, [], none, 0, rfl, rfl, Nat.zero_le _, hid (by rw [List.take_zero, Mcr.slotsL]), HBM5, hid (Grow.nil _ _ _ _), HF5, hid (Nat.le_refl _)⟩
    case round =>
     clear a3';obtain ⟨wq, q, ms, A2, c2, rfl, rfl, hq, HMS, HBQ, HGQ, HFQ, HSQ⟩ := hrel
     by_cases c2' : q < x.kids.length
     ·have d2 : decide ((q : Int) < (x.kids.length : Int)) = true := dT (by omega)
      have d2n : decide (q < x.kids.length) = true := dT c2';have d2' : (q : Int) < (x.kids.length : Int) := by omega
      have hqb : q ≤ 1000 := by have := HKL.out; omega
      obtain ⟨gx, ox, sy, rfl, hgx, e0, e1, e2, e3, e4⟩ := HRK.out.get q c2';have HYR := hid e4;have HSS := hid (Mcr.slotsL_snoc args x.kids q c2');have HIY := hid (HIX.out x.kids[q] (List.getElem_mem c2'));have HQB := hid (And.intro hqb c2')
      have HYN := hid (show (Mcr.fillL args x.kids[q].kids).length ≤ 1000000 by
       have h := Mcr.fillL_len HSM.out x.kids[q].kids;have h1 := countL_mem (List.getElem_mem c2');have h2 := HCX.out;have h3 := Tr.countL_len x.kids[q].kids;rw [Tr.count_kids] at h1 h2;omega)
      have hfr := HFR.out.trans HFQ.out;have b0 := hfr.cell e0 (fun h => h);have b1 := hfr.cell e1 (fun h => h);have b2 := hfr.cell e2 (fun h => h);have b3 := hfr.cell e3 (fun h => h);have HFRQ := hid hfr;clear e0 e1 e2 e3 e4 hfr hgx;generalize x.kids[q] = y at *;obtain ⟨Ay, cy, rfl⟩ := HYR.out.slice;have HBV := hid (Blk.new wq 35 #[.int .i64 y.kind, .string ⟨y.text.toArray⟩, .int .i64 y.cols, .slice Ay y.kids.length cy]);have HFA := hid (show Fresh wq (wq.alloc (.cells #[.int .i64 y.kind, .string ⟨y.text.toArray⟩, .int .i64 y.cols, .slice Ay y.kids.length cy] 35)) from (Touch.refl _ wq).alloc _);go_wp2_with fail
      generalize (wq.alloc (.cells #[.int .i64 y.kind, .string ⟨y.text.toArray⟩, .int .i64 y.cols, .slice Ay y.kids.length cy] 35)) = wa at HBV HFA ⊢;have HBQA := hid (HFA.out.blk HBQ.out fun h => h);have k3 := cR ((HBQA.out.cell 3).trans rfl);have k4 := cR ((HBV.out.cell 3).trans rfl);have hl1 := HBQA.out.lt;have hl2 := HBV.out.lt;clear b0 b1 b2 b3 d2 d2n d2';refine wp_region_mix [([(0, true), (1, true), (2, true), (3, true), (4, true), (5, false), (6, true), (7, false)], 8), ([(9, true)], 10)] [] (by kernel_rfl) (fun _ _ d _ _ h => by cases d <;> exact h) (by kernel_rfl) ?_;refine wpMix_seg ?_
      repeat (refine wpSeq_plain rfl (fun K hK => ?_); go_simp; refine hK _ ?_; clear hK K)
      refine wpSeq_lone rfl (fun K hK => ?_);go_wp2_with fail
      refine (HIY.out _ (wa.drewN 1) HYR.out ((HFRQ.out.trans HFA.out).drewN 1)).mono ?_;rintro _ w6 ⟨A6, c6, rfl, ht6, hf6⟩;have HT6 := hid (show TreT wa.heap.size w6 (Mcr.fillL args y.kids) (.slice A6 (Mcr.fillL args y.kids).length c6) from ht6);have HF6 := hid (show Fresh wa w6 from Touch.ofN hf6);have hgr := growing_fresh HF6.out;clear ht6 hf6;obtain ⟨fs, hfs⟩ : ∃ fs, fs = Mcr.fillL args y.kids := ⟨_, rfl⟩;rw [← hfs] at HT6 HYN HSS ⊢;clear hfs;go_wp2_with fail
      refine hK _ _ hgr ?_;clear hK K hgr
      repeat (refine wpSeq_plain rfl (fun K hK => ?_); go_simp; refine hK _ ?_; clear hK K)
      refine wpSeq_lone rfl (fun K hK => ?_);go_wp2_with fail
      refine hK _ _ (growing_fresh (HF6.out.alloc _)) ?_;clear hK K k3 k4 hl1 hl2;have HBW := hid (Blk.new w6 35 #[.int .i64 1, .string ⟨#[]⟩, .int .i64 0, .slice A6 fs.length c6]);have HF7 := hid (show Fresh w6 (w6.alloc (.cells #[.int .i64 1, .string ⟨#[]⟩, .int .i64 0, .slice A6 fs.length c6] 35)) from (Touch.refl _ w6).alloc _);have HG7 := hid (HGQ.out.fresh ((HFA.out.trans HF6.out).trans HF7.out));have HB7 := hid (HF7.out.blk (HF6.out.blk HBQA.out fun h => h) fun h => h);have HS7 := hid (show wq.heap.size ≤ w6.heap.size ∧ w6.heap.size < (w6.alloc (.cells #[.int .i64 1, .string ⟨#[]⟩, .int .i64 0, .slice A6 fs.length c6] 35)).heap.size from ⟨by have := HFA.out.size; have := HF6.out.size; omega, HBW.out.lt⟩);have HW6 := hid ((HFQ.out.trans HFA.out).trans (HF6.out.trans HF7.out));have HT7 := hid (HT6.out.fresh HF7.out);have HOWQ := hid HGQ.out.own_lt;have hmsl : ms.length = q := by rw [HMS.out, Mcr.slotsL_len, List.length_take]; have := HQB.out; omega
      have HML := hid hmsl;clear hmsl;obtain ⟨ii, hi, hz0, hz1, hz2⟩ := info_parts infoNodeD;refine wpSeq_shut rfl (fun K hK => ?_)
      go_wp2_with (at_builtin; go_loud (refine wpList_append_grow rfl (.tmp 59) (.tmp 65) rfl ii _ hi hz0 hz1 hz2 rfl (B0 := W5.heap.size) (B := W5.heap.size) (B1 := wq.heap.size) (ks := ms) (v := .slice A2 ms.length c2) (y := .slice (some ⟨w6.heap.size, 0, none⟩) 1 1) HG7.out (by simp [Act.eval]) (Np.slot fs) (.slice A6 fs.length c6) (by simp [Act.eval]) (Src.of_blk HBW.out rfl) (HT7.out.base HFA.out.size) HSQ.out (fun _ h => h.elim) HOWQ.out (Nat.zero_le _) (by have := HML.out; have := HQB.out; omega) (by have := HSQ.out; have := HS7.out; omega) ?_); intro A8 c8 w8 hg8 ht8; refine Stay.mk ?_)
      have HG8 := hid (show Grow (fun _ => False) w8 W5.heap.size W5.heap.size (ms ++ [Np.slot fs]) (.slice A8 (ms ++ [Np.slot fs]).length c8) by rw [List.length_append]; exact hg8);have HM8 := hid (show ms ++ [Np.slot fs] = Mcr.slotsL args (x.kids.take (q + 1)) by rw [HSS.out, HMS.out]);have HB8 := hid (ht8.blk1 HB7.out (by have := HBM5.out.lt; omega));have HF8 := hid (show Fresh w1 w8 from HW6.out.trans' ht8 fun k hk => .inr (by have := hk.1; have := HF5.out.size; omega));have HS8 := hid (show W5.heap.size ≤ w8.heap.size by have := ht8.size; have := HSQ.out; have := HS7.out; omega);clear hg8 ht8;obtain ⟨q0, q1, q2, q3, z0, z1, z2, z3, hlt8⟩ := Blk.four HB8.out;refine Stay.go ?_;go_wp2_with fail
      refine wpMix_seg ?_
      repeat (refine wpSeq_plain rfl (fun K hK => ?_); go_simp; refine hK _ ?_; clear hK K)
      refine wpSeq_shut rfl (fun K hK => ?_);go_wp2_with fail
      refine wpMix_end ?_;have hts := (Touch.refl (fun k => k = w1.heap.size) w8).setCell (p := ⟨w1.heap.size, 3, none⟩) (.inl rfl) (.slice A8 (ms.length + 1) c8);have HGN := hid (HG8.out.mv hts (Nat.le_refl _) (fun _ h => h.elim) (fun k hk => .inr (.inl (by rw [hk]; exact HBM5.out.lt))));have HBN := hid (show Blk _ w1.heap.size 35 #[.int .i64 x.kind, .string ⟨x.text.toArray⟩, .int .i64 x.cols, .slice A8 (ms ++ [Np.slot fs]).length c8] by rw [List.length_append]; exact HB8.out.put 3 (.slice A8 (ms.length + 1) c8));have HFN := hid (HF8.out.setCell (p := ⟨w1.heap.size, 3, none⟩) (.inr (Nat.le_refl _)) (.slice A8 (ms.length + 1) c8));have HSN2 := hid (show W5.heap.size ≤ (w8.setCell ⟨w1.heap.size, 3, none⟩ (.slice A8 (ms.length + 1) c8)).heap.size by have := HS8.out; simpa using this);clear hts q0 q1 q2 q3 z0 z1 z2 z3 hlt8;generalize (w8.setCell ⟨w1.heap.size, 3, none⟩ (.slice A8 (ms.length + 1) c8)) = w9 at HGN HBN HFN HSN2 ⊢;go_wp2_with fail
      exact ⟨⟨_, q + 1, ms ++ [Np.slot fs], A8, c8, rfl, by simp, by have := HQB.out; omega, HM8, HBN, HGN, HFN, HSN2⟩, by simp [intOf]; have := HQB.out; omega⟩
     ·have d2 : decide ((q : Int) < (x.kids.length : Int)) = false := dF (by omega)
      have d2n : decide (q < x.kids.length) = false := dF c2';obtain rfl : q = x.kids.length := by omega
      have HMX := hid (show ms = Mcr.slotsL args x.kids by rw [HMS.out, List.take_length])
      have HXF := hid (show Mcr.fill1 args x = [.mk x.kind x.text x.cols ms] by
       rw [HF1.out, HMX.out];cases x with
       | mk a b c d => rw [Mcr.fillS]; rfl)
      obtain ⟨p0, p1, p2, p3, _, _, _, _, hl5⟩ := Blk.four HBQ.out;have HBW := hid (Blk.new wq 35 #[.int .i64 x.kind, .string ⟨x.text.toArray⟩, .int .i64 x.cols, .slice A2 ms.length c2]);have HF7 := hid (show Fresh wq (wq.alloc (.cells #[.int .i64 x.kind, .string ⟨x.text.toArray⟩, .int .i64 x.cols, .slice A2 ms.length c2] 35)) from (Touch.refl _ wq).alloc _);have HG7 := hid ((HG.out.fresh HFQ.out).fresh HF7.out);have HT7 := hid (((HGQ.out.tree (Nat.le_refl _)).fresh HF7.out).base HF5.out.size);have HOW := hid HG.out.own_lt;have HFW := hid ((HF.out.trans HFQ.out).trans HF7.out);have HSZ := hid (show w.heap.size ≤ w1.heap.size ∧ w1.heap.size ≤ wq.heap.size from ⟨HF.out.size, HFQ.out.size⟩);obtain ⟨ii, hi, hz0, hz1, hz2⟩ := info_parts infoNodeD
      go_wp2_with (at_builtin; go_loud (refine wpList_append_grow rfl (.tmp 69) (.tmp 71) rfl ii _ hi hz0 hz1 hz2 rfl (B0 := w.heap.size) (B := w.heap.size) (B1 := w1.heap.size) (ks := ns) (v := .slice A' ns.length cp) (y := .slice (some ⟨wq.heap.size, 0, none⟩) 1 1) HG7.out (by simp [Act.eval]) (.mk x.kind x.text x.cols ms) (.slice A2 ms.length c2) (by simp [Act.eval]) (Src.of_blk HBW.out rfl) HT7.out HSZ.out.1 (fun _ h => h.elim) HOW.out HTL.out (by have := HNL.out; omega) (by have := HSZ.out; have := HF7.out.size; omega) ?_); intro A8 c8 w8 hg8 ht8; refine Stay.mk ?_)
      have HF8 := hid (show Fresh w w8 from HFW.out.trans' ht8 fun k hk => .inr hk.1);have HG8 := hid (show Grow (fun _ => False) w8 w.heap.size w.heap.size (ns ++ [.mk x.kind x.text x.cols ms]) (.slice A8 (ns ++ [(.mk x.kind x.text x.cols ms : Nd)]).length c8) by rw [List.length_append]; exact hg8);have HN8 := hid (show ns ++ [.mk x.kind x.text x.cols ms] = Mcr.fillL args (ks.take (j + 1)) by rw [HSN.out, HNS.out, HXF.out]);clear hg8 ht8;refine Stay.go ?_;go_wp2_with fail
      exact ⟨⟨_, j + 1, ns ++ [.mk x.kind x.text x.cols ms], A8, c8, rfl, by simp, by simp, by have := HJ.out; omega, HN8, HG8, HF8⟩, by simp [intOf]; have := HJ.out; omega⟩
  ·have d1 : decide ((j : Int) < (ks.length : Int)) = false := dF (by omega)
   have d1n : decide (j < ks.length) = false := dF c1;obtain rfl : j = ks.length := by omega
   have HZN := hid (show ns = Z by rw [HNS.out, HZ.out, List.take_length]);go_wp2_with fail
   have hv := HG.out.tree (Nat.le_refl _);rw [HZN.out] at hv;have h := HQ.out (.returned (.slice A' Z.length cp)) wr ⟨A', cp, rfl, hv, HF.out⟩;rw [← HZN.out] at h;exact h
end Go.Proofs.YtomibmenojdieaaGreat
namespace Go.Proofs.YtomibmenojdieaaGreat
open Go.RowKit
theorem wpPlan_shut2 {P : Program} {Q : Exit → Act → World → Prop} {C C2 : World → Prop} {L2 : Act → World → Prop} {p2 : Plan} {l : List Oper} {t : Nat} {o : Oper} {a : Act} {w : World} (ho : l[t]? = some o)
  (h : ∀ K : Act → World → Prop, (∀ a w, C2 w → wpPlan P l Q C2 L2 p2 a w → K a w) → wpList P l.toArray (Exit.then K Q) [o] a w) : wpPlan P l Q C (fun a' w' => wpList P l.toArray (Exit.then (fun a'' w'' => C2 w'' ∧ wpPlan P l Q C2 L2 p2 a'' w'') Q) (pick l [t]) a' w') .nil a w := by
 unfold wpPlan;have hp : pick l [t] = [o] := by simp [pick, ho]
 rw [hp];exact h _ (fun _ _ h1 h2 => ⟨h1, h2⟩)
theorem wp_region_planC {P : Program} {Q : Exit → Act → World → Prop} {id : Nat} {a : Act} {w : World} {l : List Oper} (C : World → Prop) (p : Plan) (ns : List Nat) (t : Nat) (fin : Array Bool) (C2 : World → Prop) (p2 : Plan) (ns2 : List Nat) (fin2 : Array Bool) (hm : P.follows .mixedOrders = true) (hQ : ∀ c a d v w, Q (.panic c) (Act.put a d v) w → Q (.panic c) a w)
  (hB : (Region.noSelect l.toArray && decide (p.len + (p2.len + 1) = l.toArray.size) && p.within ns && planB .any l.toArray fin p (Array.replicate l.toArray.size false) && shutB .any l.toArray ns (some t) (Array.replicate l.toArray.size false) &&
   decide (Region.ready .any l.toArray fin = [t]) && !ns.contains t && p2.within ns2 && planB .any l.toArray fin2 p2 (fin.setIfInBounds t true) && shutB .any l.toArray ns2 none (fin.setIfInBounds t true) && (Region.ready .any l.toArray fin2).isEmpty) = true)
  (hC : C (w.drewN 1)) (h : wpPlan P l Q C (fun a' w' => wpList P l.toArray (Exit.then (fun a'' w'' => C2 w'' ∧ wpPlan P l Q C2 (fun a3 w3 => Q .normal a3 w3) p2 a'' w'') Q) (pick l [t]) a' w') p a (w.drewN 1)) : (Code.region id l.toArray true).wp P Q a w := by
 simp only [Bool.and_eq_true, decide_eq_true_eq, Bool.not_eq_true', List.isEmpty_iff] at hB;obtain ⟨⟨⟨⟨⟨⟨⟨⟨⟨⟨hsel, hn⟩, hin⟩, hp⟩, hs⟩, hr⟩, ht⟩, hin2⟩, hp2⟩, hs2⟩, hr2⟩ := hB;refine wp_region_any hm ?_;rw [← hn];rw [← hn] at hp hs
 have hz : ZInv .any l.toArray ns (Array.replicate (p.len + (p2.len + 1)) false) (Array.replicate (p.len + (p2.len + 1)) false) :=
  ⟨⟨by simp [hn], fun j oj _ hl => by rw [getD_repl] at hl; cases hl⟩, fun _ h => h, fun _ h => .inl h⟩
 have hz' := plan_inv p _ hin hz hp;have htr : t ∈ Region.ready .any l.toArray fin := by rw [hr]; simp
 have htn : t ∉ ns := by
  intro hx;rw [List.contains_iff_mem.2 hx] at ht;cases ht
 obtain ⟨_, ot, hot, _⟩ := mem_ready.1 htr;have := wpAnyU_plan (P := P) (Q := Q) (fin := fin) hsel hQ hs (by rw [hr]; intro j hj; rw [List.mem_singleton.1 hj]; exact htn) p _ a (w.drewN 1) hin hz hp hC h;refine wpAny_of_U (g := p2.len + 1) (fun listed' a' w' _ hL => ?_) p.len _ a _ hC this;refine wpAny_all (rs := [t]) (by rw [hL.1]; exact hr) (by simp) (fun i hi => ?_);rw [List.mem_singleton.1 hi, hL.1];refine wpOp_mono (fun a'' w'' h'' => ?_) (wpOp_of_single hot hL.2);have hz2 : ZInv .any l.toArray ns2 (fin.setIfInBounds t true) (fin.setIfInBounds t true) := ⟨hz'.closed.put htr, fun _ h => h, fun _ h => .inl h⟩;have h2 := wpAnyU_plan (P := P) (Q := Q) (fin := fin2) hsel hQ hs2 (by rw [hr2]; simp) p2 _ a'' w'' hin2 hz2 hp2 h''.1 h''.2;exact wpAny_of_U (g := 0) (fun listed' a' w' _ hL => wpAny_done (by rw [hL.1]; exact hr2) hL.2 0) p2.len _ a'' _ h''.1 h2
structure Turned (S : Nat → Prop) (w0 : World) where
 W : World
 ht : Touch S w0 W
instance {S : Nat → Prop} {w0 : World} : Nonempty (Turned S w0) := ⟨⟨w0, Touch.refl _ _⟩⟩
theorem cT {S : Nat → Prop} {w0 : World} {b i : Nat} {v : Value} (h : w0.cell? ⟨b, i, none⟩ = some v) (hS : ¬ S b) (x : Turned S w0) : x.W.cell? ⟨b, i, none⟩ = some v := x.ht.cell h hS
end Go.Proofs.YtomibmenojdieaaGreat
