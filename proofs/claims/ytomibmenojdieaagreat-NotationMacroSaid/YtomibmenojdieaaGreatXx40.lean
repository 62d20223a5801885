/- Part 40 of 42 of a proof; its texts, joined: NmY, NmW, NzJ. No condition. -/
import Derived.Test.YtomibmenojdieaaGreatXx39
import Derived.Test.YtomibmenojdieaaGreatXx3
import Derived.Test.YtomibmenojdieaaGreatXx21
import Derived.Test.YtomibmenojdieaaGreatXx38
set_option maxRecDepth 100000
set_option maxHeartbeats 2000000
namespace Go.Proofs.YtomibmenojdieaaGreat.Mcr
open Lx (PTok brT brK tkN tkM)
open Tr (Nd sFrac sRoot sMatrix)
open Np (place isM leafOf slot accented special isBreak colN stops Al)
theorem readS_row {P : Nat} {T : Table} {l : Bytes} {ks : List Nd} {q : St} (h : readS P T l = .ok (ks, true) q) : (Lx.lexAll l).2 = none ∧ ∃ f r, pRow ⟨l.length, P, T⟩ f [] ⟨(Lx.lexAll l).1, 0, false⟩ = .ok ks r ∧ r.l = [] ∧ r.b = false := by
 unfold readS at h;split at h
 ·rename_i ts hl
  rw [hl];exact ⟨rfl, parseT_row h⟩
 ·cases h
theorem parse_good {T : Table} {l : Bytes} (hne : ∀ i e, readS 0 T l = .err i e → e ≠ 0) (h : (parseF T l).2.2 = 0) : ∃ ks q, readS 0 T l = .ok (ks, true) q ∧ parseF T l = (slot ks, 0, 0) ∧ Tr.valid (slot ks) = true := by
 unfold parseF at h ⊢;cases hx : readS 0 T l with
 | ok x q =>
  obtain ⟨ks, fits⟩ := x;rw [hx] at h;simp only at h ⊢
  by_cases hc : fits = false ∨ Tr.valid (slot ks) = false
  ·rw [if_pos hc] at h; cases h
  ·rw [if_neg hc]
   have h1 : fits = true := by cases fits with | true => rfl | false => exact absurd (.inl rfl) hc
   have h2 : Tr.valid (slot ks) = true := by cases hv : Tr.valid (slot ks) with | true => rfl | false => exact absurd (.inr hv) hc
   subst h1;exact ⟨ks, q, rfl, rfl, h2⟩
 | err i e =>
  rw [hx] at h;exact absurd h (hne i e hx)
 | out => exact absurd hx (readS_ends 0 T l)
theorem parse_of {T : Table} {l : Bytes} {ks : List Nd} (ht : ∀ L, (Lx.lexAll l) = (L, none) → ∃ q, parseT ⟨l.length, 0, T⟩ L = .ok (ks, true) q) (hl : (Lx.lexAll l).2 = none) (hv : Tr.valid (slot ks) = true) : parseF T l = (slot ks, 0, 0) := by
 unfold parseF readS;generalize hx : Lx.lexAll l = X at ht hl;obtain ⟨L, o⟩ := X;simp only at hl;subst hl;obtain ⟨q, h⟩ := ht L rfl;simp only [h, hv];rfl
def brP (args : List Bytes) : List PTok := args.flatMap fun a => ⟨7, [123], 0, 0⟩ :: ((Lx.lexAll a).1 ++ [⟨7, [125], 0, 0⟩])
theorem brP_tok (args : List Bytes) : (brP args).map Lx.tok = brK args := by
 induction args with
 | nil => rfl
 | cons a as_ ih =>
  have e1 : brP (a :: as_) = (⟨7, [123], 0, 0⟩ :: ((Lx.lexAll a).1 ++ [⟨7, [125], 0, 0⟩])) ++ brP as_ := by simp [brP]
  have e2 : brK (a :: as_) = (tkM 123 :: ((Lx.lexAll a).1.map Lx.tok ++ [tkM 125])) ++ brK as_ := by simp [brK]
  rw [e1, e2, List.map_append, ih];simp [Lx.tok, tkM]
inductive Args (T : Table) : List Bytes → List (List Nd) → Prop where
 | nil : Args T [] []
 | cons (a : Bytes) (ks : List Nd) (q : St) (as_ : List Bytes) (kss : List (List Nd)) (h : readS 0 T a = .ok (ks, true) q) (h2 : Args T as_ kss) : Args T (a :: as_) (ks :: kss)
theorem Args.braced {T : Table} {as_ : List Bytes} {kss : List (List Nd)} (h : Args T as_ kss) : Braced T kss (brP as_) ∧ ∀ a ∈ as_, (Lx.lexAll a).2 = none := by
 induction h with
 | nil => exact ⟨.nil, fun a h => by cases h⟩
 | cons a ks q as_ kss h h2 ih =>
  obtain ⟨h3, f, r, h4, h5, h6⟩ := readS_row h;refine ⟨?_, fun x hx => ?_⟩
  ·have e1 : brP (a :: as_) = ⟨7, [123], 0, 0⟩ :: ((Lx.lexAll a).1 ++ ⟨7, [125], 0, 0⟩ :: brP as_) := by simp [brP]
   rw [e1];exact .cons _ f _ ks r _ _ kss _ h4 h5 h6 ⟨rfl, rfl⟩ ⟨rfl, rfl⟩ ih.1
  ·rcases List.mem_cons.1 hx with rfl | hx
   ·exact h3
   ·exact ih.2 x hx
theorem row_low {E : En} {f : Nat} {l : List PTok} {ks : List Nd} {r : St} (h : pRow E f [] ⟨l, 0, false⟩ = .ok ks r) (hb : r.b = false) : r.n ≤ Tr.countL ks := by
 have := ((acc_all E f).row [] ⟨l, 0, false⟩ ks r h).2.2 hb;simp only at this;omega
theorem valid_count {n : Nd} (h : Tr.valid n = true) : Tr.count n ≤ 1000 := by
 unfold Tr.valid at h;simp only [Bool.and_eq_true, decide_eq_true_eq] at h;exact h.1.2
structure NameOK (nm : Bytes) : Prop where
 all : nm.all (Lx.isB 3) = true
 ne : nm ≠ []
 le : nm.length ≤ 16
 fence : nm ≠ [102, 101, 110, 99, 101]
 special : special nm = false
def callT (nm : Bytes) (args : List Bytes) : Bytes := 92 :: (nm ++ brT args)
theorem law_placed {T : Table} {nm : Bytes} (hnm : NameOK nm) {as_ : List Bytes} {kss : List (List Nd)} (ha : Args T as_ kss) {mc : Mac} (hg : getF T nm = some mc) (hp : mc.params = kss.length) {fd : Nd} (hx : expandF T nm (kss.map slot) = (fd, 0))
  {l r : Bytes} {kl kr : List Nd} {ql qr : St} (hl : readS 0 T l = .ok (kl, true) ql) (hr : readS 0 T r = .ok (kr, true) qr) (hv : Tr.valid (slot (kl ++ (fd.kids ++ kr))) = true) :
  parseF T (l ++ 32 :: (callT nm as_ ++ 32 :: r)) = (slot (kl ++ (fd.kids ++ kr)), 0, 0) := by
 obtain ⟨l1, f0, rl, l2, l3, l4⟩ := readS_row hl;obtain ⟨r1, f1, rr, r2, r3, r4⟩ := readS_row hr;obtain ⟨hb, hlx⟩ := ha.braced;obtain ⟨c1, c2⟩ := Lx.lex_call nm hnm.all hnm.ne hnm.le hnm.fence as_ [] hlx (fun _ => trivial);have ec : 92 :: (nm ++ (brT as_ ++ Lx.flat [])) = callT nm as_ := by simp [callT, Lx.flat]
 rw [ec] at c1 c2;obtain ⟨d1, d2⟩ := Lx.lex_two (callT nm as_) r c1 r1;obtain ⟨e1, e2⟩ := Lx.lex_two l (callT nm as_ ++ 32 :: r) l1 d1;refine parse_of (fun L hL => ?_) e1 hv;have hcnt := valid_count hv;unfold slot at hcnt;rw [count_mk, countL_app', countL_app'] at hcnt;have hfd := Tr.count_kids fd;have h1 := row_low l2 l4;have h2 := row_low r2 r4;obtain ⟨N, hrow⟩ := row_placed (E := ⟨(l ++ 32 :: (callT nm as_ ++ 32 :: r)).length, 0, T⟩) rfl hb hg hp hnm.special hx (t := ⟨4, nm, 0, 0⟩) ⟨rfl, rfl⟩ l2 l3 l4 r2 r3 r4 (by omega);refine parseT_of _ L _ ⟨N, fun F hF => hrow L ?_ F hF⟩;unfold Al;rw [hL] at e2;simp only at e2;rw [e2, d2, c2];simp [brP_tok, Lx.tok, tkN]
theorem law_scripted {T : Table} {nm : Bytes} (hnm : NameOK nm) {as_ : List Bytes} {kss : List (List Nd)} (ha : Args T as_ kss) {mc : Mac} (hg : getF T nm = some mc) (hp : mc.params = kss.length) {fd : Nd} (hx : expandF T nm (kss.map slot) = (fd, 0))
  (hv : Tr.valid (slot [.mk 8 [] 0 [slot fd.kids, slot [.mk 3 [50] 0 []]]]) = true) :
  parseF T (callT nm as_ ++ [94, 50]) = (slot [.mk 8 [] 0 [slot fd.kids, slot [.mk 3 [50] 0 []]]], 0, 0) := by
 obtain ⟨hb, hlx⟩ := ha.braced;have two : Lx.TokOK ⟨2, [50]⟩ := .inr (.inl ⟨rfl, by decide, [50], by simp, by decide, .inl rfl⟩);obtain ⟨c1, c2⟩ := Lx.lex_call nm hnm.all hnm.ne hnm.le hnm.fence as_ [([], tkM 94), ([], ⟨2, [50]⟩)] hlx (fun _ => ⟨rfl, Lx.mark_ok (by decide), (fun _ _ _ => Lx.join_mark_r rfl), rfl, two, (fun _ a e => by cases e; exact Lx.join_mark_l rfl), trivial⟩);have ec : 92 :: (nm ++ (brT as_ ++ Lx.flat [([], tkM 94), ([], ⟨2, [50]⟩)])) = callT nm as_ ++ [94, 50] := by simp [callT, Lx.flat, Lx.spell, Lx.spellL, tkM]
 rw [ec] at c1 c2;refine parse_of (fun L hL => ?_) c1 hv;have hcnt := valid_count hv;have hfd := Tr.count_kids fd;simp only [slot, count_mk, Tr.countL] at hcnt;obtain ⟨N, hit⟩ := item_script (E := ⟨(callT nm as_ ++ [94, 50]).length, 0, T⟩) rfl hb hg hp hnm.special hx (t := ⟨4, nm, 0, 0⟩) (u := ⟨7, [94], 0, 0⟩) (v := ⟨2, [50], 0, 0⟩) ⟨rfl, rfl⟩ ⟨rfl, rfl⟩ ⟨rfl, rfl⟩ [];rw [hL] at c2;simp only at c2
 have hal : Al (⟨4, nm, 0, 0⟩ :: (brP as_ ++ [⟨7, [94], 0, 0⟩, ⟨2, [50], 0, 0⟩])) L := by
  unfold Al;rw [c2];simp [brP_tok, Lx.tok, tkN, tkM]
 refine parseT_of _ L _ ⟨N + 2, fun F hF => ?_⟩;obtain ⟨F, rfl⟩ : ∃ g, F = g + 1 := ⟨F - 1, by omega⟩;obtain ⟨q, k1, k2, k3⟩ := hit ⟨L, 0, false⟩ hal rfl (by show 0 + _ ≤ _; omega) F (by omega);have hn : IsName nm ⟨4, nm, 0, 0⟩ := ⟨rfl, rfl⟩;obtain ⟨g1, g2⟩ := hn.goes hal;have := row_item (s := ⟨L, 0, false⟩) g1 g2 k1 (row_end (by omega) k2);rw [List.append_nil] at this;exact ⟨q, this, k2, k3⟩
end Go.Proofs.YtomibmenojdieaaGreat.Mcr
namespace Go.Proofs.YtomibmenojdieaaGreat.Mcr
open Tr (Nd sFrac sRoot sMatrix)
open Np (slot accented special)
theorem define_last {tb T : Table} {m : Def} (h : defineF tb m = some T) : ∃ ks, T = tb ++ [⟨m.name, m.params.toNat, slot ks⟩] ∧ getF tb m.name = none ∧ Tr.symbol m.name = true ∧ 2 ≤ m.name.length ∧ 0 ≤ m.params ∧ m.params ≤ 4 := by
 unfold defineF at h;split at h
 ·cases h
 ·rename_i hp
  cases hx : readS m.params.toNat tb m.body with
  | ok x q =>
   obtain ⟨ks, fits⟩ := x;rw [hx] at h;simp only at h;split at h
   ·cases h
   ·split at h
    ·rename_i he
     cases h;obtain ⟨a1, a2, _, _⟩ := addF_ok he;refine ⟨ks, a1, a2, ?_⟩;unfold addF at he;split at he
     ·cases he
     ·rename_i hc
      refine ⟨?_, ?_, by omega, by omega⟩
      ·cases hs : Tr.symbol m.name with
       | true => rfl
       | false => exact absurd (.inr (.inl hs)) hc
      ·rcases Nat.lt_or_ge m.name.length 2 with h | h
       ·exact absurd (.inl h) hc
       ·exact h
    ·cases h
  | err i e => rw [hx] at h; cases h
  | out => rw [hx] at h; cases h
theorem load_last : ∀ (ds : List Def) (m : Def) (tb T : Table), loadF tb (ds ++ [m]) = some T → ∃ T0 ks, T = T0 ++ [⟨m.name, m.params.toNat, slot ks⟩] ∧ getF T0 m.name = none ∧ Tr.symbol m.name = true ∧ 2 ≤ m.name.length ∧ 0 ≤ m.params ∧ m.params ≤ 4
 | [], m, tb, T, h => by
  rw [List.nil_append, loadF] at h;cases hx : defineF tb m with
  | none => rw [hx] at h; cases h
  | some tb' =>
   rw [hx] at h;simp only [loadF] at h;cases h;obtain ⟨ks, h1⟩ := define_last hx;exact ⟨tb, ks, h1⟩
 | d :: ds, m, tb, T, h => by
  rw [List.cons_append, loadF] at h;cases hx : defineF tb d with
  | none => rw [hx] at h; cases h
  | some tb' =>
   rw [hx] at h;exact load_last ds m tb' T h
theorem getF_last {T0 : Table} {x : Mac} (h : getF T0 x.name = none) : getF (T0 ++ [x]) x.name = some x := by
 unfold getF at h ⊢;rw [List.find?_append, h];simp
theorem name_ok {nm : Bytes} (h : Tr.symbol nm = true) (h2 : 2 ≤ nm.length) : NameOK nm := by
 match nm, h, h2 with
 | a :: b :: r, h, _ =>
  have h : ((a :: b :: r).all Tr.letter && decide (2 ≤ (a :: b :: r).length) && decide ((a :: b :: r).length ≤ 16) && !Tr.keywords.contains (a :: b :: r) && !Tr.accents.contains (a :: b :: r)) = true := h;generalize a :: b :: r = s at h;simp only [Bool.and_eq_true, decide_eq_true_eq, Bool.not_eq_true'] at h;obtain ⟨⟨⟨⟨h1, h2⟩, h3⟩, h4⟩, h5⟩ := h
  have hk : ∀ k ∈ Tr.keywords, s ≠ k := fun k hk e => by
   subst e;rw [List.contains_iff_mem.2 hk] at h4;cases h4
  refine ⟨?_, fun e => by rw [e] at h2; simp at h2, h3, hk _ (by simp [Tr.keywords]), ?_⟩
  ·rw [← Tr.all_letter]; exact h1
  ·unfold special accented
   rw [h5];simp only [Bool.or_eq_false_iff, beq_eq_false_iff_ne, ne_eq];exact ⟨⟨⟨hk _ (by decide), hk _ (by decide)⟩, hk _ (by decide)⟩, trivial⟩
theorem expand_row {T : Table} {nm : Bytes} {args : List Nd} {fd : Nd} (h : expandF T nm args = (fd, 0)) : fd = slot fd.kids := by
 unfold expandF at h;split at h
 ·cases h
 ·split at h
  ·cases h
  ·have h0 : (fillF _ args).2 = 0 := congrArg Prod.snd h
   have h1 := (fillF_ok h0).1;rw [h] at h1;simp only at h1;rw [h1];rfl
end Go.Proofs.YtomibmenojdieaaGreat.Mcr
namespace Go.Proofs.YtomibmenojdieaaGreat
open Go.RowKit
open Tr (Nd)
attribute [local go_sem] stillV stillUpon
def Reads (tb : Mcr.Table) (s : ByteArray) (X : Nd × Nat × Nat) : Prop := X.2.2 = 0 → ∃ ks q, Mcr.readS 0 tb s.data.toList = .ok (ks, true) q ∧ X = (Np.slot ks, 0, 0) ∧ Tr.valid (Np.slot ks) = true
theorem parse_len (s : ByteArray) (tb : Mcr.Table) (tp : Option Addr) (w : World) (hT : TabV w w.heap.size tb (.pointer tp)) (hm : s.size ≤ 140737488355328) : Calls Tryz.prog 7 #[.string s, .pointer tp] w fun e w' => ∃ X, ParseXE w X e w' ∧ Reads tb s X := by
 by_cases hc : (Lx.lexAll s.data.toList).1.length ≤ 8000
 ·refine (parseX_any s tb tp w hT hm hc).mono fun e w' h => ⟨_, h.1, fun h0 => ?_⟩
  obtain ⟨ks, q, h1, h2, h3⟩ := Mcr.parse_good h.2 h0;exact ⟨ks, q, h1, h2, h3⟩
 ·refine (parseX_over s tp w hm (by omega)).mono fun e w' h => ?_
  obtain ⟨p, hp⟩ := h;exact ⟨_, hp, fun h0 => by cases h0⟩
theorem parse_law (s : ByteArray) (tb : Mcr.Table) (tp : Option Addr) (w : World) (hT : TabV w w.heap.size tb (.pointer tp)) (hm : s.size ≤ 4000) : Calls Tryz.prog 7 #[.string s, .pointer tp] w fun e w' => ParseXE w (Mcr.parseF tb s.data.toList) e w' := by
 have hc := Lx.lexAll_count s.data.toList;have hl : s.data.toList.length = s.size := by simp
 exact (parseX_any s tb tp w hT (by omega) (by omega)).mono fun e w' h => h.1
theorem join_three (l s r : ByteArray) : l ++ (⟨#[32]⟩ : ByteArray) ++ s ++ (⟨#[32]⟩ : ByteArray) ++ r = ⟨(l.data.toList ++ 32 :: (s.data.toList ++ 32 :: r.data.toList)).toArray⟩ := by
 apply ByteArray.ext
 simp [ByteArray.data_append]
theorem placed_any (T : Mcr.Table) (tp : Option Addr) (s l r : ByteArray) (ks : List Nd) (A : Option Addr) (cap : Nat) (w : World) (hT : TabV w w.heap.size T (.pointer tp)) (hz : l.size + s.size + r.size ≤ 3900) (hr : RepL w ks (.slice A ks.length cap)) (hc : Tr.countL ks ≤ 100000)
  (hlaw : Tr.valid (Np.slot ks) = true → Mcr.parseF T (l.data.toList ++ 32 :: (s.data.toList ++ 32 :: r.data.toList)) = (Np.slot ks, 0, 0)) :
  Calls Tryz.prog 9 #[.pointer tp, .string s, .agg #[.string l, .string r], .slice A ks.length cap] w fun e w' => e = .returned (.bool true) ∧ Fresh w w' := by
 have hj : (l.data.toList ++ 32 :: (s.data.toList ++ 32 :: r.data.toList)).length = l.size + s.size + r.size + 2 := by
  rw [List.length_append, List.length_cons, List.length_append, List.length_cons, show l.data.toList.length = l.size by simp, show s.data.toList.length = s.size by simp, show r.data.toList.length = r.size by simp]; omega
 have HP := hid (fun (w' : World) (hf : Fresh w w') => parse_law ⟨(l.data.toList ++ 32 :: (s.data.toList ++ 32 :: r.data.toList)).toArray⟩ T tp w' ((hT.up hf.size).fresh hf) (by show (l.data.toList ++ 32 :: (s.data.toList ++ 32 :: r.data.toList)).toArray.size ≤ _; rw [List.size_toArray]; omega));have e0 : (⟨(l.data.toList ++ 32 :: (s.data.toList ++ 32 :: r.data.toList)).toArray⟩ : ByteArray).data.toList = l.data.toList ++ 32 :: (s.data.toList ++ 32 :: r.data.toList) := rfl;rw [e0] at HP;have HJ := hid (join_three l s r);generalize l.data.toList ++ 32 :: (s.data.toList ++ 32 :: r.data.toList) = J at HP HJ hlaw;generalize Mcr.parseF T J = X at HP hlaw;have HL := hid hlaw;have HR := hid hr;have HC := hid hc;clear hlaw hr hc hT hj e0;refine Calls.via fun Q hQ => ?_
 have HQ := hid hQ;clear hQ;obtain ⟨n, hn⟩ : ∃ n, n = ks.length := ⟨_, rfl⟩;have HN := hid hn;rw [← hn] at HR ⊢;clear hn;go_enter Tryz.func9, Tryz.ntmps9;go_wp2_with fail
 rw [HJ.out];refine (HP.out _ ((Touch.refl _ _).alloc _)).mono ?_;rintro _ w1 ⟨AP, cp, rfl, hr1, hf1⟩;have HFA := hid (((Touch.refl (fun _ => False) w).alloc (.cells #[.string l, .string r] 24)).trans hf1);have HRP := hid hr1.rep;clear hf1 hr1 HP HJ;obtain ⟨⟨nk, nt, nc, nks⟩, iX, eX⟩ := X;unfold nv;simp only [Nd.kind, Nd.text, Nd.cols, Nd.kids] at *;go_wp2_with fail
 have HFB := hid (HFA.out.alloc (.cells #[.int .i64 nk, .string ⟨nt.toArray⟩, .int .i64 nc, .slice AP nks.length cp] 35));have HBP := hid (Blk.new w1 35 #[.int .i64 nk, .string ⟨nt.toArray⟩, .int .i64 nc, .slice AP nks.length cp]);have HRP1 := hid (HRP.out.fresh ((Touch.refl _ w1).alloc (.cells #[.int .i64 nk, .string ⟨nt.toArray⟩, .int .i64 nc, .slice AP nks.length cp] 35)));generalize w1.heap.size = gP at HBP ⊢;generalize w1.alloc (.cells #[.int .i64 nk, .string ⟨nt.toArray⟩, .int .i64 nc, .slice AP nks.length cp] 35) = W0 at HFB HBP HRP1 ⊢;clear HFA HRP;rw [HN.out] at HR ⊢;refine (validItems_any ks A cap W0 (HR.out.fresh HFB.out) HC.out).mono ?_;rintro _ w2 ⟨rfl, hf2⟩;have HF2 := hid (HFB.out.trans hf2);have HBP2 := hid (hf2.blk HBP.out fun h => h);have HRP2 := hid (HRP1.out.fresh hf2);clear hf2 HFB HBP HRP1;cases hv : Tr.valid (Np.slot ks) with
 | false =>
  go_wp2_with fail
  exact HQ.out _ _ ⟨rfl, HF2.out⟩
 | true =>
  have hx := HL.out hv;unfold Np.slot at hx;simp only [Prod.mk.injEq, Nd.mk.injEq] at hx;obtain ⟨⟨rfl, rfl, rfl, rfl⟩, rfl, rfl⟩ := hx;obtain ⟨x0, x1, x2, x3, _⟩ := Blk.four HBP2.out;go_wp2_with fail
  refine (sameItems_any _ _ _ _ _ HRP2.out (HR.out.fresh HF2.out)).mono ?_;rintro _ w3 ⟨rfl, hf3⟩;rw [eqL_self];have HF3 := hid (HF2.out.trans hf3);clear hf3;go_wp2_with fail
  exact HQ.out _ _ ⟨rfl, HF3.out⟩
end Go.Proofs.YtomibmenojdieaaGreat
