/- Part 39 of 42 of a proof; its texts, joined: NmH, NmI, NmK, NuL, NmO. No condition. -/
import Derived.Test.YtomibmenojdieaaGreatXx38
import Derived.Test.YtomibmenojdieaaGreatXx36
import Derived.Test.YtomibmenojdieaaGreatXx2
import Derived.Test.YtomibmenojdieaaGreatXx1
set_option maxRecDepth 100000
namespace Go.Proofs.YtomibmenojdieaaGreat.Mcr
open Lx (PTok)
open Tr (Nd sFrac sRoot sMatrix)
open Np (place isM leafOf slot accented special isBreak colN stops Al)
theorem Cond.back {d : Nat} {r t : St} (h : Cond d t) (hn : r.n ≤ t.n) (hb : r.b = true → t.b = true) : Cond d r := by
 refine ⟨?_, h.2.imp id fun h => by omega⟩;cases e : r.b with
 | false => rfl
 | true => have := hb e; rw [h.1] at this; cases this
theorem row_join {E E' : En} {m : List PTok} (hP : E'.P = E.P) (ht : E'.tb = E.tb) (hm : NoMark m) {d N : Nat} {op' : List Nat} {ks2 : List Nd} {P : St → Prop} : ∀ (f : Nat) (s : St) (ks : List Nd) (r : St), pRow E f [] s = .ok ks r → r.l = [] → Cond d r →
  (∀ r', Join m d r r' → ∀ F, N ≤ F → ∃ t, pRow E' F op' r' = .ok ks2 t ∧ P t) → ∀ s', Join m d s s' → ∀ F, f + N ≤ F → ∃ t, pRow E' F op' s' = .ok (ks ++ ks2) t ∧ P t
 | 0, _, _, _, h, _, _, _, _, _, _, _ => by rw [pRow] at h; cases h
 | f + 1, s, ks, r, h, hr, hc, hk, s', hj, F, hF => by
  rw [pRow] at h;have e0 : ¬ (s.l.isEmpty = true ∧ ([] : List Nat) ≠ []) := fun h => h.2 rfl
  rw [if_neg e0] at h
  by_cases he : s.l = []
  ·have e1 : s.l.isEmpty = true ∨ stops s.l = true := .inl (by rw [he]; rfl)
   rw [if_pos e1] at h;cases h;exact hk s' hj F (by omega)
  ·by_cases hs : stops s.l = true
   ·have e1 : s.l.isEmpty = true ∨ stops s.l = true := .inr hs
    rw [if_pos e1] at h;cases h;exact absurd hr he
   ·have e1 : ¬ (s.l.isEmpty = true ∨ stops s.l = true) := fun h => h.elim (fun h => he (List.isEmpty_iff.1 h)) hs
    rw [if_neg e1] at h;obtain ⟨more, q, h1, h2⟩ := bind_got h;obtain ⟨items, h3, h4⟩ := map_got h2;obtain ⟨u1, u2⟩ := ((acc_all E f).row [] q).up _ _ h3;obtain ⟨F', rfl⟩ : ∃ F', F = F' + 1 := ⟨F - 1, by omega⟩;obtain ⟨q', k1, k2⟩ := (ext E E' m hP ht hm f).item d F' [] op' s s' (by omega) he hj _ _ h1 (hc.back u1 u2);obtain ⟨t, k3, k4⟩ := row_join hP ht hm f q items r h3 hr hc hk q' k2 F' (by omega);have he' := hj.ne he;rw [pRow];have e2 : ¬ (s'.l.isEmpty = true ∧ op' ≠ []) := fun h => he' (List.isEmpty_iff.1 h.1)
    have e3 : ¬ (s'.l.isEmpty = true ∨ stops s'.l = true) := fun h => h.elim (fun h => he' (List.isEmpty_iff.1 h)) (fun h => hs (by rw [← hj.stops he]; exact h))
    rw [if_neg e2, if_neg e3, k1];refine ⟨t, ?_, k4⟩;show (pRow E' F' op' q').map _ = _;rw [k3, ← h4];show R.ok (more ++ (items ++ ks2)) t = _;rw [List.append_assoc]
def IsMark (b : UInt8) (t : PTok) : Prop := t.kind = 7 ∧ t.text = [b]
theorem IsMark.isM {b : UInt8} {t : PTok} {l : List PTok} (h : IsMark b t) : Np.isM b (t :: l) = true := by simp [Np.isM, h.1, h.2]
theorem IsMark.isN {b c : UInt8} {t : PTok} {l : List PTok} (h : IsMark b t) (hc : b ≠ c) : Np.isM c (t :: l) = false := by simp [Np.isM, h.1, h.2, hc]
theorem IsMark.leaf {b : UInt8} {t : PTok} (h : IsMark b t) (P : Nat) : leafP P t = none := by
 unfold leafP leafOf;rw [h.1];simp
theorem arg_braces {E0 E : En} (hP : E.P = E0.P) (ht : E.tb = E0.tb) {f : Nat} {ts : List PTok} {ks : List Nd} {r : St} (h : pRow E0 f [] ⟨ts, 0, false⟩ = .ok ks r) (hr : r.l = []) (hb : r.b = false)
  {o c : PTok} (ho : IsMark 123 o) (hc : IsMark 125 c) {rest l : List PTok} (hl : Al (o :: (ts ++ c :: rest)) l) (op : List Nat) (F : Nat) (hF : f + 3 ≤ F) :
  ∃ q, pArg E F op ⟨l, 0, false⟩ = .ok (slot ks) q ∧ Al rest q.l ∧ q.b = false := by
 obtain ⟨o', l', rfl, h1, h2, h3⟩ := hl.cons;have ho' : IsMark 123 o' := ⟨by rw [← h1]; exact ho.1, by rw [← h2]; exact ho.2⟩;obtain ⟨F2, rfl⟩ : ∃ F2, F = F2 + 1 + 1 := ⟨F - 2, by omega⟩;have hmm : NoMark (c :: rest) := ⟨hc.isN (by decide), hc.isN (by decide)⟩
 have key : ∀ r' : St, Join (c :: rest) 0 r r' → ∀ G, 1 ≤ G → ∃ t, pRow E G (op ++ [place E.en (o' :: l')]) r' = .ok [] t ∧ (Al (c :: rest) t.l ∧ t.b = false) := by
  intro r' hj G hG;obtain ⟨G, rfl⟩ : ∃ g, G = g + 1 := ⟨G - 1, by omega⟩;have ha := hj.al;rw [hr, List.nil_append] at ha
  have hst : stops r'.l = true := by
   rw [← ha.stops];unfold stops;simp [hc.isM]
  have hne : r'.l ≠ [] := by
   obtain ⟨c', l2, e, _⟩ := ha.cons;rw [e]; simp
  rw [pRow];have e1 : ¬ (r'.l.isEmpty = true ∧ op ++ [place E.en (o' :: l')] ≠ []) := fun h => hne (List.isEmpty_iff.1 h.1)
  have e2 : r'.l.isEmpty = true ∨ stops r'.l = true := .inr hst;rw [if_neg e1, if_pos e2];exact ⟨r', rfl, ha, hj.b'⟩
 obtain ⟨t, k1, k2, k3⟩ := row_join (E := E0) (E' := E) (m := c :: rest) hP ht hmm f ⟨ts, 0, false⟩ ks r h hr ⟨hb, .inl rfl⟩ key ⟨l', 0, false⟩ ⟨h3, rfl, rfl, rfl⟩ F2 (by omega);rw [pArg.eq_def];simp only [ho'.leaf, ho'.isM, if_true];rw [pIn];have hup : (St.mk (o' :: l') 0 false).up = ⟨l', 0, false⟩ := rfl;rw [hup, k1];refine ⟨t.up, ?_, ?_, k3⟩
 ·show R.map (if Np.isM 125 t.l = true then R.ok (ks ++ []) t.up else refuse E t) slot = _
  rw [if_pos (by rw [← k2.isM]; exact hc.isM), List.append_nil];rfl
 ·exact k2.tail
end Go.Proofs.YtomibmenojdieaaGreat.Mcr
namespace Go.Proofs.YtomibmenojdieaaGreat.Mcr
open Lx (PTok)
open Tr (Nd sFrac sRoot sMatrix)
open Np (place isM leafOf slot accented special isBreak colN stops Al)
inductive Braced (tb : Table) : List (List Nd) → List PTok → Prop where
 | nil : Braced tb [] []
 | cons (en f : Nat) (ts : List PTok) (ks : List Nd) (r : St) (o c : PTok) (as_ : List (List Nd)) (l : List PTok) (h : pRow ⟨en, 0, tb⟩ f [] ⟨ts, 0, false⟩ = .ok ks r) (hr : r.l = []) (hb : r.b = false) (ho : IsMark 123 o) (hc : IsMark 125 c) (h2 : Braced tb as_ l) : Braced tb (ks :: as_) (o :: (ts ++ c :: l))
theorem fill_braces {E : En} (hP : E.P = 0) {as_ : List (List Nd)} {l : List PTok} (h : Braced E.tb as_ l) (op : List Nat) : ∃ N, ∀ (rest : List PTok) (done : List Nd) (s : St), Al (l ++ rest) s.l → ∀ F, N ≤ F → ∃ q, pFill E F as_.length op true done s = .ok (true, done ++ as_.map slot) q ∧ Al rest q.l := by
 induction h with
 | nil =>
  refine ⟨1, fun rest done s hs F hF => ?_⟩;obtain ⟨F, rfl⟩ : ∃ g, F = g + 1 := ⟨F - 1, by omega⟩;rw [List.length_nil, pFill];exact ⟨s, by simp, hs⟩
 | cons en f ts ks r o c as_ l h hr hb ho hc h2 ih =>
  obtain ⟨N, ih⟩ := ih;refine ⟨N + f + 4, fun rest done s hs F hF => ?_⟩;obtain ⟨F, rfl⟩ : ∃ g, F = g + 1 := ⟨F - 1, by omega⟩;rw [List.length_cons, pFill];have hs' : Al (o :: (ts ++ c :: (l ++ rest))) s.l := by simpa using hs
  obtain ⟨q, k1, k2, k3⟩ := arg_braces (E0 := ⟨en, 0, E.tb⟩) (E := E) hP rfl h hr hb ho hc hs' op F (by omega);rw [k1];obtain ⟨q2, k4, k5⟩ := ih rest (done ++ [slot ks]) q k2 F (by omega);refine ⟨q2, ?_, k5⟩;show pFill E F as_.length op (true && !q.b) (done ++ [slot ks]) q = _;rw [k3];simp only [Bool.not_false, Bool.and_self];rw [k4];simp
def IsName (s : Bytes) (t : PTok) : Prop := t.kind = 4 ∧ t.text = s
theorem prim_macro {E : En} (hP : E.P = 0) {as_ : List (List Nd)} {l : List PTok} (h : Braced E.tb as_ l) {nm : Bytes} {mc : Mac} (hg : getF E.tb nm = some mc) (hp : mc.params = as_.length) (hs : special nm = false)
  {fd : Nd} (hx : expandF E.tb nm (as_.map slot) = (fd, 0)) {t : PTok} (ht : IsName nm t) (op : List Nat) : ∃ N, ∀ (rest : List PTok) (s : St), Al (t :: (l ++ rest)) s.l → s.b = false → s.n + (Tr.count fd - 1) ≤ 1000 → ∀ F, N ≤ F →
  ∃ q, pPrim E F op s = .ok fd.kids q ∧ Al rest q.l ∧ q.n = s.n + (Tr.count fd - 1) ∧ q.b = false := by
 obtain ⟨N, hf⟩ := fill_braces hP h op;refine ⟨N + 4, fun rest s hs' hb hn F hF => ?_⟩;obtain ⟨F, rfl⟩ : ∃ g, F = g + 1 + 1 + 1 := ⟨F - 3, by omega⟩;obtain ⟨t', l', e, h1, h2, h3⟩ := hs'.cons;obtain ⟨q, k1, k2⟩ := hf rest [] s.up (by show Al _ s.l.tail; rw [e]; exact h3) F (by omega);have hk : t'.kind = 4 := by rw [← h1]; exact ht.1
 have hx' : t'.text = nm := by rw [← h2]; exact ht.2
 have hlf : leafP E.P t' = none := by unfold leafP leafOf; rw [hk]; simp
 unfold special at hs;simp only [Bool.or_eq_false_iff, beq_eq_false_iff_ne, ne_eq] at hs;obtain ⟨⟨⟨s1, s2⟩, s3⟩, s4⟩ := hs;rw [pPrim.eq_def];simp only [e, hlf, hk, if_true];rw [pName, hx', if_neg s1, if_neg s2, if_neg s3, if_neg (by rw [s4]; simp), hg];simp only
 rw [pMac, hp, k1];refine ⟨⟨q.l, s.n + (Tr.count fd - 1), s.b⟩, ?_, k2, rfl, hb⟩;show expandS E t' s.n s.b true ([] ++ as_.map slot) q = _;rw [List.nil_append];unfold expandS;rw [hx', hx, if_neg (by simp), if_neg (by simp), if_neg (by show ¬ 1000 < s.n + (Tr.count fd - 1); omega)]
theorem item_macro {E : En} (hP : E.P = 0) {as_ : List (List Nd)} {l : List PTok} (h : Braced E.tb as_ l) {nm : Bytes} {mc : Mac} (hg : getF E.tb nm = some mc) (hp : mc.params = as_.length) (hs : special nm = false)
  {fd : Nd} (hx : expandF E.tb nm (as_.map slot) = (fd, 0)) {t : PTok} (ht : IsName nm t) (op : List Nat) : ∃ N, ∀ (rest : List PTok) (s : St), NoMark rest → Al (t :: (l ++ rest)) s.l → s.b = false → s.n + (Tr.count fd - 1) ≤ 1000 → ∀ F, N ≤ F →
  ∃ q, pItem E F op s = .ok fd.kids q ∧ Al rest q.l ∧ q.n = s.n + (Tr.count fd - 1) ∧ q.b = false := by
 obtain ⟨N, hf⟩ := prim_macro hP h hg hp hs hx ht op;refine ⟨N + 3, fun rest s hm hs' hb hn F hF => ?_⟩;obtain ⟨F, rfl⟩ : ∃ g, F = g + 1 + 1 := ⟨F - 2, by omega⟩;obtain ⟨q, k1, k2, k3, k4⟩ := hf rest s hs' hb hn (F + 1) (by omega)
 have hg123 : isM 123 s.l = false := by
  rw [← hs'.isM];show (t.kind == 7 && t.text == [123]) = false;rw [ht.1];rfl
 have n95 : ¬ isM 95 q.l = true := by rw [← k2.isM, hm.1]; simp
 have n94 : ¬ isM 94 q.l = true := by rw [← k2.isM, hm.2]; simp
 have sc : ∀ b, ¬ isM b q.l = true → pScript E (F + 1) b op q = .ok none q := fun b hb => by rw [pScript, if_neg hb]
 rw [pItem, k1];refine ⟨q, ?_, k2, k3, k4⟩;simp only [R.bind, sc 95 n95, sc 94 n94, hg123];rfl
theorem item_script {E : En} (hP : E.P = 0) {as_ : List (List Nd)} {l : List PTok} (h : Braced E.tb as_ l) {nm : Bytes} {mc : Mac} (hg : getF E.tb nm = some mc) (hp : mc.params = as_.length) (hs : special nm = false)
  {fd : Nd} (hx : expandF E.tb nm (as_.map slot) = (fd, 0)) {t u v : PTok} (ht : IsName nm t) (hu : IsMark 94 u) (hv : v.kind = 2 ∧ v.text = [50]) (op : List Nat) : ∃ N, ∀ (s : St), Al (t :: (l ++ [u, v])) s.l → s.b = false → s.n + (Tr.count fd - 1) ≤ 1000 → ∀ F, N ≤ F →
  ∃ q, pItem E F op s = .ok [.mk 8 [] 0 [slot fd.kids, slot [.mk 3 [50] 0 []]]] q ∧ q.l = [] ∧ q.b = false := by
 obtain ⟨N, hf⟩ := prim_macro hP h hg hp hs hx ht op;refine ⟨N + 4, fun s hs' hb hn F hF => ?_⟩;obtain ⟨F, rfl⟩ : ∃ g, F = g + 1 + 1 + 1 := ⟨F - 3, by omega⟩;obtain ⟨q, k1, k2, k3, k4⟩ := hf [u, v] s hs' hb hn (F + 2) (by omega)
 have hg123 : isM 123 s.l = false := by
  rw [← hs'.isM];show (t.kind == 7 && t.text == [123]) = false;rw [ht.1];rfl
 obtain ⟨u', l', e1, _, _, h3⟩ := k2.cons;obtain ⟨v', l2, rfl, v1, v2, h4⟩ := h3.cons;have hl2 : l2 = [] := h4.nil;subst hl2;have n95 : ¬ isM 95 q.l = true := by rw [← k2.isM, hu.isN (by decide)]; simp
 have n94 : isM 94 q.l = true := by rw [← k2.isM]; exact hu.isM
 have hlf : leafP E.P v' = some (.mk 3 [50] 0 []) := by unfold leafP leafOf; rw [← v1, ← v2, hv.1, hv.2]; simp
 have hup : q.up = ⟨[v'], q.n, q.b⟩ := by unfold St.up; rw [e1]; rfl
 have p95 : pScript E (F + 2) 95 op q = .ok none q := by rw [pScript, if_neg n95]
 have p94 : pScript E (F + 2) 94 op q = .ok (some (slot [.mk 3 [50] 0 []])) ⟨[], q.n, q.b⟩ := by
  rw [pScript, if_pos n94, hup, pArg.eq_def];simp only [hlf];rfl
 have p95' : pScript E (F + 2) 95 op ⟨[], q.n, q.b⟩ = .ok none ⟨[], q.n, q.b⟩ := by rw [pScript, if_neg (by simp [isM])]
 rw [pItem, k1];refine ⟨⟨[], q.n, q.b⟩, ?_, rfl, k4⟩;simp only [R.bind, p95, p94, hg123];simp only [Option.isSome_some, Option.isNone_none, Bool.and_self, if_true, p95'];rfl
theorem row_noMark (E : En) (f : Nat) (l : List PTok) (n : Nat) (b : Bool) (a : List Nd) (r : St) (h : pRow E f [] ⟨l, n, b⟩ = .ok a r) (hr : r.l = []) : NoMark l := by
 cases l with
 | nil => exact ⟨rfl, rfl⟩
 | cons t l =>
  cases f with
  | zero => rw [pRow] at h; cases h
  | succ f =>
   rw [pRow, if_neg (by simp)] at h;split at h
   ·cases h; cases hr
   ·obtain ⟨x, s, h1, _⟩ := bind_got h
    cases f with
    | zero => rw [pItem] at h1; cases h1
    | succ f =>
     rw [pItem] at h1;obtain ⟨y, s1, h2, _⟩ := bind_got h1;cases f with
     | zero => rw [pPrim] at h2; cases h2
     | succ f =>
      have key : ∀ b : UInt8, (b = 95 ∨ b = 94) → isM b (t :: l) = false := by
       intro b hb;cases hi : isM b (t :: l) with
       | false => rfl
       | true =>
        exfalso
        have h7 : t.kind = 7 ∧ t.text = [b] := by simpa [isM] using hi
        have hm : IsMark b t := h7;rw [pPrim.eq_def] at h2;simp only [hm.leaf, h7.1] at h2;rw [if_neg (by omega), if_neg (by omega), hm.isN (by rcases hb with rfl | rfl <;> decide), hm.isN (by rcases hb with rfl | rfl <;> decide), hm.isN (by rcases hb with rfl | rfl <;> decide)] at h2;simp only [Bool.false_eq_true, if_false] at h2;cases h2
      exact ⟨key 95 (.inl rfl), key 94 (.inr rfl)⟩
theorem row_end {E : En} {F : Nat} (hF : 1 ≤ F) {s : St} (hs : s.l = []) : pRow E F [] s = .ok [] s := by
 obtain ⟨F, rfl⟩ : ∃ g, F = g + 1 := ⟨F - 1, by omega⟩;have e0 : ¬ (s.l.isEmpty = true ∧ ([] : List Nat) ≠ []) := fun h => h.2 rfl
 have e1 : s.l.isEmpty = true ∨ stops s.l = true := .inl (by rw [hs]; rfl);rw [pRow, if_neg e0, if_pos e1]
theorem row_item {E : En} {F : Nat} {s q t : St} {a b : List Nd} (hne : s.l ≠ []) (hst : stops s.l = false) (h1 : pItem E F [] s = .ok a q) (h2 : pRow E F [] q = .ok b t) : pRow E (F + 1) [] s = .ok (a ++ b) t := by
 have e0 : ¬ (s.l.isEmpty = true ∧ ([] : List Nat) ≠ []) := fun h => h.2 rfl
 have e1 : ¬ (s.l.isEmpty = true ∨ stops s.l = true) := fun h => h.elim (fun h => hne (List.isEmpty_iff.1 h)) (fun h => by rw [hst] at h; cases h)
 rw [pRow, if_neg e0, if_neg e1, h1];show (pRow E F [] q).map _ = _;rw [h2];rfl
theorem IsName.goes {nm : Bytes} {t : PTok} {l l' : List PTok} (h : IsName nm t) (ha : Al (t :: l) l') : l' ≠ [] ∧ stops l' = false := by
 obtain ⟨t', r, e, _⟩ := ha.cons;refine ⟨by rw [e]; simp, ?_⟩;rw [← ha.stops];simp [stops, isBreak, isM, h.1]
theorem row_placed {E : En} (hP : E.P = 0) {as_ : List (List Nd)} {l : List PTok} (h : Braced E.tb as_ l) {nm : Bytes} {mc : Mac} (hg : getF E.tb nm = some mc) (hp : mc.params = as_.length) (hs : special nm = false)
  {fd : Nd} (hx : expandF E.tb nm (as_.map slot) = (fd, 0)) {t : PTok} (ht : IsName nm t) {en0 f0 en1 f1 : Nat} {tl tr : List PTok} {kl kr : List Nd} {rl rr : St}
  (hl : pRow ⟨en0, 0, E.tb⟩ f0 [] ⟨tl, 0, false⟩ = .ok kl rl) (hl1 : rl.l = []) (hl2 : rl.b = false) (hr : pRow ⟨en1, 0, E.tb⟩ f1 [] ⟨tr, 0, false⟩ = .ok kr rr) (hr1 : rr.l = []) (hr2 : rr.b = false)
  (hn : rl.n + (Tr.count fd - 1) + rr.n ≤ 1000) : ∃ N, ∀ L, Al (tl ++ t :: (l ++ tr)) L → ∀ F, N ≤ F → ∃ q, pRow E F [] ⟨L, 0, false⟩ = .ok (kl ++ (fd.kids ++ kr)) q ∧ (q.l = [] ∧ q.b = false) := by
 obtain ⟨N, hi⟩ := item_macro hP h hg hp hs hx ht [];have hnm : NoMark (t :: (l ++ tr)) := by constructor <;> simp [isM, ht.1]
 have hnr := row_noMark _ _ _ _ _ _ _ hr hr1;refine ⟨f0 + (N + f1 + 2), fun L hL F hF => ?_⟩;refine row_join (E := ⟨en0, 0, E.tb⟩) (E' := E) (m := t :: (l ++ tr)) (d := 0) (N := N + f1 + 2) hP rfl hnm f0 ⟨tl, 0, false⟩ kl rl hl hl1 ⟨hl2, .inl rfl⟩ (fun r' hj G hG => ?_) ⟨L, 0, false⟩ ⟨hL, rfl, rfl, rfl⟩ F hF;obtain ⟨G, rfl⟩ : ∃ g, G = g + 1 := ⟨G - 1, by omega⟩;have ha := hj.al;rw [hl1, List.nil_append] at ha;obtain ⟨g1, g2⟩ := ht.goes ha;have hrn : r'.n = rl.n := hj.n;obtain ⟨q, k1, k2, k3, k4⟩ := hi tr r' hnr ha hj.b' (by omega) G (by omega)
 obtain ⟨q2, k5, k6⟩ := row_join (E := ⟨en1, 0, E.tb⟩) (E' := E) (m := []) (d := rl.n + (Tr.count fd - 1)) (N := 1) (op' := []) (ks2 := []) (P := fun q => q.l = [] ∧ q.b = false) hP rfl ⟨rfl, rfl⟩ f1 ⟨tr, 0, false⟩ kr rr hr hr1 ⟨hr2, .inr (by omega)⟩ (fun r2 hj2 G2 hG2 => by
  have ha2 := hj2.al;rw [hr1] at ha2;have he : r2.l = [] := ha2.nil;exact ⟨r2, row_end hG2 he, he, hj2.b'⟩) q ⟨by rw [List.append_nil]; exact k2, by show q.n = 0 + _; omega, rfl, k4⟩ G (by omega)
 rw [List.append_nil] at k5;exact ⟨q2, row_item g1 g2 k1 k5, k6⟩
end Go.Proofs.YtomibmenojdieaaGreat.Mcr
namespace Go.Proofs.YtomibmenojdieaaGreat.Mcr
open Lx (PTok)
open Tr (Nd sFrac sRoot sMatrix)
open Np (place isM leafOf slot accented special isBreak colN stops Al)
theorem R.bind_mono {α β : Type} {x x' : R α} {k k' : α → St → R β} (hx : x ≠ .out → x' = x) (hk : ∀ a r, k a r ≠ .out → k' a r = k a r) (h : x.bind k ≠ .out) : x'.bind k' = x.bind k := by
 have hx' : x ≠ .out := fun e => h (by rw [e]; rfl)
 rw [hx hx'];cases x with
 | ok a r => exact hk a r h
 | err i e => rfl
 | out => exact absurd rfl hx'
theorem R.map_mono {α β : Type} {x x' : R α} {k : α → β} (hx : x ≠ .out → x' = x) (h : x.map k ≠ .out) : x'.map k = x.map k := R.bind_mono hx (fun _ _ _ => rfl) h
theorem ite_mono {α : Type} {c : Prop} [Decidable c] {a a' b b' : R α} (ha : a ≠ .out → a' = a) (hb : b ≠ .out → b' = b) (h : (if c then a else b) ≠ .out) : (if c then a' else b') = if c then a else b := by
 by_cases hc : c
 ·rw [if_pos hc] at h ⊢; rw [if_pos hc]; exact ha h
 ·rw [if_neg hc] at h ⊢; rw [if_neg hc]; exact hb h
structure Mono (E : En) (f : Nat) : Prop where
 row : ∀ op s, pRow E f op s ≠ .out → pRow E (f + 1) op s = pRow E f op s
 within : ∀ b op s, pIn E f b op s ≠ .out → pIn E (f + 1) b op s = pIn E f b op s
 arg : ∀ op s, pArg E f op s ≠ .out → pArg E (f + 1) op s = pArg E f op s
 args : ∀ n op s, pArgs E f n op s ≠ .out → pArgs E (f + 1) n op s = pArgs E f n op s
 fill : ∀ n op z as_ s, pFill E f n op z as_ s ≠ .out → pFill E (f + 1) n op z as_ s = pFill E f n op z as_ s
 mac : ∀ n op t s, pMac E f n op t s ≠ .out → pMac E (f + 1) n op t s = pMac E f n op t s
 script : ∀ b op s, pScript E f b op s ≠ .out → pScript E (f + 1) b op s = pScript E f b op s
 item : ∀ op s, pItem E f op s ≠ .out → pItem E (f + 1) op s = pItem E f op s
 prim : ∀ op s, pPrim E f op s ≠ .out → pPrim E (f + 1) op s = pPrim E f op s
 name : ∀ op t s, pName E f op t s ≠ .out → pName E (f + 1) op t s = pName E f op t s
 cells : ∀ op ks b c s, pCells E f op ks b c s ≠ .out → pCells E (f + 1) op ks b c s = pCells E f op ks b c s
theorem mono (E : En) : ∀ f, Mono E f
 | 0 => by
  constructor
  ·intro op l h; exact absurd (by rw [pRow]) h
  ·intro b op l h; exact absurd (by rw [pIn]) h
  ·intro op l h; exact absurd (by rw [pArg]) h
  ·intro n op l h; exact absurd (by rw [pArgs]) h
  ·intro n op z as_ l h; exact absurd (by rw [pFill]) h
  ·intro n op t l h; exact absurd (by rw [pMac]) h
  ·intro b op l h; exact absurd (by rw [pScript]) h
  ·intro op l h; exact absurd (by rw [pItem]) h
  ·intro op l h; exact absurd (by rw [pPrim]) h
  ·intro op t r h; exact absurd (by rw [pName]) h
  ·intro op ks b c l h; exact absurd (by rw [pCells]) h
 | f + 1 => by
  have ih := mono E f;constructor
  ·intro op l h
   rw [pRow] at h;rw [pRow, pRow];exact ite_mono (fun _ => rfl) (fun h => ite_mono (fun _ => rfl) (fun h => R.bind_mono (ih.item op l) (fun a r h => R.map_mono (ih.row op r) h) h) h) h
  ·intro b op l h
   rw [pIn] at h;rw [pIn, pIn];exact R.bind_mono (ih.row _ _) (fun _ _ _ => rfl) h
  ·intro op s h
   rw [pArg.eq_def] at h;rw [pArg.eq_def, pArg.eq_def];cases hl : s.l with
   | nil => simp only [hl]
   | cons t r =>
    simp only [hl] at h ⊢;cases hf : leafP E.P t with
    | some x => rfl
    | none =>
     simp only [hf] at h ⊢;refine ite_mono (fun h => R.map_mono (ih.within _ _ _) h) (fun h => ite_mono (fun h => ?_) (fun _ => rfl) h) h;cases hg : getF E.tb t.text with
     | none => rfl
     | some m =>
      simp only [hg] at h ⊢;exact ite_mono (fun _ => rfl) (fun h => R.map_mono (ih.mac 0 op t s.up) h) h
  ·intro n op l h
   cases n with
   | zero => rw [pArgs, pArgs]
   | succ n =>
    rw [pArgs] at h;rw [pArgs, pArgs];exact R.bind_mono (ih.arg op l) (fun a r h => R.map_mono (ih.args n op r) h) h
  ·intro n op z as_ l h
   cases n with
   | zero => rw [pFill, pFill]
   | succ n =>
    rw [pFill] at h;rw [pFill, pFill];exact R.bind_mono (ih.arg op _) (fun a r h => ih.fill n op _ _ r h) h
  ·intro n op t l h
   rw [pMac] at h;rw [pMac, pMac];exact R.bind_mono (ih.fill n op true [] l) (fun _ _ _ => rfl) h
  ·intro b op l h
   rw [pScript] at h;rw [pScript, pScript];exact ite_mono (fun h => R.map_mono (ih.arg op _) h) (fun _ => rfl) h
  ·intro op l h
   rw [pItem] at h;rw [pItem, pItem];exact R.bind_mono (ih.prim op l) (fun a r h => R.bind_mono (ih.script 95 op r) (fun sub r h => R.bind_mono (ih.script 94 op r) (fun sup r h => ite_mono (fun h => R.bind_mono (ih.script 95 op r) (fun _ _ _ => rfl) h) (fun _ => rfl) h) h) h) h
  ·intro op s h
   rw [pPrim.eq_def] at h;rw [pPrim.eq_def, pPrim.eq_def];cases hl : s.l with
   | nil => simp only [hl]
   | cons t r =>
    simp only [hl] at h ⊢;cases hf : leafP E.P t with
    | some x => rfl
    | none =>
     simp only [hf] at h ⊢;exact ite_mono (ih.name op t s.up) (fun h => ite_mono (fun h => R.map_mono (ih.args 1 op s.up) h) (fun h => ite_mono (fun h => R.map_mono (ih.within _ _ _) h) (fun h => ite_mono (fun h => R.map_mono (ih.within _ _ _) h) (fun h => ite_mono (ih.within _ _ _) (fun _ => rfl) h) h) h) h) h
  ·intro op t r h
   rw [pName] at h;rw [pName, pName]
   refine ite_mono (fun h => R.map_mono (ih.args 2 op r) h) (fun h => ite_mono (fun h => ite_mono (fun h => R.bind_mono (ih.within _ _ _) (fun d r h => R.map_mono (ih.args 1 op r) h) h) (fun h => R.map_mono (ih.args 1 op r) h) h)
    (fun h => ite_mono (fun h => ite_mono (fun h => R.map_mono (ih.cells _ _ _ _ _) h) (fun _ => rfl) h) (fun h => ite_mono (fun h => R.map_mono (ih.args 1 op r) h) (fun h => ?_) h) h) h) h
   cases hg : getF E.tb t.text with
   | none => rfl
   | some m =>
    simp only [hg] at h ⊢;exact ih.mac _ op t r h
  ·intro op ks b c l h
   rw [pCells] at h;rw [pCells, pCells];exact R.bind_mono (ih.row op l) (fun items r h => ite_mono (ih.cells _ _ _ _ _) (fun h => ite_mono (fun _ => rfl) (fun h => ite_mono (fun _ => rfl) (fun h => ite_mono (fun _ => rfl) (ih.cells _ _ _ _ _) h) h) h) h) h
theorem row_mono (E : En) (op : List Nat) (s : St) (f : Nat) (h : pRow E f op s ≠ .out) : ∀ n, pRow E (f + n) op s = pRow E f op s
 | 0 => rfl
 | n + 1 => by
  rw [← Nat.add_assoc, (mono E (f + n)).row op s (by rw [row_mono E op s f h n]; exact h), row_mono E op s f h n]
theorem parseT_of (E : En) (l : List PTok) (ks : List Nd) (h : ∃ N, ∀ F, N ≤ F → ∃ q, pRow E F [] ⟨l, 0, false⟩ = .ok ks q ∧ (q.l = [] ∧ q.b = false)) : ∃ q, parseT E l = .ok (ks, true) q := by
 obtain ⟨N, h⟩ := h;have hg := (good E (8 * l.length + 8)).row [] ⟨l, 0, false⟩ (by show 8 * l.length + 5 ≤ _; omega);have hne : pRow E (8 * l.length + 8) [] ⟨l, 0, false⟩ ≠ .out := fun e => by rw [e] at hg; exact hg
 have h1 := row_mono E [] ⟨l, 0, false⟩ _ hne N;obtain ⟨q, h2, h3, h4⟩ := h (8 * l.length + 8 + N) (by omega);rw [h2] at h1;refine ⟨q, ?_⟩;unfold parseT;rw [← h1];show (if q.l.isEmpty = true then R.ok (ks, !q.b) q else refuse E q) = _;rw [h3, h4];rfl
theorem parseT_row {E : En} {l : List PTok} {ks : List Nd} {q : St} (h : parseT E l = .ok (ks, true) q) : ∃ f r, pRow E f [] ⟨l, 0, false⟩ = .ok ks r ∧ r.l = [] ∧ r.b = false := by
 unfold parseT at h;obtain ⟨a, r, h1, h2⟩ := bind_got h;split at h2
 ·rename_i he
  have hb : r.b = false := by
   cases hb : r.b with
   | false => rfl
   | true => rw [hb] at h2; cases h2
  rw [hb] at h2;cases h2;exact ⟨_, _, h1, List.isEmpty_iff.1 he, hb⟩
 ·cases h2
end Go.Proofs.YtomibmenojdieaaGreat.Mcr
namespace Go.Proofs.YtomibmenojdieaaGreat.Lx
theorem drop_runLen (k : Nat) (r : Bytes) : headNot k (r.drop (runLen k r)) := by
 obtain ⟨y, _, _, h, e⟩ := runLen_split k r;rw [← e]; exact h
theorem next_munch (r : Bytes) (t : Tok) (n : Nat) (h : next r = .ok t n) : (t.kind = 2 → headNot 2 (r.drop n)) ∧ (t.kind = 4 → headNot 3 (r.drop n)) := by
 cases r with
 | nil => cases h
 | cons c q =>
  rw [next] at h;split at h
  ·obtain ⟨rfl, rfl⟩ := lim_ok h
   refine ⟨fun _ => ?_, fun hk => by simp only at hk; omega⟩;unfold numLen;split
   ·rw [← List.drop_drop]
    exact drop_runLen 2 _
   ·exact drop_runLen 2 _
  ·split at h
   ·cases h
    exact ⟨fun hk => by simp only at hk; omega, fun hk => by simp only at hk; omega⟩
   ·split at h
    ·have := (quo_spell _ _ _ _ _ h).1
     exact ⟨fun hk => by omega, fun hk => by omega⟩
    ·split at h
     ·cases h
      exact ⟨fun hk => by simp only at hk; omega, fun hk => by simp only at hk; omega⟩
     ·split at h
      ·unfold name at h
       simp only at h;split at h
       ·obtain ⟨rfl, rfl⟩ := lim_ok h
        refine ⟨fun hk => by simp only at hk; omega, fun _ => ?_⟩;rw [← List.drop_drop];exact drop_runLen 3 _
       ·split at h
        ·cases h
         exact ⟨fun hk => by simp only at hk; omega, fun hk => by simp only at hk; omega⟩
        ·cases h
      ·split at h
       ·cases h
        exact ⟨fun hk => by simp only at hk; omega, fun hk => by simp only at hk; omega⟩
       ·split at h
        ·cases h
         exact ⟨fun hk => by simp only at hk; omega, fun hk => by simp only at hk; omega⟩
        ·cases h
theorem skip_at (l p sp y : Bytes) (hl : l = p ++ (sp ++ y)) (hsp : sp.all (isB 1) = true) (hy : headNot 1 y) : skip l p.length = p.length + sp.length := by
 unfold skip;rw [runI_isB, hl, List.drop_left, runLen_app 1 sp y hsp hy]
theorem lex_step (l p sp : Bytes) (c : UInt8) (y : Bytes) (hl : l = p ++ (sp ++ c :: y)) (hsp : sp.all (isB 1) = true) (hc : isB 1 c = false) (hok : (lexFrom l p.length).2 = none) :
  ∃ t n, next (c :: y) = .ok t n ∧ (lexFrom l p.length).1.map tok = t :: (lexFrom l (p.length + sp.length + n)).1.map tok ∧ (lexFrom l (p.length + sp.length + n)).2 = none := by
 have hs : skip l p.length = p.length + sp.length := skip_at l p sp (c :: y) hl hsp (fun x hx => by cases hx; exact hc);have hlt : skip l p.length < l.length := by rw [hs, hl]; simp
 have hd : l.drop (skip l p.length) = c :: y := by
  rw [hs, hl, ← List.append_assoc];exact List.drop_left' (by simp)
 cases hn : next (l.drop (skip l p.length)) with
 | err i e => rw [lexFrom_err l _ i e hlt hn] at hok; cases hok
 | ok t n =>
  rw [lexFrom_ok l _ n t hlt hn] at hok ⊢;rw [hd] at hn;rw [hs] at hok ⊢;exact ⟨t, n, hn, rfl, hok⟩
end Go.Proofs.YtomibmenojdieaaGreat.Lx
namespace Go.Proofs.YtomibmenojdieaaGreat.Np
open Lx (Tok TokOK PTok isB headNot spell flat lexFrom)
theorem take_spell {r : List UInt8} {t : Tok} {n : Nat} (h : Lx.next r = .ok t n) : r.take n = spell t ∧ n = (spell t).length := by
 have h1 := Lx.next_spell r t n h;have h2 := Lx.next_pos r t n h;refine ⟨h1, ?_⟩;have := congrArg List.length h1;rw [List.length_take] at this;have e : (Lx.spellL t.kind t.text).length = (spell t).length := rfl;omega
end Go.Proofs.YtomibmenojdieaaGreat.Np
namespace Go.Proofs.YtomibmenojdieaaGreat.Lx
def After (o : Option Tok) (q : Bytes) : Prop := ∀ a, o = some a → (a.kind = 2 → headNot 2 q) ∧ (a.kind = 4 → headNot 3 q)
theorem join_after {a t : Tok} {q : Bytes} (ht : TokOK t) (h : (a.kind = 2 → headNot 2 (spell t ++ q)) ∧ (a.kind = 4 → headNot 3 (spell t ++ q))) : join a t = false := by
 obtain ⟨c, y, e, n1, n2, n3, n4, n5⟩ := spell_head t ht;rw [e] at h;cases hj : join a t with
 | false => rfl
 | true =>
  unfold join at hj;simp only [Bool.or_eq_true, Bool.and_eq_true, beq_iff_eq] at hj
  rcases hj with ⟨h1, h2⟩ | ⟨⟨h1, h2⟩, h3⟩
  ·have := h.1 h1 c rfl
   rw [n5 h2] at this;cases this
  ·have hs : spell t = t.text := by unfold spell; rw [h2]; rfl
   rw [← hs, e] at h3;have := h.2 h1 c rfl;simp only at h3;rw [h3] at this;cases this
theorem blank_split (q : Bytes) : ∃ sp y, q = sp ++ y ∧ sp.all (isB 1) = true ∧ headNot 1 y := by
 obtain ⟨y, h1, h2, h3, _⟩ := runLen_split 1 q;exact ⟨_, y, h1, h2, h3⟩
theorem decomp (l : Bytes) : ∀ (m : Nat) (q p : Bytes) (o : Option Tok), q.length ≤ m → l = p ++ q → (lexFrom l p.length).2 = none → After o q →
  ∃ W bl, q = flat W ++ bl ∧ bl.all (isB 1) = true ∧ spaced o W ∧ (lexFrom l p.length).1.map tok = W.map (·.2) := by
 intro m
 induction m with
 | zero =>
  intro q p o hm hl hn ha;have hq : q = [] := List.eq_nil_of_length_eq_zero (by omega);subst hq;refine ⟨[], [], rfl, rfl, trivial, ?_⟩;rw [lexFrom_end l p.length (by rw [hl]; unfold skip; simp)];rfl
 | succ m ih =>
  intro q p o hm hl hn ha;obtain ⟨sp, y, rfl, hsp, hy⟩ := blank_split q;cases y with
  | nil =>
   refine ⟨[], sp, by simp [flat], hsp, trivial, ?_⟩;rw [lexFrom_end l p.length (by rw [skip_at l p sp [] hl hsp hy, hl]; simp)];rfl
  | cons c y =>
   have hc : isB 1 c = false := hy c rfl;obtain ⟨t, n, hx, h1, h2⟩ := lex_step l p sp c y hl hsp hc hn;have hts := Np.take_spell hx;have hok := next_tokOK _ t n hx;have hpos := next_pos _ t n hx;have hmu := next_munch _ t n hx;have hcy : c :: y = spell t ++ (c :: y).drop n := by rw [← hts.1, List.take_append_drop]
   generalize (c :: y).drop n = z at hcy hmu;have hlen : (c :: y).length = n + z.length := by rw [hcy, List.length_append, ← hts.2]
   have hp : (p ++ sp ++ spell t).length = p.length + sp.length + n := by simp [← hts.2, Nat.add_assoc]
   rw [List.length_append] at hm;obtain ⟨W, bl, e1, e2, e3, e4⟩ := ih z (p ++ sp ++ spell t) (some t) (by omega) (by rw [hl, hcy]; simp) (by rw [hp]; exact h2) (fun a e => by cases e; exact hmu);rw [hp] at e4;refine ⟨(sp, t) :: W, bl, ?_, e2, ⟨hsp, hok, ?_, e3⟩, ?_⟩
   ·rw [hcy, e1]; simp [flat]
   ·intro hs a ho
    subst hs;have := ha a ho;rw [List.nil_append, hcy] at this;exact join_after hok this
   ·rw [h1, e4]; rfl
theorem lex_trail (l bl : Bytes) (hb : bl.all (isB 1) = true) : ∀ (W : List (Bytes × Tok)) (o : Option Tok) (p : Bytes), l = p ++ (flat W ++ bl) → spaced o W →
  (lexFrom l p.length).2 = none ∧ (lexFrom l p.length).1.map tok = W.map (·.2)
 | [], o, p, hl, _ => by
  have hl' : l = p ++ (bl ++ []) := by rw [hl]; simp [flat]
  rw [lexFrom_end l p.length (by rw [skip_at l p bl [] hl' hb (fun c h => nomatch h), hl']; simp)];exact ⟨rfl, rfl⟩
 | (s, t) :: W, o, p, hl, ⟨h1, h2, h3, h4⟩ => by
  have hl2 : l = p ++ (s ++ (spell t ++ (flat W ++ bl))) := by rw [hl]; simp [flat]
  have hl3 : l = (p ++ s ++ spell t) ++ (flat W ++ bl) := by rw [hl2]; simp
  have ih := lex_trail l bl hb W (some t) (p ++ s ++ spell t) hl3 h4;obtain ⟨c, y, e, n1, _⟩ := spell_head t h2;have hsk := skip_at l p s (spell t ++ (flat W ++ bl)) hl2 h1 (by rw [e]; intro d hd; cases hd; exact n1);have hsp := spell_pos t h2
  have hoa : okAfter t (flat W ++ bl) := by
   cases W with
   | nil =>
    cases bl with
    | nil => exact okAfter_end t
    | cons c y => rw [List.all_cons, Bool.and_eq_true] at hb; exact okAfter_blank t c y hb.1
   | cons x W =>
    obtain ⟨s', b⟩ := x;obtain ⟨k1, k2, k3, _⟩ := h4;cases s' with
    | nil =>
     have := okAfter_tok t b k2 (k3 rfl t rfl) (flat W ++ bl);simpa [flat] using this
    | cons c s' =>
     rw [List.all_cons, Bool.and_eq_true] at k1;have := okAfter_blank t c (s' ++ (spell b ++ flat W) ++ bl) k1.1;simpa [flat] using this
  have hnx : next (l.drop (skip l p.length)) = .ok t (spell t).length := by
   have : l.drop (skip l p.length) = spell t ++ (flat W ++ bl) := by
    rw [hsk, hl2, ← List.append_assoc p s, ← List.length_append, List.drop_left]
   rw [this];exact reread t _ h2 hoa
  have hlt : skip l p.length < l.length := by rw [hsk, hl2]; simp; omega
  have hp : (p ++ s ++ spell t).length = skip l p.length + (spell t).length := by rw [hsk]; simp [Nat.add_assoc]
  rw [lexFrom_ok l _ _ t hlt hnx];rw [hp] at ih;exact ⟨ih.1, by simp only [List.map_cons, ih.2]; rfl⟩
theorem flat_append : ∀ (l m : List (Bytes × Tok)), flat (l ++ m) = flat l ++ flat m
 | [], m => rfl
 | (s, t) :: l, m => by simp only [List.cons_append, flat, flat_append l m, List.append_assoc]
theorem spaced_app : ∀ (l : List (Bytes × Tok)) (o : Option Tok) (s : Bytes) (t : Tok) (m : List (Bytes × Tok)), spaced o l → s.all (isB 1) = true → TokOK t → s ≠ [] → spaced (some t) m → spaced o (l ++ (s, t) :: m)
 | [], _, _, _, _, _, h1, h2, h3, h4 => ⟨h1, h2, fun e => absurd e h3, h4⟩
 | (_, _) :: l, _, s, t, m, ⟨k1, k2, k3, k4⟩, h1, h2, h3, h4 => ⟨k1, k2, k3, spaced_app l _ s t m k4 h1 h2 h3 h4⟩
theorem lex_two (a b : Bytes) (ha : (lexAll a).2 = none) (hb : (lexAll b).2 = none) : (lexAll (a ++ 32 :: b)).2 = none ∧ (lexAll (a ++ 32 :: b)).1.map tok = (lexAll a).1.map tok ++ (lexAll b).1.map tok := by
 obtain ⟨W, x, e1, x1, s1, t1⟩ := decomp a a.length a [] none (Nat.le_refl _) rfl ha (fun a e => nomatch e);obtain ⟨V, y, e2, y1, s2, t2⟩ := decomp b b.length b [] none (Nat.le_refl _) rfl hb (fun a e => nomatch e);have t1' : (lexAll a).1.map tok = W.map (·.2) := t1;have t2' : (lexAll b).1.map tok = V.map (·.2) := t2;rw [t1', t2'];cases V with
 | nil =>
  have h := lex_trail (a ++ 32 :: b) (x ++ 32 :: y) (by rw [List.all_append, x1, List.all_cons, y1]; rfl) W none [] (by rw [e1, e2]; simp [flat]) s1;exact ⟨h.1, by rw [List.map_nil, List.append_nil]; exact h.2⟩
 | cons v V =>
  obtain ⟨s, t⟩ := v;obtain ⟨k1, k2, _, k4⟩ := s2
  have h := lex_trail (a ++ 32 :: b) y y1 (W ++ (x ++ 32 :: s, t) :: V) none [] (by rw [e1, e2, flat_append]; simp [flat])
   (spaced_app W none _ t V s1 (by rw [List.all_append, x1, List.all_cons, k1]; rfl) k2 (by simp) k4)
  exact ⟨h.1, by have := h.2; show (lexFrom (a ++ 32 :: b) 0).1.map tok = _; simpa using this⟩
end Go.Proofs.YtomibmenojdieaaGreat.Lx
namespace Go.Proofs.YtomibmenojdieaaGreat.Lx
def tkN (nm : Bytes) : Tok := ⟨4, nm⟩
def tkM (b : UInt8) : Tok := ⟨7, [b]⟩
theorem join_mark_l {a b : Tok} (h : a.kind = 7) : join a b = false := by simp [join, h]
theorem join_mark_r {a b : Tok} (h : b.kind = 7) : join a b = false := by simp [join, h]
theorem spaced_from {o : Option Tok} {W : List (Bytes × Tok)} (h : spaced none W) (ho : ∀ a, o = some a → a.kind = 7) : spaced o W := by
 cases W with
 | nil => trivial
 | cons x W =>
  obtain ⟨s, t⟩ := x;obtain ⟨h1, h2, _, h4⟩ := h;exact ⟨h1, h2, fun _ a e => join_mark_l (ho a e), h4⟩
theorem spaced_mark : ∀ (l : List (Bytes × Tok)) (o : Option Tok) (s : Bytes) (t : Tok) (m : List (Bytes × Tok)), spaced o l → s.all (isB 1) = true → TokOK t → t.kind = 7 → spaced (some t) m → spaced o (l ++ (s, t) :: m)
 | [], _, _, _, _, _, h1, h2, h3, h4 => ⟨h1, h2, fun _ _ _ => join_mark_r h3, h4⟩
 | (_, _) :: l, _, s, t, m, ⟨k1, k2, k3, k4⟩, h1, h2, h3, h4 => ⟨k1, k2, k3, spaced_mark l _ s t m k4 h1 h2 h3 h4⟩
theorem mark_ok {b : UInt8} (h : isB 5 b = true) : TokOK (tkM b) := .inr (.inr (.inr (.inr (.inr (.inr (.inl ⟨rfl, b, rfl, h⟩))))))
theorem mark_spell (b : UInt8) : spell (tkM b) = [b] := by simp [spell, spellL, tkM]
def brT (args : List Bytes) : Bytes := args.flatMap fun a => 123 :: (a ++ [125])
def brK (args : List Bytes) : List Tok := args.flatMap fun a => tkM 123 :: ((lexAll a).1.map tok ++ [tkM 125])
theorem lex_braces : ∀ (args : List Bytes) (V : List (Bytes × Tok)), (∀ a ∈ args, (lexAll a).2 = none) → (∀ o, spaced o V) → ∃ W, flat W = brT args ++ flat V ∧ (∀ o, spaced o W) ∧ W.map (·.2) = brK args ++ V.map (·.2)
 | [], V, _, hV => ⟨V, rfl, hV, rfl⟩
 | a :: as_, V, h, hV => by
  obtain ⟨W, e1, e2, e3⟩ := lex_braces as_ V (fun x hx => h x (List.mem_cons_of_mem _ hx)) hV;obtain ⟨A, bl, a1, a2, a3, a4⟩ := decomp a a.length a [] none (Nat.le_refl _) rfl (h a List.mem_cons_self) (fun a e => nomatch e);have a4' : (lexAll a).1.map tok = A.map (·.2) := a4;refine ⟨([], tkM 123) :: (A ++ (bl, tkM 125) :: W), ?_, fun o => ?_, ?_⟩
  ·show [] ++ (spell (tkM 123) ++ flat (A ++ (bl, tkM 125) :: W)) = _
   rw [flat_append, mark_spell];show [] ++ ([123] ++ (flat A ++ (bl ++ (spell (tkM 125) ++ flat W)))) = _;rw [mark_spell, e1];have e : brT (a :: as_) = 123 :: (a ++ [125]) ++ brT as_ := by simp [brT]
   rw [e, a1];simp
  ·refine ⟨rfl, mark_ok (by decide), fun _ _ _ => join_mark_r rfl, ?_⟩
   exact spaced_mark A _ bl _ W (spaced_from a3 fun a e => by cases e; rfl) a2 (mark_ok (by decide)) rfl (e2 _)
  ·have e : brK (a :: as_) = (tkM 123 :: ((lexAll a).1.map tok ++ [tkM 125])) ++ brK as_ := by simp [brK]
   rw [e, a4'];simp [e3]
theorem lex_call (nm : Bytes) (hnm : nm.all (isB 3) = true) (h0 : nm ≠ []) (h16 : nm.length ≤ 16) (hf : nm ≠ [102, 101, 110, 99, 101]) (args : List Bytes) (V : List (Bytes × Tok)) (h : ∀ a ∈ args, (lexAll a).2 = none) (hV : ∀ o, spaced o V) :
  (lexAll (92 :: (nm ++ (brT args ++ flat V)))).2 = none ∧ (lexAll (92 :: (nm ++ (brT args ++ flat V)))).1.map tok = tkN nm :: (brK args ++ V.map (·.2)) := by
 obtain ⟨W, e1, e2, e3⟩ := lex_braces args V h hV;have hok : TokOK (tkN nm) := .inr (.inr (.inr (.inl ⟨rfl, h16, h0, hnm, hf⟩)));have hl : lexAll (92 :: (nm ++ (brT args ++ flat V))) = lexFrom (92 :: (nm ++ (brT args ++ flat V))) ([] : Bytes).length := rfl
 have := lex_trail (92 :: (nm ++ (brT args ++ flat V))) [] rfl (([], tkN nm) :: W) none [] (by
  show _ = [] ++ (([] ++ (spell (tkN nm) ++ flat W)) ++ []);rw [e1];simp [spell, spellL, tkN]) ⟨rfl, hok, (fun _ a e => nomatch e), e2 _⟩
 rw [hl];refine ⟨this.1, ?_⟩;rw [this.2, List.map_cons, e3]
end Go.Proofs.YtomibmenojdieaaGreat.Lx
