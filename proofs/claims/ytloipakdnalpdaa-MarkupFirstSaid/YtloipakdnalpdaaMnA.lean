/- The walks of markup's leaf, attribute, valid; node.ValidItems. -/
import Derived.Test.YtloipakdnalpdaaMnP
import Derived.Test.YtloipakdnalpdaaQa13
import Derived.Test.YtloipakdnalpdaaQa8
import Derived.Test.YtloipakdnalpdaaGnA
namespace Go.Proofs.Ytloipakdnalpdaa
open Go.RowKit
open Tr (Nd)
open El (E Attrs leafK attrV)

theorem leafK_beq (n : List UInt8) : leafK n = if (n == ([109, 105] : List UInt8)) = true then 2 else if (n == ([109, 111] : List UInt8)) = true then 2 else if (n == ([109, 110] : List UInt8)) = true then 3 else if (n == ([109, 116, 101, 120, 116] : List UInt8)) = true then 4 else 0 := by
  unfold leafK
  simp only [beq_iff_eq, El.nMi, El.nMo, El.nMn, El.nMtext]
  rfl
set_option maxHeartbeats 400000 in
theorem leaf_any (n : List UInt8) (w : World) : Calls Try.prog 63 #[.string ⟨n.toArray⟩] w fun e w' => e = .returned (.int .i64 (leafK n)) ∧ w' = w := by
  go_enter Try.func63, Try.ntmps63
  cases h1 : (n == ([109, 105] : List UInt8)) with
  | false =>
    have h1s : ((⟨n.toArray⟩ : ByteArray) == (⟨#[109, 105]⟩ : ByteArray)) = false := by rw [str_eq']; exact h1
    have h1t : ((⟨n.toArray⟩ : ByteArray) != (⟨#[109, 105]⟩ : ByteArray)) = true := by rw [bne, h1s]; rfl
    have h1l : (ByteArray.toList (⟨n.toArray⟩ : ByteArray) == [109, 105]) = false := by rw [ByteArray.toList_eq]; exact h1
    cases h2 : (n == ([109, 111] : List UInt8)) with
    | false =>
      have h2s : ((⟨n.toArray⟩ : ByteArray) == (⟨#[109, 111]⟩ : ByteArray)) = false := by rw [str_eq']; exact h2
      have h2t : ((⟨n.toArray⟩ : ByteArray) != (⟨#[109, 111]⟩ : ByteArray)) = true := by rw [bne, h2s]; rfl
      have h2l : (ByteArray.toList (⟨n.toArray⟩ : ByteArray) == [109, 111]) = false := by rw [ByteArray.toList_eq]; exact h2
      cases h3 : (n == ([109, 110] : List UInt8)) with
      | false =>
        have h3s : ((⟨n.toArray⟩ : ByteArray) == (⟨#[109, 110]⟩ : ByteArray)) = false := by rw [str_eq']; exact h3
        have h3t : ((⟨n.toArray⟩ : ByteArray) != (⟨#[109, 110]⟩ : ByteArray)) = true := by rw [bne, h3s]; rfl
        have h3l : (ByteArray.toList (⟨n.toArray⟩ : ByteArray) == [109, 110]) = false := by rw [ByteArray.toList_eq]; exact h3
        cases h4 : (n == ([109, 116, 101, 120, 116] : List UInt8)) with
        | false =>
          have h4s : ((⟨n.toArray⟩ : ByteArray) == (⟨#[109, 116, 101, 120, 116]⟩ : ByteArray)) = false := by rw [str_eq']; exact h4
          have h4t : ((⟨n.toArray⟩ : ByteArray) != (⟨#[109, 116, 101, 120, 116]⟩ : ByteArray)) = true := by rw [bne, h4s]; rfl
          have h4l : (ByteArray.toList (⟨n.toArray⟩ : ByteArray) == [109, 116, 101, 120, 116]) = false := by rw [ByteArray.toList_eq]; exact h4
          go_wp2_with fail
          go_ret
          exact ⟨show _ = Ending.returned (.int .i64 (leafK n)) from by rw [leafK_beq]; simp only [*] <;> rfl, rfl⟩
        | true =>
          have h4s : ((⟨n.toArray⟩ : ByteArray) == (⟨#[109, 116, 101, 120, 116]⟩ : ByteArray)) = true := by rw [str_eq']; exact h4
          have h4t : ((⟨n.toArray⟩ : ByteArray) != (⟨#[109, 116, 101, 120, 116]⟩ : ByteArray)) = false := by rw [bne, h4s]; rfl
          have h4l : (ByteArray.toList (⟨n.toArray⟩ : ByteArray) == [109, 116, 101, 120, 116]) = true := by rw [ByteArray.toList_eq]; exact h4
          go_wp2_with fail
          go_ret
          exact ⟨show _ = Ending.returned (.int .i64 (leafK n)) from by rw [leafK_beq]; simp only [*] <;> rfl, rfl⟩
      | true =>
        have h3s : ((⟨n.toArray⟩ : ByteArray) == (⟨#[109, 110]⟩ : ByteArray)) = true := by rw [str_eq']; exact h3
        have h3t : ((⟨n.toArray⟩ : ByteArray) != (⟨#[109, 110]⟩ : ByteArray)) = false := by rw [bne, h3s]; rfl
        have h3l : (ByteArray.toList (⟨n.toArray⟩ : ByteArray) == [109, 110]) = true := by rw [ByteArray.toList_eq]; exact h3
        go_wp2_with fail
        go_ret
        exact ⟨show _ = Ending.returned (.int .i64 (leafK n)) from by rw [leafK_beq]; simp only [*] <;> rfl, rfl⟩
    | true =>
      have h2s : ((⟨n.toArray⟩ : ByteArray) == (⟨#[109, 111]⟩ : ByteArray)) = true := by rw [str_eq']; exact h2
      have h2t : ((⟨n.toArray⟩ : ByteArray) != (⟨#[109, 111]⟩ : ByteArray)) = false := by rw [bne, h2s]; rfl
      have h2l : (ByteArray.toList (⟨n.toArray⟩ : ByteArray) == [109, 111]) = true := by rw [ByteArray.toList_eq]; exact h2
      go_wp2_with fail
      go_ret
      exact ⟨show _ = Ending.returned (.int .i64 (leafK n)) from by rw [leafK_beq]; simp only [*] <;> rfl, rfl⟩
  | true =>
    have h1s : ((⟨n.toArray⟩ : ByteArray) == (⟨#[109, 105]⟩ : ByteArray)) = true := by rw [str_eq']; exact h1
    have h1t : ((⟨n.toArray⟩ : ByteArray) != (⟨#[109, 105]⟩ : ByteArray)) = false := by rw [bne, h1s]; rfl
    have h1l : (ByteArray.toList (⟨n.toArray⟩ : ByteArray) == [109, 105]) = true := by rw [ByteArray.toList_eq]; exact h1
    go_wp2_with fail
    go_ret
    exact ⟨show _ = Ending.returned (.int .i64 (leafK n)) from by rw [leafK_beq]; simp only [*] <;> rfl, rfl⟩
theorem leaf_is (n : List UInt8) (k : Int) (h : leafK n = k) (w : World) : Calls Try.prog 63 #[.string ⟨n.toArray⟩] w fun e w' => e = .returned (.int .i64 k) ∧ w' = w := h ▸ leaf_any n w
theorem mletter_list (t : List UInt8) (w : World) : Calls Try.prog 48 #[.string ⟨t.toArray⟩] w fun e w' => e = .returned (.bool (El.lett t)) ∧ w' = w := mletter_any ⟨t.toArray⟩ w
theorem mletter_fresh (t : List UInt8) (w : World) : Calls Try.prog 48 #[.string ⟨t.toArray⟩] w fun e w' => e = .returned (.bool (El.lett t)) ∧ Fresh w w' :=
  (mletter_list t w).mono fun _ _ h => ⟨h.1, by rw [h.2]; exact Touch.refl _ _⟩

theorem attrV_snoc (a : Attrs) (nm : List UInt8) (j : Nat) (h : j < a.length) (hn : (a.take j).any (fun x => x.1 == nm) = false) : (a[j].1 = nm → attrV a nm = a[j].2) ∧ (a[j].1 ≠ nm → (a.take (j + 1)).any (fun x => x.1 == nm) = false) := by
  induction a generalizing j with
  | nil => simp at h
  | cons x a ih =>
    cases j with
    | zero =>
      refine ⟨fun hx => ?_, fun hx => ?_⟩
      · rw [attrV, if_pos (by simpa using hx)]; rfl
      · simpa using hx
    | succ j =>
      simp only [List.take_succ_cons, List.any_cons, Bool.or_eq_false_iff, List.getElem_cons_succ] at hn ⊢
      have := ih j (by simpa using h) hn.2
      refine ⟨fun hx => ?_, fun hx => ⟨hn.1, this.2 hx⟩⟩
      rw [attrV, if_neg (by simpa using hn.1)]
      exact this.1 hx
theorem attrV_none (a : Attrs) (nm : List UInt8) (hn : a.any (fun x => x.1 == nm) = false) : attrV a nm = [] := by
  induction a with
  | nil => rfl
  | cons x a ih =>
    simp only [List.any_cons, Bool.or_eq_false_iff] at hn
    rw [attrV, if_neg (by simpa using hn.1)]
    exact ih hn.2
set_option maxRecDepth 100000 in
set_option maxHeartbeats 1000000 in
theorem attr_any (e : E) (nm : List UInt8) (g o : Nat) (va vk : Value) (w : World) (he : ElAt w g o e va vk) : Calls Try.prog 65 #[.pointer (some ⟨g, o, none⟩), .string ⟨nm.toArray⟩] w fun x w' => x = .returned (.string ⟨(attrV e.attrs nm).toArray⟩) ∧ Fresh w w' := by
  obtain ⟨n, ats, ks, t⟩ := e
  obtain ⟨A, ca, hva⟩ := he.2.2.2.2.2.1.slice
  replace hva : va = .slice A ats.length ca := hva
  subst hva
  have hl1 : ats.length ≤ maxLen := by obtain ⟨_, _, _, h, _⟩ := he.2.2.2.2.2.1; exact h.1
  unfold maxLen at hl1
  have HA := hid (show RepA w ats _ from he.2.2.2.2.2.1)
  obtain ⟨hg, _, h1, _⟩ := he
  show Calls _ _ _ _ (fun x w' => x = .returned (.string ⟨(attrV ats nm).toArray⟩) ∧ Fresh w w')
  go_enter Try.func65, Try.ntmps65
  go_wp2_with fail
  clear hg h1
  go_loopw [12] (fun i wr => ∃ j : Nat, i = .int .i64 j ∧ j ≤ ats.length ∧ Hid ((ats.take j).any (fun x => x.1 == nm) = false) ∧ Hid (Fresh w wr)) (fun i _ => ats.length - (intOf i).toNat)
  case atStart => exact ⟨0, rfl, Nat.zero_le _, by simp [Hid], Touch.refl _ _⟩
  case round =>
    obtain ⟨j, rfl, hj, HT, HF⟩ := hrel
    by_cases c1 : j < ats.length
    · have d1 : decide ((j : Int) < (ats.length : Int)) = true := dT (by omega)
      have d1' : (j : Int) < (ats.length : Int) := by omega
      obtain ⟨g, o, rfl, hg, m0, m1, _, _⟩ := HA.out.get j c1
      have e0 := HF.out.cell m0 (fun h => h)
      have f0 := HF.out.cell m1 (fun h => h)
      clear m0 m1
      have HS := hid (attrV_snoc ats nm j c1 HT.out)
      generalize ats[j] = x at *
      cases h4 : decide (x.1 = nm) with
      | true =>
        have e1 : (x.1 == nm) = true := by simpa using h4
        have HV := hid (HS.out.1 (of_decide_eq_true h4))
        clear h4
        go_wp2_with fail
        refine bodyPost_ret (results_tmp rfl _ _ _) rfl ?_
        exact ⟨by rw [HV.out]; rfl, frA HF.out⟩
      | false =>
        have e1 : (x.1 == nm) = false := by simpa using h4
        have HV := hid (HS.out.2 (of_decide_eq_false h4))
        clear h4
        go_wp2_with fail
        go_roundw
        case rel => exact ⟨j + 1, by go_num, c1, HV, frA HF.out⟩
        case measure => simp [intOf]; omega
    · have d1 : decide ((j : Int) < (ats.length : Int)) = false := dF (by omega)
      obtain rfl : j = ats.length := by omega
      have HV := hid (attrV_none ats nm (by have := HT.out; rwa [List.take_length] at this))
      go_wp2_with fail
      go_ret
      exact ⟨by rw [HV.out]; rfl, HF.out⟩
theorem nodeValidItems_any (ks : List Nd) (A : Option Addr) (cap : Nat) (w : World) (hr : RepL w ks (.slice A ks.length cap)) :
    Calls Try.prog 84 #[.slice A ks.length cap] w fun e w' => e = .returned (.bool (Tr.valid (.mk 1 [] 0 ks))) ∧ Fresh w w' := by
  have HR := hid hr
  clear hr
  go_enter Try.func84, Try.ntmps84
  go_wp2_with fail
  refine (valid_all (.mk 1 [] 0 ks) _ _ HR.out (Nat.zero_le _)).mono ?_
  rintro _ w2 ⟨rfl, hf2⟩
  have HF2 := hid hf2
  clear hf2
  go_wp2_with fail
  go_ret
  exact ⟨rfl, HF2.out⟩
end Go.Proofs.Ytloipakdnalpdaa
