/- Part 25 of 35 of a proof; its texts, joined: MnE. No condition. -/
import Derived.Test.YtnbeemkfmlfgfaaGreatDoorYa24
set_option maxRecDepth 100000
set_option maxHeartbeats 2000000
namespace Go.Proofs.YtnbeemkfmlfgfaaGreatDoor
open Go.RowKit
open El (E Attrs)
theorem dec_beq (u v : List UInt8) : decide (u = v) = (u == v) := by rw [Bool.eq_iff_iff]; simp
theorem admF_beq (n m : List UInt8) (a b : Attrs) (ks ls : List E) (t s : List UInt8) (js : List E) (x : List UInt8) (y : Attrs) (z : List UInt8) (r : List E) (hk : ks = .mk x y js z :: r) :
  El.admF (.mk n a ks t) (.mk m b ls s) = if (n == ([109, 97, 116, 104] : List UInt8)) = true then !((m == ([109, 97, 116, 104] : List UInt8)) || (m == ([109, 114, 111, 119] : List UInt8)) || (m == ([109, 116, 100] : List UInt8)) || (m == ([109, 116, 114] : List UInt8))) else if (n == ([109, 114, 111, 119] : List UInt8)) = true then !((m == ([109, 97, 116, 104] : List UInt8)) || (m == ([109, 114, 111, 119] : List UInt8)) || (m == ([109, 116, 100] : List UInt8)) || (m == ([109, 116, 114] : List UInt8))) else if (n == ([109, 116, 100] : List UInt8)) = true then !((m == ([109, 97, 116, 104] : List UInt8)) || (m == ([109, 114, 111, 119] : List UInt8)) || (m == ([109, 116, 100] : List UInt8)) || (m == ([109, 116, 114] : List UInt8)))
   else if (n == ([109, 116, 97, 98, 108, 101] : List UInt8)) = true then (m == ([109, 116, 114] : List UInt8)) && ((ls.length : Int) == (js.length : Int)) else if (n == ([109, 116, 114] : List UInt8)) = true then (m == ([109, 116, 100] : List UInt8)) else (m == ([109, 114, 111, 119] : List UInt8)) := by
 subst hk;rw [dIe ls.length js.length _ rfl];show (if n = El.nMath ∨ n = El.nMrow ∨ n = El.nMtd then !(decide (m = El.nMath) || decide (m = El.nMrow) || decide (m = El.nMtd) || decide (m = El.nMtr)) else if n = El.nMtable then decide (m = El.nMtr) && decide (ls.length = js.length) else if n = El.nMtr then decide (m = El.nMtd) else decide (m = El.nMrow)) = _;simp only [beq_iff_eq]
 have hx : (if n = El.nMath ∨ n = El.nMrow ∨ n = El.nMtd then !(decide (m = El.nMath) || decide (m = El.nMrow) || decide (m = El.nMtd) || decide (m = El.nMtr)) else if n = El.nMtable then decide (m = El.nMtr) && decide (ls.length = js.length) else if n = El.nMtr then decide (m = El.nMtd) else decide (m = El.nMrow)) = (if n = El.nMath then !((m == El.nMath) || (m == El.nMrow) || (m == El.nMtd) || (m == El.nMtr)) else if n = El.nMrow then !((m == El.nMath) || (m == El.nMrow) || (m == El.nMtd) || (m == El.nMtr)) else if n = El.nMtd then !((m == El.nMath) || (m == El.nMrow) || (m == El.nMtd) || (m == El.nMtr))
   else if n = El.nMtable then (m == El.nMtr) && decide (ls.length = js.length) else if n = El.nMtr then (m == El.nMtd) else (m == El.nMrow)) := by
  have e : ∀ u v : List UInt8, (u == v) = decide (u = v) := fun u v => (dec_beq u v).symm
  simp only [e]
  by_cases e1 : n = El.nMath
  ·rw [if_pos (.inl e1), if_pos e1]
  ·by_cases e2 : n = El.nMrow
   ·rw [if_pos (.inr (.inl e2)), if_neg e1, if_pos e2]
   ·by_cases e3 : n = El.nMtd
    ·rw [if_pos (.inr (.inr e3)), if_neg e1, if_neg e2, if_pos e3]
    ·rw [if_neg (fun h => h.elim e1 fun h => h.elim e2 e3), if_neg e1, if_neg e2, if_neg e3]
 exact hx
theorem admits_any (n m : List UInt8) (a b : Attrs) (ks ls js : List E) (t s : List UInt8) (x : List UInt8) (y : Attrs) (z : List UInt8) (r : List E) (hk : ks = .mk x y js z :: r) (g o p q i e : Nat) (cb cl cj : Nat) (Bl Bj : Option Addr) (w : World)
  (a0 : w.cell? ⟨g, o, none⟩ = some (.string ⟨n.toArray⟩)) (a2 : w.cell? ⟨g, o + 2, none⟩ = some (.slice (some ⟨i, e, none⟩) ks.length cb)) (b0 : w.cell? ⟨p, q, none⟩ = some (.string ⟨m.toArray⟩)) (b2 : w.cell? ⟨p, q + 2, none⟩ = some (.slice Bl ls.length cl)) (c2 : w.cell? ⟨i, e + 2, none⟩ = some (.slice Bj js.length cj)) :
  Calls Tryz.prog 74 #[.pointer (some ⟨g, o, none⟩), .pointer (some ⟨p, q, none⟩)] w fun x w' => x = .returned (.bool (El.admF (.mk n a ks t) (.mk m b ls s))) ∧ Fresh w w' := by
 have hkl : 0 < ks.length := by rw [hk]; simp
 have hkl' : (0 : Int) < (ks.length : Int) := by omega
 rw [admF_beq n m a b ks ls t s js x y z r hk];clear hk;go_enter Tryz.func74, Tryz.ntmps74;cases h1 : (n == ([109, 97, 116, 104] : List UInt8)) with
 | false =>
  have h1s : ((⟨n.toArray⟩ : ByteArray) == (⟨#[109, 97, 116, 104]⟩ : ByteArray)) = false := by rw [str_eq']; exact h1
  have h1t : ((⟨n.toArray⟩ : ByteArray) != (⟨#[109, 97, 116, 104]⟩ : ByteArray)) = true := by rw [bne, h1s]; rfl
  have h1l : (ByteArray.toList (⟨n.toArray⟩ : ByteArray) == [109, 97, 116, 104]) = false := by rw [ByteArray.toList_eq]; exact h1
  cases h2 : (n == ([109, 114, 111, 119] : List UInt8)) with
  | false =>
   have h2s : ((⟨n.toArray⟩ : ByteArray) == (⟨#[109, 114, 111, 119]⟩ : ByteArray)) = false := by rw [str_eq']; exact h2
   have h2t : ((⟨n.toArray⟩ : ByteArray) != (⟨#[109, 114, 111, 119]⟩ : ByteArray)) = true := by rw [bne, h2s]; rfl
   have h2l : (ByteArray.toList (⟨n.toArray⟩ : ByteArray) == [109, 114, 111, 119]) = false := by rw [ByteArray.toList_eq]; exact h2
   cases h3 : (n == ([109, 116, 100] : List UInt8)) with
   | false =>
    have h3s : ((⟨n.toArray⟩ : ByteArray) == (⟨#[109, 116, 100]⟩ : ByteArray)) = false := by rw [str_eq']; exact h3
    have h3t : ((⟨n.toArray⟩ : ByteArray) != (⟨#[109, 116, 100]⟩ : ByteArray)) = true := by rw [bne, h3s]; rfl
    have h3l : (ByteArray.toList (⟨n.toArray⟩ : ByteArray) == [109, 116, 100]) = false := by rw [ByteArray.toList_eq]; exact h3
    cases h4 : (n == ([109, 116, 97, 98, 108, 101] : List UInt8)) with
    | false =>
     have h4s : ((⟨n.toArray⟩ : ByteArray) == (⟨#[109, 116, 97, 98, 108, 101]⟩ : ByteArray)) = false := by rw [str_eq']; exact h4
     have h4t : ((⟨n.toArray⟩ : ByteArray) != (⟨#[109, 116, 97, 98, 108, 101]⟩ : ByteArray)) = true := by rw [bne, h4s]; rfl
     have h4l : (ByteArray.toList (⟨n.toArray⟩ : ByteArray) == [109, 116, 97, 98, 108, 101]) = false := by rw [ByteArray.toList_eq]; exact h4
     cases h5 : (n == ([109, 116, 114] : List UInt8)) with
     | false =>
      have h5s : ((⟨n.toArray⟩ : ByteArray) == (⟨#[109, 116, 114]⟩ : ByteArray)) = false := by rw [str_eq']; exact h5
      have h5t : ((⟨n.toArray⟩ : ByteArray) != (⟨#[109, 116, 114]⟩ : ByteArray)) = true := by rw [bne, h5s]; rfl
      have h5l : (ByteArray.toList (⟨n.toArray⟩ : ByteArray) == [109, 116, 114]) = false := by rw [ByteArray.toList_eq]; exact h5
      cases h6 : (m == ([109, 114, 111, 119] : List UInt8)) with
      | false =>
       have h6s : ((⟨m.toArray⟩ : ByteArray) == (⟨#[109, 114, 111, 119]⟩ : ByteArray)) = false := by rw [str_eq']; exact h6
       have h6t : ((⟨m.toArray⟩ : ByteArray) != (⟨#[109, 114, 111, 119]⟩ : ByteArray)) = true := by rw [bne, h6s]; rfl
       have h6l : (ByteArray.toList (⟨m.toArray⟩ : ByteArray) == [109, 114, 111, 119]) = false := by rw [ByteArray.toList_eq]; exact h6
       go_wp2_with fail
       go_ret;exact ⟨ret_bool' _ _ (by first | rfl | (simp only [*] <;> rfl)), (by first | exact (Touch.refl _ _) | exact (Touch.refl _ _).alloc _ | exact ((Touch.refl _ _).alloc _).alloc _ | exact (((Touch.refl _ _).alloc _).alloc _).alloc _ | exact (Touch.refl _ _).drewN _ | exact ((Touch.refl _ _).alloc _).drewN _ | exact (((Touch.refl _ _).alloc _).alloc _).drewN _)⟩
      | true =>
       have h6s : ((⟨m.toArray⟩ : ByteArray) == (⟨#[109, 114, 111, 119]⟩ : ByteArray)) = true := by rw [str_eq']; exact h6
       have h6t : ((⟨m.toArray⟩ : ByteArray) != (⟨#[109, 114, 111, 119]⟩ : ByteArray)) = false := by rw [bne, h6s]; rfl
       have h6l : (ByteArray.toList (⟨m.toArray⟩ : ByteArray) == [109, 114, 111, 119]) = true := by rw [ByteArray.toList_eq]; exact h6
       go_wp2_with fail
       go_ret;exact ⟨ret_bool' _ _ (by first | rfl | (simp only [*] <;> rfl)), (by first | exact (Touch.refl _ _) | exact (Touch.refl _ _).alloc _ | exact ((Touch.refl _ _).alloc _).alloc _ | exact (((Touch.refl _ _).alloc _).alloc _).alloc _ | exact (Touch.refl _ _).drewN _ | exact ((Touch.refl _ _).alloc _).drewN _ | exact (((Touch.refl _ _).alloc _).alloc _).drewN _)⟩
     | true =>
      have h5s : ((⟨n.toArray⟩ : ByteArray) == (⟨#[109, 116, 114]⟩ : ByteArray)) = true := by rw [str_eq']; exact h5
      have h5t : ((⟨n.toArray⟩ : ByteArray) != (⟨#[109, 116, 114]⟩ : ByteArray)) = false := by rw [bne, h5s]; rfl
      have h5l : (ByteArray.toList (⟨n.toArray⟩ : ByteArray) == [109, 116, 114]) = true := by rw [ByteArray.toList_eq]; exact h5
      cases h7 : (m == ([109, 116, 100] : List UInt8)) with
      | false =>
       have h7s : ((⟨m.toArray⟩ : ByteArray) == (⟨#[109, 116, 100]⟩ : ByteArray)) = false := by rw [str_eq']; exact h7
       have h7t : ((⟨m.toArray⟩ : ByteArray) != (⟨#[109, 116, 100]⟩ : ByteArray)) = true := by rw [bne, h7s]; rfl
       have h7l : (ByteArray.toList (⟨m.toArray⟩ : ByteArray) == [109, 116, 100]) = false := by rw [ByteArray.toList_eq]; exact h7
       go_wp2_with fail
       go_ret;exact ⟨ret_bool' _ _ (by first | rfl | (simp only [*] <;> rfl)), (by first | exact (Touch.refl _ _) | exact (Touch.refl _ _).alloc _ | exact ((Touch.refl _ _).alloc _).alloc _ | exact (((Touch.refl _ _).alloc _).alloc _).alloc _ | exact (Touch.refl _ _).drewN _ | exact ((Touch.refl _ _).alloc _).drewN _ | exact (((Touch.refl _ _).alloc _).alloc _).drewN _)⟩
      | true =>
       have h7s : ((⟨m.toArray⟩ : ByteArray) == (⟨#[109, 116, 100]⟩ : ByteArray)) = true := by rw [str_eq']; exact h7
       have h7t : ((⟨m.toArray⟩ : ByteArray) != (⟨#[109, 116, 100]⟩ : ByteArray)) = false := by rw [bne, h7s]; rfl
       have h7l : (ByteArray.toList (⟨m.toArray⟩ : ByteArray) == [109, 116, 100]) = true := by rw [ByteArray.toList_eq]; exact h7
       go_wp2_with fail
       go_ret;exact ⟨ret_bool' _ _ (by first | rfl | (simp only [*] <;> rfl)), (by first | exact (Touch.refl _ _) | exact (Touch.refl _ _).alloc _ | exact ((Touch.refl _ _).alloc _).alloc _ | exact (((Touch.refl _ _).alloc _).alloc _).alloc _ | exact (Touch.refl _ _).drewN _ | exact ((Touch.refl _ _).alloc _).drewN _ | exact (((Touch.refl _ _).alloc _).alloc _).drewN _)⟩
    | true =>
     have h4s : ((⟨n.toArray⟩ : ByteArray) == (⟨#[109, 116, 97, 98, 108, 101]⟩ : ByteArray)) = true := by rw [str_eq']; exact h4
     have h4t : ((⟨n.toArray⟩ : ByteArray) != (⟨#[109, 116, 97, 98, 108, 101]⟩ : ByteArray)) = false := by rw [bne, h4s]; rfl
     have h4l : (ByteArray.toList (⟨n.toArray⟩ : ByteArray) == [109, 116, 97, 98, 108, 101]) = true := by rw [ByteArray.toList_eq]; exact h4
     cases h8 : (m == ([109, 116, 114] : List UInt8)) with
     | false =>
      have h8s : ((⟨m.toArray⟩ : ByteArray) == (⟨#[109, 116, 114]⟩ : ByteArray)) = false := by rw [str_eq']; exact h8
      have h8t : ((⟨m.toArray⟩ : ByteArray) != (⟨#[109, 116, 114]⟩ : ByteArray)) = true := by rw [bne, h8s]; rfl
      have h8l : (ByteArray.toList (⟨m.toArray⟩ : ByteArray) == [109, 116, 114]) = false := by rw [ByteArray.toList_eq]; exact h8
      go_wp2_with fail
      refine wp_region_quiet_lit (by kernel_rfl) (by kernel_rfl) ?_
      repeat (with_reducible refine wpQuiet_step (fun K hK => ?_); go_simp; first | (refine hK _ ?_; clear hK K) | (apply Exists.intro; refine ⟨fun _ => ?_, hK _ ?_⟩; (fail); clear hK K))
      refine wpQuiet_nil ?_;rintro _ ⟨nq, rfl⟩;go_wp2_with fail
      go_ret;exact ⟨ret_bool' _ _ (by first | rfl | (simp only [*] <;> rfl)), (by first | exact (Touch.refl _ _) | exact (Touch.refl _ _).alloc _ | exact ((Touch.refl _ _).alloc _).alloc _ | exact (((Touch.refl _ _).alloc _).alloc _).alloc _ | exact (Touch.refl _ _).drewN _ | exact ((Touch.refl _ _).alloc _).drewN _ | exact (((Touch.refl _ _).alloc _).alloc _).drewN _)⟩
     | true =>
      have h8s : ((⟨m.toArray⟩ : ByteArray) == (⟨#[109, 116, 114]⟩ : ByteArray)) = true := by rw [str_eq']; exact h8
      have h8t : ((⟨m.toArray⟩ : ByteArray) != (⟨#[109, 116, 114]⟩ : ByteArray)) = false := by rw [bne, h8s]; rfl
      have h8l : (ByteArray.toList (⟨m.toArray⟩ : ByteArray) == [109, 116, 114]) = true := by rw [ByteArray.toList_eq]; exact h8
      go_wp2_with fail
      refine wp_region_quiet_lit (by kernel_rfl) (by kernel_rfl) ?_
      repeat (with_reducible refine wpQuiet_step (fun K hK => ?_); go_simp; first | (refine hK _ ?_; clear hK K) | (apply Exists.intro; refine ⟨fun _ => ?_, hK _ ?_⟩; (fail); clear hK K))
      refine wpQuiet_nil ?_;rintro _ ⟨nq, rfl⟩;cases h9 : ((ls.length : Int) == (js.length : Int)) with
      | false =>
       have h9m : ((ls.length : Int) != (js.length : Int)) = true := by rw [bne, h9]; rfl
       go_wp2_with fail
       go_ret;exact ⟨ret_bool' _ _ (by first | rfl | (simp only [*] <;> rfl)), (by first | exact (Touch.refl _ _) | exact (Touch.refl _ _).alloc _ | exact ((Touch.refl _ _).alloc _).alloc _ | exact (((Touch.refl _ _).alloc _).alloc _).alloc _ | exact (Touch.refl _ _).drewN _ | exact ((Touch.refl _ _).alloc _).drewN _ | exact (((Touch.refl _ _).alloc _).alloc _).drewN _)⟩
      | true =>
       have h9m : ((ls.length : Int) != (js.length : Int)) = false := by rw [bne, h9]; rfl
       go_wp2_with fail
       go_ret;exact ⟨ret_bool' _ _ (by first | rfl | (simp only [*] <;> rfl)), (by first | exact (Touch.refl _ _) | exact (Touch.refl _ _).alloc _ | exact ((Touch.refl _ _).alloc _).alloc _ | exact (((Touch.refl _ _).alloc _).alloc _).alloc _ | exact (Touch.refl _ _).drewN _ | exact ((Touch.refl _ _).alloc _).drewN _ | exact (((Touch.refl _ _).alloc _).alloc _).drewN _)⟩
   | true =>
    have h3s : ((⟨n.toArray⟩ : ByteArray) == (⟨#[109, 116, 100]⟩ : ByteArray)) = true := by rw [str_eq']; exact h3
    have h3t : ((⟨n.toArray⟩ : ByteArray) != (⟨#[109, 116, 100]⟩ : ByteArray)) = false := by rw [bne, h3s]; rfl
    have h3l : (ByteArray.toList (⟨n.toArray⟩ : ByteArray) == [109, 116, 100]) = true := by rw [ByteArray.toList_eq]; exact h3
    cases h10 : (m == ([109, 97, 116, 104] : List UInt8)) with
    | false =>
     have h10s : ((⟨m.toArray⟩ : ByteArray) == (⟨#[109, 97, 116, 104]⟩ : ByteArray)) = false := by rw [str_eq']; exact h10
     have h10t : ((⟨m.toArray⟩ : ByteArray) != (⟨#[109, 97, 116, 104]⟩ : ByteArray)) = true := by rw [bne, h10s]; rfl
     have h10l : (ByteArray.toList (⟨m.toArray⟩ : ByteArray) == [109, 97, 116, 104]) = false := by rw [ByteArray.toList_eq]; exact h10
     cases h11 : (m == ([109, 114, 111, 119] : List UInt8)) with
     | false =>
      have h11s : ((⟨m.toArray⟩ : ByteArray) == (⟨#[109, 114, 111, 119]⟩ : ByteArray)) = false := by rw [str_eq']; exact h11
      have h11t : ((⟨m.toArray⟩ : ByteArray) != (⟨#[109, 114, 111, 119]⟩ : ByteArray)) = true := by rw [bne, h11s]; rfl
      have h11l : (ByteArray.toList (⟨m.toArray⟩ : ByteArray) == [109, 114, 111, 119]) = false := by rw [ByteArray.toList_eq]; exact h11
      cases h12 : (m == ([109, 116, 100] : List UInt8)) with
      | false =>
       have h12s : ((⟨m.toArray⟩ : ByteArray) == (⟨#[109, 116, 100]⟩ : ByteArray)) = false := by rw [str_eq']; exact h12
       have h12t : ((⟨m.toArray⟩ : ByteArray) != (⟨#[109, 116, 100]⟩ : ByteArray)) = true := by rw [bne, h12s]; rfl
       have h12l : (ByteArray.toList (⟨m.toArray⟩ : ByteArray) == [109, 116, 100]) = false := by rw [ByteArray.toList_eq]; exact h12
       cases h13 : (m == ([109, 116, 114] : List UInt8)) with
       | false =>
        have h13s : ((⟨m.toArray⟩ : ByteArray) == (⟨#[109, 116, 114]⟩ : ByteArray)) = false := by rw [str_eq']; exact h13
        have h13t : ((⟨m.toArray⟩ : ByteArray) != (⟨#[109, 116, 114]⟩ : ByteArray)) = true := by rw [bne, h13s]; rfl
        have h13l : (ByteArray.toList (⟨m.toArray⟩ : ByteArray) == [109, 116, 114]) = false := by rw [ByteArray.toList_eq]; exact h13
        go_wp2_with fail
        go_ret;exact ⟨ret_bool' _ _ (by first | rfl | (simp only [*] <;> rfl)), (by first | exact (Touch.refl _ _) | exact (Touch.refl _ _).alloc _ | exact ((Touch.refl _ _).alloc _).alloc _ | exact (((Touch.refl _ _).alloc _).alloc _).alloc _ | exact (Touch.refl _ _).drewN _ | exact ((Touch.refl _ _).alloc _).drewN _ | exact (((Touch.refl _ _).alloc _).alloc _).drewN _)⟩
       | true =>
        have h13s : ((⟨m.toArray⟩ : ByteArray) == (⟨#[109, 116, 114]⟩ : ByteArray)) = true := by rw [str_eq']; exact h13
        have h13t : ((⟨m.toArray⟩ : ByteArray) != (⟨#[109, 116, 114]⟩ : ByteArray)) = false := by rw [bne, h13s]; rfl
        have h13l : (ByteArray.toList (⟨m.toArray⟩ : ByteArray) == [109, 116, 114]) = true := by rw [ByteArray.toList_eq]; exact h13
        go_wp2_with fail
        go_ret;exact ⟨ret_bool' _ _ (by first | rfl | (simp only [*] <;> rfl)), (by first | exact (Touch.refl _ _) | exact (Touch.refl _ _).alloc _ | exact ((Touch.refl _ _).alloc _).alloc _ | exact (((Touch.refl _ _).alloc _).alloc _).alloc _ | exact (Touch.refl _ _).drewN _ | exact ((Touch.refl _ _).alloc _).drewN _ | exact (((Touch.refl _ _).alloc _).alloc _).drewN _)⟩
      | true =>
       have h12s : ((⟨m.toArray⟩ : ByteArray) == (⟨#[109, 116, 100]⟩ : ByteArray)) = true := by rw [str_eq']; exact h12
       have h12t : ((⟨m.toArray⟩ : ByteArray) != (⟨#[109, 116, 100]⟩ : ByteArray)) = false := by rw [bne, h12s]; rfl
       have h12l : (ByteArray.toList (⟨m.toArray⟩ : ByteArray) == [109, 116, 100]) = true := by rw [ByteArray.toList_eq]; exact h12
       go_wp2_with fail
       go_ret;exact ⟨ret_bool' _ _ (by first | rfl | (simp only [*] <;> rfl)), (by first | exact (Touch.refl _ _) | exact (Touch.refl _ _).alloc _ | exact ((Touch.refl _ _).alloc _).alloc _ | exact (((Touch.refl _ _).alloc _).alloc _).alloc _ | exact (Touch.refl _ _).drewN _ | exact ((Touch.refl _ _).alloc _).drewN _ | exact (((Touch.refl _ _).alloc _).alloc _).drewN _)⟩
     | true =>
      have h11s : ((⟨m.toArray⟩ : ByteArray) == (⟨#[109, 114, 111, 119]⟩ : ByteArray)) = true := by rw [str_eq']; exact h11
      have h11t : ((⟨m.toArray⟩ : ByteArray) != (⟨#[109, 114, 111, 119]⟩ : ByteArray)) = false := by rw [bne, h11s]; rfl
      have h11l : (ByteArray.toList (⟨m.toArray⟩ : ByteArray) == [109, 114, 111, 119]) = true := by rw [ByteArray.toList_eq]; exact h11
      go_wp2_with fail
      go_ret;exact ⟨ret_bool' _ _ (by first | rfl | (simp only [*] <;> rfl)), (by first | exact (Touch.refl _ _) | exact (Touch.refl _ _).alloc _ | exact ((Touch.refl _ _).alloc _).alloc _ | exact (((Touch.refl _ _).alloc _).alloc _).alloc _ | exact (Touch.refl _ _).drewN _ | exact ((Touch.refl _ _).alloc _).drewN _ | exact (((Touch.refl _ _).alloc _).alloc _).drewN _)⟩
    | true =>
     have h10s : ((⟨m.toArray⟩ : ByteArray) == (⟨#[109, 97, 116, 104]⟩ : ByteArray)) = true := by rw [str_eq']; exact h10
     have h10t : ((⟨m.toArray⟩ : ByteArray) != (⟨#[109, 97, 116, 104]⟩ : ByteArray)) = false := by rw [bne, h10s]; rfl
     have h10l : (ByteArray.toList (⟨m.toArray⟩ : ByteArray) == [109, 97, 116, 104]) = true := by rw [ByteArray.toList_eq]; exact h10
     go_wp2_with fail
     go_ret;exact ⟨ret_bool' _ _ (by first | rfl | (simp only [*] <;> rfl)), (by first | exact (Touch.refl _ _) | exact (Touch.refl _ _).alloc _ | exact ((Touch.refl _ _).alloc _).alloc _ | exact (((Touch.refl _ _).alloc _).alloc _).alloc _ | exact (Touch.refl _ _).drewN _ | exact ((Touch.refl _ _).alloc _).drewN _ | exact (((Touch.refl _ _).alloc _).alloc _).drewN _)⟩
  | true =>
   have h2s : ((⟨n.toArray⟩ : ByteArray) == (⟨#[109, 114, 111, 119]⟩ : ByteArray)) = true := by rw [str_eq']; exact h2
   have h2t : ((⟨n.toArray⟩ : ByteArray) != (⟨#[109, 114, 111, 119]⟩ : ByteArray)) = false := by rw [bne, h2s]; rfl
   have h2l : (ByteArray.toList (⟨n.toArray⟩ : ByteArray) == [109, 114, 111, 119]) = true := by rw [ByteArray.toList_eq]; exact h2
   cases h14 : (m == ([109, 97, 116, 104] : List UInt8)) with
   | false =>
    have h14s : ((⟨m.toArray⟩ : ByteArray) == (⟨#[109, 97, 116, 104]⟩ : ByteArray)) = false := by rw [str_eq']; exact h14
    have h14t : ((⟨m.toArray⟩ : ByteArray) != (⟨#[109, 97, 116, 104]⟩ : ByteArray)) = true := by rw [bne, h14s]; rfl
    have h14l : (ByteArray.toList (⟨m.toArray⟩ : ByteArray) == [109, 97, 116, 104]) = false := by rw [ByteArray.toList_eq]; exact h14
    cases h15 : (m == ([109, 114, 111, 119] : List UInt8)) with
    | false =>
     have h15s : ((⟨m.toArray⟩ : ByteArray) == (⟨#[109, 114, 111, 119]⟩ : ByteArray)) = false := by rw [str_eq']; exact h15
     have h15t : ((⟨m.toArray⟩ : ByteArray) != (⟨#[109, 114, 111, 119]⟩ : ByteArray)) = true := by rw [bne, h15s]; rfl
     have h15l : (ByteArray.toList (⟨m.toArray⟩ : ByteArray) == [109, 114, 111, 119]) = false := by rw [ByteArray.toList_eq]; exact h15
     cases h16 : (m == ([109, 116, 100] : List UInt8)) with
     | false =>
      have h16s : ((⟨m.toArray⟩ : ByteArray) == (⟨#[109, 116, 100]⟩ : ByteArray)) = false := by rw [str_eq']; exact h16
      have h16t : ((⟨m.toArray⟩ : ByteArray) != (⟨#[109, 116, 100]⟩ : ByteArray)) = true := by rw [bne, h16s]; rfl
      have h16l : (ByteArray.toList (⟨m.toArray⟩ : ByteArray) == [109, 116, 100]) = false := by rw [ByteArray.toList_eq]; exact h16
      cases h17 : (m == ([109, 116, 114] : List UInt8)) with
      | false =>
       have h17s : ((⟨m.toArray⟩ : ByteArray) == (⟨#[109, 116, 114]⟩ : ByteArray)) = false := by rw [str_eq']; exact h17
       have h17t : ((⟨m.toArray⟩ : ByteArray) != (⟨#[109, 116, 114]⟩ : ByteArray)) = true := by rw [bne, h17s]; rfl
       have h17l : (ByteArray.toList (⟨m.toArray⟩ : ByteArray) == [109, 116, 114]) = false := by rw [ByteArray.toList_eq]; exact h17
       go_wp2_with fail
       go_ret;exact ⟨ret_bool' _ _ (by first | rfl | (simp only [*] <;> rfl)), (by first | exact (Touch.refl _ _) | exact (Touch.refl _ _).alloc _ | exact ((Touch.refl _ _).alloc _).alloc _ | exact (((Touch.refl _ _).alloc _).alloc _).alloc _ | exact (Touch.refl _ _).drewN _ | exact ((Touch.refl _ _).alloc _).drewN _ | exact (((Touch.refl _ _).alloc _).alloc _).drewN _)⟩
      | true =>
       have h17s : ((⟨m.toArray⟩ : ByteArray) == (⟨#[109, 116, 114]⟩ : ByteArray)) = true := by rw [str_eq']; exact h17
       have h17t : ((⟨m.toArray⟩ : ByteArray) != (⟨#[109, 116, 114]⟩ : ByteArray)) = false := by rw [bne, h17s]; rfl
       have h17l : (ByteArray.toList (⟨m.toArray⟩ : ByteArray) == [109, 116, 114]) = true := by rw [ByteArray.toList_eq]; exact h17
       go_wp2_with fail
       go_ret;exact ⟨ret_bool' _ _ (by first | rfl | (simp only [*] <;> rfl)), (by first | exact (Touch.refl _ _) | exact (Touch.refl _ _).alloc _ | exact ((Touch.refl _ _).alloc _).alloc _ | exact (((Touch.refl _ _).alloc _).alloc _).alloc _ | exact (Touch.refl _ _).drewN _ | exact ((Touch.refl _ _).alloc _).drewN _ | exact (((Touch.refl _ _).alloc _).alloc _).drewN _)⟩
     | true =>
      have h16s : ((⟨m.toArray⟩ : ByteArray) == (⟨#[109, 116, 100]⟩ : ByteArray)) = true := by rw [str_eq']; exact h16
      have h16t : ((⟨m.toArray⟩ : ByteArray) != (⟨#[109, 116, 100]⟩ : ByteArray)) = false := by rw [bne, h16s]; rfl
      have h16l : (ByteArray.toList (⟨m.toArray⟩ : ByteArray) == [109, 116, 100]) = true := by rw [ByteArray.toList_eq]; exact h16
      go_wp2_with fail
      go_ret;exact ⟨ret_bool' _ _ (by first | rfl | (simp only [*] <;> rfl)), (by first | exact (Touch.refl _ _) | exact (Touch.refl _ _).alloc _ | exact ((Touch.refl _ _).alloc _).alloc _ | exact (((Touch.refl _ _).alloc _).alloc _).alloc _ | exact (Touch.refl _ _).drewN _ | exact ((Touch.refl _ _).alloc _).drewN _ | exact (((Touch.refl _ _).alloc _).alloc _).drewN _)⟩
    | true =>
     have h15s : ((⟨m.toArray⟩ : ByteArray) == (⟨#[109, 114, 111, 119]⟩ : ByteArray)) = true := by rw [str_eq']; exact h15
     have h15t : ((⟨m.toArray⟩ : ByteArray) != (⟨#[109, 114, 111, 119]⟩ : ByteArray)) = false := by rw [bne, h15s]; rfl
     have h15l : (ByteArray.toList (⟨m.toArray⟩ : ByteArray) == [109, 114, 111, 119]) = true := by rw [ByteArray.toList_eq]; exact h15
     go_wp2_with fail
     go_ret;exact ⟨ret_bool' _ _ (by first | rfl | (simp only [*] <;> rfl)), (by first | exact (Touch.refl _ _) | exact (Touch.refl _ _).alloc _ | exact ((Touch.refl _ _).alloc _).alloc _ | exact (((Touch.refl _ _).alloc _).alloc _).alloc _ | exact (Touch.refl _ _).drewN _ | exact ((Touch.refl _ _).alloc _).drewN _ | exact (((Touch.refl _ _).alloc _).alloc _).drewN _)⟩
   | true =>
    have h14s : ((⟨m.toArray⟩ : ByteArray) == (⟨#[109, 97, 116, 104]⟩ : ByteArray)) = true := by rw [str_eq']; exact h14
    have h14t : ((⟨m.toArray⟩ : ByteArray) != (⟨#[109, 97, 116, 104]⟩ : ByteArray)) = false := by rw [bne, h14s]; rfl
    have h14l : (ByteArray.toList (⟨m.toArray⟩ : ByteArray) == [109, 97, 116, 104]) = true := by rw [ByteArray.toList_eq]; exact h14
    go_wp2_with fail
    go_ret;exact ⟨ret_bool' _ _ (by first | rfl | (simp only [*] <;> rfl)), (by first | exact (Touch.refl _ _) | exact (Touch.refl _ _).alloc _ | exact ((Touch.refl _ _).alloc _).alloc _ | exact (((Touch.refl _ _).alloc _).alloc _).alloc _ | exact (Touch.refl _ _).drewN _ | exact ((Touch.refl _ _).alloc _).drewN _ | exact (((Touch.refl _ _).alloc _).alloc _).drewN _)⟩
 | true =>
  have h1s : ((⟨n.toArray⟩ : ByteArray) == (⟨#[109, 97, 116, 104]⟩ : ByteArray)) = true := by rw [str_eq']; exact h1
  have h1t : ((⟨n.toArray⟩ : ByteArray) != (⟨#[109, 97, 116, 104]⟩ : ByteArray)) = false := by rw [bne, h1s]; rfl
  have h1l : (ByteArray.toList (⟨n.toArray⟩ : ByteArray) == [109, 97, 116, 104]) = true := by rw [ByteArray.toList_eq]; exact h1
  cases h18 : (m == ([109, 97, 116, 104] : List UInt8)) with
  | false =>
   have h18s : ((⟨m.toArray⟩ : ByteArray) == (⟨#[109, 97, 116, 104]⟩ : ByteArray)) = false := by rw [str_eq']; exact h18
   have h18t : ((⟨m.toArray⟩ : ByteArray) != (⟨#[109, 97, 116, 104]⟩ : ByteArray)) = true := by rw [bne, h18s]; rfl
   have h18l : (ByteArray.toList (⟨m.toArray⟩ : ByteArray) == [109, 97, 116, 104]) = false := by rw [ByteArray.toList_eq]; exact h18
   cases h19 : (m == ([109, 114, 111, 119] : List UInt8)) with
   | false =>
    have h19s : ((⟨m.toArray⟩ : ByteArray) == (⟨#[109, 114, 111, 119]⟩ : ByteArray)) = false := by rw [str_eq']; exact h19
    have h19t : ((⟨m.toArray⟩ : ByteArray) != (⟨#[109, 114, 111, 119]⟩ : ByteArray)) = true := by rw [bne, h19s]; rfl
    have h19l : (ByteArray.toList (⟨m.toArray⟩ : ByteArray) == [109, 114, 111, 119]) = false := by rw [ByteArray.toList_eq]; exact h19
    cases h20 : (m == ([109, 116, 100] : List UInt8)) with
    | false =>
     have h20s : ((⟨m.toArray⟩ : ByteArray) == (⟨#[109, 116, 100]⟩ : ByteArray)) = false := by rw [str_eq']; exact h20
     have h20t : ((⟨m.toArray⟩ : ByteArray) != (⟨#[109, 116, 100]⟩ : ByteArray)) = true := by rw [bne, h20s]; rfl
     have h20l : (ByteArray.toList (⟨m.toArray⟩ : ByteArray) == [109, 116, 100]) = false := by rw [ByteArray.toList_eq]; exact h20
     cases h21 : (m == ([109, 116, 114] : List UInt8)) with
     | false =>
      have h21s : ((⟨m.toArray⟩ : ByteArray) == (⟨#[109, 116, 114]⟩ : ByteArray)) = false := by rw [str_eq']; exact h21
      have h21t : ((⟨m.toArray⟩ : ByteArray) != (⟨#[109, 116, 114]⟩ : ByteArray)) = true := by rw [bne, h21s]; rfl
      have h21l : (ByteArray.toList (⟨m.toArray⟩ : ByteArray) == [109, 116, 114]) = false := by rw [ByteArray.toList_eq]; exact h21
      go_wp2_with fail
      go_ret;exact ⟨ret_bool' _ _ (by first | rfl | (simp only [*] <;> rfl)), (by first | exact (Touch.refl _ _) | exact (Touch.refl _ _).alloc _ | exact ((Touch.refl _ _).alloc _).alloc _ | exact (((Touch.refl _ _).alloc _).alloc _).alloc _ | exact (Touch.refl _ _).drewN _ | exact ((Touch.refl _ _).alloc _).drewN _ | exact (((Touch.refl _ _).alloc _).alloc _).drewN _)⟩
     | true =>
      have h21s : ((⟨m.toArray⟩ : ByteArray) == (⟨#[109, 116, 114]⟩ : ByteArray)) = true := by rw [str_eq']; exact h21
      have h21t : ((⟨m.toArray⟩ : ByteArray) != (⟨#[109, 116, 114]⟩ : ByteArray)) = false := by rw [bne, h21s]; rfl
      have h21l : (ByteArray.toList (⟨m.toArray⟩ : ByteArray) == [109, 116, 114]) = true := by rw [ByteArray.toList_eq]; exact h21
      go_wp2_with fail
      go_ret;exact ⟨ret_bool' _ _ (by first | rfl | (simp only [*] <;> rfl)), (by first | exact (Touch.refl _ _) | exact (Touch.refl _ _).alloc _ | exact ((Touch.refl _ _).alloc _).alloc _ | exact (((Touch.refl _ _).alloc _).alloc _).alloc _ | exact (Touch.refl _ _).drewN _ | exact ((Touch.refl _ _).alloc _).drewN _ | exact (((Touch.refl _ _).alloc _).alloc _).drewN _)⟩
    | true =>
     have h20s : ((⟨m.toArray⟩ : ByteArray) == (⟨#[109, 116, 100]⟩ : ByteArray)) = true := by rw [str_eq']; exact h20
     have h20t : ((⟨m.toArray⟩ : ByteArray) != (⟨#[109, 116, 100]⟩ : ByteArray)) = false := by rw [bne, h20s]; rfl
     have h20l : (ByteArray.toList (⟨m.toArray⟩ : ByteArray) == [109, 116, 100]) = true := by rw [ByteArray.toList_eq]; exact h20
     go_wp2_with fail
     go_ret;exact ⟨ret_bool' _ _ (by first | rfl | (simp only [*] <;> rfl)), (by first | exact (Touch.refl _ _) | exact (Touch.refl _ _).alloc _ | exact ((Touch.refl _ _).alloc _).alloc _ | exact (((Touch.refl _ _).alloc _).alloc _).alloc _ | exact (Touch.refl _ _).drewN _ | exact ((Touch.refl _ _).alloc _).drewN _ | exact (((Touch.refl _ _).alloc _).alloc _).drewN _)⟩
   | true =>
    have h19s : ((⟨m.toArray⟩ : ByteArray) == (⟨#[109, 114, 111, 119]⟩ : ByteArray)) = true := by rw [str_eq']; exact h19
    have h19t : ((⟨m.toArray⟩ : ByteArray) != (⟨#[109, 114, 111, 119]⟩ : ByteArray)) = false := by rw [bne, h19s]; rfl
    have h19l : (ByteArray.toList (⟨m.toArray⟩ : ByteArray) == [109, 114, 111, 119]) = true := by rw [ByteArray.toList_eq]; exact h19
    go_wp2_with fail
    go_ret;exact ⟨ret_bool' _ _ (by first | rfl | (simp only [*] <;> rfl)), (by first | exact (Touch.refl _ _) | exact (Touch.refl _ _).alloc _ | exact ((Touch.refl _ _).alloc _).alloc _ | exact (((Touch.refl _ _).alloc _).alloc _).alloc _ | exact (Touch.refl _ _).drewN _ | exact ((Touch.refl _ _).alloc _).drewN _ | exact (((Touch.refl _ _).alloc _).alloc _).drewN _)⟩
  | true =>
   have h18s : ((⟨m.toArray⟩ : ByteArray) == (⟨#[109, 97, 116, 104]⟩ : ByteArray)) = true := by rw [str_eq']; exact h18
   have h18t : ((⟨m.toArray⟩ : ByteArray) != (⟨#[109, 97, 116, 104]⟩ : ByteArray)) = false := by rw [bne, h18s]; rfl
   have h18l : (ByteArray.toList (⟨m.toArray⟩ : ByteArray) == [109, 97, 116, 104]) = true := by rw [ByteArray.toList_eq]; exact h18
   go_wp2_with fail
   go_ret;exact ⟨ret_bool' _ _ (by first | rfl | (simp only [*] <;> rfl)), (by first | exact (Touch.refl _ _) | exact (Touch.refl _ _).alloc _ | exact ((Touch.refl _ _).alloc _).alloc _ | exact (((Touch.refl _ _).alloc _).alloc _).alloc _ | exact (Touch.refl _ _).drewN _ | exact ((Touch.refl _ _).alloc _).drewN _ | exact (((Touch.refl _ _).alloc _).alloc _).drewN _)⟩
end Go.Proofs.YtnbeemkfmlfgfaaGreatDoor
