/- Part 4 of 11 of a proof; its texts, joined: SpB, PrC, PrI, PrD, PrE, PrF, PrG, PrH, PrJ, PrK, PrL. No condition. -/
import Derived.Test.YtilgpmpiidccjaaPp3
import Derived.Test.YtilgpmpiidccjaaPp1
import Derived.Deep.RegionLaw
import Derived.Test.YtilgpmpiidccjaaPp2

/- The walks of Joins, and of the reference's Letter, Joins, Quoted, Spell. -/
namespace Go.Proofs.Ytilgpmpiidccjaa
open Go.RowKit

def letB (b : UInt8) : Bool := Lx.isB 3 b
/-- Two tokens that join. -/
def joinsL (ka kb : Int) (tb : List UInt8) : Bool := (ka == 2 && kb == 2) || (ka == 4 && kb == 1 && (match tb with | [] => false | b :: _ => Lx.isB 3 b))

theorem letter_of_256 : ∀ n : Fin 256, (Lx.cls n.1 == 3) = (decide (97 ≤ n.1 ∧ n.1 ≤ 122) || decide (65 ≤ n.1 ∧ n.1 ≤ 90)) := by decide +kernel
theorem or32_of_256 : ∀ n : Fin 256, (Lx.cls n.1 == 3) = (decide ((97 : Int) ≤ bits .or .u8 (n.1 : Int) 32) && decide (bits .or .u8 (n.1 : Int) 32 ≤ (122 : Int))) := by decide +kernel

set_option maxHeartbeats 400000 in
theorem rLetter_any (x : Int) (b : UInt8) (hx : x = b.toNat) (w : World) :
    Calls Try.prog 84 #[.int .u8 x] w fun e w' => e = .returned (.bool (Lx.isB 3 b)) ∧ w' = w := by
  have h := letter_of_256 ⟨b.toNat, b.toNat_lt⟩
  have hb : Lx.isB 3 b = (Lx.cls b.toNat == 3) := rfl
  rw [hb, h]
  have HX := hid hx
  clear h hb hx
  by_cases c1 : 97 ≤ b.toNat ∧ b.toNat ≤ 122
  · have b1 : decide (97 ≤ x) = true := by rw [HX.out]; simp; omega
    have b2 : decide (x ≤ 122) = true := by rw [HX.out]; simp; omega
    have hr := hid (show (decide (97 ≤ b.toNat ∧ b.toNat ≤ 122) || decide (65 ≤ b.toNat ∧ b.toNat ≤ 90)) = true by simp [c1])
    clear c1
    go_enter Try.func84, Try.ntmps84
    go_wp2
    go_ret
    exact ⟨by rw [hr.out]; rfl, rfl⟩
  · by_cases c2 : 65 ≤ b.toNat ∧ b.toNat ≤ 90
    · have b1 : decide (97 ≤ x) = false := by rw [HX.out]; simp; omega
      have b3 : decide (65 ≤ x) = true := by rw [HX.out]; simp; omega
      have b4 : decide (x ≤ 90) = true := by rw [HX.out]; simp; omega
      have hr := hid (show (decide (97 ≤ b.toNat ∧ b.toNat ≤ 122) || decide (65 ≤ b.toNat ∧ b.toNat ≤ 90)) = true by simp [c2])
      clear c1 c2
      go_enter Try.func84, Try.ntmps84
      go_wp2
      go_ret
      exact ⟨by rw [hr.out]; rfl, rfl⟩
    · have hr := hid (show (decide (97 ≤ b.toNat ∧ b.toNat ≤ 122) || decide (65 ≤ b.toNat ∧ b.toNat ≤ 90)) = false by simp [c1, c2])
      by_cases d1 : 97 ≤ b.toNat
      · have b1 : decide (97 ≤ x) = true := by rw [HX.out]; simp; omega
        have b2 : decide (x ≤ 122) = false := by rw [HX.out]; simp; omega
        have b3 : decide (65 ≤ x) = true := by rw [HX.out]; simp; omega
        have b4 : decide (x ≤ 90) = false := by rw [HX.out]; simp; omega
        clear c1 c2 d1
        go_enter Try.func84, Try.ntmps84
        go_wp2
        go_ret
        exact ⟨by rw [hr.out]; rfl, rfl⟩
      · have b1 : decide (97 ≤ x) = false := by rw [HX.out]; simp; omega
        by_cases d2 : 65 ≤ b.toNat
        · have b3 : decide (65 ≤ x) = true := by rw [HX.out]; simp; omega
          have b4 : decide (x ≤ 90) = false := by rw [HX.out]; simp; omega
          clear c1 c2 d1 d2
          go_enter Try.func84, Try.ntmps84
          go_wp2
          go_ret
          exact ⟨by rw [hr.out]; rfl, rfl⟩
        · have b3 : decide (65 ≤ x) = false := by rw [HX.out]; simp; omega
          clear c1 c2 d1 d2
          go_enter Try.func84, Try.ntmps84
          go_wp2
          go_ret
          exact ⟨by rw [hr.out]; rfl, rfl⟩

theorem isEmpty_toList (s : ByteArray) : s.toList.isEmpty = decide (s.size = 0) := by
  rw [ByteArray.toList_eq, Bool.eq_iff_iff, List.isEmpty_iff_length_eq_zero, decide_eq_true_iff]
  simp

theorem head_list (s : ByteArray) (h : 0 < s.size) : s.data.toList = (s[0]'h) :: s.data.toList.drop 1 := by
  have := List.drop_eq_getElem_cons (l := s.data.toList) (i := 0) (by simpa using h)
  rw [List.drop_zero] at this
  exact this

theorem nil_list (s : ByteArray) (h : s.size = 0) : s.data.toList = [] := by
  apply List.eq_nil_of_length_eq_zero; simpa using h

theorem bool_ret (b c : Bool) (h : b = c) : Ending.returned (.bool b) = .returned (.bool c) := by rw [h]

set_option maxHeartbeats 400000 in
theorem joins_any (ka fa ta kb fb tb' : Int) (sa sb : ByteArray) (w : World) :
    Calls Try.prog 144 #[.agg #[.int .i64 ka, .string sa, .int .i64 fa, .int .i64 ta], .agg #[.int .i64 kb, .string sb, .int .i64 fb, .int .i64 tb']] w fun e w' => e = .returned (.bool (joinsL ka kb sb.data.toList)) ∧ Fresh w w' := by
  by_cases c1 : ka = 2
  · subst c1
    by_cases c2 : kb = 2
    · subst c2
      have hr := hid (show joinsL 2 2 sb.data.toList = true from rfl)
      go_enter Try.func144, Try.ntmps144
      go_wp2
      go_ret
      exact ⟨by rw [hr.out]; rfl, ((Touch.refl _ w).alloc _).alloc _⟩
    · have b2 : (kb == 2) = false := by simpa using c2
      have hr := hid (show joinsL 2 kb sb.data.toList = false by unfold joinsL; rw [b2]; rfl)
      clear c2
      go_enter Try.func144, Try.ntmps144
      go_wp2
      go_ret
      exact ⟨by rw [hr.out]; rfl, ((Touch.refl _ w).alloc _).alloc _⟩
  · have b1 : (ka == 2) = false := by simpa using c1
    by_cases c2 : ka = 4
    · subst c2
      clear b1 c1
      by_cases c3 : kb = 1
      · subst c3
        by_cases c4 : sb.size = 0
        · have hr := hid (show joinsL 4 1 sb.data.toList = false by rw [nil_list sb c4]; rfl)
          have b4 : sb.toList.isEmpty = true := by rw [isEmpty_toList, decide_eq_true_iff]; exact c4
          clear c4
          go_enter Try.func144, Try.ntmps144
          go_wp2
          go_ret
          exact ⟨by rw [hr.out]; rfl, ((Touch.refl _ w).alloc _).alloc _⟩
        · have h0 : 0 < sb.size := by omega
          have hr : joinsL 4 1 sb.data.toList = (decide ((97 : Int) ≤ bits .or .u8 ((sb[0]'h0).toNat : Int) 32) && decide (bits .or .u8 ((sb[0]'h0).toNat : Int) 32 ≤ (122 : Int))) := by
            rw [head_list sb h0]; exact or32_of_256 ⟨(sb[0]'h0).toNat, (sb[0]'h0).toNat_lt⟩
          rw [hr]
          clear hr c4
          have b4 : sb.toList.isEmpty = false := by rw [isEmpty_toList, decide_eq_false_iff_not]; omega
          cases d1 : decide ((97 : Int) ≤ bits .or .u8 ((sb[0]'h0).toNat : Int) 32) with
          | true =>
            go_enter Try.func144, Try.ntmps144
            go_wp2
            go_ret
            exact ⟨rfl, ((Touch.refl _ w).alloc _).alloc _⟩
          | false =>
            go_enter Try.func144, Try.ntmps144
            go_wp2
            go_ret
            exact ⟨rfl, ((Touch.refl _ w).alloc _).alloc _⟩
      · have b2 : (kb != 1) = true := by rw [bne_iff_ne]; exact c3
        have hr := hid (show joinsL 4 kb sb.data.toList = false by unfold joinsL; rw [beq_eq_false_iff_ne.2 c3]; rfl)
        clear c3
        go_enter Try.func144, Try.ntmps144
        go_wp2
        go_ret
        exact ⟨by rw [hr.out]; rfl, ((Touch.refl _ w).alloc _).alloc _⟩
    · have b2 : (ka != 4) = true := by rw [bne_iff_ne]; exact c2
      have hr := hid (show joinsL ka kb sb.data.toList = false by unfold joinsL; rw [b1, beq_eq_false_iff_ne.2 c2]; rfl)
      clear c1 c2
      go_enter Try.func144, Try.ntmps144
      go_wp2
      go_ret
      exact ⟨by rw [hr.out]; rfl, ((Touch.refl _ w).alloc _).alloc _⟩

set_option maxHeartbeats 400000 in
theorem rJoins_any (ka fa ta kb fb tb' : Int) (sa sb : ByteArray) (w : World) :
    Calls Try.prog 51 #[.agg #[.int .i64 ka, .string sa, .int .i64 fa, .int .i64 ta], .agg #[.int .i64 kb, .string sb, .int .i64 fb, .int .i64 tb']] w fun e w' => e = .returned (.bool (joinsL ka kb sb.data.toList)) ∧ Fresh w w' := by
  by_cases c1 : ka = 4
  · subst c1
    by_cases c2 : kb = 1
    · subst c2
      by_cases c4 : sb.size = 0
      · have hr := hid (show joinsL 4 1 sb.data.toList = false by rw [nil_list sb c4]; rfl)
        have b4 : decide (0 < sb.size) = false := by rw [decide_eq_false_iff_not]; omega
        clear c4
        go_enter Try.func51, Try.ntmps51
        go_wp2
        go_ret
        exact ⟨by rw [hr.out]; rfl, ((Touch.refl _ w).alloc _).alloc _⟩
      · have h0 : 0 < sb.size := by omega
        have hr := hid (show joinsL 4 1 sb.data.toList = Lx.isB 3 (sb[0]'h0) by rw [head_list sb h0]; rfl)
        have b4 : decide (0 < sb.size) = true := by rw [decide_eq_true_iff]; omega
        clear c4
        go_enter Try.func51, Try.ntmps51
        go_wp2_with fail
        refine (rLetter_any _ (sb[0]'h0) rfl _).mono ?_
        rintro e1 w1 ⟨rfl, rfl⟩
        go_wp2_with fail
        go_ret
        exact ⟨by rw [hr.out]; rfl, ((Touch.refl _ w).alloc _).alloc _⟩
    · have b2 : (kb == 1) = false := by simpa using c2
      have hr := hid (show joinsL 4 kb sb.data.toList = false by unfold joinsL; rw [b2]; rfl)
      clear c2
      go_enter Try.func51, Try.ntmps51
      go_wp2
      go_ret
      exact ⟨by rw [hr.out]; rfl, ((Touch.refl _ w).alloc _).alloc _⟩
  · have b1 : (ka == 4) = false := by simpa using c1
    by_cases c2 : ka = 2
    · subst c2
      by_cases c3 : kb = 2
      · subst c3
        have hr := hid (show joinsL 2 2 sb.data.toList = true from rfl)
        clear c1 b1
        go_enter Try.func51, Try.ntmps51
        go_wp2
        go_ret
        exact ⟨by rw [hr.out]; rfl, ((Touch.refl _ w).alloc _).alloc _⟩
      · have b3 : (kb == 2) = false := by simpa using c3
        have hr := hid (show joinsL 2 kb sb.data.toList = false by unfold joinsL; rw [b3]; rfl)
        clear c1 b1 c3
        go_enter Try.func51, Try.ntmps51
        go_wp2
        go_ret
        exact ⟨by rw [hr.out]; rfl, ((Touch.refl _ w).alloc _).alloc _⟩
    · have b2 : (ka == 2) = false := by simpa using c2
      have hr := hid (show joinsL ka kb sb.data.toList = false by unfold joinsL; rw [b1, b2]; rfl)
      clear c1 c2
      go_enter Try.func51, Try.ntmps51
      go_wp2
      go_ret
      exact ⟨by rw [hr.out]; rfl, ((Touch.refl _ w).alloc _).alloc _⟩
end Go.Proofs.Ytilgpmpiidccjaa

/- The walk of printer.add. -/
namespace Go.Proofs.Ytilgpmpiidccjaa
open Go.RowKit

theorem liesPr : liesAt Try.prog Try.prog.depth 65 (3 / Try.prog.cellsOf 65) 1 63 1 = true := by kernel_rfl
theorem infoTokP : (Try.prog.info? 74).map (fun i => (i.zero, i.size, i.bytes)) = some (some (.agg #[.int .i64 0, .string ⟨#[]⟩, .int .i64 0, .int .i64 0]), 4, 40) := by kernel_rfl

/-- An append to the call's own row, as one step of a region. -/
theorem step_append_own {P : Program} {ops : Array Oper} {o : Oper} {a : Act} {w : World} {K : Act → World → Prop} {Q : Exit → Act → World → Prop} {E : Prop}
    (hg : o.guard = none) (s x : Operand) (t : TypeId) (hop : o.op = Op.call { callee := Callee.builtin Builtin.append, args := #[s, x], argTypes := #[t, t] })
    (base : Nat) (e : TypeId) (i : TypeInfo) (z : Value) (size bytes : Nat) (ht : P.underlying t = some (.slice e)) (hi : P.info? e = some i) (hz : i.zero = some z)
    (hsize : i.size = size) (hby : i.bytes = bytes) (hzs : z.cells.size = size) (hsz : 0 < size)
    (v : Value) (n : Nat) (xs : List Value) (hs : a.eval s = v) (hown : w.ownsRow base e size v n xs)
    (ad : Addr) (m c : Nat) (news : List Value) (hx : a.eval x = .slice (some ad) m c) (hl : news.length = m * size) (hnews : ∀ j u, news[j]? = some u → w.cell? (ad.add j) = some u) (h1 : ∀ u ∈ news, u.oneCell' = true)
    (h63 : n + m ≤ maxLen) (hbytes : (n + m) * bytes ≤ 140737488355328) (hbase : base ≤ w.heap.size)
    (h : ∀ v' w', w'.ownsRow base e size v' (n + m) (xs ++ news) → w.grownBy w' v.ownBlock → K (a.put o.dst v') w') :
    if Region.wanted o (yielded ops a.tmps) = true then Oper.wp P o a w K Q else E := by
  have hw : Region.wanted o (yielded ops a.tmps) = true := by simp [Region.wanted, hg]
  rw [if_pos hw]
  exact wp_append_own w s x t hop base e i z size bytes ht hi hz hsize hby hzs hsz v n xs hs hown ad m c news hx hl hnews h1 h63 hbytes hbase fun v' w' h2 h3 _ => h v' w' h2 h3

/-- Does a token join with the last one? -/
def joinLast (toks : List Lx.PTok) (t : Lx.Tok) : Bool := match toks.getLast? with | none => false | some x => Lx.join (Lx.tok x) t
/-- What add writes ahead of a token. -/
def gap (toks : List Lx.PTok) (t : Lx.Tok) : List UInt8 := if joinLast toks t then [32] else []
/-- The tokens behind add. -/
def added (toks : List Lx.PTok) (txt : List UInt8) (t : Lx.Tok) : List Lx.PTok := toks ++ [⟨t.kind, t.text, (txt ++ gap toks t).length, (txt ++ gap toks t ++ Lx.spell t).length⟩]

theorem app_pr {W w' : World} {p B n : Nat} {vt vb v' : Value} {cs : Array Value} {toks : List Lx.PTok} {txt : List UInt8} {xs : List Value} {o : Obj} (h : Pr W p B vt vb cs toks txt) (ho : w'.ownsRow B 74 4 v' (n + 1) xs) (hg : ((W.alloc o).drew).grownBy w' vt.ownBlock) :
    ∃ g cap, v' = .slice (some ⟨g, 0, none⟩) (n + 1) cap ∧ w'.cell? ⟨p, 0, none⟩ = some vt ∧ w'.frozen? ⟨p, 0, none⟩ = false ∧ Hid (Touch (fun k => vt.ownBlock = some k) W w') ∧ Hid (w'.ownsRow B 74 4 v' (n + 1) xs) := by
  obtain ⟨g, cap, hv⟩ : ∃ g cap, v' = .slice (some ⟨g, 0, none⟩) (n + 1) cap := by
    rcases ho.2 with ⟨_, h0⟩ | ⟨g, cap, cur, hv, _⟩
    · omega
    · exact ⟨g, cap, hv⟩
  have ht : Touch (fun k => vt.ownBlock = some k) W w' := (((Touch.refl (fun k => vt.ownBlock = some k) W).alloc o).drew).grown hg (fun g hg => .inl hg)
  have hp : vt.ownBlock ≠ some p := fun e => by
    obtain ⟨h1, _⟩ := owns_type h.own e
    have := h.lt
    omega
  have hb := ht.blk h.bld.blk hp
  exact ⟨g, cap, hv, (hb.cell 0).trans h.tok, hb.frozen 0, ht, ho⟩

/-- Behind the append the printer holds one token more. -/
theorem Pr.appended {W w' : World} {p B : Nat} {vt vb v' : Value} {cs : Array Value} {toks : List Lx.PTok} {txt : List UInt8} {x : Lx.PTok} (h : Pr W p B vt vb cs toks txt) (ht : Touch (fun k => vt.ownBlock = some k) W w')
    (ho : w'.ownsRow B 74 4 v' (toks.length + 1) (toks.flatMap ptokCellsP ++ ptokCellsP x)) : Pr (w'.setCell ⟨p, 0, none⟩ v') p B v' vb (cs.setIfInBounds 0 v') (toks ++ [x]) txt ∧ Touch (PS p B W) W (w'.setCell ⟨p, 0, none⟩ v') := by
  have hsz := h.size
  have hlt := h.lt
  have hp : vt.ownBlock ≠ some p := fun e => by
    obtain ⟨h1, _⟩ := owns_type h.own e
    omega
  have hv : ∀ k, v'.ownBlock = some k → k ≠ p := fun k e => by
    have := (ho.lt k e).1
    omega
  have hb := ht.blk h.bld.blk hp
  have hvb : w'.ownsRow B 5 1 vb txt.length (Lib.byteCells txt) := ownsRow_touch h.bld.own ht fun k hk hs => by
    obtain ⟨_, cur, h2⟩ := owns_type h.bld.own hk
    obtain ⟨_, cur', h3⟩ := owns_type h.own hs
    rw [h2] at h3
    simp at h3
  have hset := (Touch.refl (fun k => k = p) w').setCell (p := ⟨p, 0, none⟩) (.inl rfl) v'
  refine ⟨⟨hlt, ⟨hb.put 0 v', ?_, ?_, ownsRow_touch hvb hset (fun k hk hs => h.bld.ne (hs ▸ hk)), h.bld.ne, h.bld.nilv⟩, by simp [hsz], by rw [Array.getElem?_setIfInBounds_self_of_lt (by omega)], ?_⟩, ?_⟩
  · rw [Array.getElem?_setIfInBounds_ne (by decide)]; exact h.bld.addr
  · rw [Array.getElem?_setIfInBounds_ne (by decide)]; exact h.bld.buf
  · have e : (toks ++ [x]).flatMap ptokCellsP = toks.flatMap ptokCellsP ++ ptokCellsP x := by simp
    rw [List.length_append, e]
    exact ownsRow_touch ho hset (fun k hk hs => hv k hk hs)
  · have h1 : Touch (PS p B W) W w' := ht.mono fun k hk => by
      obtain ⟨h1, cur, h2⟩ := owns_type h.own hk
      exact .inr ⟨h1, cur, _, _, h2, .inl rfl⟩
    exact h1.setCell (p := ⟨p, 0, none⟩) (.inl (.inl rfl)) v'

theorem news_of_blkP {W : World} {g : Nat} {t : TypeId} {cs : Array Value} (h : Blk W g t cs) : ∀ j u, cs.toList[j]? = some u → W.cell? ((⟨g, 0, none⟩ : Addr).add j) = some u := by
  intro j u hu
  rw [Addr.add_mid, Nat.zero_add, h.cell]
  simpa using hu

theorem spellL_le (k : Int) (t : List UInt8) : (Lx.spellL k t).length ≤ 2 * t.length + 6 := by
  unfold Lx.spellL
  have := Lx.esc_len t
  repeat' split
  · simp [Lx.quoteL]; omega
  · simp; omega
  · simp; omega
  · simp; omega
  · omega

set_option maxRecDepth 100000 in
set_option maxHeartbeats 4000000 in
theorem add_first {w : World} {p B : Nat} {vt vb : Value} {cs : Array Value} {txt : List UInt8} (h : Pr w p B vt vb cs [] txt) (k : Nat) (t : List UInt8) (hB : B ≤ w.heap.size) (hl : txt.length ≤ 1000000) (ht : t.length ≤ 1000000) :
    Calls Try.prog 122 #[.pointer (some ⟨p, 0, none⟩), .int .i64 (k : Int), .string ⟨t.toArray⟩] w fun e w' => e = .returned (.tuple #[]) ∧
      ∃ vt' vb' cs', Pr w' p B vt' vb' cs' (added [] txt ⟨k, t⟩) (txt ++ gap [] ⟨k, t⟩ ++ Lx.spell ⟨k, t⟩) ∧ Touch (PS p B w) w w' := by
  obtain ⟨i0, hi, hz0, hz1, hz2⟩ := info_parts infoTokP
  have hpt := h.bld.blk.lt
  obtain ⟨A, cap, rfl⟩ : ∃ A cap, vt = .slice A 0 cap := by
    rcases h.own.2 with ⟨h1, h2⟩ | ⟨g, cap, cur, h1, _⟩
    · exact ⟨none, 0, h1⟩
    · exact ⟨_, _, h1⟩
  have q0 : w.cell? ⟨p, 0, none⟩ = some (.slice A 0 cap) := (h.bld.blk.cell 0).trans h.tok
  have HP := hid h
  clear h
  go_enter Try.func122, Try.ntmps122
  go_wp2_with fail
  go_quiet (fail)
  go_wp2_with fail
  refine (bLen_any (HP.out.fresh (((Touch.refl _ w).alloc _).drewN _)).bld).mono ?_
  rintro _ _ ⟨rfl, rfl⟩
  go_wp2_with fail
  refine forget_world (fun W => Fresh w W ∧ Blk W w.heap.size 74 #[.int .i64 (k : Int), .string ⟨t.toArray⟩, .int .i64 (txt.length : Int), .int .i64 0]) ⟨(((Touch.refl _ w).alloc _).drewN _).setCell (.inr (Nat.le_refl _)) _, ((Blk.new w 74 _).drewN _).put 2 _⟩ ?_
  rintro W4 ⟨hf4, hb4⟩
  have hp4 := HP.out.fresh hf4
  obtain ⟨r0, r1, r2, r3, _, _, _, _, hg4⟩ := Blk.four hb4
  have g0 := cell_regrown r0
  have g1 := cell_regrown r1
  have g2 := cell_regrown r2
  have g3 := cell_regrown r3
  have C1 := hid (calmP (fun w => (spell_any k ⟨t.toArray⟩ txt.length 0 w (by show t.toArray.size ≤ _; simp; omega) : Calls Try.prog 146 _ w fun e w' => e = .returned (.string ⟨(Lx.spellL k t).toArray⟩) ∧ Fresh w w')) W4)
  have HF4 := hid hf4
  have HB4 := hid hb4
  have HP4 := hid hp4
  clear hf4 hb4 hp4 q0
  refine wp_region_segs_below [([0,1,2,3,4],5)] [] (by kernel_rfl) (by kernel_rfl) ?_
  simp only [wpSegsC, pick, List.getElem?_cons_zero, List.getElem?_cons_succ]
  repeat (quiet_step (with_reducible exact C1.out _ _))
  refine wpQuiet_nil ?_
  rintro W5 ⟨⟨_, _⟩, hW5⟩
  have hf5 : Fresh W4 W5 := by rw [hW5]; exact fresh_of_below (below_regrown _ _ _)
  have hp5 := HP4.out.fresh hf5
  have hb5 := hf5.blk HB4.out (fun h => h)
  have HF5 := hid hf5
  clear hW5 hf5 g0 g1 g2 g3 r0 r1 r2 r3
  have hsl := spellL_le k t
  have hB5 : B ≤ W5.heap.size := Nat.le_trans hB (Nat.le_trans HF4.out.size HF5.out.size)
  have hne : w.heap.size ≠ p := by omega
  have HW6 := hid (writeString_any hp5.bld hp5.lt (by rw [hp5.size]; exact liesPr) ⟨(Lx.spellL k t).toArray⟩ (by show txt.length + (Lx.spellL k t).toArray.size ≤ _; simp; omega) hB5)
  have HP5 := hid hp5
  have HB5 := hid hb5
  clear hp5 hb5
  go_wp2_with fail
  refine HW6.out.mono ?_
  rintro _ w6 ⟨rfl, vb6, hb6, ht6⟩
  have hp6 := HP5.out.wrote hb6 ht6
  have hpt6 : Touch (PS p B w) w w6 := PS.freshL (HF4.out.trans HF5.out) (PS.bld HP5.out ht6)
  have hbk6 := ht6.blk HB5.out (fun hs => hs.elim (fun h => hne h) (fun h => HP5.out.vb_ne HB5.out (by decide) h))
  have HP6a := hid hp6
  have HT6a := hid hpt6
  have HB6a := hid hbk6
  clear hb6 ht6 hp6 hpt6 hbk6 HW6
  go_wp2_with fail
  refine wpQuiet_nil ?_
  rintro W7 ⟨⟨_, _⟩, hW7⟩
  have hf7 : Fresh w6 W7 := by rw [hW7]; exact fresh_of_below (below_regrown _ _ _)
  have HP6 := hid (HP6a.out.fresh hf7)
  have HT6 := hid (PS.freshR HT6a.out hf7)
  have HB6 := hid (hf7.blk HB6a.out (fun h => h))
  clear hW7 hf7 HP6a HT6a HB6a
  go_wp2_with fail
  refine (bLen_any HP6.out.bld).mono ?_
  rintro _ _ ⟨rfl, rfl⟩
  obtain ⟨r0, r1, r2, r3, z0, z1, z2, z3, hg6⟩ := Blk.four HB6.out
  go_wp2_with fail
  refine forget_world (fun W => ∃ cs', Pr W p B (.slice A 0 cap) vb6 cs' [] (txt ++ (Lx.spellL k t)) ∧ Blk W w.heap.size 74 #[.int .i64 (k : Int), .string ⟨t.toArray⟩, .int .i64 (txt.length : Int), .int .i64 ((txt.length : Int) + ((Lx.spellL k t).length : Int))] ∧ Touch (PS p B w) w W) ⟨_, HP6.out.touch (S := fun k => k = w.heap.size) (Touch.setCell (S := fun k => k = w.heap.size) (Touch.refl _ _) (p := ⟨w.heap.size, 3, none⟩) (.inl rfl) _) (fun h => hne h.symm) (fun k hk h => by have := HP.out.vt_lt k hk; omega) (fun k hk h => HP6.out.vb_ne HB6.out (by decide) (h ▸ hk)), HB6.out.put 3 _, HT6.out.setCell (p := ⟨w.heap.size, 3, none⟩) (.inr (Nat.le_refl _)) _⟩ ?_
  rintro W8 ⟨cs8, hp8, hb8, ht8⟩
  have p0 : W8.cell? ⟨p, 0, none⟩ = some (.slice A 0 cap) := (hp8.bld.blk.cell 0).trans hp8.tok
  have pz : W8.frozen? ⟨p, 0, none⟩ = false := hp8.bld.blk.frozen 0
  obtain ⟨s0, s1, s2, s3, _, _, _, _, hg8⟩ := Blk.four hb8
  have HP8 := hid hp8
  have HB8 := hid hb8
  have HT8 := hid ht8
  have hown8 := hid hp8.own
  have hplt := hp8.bld.blk.lt
  have hB8 : B ≤ W8.heap.size := by have := ht8.size; omega
  clear hp8 hb8 ht8 r0 r1 r2 r3 z0 z1 z2 z3 HP6 HB6 HT6
  obtain ⟨tolen, hto⟩ : ∃ tolen : Int, (txt.length : Int) + ((Lx.spellL k t).length : Int) = tolen := ⟨_, rfl⟩
  rw [hto] at s3
  have hnew := hid (fun (o : Obj) (ho : o = .cells #[.int .i64 (k : Int), .string ⟨t.toArray⟩, .int .i64 (txt.length : Int), .int .i64 tolen] 74) => ho ▸ news_of_blkP (W := (W8.alloc o).drew) (g := W8.heap.size) (t := 74) (cs := #[.int .i64 (k : Int), .string ⟨t.toArray⟩, .int .i64 (txt.length : Int), .int .i64 tolen]) (ho ▸ (Blk.new W8 74 _)))
  go_region_law (refine step_append_own rfl (.tmp 56) (.tmp 58) 31 rfl B 74 i0 _ 4 40 Try.underlying31 hi hz0 hz1 hz2 rfl (by decide) (.slice A 0 cap) 0 [] (by simp [Act.eval]) ((hown8.out.alloc _).drew) ⟨W8.heap.size, 0, none⟩ 1 1 [.int .i64 (k : Int), .string ⟨t.toArray⟩, .int .i64 (txt.length : Int), .int .i64 tolen] (by simp [Act.eval]) rfl (hnew.out _ rfl) (by intro u hu; simp only [List.mem_cons, List.not_mem_nil, or_false] at hu; rcases hu with rfl | rfl | rfl | rfl <;> rfl) (by decide) (by decide) (by have := World.size_alloc W8; simp; omega) ?_; intro v9 w9 ho9 hg9; obtain ⟨g9, cap9, rfl, c9, z9, HT9, HO9⟩ := app_pr HP8.out ho9 hg9; clear ho9 hg9)
  all_goals
    go_end0
    obtain ⟨hpr, htc⟩ := HP8.out.appended (x := ⟨k, t, txt.length, (txt ++ Lx.spellL k t).length⟩) HT9.out (by
      have := HO9.out
      rw [← hto] at this
      simpa [ptokCellsP] using this)
    have e1 : txt ++ gap [] ⟨k, t⟩ ++ Lx.spell ⟨k, t⟩ = txt ++ Lx.spellL k t := by simp [gap, joinLast, Lx.spell]
    have e2 : added [] txt ⟨k, t⟩ = [] ++ [⟨k, t, txt.length, (txt ++ Lx.spellL k t).length⟩] := by
      unfold added
      rw [e1]
      simp [gap, joinLast]
    rw [e1, e2]
    exact ⟨rfl, _, vb6, _, hpr, PS.trans HT8.out htc⟩
end Go.Proofs.Ytilgpmpiidccjaa

/- The walk of printer.add behind other tokens. -/
namespace Go.Proofs.Ytilgpmpiidccjaa
open Go.RowKit

theorem toksP_cells {W : World} {B : Nat} {v : Value} {ts : List Lx.PTok} (h : W.ownsRow B 74 4 v ts.length (ts.flatMap ptokCellsP)) (i : Nat) (hi : i < ts.length) :
    ∃ g cap, v = .slice (some ⟨g, 0, none⟩) ts.length cap ∧ B ≤ g ∧ g < W.heap.size ∧ ∀ j u, (ptokCellsP ts[i])[j]? = some u → W.cell? ⟨g, 4 * i + j, none⟩ = some u := by
  rcases h.2 with ⟨_, h0⟩ | ⟨g, cap, cur, hv, hB, r⟩
  · omega
  · subst hv
    refine ⟨g, cap, rfl, hB, (h.lt g rfl).2, fun j u hu => ?_⟩
    have hcl := h.cells (g := g) rfl (4 * i + j) u ?_
    · rw [Addr.add_mid, Nat.zero_add] at hcl; exact hcl
    · have hj : j < 4 := by have := (List.getElem?_eq_some_iff.1 hu).1; simpa [ptokCellsP] using this
      clear h r
      induction ts generalizing i with
      | nil => simp at hi
      | cons x l ih =>
        cases i with
        | zero => rw [List.flatMap_cons, List.getElem?_append_left (by simp [ptokCellsP]; omega)]; simpa using hu
        | succ i =>
          rw [List.flatMap_cons, List.getElem?_append_right (by simp [ptokCellsP]; omega)]
          have := ih i (by simpa using hi) (by simpa using hu)
          rw [← this]; congr 1; simp [ptokCellsP]; omega

theorem tokP_four {W W' : World} {x : Lx.PTok} {g i : Nat} (h : ∀ j u, (ptokCellsP x)[j]? = some u → W.cell? ⟨g, 4 * i + j, none⟩ = some u) (ht : Fresh W W') :
    W'.cell? ⟨g, i * 4, none⟩ = some (.int .i64 x.kind) ∧ W'.cell? ⟨g, i * 4 + 1, none⟩ = some (.string ⟨x.text.toArray⟩) ∧ W'.cell? ⟨g, i * 4 + 2, none⟩ = some (.int .i64 x.from_) ∧ W'.cell? ⟨g, i * 4 + 3, none⟩ = some (.int .i64 x.to_) := by
  rw [Nat.mul_comm i 4]
  exact ⟨ht.cell (h 0 _ rfl) (fun h => h), ht.cell (h 1 _ rfl) (fun h => h), ht.cell (h 2 _ rfl) (fun h => h), ht.cell (h 3 _ rfl) (fun h => h)⟩

theorem gap_of {toks : List Lx.PTok} {y : Lx.PTok} {m k : Nat} {t : List UInt8} {j : Bool} (hm : toks.length = m + 1) (hy : toks[m]? = some y) (hj : joinsL (y.kind : Int) (k : Int) (ByteArray.mk t.toArray).data.toList = j) : gap toks ⟨k, t⟩ = if j then [32] else [] := by
  have e0 : toks.getLast? = some y := by rw [List.getLast?_eq_getElem?, hm]; exact hy
  have e2 : ∀ a n : Nat, ((a : Int) == (n : Int)) = (a == n) := fun a n => by rw [Bool.eq_iff_iff]; simp; omega
  have e1 : joinLast toks ⟨k, t⟩ = j := by
    rw [← hj]
    unfold joinLast
    rw [e0]
    unfold joinsL
    have a1 : ((y.kind : Int) == 2) = (y.kind == 2) := e2 y.kind 2
    have a2 : ((k : Int) == 2) = (k == 2) := e2 k 2
    have a3 : ((y.kind : Int) == 4) = (y.kind == 4) := e2 y.kind 4
    have a4 : ((k : Int) == 1) = (k == 1) := e2 k 1
    rw [a1, a2, a3, a4]
    rfl
  unfold gap
  rw [e1]

set_option maxRecDepth 100000 in
set_option maxHeartbeats 4000000 in
theorem add_more {w : World} {p B : Nat} {vt vb : Value} {cs : Array Value} {txt : List UInt8} {toks : List Lx.PTok} {y : Lx.PTok} {m : Nat} (hm : toks.length = m + 1) (hy : toks[m]? = some y) (h : Pr w p B vt vb cs toks txt) (k : Nat) (t : List UInt8) (hB : B ≤ w.heap.size) (hl : txt.length ≤ 1000000) (ht : t.length ≤ 1000000) (hn : m ≤ 1000000) :
    Calls Try.prog 122 #[.pointer (some ⟨p, 0, none⟩), .int .i64 (k : Int), .string ⟨t.toArray⟩] w fun e w' => e = .returned (.tuple #[]) ∧
      ∃ vt' vb' cs', Pr w' p B vt' vb' cs' (added toks txt ⟨k, t⟩) (txt ++ gap toks ⟨k, t⟩ ++ Lx.spell ⟨k, t⟩) ∧ Touch (PS p B w) w w' := by
  obtain ⟨i0, hi, hz0, hz1, hz2⟩ := info_parts infoTokP
  have hpt := h.bld.blk.lt
  obtain ⟨A, cap, hvt, hA1, hA2, hcells⟩ := toksP_cells h.own m (by omega)
  have ey : toks[m]'(by omega) = y := by rw [List.getElem?_eq_getElem (by omega)] at hy; simpa using hy
  rw [ey] at hcells
  rw [hm] at hvt
  subst hvt
  have q0 : w.cell? ⟨p, 0, none⟩ = some (.slice (some ⟨A, 0, none⟩) (m + 1) cap) := (h.bld.blk.cell 0).trans h.tok
  have hA : A ≠ p := by have := h.lt; omega
  have HP := hid h
  have HC := hid hcells
  clear h hcells
  go_enter Try.func122, Try.ntmps122
  go_wp2_with fail
  refine forget_world (fun W => Fresh w W ∧ Blk W w.heap.size 74 #[.int .i64 (k : Int), .string ⟨t.toArray⟩, .int .i64 0, .int .i64 0]) ⟨(((Touch.refl _ w).alloc _)), ((Blk.new w 74 _))⟩ ?_
  rintro W1 ⟨hf1, hb1⟩
  have q1 := hf1.cell q0 (fun h => h)
  obtain ⟨u0, u1, u2, u3⟩ := tokP_four (i := m) HC.out hf1
  obtain ⟨r0, r1, r2, r3, _, _, _, _, hg1⟩ := Blk.four hb1
  have g0 := cell_regrown r0
  have g1 := cell_regrown r1
  have g2 := cell_regrown r2
  have g3 := cell_regrown r3
  have k0 := cell_regrown u0
  have k1 := cell_regrown u1
  have k2 := cell_regrown u2
  have k3 := cell_regrown u3
  have kq := cell_regrown q1
  have d1 : ((m : Int) + 1 - 1) = (m : Int) := by omega
  have d2 : IntKind.i64.wrap (m : Int) = (m : Int) := IntWalk.i64_in _ (by omega)
  have d3 : (m : Int) < (m : Int) + 1 := by omega
  have C1 := hid (calmP (fun w => joins_any y.kind y.from_ y.to_ k 0 0 ⟨y.text.toArray⟩ ⟨t.toArray⟩ w) W1)
  obtain ⟨j, hj⟩ : ∃ j, joinsL (y.kind : Int) (k : Int) (ByteArray.mk t.toArray).data.toList = j := ⟨_, rfl⟩
  rw [hj] at C1
  have HP1 := hid (HP.out.fresh hf1)
  have HF1 := hid hf1
  have HB1 := hid hb1
  clear hf1 hb1 q0
  refine wp_region_quiet_below (by kernel_rfl) (by kernel_rfl) ?_
  repeat (quiet_step (with_reducible exact C1.out _ _))
  refine wpQuiet_nil ?_
  rintro W2 ⟨⟨_, _⟩, hW2⟩
  have hf2 : Fresh W1 W2 := by rw [hW2]; exact fresh_of_below (below_regrown _ _ _)
  have HP2 := hid (HP1.out.fresh hf2)
  have HB2 := hid (hf2.blk HB1.out (fun h => h))
  have HT2 := hid (PS.fresh (p := p) (B := B) (HF1.out.trans hf2))
  have hgap := gap_of hm hy hj
  obtain ⟨txt1, htx⟩ : ∃ txt1, txt ++ gap toks ⟨k, t⟩ = txt1 := ⟨_, rfl⟩
  have hB2 : B ≤ W2.heap.size := by have := HT2.out.size; omega
  have hne : w.heap.size ≠ p := by omega
  clear hW2 hf2 g0 g1 g2 g3 k0 k1 k2 k3 kq r0 r1 r2 r3 u0 u1 u2 u3 q1 hg1 C1 HP1 HB1 HF1 hj d1 d2 d3
  cases j
  · rw [hgap] at htx
    have htx' : txt = txt1 := by simpa using htx
    rw [htx'] at HP2
    have hl1 : txt1.length ≤ 1000001 := by rw [← htx']; omega
    have HPa := HP2
    have HBa := HB2
    have HTa := HT2
    obtain ⟨Wa, hWa⟩ : ∃ Wa, W2 = Wa := ⟨_, rfl⟩
    subst hWa
    obtain ⟨vba, hva⟩ : ∃ v, vb = v := ⟨_, rfl⟩
    subst hva
    go_wp2_with fail
    refine (bLen_any HPa.out.bld).mono ?_
    rintro _ _ ⟨rfl, rfl⟩
    obtain ⟨r0, r1, r2, r3, z0, z1, z2, z3, hg2⟩ := Blk.four HBa.out
    go_wp2_with fail
    refine forget_world (fun W => ∃ cs', Pr W p B (.slice (some ⟨A, 0, none⟩) (m + 1) cap) vb cs' toks txt1 ∧ Blk W w.heap.size 74 #[.int .i64 (k : Int), .string ⟨t.toArray⟩, .int .i64 (txt1.length : Int), .int .i64 0] ∧ Touch (PS p B w) w W) ⟨_, HPa.out.touch (S := fun k => k = w.heap.size) (Touch.setCell (S := fun k => k = w.heap.size) (Touch.refl _ _) (p := ⟨w.heap.size, 2, none⟩) (.inl rfl) _) (fun h => hne h.symm) (fun k hk h => by simp [Value.ownBlock] at hk; omega) (fun k hk h => HPa.out.vb_ne HBa.out (by decide) (h ▸ hk)), HBa.out.put 2 _, HTa.out.setCell (p := ⟨w.heap.size, 2, none⟩) (.inr (Nat.le_refl _)) _⟩ ?_
    rintro W4 ⟨cs4, hp4, hb4, ht4⟩
    clear r0 r1 r2 r3 z0 z1 z2 z3
    obtain ⟨r0, r1, r2, r3, _, _, _, _, hg4⟩ := Blk.four hb4
    have g0 := cell_regrown r0
    have g1 := cell_regrown r1
    have g2 := cell_regrown r2
    have g3 := cell_regrown r3
    have C1 := hid (calmP (fun w => (spell_any k ⟨t.toArray⟩ txt1.length 0 w (by show t.toArray.size ≤ _; simp; omega) : Calls Try.prog 146 _ w fun e w' => e = .returned (.string ⟨(Lx.spellL k t).toArray⟩) ∧ Fresh w w')) W4)
    have HT4 := hid ht4
    have HB4 := hid hb4
    have HP4 := hid hp4
    clear ht4 hb4 hp4
    refine wp_region_segs_below [([0,1,2,3,4],5)] [] (by kernel_rfl) (by kernel_rfl) ?_
    simp only [wpSegsC, pick, List.getElem?_cons_zero, List.getElem?_cons_succ]
    repeat (quiet_step (with_reducible exact C1.out _ _))
    refine wpQuiet_nil ?_
    rintro W5 ⟨⟨_, _⟩, hW5⟩
    have hf5 : Fresh W4 W5 := by rw [hW5]; exact fresh_of_below (below_regrown _ _ _)
    have hp5 := HP4.out.fresh hf5
    have hb5 := hf5.blk HB4.out (fun h => h)
    have ht5 := PS.freshR HT4.out hf5
    clear hW5 hf5 g0 g1 g2 g3 r0 r1 r2 r3
    have hsl := spellL_le k t
    have hB5 : B ≤ W5.heap.size := Nat.le_trans hB ht5.size
    have HW6 := hid (writeString_any hp5.bld hp5.lt (by rw [hp5.size]; exact liesPr) ⟨(Lx.spellL k t).toArray⟩ (by show txt1.length + (Lx.spellL k t).toArray.size ≤ _; simp; omega) hB5)
    have HP5 := hid hp5
    have HB5 := hid hb5
    have HT5 := hid ht5
    clear hp5 hb5 ht5
    go_wp2_with fail
    refine HW6.out.mono ?_
    rintro _ w6 ⟨rfl, vb6, hb6, ht6⟩
    have hp6 := HP5.out.wrote hb6 ht6
    have hpt6 : Touch (PS p B w) w w6 := PS.trans HT5.out (PS.bld HP5.out ht6)
    have hbk6 := ht6.blk HB5.out (fun hs => hs.elim (fun h => hne h) (fun h => HP5.out.vb_ne HB5.out (by decide) h))
    have HP6a := hid hp6
    have HT6a := hid hpt6
    have HB6a := hid hbk6
    clear hb6 ht6 hp6 hpt6 hbk6 HW6
    go_wp2_with fail
    refine wpQuiet_nil ?_
    rintro W7 ⟨⟨_, _⟩, hW7⟩
    have hf7 : Fresh w6 W7 := by rw [hW7]; exact fresh_of_below (below_regrown _ _ _)
    have HP6 := hid (HP6a.out.fresh hf7)
    have HT6 := hid (PS.freshR HT6a.out hf7)
    have HB6 := hid (hf7.blk HB6a.out (fun h => h))
    clear hW7 hf7 HP6a HT6a HB6a
    go_wp2_with fail
    refine (bLen_any HP6.out.bld).mono ?_
    rintro _ _ ⟨rfl, rfl⟩
    obtain ⟨r0, r1, r2, r3, z0, z1, z2, z3, hg6⟩ := Blk.four HB6.out
    go_wp2_with fail
    refine forget_world (fun W => ∃ cs', Pr W p B (.slice (some ⟨A, 0, none⟩) (m + 1) cap) vb6 cs' toks (txt1 ++ (Lx.spellL k t)) ∧ Blk W w.heap.size 74 #[.int .i64 (k : Int), .string ⟨t.toArray⟩, .int .i64 (txt1.length : Int), .int .i64 ((txt1.length : Int) + ((Lx.spellL k t).length : Int))] ∧ Touch (PS p B w) w W) ⟨_, HP6.out.touch (S := fun k => k = w.heap.size) (Touch.setCell (S := fun k => k = w.heap.size) (Touch.refl _ _) (p := ⟨w.heap.size, 3, none⟩) (.inl rfl) _) (fun h => hne h.symm) (fun k hk h => by simp [Value.ownBlock] at hk; omega) (fun k hk h => HP6.out.vb_ne HB6.out (by decide) (h ▸ hk)), HB6.out.put 3 _, HT6.out.setCell (p := ⟨w.heap.size, 3, none⟩) (.inr (Nat.le_refl _)) _⟩ ?_
    rintro W8 ⟨cs8, hp8, hb8, ht8⟩
    have p0 : W8.cell? ⟨p, 0, none⟩ = some (.slice (some ⟨A, 0, none⟩) (m + 1) cap) := (hp8.bld.blk.cell 0).trans hp8.tok
    have pz : W8.frozen? ⟨p, 0, none⟩ = false := hp8.bld.blk.frozen 0
    obtain ⟨s0, s1, s2, s3, _, _, _, _, hg8⟩ := Blk.four hb8
    have HP8 := hid hp8
    have HB8 := hid hb8
    have HT8 := hid ht8
    have hown8 := hid (hm ▸ hp8.own : W8.ownsRow B 74 4 _ (m + 1) _)
    have hplt := hp8.bld.blk.lt
    have hB8 : B ≤ W8.heap.size := by have := ht8.size; omega
    clear hp8 hb8 ht8 r0 r1 r2 r3 z0 z1 z2 z3 HP6 HB6 HT6
    obtain ⟨tolen, hto⟩ : ∃ tolen : Int, (txt1.length : Int) + ((Lx.spellL k t).length : Int) = tolen := ⟨_, rfl⟩
    rw [hto] at s3
    have hnew := hid (fun (o : Obj) (ho : o = .cells #[.int .i64 (k : Int), .string ⟨t.toArray⟩, .int .i64 (txt1.length : Int), .int .i64 tolen] 74) => ho ▸ news_of_blkP (W := (W8.alloc o).drew) (g := W8.heap.size) (t := 74) (cs := #[.int .i64 (k : Int), .string ⟨t.toArray⟩, .int .i64 (txt1.length : Int), .int .i64 tolen]) (ho ▸ (Blk.new W8 74 _)))
    have hmx : maxLen = 9223372036854775807 := rfl
    go_region_law (refine step_append_own rfl (.tmp 56) (.tmp 58) 31 rfl B 74 i0 _ 4 40 Try.underlying31 hi hz0 hz1 hz2 rfl (by decide) (.slice (some ⟨A, 0, none⟩) (m + 1) cap) (m + 1) _ (by simp [Act.eval]) ((hown8.out.alloc _).drew) ⟨W8.heap.size, 0, none⟩ 1 1 [.int .i64 (k : Int), .string ⟨t.toArray⟩, .int .i64 (txt1.length : Int), .int .i64 tolen] (by simp [Act.eval]) rfl (hnew.out _ rfl) (by intro u hu; simp only [List.mem_cons, List.not_mem_nil, or_false] at hu; rcases hu with rfl | rfl | rfl | rfl <;> rfl) (by omega) (by omega) (by have := World.size_alloc W8; simp; omega) ?_; intro v9 w9 ho9 hg9; obtain ⟨g9, cap9, rfl, c9, z9, HT9, HO9⟩ := app_pr HP8.out ho9 hg9; clear ho9 hg9)
    all_goals
      go_end0
      obtain ⟨hpr, htc⟩ := HP8.out.appended (x := ⟨k, t, txt1.length, (txt1 ++ Lx.spellL k t).length⟩) HT9.out (by
        have := HO9.out
        rw [← hto] at this
        rw [hm]
        simpa [ptokCellsP] using this)
      unfold added
      rw [hgap]
      rw [htx]
      exact ⟨rfl, _, vb6, _, hpr, PS.trans HT8.out htc⟩
  · rw [hgap] at htx
    have htx' : txt ++ [32] = txt1 := by simpa using htx
    have hl1 : txt1.length ≤ 1000001 := by rw [← htx']; simp; omega
    have HWB := hid (writeByte_any HP2.out.bld (by rw [HP2.out.size]; exact liesPr) 32 32 rfl (by omega) hB2)
    go_wp2_with fail
    refine HWB.out.mono ?_
    rintro _ W3 ⟨rfl, vb3, hb3, ht3⟩
    have hp3 := HP2.out.wrote hb3 ht3
    rw [htx'] at hp3
    have HPa := hid hp3
    have HTa := hid (PS.trans HT2.out (PS.bld HP2.out ht3))
    have HBa := hid (ht3.blk HB2.out (fun hs => hs.elim (fun h => hne h) (fun h => HP2.out.vb_ne HB2.out (by decide) h)))
    clear hb3 ht3 hp3 HWB HP2 HB2 HT2
    go_wp2_with fail
    refine (bLen_any HPa.out.bld).mono ?_
    rintro _ _ ⟨rfl, rfl⟩
    obtain ⟨r0, r1, r2, r3, z0, z1, z2, z3, hg2⟩ := Blk.four HBa.out
    go_wp2_with fail
    refine forget_world (fun W => ∃ cs', Pr W p B (.slice (some ⟨A, 0, none⟩) (m + 1) cap) vb3 cs' toks txt1 ∧ Blk W w.heap.size 74 #[.int .i64 (k : Int), .string ⟨t.toArray⟩, .int .i64 (txt1.length : Int), .int .i64 0] ∧ Touch (PS p B w) w W) ⟨_, HPa.out.touch (S := fun k => k = w.heap.size) (Touch.setCell (S := fun k => k = w.heap.size) (Touch.refl _ _) (p := ⟨w.heap.size, 2, none⟩) (.inl rfl) _) (fun h => hne h.symm) (fun k hk h => by simp [Value.ownBlock] at hk; omega) (fun k hk h => HPa.out.vb_ne HBa.out (by decide) (h ▸ hk)), HBa.out.put 2 _, HTa.out.setCell (p := ⟨w.heap.size, 2, none⟩) (.inr (Nat.le_refl _)) _⟩ ?_
    rintro W4 ⟨cs4, hp4, hb4, ht4⟩
    clear r0 r1 r2 r3 z0 z1 z2 z3
    obtain ⟨r0, r1, r2, r3, _, _, _, _, hg4⟩ := Blk.four hb4
    have g0 := cell_regrown r0
    have g1 := cell_regrown r1
    have g2 := cell_regrown r2
    have g3 := cell_regrown r3
    have C1 := hid (calmP (fun w => (spell_any k ⟨t.toArray⟩ txt1.length 0 w (by show t.toArray.size ≤ _; simp; omega) : Calls Try.prog 146 _ w fun e w' => e = .returned (.string ⟨(Lx.spellL k t).toArray⟩) ∧ Fresh w w')) W4)
    have HT4 := hid ht4
    have HB4 := hid hb4
    have HP4 := hid hp4
    clear ht4 hb4 hp4
    refine wp_region_segs_below [([0,1,2,3,4],5)] [] (by kernel_rfl) (by kernel_rfl) ?_
    simp only [wpSegsC, pick, List.getElem?_cons_zero, List.getElem?_cons_succ]
    repeat (quiet_step (with_reducible exact C1.out _ _))
    refine wpQuiet_nil ?_
    rintro W5 ⟨⟨_, _⟩, hW5⟩
    have hf5 : Fresh W4 W5 := by rw [hW5]; exact fresh_of_below (below_regrown _ _ _)
    have hp5 := HP4.out.fresh hf5
    have hb5 := hf5.blk HB4.out (fun h => h)
    have ht5 := PS.freshR HT4.out hf5
    clear hW5 hf5 g0 g1 g2 g3 r0 r1 r2 r3
    have hsl := spellL_le k t
    have hB5 : B ≤ W5.heap.size := Nat.le_trans hB ht5.size
    have HW6 := hid (writeString_any hp5.bld hp5.lt (by rw [hp5.size]; exact liesPr) ⟨(Lx.spellL k t).toArray⟩ (by show txt1.length + (Lx.spellL k t).toArray.size ≤ _; simp; omega) hB5)
    have HP5 := hid hp5
    have HB5 := hid hb5
    have HT5 := hid ht5
    clear hp5 hb5 ht5
    go_wp2_with fail
    refine HW6.out.mono ?_
    rintro _ w6 ⟨rfl, vb6, hb6, ht6⟩
    have hp6 := HP5.out.wrote hb6 ht6
    have hpt6 : Touch (PS p B w) w w6 := PS.trans HT5.out (PS.bld HP5.out ht6)
    have hbk6 := ht6.blk HB5.out (fun hs => hs.elim (fun h => hne h) (fun h => HP5.out.vb_ne HB5.out (by decide) h))
    have HP6a := hid hp6
    have HT6a := hid hpt6
    have HB6a := hid hbk6
    clear hb6 ht6 hp6 hpt6 hbk6 HW6
    go_wp2_with fail
    refine wpQuiet_nil ?_
    rintro W7 ⟨⟨_, _⟩, hW7⟩
    have hf7 : Fresh w6 W7 := by rw [hW7]; exact fresh_of_below (below_regrown _ _ _)
    have HP6 := hid (HP6a.out.fresh hf7)
    have HT6 := hid (PS.freshR HT6a.out hf7)
    have HB6 := hid (hf7.blk HB6a.out (fun h => h))
    clear hW7 hf7 HP6a HT6a HB6a
    go_wp2_with fail
    refine (bLen_any HP6.out.bld).mono ?_
    rintro _ _ ⟨rfl, rfl⟩
    obtain ⟨r0, r1, r2, r3, z0, z1, z2, z3, hg6⟩ := Blk.four HB6.out
    go_wp2_with fail
    refine forget_world (fun W => ∃ cs', Pr W p B (.slice (some ⟨A, 0, none⟩) (m + 1) cap) vb6 cs' toks (txt1 ++ (Lx.spellL k t)) ∧ Blk W w.heap.size 74 #[.int .i64 (k : Int), .string ⟨t.toArray⟩, .int .i64 (txt1.length : Int), .int .i64 ((txt1.length : Int) + ((Lx.spellL k t).length : Int))] ∧ Touch (PS p B w) w W) ⟨_, HP6.out.touch (S := fun k => k = w.heap.size) (Touch.setCell (S := fun k => k = w.heap.size) (Touch.refl _ _) (p := ⟨w.heap.size, 3, none⟩) (.inl rfl) _) (fun h => hne h.symm) (fun k hk h => by simp [Value.ownBlock] at hk; omega) (fun k hk h => HP6.out.vb_ne HB6.out (by decide) (h ▸ hk)), HB6.out.put 3 _, HT6.out.setCell (p := ⟨w.heap.size, 3, none⟩) (.inr (Nat.le_refl _)) _⟩ ?_
    rintro W8 ⟨cs8, hp8, hb8, ht8⟩
    have p0 : W8.cell? ⟨p, 0, none⟩ = some (.slice (some ⟨A, 0, none⟩) (m + 1) cap) := (hp8.bld.blk.cell 0).trans hp8.tok
    have pz : W8.frozen? ⟨p, 0, none⟩ = false := hp8.bld.blk.frozen 0
    obtain ⟨s0, s1, s2, s3, _, _, _, _, hg8⟩ := Blk.four hb8
    have HP8 := hid hp8
    have HB8 := hid hb8
    have HT8 := hid ht8
    have hown8 := hid (hm ▸ hp8.own : W8.ownsRow B 74 4 _ (m + 1) _)
    have hplt := hp8.bld.blk.lt
    have hB8 : B ≤ W8.heap.size := by have := ht8.size; omega
    clear hp8 hb8 ht8 r0 r1 r2 r3 z0 z1 z2 z3 HP6 HB6 HT6
    obtain ⟨tolen, hto⟩ : ∃ tolen : Int, (txt1.length : Int) + ((Lx.spellL k t).length : Int) = tolen := ⟨_, rfl⟩
    rw [hto] at s3
    have hnew := hid (fun (o : Obj) (ho : o = .cells #[.int .i64 (k : Int), .string ⟨t.toArray⟩, .int .i64 (txt1.length : Int), .int .i64 tolen] 74) => ho ▸ news_of_blkP (W := (W8.alloc o).drew) (g := W8.heap.size) (t := 74) (cs := #[.int .i64 (k : Int), .string ⟨t.toArray⟩, .int .i64 (txt1.length : Int), .int .i64 tolen]) (ho ▸ (Blk.new W8 74 _)))
    have hmx : maxLen = 9223372036854775807 := rfl
    go_region_law (refine step_append_own rfl (.tmp 56) (.tmp 58) 31 rfl B 74 i0 _ 4 40 Try.underlying31 hi hz0 hz1 hz2 rfl (by decide) (.slice (some ⟨A, 0, none⟩) (m + 1) cap) (m + 1) _ (by simp [Act.eval]) ((hown8.out.alloc _).drew) ⟨W8.heap.size, 0, none⟩ 1 1 [.int .i64 (k : Int), .string ⟨t.toArray⟩, .int .i64 (txt1.length : Int), .int .i64 tolen] (by simp [Act.eval]) rfl (hnew.out _ rfl) (by intro u hu; simp only [List.mem_cons, List.not_mem_nil, or_false] at hu; rcases hu with rfl | rfl | rfl | rfl <;> rfl) (by omega) (by omega) (by have := World.size_alloc W8; simp; omega) ?_; intro v9 w9 ho9 hg9; obtain ⟨g9, cap9, rfl, c9, z9, HT9, HO9⟩ := app_pr HP8.out ho9 hg9; clear ho9 hg9)
    all_goals
      go_end0
      obtain ⟨hpr, htc⟩ := HP8.out.appended (x := ⟨k, t, txt1.length, (txt1 ++ Lx.spellL k t).length⟩) HT9.out (by
        have := HO9.out
        rw [← hto] at this
        rw [hm]
        simpa [ptokCellsP] using this)
      unfold added
      rw [hgap]
      rw [htx]
      exact ⟨rfl, _, vb6, _, hpr, PS.trans HT8.out htc⟩

/-- printer.add: the token goes behind the others, ahead of it a blank where it would join. -/
theorem add_any {w : World} {p B : Nat} {vt vb : Value} {cs : Array Value} {txt : List UInt8} {toks : List Lx.PTok} (h : Pr w p B vt vb cs toks txt) (k : Nat) (t : List UInt8) (hB : B ≤ w.heap.size) (hl : txt.length ≤ 1000000) (ht : t.length ≤ 1000000) (hn : toks.length ≤ 1000000) :
    Calls Try.prog 122 #[.pointer (some ⟨p, 0, none⟩), .int .i64 (k : Int), .string ⟨t.toArray⟩] w fun e w' => e = .returned (.tuple #[]) ∧
      ∃ vt' vb' cs', Pr w' p B vt' vb' cs' (added toks txt ⟨k, t⟩) (txt ++ gap toks ⟨k, t⟩ ++ Lx.spell ⟨k, t⟩) ∧ Touch (PS p B w) w w' := by
  cases he : toks.length with
  | zero =>
    have e0 : toks = [] := List.length_eq_zero_iff.1 he
    subst e0
    exact add_first h k t hB hl ht
  | succ m =>
    have hlt : m < toks.length := by omega
    exact add_more he (List.getElem?_eq_getElem hlt) h k t hB hl ht (by omega)
end Go.Proofs.Ytilgpmpiidccjaa

/- A reader of the tokens of a tree: the tokens tell the tree. No program in sight. -/
namespace Go.Proofs.Ytilgpmpiidccjaa.Tr
open Lx (Tok)

def row (ks : List Nd) : Nd := .mk 1 [] 0 ks
def expect (t : Tok) : List Tok → Option (List Tok)
  | x :: r => if x = t then some r else none
  | [] => none
def startTok (x : Tok) : Bool := (x.kind == 1) || (x.kind == 2) || (x.kind == 3) || (x.kind == 4) || (x.kind == 5) || (x.kind == 7 && (x.text == [40] || x.text == [91] || x.text == [123]))
def starts : List Tok → Bool
  | x :: _ => startTok x
  | [] => false
/-- How many columns there are: the cells up to the first that ends a line. -/
def colsOf : List (Nd × Bool) → Int
  | [] => 0
  | (_, b) :: l => if b then 1 else 1 + colsOf l

mutual
def pArg : Nat → List Tok → Option (Nd × List Tok)
  | f + 1, x :: r =>
    if x.kind = 1 ∨ x.kind = 4 then some (row [.mk 2 x.text 0 []], r)
    else if x.kind = 2 then some (row [.mk 3 x.text 0 []], r)
    else if x.kind = 3 then some (row [.mk 4 x.text 0 []], r)
    else if x = mk7 123 then (pRow f r).bind fun p => (expect (mk7 125) p.2).map fun r' => (row p.1, r')
    else none
  | _, _ => none
def pBase : Nat → List Tok → Option (List Nd × List Tok)
  | f + 1, x :: r =>
    if x.kind = 1 then some ([.mk 2 x.text 0 []], r)
    else if x.kind = 2 then some ([.mk 3 x.text 0 []], r)
    else if x.kind = 3 then some ([.mk 4 x.text 0 []], r)
    else if x.kind = 5 then (pArg f r).map fun p => ([.mk 11 x.text 0 [p.1]], p.2)
    else if x.kind = 4 then
      if x.text = sFrac then (pArg f r).bind fun p => (pArg f p.2).map fun q => ([.mk 5 [] 0 [p.1, q.1]], q.2)
      else if x.text = sRoot then
        match expect (mk7 91) r with
        | some r1 => (pRow f r1).bind fun p => (expect (mk7 93) p.2).bind fun r2 => (pArg f r2).map fun q => ([.mk 6 [] 0 [row p.1, q.1]], q.2)
        | none => (pArg f r).map fun q => ([.mk 6 [] 0 [row [], q.1]], q.2)
      else if x.text = sMatrix then (expect (mk7 123) r).bind fun r1 => (pCells f r1).bind fun p => (expect (mk7 125) p.2).map fun r2 => ([.mk 12 [] (colsOf p.1) (p.1.map (·.1))], r2)
      else if accents.contains x.text then (pArg f r).map fun p => ([.mk 10 x.text 0 [p.1]], p.2)
      else some ([.mk 2 x.text 0 []], r)
    else if x = mk7 40 then (pRow f r).bind fun p => (expect (mk7 41) p.2).map fun r' => ([.mk 11 [40, 41] 0 [row p.1]], r')
    else if x = mk7 91 then (pRow f r).bind fun p => (expect (mk7 93) p.2).map fun r' => ([.mk 11 [91, 93] 0 [row p.1]], r')
    else if x = mk7 123 then (pRow f r).bind fun p => (expect (mk7 125) p.2).map fun r' => (p.1, r')
    else none
  | _, _ => none
def pItem : Nat → List Tok → Option (Nd × List Tok)
  | f + 1, ts => (pBase f ts).bind fun p =>
    match expect (mk7 95) p.2 with
    | some r1 => (pArg f r1).bind fun q =>
      match expect (mk7 94) q.2 with
      | some r2 => (pArg f r2).map fun s => (.mk 9 [] 0 [row p.1, q.1, s.1], s.2)
      | none => some (.mk 7 [] 0 [row p.1, q.1], q.2)
    | none =>
      match expect (mk7 94) p.2 with
      | some r1 => (pArg f r1).map fun q => (.mk 8 [] 0 [row p.1, q.1], q.2)
      | none => match p.1 with
        | [u] => some (u, p.2)
        | _ => none
  | 0, _ => none
def pRow : Nat → List Tok → Option (List Nd × List Tok)
  | f + 1, ts => if starts ts then (pItem f ts).bind fun p => (pRow f p.2).map fun q => (p.1 :: q.1, q.2) else some ([], ts)
  | 0, _ => none
def pCells : Nat → List Tok → Option (List (Nd × Bool) × List Tok)
  | f + 1, ts => (pRow f ts).bind fun p =>
    match expect (mk7 38) p.2 with
    | some r => (pCells f r).map fun q => ((row p.1, false) :: q.1, q.2)
    | none =>
      match expect ⟨8, [92, 92]⟩ p.2 with
      | some r => (pCells f r).map fun q => ((row p.1, true) :: q.1, q.2)
      | none => some ([(row p.1, true)], p.2)
  | 0, _ => none
end

def noScript (r : List Tok) : Prop := expect (mk7 95) r = none ∧ expect (mk7 94) r = none
def stop (r : List Tok) : Prop := starts r = false ∧ noScript r

theorem expect_same (t : Tok) (r : List Tok) : expect t (t :: r) = some r := by simp [expect]
theorem expect_other (t x : Tok) (r : List Tok) (h : x ≠ t) : expect t (x :: r) = none := by simp [expect, h]

/-- From some fuel on. -/
def Ev (p : Nat → Prop) : Prop := ∃ F, ∀ f, F ≤ f → p f
theorem Ev.of {p : Nat → Prop} (h : ∀ f, p f) : Ev p := ⟨0, fun f _ => h f⟩
theorem Ev.and {p q : Nat → Prop} (h : Ev p) (k : Ev q) : Ev fun f => p f ∧ q f := by
  obtain ⟨F, h⟩ := h
  obtain ⟨G, k⟩ := k
  exact ⟨max F G, fun f hf => ⟨h f (by omega), k f (by omega)⟩⟩
theorem Ev.mono {p q : Nat → Prop} (h : Ev p) (k : ∀ f, p f → q f) : Ev q := by
  obtain ⟨F, h⟩ := h
  exact ⟨F, fun f hf => k f (h f hf)⟩
theorem Ev.succ {p : Nat → Prop} (h : Ev fun f => p (f + 1)) : Ev p := by
  obtain ⟨F, h⟩ := h
  refine ⟨F + 1, fun f hf => ?_⟩
  obtain ⟨g, rfl⟩ : ∃ g, f = g + 1 := ⟨f - 1, by omega⟩
  exact h g (by omega)

theorem row_eq (a : Nd) (h1 : a.kind = 1) (h2 : form a = true) : a = row a.kids := by
  rw [form_eq, Bool.and_eq_true, Bool.and_eq_true] at h2
  obtain ⟨⟨h3, h4⟩, _⟩ := h2
  rw [h1] at h3 h4
  have h5 : a.text = [] := by
    unfold textOK at h3
    simpa using h3
  have h6 : a.cols = 0 := by
    unfold kidsOK at h4
    rw [if_neg (by decide)] at h4
    split at h4
    · cases h4
    · rename_i hc; simpa using hc
  have := Nd.eta a
  rw [h1, h5, h6] at this
  exact this
end Go.Proofs.Ytilgpmpiidccjaa.Tr

/- The forms of items; how the tokens of an item begin. -/
namespace Go.Proofs.Ytilgpmpiidccjaa.Tr
open Lx (Tok)

def IsRow (a : Nd) : Prop := a.kind = 1 ∧ form a = true
inductive View : Nd → Prop
  | sym (t : Bytes) (h : symbol t = true) : View (.mk 2 t 0 [])
  | num (t : Bytes) (h : isNum t = true) : View (.mk 3 t 0 [])
  | text (t : Bytes) (h : (decide (t.length ≤ 200) && printable t) = true) : View (.mk 4 t 0 [])
  | frac (a b : Nd) (ha : IsRow a) (hb : IsRow b) : View (.mk 5 [] 0 [a, b])
  | root (a b : Nd) (ha : IsRow a) (hb : IsRow b) : View (.mk 6 [] 0 [a, b])
  | sub (a b : Nd) (ha : IsRow a) (hb : IsRow b) : View (.mk 7 [] 0 [a, b])
  | sup (a b : Nd) (ha : IsRow a) (hb : IsRow b) : View (.mk 8 [] 0 [a, b])
  | both (a b d : Nd) (ha : IsRow a) (hb : IsRow b) (hd : IsRow d) : View (.mk 9 [] 0 [a, b, d])
  | accent (t : Bytes) (a : Nd) (h : accents.contains t = true) (ha : IsRow a) : View (.mk 10 t 0 [a])
  | fence (t : Bytes) (a : Nd) (h : Tr.fence t = true) (ha : IsRow a) : View (.mk 11 t 0 [a])
  | matrix (c : Int) (ks : List Nd) (hc : 1 ≤ c) (hn : 1 ≤ ks.length) (hm : (ks.length : Int) % c = 0) (h : ∀ k ∈ ks, IsRow k) : View (.mk 12 [] c ks)

theorem rows_of (l : List Nd) (h : formL false l = true) : ∀ x ∈ l, IsRow x := by
  induction l with
  | nil => intro x hx; cases hx
  | cons y l ih =>
    rw [formL, Bool.and_eq_true, Bool.and_eq_true] at h
    obtain ⟨⟨h1, h2⟩, h3⟩ := h
    intro x hx
    rcases List.mem_cons.1 hx with rfl | hx
    · exact ⟨by simpa using h1, h2⟩
    · exact ih h3 x hx
theorem items_of (l : List Nd) (h : formL true l = true) : ∀ x ∈ l, x.kind ≠ 1 ∧ form x = true := by
  induction l with
  | nil => intro x hx; cases hx
  | cons y l ih =>
    rw [formL, Bool.and_eq_true, Bool.and_eq_true] at h
    obtain ⟨⟨h1, h2⟩, h3⟩ := h
    intro x hx
    rcases List.mem_cons.1 hx with rfl | hx
    · exact ⟨by simpa using h1, h2⟩
    · exact ih h3 x hx
theorem IsRow.items {a : Nd} (h : IsRow a) : ∀ x ∈ a.kids, x.kind ≠ 1 ∧ form x = true := by
  obtain ⟨h1, h2⟩ := h
  rw [form_eq, h1, Bool.and_eq_true] at h2
  exact items_of _ h2.2

theorem view_of (n : Nd) (hf : form n = true) (hk : n.kind ≠ 1) : View n := by
  obtain ⟨k, t, c, ks⟩ := n
  rw [form, Bool.and_eq_true, Bool.and_eq_true] at hf
  obtain ⟨⟨h1, h2⟩, h3⟩ := hf
  have hk1 : (k == 1) = false := by rw [beq_eq_false_iff_ne]; exact hk
  rw [hk1] at h3
  have hrows := rows_of ks h3
  unfold kidsOK at h2
  unfold textOK at h1
  by_cases e12 : k = 12
  · subst e12
    simp at h1 h2
    subst h1
    obtain ⟨⟨⟨⟨h4, h5⟩, h6⟩, h7⟩, h8⟩ := h2
    exact .matrix c ks h4 h6 (by omega) hrows
  · rw [if_neg e12] at h2
    by_cases hc : c = 0
    · subst hc
      simp only [ne_eq, not_true_eq_false, if_false] at h2
      have hk' : k ≠ 1 := hk
      rw [if_neg hk'] at h2
      by_cases e2 : k = 2
      · subst e2
        simp at h1 h2
        subst h2
        exact .sym t h1
      · by_cases e3 : k = 3
        · subst e3
          simp at h1 h2
          subst h2
          exact .num t h1
        · by_cases e4 : k = 4
          · subst e4
            simp at h2
            subst h2
            rw [if_neg (by decide), if_neg (by decide), if_pos rfl] at h1
            exact .text t h1
          · rw [if_neg (by omega)] at h2
            rw [if_neg e2, if_neg e3, if_neg e4] at h1
            by_cases e10 : k = 10
            · subst e10
              simp only [if_true] at h1
              rw [if_neg (by decide), if_neg (by decide), if_pos (by decide)] at h2
              match ks, h2, hrows with
              | [a], _, hr => exact .accent t a h1 (hr a (by simp))
            · by_cases e11 : k = 11
              · subst e11
                rw [if_neg (by decide), if_pos rfl] at h1
                rw [if_neg (by decide), if_neg (by decide), if_pos (by decide)] at h2
                match ks, h2, hrows with
                | [a], _, hr => exact .fence t a h1 (hr a (by simp))
              · rw [if_neg e10, if_neg e11] at h1
                have ht : t = [] := by simpa using h1
                subst ht
                by_cases e9 : k = 9
                · subst e9
                  rw [if_neg (by decide), if_pos rfl] at h2
                  match ks, h2, hrows with
                  | [a, b, d], _, hr => exact .both a b d (hr a (by simp)) (hr b (by simp)) (hr d (by simp))
                · by_cases e58 : k = 5 ∨ k = 6 ∨ k = 7 ∨ k = 8
                  · rw [if_pos e58] at h2
                    match ks, h2, hrows with
                    | [a, b], _, hr =>
                      have ha := hr a (by simp)
                      have hb := hr b (by simp)
                      rcases e58 with rfl | rfl | rfl | rfl
                      · exact .frac a b ha hb
                      · exact .root a b ha hb
                      · exact .sub a b ha hb
                      · exact .sup a b ha hb
                  · rw [if_neg e58, if_neg e9, if_neg (by omega)] at h2
                    cases h2
    · rw [if_pos hc] at h2; cases h2
end Go.Proofs.Ytilgpmpiidccjaa.Tr

/- The tokens of a tree tell the tree. -/
namespace Go.Proofs.Ytilgpmpiidccjaa.Tr
open Lx (Tok)

theorem itemT_sym (t : Bytes) : itemT (.mk 2 t 0 []) = [if t.length = 1 then ⟨1, t⟩ else ⟨4, t⟩] := by rw [itemT] <;> first | rfl | (intros; simp_all)
theorem itemT_num (t : Bytes) : itemT (.mk 3 t 0 []) = [⟨2, t⟩] := by rw [itemT] <;> first | rfl | (intros; simp_all)
theorem itemT_text (t : Bytes) : itemT (.mk 4 t 0 []) = [⟨3, t⟩] := by rw [itemT] <;> first | rfl | (intros; simp_all)
theorem itemT_frac (a b : Nd) : itemT (.mk 5 [] 0 [a, b]) = name sFrac :: (argT a ++ argT b) := by rw [itemT] <;> first | rfl | (intros; simp_all)
theorem itemT_root (a b : Nd) : itemT (.mk 6 [] 0 [a, b]) = name sRoot :: ((if a.kids = [] then [] else mk7 91 :: (rowT a.kids ++ [mk7 93])) ++ argT b) := by rw [itemT] <;> first | rfl | (intros; simp_all)
theorem itemT_sub (a b : Nd) : itemT (.mk 7 [] 0 [a, b]) = baseT a ++ mk7 95 :: argT b := by rw [itemT] <;> first | rfl | (intros; simp_all)
theorem itemT_sup (a b : Nd) : itemT (.mk 8 [] 0 [a, b]) = baseT a ++ mk7 94 :: argT b := by rw [itemT] <;> first | rfl | (intros; simp_all)
theorem itemT_both (a b d : Nd) : itemT (.mk 9 [] 0 [a, b, d]) = baseT a ++ mk7 95 :: (argT b ++ mk7 94 :: argT d) := by rw [itemT] <;> first | rfl | (intros; simp_all)
theorem itemT_accent (t : Bytes) (a : Nd) : itemT (.mk 10 t 0 [a]) = name t :: argT a := by rw [itemT] <;> first | rfl | (intros; simp_all)
theorem itemT_fence (t : Bytes) (a : Nd) : itemT (.mk 11 t 0 [a]) = if t = [40, 41] ∨ t = [91, 93] then mk7 (t.headD 0) :: (rowT a.kids ++ [mk7 (t.getLastD 0)]) else ⟨5, t⟩ :: argT a := by rw [itemT] <;> first | rfl | (intros; simp_all)
theorem itemT_matrix (c : Int) (ks : List Nd) (h : ks ≠ []) : itemT (.mk 12 [] c ks) = name sMatrix :: mk7 123 :: (cellsT c 0 ks ++ [mk7 125]) := by
  match ks, h with
  | [a], _ => rw [itemT] <;> first | rfl | (intros; simp_all)
  | [a, b], _ => rw [itemT] <;> first | rfl | (intros; simp_all)
  | [a, b, d], _ => rw [itemT] <;> first | rfl | (intros; simp_all)
  | a :: b :: d :: e :: l, _ => rw [itemT] <;> first | rfl | (intros; simp_all)
theorem argT_eq (a : Nd) : argT a = match a.kids with | [x] => if leaf x then itemT x else mk7 123 :: (rowT [x] ++ [mk7 125]) | ks => mk7 123 :: (rowT ks ++ [mk7 125]) := by
  obtain ⟨k, t, c, ks⟩ := a
  match ks with
  | [] => rw [argT] <;> first | rfl | (intros; simp_all)
  | [x] => rw [argT]; rfl
  | x :: y :: l => rw [argT] <;> first | rfl | (intros; simp_all)
theorem baseT_eq (a : Nd) : baseT a = match a.kids with | [x] => if scripted x then mk7 123 :: (rowT [x] ++ [mk7 125]) else itemT x | ks => mk7 123 :: (rowT ks ++ [mk7 125]) := by
  obtain ⟨k, t, c, ks⟩ := a
  match ks with
  | [] => rw [baseT] <;> first | rfl | (intros; simp_all)
  | [x] => rw [baseT]; rfl
  | x :: y :: l => rw [baseT] <;> first | rfl | (intros; simp_all)
theorem rowT_cons (n : Nd) (ns : List Nd) : rowT (n :: ns) = itemT n ++ rowT ns := by rw [rowT]
theorem rowT_nil : rowT [] = [] := by rw [rowT]

theorem start_noScript (x : Tok) (r : List Tok) (h : startTok x = true) : noScript (x :: r) := by
  refine ⟨expect_other _ _ _ ?_, expect_other _ _ _ ?_⟩ <;> (rintro rfl; revert h; decide)
theorem IsRow.views {a : Nd} (h : IsRow a) : ∀ x ∈ a.kids, View x := fun x hx => view_of x (h.items x hx).2 (h.items x hx).1

theorem base_start (a : Nd) (ha : IsRow a) (ih : ∀ x ∈ a.kids, View x → ∃ t r, itemT x = t :: r ∧ startTok t = true) : ∃ t r, baseT a = t :: r ∧ startTok t = true := by
  rw [baseT_eq]
  have hv := ha.views
  split
  · rename_i x hx
    split
    · exact ⟨mk7 123, _, rfl, rfl⟩
    · exact ih x (by rw [hx]; simp) (hv x (by rw [hx]; simp))
  · exact ⟨mk7 123, _, rfl, rfl⟩
theorem item_start (n : Nd) : View n → ∃ t r, itemT n = t :: r ∧ startTok t = true := by
  have : ∀ m n, count n ≤ m → View n → ∃ t r, itemT n = t :: r ∧ startTok t = true := by
    intro m
    induction m with
    | zero => intro n h; have := count_pos n; omega
    | succ m ih =>
      intro n hc v
      have hb : ∀ (k : Int) (t : Bytes) (c : Int) (a : Nd) (l : List Nd), n = .mk k t c (a :: l) → IsRow a → ∃ t r, baseT a = t :: r ∧ startTok t = true := fun k t c a l e ha => base_start a ha fun x hx vx => ih x (by
        have h1 := count_mem hx
        have h2 := count_kids a
        rw [e, count, countL] at hc
        omega) vx
      cases v with
      | sym t h => rw [itemT_sym]; by_cases hl : t.length = 1 <;> simp only [hl, if_true, if_false] <;> exact ⟨_, _, rfl, rfl⟩
      | num t h => rw [itemT_num]; exact ⟨_, _, rfl, rfl⟩
      | text t h => rw [itemT_text]; exact ⟨_, _, rfl, rfl⟩
      | frac a b ha hb => rw [itemT_frac]; exact ⟨_, _, rfl, rfl⟩
      | root a b ha hb => rw [itemT_root]; exact ⟨_, _, rfl, rfl⟩
      | sub a b ha hb' =>
        rw [itemT_sub]
        obtain ⟨x, r, e, h⟩ := hb _ _ _ a _ rfl ha
        rw [e]; exact ⟨x, _, rfl, h⟩
      | sup a b ha hb' =>
        rw [itemT_sup]
        obtain ⟨x, r, e, h⟩ := hb _ _ _ a _ rfl ha
        rw [e]; exact ⟨x, _, rfl, h⟩
      | both a b d ha hb' hd =>
        rw [itemT_both]
        obtain ⟨x, r, e, h⟩ := hb _ _ _ a _ rfl ha
        rw [e]; exact ⟨x, _, rfl, h⟩
      | accent t a h ha => rw [itemT_accent]; exact ⟨_, _, rfl, rfl⟩
      | fence t a h ha =>
        rw [itemT_fence]
        split
        · rename_i ht
          rcases ht with rfl | rfl <;> exact ⟨_, _, rfl, rfl⟩
        · exact ⟨_, _, rfl, rfl⟩
      | matrix c ks hc hn hm h =>
        rw [itemT_matrix c ks (by rintro rfl; simp at hn)]; exact ⟨_, _, rfl, rfl⟩
  exact this _ n (Nat.le_refl _)

theorem row_noScript (ks : List Nd) (hk : ∀ x ∈ ks, View x) (r : List Tok) (hr : noScript r) : noScript (rowT ks ++ r) := by
  cases ks with
  | nil => rw [rowT_nil]; exact hr
  | cons x ks =>
    obtain ⟨t, r', e, h⟩ := item_start x (hk x (by simp))
    rw [rowT_cons, e]
    exact start_noScript t _ h

/-- Items of at most m nodes are read again. -/
structure PU (m : Nat) : Prop where
  item : ∀ n, count n ≤ m → View n → ∀ r, noScript r → Ev fun f => pItem f (itemT n ++ r) = some (n, r)
  base : ∀ n, count n ≤ m → View n → scripted n = false → ∀ r, Ev fun f => pBase f (itemT n ++ r) = some ([n], r)

theorem PU.row {m : Nat} (h : PU m) : ∀ ks, (∀ x ∈ ks, View x ∧ count x ≤ m) → ∀ r, stop r → Ev fun f => pRow f (rowT ks ++ r) = some (ks, r)
  | [], _, r, hr => Ev.succ (Ev.of fun f => by rw [rowT_nil, List.nil_append, pRow, if_neg (by rw [hr.1]; decide)])
  | x :: ks, hk, r, hr => by
    obtain ⟨hv, hc⟩ := hk x (by simp)
    have ih := PU.row h ks (fun y hy => hk y (by simp [hy])) r hr
    have hns : noScript (rowT ks ++ r) := row_noScript ks (fun y hy => (hk y (by simp [hy])).1) r hr.2
    refine Ev.succ (((h.item x hc hv _ hns).and ih).mono fun f ⟨h1, h2⟩ => ?_)
    obtain ⟨t, r', e, hs⟩ := item_start x hv
    have hst : starts (itemT x ++ (rowT ks ++ r)) = true := by rw [e]; exact hs
    rw [rowT_cons, List.append_assoc, pRow, if_pos hst, h1]
    simp [h2]
end Go.Proofs.Ytilgpmpiidccjaa.Tr

/- The tokens of a tree tell the tree: the reader reads every item. -/
namespace Go.Proofs.Ytilgpmpiidccjaa.Tr
open Lx (Tok)

theorem stop_mark (b : UInt8) (r : List Tok) (h1 : startTok (mk7 b) = false) (h2 : mk7 b ≠ mk7 95) (h3 : mk7 b ≠ mk7 94) : stop (mk7 b :: r) := ⟨h1, expect_other _ _ _ h2, expect_other _ _ _ h3⟩

theorem kids_small {m : Nat} {a : Nd} (ha : IsRow a) (hc : count a ≤ m + 1) : ∀ x ∈ a.kids, View x ∧ count x ≤ m := fun x hx => ⟨ha.views x hx, by
  have h1 := count_mem hx
  have h2 := count_kids a
  omega⟩

theorem PU.braced {m : Nat} (h : PU m) (a : Nd) (ha : IsRow a) (hc : count a ≤ m + 1) (r : List Tok) (b : UInt8) (h1 : startTok (mk7 b) = false) (h2 : mk7 b ≠ mk7 95) (h3 : mk7 b ≠ mk7 94) :
    Ev fun f => pRow f ((rowT a.kids ++ [mk7 b]) ++ r) = some (a.kids, mk7 b :: r) := by
  have := h.row a.kids (kids_small ha hc) (mk7 b :: r) (stop_mark b r h1 h2 h3)
  simpa using this

theorem PU.arg {m : Nat} (h : PU m) (a : Nd) (ha : IsRow a) (hc : count a ≤ m + 1) (r : List Tok) : Ev fun f => pArg f (argT a ++ r) = some (a, r) := by
  have hr := row_eq a ha.1 ha.2
  have hb : Ev fun f => pArg f ((mk7 123 :: (rowT a.kids ++ [mk7 125])) ++ r) = some (a, r) := by
    refine Ev.succ ((h.braced a ha hc r 125 (by decide) (by decide) (by decide)).mono fun f h1 => ?_)
    rw [List.cons_append, pArg, if_neg (by first | decide | simp), if_neg (by first | decide | simp), if_neg (by first | decide | simp), if_pos rfl, h1]
    show some (Tr.row a.kids, r) = _
    rw [← hr]
  rw [argT_eq]
  split
  · rename_i x hx
    rw [hx] at hb
    split
    · rename_i hl
      have hv := ha.views x (by rw [hx]; simp)
      rw [hr, hx]
      unfold leaf at hl
      cases hv with
      | sym t ht =>
        rw [itemT_sym]
        refine Ev.succ (Ev.of fun f => ?_)
        by_cases h1 : t.length = 1
        · rw [if_pos h1, List.singleton_append, pArg, if_pos (.inl rfl)]
        · rw [if_neg h1, List.singleton_append, pArg, if_pos (.inr rfl)]
      | num t ht =>
        rw [itemT_num]
        exact Ev.succ (Ev.of fun f => by rw [List.singleton_append, pArg, if_neg (by first | decide | simp), if_pos rfl])
      | text t ht =>
        rw [itemT_text]
        exact Ev.succ (Ev.of fun f => by rw [List.singleton_append, pArg, if_neg (by first | decide | simp), if_neg (by first | decide | simp), if_pos rfl])
      | _ => revert hl; simp [Nd.kind]
    · exact hb
  · exact hb

theorem PU.baseR {m : Nat} (h : PU m) (a : Nd) (ha : IsRow a) (hc : count a ≤ m + 1) (r : List Tok) : Ev fun f => pBase f (baseT a ++ r) = some (a.kids, r) := by
  have hb : Ev fun f => pBase f ((mk7 123 :: (rowT a.kids ++ [mk7 125])) ++ r) = some (a.kids, r) := by
    refine Ev.succ ((h.braced a ha hc r 125 (by decide) (by decide) (by decide)).mono fun f h1 => ?_)
    rw [List.cons_append, pBase, if_neg (by first | decide | simp), if_neg (by first | decide | simp), if_neg (by first | decide | simp), if_neg (by first | decide | simp), if_neg (by first | decide | simp), if_neg (by first | decide | simp), if_neg (by first | decide | simp), if_pos rfl, h1]
    rfl
  rw [baseT_eq]
  split
  · rename_i x hx
    rw [hx] at hb ⊢
    split
    · exact hb
    · rename_i hs
      obtain ⟨hv, hcx⟩ := kids_small ha hc x (by rw [hx]; simp)
      exact h.base x hcx hv (by simpa using hs) r
  · exact hb

theorem slot_small {m : Nat} {k : Int} {t : Bytes} {c : Int} {ks : List Nd} (hc : count (.mk k t c ks) ≤ m + 1) (a : Nd) (h : a ∈ ks) : count a ≤ m + 1 := by
  rw [count] at hc
  have := count_mem h
  omega

theorem name_ne (t : Bytes) (h : keywords.contains t = false) : t ≠ sFrac ∧ t ≠ sRoot ∧ t ≠ sMatrix := by
  refine ⟨?_, ?_, ?_⟩ <;> (rintro rfl; revert h; decide)
theorem symbol_names (t : Bytes) (h : symbol t = true) (hl : t.length ≠ 1) : keywords.contains t = false ∧ accents.contains t = false := by
  unfold symbol at h
  match t, hl with
  | [], _ => revert h; decide
  | [c], hl => exact absurd rfl hl
  | a :: b :: l, _ =>
    simp only [Bool.and_eq_true, Bool.not_eq_true'] at h
    exact ⟨h.1.2, h.2⟩
theorem accent_names (t : Bytes) (h : accents.contains t = true) : t ≠ sFrac ∧ t ≠ sRoot ∧ t ≠ sMatrix := by
  refine ⟨?_, ?_, ?_⟩ <;> (rintro rfl; revert h; decide)

theorem cols_of (c : Nat) : ∀ (ks : List Nd) (i : Nat), i < c → c ≤ i + ks.length → colsOf ((ks.zipIdx i).map fun p => (p.1, decide (((p.2 : Int) + 1) % (c : Int) = 0))) = (c : Int) - i
  | [], i, h1, h2 => by simp at h2; omega
  | x :: l, i, h1, h2 => by
    rw [List.zipIdx_cons, List.map_cons, colsOf]
    by_cases h : i + 1 = c
    · have e : decide (((i : Int) + 1) % (c : Int) = 0) = true := by
        rw [decide_eq_true_iff, ← h]; simp
      simp only [e, if_true]; omega
    · have e : decide (((i : Int) + 1) % (c : Int) = 0) = false := by
        rw [decide_eq_false_iff_not, Int.emod_eq_of_lt (by omega) (by omega)]; omega
      have ih := cols_of c l (i + 1) (by omega) (by simp at h2; omega)
      simp only [e, Bool.false_eq_true, if_false]
      rw [ih]; omega

theorem PU.cells {m : Nat} (h : PU m) (c : Int) (r : List Tok) : ∀ (ns : List Nd) (n : Nd) (i : Nat), (∀ k ∈ n :: ns, IsRow k ∧ count k ≤ m + 1) → ((i : Int) + (n :: ns).length) % c = 0 →
    Ev fun f => pCells f (rowT n.kids ++ (cellsT c (i + 1) ns ++ (mk7 125 :: r))) = some (((n :: ns).zipIdx i).map (fun p => (p.1, decide (((p.2 : Int) + 1) % c = 0))), mk7 125 :: r)
  | [], n, i, hk, hm => by
    obtain ⟨hr, hc⟩ := hk n (by simp)
    have e : cellsT c (i + 1) [] = [] := by rw [cellsT]
    rw [e, List.nil_append]
    refine Ev.succ ((h.row n.kids (kids_small hr hc) _ (stop_mark 125 r (by decide) (by decide) (by decide))).mono fun f h1 => ?_)
    rw [pCells, h1]
    simp only [Option.bind_some]
    rw [expect_other _ _ _ (by decide), expect_other _ _ _ (by decide)]
    have e2 : decide (((i : Int) + 1) % c = 0) = true := by rw [decide_eq_true_iff]; simpa using hm
    simp only [List.zipIdx_cons, List.zipIdx_nil, List.map_cons, List.map_nil, e2]
    rw [← row_eq n hr.1 hr.2]
  | n' :: ns, n, i, hk, hm => by
    obtain ⟨hr, hc⟩ := hk n (by simp)
    have ih := PU.cells h c r ns n' (i + 1) (fun k hk' => hk k (by simp at hk' ⊢; exact .inr hk')) (by
      simp only [List.length_cons] at hm ⊢
      rw [← hm]; congr 1; omega)
    have e : cellsT c (i + 1) (n' :: ns) = (if ((i : Int) + 1) % c = 0 then (⟨8, [92, 92]⟩ : Tok) else mk7 38) :: (rowT n'.kids ++ cellsT c (i + 1 + 1) ns) := by
      rw [cellsT, if_neg (by omega)]
      have : ((i + 1 : Nat) : Int) = (i : Int) + 1 := by omega
      rw [this]
      split <;> rfl
    rw [e]
    by_cases hb : ((i : Int) + 1) % c = 0
    · rw [if_pos hb]
      refine Ev.succ (((h.row n.kids (kids_small hr hc) ((⟨8, [92, 92]⟩ : Tok) :: (rowT n'.kids ++ (cellsT c (i + 1 + 1) ns ++ (mk7 125 :: r)))) ⟨by rfl, expect_other _ _ _ (by decide), expect_other _ _ _ (by decide)⟩).and ih).mono fun f ⟨h1, h2⟩ => ?_)
      rw [List.cons_append, List.append_assoc, pCells, h1]
      simp only [Option.bind_some]
      rw [expect_other _ _ _ (by decide), expect_same]
      simp only [h2, Option.map_some]
      rw [List.zipIdx_cons («as» := n' :: ns), List.map_cons, ← row_eq n hr.1 hr.2, decide_eq_true hb]
    · rw [if_neg hb]
      refine Ev.succ (((h.row n.kids (kids_small hr hc) (mk7 38 :: (rowT n'.kids ++ (cellsT c (i + 1 + 1) ns ++ (mk7 125 :: r)))) (stop_mark 38 _ (by decide) (by decide) (by decide))).and ih).mono fun f ⟨h1, h2⟩ => ?_)
      rw [List.cons_append, List.append_assoc, pCells, h1]
      simp only [Option.bind_some]
      rw [expect_same]
      simp only [h2, Option.map_some]
      rw [List.zipIdx_cons («as» := n' :: ns), List.map_cons, ← row_eq n hr.1 hr.2, decide_eq_false hb]

theorem PU.base_step {m : Nat} (h : PU m) (n : Nd) (hc : count n ≤ m + 1) (v : View n) (hs : scripted n = false) (r : List Tok):
    Ev fun f => pBase f (itemT n ++ r) = some ([n], r) := by
  cases v with
  | sym t ht =>
    rw [itemT_sym]
    refine Ev.succ (Ev.of fun f => ?_)
    by_cases h1 : t.length = 1
    · rw [if_pos h1, List.singleton_append, pBase, if_pos rfl]
    · obtain ⟨n1, n2⟩ := symbol_names t ht h1
      obtain ⟨e1, e2, e3⟩ := name_ne t n1
      rw [if_neg h1, List.singleton_append, pBase, if_neg (by first | decide | simp), if_neg (by first | decide | simp), if_neg (by first | decide | simp), if_neg (by first | decide | simp), if_pos rfl, if_neg e1, if_neg e2, if_neg e3, if_neg (by rw [n2]; decide)]
  | num t ht =>
    rw [itemT_num]
    exact Ev.succ (Ev.of fun f => by rw [List.singleton_append, pBase, if_neg (by first | decide | simp), if_pos rfl])
  | text t ht =>
    rw [itemT_text]
    exact Ev.succ (Ev.of fun f => by rw [List.singleton_append, pBase, if_neg (by first | decide | simp), if_neg (by first | decide | simp), if_pos rfl])
  | frac a b ha hb =>
    rw [itemT_frac]
    refine Ev.succ (((h.arg a ha (slot_small hc a (by simp)) (argT b ++ r)).and (h.arg b hb (slot_small hc b (by simp)) r)).mono fun f ⟨h1, h2⟩ => ?_)
    rw [List.cons_append, List.append_assoc, name, pBase, if_neg (by first | decide | simp), if_neg (by first | decide | simp), if_neg (by first | decide | simp), if_neg (by first | decide | simp), if_pos rfl, if_pos rfl, h1]
    simp [h2]
  | root a b ha hb =>
    rw [itemT_root]
    have hra := row_eq a ha.1 ha.2
    have hB := h.arg b hb (slot_small hc b (by simp)) r
    by_cases h0 : a.kids = []
    · rw [if_pos h0, List.nil_append]
      have hex : expect (mk7 91) (argT b ++ r) = none := by
        have : ∃ x l, argT b = x :: l ∧ x ≠ mk7 91 := by
          rw [argT_eq]
          split
          · rename_i x hx
            split
            · rename_i hl
              have hv := hb.views x (by rw [hx]; simp)
              unfold leaf at hl
              cases hv with
              | sym t ht =>
                rw [itemT_sym]
                refine ⟨_, _, rfl, ?_⟩
                split <;> (intro e; cases e)
              | num t ht => rw [itemT_num]; exact ⟨_, _, rfl, fun e => by cases e⟩
              | text t ht => rw [itemT_text]; exact ⟨_, _, rfl, fun e => by cases e⟩
              | _ => revert hl; simp [Nd.kind]
            · exact ⟨_, _, rfl, by decide⟩
          · exact ⟨_, _, rfl, by decide⟩
        obtain ⟨x, l, e, hx⟩ := this
        rw [e]; exact expect_other _ _ _ hx
      refine Ev.succ (hB.mono fun f h1 => ?_)
      rw [List.cons_append, name, pBase, if_neg (by first | decide | simp), if_neg (by first | decide | simp), if_neg (by first | decide | simp), if_neg (by first | decide | simp), if_pos rfl, if_neg (by first | decide | simp), if_pos rfl, hex, h1]
      rw [hra, h0]; rfl
    · rw [if_neg h0]
      have hA := h.braced a ha (slot_small hc a (by simp)) (argT b ++ r) 93 (by decide) (by decide) (by decide)
      refine Ev.succ ((hA.and hB).mono fun f ⟨h1, h2⟩ => ?_)
      have e : (name sRoot :: ((mk7 91 :: (rowT a.kids ++ [mk7 93])) ++ argT b)) ++ r = name sRoot :: mk7 91 :: ((rowT a.kids ++ [mk7 93]) ++ (argT b ++ r)) := by simp
      rw [e, name, pBase, if_neg (by first | decide | simp), if_neg (by first | decide | simp), if_neg (by first | decide | simp), if_neg (by first | decide | simp), if_pos rfl, if_neg (by first | decide | simp), if_pos rfl, expect_same]
      simp only [h1, Option.bind_some, expect_same, h2, Option.map_some]
      rw [← hra]
  | sub a b => cases hs
  | sup a b => cases hs
  | both a b d => cases hs
  | accent t a ht ha =>
    rw [itemT_accent]
    obtain ⟨e1, e2, e3⟩ := accent_names t ht
    refine Ev.succ ((h.arg a ha (slot_small hc a (by simp)) r).mono fun f h1 => ?_)
    rw [List.cons_append, name, pBase, if_neg (by first | decide | simp), if_neg (by first | decide | simp), if_neg (by first | decide | simp), if_neg (by first | decide | simp), if_pos rfl, if_neg e1, if_neg e2, if_neg e3, if_pos ht, h1]
    rfl
  | fence t a ht ha =>
    have hra := row_eq a ha.1 ha.2
    rw [itemT_fence]
    by_cases h0 : t = [40, 41] ∨ t = [91, 93]
    · rw [if_pos h0]
      rcases h0 with rfl | rfl
      · refine Ev.succ ((h.braced a ha (slot_small hc a (by simp)) r 41 (by decide) (by decide) (by decide)).mono fun f h1 => ?_)
        rw [List.cons_append, pBase, if_neg (by first | decide | simp), if_neg (by first | decide | simp), if_neg (by first | decide | simp), if_neg (by first | decide | simp), if_neg (by first | decide | simp), if_pos (by decide)]
        have h1' : pRow f (rowT a.kids ++ [mk7 (([40, 41] : Bytes).getLastD 0)] ++ r) = some (a.kids, mk7 41 :: r) := h1
        rw [h1']
        simp only [Option.bind_some, expect_same, Option.map_some]
        rw [← hra]
      · refine Ev.succ ((h.braced a ha (slot_small hc a (by simp)) r 93 (by decide) (by decide) (by decide)).mono fun f h1 => ?_)
        rw [List.cons_append, pBase, if_neg (by first | decide | simp), if_neg (by first | decide | simp), if_neg (by first | decide | simp), if_neg (by first | decide | simp), if_neg (by first | decide | simp), if_neg (by first | decide | simp), if_pos (by decide)]
        have h1' : pRow f (rowT a.kids ++ [mk7 (([91, 93] : Bytes).getLastD 0)] ++ r) = some (a.kids, mk7 93 :: r) := h1
        rw [h1']
        simp only [Option.bind_some, expect_same, Option.map_some]
        rw [← hra]
    · rw [if_neg h0]
      refine Ev.succ ((h.arg a ha (slot_small hc a (by simp)) r).mono fun f h1 => ?_)
      rw [List.cons_append, pBase, if_neg (by first | decide | simp), if_neg (by first | decide | simp), if_neg (by first | decide | simp), if_pos rfl, h1]
      rfl
  | matrix c ks hc1 hn hm hk =>
    rw [itemT_matrix c ks (by rintro rfl; simp at hn)]
    have hcells : Ev fun f => pCells f (cellsT c 0 ks ++ (mk7 125 :: r)) = some ((ks.zipIdx.map fun p => (p.1, decide (((p.2 : Int) + 1) % c = 0))), mk7 125 :: r) := by
      match ks, hn with
      | k :: l, _ =>
        have e : cellsT c 0 (k :: l) = rowT k.kids ++ cellsT c 1 l := by rw [cellsT, if_pos rfl, List.nil_append]
        rw [e, List.append_assoc]
        exact h.cells c r l k 0 (fun x hx => ⟨hk x hx, slot_small hc x hx⟩) (by simpa using hm)
    refine Ev.succ (hcells.mono fun f h1 => ?_)
    have e : (name sMatrix :: mk7 123 :: (cellsT c 0 ks ++ [mk7 125])) ++ r = name sMatrix :: mk7 123 :: (cellsT c 0 ks ++ (mk7 125 :: r)) := by simp
    rw [e, name, pBase, if_neg (by first | decide | simp), if_neg (by first | decide | simp), if_neg (by first | decide | simp), if_neg (by first | decide | simp), if_pos rfl, if_neg (by first | decide | simp), if_neg (by first | decide | simp), if_pos rfl, expect_same]
    simp only [Option.bind_some, h1, expect_same, Option.map_some]
    obtain ⟨cn, rfl⟩ : ∃ cn : Nat, c = cn := ⟨c.toNat, by omega⟩
    have hle : cn ≤ ks.length := by
      rcases Nat.lt_or_ge ks.length cn with hlt | hge
      · rw [Int.emod_eq_of_lt (by omega) (by omega)] at hm; omega
      · exact hge
    have e1 := cols_of cn ks 0 (by omega) (by omega)
    rw [e1]
    have e2 : (List.map (fun x => x.fst) (List.map (fun p => (p.fst, decide (((p.2 : Int) + 1) % (cn : Int) = 0))) ks.zipIdx)) = ks := by
      rw [List.map_map]
      have : ((fun x : Nd × Bool => x.fst) ∘ fun p : Nd × Nat => (p.fst, decide (((p.2 : Int) + 1) % (cn : Int) = 0))) = Prod.fst := rfl
      rw [this]
      simp
    rw [e2]
    simp
theorem PU.step {m : Nat} (h : PU m) : PU (m + 1) := by
  have hbase : ∀ n, count n ≤ m + 1 → View n → scripted n = false → ∀ r, Ev fun f => pBase f (itemT n ++ r) = some ([n], r) := fun n hc v hs r => h.base_step n hc v hs r
  refine ⟨fun n hc v r hr => ?_, hbase⟩
  by_cases hs : scripted n = false
  · refine Ev.succ ((hbase n hc v hs r).mono fun f h1 => ?_)
    rw [pItem, h1]
    simp only [Option.bind_some]
    rw [hr.1, hr.2]
  · cases v with
    | sub a b ha hb =>
      rw [itemT_sub]
      have e : (baseT a ++ mk7 95 :: argT b) ++ r = baseT a ++ (mk7 95 :: (argT b ++ r)) := by simp
      rw [e]
      refine Ev.succ (((h.baseR a ha (slot_small hc a (by simp)) (mk7 95 :: (argT b ++ r))).and (h.arg b hb (slot_small hc b (by simp)) r)).mono fun f ⟨h1, h2⟩ => ?_)
      rw [pItem, h1]
      simp only [Option.bind_some]
      rw [expect_same]
      simp only [h2, Option.bind_some]
      rw [hr.2, ← row_eq a ha.1 ha.2]
    | sup a b ha hb =>
      rw [itemT_sup]
      have e : (baseT a ++ mk7 94 :: argT b) ++ r = baseT a ++ (mk7 94 :: (argT b ++ r)) := by simp
      rw [e]
      refine Ev.succ (((h.baseR a ha (slot_small hc a (by simp)) (mk7 94 :: (argT b ++ r))).and (h.arg b hb (slot_small hc b (by simp)) r)).mono fun f ⟨h1, h2⟩ => ?_)
      rw [pItem, h1]
      simp only [Option.bind_some]
      rw [expect_other _ _ _ (by decide), expect_same]
      simp only [h2, Option.map_some]
      rw [← row_eq a ha.1 ha.2]
    | both a b d ha hb hd =>
      rw [itemT_both]
      have e : (baseT a ++ mk7 95 :: (argT b ++ mk7 94 :: argT d)) ++ r = baseT a ++ (mk7 95 :: (argT b ++ (mk7 94 :: (argT d ++ r)))) := by simp
      rw [e]
      refine Ev.succ (((h.baseR a ha (slot_small hc a (by simp)) (mk7 95 :: (argT b ++ (mk7 94 :: (argT d ++ r))))).and ((h.arg b hb (slot_small hc b (by simp)) (mk7 94 :: (argT d ++ r))).and (h.arg d hd (slot_small hc d (by simp)) r))).mono fun f ⟨h1, h2, h3⟩ => ?_)
      rw [pItem, h1]
      simp only [Option.bind_some]
      rw [expect_same]
      simp only [h2, Option.bind_some]
      rw [expect_same]
      simp only [h3, Option.map_some]
      rw [← row_eq a ha.1 ha.2]
    | _ => exact absurd rfl hs

theorem PU.all (m : Nat) : PU m := by
  induction m with
  | zero => exact ⟨fun n h => by have := count_pos n; omega, fun n h => by have := count_pos n; omega⟩
  | succ m ih => exact ih.step

/-- Two rows of items with the same tokens are equal. -/
theorem rowT_inj (a b : Nd) (ha : IsRow a) (hb : IsRow b) (h : rowT a.kids = rowT b.kids) : a = b := by
  have hA := (PU.all (count a)).row a.kids (kids_small ha (Nat.le_succ _)) [] ⟨rfl, rfl, rfl⟩
  have hB := (PU.all (count b)).row b.kids (kids_small hb (Nat.le_succ _)) [] ⟨rfl, rfl, rfl⟩
  obtain ⟨F, hF⟩ := hA.and hB
  obtain ⟨h1, h2⟩ := hF F (Nat.le_refl _)
  rw [h, h2] at h1
  simp only [Option.some.injEq, Prod.mk.injEq, and_true] at h1
  rw [row_eq a ha.1 ha.2, row_eq b hb.1 hb.2, h1]
end Go.Proofs.Ytilgpmpiidccjaa.Tr

/- The text of a valid tree has the tree's tokens; two valid trees with one text are equal. -/
namespace Go.Proofs.Ytilgpmpiidccjaa.Tr
open Lx (Tok TokOK)

theorem byte_all (p : UInt8 → Prop) [DecidablePred p] (h : ∀ n : Fin 256, p (UInt8.ofNat n.1)) (c : UInt8) : p c := by
  have := h ⟨c.toNat, c.toNat_lt⟩
  simpa using this
theorem letter_isB (c : UInt8) : letter c = Lx.isB 3 c := byte_all (fun c => letter c = Lx.isB 3 c) (by decide +kernel) c
theorem digit_isB (c : UInt8) : digit c = Lx.isB 2 c := byte_all (fun c => digit c = Lx.isB 2 c) (by decide +kernel) c
theorem sign_isB (c : UInt8) : signs.contains c = Lx.isB 4 c := byte_all (fun c => signs.contains c = Lx.isB 4 c) (by decide +kernel) c
theorem delim_is (c : UInt8) : delims.contains c = Lx.isDelim c := byte_all (fun c => delims.contains c = Lx.isDelim c) (by decide +kernel) c
theorem all_letter (l : Bytes) : l.all letter = l.all (Lx.isB 3) := by
  congr 1; funext c; exact letter_isB c
theorem all_digit (l : Bytes) : l.all digit = l.all (Lx.isB 2) := by
  congr 1; funext c; exact digit_isB c

theorem tok_mark (b : UInt8) (h : Lx.isB 5 b = true) : TokOK (mk7 b) := .inr (.inr (.inr (.inr (.inr (.inr (.inl ⟨rfl, b, rfl, h⟩))))))
theorem tok_break : TokOK ⟨8, [92, 92]⟩ := .inr (.inr (.inr (.inr (.inr (.inr (.inr ⟨rfl, rfl⟩))))))
theorem tok_name (t : Bytes) (h1 : t.length ≤ 16) (h2 : t ≠ []) (h3 : t.all letter = true) (h4 : t ≠ [102, 101, 110, 99, 101]) : TokOK (name t) :=
  .inr (.inr (.inr (.inl ⟨rfl, h1, h2, by rw [← all_letter]; exact h3, h4⟩)))
theorem tok_sym (t : Bytes) (h : symbol t = true) : TokOK (if t.length = 1 then ⟨1, t⟩ else ⟨4, t⟩) := by
  unfold symbol at h
  match t, h with
  | [c], h =>
    rw [if_pos (show ([c] : Bytes).length = 1 from rfl)]
    refine .inl ⟨rfl, c, rfl, ?_⟩
    have h' : (letter c || signs.contains c) = true := h
    rw [letter_isB, sign_isB, Bool.or_eq_true] at h'
    exact h'
  | [], h => exact absurd (show symbol [] = true from h) (by decide)
  | a :: b :: l, h =>
    rw [if_neg (by simp)]
    simp only [Bool.and_eq_true, Bool.not_eq_true', decide_eq_true_eq] at h
    obtain ⟨⟨⟨⟨h1, h2⟩, h3⟩, h4⟩, h5⟩ := h
    exact tok_name _ h3 (by simp) h1 (by intro e; rw [e] at h4; revert h4; decide)
theorem tok_num (t : Bytes) (h : isNum t = true) : TokOK ⟨2, t⟩ := by
  unfold isNum at h
  rw [Bool.and_eq_true, Bool.and_eq_true, decide_eq_true_iff, decide_eq_true_iff, Bool.or_eq_true] at h
  obtain ⟨⟨h1, h2⟩, h3⟩ := h
  refine .inr (.inl ⟨rfl, h1, ?_⟩)
  rcases h3 with h3 | h3
  · exact ⟨t, h2, by rw [← all_digit]; exact h3, .inl rfl⟩
  · split at h3
    · rename_i x b hd
      simp only [Bool.and_eq_true, decide_eq_true_eq] at h3
      obtain ⟨⟨⟨h4, h5⟩, h6⟩, h7⟩ := h3
      refine ⟨t.takeWhile (· ≠ 46), h4, by rw [← all_digit]; exact h5, .inr ⟨b, h6, by rw [← all_digit]; exact h7, ?_⟩⟩
      have hx : x = 46 := by
        have := List.head?_dropWhile_not (fun b : UInt8 => decide (b ≠ 46)) t
        rw [hd] at this
        simpa using this
      have := List.takeWhile_append_dropWhile (p := fun b : UInt8 => decide (b ≠ 46)) (l := t)
      rw [hd, hx] at this
      exact this.symm
    · cases h3
theorem tok_text (t : Bytes) (h : (decide (t.length ≤ 200) && printable t) = true) : TokOK ⟨3, t⟩ := by
  rw [Bool.and_eq_true, decide_eq_true_iff] at h
  refine .inr (.inr (.inl ⟨rfl, h.1, ?_⟩))
  have h2 := h.2
  unfold printable at h2
  rw [List.all_eq_true] at h2 ⊢
  intro b hb
  have := h2 b hb
  simpa using this
theorem tok_fence (t : Bytes) (h : fence t = true) : TokOK ⟨5, t⟩ := by
  unfold fence at h
  split at h
  · rename_i a b
    rw [Bool.and_eq_true, delim_is, delim_is] at h
    exact .inr (.inr (.inr (.inr (.inl ⟨rfl, a, b, rfl, h.1, h.2⟩))))
  · cases h
theorem tok_accent (t : Bytes) (h : accents.contains t = true) : TokOK (name t) := by
  have : t ∈ accents := by simpa using h
  simp only [accents, List.mem_cons, List.not_mem_nil, or_false] at this
  rcases this with rfl | rfl | rfl | rfl | rfl | rfl <;> exact tok_name _ (by decide) (by decide) (by decide) (by decide)

def AllOK (l : List Tok) : Prop := ∀ t ∈ l, TokOK t
theorem AllOK.app {l m : List Tok} (h : AllOK l) (k : AllOK m) : AllOK (l ++ m) := fun t ht => (List.mem_append.1 ht).elim (h t) (k t)
theorem AllOK.cons {x : Tok} {m : List Tok} (h : TokOK x) (k : AllOK m) : AllOK (x :: m) := fun t ht => (List.mem_cons.1 ht).elim (fun e => e ▸ h) (k t)
theorem AllOK.nil : AllOK [] := fun t ht => by cases ht

theorem rows_ok (ks : List Nd) (h : ∀ x ∈ ks, AllOK (itemT x)) : AllOK (rowT ks) := by
  induction ks with
  | nil => rw [rowT_nil]; exact .nil
  | cons x ks ih => rw [rowT_cons]; exact (h x (by simp)).app (ih fun y hy => h y (by simp [hy]))
theorem braces_ok (ks : List Nd) (h : ∀ x ∈ ks, AllOK (itemT x)) (a b : UInt8) (ha : Lx.isB 5 a = true) (hb : Lx.isB 5 b = true) : AllOK (mk7 a :: (rowT ks ++ [mk7 b])) :=
  .cons (tok_mark a ha) ((rows_ok ks h).app (.cons (tok_mark b hb) .nil))
theorem args_ok (a : Nd) (h : ∀ x ∈ a.kids, AllOK (itemT x)) : AllOK (argT a) := by
  rw [argT_eq]
  split
  · rename_i x hx
    rw [hx] at h
    split
    · exact h x (by simp)
    · exact braces_ok _ h _ _ rfl rfl
  · exact braces_ok _ h _ _ rfl rfl
theorem base_ok (a : Nd) (h : ∀ x ∈ a.kids, AllOK (itemT x)) : AllOK (baseT a) := by
  rw [baseT_eq]
  split
  · rename_i x hx
    rw [hx] at h
    split
    · exact braces_ok _ h _ _ rfl rfl
    · exact h x (by simp)
  · exact braces_ok _ h _ _ rfl rfl
theorem cells_ok (c : Int) (ks : List Nd) : ∀ i, (∀ k ∈ ks, ∀ x ∈ k.kids, AllOK (itemT x)) → AllOK (cellsT c i ks) := by
  induction ks with
  | nil => intro i _; rw [cellsT]; exact .nil
  | cons k ks ih =>
    intro i h
    rw [cellsT]
    refine .app ?_ ((rows_ok _ (h k (by simp))).app (ih _ fun y hy => h y (by simp [hy])))
    split
    · exact .nil
    · split
      · exact .cons tok_break .nil
      · exact .cons (tok_mark _ rfl) .nil

theorem item_ok (m : Nat) : ∀ n, count n ≤ m → View n → AllOK (itemT n) := by
  induction m with
  | zero => intro n h; have := count_pos n; omega
  | succ m ih =>
    intro n hc v
    have hk : ∀ (k : Int) (t : Bytes) (c : Int) (ks : List Nd), n = .mk k t c ks → ∀ a ∈ ks, IsRow a → ∀ x ∈ a.kids, AllOK (itemT x) := fun k t c ks e a ha hr x hx => by
      have h1 := count_mem hx
      have h2 := count_kids a
      have h3 := count_mem ha
      rw [e, count] at hc
      exact ih x (by omega) (hr.views x hx)
    cases v with
    | sym t h => rw [itemT_sym]; exact .cons (tok_sym t h) .nil
    | num t h => rw [itemT_num]; exact .cons (tok_num t h) .nil
    | text t h => rw [itemT_text]; exact .cons (tok_text t h) .nil
    | frac a b ha hb =>
      rw [itemT_frac]
      exact .cons (tok_name _ (by decide) (by decide) (by decide) (by decide)) ((args_ok a (hk _ _ _ _ rfl a (by simp) ha)).app (args_ok b (hk _ _ _ _ rfl b (by simp) hb)))
    | root a b ha hb =>
      rw [itemT_root]
      refine .cons (tok_name _ (by decide) (by decide) (by decide) (by decide)) (.app ?_ (args_ok b (hk _ _ _ _ rfl b (by simp) hb)))
      split
      · exact .nil
      · exact braces_ok _ (hk _ _ _ _ rfl a (by simp) ha) _ _ rfl rfl
    | sub a b ha hb =>
      rw [itemT_sub]
      exact (base_ok a (hk _ _ _ _ rfl a (by simp) ha)).app (.cons (tok_mark _ rfl) (args_ok b (hk _ _ _ _ rfl b (by simp) hb)))
    | sup a b ha hb =>
      rw [itemT_sup]
      exact (base_ok a (hk _ _ _ _ rfl a (by simp) ha)).app (.cons (tok_mark _ rfl) (args_ok b (hk _ _ _ _ rfl b (by simp) hb)))
    | both a b d ha hb hd =>
      rw [itemT_both]
      exact (base_ok a (hk _ _ _ _ rfl a (by simp) ha)).app (.cons (tok_mark _ rfl) ((args_ok b (hk _ _ _ _ rfl b (by simp) hb)).app (.cons (tok_mark _ rfl) (args_ok d (hk _ _ _ _ rfl d (by simp) hd)))))
    | accent t a h ha =>
      rw [itemT_accent]
      exact .cons (tok_accent t h) (args_ok a (hk _ _ _ _ rfl a (by simp) ha))
    | fence t a h ha =>
      rw [itemT_fence]
      split
      · rename_i ht
        rcases ht with rfl | rfl <;> exact braces_ok _ (hk _ _ _ _ rfl a (by simp) ha) _ _ rfl rfl
      · exact .cons (tok_fence t h) (args_ok a (hk _ _ _ _ rfl a (by simp) ha))
    | matrix c ks hc1 hn hm h =>
      rw [itemT_matrix c ks (by rintro rfl; simp at hn)]
      exact .cons (tok_name _ (by decide) (by decide) (by decide) (by decide)) (.cons (tok_mark _ rfl) ((cells_ok c ks 0 fun k hk' => hk _ _ _ _ rfl k hk' (h k hk')).app (.cons (tok_mark _ rfl) .nil)))
theorem row_ok (a : Nd) (ha : IsRow a) : AllOK (rowT a.kids) := rows_ok _ fun x hx => item_ok _ x (Nat.le_refl _) (ha.views x hx)

/-- Tokens, each behind a space if it joins with the one before. -/
def sepd : Option Tok → List Tok → List (Bytes × Tok)
  | _, [] => []
  | o, t :: ts => ((match o with | some a => if Lx.join a t then [32] else [] | none => []), t) :: sepd (some t) ts
def wtext (l : List Tok) : Bytes := Lx.flat (sepd none l)
theorem sepd_spaced : ∀ (l : List Tok) (o : Option Tok), AllOK l → Lx.spaced o (sepd o l)
  | [], _, _ => trivial
  | t :: ts, o, h => by
    refine ⟨?_, h t (by simp), ?_, sepd_spaced ts (some t) fun x hx => h x (by simp [hx])⟩
    · cases o with
      | none => rfl
      | some a => simp only; split <;> rfl
    · intro e a ha
      subst ha
      simp only at e
      cases hj : Lx.join a t with
      | false => rfl
      | true => rw [hj] at e; simp at e
theorem sepd_toks : ∀ (l : List Tok) (o : Option Tok), (sepd o l).map (·.2) = l
  | [], _ => rfl
  | t :: ts, o => by simp only [sepd, List.map_cons, sepd_toks ts]
theorem wtext_lex (l : List Tok) (h : AllOK l) : Lx.lexAll (wtext l) = (Lx.placed 0 (sepd none l), none) := Lx.lexAll_flat _ (sepd_spaced l none h)
theorem wtext_inj (l m : List Tok) (hl : AllOK l) (hm : AllOK m) (h : wtext l = wtext m) : l = m := by
  have h1 := wtext_lex l hl
  have h2 := wtext_lex m hm
  rw [h, h2] at h1
  have h3 := congrArg (fun p : List Lx.PTok × Option (Nat × Nat) => p.1.map Lx.tok) h1
  simp only [Lx.placed_toks, sepd_toks] at h3
  exact h3.symm

/-- Two valid trees have the same text exactly if they are equal. -/
theorem text_tells (a b : Nd) (ha : IsRow a) (hb : IsRow b) : (wtext (rowT a.kids) = wtext (rowT b.kids)) ↔ a = b :=
  ⟨fun h => rowT_inj a b ha hb (wtext_inj _ _ (row_ok a ha) (row_ok b hb) h), fun h => by rw [h]⟩
theorem valid_row (a : Nd) (h : valid a = true) : IsRow a := by
  unfold valid at h
  simp only [Bool.and_eq_true, beq_iff_eq, decide_eq_true_eq] at h
  exact ⟨h.1.1.1, h.1.1.2⟩
end Go.Proofs.Ytilgpmpiidccjaa.Tr

/- Plain law: tokens added one by one. -/
namespace Go.Proofs.Ytilgpmpiidccjaa

/-- Tokens added one by one: the tokens and the text behind. -/
def adds : List Lx.Tok → List Lx.PTok → List UInt8 → List Lx.PTok × List UInt8
  | [], toks, txt => (toks, txt)
  | t :: l, toks, txt => adds l (added toks txt t) (txt ++ gap toks t ++ Lx.spell t)

theorem adds_app : ∀ (l m : List Lx.Tok) (toks : List Lx.PTok) (txt : List UInt8), adds (l ++ m) toks txt = adds m (adds l toks txt).1 (adds l toks txt).2
  | [], _, _, _ => rfl
  | t :: l, m, toks, txt => by
    show adds (l ++ m) _ _ = _
    rw [adds_app l m]
    rfl

theorem adds_eq : ∀ (l : List Lx.Tok) (toks : List Lx.PTok) (txt : List UInt8), adds l toks txt = (toks ++ Lx.placed txt.length (Tr.sepd (toks.getLast?.map Lx.tok) l), txt ++ Lx.flat (Tr.sepd (toks.getLast?.map Lx.tok) l))
  | [], toks, txt => by simp [adds, Tr.sepd, Lx.placed, Lx.flat]
  | t :: l, toks, txt => by
    have hs : Tr.sepd (toks.getLast?.map Lx.tok) (t :: l) = (gap toks t, t) :: Tr.sepd (some t) l := by
      unfold gap joinLast
      cases toks.getLast? <;> rfl
    have e1 : (added toks txt t).getLast?.map Lx.tok = some t := by simp [added, Lx.tok]
    show adds l (added toks txt t) (txt ++ gap toks t ++ Lx.spell t) = _
    rw [adds_eq l, e1, hs]
    simp [added, Lx.placed, Lx.flat, Nat.add_assoc]

/-- Added to an empty printer: the text of the tokens, and the tokens with their places. -/
theorem adds_wtext (l : List Lx.Tok) : adds l [] [] = (Lx.placed 0 (Tr.sepd none l), Tr.wtext l) := by
  rw [adds_eq]
  rfl
end Go.Proofs.Ytilgpmpiidccjaa

/- Small methods of the printer: mark. -/
namespace Go.Proofs.Ytilgpmpiidccjaa
open Go.RowKit

/-- The printer behind some tokens more. -/
def PrAdd (w w' : World) (p B : Nat) (toks : List Lx.PTok) (txt : List UInt8) (l : List Lx.Tok) : Prop :=
  ∃ vt' vb' cs', Pr w' p B vt' vb' cs' (adds l toks txt).1 (adds l toks txt).2 ∧ Touch (PS p B w) w w'

theorem PrAdd.app {a b c : World} {p B : Nat} {toks : List Lx.PTok} {txt : List UInt8} {l m : List Lx.Tok} (h : PrAdd a b p B toks txt l) (k : PrAdd b c p B (adds l toks txt).1 (adds l toks txt).2 m) : PrAdd a c p B toks txt (l ++ m) := by
  obtain ⟨_, _, _, _, ht⟩ := h
  obtain ⟨vt, vb, cs, hp, ht'⟩ := k
  rw [← adds_app] at hp
  exact ⟨vt, vb, cs, hp, PS.trans ht ht'⟩

theorem add_one {w : World} {p B : Nat} {vt vb : Value} {cs : Array Value} {txt : List UInt8} {toks : List Lx.PTok} (h : Pr w p B vt vb cs toks txt) (k : Nat) (t : List UInt8) (hB : B ≤ w.heap.size) (hl : txt.length ≤ 1000000) (ht : t.length ≤ 1000000) (hn : toks.length ≤ 1000000) :
    Calls Try.prog 122 #[.pointer (some ⟨p, 0, none⟩), .int .i64 (k : Int), .string ⟨t.toArray⟩] w fun e w' => e = .returned (.tuple #[]) ∧ PrAdd w w' p B toks txt [⟨k, t⟩] :=
  add_any h k t hB hl ht hn

set_option maxRecDepth 100000 in
theorem pmark_any {w : World} {p B : Nat} {vt vb : Value} {cs : Array Value} {txt : List UInt8} {toks : List Lx.PTok} (h : Pr w p B vt vb cs toks txt) (t : List UInt8) (hB : B ≤ w.heap.size) (hl : txt.length ≤ 1000000) (ht : t.length ≤ 1000000) (hn : toks.length ≤ 1000000) :
    Calls Try.prog 124 #[.pointer (some ⟨p, 0, none⟩), .string ⟨t.toArray⟩] w fun e w' => e = .returned (.tuple #[]) ∧ PrAdd w w' p B toks txt [⟨7, t⟩] := by
  have H := hid (add_one h 7 t hB hl ht hn)
  clear h
  go_enter Try.func124, Try.ntmps124
  go_wp2_with fail
  refine H.out.mono ?_
  rintro _ w1 ⟨rfl, h1⟩
  have H1 := hid h1
  clear h1
  go_wp2_with fail
  go_end0
  exact ⟨rfl, H1.out⟩

theorem PrAdd.freshL {a b c : World} {p B : Nat} {toks : List Lx.PTok} {txt : List UInt8} {l : List Lx.Tok} (hf : Fresh a b) (k : PrAdd b c p B toks txt l) : PrAdd a c p B toks txt l := by
  obtain ⟨vt, vb, cs, hp, ht'⟩ := k
  exact ⟨vt, vb, cs, hp, PS.freshL hf ht'⟩

set_option maxRecDepth 100000 in
theorem number_pr {w : World} {p B : Nat} {vt vb : Value} {cs : Array Value} {txt : List UInt8} {toks : List Lx.PTok} (h : Pr w p B vt vb cs toks txt) (x c : Value) (kd : Value) (t : List UInt8) (hB : B ≤ w.heap.size) (hl : txt.length ≤ 1000000) (ht : t.length ≤ 1000000) (hn : toks.length ≤ 1000000) :
    Calls Try.prog 76 #[.pointer (some ⟨p, 0, none⟩), .agg #[kd, .string ⟨t.toArray⟩, c, x]] w fun e w' => e = .returned (.tuple #[]) ∧ PrAdd w w' p B toks txt [⟨2, t⟩] := by
  have hf : ∀ o, Fresh w (w.alloc o) := fun o => (Touch.refl _ w).alloc o
  have H := hid (fun o => add_one (h.fresh (hf o)) 2 t (Nat.le_trans hB (hf o).size) hl ht hn)
  clear h
  go_enter Try.func76, Try.ntmps76
  go_wp2_with fail
  refine (H.out _).mono ?_
  rintro _ w1 ⟨rfl, h1⟩
  have H1 := hid (PrAdd.freshL (hf _) h1)
  clear h1
  go_wp2_with fail
  go_end0
  exact ⟨rfl, H1.out⟩

set_option maxRecDepth 100000 in
theorem quoted_pr {w : World} {p B : Nat} {vt vb : Value} {cs : Array Value} {txt : List UInt8} {toks : List Lx.PTok} (h : Pr w p B vt vb cs toks txt) (x c : Value) (kd : Value) (t : List UInt8) (hB : B ≤ w.heap.size) (hl : txt.length ≤ 1000000) (ht : t.length ≤ 1000000) (hn : toks.length ≤ 1000000) :
    Calls Try.prog 77 #[.pointer (some ⟨p, 0, none⟩), .agg #[kd, .string ⟨t.toArray⟩, c, x]] w fun e w' => e = .returned (.tuple #[]) ∧ PrAdd w w' p B toks txt [⟨3, t⟩] := by
  have hf : ∀ o, Fresh w (w.alloc o) := fun o => (Touch.refl _ w).alloc o
  have H := hid (fun o => add_one (h.fresh (hf o)) 3 t (Nat.le_trans hB (hf o).size) hl ht hn)
  clear h
  go_enter Try.func77, Try.ntmps77
  go_wp2_with fail
  refine (H.out _).mono ?_
  rintro _ w1 ⟨rfl, h1⟩
  have H1 := hid (PrAdd.freshL (hf _) h1)
  clear h1
  go_wp2_with fail
  go_end0
  exact ⟨rfl, H1.out⟩

set_option maxRecDepth 100000 in
theorem symbol_pr {w : World} {p B : Nat} {vt vb : Value} {cs : Array Value} {txt : List UInt8} {toks : List Lx.PTok} (h : Pr w p B vt vb cs toks txt) (x c : Value) (kd : Value) (t : List UInt8) (hB : B ≤ w.heap.size) (hl : txt.length ≤ 1000000) (ht : t.length ≤ 1000000) (hn : toks.length ≤ 1000000) :
    Calls Try.prog 75 #[.pointer (some ⟨p, 0, none⟩), .agg #[kd, .string ⟨t.toArray⟩, c, x]] w fun e w' => e = .returned (.tuple #[]) ∧ PrAdd w w' p B toks txt [⟨if t.length = 1 then 1 else 4, t⟩] := by
  have hf : ∀ o, Fresh w (w.alloc o) := fun o => (Touch.refl _ w).alloc o
  have H := hid (fun k o => add_one (h.fresh (hf o)) k t (Nat.le_trans hB (hf o).size) hl ht hn)
  clear h
  have hsz : (ByteArray.mk t.toArray).size = t.length := by show t.toArray.size = _; simp
  by_cases h1 : t.length = 1
  · have d1 : ((ByteArray.mk t.toArray).size : Int) = 1 := by omega
    have HE := hid (if_pos h1 : (if t.length = 1 then 1 else 4) = (1 : Nat))
    rw [HE.out]
    clear h1
    go_enter Try.func75, Try.ntmps75
    go_wp2_with fail
    refine (H.out 1 _).mono ?_
    rintro _ w1 ⟨rfl, h1⟩
    have H1 := hid (PrAdd.freshL (hf _) h1)
    clear h1
    go_wp2_with fail
    go_end0
    exact ⟨rfl, H1.out⟩
  · have d1 : (((ByteArray.mk t.toArray).size : Int) == 1) = false := by simp; omega
    have d2 : ¬ ((ByteArray.mk t.toArray).size : Int) = 1 := by omega
    have HE := hid (if_neg h1 : (if t.length = 1 then 1 else 4) = (4 : Nat))
    rw [HE.out]
    clear h1
    go_enter Try.func75, Try.ntmps75
    go_wp2_with fail
    refine (H.out 4 _).mono ?_
    rintro _ w1 ⟨rfl, h1⟩
    have H1 := hid (PrAdd.freshL (hf _) h1)
    clear h1
    go_wp2_with fail
    go_end0
    exact ⟨rfl, H1.out⟩
end Go.Proofs.Ytilgpmpiidccjaa

/- The printer's methods: words for their contracts. -/
namespace Go.Proofs.Ytilgpmpiidccjaa
open Go.RowKit

/-- Only blocks that are new since W0 have turned. -/
abbrev Low (W0 w : World) : Prop := Touch (fun k => W0.heap.size ≤ k) W0 w

theorem low_no {W0 : World} {q : Addr} {v : Value} (h : W0.cell? q = some v) : ¬ W0.heap.size ≤ q.block := by
  have := block_lt_of_cell (a := q) (v := v) h
  omega
theorem Low.cell {W0 w : World} (hl : Low W0 w) {q : Addr} {v : Value} (h : W0.cell? q = some v) : w.cell? q = some v := Touch.cell hl h (low_no h)
theorem Low.fresh {W0 w w' : World} (hl : Low W0 w) (hf : Fresh w w') : Low W0 w' := hl.trans' hf fun _ h => h.elim
theorem RepL.low {W0 w : World} {ks : List Tr.Nd} {v : Value} (h : RepL W0 ks v) (hl : Low W0 w) : RepL w ks v := by
  induction h with
  | nil A cap => exact .nil A cap
  | row g o cap ks sl hg hln ht h0 h1 h2 h3 hk ih =>
    exact .row g o cap ks sl (Nat.lt_of_lt_of_le hg hl.size) hln ht (fun i hi => hl.cell (h0 i hi)) (fun i hi => hl.cell (h1 i hi)) (fun i hi => hl.cell (h2 i hi)) (fun i hi => hl.cell (h3 i hi)) ih

/-- The printer, with all that lay in memory before it. -/
structure PSt (W0 : World) (p B : Nat) (w : World) (toks : List Lx.PTok) (txt : List UInt8) : Prop where
  low : Low W0 w
  hp : W0.heap.size ≤ p
  hB : B ≤ w.heap.size
  pr : ∃ vt vb cs, Pr w p B vt vb cs toks txt

theorem PSt.lt {W0 : World} {p B : Nat} {w : World} {toks : List Lx.PTok} {txt : List UInt8} (h : PSt W0 p B w toks txt) : p < B := by
  obtain ⟨_, _, _, h⟩ := h.pr
  exact h.lt
theorem PS.low {W0 : World} {p B : Nat} {w w' : World} (hl : Low W0 w) (hp : W0.heap.size ≤ p) (hB : p < B) (ht : Touch (PS p B w) w w') : Low W0 w' :=
  hl.trans' ht fun k hk => .inl (by
    rcases hk with rfl | ⟨h, _⟩
    · exact hp
    · omega)
theorem PSt.add {W0 : World} {p B : Nat} {w w' : World} {toks : List Lx.PTok} {txt : List UInt8} {l : List Lx.Tok} (h : PSt W0 p B w toks txt) (k : PrAdd w w' p B toks txt l) : PSt W0 p B w' (adds l toks txt).1 (adds l toks txt).2 := by
  obtain ⟨vt, vb, cs, hp, ht⟩ := k
  exact ⟨PS.low h.low h.hp h.lt ht, h.hp, Nat.le_trans h.hB ht.size, vt, vb, cs, hp⟩
theorem PSt.add2 {W0 : World} {p B : Nat} {w w' : World} {toks : List Lx.PTok} {txt : List UInt8} {l m : List Lx.Tok} (h : PSt W0 p B w (adds l toks txt).1 (adds l toks txt).2) (k : PrAdd w w' p B (adds l toks txt).1 (adds l toks txt).2 m) : PSt W0 p B w' (adds (l ++ m) toks txt).1 (adds (l ++ m) toks txt).2 := by
  rw [adds_app]
  exact h.add k
theorem PSt.fresh {W0 : World} {p B : Nat} {w w' : World} {toks : List Lx.PTok} {txt : List UInt8} (h : PSt W0 p B w toks txt) (hf : Fresh w w') : PSt W0 p B w' toks txt := by
  obtain ⟨vt, vb, cs, hp⟩ := h.pr
  exact ⟨h.low.fresh hf, h.hp, Nat.le_trans h.hB hf.size, vt, vb, cs, hp.fresh hf⟩

/-- Tokens that fit behind others. -/
def Fits (l : List Lx.Tok) (toks : List Lx.PTok) (txt : List UInt8) : Prop := (adds l toks txt).1.length ≤ 1000000 ∧ (adds l toks txt).2.length ≤ 1000000

theorem adds_mono : ∀ (l : List Lx.Tok) (toks : List Lx.PTok) (txt : List UInt8), toks.length ≤ (adds l toks txt).1.length ∧ txt.length ≤ (adds l toks txt).2.length
  | [], _, _ => ⟨Nat.le_refl _, Nat.le_refl _⟩
  | t :: l, toks, txt => by
    have := adds_mono l (added toks txt t) (txt ++ gap toks t ++ Lx.spell t)
    simp only [adds, added, List.length_append, List.length_singleton] at this ⊢
    omega
theorem Fits.left {l m : List Lx.Tok} {toks : List Lx.PTok} {txt : List UInt8} (h : Fits (l ++ m) toks txt) : Fits l toks txt := by
  unfold Fits at h ⊢
  rw [adds_app] at h
  have := adds_mono m (adds l toks txt).1 (adds l toks txt).2
  omega
theorem Fits.right {l m : List Lx.Tok} {toks : List Lx.PTok} {txt : List UInt8} (h : Fits (l ++ m) toks txt) : Fits m (adds l toks txt).1 (adds l toks txt).2 := by
  unfold Fits at h ⊢
  rw [adds_app] at h
  exact h
theorem Fits.right2 {k l m : List Lx.Tok} {toks : List Lx.PTok} {txt : List UInt8} (h : Fits (l ++ m) (adds k toks txt).1 (adds k toks txt).2) : Fits m (adds (k ++ l) toks txt).1 (adds (k ++ l) toks txt).2 := by
  rw [adds_app]
  exact h.right
theorem Fits.start {l : List Lx.Tok} {toks : List Lx.PTok} {txt : List UInt8} (h : Fits l toks txt) : toks.length ≤ 1000000 ∧ txt.length ≤ 1000000 := by
  unfold Fits at h
  have := adds_mono l toks txt
  omega
theorem spell_le (t : Lx.Tok) : t.text.length ≤ (Lx.spell t).length := Lx.spellL_len _ _
theorem Fits.one {t : Lx.Tok} {toks : List Lx.PTok} {txt : List UInt8} (h : Fits [t] toks txt) : t.text.length ≤ 1000000 := by
  unfold Fits at h
  simp only [adds, List.length_append] at h
  have := spell_le t
  omega

/-- A call that adds tokens to the printer. -/
def Emits (f : Nat) (args : Array Value) (W0 : World) (p B : Nat) (l : List Lx.Tok) : Prop :=
  ∀ (w : World) (toks : List Lx.PTok) (txt : List UInt8), PSt W0 p B w toks txt → Fits l toks txt → Calls Try.prog f args w fun e w' => e = .returned (.tuple #[]) ∧ PrAdd w w' p B toks txt l

/-- A node's value. -/
abbrev nv (n : Tr.Nd) (sl : Value) : Value := .agg #[.int .i64 n.kind, .string ⟨n.text.toArray⟩, .int .i64 n.cols, sl]
abbrev pp (p : Nat) : Value := .pointer (some ⟨p, 0, none⟩)

theorem add_em (W0 : World) (p B k : Nat) (t : List UInt8) : Emits 122 #[pp p, .int .i64 (k : Int), .string ⟨t.toArray⟩] W0 p B [⟨k, t⟩] := by
  intro w toks txt h hf
  obtain ⟨vt, vb, cs, hp⟩ := h.pr
  exact add_one hp k t h.hB hf.start.2 hf.one hf.start.1
theorem mark_em (W0 : World) (p B : Nat) (t : List UInt8) : Emits 124 #[pp p, .string ⟨t.toArray⟩] W0 p B [⟨7, t⟩] := by
  intro w toks txt h hf
  obtain ⟨vt, vb, cs, hp⟩ := h.pr
  exact pmark_any hp t h.hB hf.start.2 hf.one hf.start.1
theorem number_em (W0 : World) (p B : Nat) (n : Tr.Nd) (sl : Value) : Emits 76 #[pp p, nv n sl] W0 p B [⟨2, n.text⟩] := by
  intro w toks txt h hf
  obtain ⟨vt, vb, cs, hp⟩ := h.pr
  exact number_pr hp _ _ _ n.text h.hB hf.start.2 hf.one hf.start.1
theorem quoted_em (W0 : World) (p B : Nat) (n : Tr.Nd) (sl : Value) : Emits 77 #[pp p, nv n sl] W0 p B [⟨3, n.text⟩] := by
  intro w toks txt h hf
  obtain ⟨vt, vb, cs, hp⟩ := h.pr
  exact quoted_pr hp _ _ _ n.text h.hB hf.start.2 hf.one hf.start.1
theorem symbol_em (W0 : World) (p B : Nat) (n : Tr.Nd) (sl : Value) : Emits 75 #[pp p, nv n sl] W0 p B [⟨if n.text.length = 1 then 1 else 4, n.text⟩] := by
  intro w toks txt h hf
  obtain ⟨vt, vb, cs, hp⟩ := h.pr
  exact symbol_pr hp _ _ _ n.text h.hB hf.start.2 hf.one hf.start.1

def RowE (W0 : World) (p B : Nat) (n : Tr.Nd) : Prop := ∀ sl, RepL W0 n.kids sl → Emits 30 #[pp p, nv n sl] W0 p B (Tr.rowT n.kids)
def GroupE (W0 : World) (p B : Nat) (n : Tr.Nd) : Prop := ∀ sl, RepL W0 n.kids sl → Emits 126 #[pp p, nv n sl] W0 p B ([Tr.mk7 123] ++ (Tr.rowT n.kids ++ [Tr.mk7 125]))
def ArgE (W0 : World) (p B : Nat) (n : Tr.Nd) : Prop := ∀ sl, RepL W0 n.kids sl → Emits 123 #[pp p, nv n sl] W0 p B (Tr.argT n)
end Go.Proofs.Ytilgpmpiidccjaa
