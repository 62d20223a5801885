/- Part 19 of 35 of a proof; its texts, joined: XqB. No condition. -/
import Derived.Test.YtnbeemkfmlfgfaaGreatDoorYa18
set_option maxRecDepth 100000
namespace Go.Proofs.YtnbeemkfmlfgfaaGreatDoor.Xp
open El (E Attrs Bytes letter inner printable escB escL attrW attrsW writeE writeL nameOK valueOK attrsOK ownOK proper properL count countL depth depthL)
theorem byte_all (p : UInt8 → Bool) (h : ∀ n : Fin 256, p (UInt8.ofNat n.1) = true) (b : UInt8) : p b = true := by
 have := h ⟨b.toNat, b.toNat_lt⟩;simpa using this
theorem letter_inner {b : UInt8} (h : letter b = true) : inner b = true := by
 have := byte_all (fun b => !letter b || inner b) (by decide +kernel) b;rw [h] at this;simpa using this
theorem letter_plain {b : UInt8} (h : letter b = true) : white b = false ∧ b ≠ 47 ∧ b ≠ 62 ∧ b ≠ 60 ∧ b ≠ 34 ∧ b ≠ 61 := by
 have := byte_all (fun b => !letter b || (!white b && b != 47 && b != 62 && b != 60 && b != 34 && b != 61)) (by decide +kernel) b;rw [h] at this;simpa [and_assoc] using this
theorem print_white {b : UInt8} (h : printable b = true) (h2 : white b = true) : b = 32 := by
 have := byte_all (fun b => !(printable b && white b) || b == 32) (by decide +kernel) b;rw [h, h2] at this;simpa using this
theorem span_app {p : UInt8 → Bool} {q : Bytes} {b : UInt8} {l : Bytes} (h : q.all p = true) (h2 : p b = false) : (q ++ b :: l).takeWhile p = q ∧ (q ++ b :: l).dropWhile p = b :: l := by
 obtain ⟨h4, h5⟩ := take_all q (b :: l) h;obtain ⟨h6, h7⟩ := take_stop l h2;rw [h4, h5, h6, h7, List.append_nil];exact ⟨rfl, rfl⟩
theorem expect_ok (b : UInt8) (c : Nat) (l : Bytes) : expectR b c (b :: l) = .ok () l c := if_pos rfl
theorem char_esc (n c : Nat) (b : UInt8) (r : Bytes) (hn : n < 200) (hp : printable b = true) : charR n c (escB b ++ r) = .ok b r c := by
 have hno : ∀ x : UInt8, x ≠ 60 → printable x = true → ¬ (200 ≤ n ∨ x = 60 ∨ printable x = false) := fun x h1 h2 h => by
  rcases h with h | h | h
  ·omega
  ·exact h1 h
  ·rw [h2] at h; cases h
 unfold escB
 by_cases h1 : b = 38
 ·subst h1
  rw [if_pos rfl];show (if 200 ≤ n ∨ (38 : UInt8) = 60 ∨ printable 38 = false then _ else if (38 : UInt8) = 38 then _ else _) = _;rw [if_neg (hno 38 (by decide) hp), if_pos rfl];simp [replR, repls, pre]
 by_cases h2 : b = 60
 ·subst h2
  rw [if_neg h1, if_pos rfl];show (if 200 ≤ n ∨ (38 : UInt8) = 60 ∨ printable 38 = false then _ else if (38 : UInt8) = 38 then _ else _) = _;rw [if_neg (hno 38 (by decide) (by decide)), if_pos rfl];simp [replR, repls, pre]
 by_cases h3 : b = 62
 ·subst h3
  rw [if_neg h1, if_neg h2, if_pos rfl];show (if 200 ≤ n ∨ (38 : UInt8) = 60 ∨ printable 38 = false then _ else if (38 : UInt8) = 38 then _ else _) = _;rw [if_neg (hno 38 (by decide) (by decide)), if_pos rfl];simp [replR, repls, pre]
 by_cases h4 : b = 34
 ·subst h4
  rw [if_neg h1, if_neg h2, if_neg h3, if_pos rfl];show (if 200 ≤ n ∨ (38 : UInt8) = 60 ∨ printable 38 = false then _ else if (38 : UInt8) = 38 then _ else _) = _;rw [if_neg (hno 38 (by decide) (by decide)), if_pos rfl];simp [replR, repls, pre]
 rw [if_neg h1, if_neg h2, if_neg h3, if_neg h4];show (if 200 ≤ n ∨ b = 60 ∨ printable b = false then _ else if b = 38 then _ else _) = _;rw [if_neg (hno b h2 hp), if_neg h1];rfl
theorem escB_head (b q : UInt8) (h : q = 34 ∨ q = 60) : ∃ x l, escB b = x :: l ∧ x ≠ q := by
 unfold escB;split
 ·exact ⟨38, _, rfl, by rcases h with rfl | rfl <;> decide⟩
 ·split
  ·exact ⟨38, _, rfl, by rcases h with rfl | rfl <;> decide⟩
  ·split
   ·exact ⟨38, _, rfl, by rcases h with rfl | rfl <;> decide⟩
   ·split
    ·exact ⟨38, _, rfl, by rcases h with rfl | rfl <;> decide⟩
    ·exact ⟨b, [], rfl, by rcases h with rfl | rfl <;> assumption⟩
theorem escL_cons (b : UInt8) (s : Bytes) : escL (b :: s) = escB b ++ escL s := rfl
theorem text_esc (q : UInt8) (hq : q = 34 ∨ q = 60) (c : Nat) : ∀ (v acc r : Bytes), v.all printable = true → acc.length + v.length ≤ 200 → textA q c acc (escL v ++ q :: r) = .ok (acc ++ v) (q :: r) c
 | [], acc, r, _, _ => by rw [List.append_nil]; exact textA_end q c acc r
 | b :: v, acc, r, h, hl => by
  rw [List.all_cons, Bool.and_eq_true] at h;rw [List.length_cons] at hl;obtain ⟨x, l, hx, hxq⟩ := escB_head b q hq;have h1 := char_esc acc.length c b (escL v ++ q :: r) (by omega) h.1;rw [escL_cons, List.append_assoc];rw [hx, List.cons_append] at h1 ⊢;rw [textA_step hxq h1, text_esc q hq c v (acc ++ [b]) r h.2 (by rw [List.length_append]; simp only [List.length_cons, List.length_nil]; omega), List.append_assoc];rfl
theorem name_parts {nm : Bytes} (h : nameOK nm = true) : ∃ b s, nm = b :: s ∧ letter b = true ∧ nm.all inner = true := by
 cases nm with
 | nil => cases h
 | cons b s =>
  have h : (letter b && s.all inner) = true := h;rw [Bool.and_eq_true] at h;exact ⟨b, s, rfl, h.1, by rw [List.all_cons, letter_inner h.1, h.2]; rfl⟩
theorem attr_esc {ats : Attrs} {c : Nat} {x : Bytes × Bytes} {r : Bytes} (h1 : nameOK x.1 = true) (h2 : valueOK x.2 = true) (h3 : ats.any (fun y => y.1 == x.1) = false) : attrR ats c (x.1 ++ 61 :: 34 :: (escL x.2 ++ 34 :: r)) = .ok x r c := by
 obtain ⟨b, s, hb, hl, hi⟩ := name_parts h1
 have hn : nameR c (x.1 ++ 61 :: 34 :: (escL x.2 ++ 34 :: r)) = .ok x.1 (61 :: 34 :: (escL x.2 ++ 34 :: r)) c := by
  obtain ⟨t1, t2⟩ := span_app (p := inner) (l := 34 :: (escL x.2 ++ 34 :: r)) (b := 61) hi (by decide);rw [hb, List.cons_append] at t1 t2 ⊢;rw [name_ok hl, t1, t2]
 rw [attrR_ok hn];show (if (61 : UInt8) ≠ 61 ∨ ats.any (fun y => y.1 == x.1) = true then _ else _) = _;rw [if_neg (by rintro (h | h); exact h rfl; rw [h3] at h; cases h), expect_ok];show attrK3 x.1 c (textA 34 c [] _) = _;unfold valueOK at h2;simp only [Bool.and_eq_true, decide_eq_true_eq] at h2;rw [text_esc 34 (.inl rfl) c x.2 [] r h2.1 (by simpa using h2.2)];rfl
theorem attrsW_cons (x : Bytes × Bytes) (l : Attrs) (r : Bytes) : attrsW (x :: l) ++ r = 32 :: (x.1 ++ 61 :: 34 :: (escL x.2 ++ 34 :: (attrsW l ++ r))) := by
 unfold attrsW attrW;simp [List.flatMap_cons]
theorem attrs_esc (c : Nat) (tail : Bytes) (R : Attrs → Rs (Attrs × Bool)) (hR : ∀ ats : Attrs, ats.length ≤ 8 → attrsA c ats tail = R ats) : ∀ (todo ats : Attrs), ats.length + todo.length ≤ 8 → todo.all (fun x => nameOK x.1 && valueOK x.2) = true → ((ats ++ todo).map (·.1)).Nodup →
  attrsA c ats (attrsW todo ++ tail) = R (ats ++ todo)
 | [], ats, h, _, _ => by rw [List.append_nil]; exact hR ats (by simpa using h)
 | x :: todo, ats, h, h1, h2 => by
  rw [List.all_cons, Bool.and_eq_true, Bool.and_eq_true] at h1;rw [List.length_cons] at h;obtain ⟨b, s, hb, hl, hi⟩ := name_parts h1.1.1;obtain ⟨p1, p2, p3, p4, p5, p6⟩ := letter_plain hl
  have hno : ats.any (fun y => y.1 == x.1) = false := by
   rw [List.any_eq_false];intro y hy he;rw [List.map_append, List.nodup_append] at h2;exact h2.2.2 y.1 (List.mem_map.2 ⟨y, hy, rfl⟩) x.1 (List.mem_map.2 ⟨x, List.mem_cons_self .., rfl⟩) (by simpa using he)
  have ha := attr_esc (c := c) (r := attrsW todo ++ tail) h1.1.1 h1.1.2 hno
  have hd : (attrsW (x :: todo) ++ tail).dropWhile white = x.1 ++ 61 :: 34 :: (escL x.2 ++ 34 :: (attrsW todo ++ tail)) := by
   rw [attrsW_cons, List.dropWhile_cons, if_pos (by decide), hb, List.cons_append, List.dropWhile_cons, if_neg (by rw [p1]; decide)]
  have hlen : (x.1 ++ 61 :: 34 :: (escL x.2 ++ 34 :: (attrsW todo ++ tail))).length < (attrsW (x :: todo) ++ tail).length := by
   rw [attrsW_cons, List.length_cons]; omega
  rw [hb, List.cons_append] at hd ha hlen;rw [attrsA_step (by omega) hd p2 p3 ⟨hlen, hl, by omega⟩ ha];rw [attrs_esc c tail R hR todo (ats ++ [x]) (by rw [List.length_append]; simp only [List.length_cons, List.length_nil]; omega) h1.2 (by rw [List.append_assoc]; exact h2), List.append_assoc];rfl
theorem lit_app (c : Nat) : ∀ (s r : Bytes), litR c s (s ++ r) = .ok () r c
 | [], r => by rw [litR]; rfl
 | b :: s, r => by
  rw [litR, List.cons_append, expect_ok];exact lit_app c s r
theorem end_ok (nm gap r : Bytes) (c : Nat) (hg : gap.all white = true) : endR nm c (47 :: (nm ++ (gap ++ 62 :: r))) = .ok () r c := by
 unfold endR;rw [expect_ok]
 dsimp only
 rw [lit_app]
 dsimp only
 rw [(span_app hg (by decide)).2, expect_ok]
theorem kidsA_nil (el : Bytes → Nat → Rs E) (ks : List E) (l : Bytes) (c : Nat) : kidsA el ks (47 :: l) c = .ok ks (47 :: l) c := by
 unfold kidsA;rw [kidsR];exact if_pos rfl
theorem kidsA_step {el : Bytes → Nat → Rs E} (hel : ∀ l c, Sfx (el l c).left l) {ks : List E} {b : UInt8} {l l1 l3 : Bytes} {c c1 : Nat} {e : E} (hb : b ≠ 47) (he : el (b :: l) c = .ok e l1 c1) (hd : l1.dropWhile white = 60 :: l3) : kidsA el ks (b :: l) c = kidsA el (ks ++ [e]) l3 c1 := by
 unfold kidsA;rw [kidsR, if_neg hb, he]
 dsimp only
 rw [hd]
 dsimp only
 rw [if_pos rfl];refine kidsR_fuel hel _ _ _ _ ?_;have h1 := (hel (b :: l) c).len;rw [he] at h1;have h1 : l1.length ≤ (b :: l).length := h1;have h2 := (Sfx.dropWhile white l1).len;rw [hd, List.length_cons] at h2;omega
def kidsW (gap : Bytes) : List E → Bytes
 | [] => gap
 | k :: ks => gap ++ writeE k ++ kidsW gap ks
def bodyG (gap : Bytes) (e : E) : Bytes := e.name ++ (attrsW e.attrs ++ (if e.kids.isEmpty then (if e.text.isEmpty then [47, 62] else 62 :: (escL e.text ++ 60 :: 47 :: (e.name ++ [62]))) else 62 :: (kidsW gap e.kids ++ 60 :: 47 :: (e.name ++ (gap ++ [62])))))
def kidsT (gap : Bytes) (tail : Bytes) : List E → Bytes
 | [] => 47 :: tail
 | k :: ks => bodyG [] k ++ (gap ++ 60 :: kidsT gap tail ks)
theorem kidsW_nil : ∀ ks : List E, kidsW [] ks = writeL ks
 | [] => by rw [kidsW, writeL]
 | k :: ks => by rw [kidsW, writeL, kidsW_nil ks]; rfl
theorem write_body (e : E) (h : ownOK e = true) : writeE e = 60 :: bodyG [] e := by
 obtain ⟨nm, a, ks, t⟩ := e;unfold ownOK at h;simp only [Bool.and_eq_true, Bool.or_eq_true] at h;have h1 := h.1.1.2;rw [writeE];unfold bodyG;simp only [El.E.name, El.E.attrs, El.E.kids, El.E.text] at h1 ⊢;rw [kidsW_nil];cases ks with
 | nil =>
  cases t with
  | nil => simp
  | cons b t => simp [writeL]
 | cons k ks =>
  cases t with
  | nil => simp [escL]
  | cons b t => simp at h1
theorem kidsW_T (gap tail : Bytes) : ∀ ks : List E, (∀ k ∈ ks, ownOK k = true) → kidsW gap ks ++ 60 :: 47 :: tail = gap ++ 60 :: kidsT gap tail ks
 | [], _ => by rw [kidsW, kidsT]
 | k :: ks, h => by
  rw [kidsW, kidsT, List.append_assoc, List.append_assoc, kidsW_T gap tail ks fun x hx => h x (List.mem_cons_of_mem _ hx), write_body k (h k (List.mem_cons_self ..))];simp
theorem own_of {e : E} (h : proper e = true) : ownOK e = true := by
 rw [El.proper_eq, Bool.and_eq_true] at h; exact h.1
theorem kid_proper {e k : E} (h : proper e = true) (hk : k ∈ e.kids) : proper k = true := by
 rw [El.proper_eq, Bool.and_eq_true, El.properL_all, List.all_eq_true] at h;exact h.2 k hk
theorem body_head {gap : Bytes} {e : E} (h : ownOK e = true) : ∃ b l, (∀ r, bodyG gap e ++ r = b :: (l ++ r)) ∧ letter b = true := by
 unfold ownOK at h;simp only [Bool.and_eq_true] at h;obtain ⟨b, s, hb, hl, _⟩ := name_parts h.1.1.1.1;refine ⟨b, s ++ (attrsW e.attrs ++ (if e.kids.isEmpty then (if e.text.isEmpty then [47, 62] else 62 :: (escL e.text ++ 60 :: 47 :: (e.name ++ [62]))) else 62 :: (kidsW gap e.kids ++ 60 :: 47 :: (e.name ++ (gap ++ [62]))))), fun r => ?_, hl⟩;unfold bodyG;rw [hb];rfl
theorem kids_ok {n : Nat} {gap : Bytes} (hg : gap.all white = true) (tail : Bytes) : ∀ (ks done : List E) (c : Nat), (∀ k ∈ ks, ownOK k = true) → (∀ k ∈ ks, ∀ (r : Bytes) (c : Nat), c + count k ≤ 3000 → elementR n (bodyG [] k ++ r) c = .ok k r (c + count k)) → c + countL ks ≤ 3000 →
  kidsA (elementR n) done (kidsT gap tail ks) c = .ok (done ++ ks) (47 :: tail) (c + countL ks)
 | [], done, c, _, _, _ => by rw [kidsT, kidsA_nil, List.append_nil, countL]; rfl
 | k :: ks, done, c, ho, h, hc => by
  rw [countL] at hc ⊢;rw [kidsT];have h1 := h k (List.mem_cons_self ..) (gap ++ 60 :: kidsT gap tail ks) c (by omega);obtain ⟨b, l, hb, hl⟩ := body_head (gap := []) (ho k (List.mem_cons_self ..));rw [hb] at h1 ⊢
  rw [kidsA_step (fun l c => elementR_left n l c) (letter_plain hl).2.1 h1 (span_app hg (by decide)).2,
   kids_ok hg tail ks (done ++ [k]) (c + count k) (fun x hx => ho x (List.mem_cons_of_mem _ hx)) (fun x hx => h x (List.mem_cons_of_mem _ hx)) (by omega), List.append_assoc, Nat.add_assoc]
  rfl
theorem escL_app (s t : Bytes) : escL (s ++ t) = escL s ++ escL t := by unfold escL; rw [List.flatMap_append]
theorem escL_spaces : ∀ s : Bytes, s.all printable = true → s.all white = true → escL s = s
 | [], _, _ => rfl
 | b :: s, h1, h2 => by
  rw [List.all_cons, Bool.and_eq_true] at h1 h2;have := print_white h1.1 h2.1;subst this;rw [escL_cons, escL_spaces s h1.2 h2.2];rfl
theorem all_spaces : ∀ s : Bytes, s.all printable = true → s.all white = true → s.all (fun b => b == 32) = true
 | [], _, _ => rfl
 | b :: s, h1, h2 => by
  rw [List.all_cons, Bool.and_eq_true] at h1 h2;have := print_white h1.1 h2.1;subst this;rw [List.all_cons, all_spaces s h1.2 h2.2];rfl
theorem all_app {p : UInt8 → Bool} {s t : Bytes} (h : (s ++ t).all p = true) : s.all p = true ∧ t.all p = true := by
 rw [List.all_append, Bool.and_eq_true] at h; exact h
theorem take_white (t : Bytes) : (t.takeWhile white).all white = true := by
 induction t with
 | nil => rfl
 | cons b t ih =>
  rw [List.takeWhile_cons];split
  ·rename_i h
   rw [List.all_cons, h, ih]; rfl
  ·rfl
theorem drop_white {t : Bytes} {b : UInt8} {s : Bytes} (h : t.dropWhile white = b :: s) : white b = false := by
 have := List.takeWhile_append_dropWhile (p := white) (l := t);rw [h] at this;have h2 := (span_all (p := white) (t.takeWhile white) b s (by rw [this]; exact h)).2;exact h2
theorem content_text (el : Bytes → Nat → Rs E) {nm t r : Bytes} {c : Nat} (ht : t ≠ []) (hv : valueOK t = true) : contentR el nm (escL t ++ 60 :: 47 :: (nm ++ 62 :: r)) c = .ok ([], t) r c := by
 unfold valueOK at hv;simp only [Bool.and_eq_true, decide_eq_true_eq] at hv;obtain ⟨hp, hl⟩ := hv;have hsplit := List.takeWhile_append_dropWhile (p := white) (l := t);have hws := take_white t;obtain ⟨ws, hwe⟩ : ∃ ws, t.takeWhile white = ws := ⟨_, rfl⟩;obtain ⟨s, hse⟩ : ∃ s, t.dropWhile white = s := ⟨_, rfl⟩;have hdw : ∀ b s', s = b :: s' → white b = false := fun b s' h => drop_white (by rw [hse, h])
 rw [hwe] at hws hsplit;rw [hse] at hsplit;clear hwe hse;subst hsplit;obtain ⟨p1, p2⟩ := all_app hp;have hsp := all_spaces ws p1 hws;have hlw : ws.length ≤ 200 := by rw [List.length_append] at hl; omega
 have hSB : spacesB ws = true := by unfold spacesB; rw [hsp, decide_eq_true hlw]; rfl
 have hend := end_ok nm [] r c rfl;rw [List.nil_append] at hend;rw [escL_app, escL_spaces ws p1 hws, List.append_assoc];unfold contentR;cases s with
 | nil =>
  rw [List.append_nil] at ht ⊢;show (match (ws ++ 60 :: 47 :: (nm ++ 62 :: r)).dropWhile white with | [] => _ | b :: l2 => _) = _;obtain ⟨t1, t2⟩ := span_app (p := white) (l := 47 :: (nm ++ 62 :: r)) (b := 60) hws (by decide);show (match (ws ++ 60 :: 47 :: (nm ++ 62 :: r)).dropWhile white with | [] => _ | b :: l2 => if b = 60 then _ else _) = _;rw [show (ws ++ (escL [] ++ 60 :: 47 :: (nm ++ 62 :: r))) = ws ++ 60 :: 47 :: (nm ++ 62 :: r) from rfl, t1, t2]
  dsimp only
  rw [if_pos rfl];have hk : kidsR el ((47 :: (nm ++ 62 :: r)).length + 1) [] (47 :: (nm ++ 62 :: r)) c = .ok [] (47 :: (nm ++ 62 :: r)) c := kidsA_nil el [] _ c;rw [hk]
  dsimp only
  rw [hend, hSB];rfl
 | cons b s =>
  have hb := hdw b s rfl;rw [List.all_cons, Bool.and_eq_true] at p2;obtain ⟨x, l, hx, hx60⟩ := escB_head b 60 (.inr rfl)
  have hxw : white x = false := by
   have hx' : escB b = x :: l := hx;unfold escB at hx';split at hx'
   ·cases hx'; decide
   ·split at hx'
    ·cases hx'; decide
    ·split at hx'
     ·cases hx'; decide
     ·split at hx'
      ·cases hx'; decide
      ·cases hx'; exact hb
  have htx := text_esc 60 (.inr rfl) c (b :: s) ws (47 :: (nm ++ 62 :: r)) (by rw [List.all_cons, p2.1, p2.2]; rfl) (by rw [List.length_append] at hl; exact hl);have e1 : escL (b :: s) ++ 60 :: 47 :: (nm ++ 62 :: r) = x :: (l ++ (escL s ++ 60 :: 47 :: (nm ++ 62 :: r))) := by rw [escL_cons, hx, List.append_assoc, List.cons_append]
  rw [e1] at htx ⊢;obtain ⟨t1, t2⟩ := span_app (p := white) (l := l ++ (escL s ++ 60 :: 47 :: (nm ++ 62 :: r))) hws hxw;rw [t1, t2]
  dsimp only
  rw [if_neg hx60, if_neg (by rw [hSB]; decide)];have htx : textR 60 c ((x :: (l ++ (escL s ++ 60 :: 47 :: (nm ++ 62 :: r)))).length + 1) ws (x :: (l ++ (escL s ++ 60 :: 47 :: (nm ++ 62 :: r)))) = _ := htx;rw [htx]
  dsimp only
  rw [List.drop_succ_cons, List.drop_zero, hend]
theorem content_kids {n : Nat} {gap nm r : Bytes} {ks : List E} {c : Nat} (hg : gap.all white = true) (hk : ks ≠ []) (ho : ∀ k ∈ ks, ownOK k = true) (h : ∀ k ∈ ks, ∀ (r : Bytes) (c : Nat), c + count k ≤ 3000 → elementR n (bodyG [] k ++ r) c = .ok k r (c + count k)) (hc : c + countL ks ≤ 3000) :
  contentR (elementR n) nm (kidsW gap ks ++ 60 :: 47 :: (nm ++ (gap ++ 62 :: r))) c = .ok (ks, []) r (c + countL ks) := by
 rw [kidsW_T gap _ ks ho];obtain ⟨t1, t2⟩ := span_app (p := white) (l := kidsT gap (nm ++ (gap ++ 62 :: r)) ks) (b := 60) hg (by decide);unfold contentR;rw [t1, t2]
 dsimp only
 rw [if_pos rfl];have h1 := kids_ok hg (nm ++ (gap ++ 62 :: r)) ks [] c ho h hc;unfold kidsA at h1;rw [h1]
 dsimp only
 rw [end_ok nm gap r _ hg];cases ks with
 | nil => exact absurd rfl hk
 | cons k ks =>
  dsimp only
  rw [List.nil_append, List.isEmpty_cons, Bool.and_false];rfl
theorem elem_read : ∀ (n : Nat) (e : E) (gap r : Bytes) (c : Nat), gap.all white = true → proper e = true → depth e ≤ n → c + count e ≤ 3000 → elementR n (bodyG gap e ++ r) c = .ok e r (c + count e)
 | 0, e, _, _, _, _, _, h, _ => by have := El.depth_pos e; omega
 | n + 1, e, gap, r, c, hg, hp, hd, hc => by
  have ho := own_of hp
  have hkd : ∀ k ∈ e.kids, depth k ≤ n := fun k hk => by
   have := El.depth_mem hk;rw [El.depth_kids] at hd;omega
  have hko : ∀ k ∈ e.kids, ownOK k = true := fun k hk => own_of (kid_proper hp hk)
  have hkr : ∀ k ∈ e.kids, ∀ (r : Bytes) (c : Nat), c + count k ≤ 3000 → elementR n (bodyG [] k ++ r) c = .ok k r (c + count k) := fun k hk r c hc => elem_read n k [] r c rfl (kid_proper hp hk) (hkd k hk) hc
  rw [El.count_kids] at hc ⊢;obtain ⟨b, l, hb, hl⟩ := body_head (gap := gap) ho;have hown := ho;unfold ownOK attrsOK at hown;simp only [Bool.and_eq_true, decide_eq_true_eq] at hown;obtain ⟨⟨⟨⟨hn1, ht1⟩, htk⟩, ha8⟩, hav, hand⟩ := hown;obtain ⟨b0, s0, hb0, hl0, hi0⟩ := name_parts hn1
  -- the name
  have hspan : ∀ (tl : Bytes) (x : UInt8), inner x = false → (e.name ++ (attrsW e.attrs ++ x :: tl)).takeWhile inner = e.name ∧ (e.name ++ (attrsW e.attrs ++ x :: tl)).dropWhile inner = attrsW e.attrs ++ x :: tl := by
   intro tl x hx;cases ha : e.attrs with
   | nil => exact span_app hi0 hx
   | cons y ys => rw [attrsW_cons]; exact span_app hi0 (by decide)
  have hgo : ∀ (tl : Bytes) (x : UInt8), inner x = false → bodyG gap e ++ r = e.name ++ (attrsW e.attrs ++ x :: tl) → elementR (n + 1) (bodyG gap e ++ r) c = elemK n e.name (c + 1) (attrsA (c + 1) [] (attrsW e.attrs ++ x :: tl)) := by
   intro tl x hx he;obtain ⟨s1, s2⟩ := hspan tl x hx;rw [← he, hb] at s1 s2;rw [hb, elem_ok hl (by omega), s1, s2]
  cases hks : e.kids with
  | nil =>
   cases htx : e.text with
   | nil =>
    have he : bodyG gap e ++ r = e.name ++ (attrsW e.attrs ++ 47 :: 62 :: r) := by
     unfold bodyG;rw [hks, htx];simp
    rw [hgo _ _ (by decide) he, attrs_esc (c + 1) (47 :: 62 :: r) (fun ats => .ok (ats, true) r (c + 1)) (fun ats ha => attrsA_sl_ok ha (show (47 :: 62 :: r : Bytes).dropWhile white = 47 :: 62 :: r from (take_stop _ (by decide)).2) (expect_ok 62 (c + 1) r)) e.attrs [] (by simpa using ha8) hav (by simpa using hand)];show Rs.ok (E.mk e.name e.attrs [] []) r (c + 1) = _;rw [countL, Nat.add_zero]
    congr 1
    rw [El.E.eta e, hks, htx];rfl
   | cons t0 ts =>
    have he : bodyG gap e ++ r = e.name ++ (attrsW e.attrs ++ 62 :: (escL e.text ++ 60 :: 47 :: (e.name ++ 62 :: r))) := by
     unfold bodyG;rw [hks, htx];simp
    rw [hgo _ _ (by decide) he, attrs_esc (c + 1) (62 :: (escL e.text ++ 60 :: 47 :: (e.name ++ 62 :: r))) (fun ats => .ok (ats, false) (escL e.text ++ 60 :: 47 :: (e.name ++ 62 :: r)) (c + 1)) (fun ats ha => attrsA_gt ha (take_stop _ (by decide)).2) e.attrs [] (by simpa using ha8) hav (by simpa using hand),
     elemK_ok (content_text (elementR n) (by rw [htx]; simp) ht1)]
    rw [countL, Nat.add_zero]
    congr 1
    rw [El.E.eta e, hks];rfl
  | cons k ks =>
   have htx : e.text = [] := by
    rw [hks] at htk;simpa using htk
   have he : bodyG gap e ++ r = e.name ++ (attrsW e.attrs ++ 62 :: (kidsW gap e.kids ++ 60 :: 47 :: (e.name ++ (gap ++ 62 :: r)))) := by
    unfold bodyG;rw [hks];simp
   rw [hgo _ _ (by decide) he, attrs_esc (c + 1) (62 :: (kidsW gap e.kids ++ 60 :: 47 :: (e.name ++ (gap ++ 62 :: r)))) (fun ats => .ok (ats, false) (kidsW gap e.kids ++ 60 :: 47 :: (e.name ++ (gap ++ 62 :: r))) (c + 1)) (fun ats ha => attrsA_gt ha (take_stop _ (by decide)).2) e.attrs [] (by simpa using ha8) hav (by simpa using hand),
    elemK_ok (content_kids hg (by rw [hks]; simp) hko hkr (by omega))]
   rw [← hks, Nat.add_assoc]
   congr 1
   conv => rhs; rw [El.E.eta e]
   rw [htx];rfl
theorem document_read (e : E) (gap : Bytes) (hg : gap.all white = true) (h : El.valid e = true) : documentR (gap ++ 60 :: (bodyG gap e ++ gap)) = .ok e [] (count e) := by
 unfold El.valid at h;simp only [Bool.and_eq_true, decide_eq_true_eq] at h;unfold documentR;rw [(span_app hg (by decide)).2, expect_ok]
 dsimp only
 rw [elem_read 64 e gap gap 0 hg h.1.1 h.2 (by omega)]
 dsimp only
 have : gap.dropWhile white = [] := by
  have := (take_all gap [] hg).2;rw [List.append_nil] at this;rw [this]; rfl
 rw [this, Nat.zero_add]
theorem document_write (e : E) (h : El.valid e = true) : documentR (writeE e) = .ok e [] (count e) := by
 have h1 := h;unfold El.valid at h1;simp only [Bool.and_eq_true, decide_eq_true_eq] at h1;rw [write_body e (own_of h1.1.1)];have := document_read e [] rfl h;rw [List.append_nil] at this;exact this
end Go.Proofs.YtnbeemkfmlfgfaaGreatDoor.Xp
