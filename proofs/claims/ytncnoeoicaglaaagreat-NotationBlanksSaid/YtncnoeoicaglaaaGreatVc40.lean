/- Part 40 of 48 of a proof; its texts, joined: NqQ, NqR. No condition. -/
import Derived.Test.YtncnoeoicaglaaaGreatVc39
import Derived.WideMake

/- The parser's methods, by induction on the fuel of the plain reader; a new parser. -/
namespace Go.Proofs.YtncnoeoicaglaaaGreat
open Go.RowKit
open Tr (Nd)
open Lx (PTok)
open Np (R pRow pIn pScript pItem pPrim pArgs pName pCells pArg)
theorem zero_row (c : Cf) : RowN c 0 := fun k op w _ _ hne => absurd (by rw [pRow]) hne
theorem zero_in (c : Cf) : EnclosedN c 0 := fun k op b w _ _ _ hne => absurd (by rw [pIn]) hne
theorem zero_arg (c : Cf) : ArgumentN c 0 := fun k op w _ _ hne => absurd (by rw [pArg]) hne
theorem zero_script (c : Cf) : ScriptN c 0 := fun k op b w _ _ hne => absurd (by rw [pScript]) hne
theorem zero_item (c : Cf) : ItemN c 0 := fun k op w _ _ hne => absurd (by rw [pItem]) hne
theorem zero_prim (c : Cf) : PrimaryN c 0 := fun k op w _ _ hne => absurd (by rw [pPrim]) hne
theorem zero_name (c : Cf) : NameN c 0 := fun k op t r w _ _ _ hne => absurd (by rw [pName]) hne
structure AllN (c : Cf) (f : Nat) : Prop where
 row : RowN c f
 enc : EnclosedN c f
 arg : ArgumentN c f
 scr : ScriptN c f
 item : ItemN c f
 prim : PrimaryN c f
 name : NameN c f
theorem name_one (c : Cf) (hc : c.Good) (bm : Nat) (hnm : c.Named bm) : NameN c 1 :=
 name_n c hc bm hnm 0 (fraction_n c hc 0 (with_n c hc 0 2 (by omega) fun f' h => by omega)) (root_n c hc 0 (with_n c hc 0 1 (by omega) fun f' h => by omega) (zero_in c))
  (matrix_n c hc 0 (by omega) fun f' h => by omega) (accent_n c hc 0 (with_n c hc 0 1 (by omega) fun f' h => by omega))
theorem all_upto (c : Cf) (hc : c.Good) (bm : Nat) (hnm : c.Named bm) : ∀ F, F ≤ 1000000 → ∀ f, f ≤ F → AllN c f
 | 0, _, f, hf => by
  obtain rfl : f = 0 := by omega
  exact ⟨zero_row c, zero_in c, zero_arg c, zero_script c, zero_item c, zero_prim c, zero_name c⟩
 | F + 1, hF, f, hf => by
  have ih := all_upto c hc bm hnm F (by omega)
  rcases Nat.lt_or_ge f (F + 1) with h | h
  ·exact ih f (by omega)
  ·obtain rfl : f = F + 1 := by omega
   have h0 := ih F (Nat.le_refl _)
   have harg : ∀ f', f' < F → ArgumentN c f' := fun f' h => (ih f' (by omega)).arg
   have w1 := with_n c hc F 1 (by omega) harg
   have w2 := with_n c hc F 2 (by omega) harg
   exact ⟨row_n c hc (F + 1) hF fun f' h => (ih f' (by omega)).item, enclosed_n c hc F h0.row, argument_n c hc bm hnm F h0.enc (name_one c hc bm hnm), script_n c hc F h0.arg, item_n c hc F h0.prim h0.scr, primary_n c hc F h0.name w1 h0.enc,
    name_n c hc bm hnm F (fraction_n c hc F w2) (root_n c hc F w1 h0.enc) (matrix_n c hc F (by omega) fun f' h => (ih f' (by omega)).row) (accent_n c hc F w1)⟩
theorem row_any_n (c : Cf) (hc : c.Good) (bm : Nat) (hnm : c.Named bm) (F : Nat) (hF : F ≤ 1000000) : RowN c F := (all_upto c hc bm hnm F hF F (Nat.le_refl _)).row
def mwE (g n : Nat) : List MapEntry := (namedEs g).take n
theorem putObj_alloc (w : World) (o o' : Obj) : { w.alloc o with heap := (w.alloc o).heap.setIfInBounds w.heap.size o' } = w.alloc o' := by
 simp only [World.alloc]
 congr 1
 apply Array.ext'
 rw [Array.toList_setIfInBounds, Array.toList_push, Array.toList_push, show w.heap.size = w.heap.toList.length from (Array.length_toList).symm, List.set_append_right _ _ (Nat.le_refl _), Nat.sub_self]
 rfl
theorem run_insert_new (w : World) (es : List MapEntry) (n : Nat) (s : List UInt8) (v : Value) (hf : Instr.findNow .string (.string ⟨s.toArray⟩) es 0 = some none) :
  (Instr.mapUpdate 95 (.map (some w.heap.size)) (.string ⟨s.toArray⟩) v).run Tryz.prog (w.alloc (.map es.toArray n)) = .ok () (w.alloc (.map (es ++ [(⟨.string ⟨s.toArray⟩, v, n⟩ : MapEntry)]).toArray (n + 1))) := by
 have hb : (w.alloc (.map es.toArray n)).heap[w.heap.size]? = some (.map es.toArray n) := heap_alloc_new w _
 have hc : (Instr.checkKey false 10000 9 (.string ⟨s.toArray⟩)).run Tryz.prog (w.alloc (.map es.toArray n)) = .ok () (w.alloc (.map es.toArray n)) := MapKept.run_checkKey (k := .string ⟨s.toArray⟩) Tryz.underlying9 (by simp [MapKept.IsKey]) false 9999
 simp [Instr.mapUpdate, run_underlying Tryz.underlying95, MapKept.run_getObj_map hb, hc, MapKept.run_findKey Tryz.underlying9 hf, MapKept.run_setObj_map _ hb, Result.andThen]
 exact putObj_alloc w _ _
theorem ins_n (w : World) (g : Nat) (n : Nat) (s : List UInt8) (F : FuncId) (hn : (namedL[n]?) = some (s, F)) (hf : Instr.findNow .string (.string ⟨s.toArray⟩) (mwE g n) 0 = some none) :
  (Instr.mapUpdate 95 (.map (some w.heap.size)) (.string ⟨s.toArray⟩) (.func (.func F) #[.pointer (some ⟨g, 0, none⟩)] #[])).run Tryz.prog (w.alloc (.map (mwE g n).toArray n)) = .ok () (w.alloc (.map (mwE g (n + 1)).toArray (n + 1))) := by
 rw [run_insert_new w (mwE g n) n s _ hf]
 have hg : (namedEs g)[n]? = some ⟨.string ⟨s.toArray⟩, methodV g F, n⟩ := by
  unfold namedEs
  rw [List.getElem?_map, List.getElem?_zipIdx, hn]
  simp
 have e : mwE g n ++ [⟨.string ⟨s.toArray⟩, .func (.func F) #[.pointer (some ⟨g, 0, none⟩)] #[], n⟩] = mwE g (n + 1) := by
  unfold mwE
  rw [List.take_add_one, hg]
  rfl
 rw [e]
end Go.Proofs.YtncnoeoicaglaaaGreat

/- A new parser. -/
namespace Go.Proofs.YtncnoeoicaglaaaGreat
open Go.RowKit
open Tr (Nd)
open Lx (PTok)
set_option maxRecDepth 100000 in
set_option maxHeartbeats 1000000 in
theorem new_any_n (A : Option Addr) (n cp en : Nat) (w : World) : Calls Tryz.prog 41 #[.slice A n cp, .int .i64 (en : Int), .pointer none, .int .i64 0] w fun e w' =>
  e = .returned (.pointer (some ⟨w.heap.size, 0, none⟩)) ∧ Fresh w w' ∧ Blk w' w.heap.size 97 #[.slice A n cp, .int .i64 0, .int .i64 (en : Int), .slice none 0 0, .pointer none, .int .i64 0, .map (some (w.heap.size + 1)), .int .i64 0, .bool false] ∧ w'.heap[w.heap.size + 1]? = some (.map (namedEs w.heap.size).toArray 9) := by
 have hmf : ∀ (fn : Fn) (first cap : Array Value) (w : World), (Instr.makeFunc fn first cap).run Tryz.prog w = .ok (.func fn first cap) w := fun _ _ _ _ => rfl
 have hmm : ∀ W : World, (Instr.makeMap 95 none).run Tryz.prog W = .ok (.map (some W.heap.size)) (W.alloc (.map #[] 0)) := fun W => run_makeMap_plain W 95
 have hsz : (w.alloc (.cells #[.slice A n cp, .int .i64 0, .int .i64 (en : Int), .slice none 0 0, .pointer none, .int .i64 0, .map none, .int .i64 0, .bool false] 97)).heap.size = w.heap.size + 1 := by simp
 have h0 : (Instr.mapUpdate 95 (.map (some (w.heap.size + 1))) (.string ⟨#[102, 114, 97, 99]⟩) (.func (.func 69) #[.pointer (some ⟨w.heap.size, 0, none⟩)] #[])).run Tryz.prog ((w.alloc (.cells #[.slice A n cp, .int .i64 0, .int .i64 (en : Int), .slice none 0 0, .pointer none, .int .i64 0, .map none, .int .i64 0, .bool false] 97)).alloc (.map #[] 0)) = .ok () ((w.alloc (.cells #[.slice A n cp, .int .i64 0, .int .i64 (en : Int), .slice none 0 0, .pointer none, .int .i64 0, .map none, .int .i64 0, .bool false] 97)).alloc (.map (mwE w.heap.size 1).toArray 1)) := by
  have := ins_n (w.alloc (.cells #[.slice A n cp, .int .i64 0, .int .i64 (en : Int), .slice none 0 0, .pointer none, .int .i64 0, .map none, .int .i64 0, .bool false] 97)) w.heap.size 0 [102, 114, 97, 99] 69 rfl rfl
  rw [hsz] at this
  exact this
 have h1 : (Instr.mapUpdate 95 (.map (some (w.heap.size + 1))) (.string ⟨#[114, 111, 111, 116]⟩) (.func (.func 70) #[.pointer (some ⟨w.heap.size, 0, none⟩)] #[])).run Tryz.prog ((w.alloc (.cells #[.slice A n cp, .int .i64 0, .int .i64 (en : Int), .slice none 0 0, .pointer none, .int .i64 0, .map none, .int .i64 0, .bool false] 97)).alloc (.map (mwE w.heap.size 1).toArray 1)) = .ok () ((w.alloc (.cells #[.slice A n cp, .int .i64 0, .int .i64 (en : Int), .slice none 0 0, .pointer none, .int .i64 0, .map none, .int .i64 0, .bool false] 97)).alloc (.map (mwE w.heap.size 2).toArray 2)) := by
  have := ins_n (w.alloc (.cells #[.slice A n cp, .int .i64 0, .int .i64 (en : Int), .slice none 0 0, .pointer none, .int .i64 0, .map none, .int .i64 0, .bool false] 97)) w.heap.size 1 [114, 111, 111, 116] 70 rfl rfl
  rw [hsz] at this
  exact this
 have h2 : (Instr.mapUpdate 95 (.map (some (w.heap.size + 1))) (.string ⟨#[109, 97, 116, 114, 105, 120]⟩) (.func (.func 71) #[.pointer (some ⟨w.heap.size, 0, none⟩)] #[])).run Tryz.prog ((w.alloc (.cells #[.slice A n cp, .int .i64 0, .int .i64 (en : Int), .slice none 0 0, .pointer none, .int .i64 0, .map none, .int .i64 0, .bool false] 97)).alloc (.map (mwE w.heap.size 2).toArray 2)) = .ok () ((w.alloc (.cells #[.slice A n cp, .int .i64 0, .int .i64 (en : Int), .slice none 0 0, .pointer none, .int .i64 0, .map none, .int .i64 0, .bool false] 97)).alloc (.map (mwE w.heap.size 3).toArray 3)) := by
  have := ins_n (w.alloc (.cells #[.slice A n cp, .int .i64 0, .int .i64 (en : Int), .slice none 0 0, .pointer none, .int .i64 0, .map none, .int .i64 0, .bool false] 97)) w.heap.size 2 [109, 97, 116, 114, 105, 120] 71 rfl rfl
  rw [hsz] at this
  exact this
 have h3 : (Instr.mapUpdate 95 (.map (some (w.heap.size + 1))) (.string ⟨#[104, 97, 116]⟩) (.func (.func 72) #[.pointer (some ⟨w.heap.size, 0, none⟩)] #[])).run Tryz.prog ((w.alloc (.cells #[.slice A n cp, .int .i64 0, .int .i64 (en : Int), .slice none 0 0, .pointer none, .int .i64 0, .map none, .int .i64 0, .bool false] 97)).alloc (.map (mwE w.heap.size 3).toArray 3)) = .ok () ((w.alloc (.cells #[.slice A n cp, .int .i64 0, .int .i64 (en : Int), .slice none 0 0, .pointer none, .int .i64 0, .map none, .int .i64 0, .bool false] 97)).alloc (.map (mwE w.heap.size 4).toArray 4)) := by
  have := ins_n (w.alloc (.cells #[.slice A n cp, .int .i64 0, .int .i64 (en : Int), .slice none 0 0, .pointer none, .int .i64 0, .map none, .int .i64 0, .bool false] 97)) w.heap.size 3 [104, 97, 116] 72 rfl rfl
  rw [hsz] at this
  exact this
 have h4 : (Instr.mapUpdate 95 (.map (some (w.heap.size + 1))) (.string ⟨#[98, 97, 114]⟩) (.func (.func 72) #[.pointer (some ⟨w.heap.size, 0, none⟩)] #[])).run Tryz.prog ((w.alloc (.cells #[.slice A n cp, .int .i64 0, .int .i64 (en : Int), .slice none 0 0, .pointer none, .int .i64 0, .map none, .int .i64 0, .bool false] 97)).alloc (.map (mwE w.heap.size 4).toArray 4)) = .ok () ((w.alloc (.cells #[.slice A n cp, .int .i64 0, .int .i64 (en : Int), .slice none 0 0, .pointer none, .int .i64 0, .map none, .int .i64 0, .bool false] 97)).alloc (.map (mwE w.heap.size 5).toArray 5)) := by
  have := ins_n (w.alloc (.cells #[.slice A n cp, .int .i64 0, .int .i64 (en : Int), .slice none 0 0, .pointer none, .int .i64 0, .map none, .int .i64 0, .bool false] 97)) w.heap.size 4 [98, 97, 114] 72 rfl rfl
  rw [hsz] at this
  exact this
 have h5 : (Instr.mapUpdate 95 (.map (some (w.heap.size + 1))) (.string ⟨#[118, 101, 99]⟩) (.func (.func 72) #[.pointer (some ⟨w.heap.size, 0, none⟩)] #[])).run Tryz.prog ((w.alloc (.cells #[.slice A n cp, .int .i64 0, .int .i64 (en : Int), .slice none 0 0, .pointer none, .int .i64 0, .map none, .int .i64 0, .bool false] 97)).alloc (.map (mwE w.heap.size 5).toArray 5)) = .ok () ((w.alloc (.cells #[.slice A n cp, .int .i64 0, .int .i64 (en : Int), .slice none 0 0, .pointer none, .int .i64 0, .map none, .int .i64 0, .bool false] 97)).alloc (.map (mwE w.heap.size 6).toArray 6)) := by
  have := ins_n (w.alloc (.cells #[.slice A n cp, .int .i64 0, .int .i64 (en : Int), .slice none 0 0, .pointer none, .int .i64 0, .map none, .int .i64 0, .bool false] 97)) w.heap.size 5 [118, 101, 99] 72 rfl rfl
  rw [hsz] at this
  exact this
 have h6 : (Instr.mapUpdate 95 (.map (some (w.heap.size + 1))) (.string ⟨#[100, 111, 116]⟩) (.func (.func 72) #[.pointer (some ⟨w.heap.size, 0, none⟩)] #[])).run Tryz.prog ((w.alloc (.cells #[.slice A n cp, .int .i64 0, .int .i64 (en : Int), .slice none 0 0, .pointer none, .int .i64 0, .map none, .int .i64 0, .bool false] 97)).alloc (.map (mwE w.heap.size 6).toArray 6)) = .ok () ((w.alloc (.cells #[.slice A n cp, .int .i64 0, .int .i64 (en : Int), .slice none 0 0, .pointer none, .int .i64 0, .map none, .int .i64 0, .bool false] 97)).alloc (.map (mwE w.heap.size 7).toArray 7)) := by
  have := ins_n (w.alloc (.cells #[.slice A n cp, .int .i64 0, .int .i64 (en : Int), .slice none 0 0, .pointer none, .int .i64 0, .map none, .int .i64 0, .bool false] 97)) w.heap.size 6 [100, 111, 116] 72 rfl rfl
  rw [hsz] at this
  exact this
 have h7 : (Instr.mapUpdate 95 (.map (some (w.heap.size + 1))) (.string ⟨#[116, 105, 108, 100, 101]⟩) (.func (.func 72) #[.pointer (some ⟨w.heap.size, 0, none⟩)] #[])).run Tryz.prog ((w.alloc (.cells #[.slice A n cp, .int .i64 0, .int .i64 (en : Int), .slice none 0 0, .pointer none, .int .i64 0, .map none, .int .i64 0, .bool false] 97)).alloc (.map (mwE w.heap.size 7).toArray 7)) = .ok () ((w.alloc (.cells #[.slice A n cp, .int .i64 0, .int .i64 (en : Int), .slice none 0 0, .pointer none, .int .i64 0, .map none, .int .i64 0, .bool false] 97)).alloc (.map (mwE w.heap.size 8).toArray 8)) := by
  have := ins_n (w.alloc (.cells #[.slice A n cp, .int .i64 0, .int .i64 (en : Int), .slice none 0 0, .pointer none, .int .i64 0, .map none, .int .i64 0, .bool false] 97)) w.heap.size 7 [116, 105, 108, 100, 101] 72 rfl rfl
  rw [hsz] at this
  exact this
 have h8 : (Instr.mapUpdate 95 (.map (some (w.heap.size + 1))) (.string ⟨#[99, 104, 101, 99, 107]⟩) (.func (.func 72) #[.pointer (some ⟨w.heap.size, 0, none⟩)] #[])).run Tryz.prog ((w.alloc (.cells #[.slice A n cp, .int .i64 0, .int .i64 (en : Int), .slice none 0 0, .pointer none, .int .i64 0, .map none, .int .i64 0, .bool false] 97)).alloc (.map (mwE w.heap.size 8).toArray 8)) = .ok () ((w.alloc (.cells #[.slice A n cp, .int .i64 0, .int .i64 (en : Int), .slice none 0 0, .pointer none, .int .i64 0, .map none, .int .i64 0, .bool false] 97)).alloc (.map (mwE w.heap.size 9).toArray 9)) := by
  have := ins_n (w.alloc (.cells #[.slice A n cp, .int .i64 0, .int .i64 (en : Int), .slice none 0 0, .pointer none, .int .i64 0, .map none, .int .i64 0, .bool false] 97)) w.heap.size 8 [99, 104, 101, 99, 107] 72 rfl rfl
  rw [hsz] at this
  exact this
 clear hsz
 go_enter Tryz.func41, Tryz.ntmps41
 go_wp2_with fail
 go_ret
 refine ⟨rfl, ((Touch.refl _ w).alloc _).alloc _, (Blk.new w 97 #[.slice A n cp, .int .i64 0, .int .i64 (en : Int), .slice none 0 0, .pointer none, .int .i64 0, .map (some (w.heap.size + 1)), .int .i64 0, .bool false]).alloc _, ?_⟩
 have := heap_alloc_new (w.alloc (.cells #[.slice A n cp, .int .i64 0, .int .i64 (en : Int), .slice none 0 0, .pointer none, .int .i64 0, .map (some (w.heap.size + 1)), .int .i64 0, .bool false] 97)) (.map (mwE w.heap.size 9).toArray 9)
 rw [show (w.alloc (.cells #[.slice A n cp, .int .i64 0, .int .i64 (en : Int), .slice none 0 0, .pointer none, .int .i64 0, .map (some (w.heap.size + 1)), .int .i64 0, .bool false] 97)).heap.size = w.heap.size + 1 by simp] at this
 exact this
end Go.Proofs.YtncnoeoicaglaaaGreat
