/- Part 4 of 46 of a proof. No condition. -/
import Derived.Lib.Builder
import Derived.Lib.UnsafeStr
import Derived.OrdersHeld
import Derived.Test.YtcgbccfpcgaikaaGreatDoorYm3
import Derived.Test.YtcgbccfpcgaikaaGreatDoorYm1
set_option maxRecDepth 100000
set_option maxHeartbeats 1000000
namespace Go.Proofs.YtcgbccfpcgaikaaGreatDoor
section
open Go.RowKit
structure uU(w:World)(B b o:Nat)(T:TypeId)(cs:Array Value)(v:Value)(l:List UInt8):Prop where
 blk:af w b T cs
 addr:cs[o]?=some (.pointer none)∨cs[o]?=some (.pointer (some ⟨b,o,none⟩))
 buf:cs[o+1]?=some v
 own:w.ownsRow B 5 1 v l.length (Lib.byteCells l)
 ne:v.ownBlock≠some b
 J7:l=[]→v=.slice none 0 0
theorem byteCells_snoc(l:List UInt8)(c:UInt8):Lib.byteCells (l++[c])=Lib.byteCells l++[.int .u8 c.toNat]:=by simp[Lib.byteCells]
theorem Qn:(Tryz.prog.info? 5).map (fun i=>(i.zero,i.size,i.bytes))=some (some (.int .u8 0),1,1):=by kernel_rfl
theorem JC:∃j,Tryz.prog.info? 42=some j∧j.size=2:=by
 have h:(Tryz.prog.info? 42).map (·.size)=some 2:=by kernel_rfl
 exact Option.map_eq_some_iff.1 h
theorem Qo{w:World}{g:Nat}{t:TypeId}{cs:Array Value}(h:af w g t cs):w.shape? g=some (t,cs.size):=by
 unfold af at h;simp[World.shape?,h]
theorem MQ(b o:Nat)(w:World)(h0:w.cell? ⟨b,o,none⟩=some (.pointer (some ⟨b,o,none⟩))):
  Calls Tryz.prog 118 #[.pointer (some ⟨b,o,none⟩)] w fun e w'=>e=.returned (.tuple #[])∧w'=w:=by
 obtain⟨j,hj,_⟩:=JC;go_enter Tryz.func118,Tryz.ntmps118
 go_wp2
 rw[Lib.run_neq_ptr_same w _ Tryz.underlying39 hj]
 go_wp2
 go_end0
 exact⟨rfl,rfl⟩
theorem Li(b o:Nat)(T:TypeId)(n:Nat)(w:World)(h0:w.cell? ⟨b,o,none⟩=some (.pointer none))(hsh:w.shape? b=some (T,n))(hfz:w.frozen? ⟨b,o,none⟩=false)
  (hon:o<n) (hlies:liesAt Tryz.prog Tryz.prog.depth T (n/Tryz.prog.cellsOf T) o 42 1=true):
  Calls Tryz.prog 118 #[.pointer (some ⟨b,o,none⟩)] w fun e w'=>e=.returned (.tuple #[])∧w'=w.setCell ⟨b,o,none⟩ (.pointer (some ⟨b,o,none⟩)):=by
 obtain⟨j,hj,hjs⟩:=JC;go_enter Tryz.func118,Tryz.ntmps118
 go_wp2
 rw[Lib.run_to_unsafe w ⟨b,o,none⟩ Tryz.underlying39 Tryz.underlying173 hj (by rw[hjs];decide) hsh hon];simp only[Result.andThen];rw[Oper.upon_value]
 go_wp2
 rw[run_callFunc_extern Tryz.func147 (by kernel_rfl) (by kernel_rfl) (by kernel_rfl) (e:=Extern.AbiNoEscape.same) (by kernel_rfl)];rw[Lib.run_noEscape];simp only[Result.andThen];rw[Oper.upon_value]
 go_wp2
 rw[Lib.run_from_unsafe w ⟨b,o,none⟩ Tryz.underlying173 Tryz.underlying39 hj hsh hlies];simp only[Result.andThen];rw[Oper.upon_value]
 go_wp2
 go_end0
 exact⟨rfl,rfl⟩
theorem FX{w:World}{B b o:Nat}{T:TypeId}{cs:Array Value}{v:Value}{l:List UInt8}(h:uU w B b o T cs v l)
  (hlies:liesAt Tryz.prog Tryz.prog.depth T (cs.size/Tryz.prog.cellsOf T) o 42 1=true):
  Calls Tryz.prog 118 #[.pointer (some ⟨b,o,none⟩)] w fun e w'=>e=.returned (.tuple #[])∧af w' b T (cs.setIfInBounds o (.pointer (some ⟨b,o,none⟩)))∧Touch (·=b) w w'∧w'.heap.size=w.heap.size:=by
 have ho:o<cs.size:=by
  rcases h.addr with h1|h1<;>exact(Array.getElem?_eq_some_iff.1 h1).1
 rcases h.addr with h1|h1
 ·refine(Li b o T cs.size w ((h.blk.cell o).trans h1) (Qo h.blk) (h.blk.frozen o) ho hlies).mono ?_
  rintro e w' ⟨rfl,rfl⟩;exact⟨rfl,h.blk.put _ _,(M (·=b) w).setCell (p:=⟨b,o,none⟩) (.inl rfl) _,by simp[World.setCell]⟩
 ·refine(MQ b o w ((h.blk.cell o).trans h1)).mono ?_
  rintro e w' ⟨rfl,rfl⟩;refine⟨rfl,?_,M _ _,rfl⟩
  have:cs.setIfInBounds o (.pointer (some ⟨b,o,none⟩))=cs:=by
   apply Array.ext_getElem?
   intro i;rw[Array.getElem?_setIfInBounds];split
   ·rename_i hi;subst hi;simp[ho]at*;exact h1.symm
   ·rfl
  rw[this];exact h.blk
theorem uU.lt{w:World}{B b o:Nat}{T:TypeId}{cs:Array Value}{v:Value}{l:List UInt8}(h:uU w B b o T cs v l):b<w.heap.size:=h.blk.lt
theorem uU.drewN{w:World}{B b o:Nat}{T:TypeId}{cs:Array Value}{v:Value}{l:List UInt8}(h:uU w B b o T cs v l)(n:Nat):uU (w.drewN n) B b o T cs v l:=⟨h.blk,h.addr,h.buf,h.own,h.ne,h.J7⟩
theorem Gv{w:World}{B B' e size n:Nat}{v:Value}{xs:List Value}(h:w.ownsRow B e size v n xs)(hB:B'≤B):w.ownsRow B' e size v n xs:=by
 obtain⟨h1,h2⟩:=h;refine⟨h1,?_⟩
 rcases h2 with h2|⟨g,cap,cur,h3,h4,r⟩
 ·exact .inl h2
 ·exact .inr ⟨g,cap,cur,h3,by omega,r⟩
theorem aQ{S:Nat→Prop}{w w':World}{B e size n:Nat}{v:Value}{xs:List Value}(h:w.ownsRow B e size v n xs)(ht:Touch S w w')(hn:∀k,v.ownBlock=some k→¬S k):w'.ownsRow B e size v n xs:=by
 obtain⟨h1,h2⟩:=h;refine⟨h1,?_⟩
 rcases h2 with h2|⟨g,cap,cur,rfl,hb,hh,r⟩
 ·exact .inl h2
 ·exact .inr ⟨g,cap,cur,rfl,hb,(ht.block g (Array.getElem?_eq_some_iff.1 hh).1 (hn g rfl)).trans hh,r⟩
theorem iP{w:World}{B b o:Nat}{T:TypeId}{cs:Array Value}{v:Value}{l:List UInt8}(h:uU w B b o T cs v l)
  (hlies:liesAt Tryz.prog Tryz.prog.depth T (cs.size/Tryz.prog.cellsOf T) o 42 1=true) (x:Int) (c:UInt8) (hx:x=c.toNat) (hlen:l.length+1≤140737488355328) (hB:B≤w.heap.size):
  Calls Tryz.prog 77 #[.pointer (some ⟨b,o,none⟩),.int .u8 x] w fun e w'=>e=.returned .nilIface∧∃v',uU w' B b o T ((cs.setIfInBounds o (.pointer (some ⟨b,o,none⟩))).setIfInBounds (o+1) v') v' (l++[c])∧Touch (fun k=>k=b∨v.ownBlock=some k) w w':=by
 obtain⟨i0,hi,hz0,hz1,hz2⟩:=info_parts Qn;have ho:o+1<cs.size:=(Array.getElem?_eq_some_iff.1 h.buf).1;go_enter Tryz.func77,Tryz.ntmps77;go_wp2_with fail
 refine(FX h hlies).mono ?_;rintro e w1 ⟨rfl,hb1,ht1,hs1⟩
 have c1:w1.cell? ⟨b,o+1,none⟩=some v:=by
  rw[hb1.cell,Array.getElem?_setIfInBounds_ne (by omega)];exact h.buf
 have hown:w1.ownsRow B 5 1 v l.length (Lib.byteCells l):=aQ h.own ht1 (fun k hk e=>h.ne (by rw[hk,e]));have HB:=hid hb1;have HT:=hid ht1;have HS:=hid hs1;have HX:=hid hx;clear hb1 ht1 hs1 hx
 go_wp2_with (at_builtin;refine wpList_append_own_at _ rfl _ _ 40 rfl B 5 i0 (.int .u8 0) 1 1 Tryz.underlying40 hi hz0 hz1 hz2 rfl (by decide) _ _ _ rfl (hown.alloc _) ⟨w1.heap.size,0,none⟩ 1 1 [.int .u8 x] rfl rfl ?c1 ?c2 ?c3 ?c4 ?c5 ?_)
 case c1=>
  intro j u hj
  match j,hj with
  |0,hj=>simp at hj;subst hj;simp[Addr.add]
 case c2=>intro u hu;simp at hu;subst hu;rfl
 case c3=>unfold maxLen;omega
 case c4=>omega
 case c5=>have:=HS.out;simp;omega
 intro v' w2 hown' hgrow _ hat;have hlt1:=HB.out.lt;have ht2:Touch (fun k=>v.ownBlock=some k) w1 w2:=((M (fun k=>v.ownBlock=some k) w1).alloc _).grown hgrow (fun g hg=>.inl hg);have hb2:af w2 b T (cs.setIfInBounds o (.pointer (some ⟨b,o,none⟩))):=ht2.blk HB.out h.ne
 have d1:w2.cell? ⟨b,o+1,none⟩=some v:=by
  rw[hb2.cell,Array.getElem?_setIfInBounds_ne (by omega)];exact h.buf
 have f1:w2.frozen? ⟨b,o+1,none⟩=false:=hb2.frozen _
 have hne':v'.ownBlock≠some b:=by
  rcases hat with h1|h1
  ·rw[h1];exact h.ne
  ·rw[h1];simp;omega
 obtain⟨g,cap,rfl⟩:∃g cap,v'=.slice (some ⟨g,0,none⟩) (l.length+1) cap:=by
  rcases hown'.2 with⟨_,h0⟩|⟨g,cap,cur,hv,_⟩
  ·omega
  ·exact⟨g,cap,hv⟩
 have HB2:=hid hb2;have HT2:=hid ht2;have HO:=hid hown';have HN:=hid hne';clear hb2 ht2 hown' hne' hat hgrow hown
 go_wp2
 go_ret;refine⟨rfl,_,⟨HB2.out.put _ _,.inr ?_,?_,?_,HN.out,by simp⟩,?_⟩
 ·rw[Array.getElem?_setIfInBounds_ne (by omega),Array.getElem?_setIfInBounds_self_of_lt (by omega)]
 ·rw[Array.getElem?_setIfInBounds_self_of_lt (by simp;omega)]
 ·rw[byteCells_snoc,List.length_append,←HX.out]
  exact aQ HO.out ((M (·=b) w2).setCell (p:=⟨b,o+1,none⟩) (.inl rfl) _) (fun k hk e=>HN.out (by rw[hk,e]))
 ·exact((HT.out.mono (fun _ h=>.inl h)).trans (HT2.out.mono (fun _ h=>.inr h))).setCell (p:=⟨b,o+1,none⟩) (.inl (.inl rfl)) _
theorem Qp{S:Nat→Prop}{a w:World}(h:Touch S a w){p:Addr}(hp:S p.block∨a.heap.size≤p.block)(n:Nat):Touch S a (w.freeze p n):=by
 unfold World.freeze;split
 ·exact h
 ·refine⟨h.os,h.tape,h.output,by simpa using h.size,fun i hi hn=>?_⟩
  refine Eq.trans ?_ (h.block i hi hn);show(w.heap.modify p.block _)[i]?=_;rw[Array.getElem?_modify,if_neg];rintro rfl;exact hp.elim hn (fun hle=>absurd hi (by omega))
theorem J8(W:World)(q:Option Addr):(Builtin.unsafeString_ #[76,3] 9 #[.pointer q,.int .i64 0]).run Tryz.prog W=.ok (.string .empty) W:=Lib.run_unsafeString_none W _ _ _ q
theorem zI{w:World}{B b o:Nat}{T:TypeId}{cs:Array Value}{v:Value}{l:List UInt8}(h:uU w B b o T cs v l):
  Calls Tryz.prog 18 #[.pointer (some ⟨b,o,none⟩)] w fun e w'=>e=.returned (.string ⟨l.toArray⟩)∧Touch (fun k=>v.ownBlock=some k) w w':=by
 have c1:w.cell? ⟨b,o+1,none⟩=some v:=(h.blk.cell _).trans h.buf
 by_cases h0:l=[]
 ·obtain rfl:=h.J7 h0
  subst h0;have hUS:=J8;have hSD:∀n:Nat,(Builtin.unsafeSliceData_ #[40] 76 #[.slice none 0 0]).run Tryz.prog (w.drewN n)=.ok (.pointer none) (w.drewN n):=fun _=>rfl
  clear h;go_enter Tryz.func18,Tryz.ntmps18
  go_wp2
  go_quiet (fail)
  go_wp2
  go_ret;exact⟨rfl,(M _ w).drewN _⟩
 ·have hl0:l.length≠0:=by simpa using h0
  obtain⟨g,cap,cur,rfl,hbg,hg,hnc,hcm,hcs,htake⟩:∃g cap cur,v=.slice (some ⟨g,0,none⟩) l.length cap∧B≤g∧w.heap[g]?=some (.cells cur 5 (0,0))∧l.length≤cap∧cap≤maxLen∧cur.size=cap*1∧cur.toList.take (l.length*1)=Lib.byteCells l:=by
   rcases h.own.2 with⟨_,hz⟩|⟨g,cap,cur,hv,r⟩
   ·exact absurd hz hl0
   ·exact⟨g,cap,cur,hv,r⟩
  have hown:=h.own
  have hSD:∀n:Nat,(Builtin.unsafeSliceData_ #[40] 76 #[.slice (some ⟨g,0,none⟩) l.length cap]).run Tryz.prog (w.drewN n)=.ok (.pointer (some ⟨g,0,none⟩)) (w.drewN n):=fun n=>
   Lib.run_unsafeSliceData_row _ _ _ _ _ _ (by omega)
  have hUS:∀n:Nat,(Builtin.unsafeString_ #[76,3] 9 #[.pointer (some ⟨g,0,none⟩),.int .i64 l.length]).run Tryz.prog (w.drewN n)=.ok (.string ⟨l.toArray⟩) ((w.drewN n).freeze ⟨g,0,none⟩ l.length):=fun n=>by
   refine Lib.run_unsafeString_row (w.drewN n) 76 3 9 5 Tryz.underlying76 (by kernel_rfl) g cur.size (by simp[World.shape?,hg]) l h0 (by omega) (by unfold maxLen at hcm;omega) ?_;intro j x hx;have:=hown.cells (g:=g) rfl j (.int .u8 x.toNat) (by simp[Lib.byteCells,hx]);exact this
  have HG:=hid hg;clear h htake hcs hcm hnc hg hown h0 hl0;go_enter Tryz.func18,Tryz.ntmps18
  go_wp2
  refine kY [([0,1,2,3,4,5,6,7,8,9],10)] [11] (by kernel_rfl) (by kernel_rfl) ?_;simp only[tY,pick,List.getElem?_cons_zero,List.getElem?_cons_succ]
  repeat(quiet_step (fail))
  refine wpQuiet_nil ?_;rintro _ ⟨nq,rfl⟩
  go_wp2
  repeat(quiet_step (fail))
  refine wpQuiet_nil ?_;rintro _ ⟨NP,rfl⟩
  go_wp2
  go_ret;refine⟨rfl,?_⟩;exact(Qp ((M (fun k=>Value.ownBlock (.slice (some ⟨g,0,none⟩) l.length cap)=some k) w).drewN nq) (p:=⟨g,0,none⟩) (.inl rfl) _).drewN _
theorem liesBuilder:liesAt Tryz.prog Tryz.prog.depth 42 (2/Tryz.prog.cellsOf 42) 0 42 1=true:=by kernel_rfl
theorem abu(s:ByteArray)(k:Nat)(h:k<s.size):s.data.toList[k]'(by simpa using h)=s[k]:=rfl
theorem sP(x y:UInt8)(h:x=y):((x.toNat:Int)==(y.toNat:Int))=true:=by rw[h];simp
theorem qW(x y:UInt8)(h:¬x=y):((x.toNat:Int)==(y.toNat:Int))=false:=by
 rw[beq_eq_false_iff_ne];intro hx;exact h (UInt8.toNat_inj.1 (by omega))
theorem si(x y:UInt8)(h:¬x=y):((x.toNat:Int) !=(y.toNat:Int))=true:=by
 rw[bne_iff_ne];intro hx;exact h (UInt8.toNat_inj.1 (by omega))
theorem qC(x y:UInt8)(h:x=y):((x.toNat:Int) !=(y.toNat:Int))=false:=by rw[h];simp
section
variable {P:Program} {ops:Array Oper} {md:Region.Mode} {C:World→Prop} {Q:Exit→Act→World→Prop}
def stillUpon(w:World)(v:Value):Result Next→Prop
 |.ok (.value u) w'=>w'=w∧u=v
 |_=>False
def gD(P:Program)(o:Oper)(a:Act)(C:World→Prop)(next:Act→Prop):Prop:=∃v,(∀w,C w→stillUpon w v ((execOp a.eval o).run P w))∧next (a.put o.dst v)
theorem BG{w:World}{v:Value}{r:Result Next}(h:stillUpon w v r):r=.ok (.value v) w:=by
 cases r with
 |ok n w'=>
  cases n<;>simp only[stillUpon]at h
  obtain⟨rfl,rfl⟩:=h;rfl
 |halt x w'=>exact h.elim
def DZ(P:Program)(md:Region.Mode)(ops:Array Oper)(Q:Exit→Act→World→Prop)(C:World→Prop)(ns:List Nat)(L:Array Bool→Act→World→Prop):Nat→Array Bool→Act→World→Prop
 |0,listed,a,w=>L listed a w
 |f+1,listed,a,w=>Region.ready md ops listed≠[]∧∀i∈Region.ready md ops listed,i∈ns∧wpOp P ops Q i (fun a' w'=>C w'∧DZ P md ops Q C ns L f (listed.setIfInBounds i true) a' w') a w
theorem nL{ns:List Nat}{g:Nat}{L:Array Bool→Act→World→Prop}(hL:∀listed a w,C w→L listed a w→wpAny P md ops Q g listed a w):
  ∀(f:Nat) (listed:Array Bool) (a:Act) (w:World),C w→DZ P md ops Q C ns L f listed a w→wpAny P md ops Q (f+g) listed a w
 |0,listed,a,w,hC,h=>by rw[Nat.zero_add];exact hL _ _ _ hC h
 |f+1,listed,a,w,_,h=>by
  rw[show f+1+g=(f+g)+1 by omega];exact⟨fun h0=>absurd h0 h.1,fun i hi=>wpOp_mono (fun a' w' h'=>nL hL f _ a' w' h'.1 h'.2) (h.2 i hi).2⟩
theorem Gw{ns:List Nat}{t:Option Nat}{eH:Array Bool}{i:Nat}{oi:Oper}{v:Value}{L:Array Bool→Act→World→Prop}(hi:ops[i]?=some oi)(hsel:∀(j:Nat) (o:Oper) cs b,ops[j]?=some o→o.op≠.select cs b)
  (hQ:∀c a w,Q (.panic c) (a.put oi.dst v) w→Q (.panic c) a w)
  (hs:qi md ops ns t eH=true) (hin:i∈ns) (hdone:∀listed a w,L listed a w→∀j∈Region.ready md ops listed,j∉ns):
  ∀(f:Nat) (listed:Array Bool) (a:Act) (w:World),nC md ops ns eH listed→
   (∀j oj,ops[j]?=some oj→j≠i→listed.getD j true=false→(∀e∈oj.after,Region.binds md e=true→e.on≠i)→oi.apart ops oj=true)→
   i∈Region.ready md ops listed→YieldsIf P ops C oi v a→C w→
   DZ P md ops Q C ns L f (listed.setIfInBounds i true) (a.put oi.dst v) w→DZ P md ops Q C ns L (f+1) listed a w:=by
 intro f
 induction f with
 |zero=>
  intro listed a w inv _ hr hy hC H;have hun:=(mem_ready.1 hr).1;refine⟨fun h=>(by rw[h]at hr;cases hr),fun j hj=>?_⟩;have hjn:=CO hs inv.closed inv.sub inv.sup ⟨i,hin,getD_both hun⟩ j hj;refine⟨hjn,?_⟩
  by_cases hji:j=i
  ·subst hji;exact hy.wpOp hi hC ⟨hC,H⟩
  ·exact absurd hjn (hdone _ _ _ H j (ready_mono hj hji))
 |succ f ih=>
  intro listed a w inv hfree hr hy hC H;have hun:=(mem_ready.1 hr).1;refine⟨fun h=>(by rw[h]at hr;cases hr),fun j hj=>?_⟩;have hjn:=CO hs inv.closed inv.sub inv.sup ⟨i,hin,getD_both hun⟩ j hj;refine⟨hjn,?_⟩
  by_cases hji:j=i
  ·subst hji;exact hy.wpOp hi hC ⟨hC,H⟩
  ·have h1:=(H.2 j (ready_mono hj hji)).2
   obtain⟨hjun,oj,hoj,hall⟩:=mem_ready.1 hj
   have hnot:∀e∈oj.after,Region.binds md e=true→e.on≠i:=fun e he hb heq=>by
    have h1:=hall e he hb;rw[heq,getD_both hun]at h1;cases h1
   have h2:=wpOp_putIf hoj (hfree j oj hoj hji hjun hnot) (fun cs b=>hsel i oi cs b hi) (fun cs b=>hsel j oj cs b hoj) hQ hy h1
   have hfree':∀k ok,ops[k]?=some ok→k≠i→(listed.setIfInBounds j true).getD k true=false→
     (∀e∈ok.after,Region.binds md e=true→e.on≠i)→oi.apart ops ok=true:=fun k ok hk hki hun hno=>by
    refine hfree k ok hk hki ?_ hno
    by_cases hjk:j=k
    ·subst hjk;exact hjun
    ·rw[getD_set_ne true hjk]at hun;exact hun
   refine wpOp_mono (fun a' w' h3=>⟨h3.2.1,ih (listed.setIfInBounds j true) a' w' (inv.put hj hjn) hfree' (ready_mono hr (Ne.symm hji)) h3.1 h3.2.1 ?_⟩) h2;rw[Array.setIfInBounds_comm _ _ hji];exact h3.2.2
def mV(P:Program)(l:List Oper)(Q:Exit→Act→World→Prop)(C:World→Prop)(L:Act→World→Prop):List (Nat×Bool)→Act→World→Prop
 |[],a,w=>L a w
 |(i,true)::r,a,w=>match l[i]? with
  |some o=>if Region.wanted o (yielded l.toArray a.tmps)then gD P o a C (fun a'=>mV P l Q C L r a' w)else mV P l Q C L r (a.put o.dst undef) w
  |none=>mV P l Q C L r a w
 |(i,false)::r,a,w=>wpList P l.toArray (Exit.then (fun a' w'=>C w'∧mV P l Q C L r a' w') Q) (pick l [i]) a w
theorem ak{l:List Oper}{L:Act→World→Prop}{i:Nat}{o:Oper}{r:List (Nat×Bool)}{a:Act}{w:World}(ho:l[i]?=some o)
  (h:∀K:Act→Prop,(∀a,mV P l Q C L r a w→K a)→if Region.wanted o (yielded l.toArray a.tmps)then gD P o a C K else K (a.put o.dst undef)):mV P l Q C L ((i,true)::r) a w:=by
 unfold mV;rw[ho];exact h _ (fun _ h=>h)
theorem aS{l:List Oper}{L:Act→World→Prop}{i:Nat}{o:Oper}{r:List (Nat×Bool)}{a:Act}{w:World}(ho:l[i]?=some o)
  (h:∀K:Act→World→Prop,(∀a w,C w→mV P l Q C L r a w→K a w)→wpList P l.toArray (Exit.then K Q) [o] a w):mV P l Q C L ((i,false)::r) a w:=by
 unfold mV;have hp:pick l [i]=[o]:=by simp[pick,ho]
 rw[hp];exact h _ (fun _ _ h1 h2=>⟨h1,h2⟩)
def uK(Cl:World→World→Prop)(P:Program)(l:List Oper)(Q:Exit→Act→World→Prop):List (List (Nat×Bool)×Nat)→List (Nat×Bool)→Act→World→World→Prop
 |[],last,a,w0,w=>mV P l Q (Cl w0) (fun a' w'=>Q .normal a' w') last a w
 |(s,t)::bU,last,a,w0,w=>mV P l Q (Cl w0) (fun a' w'=>wpList P l.toArray (Exit.then (fun a'' w''=>uK Cl P l Q bU last a'' w'' w'') Q) (pick l [t]) a' w') s a w
theorem dm{l:List Oper}{Cl:World→World→Prop}{t:Nat}{o:Oper}{bU:List (List (Nat×Bool)×Nat)}{last:List (Nat×Bool)}{a:Act}{w:World}(ho:l[t]?=some o)
  (h:∀K:Act→World→Prop,(∀a w,uK Cl P l Q bU last a w w→K a w)→wpList P l.toArray (Exit.then K Q) [o] a w):mV P l Q C (fun a' w'=>wpList P l.toArray (Exit.then (fun a'' w''=>uK Cl P l Q bU last a'' w'' w'') Q) (pick l [t]) a' w') [] a w:=by
 unfold mV;have hp:pick l [t]=[o]:=by simp[pick,ho]
 rw[hp];exact h _ (fun _ _ h1=>h1)
def seqB(md:Region.Mode)(ops:Array Oper):List (Nat×Bool)→Array Bool→Bool
 |[],_=>true
 |(k,true)::r,listed=>(Region.ready md ops listed).contains k&&Region.free md ops listed k&&seqB md ops r (listed.setIfInBounds k true)
 |(k,false)::r,listed=>decide (Region.ready md ops listed=[k])&&seqB md ops r (listed.setIfInBounds k true)
theorem xZ{l0:List Oper}{ns:List Nat}{t:Option Nat}{eH:Array Bool}{Lq:Act→World→Prop}{fin:Array Bool}(hsel:Region.noSelect l0.toArray=true)(hQ:∀c a d v w,Q (.panic c) (Act.put a d v) w→Q (.panic c) a w)
  (hs:qi md l0.toArray ns t eH=true) (hfin:∀j∈Region.ready md l0.toArray fin,j∉ns):
  ∀(s:List (Nat×Bool)) (listed:Array Bool) (a:Act) (w:World),(∀k∈s,k.1∈ns)→nC md l0.toArray ns eH listed→seqB md l0.toArray s listed=true→jv (s.map (·.1)) listed=fin→C w→
  mV P l0 Q C Lq s a w→DZ P md l0.toArray Q C ns (fun listed' a' w'=>listed'=fin∧Lq a' w') s.length listed a w
 |[],listed,a,w,_,_,_,hf,_,h=>⟨hf,h⟩
 |(k,true)::r,listed,a,w,hq,inv,hB,hf,hC,h=>by
  simp only[seqB,Bool.and_eq_true]at hB;obtain⟨⟨hr,hfr⟩,hB'⟩:=hB;have hr':k∈Region.ready md l0.toArray listed:=by simpa using hr
  obtain⟨_,o,ho,_⟩:=mem_ready.1 hr';have ho':l0[k]?=some o:=by simpa using ho
  unfold mV at h;rw[ho']at h;have hkq:=hq (k,true) (by simp)
  obtain⟨v,hy,hK⟩:∃v,YieldsIf P l0.toArray C o v a∧mV P l0 Q C Lq r (a.put o.dst v) w:=by
   by_cases hw:Region.wanted o (yielded l0.toArray a.tmps)=true
   ·simp only[hw,if_true]at h
    obtain⟨v,h1,h2⟩:=h;exact⟨v,.inl ⟨hw,fun w hw=>BG (h1 w hw)⟩,h2⟩
   ·simp only[hw]at h
    exact⟨undef,.inr ⟨by simpa using hw,rfl⟩,h⟩
  exact Gw ho (Region.noSelect_spec hsel) (fun c a w=>hQ c a o.dst v w) hs hkq (fun listed' a' w' hL=>by rw[hL.1];exact hfin) r.length listed a w inv (Region.free_spec ho hfr) hr' hy hC
   (xZ hsel hQ hs hfin r _ _ w (fun x hx=>hq x (by simp[hx])) (inv.put hr' hkq) hB' hf hC hK)
 |(k,false)::r,listed,a,w,hq,inv,hB,hf,hC,h=>by
  simp only[seqB,Bool.and_eq_true,decide_eq_true_eq]at hB;obtain⟨hr,hB'⟩:=hB;have hr':k∈Region.ready md l0.toArray listed:=by rw[hr];simp
  obtain⟨_,o,ho,_⟩:=mem_ready.1 hr';have hkq:=hq (k,false) (by simp);refine⟨by rw[hr];simp,fun i hi=>?_⟩;rw[hr]at hi;rw[List.mem_singleton.1 hi];unfold mV at h;exact⟨hkq,wpOp_mono (fun a' w' h'=>⟨h'.1,xZ hsel hQ hs hfin r _ a' w' (fun x hx=>hq x (by simp[hx])) (inv.put hr' hkq) hB' hf h'.1 h'.2⟩) (jD ho h)⟩
theorem MR{ns:List Nat}{eH:Array Bool}:∀(s:List (Nat×Bool)) (listed:Array Bool),(∀k∈s,k.1∈ns)→nC md ops ns eH listed→seqB md ops s listed=true→nC md ops ns eH (jv (s.map (·.1)) listed)
 |[],_,_,inv,_=>inv
 |(k,true)::r,listed,hq,inv,hB=>by
  simp only[seqB,Bool.and_eq_true]at hB;exact MR r _ (fun x hx=>hq x (by simp[hx])) (inv.put (by simpa using hB.1.1) (hq (k,true) (by simp))) hB.2
 |(k,false)::r,listed,hq,inv,hB=>by
  simp only[seqB,Bool.and_eq_true,decide_eq_true_eq]at hB;exact MR r _ (fun x hx=>hq x (by simp[hx])) (inv.put (by rw[hB.1];simp) (hq (k,false) (by simp))) hB.2
def J9(md:Region.Mode)(ops:Array Oper):List (List (Nat×Bool)×Nat)→List (Nat×Bool)→Array Bool→Bool
 |[],last,listed=>qi md ops (last.map (·.1)) none listed&&seqB md ops last listed&&(Region.ready md ops (jv (last.map (·.1)) listed)).isEmpty
 |(s,t)::bU,last,listed=>qi md ops (s.map (·.1)) (some t) listed&&seqB md ops s listed&&decide (Region.ready md ops (jv (s.map (·.1)) listed)=[t])&&!(s.map (·.1)).contains t&&
   J9 md ops bU last ((jv (s.map (·.1)) listed).setIfInBounds t true)
def EL:List (List (Nat×Bool)×Nat)→List (Nat×Bool)→Nat
 |[],last=>last.length
 |(s,_)::bU,last=>s.length+(EL bU last+1)
theorem dJ{Cl:World→World→Prop}{l:List Oper}{a:Act}{w0 w:World}{s:List (Nat×Bool)}{t:Nat}{bU:List (List (Nat×Bool)×Nat)}{last:List (Nat×Bool)}
  (h:mV P l Q (Cl w0) (fun a' w'=>wpList P l.toArray (Exit.then (fun a'' w''=>uK Cl P l Q bU last a'' w'' w'') Q) (pick l [t]) a' w') s a w):uK Cl P l Q ((s,t)::bU) last a w0 w:=h
theorem EN{Cl:World→World→Prop}{l:List Oper}{a:Act}{w0 w:World}{last:List (Nat×Bool)}(h:mV P l Q (Cl w0) (fun a' w'=>Q .normal a' w') last a w):uK Cl P l Q [] last a w0 w:=h
theorem sj{l:List Oper}{L:Act→World→Prop}{a:Act}{w:World}(h:L a w):mV P l Q C L [] a w:=h
theorem fH{Cl:World→World→Prop}{l:List Oper}{a:Act}{w0 w:World}(h:Q .normal a w):uK Cl P l Q [] [] a w0 w:=h
theorem x8{Cl:World→World→Prop}(hrefl:∀w,Cl w w){l:List Oper}(hsel:Region.noSelect l.toArray=true)(hQ:∀c a d v w,Q (.panic c) (Act.put a d v) w→Q (.panic c) a w):
  ∀(bU:List (List (Nat×Bool)×Nat)) (last:List (Nat×Bool)) (listed:Array Bool) (a:Act) (w0 w:World),
  Closed md l.toArray listed→J9 md l.toArray bU last listed=true→Cl w0 w→uK Cl P l Q bU last a w0 w→wpAny P md l.toArray Q (EL bU last) listed a w
 |[],last,listed,a,w0,w,inv,hB,hC,h=>by
  simp only[J9,Bool.and_eq_true,List.isEmpty_iff]at hB;obtain⟨⟨hs,hl⟩,hr⟩:=hB;have hz:nC md l.toArray (last.map (·.1)) listed listed:=⟨inv,fun _ h=>h,fun _ h=>.inl h⟩;have:=xZ (P:=P) (C:=Cl w0) (Q:=Q) (fin:=jv (last.map (·.1)) listed) (Lq:=fun a' w'=>Q .normal a' w') hsel hQ hs (by rw[hr];simp) last listed a w (fun k hk=>List.mem_map.2 ⟨k,hk,rfl⟩) hz hl rfl hC h;exact nL (g:=0) (fun listed' a' w' _ hL=>wpAny_done (by rw[hL.1];exact hr) hL.2 0) last.length listed a w hC this
 |(s,t)::bU,last,listed,a,w0,w,inv,hB,hC,h=>by
  simp only[J9,Bool.and_eq_true,decide_eq_true_eq,Bool.not_eq_true']at hB;obtain⟨⟨⟨⟨hs,hl⟩,hr⟩,ht⟩,hB'⟩:=hB;have hz:nC md l.toArray (s.map (·.1)) listed listed:=⟨inv,fun _ h=>h,fun _ h=>.inl h⟩;have hmem:∀k∈s,k.1∈s.map (·.1):=fun k hk=>List.mem_map.2 ⟨k,hk,rfl⟩
  have hz':=MR s listed hmem hz hl;have htr:t∈Region.ready md l.toArray (jv (s.map (·.1)) listed):=by rw[hr];simp
  have htn:t∉s.map (·.1):=by
   intro hx;rw[List.contains_iff_mem.2 hx]at ht;cases ht
  obtain⟨_,ot,hot,_⟩:=mem_ready.1 htr
  have:=xZ (P:=P) (C:=Cl w0) (Q:=Q) (fin:=jv (s.map (·.1)) listed) (Lq:=fun a' w'=>wpList P l.toArray (Exit.then (fun a'' w''=>uK Cl P l Q bU last a'' w'' w'') Q) (pick l [t]) a' w') hsel hQ hs
   (by rw[hr];intro j hj;rw[List.mem_singleton.1 hj];exact htn) s listed a w hmem hz hl rfl hC h
  refine nL (g:=EL bU last+1) (fun listed' a' w' _ hL=>?_) s.length listed a w hC this;refine wpAny_all (rs:=[t]) (by rw[hL.1];exact hr) (by simp) (fun i hi=>?_);rw[List.mem_singleton.1 hi,hL.1];exact wpOp_mono (fun a'' w'' h''=>x8 hrefl hsel hQ bU last _ a'' w'' w'' (hz'.closed.put htr) hB' (hrefl w'') h'') (jD hot hL.2)
theorem cu{id:Nat}{a:Act}{w:World}{l:List Oper}(bU:List (List (Nat×Bool)×Nat))(last:List (Nat×Bool))(hm:P.follows .mixedOrders=true)(hQ:∀c a d v w,Q (.panic c) (Act.put a d v) w→Q (.panic c) a w)
  (hB:(Region.noSelect l.toArray&&decide (EL bU last=l.toArray.size)&&J9 .any l.toArray bU last (Array.replicate l.toArray.size false))=true)
  (h:uK (fun w w'=>∃p:Regrown,w'=Go.Sort.grow (redrawn w p.d) p.os) P l Q bU last a w (w.drewN 1)):(Code.region id l.toArray true).wp P Q a w:=by
 simp only[Bool.and_eq_true,decide_eq_true_eq]at hB;obtain⟨⟨hsel,hn⟩,hB⟩:=hB;refine wp_region_any hm ?_;rw[←hn];rw[←hn]at hB;exact x8 mE.refl hsel hQ bU last _ a w _ ⟨by simp[hn],fun j oj _ hl=>by rw[qB]at hl;cases hl⟩ hB (mE.drew w) h
end
theorem aA{w w':World}(h:ag w w'):∃p:Regrown,w'=Go.Sort.grow (redrawn w p.d) p.os:=regrown_of_below h.below
section
variable {P:Program} {ops:Array Oper} {md:Region.Mode} {C:World→Prop} {Q:Exit→Act→World→Prop}
inductive gq where
 |nil
 |plain (i:Nat) (r:gq)
 |lone (i:Nat) (r:gq)
 |fork (i:Nat) (p:gq) (j:Nat) (q:gq)
def gq.of:List (Nat×Bool)→gq→gq
 |[],r=>r
 |(i,true)::l,r=>.plain i (gq.of l r)
 |(i,false)::l,r=>.lone i (gq.of l r)
def gq.len:gq→Nat
 |.nil=>0
 |.plain _ r=>r.len+1
 |.lone _ r=>r.len+1
 |.fork _ p _ _=>p.len+1
def gq.within(ns:List Nat):gq→Bool
 |.nil=>true
 |.plain i r=>ns.contains i&&r.within ns
 |.lone i r=>ns.contains i&&r.within ns
 |.fork i p j q=>ns.contains i&&p.within ns&&ns.contains j&&q.within ns
def nZ(md:Region.Mode)(ops:Array Oper)(fin:Array Bool):gq→Array Bool→Bool
 |.nil,listed=>decide (listed=fin)
 |.plain k r,listed=>(Region.ready md ops listed).contains k&&Region.free md ops listed k&&nZ md ops fin r (listed.setIfInBounds k true)
 |.lone k r,listed=>decide (Region.ready md ops listed=[k])&&nZ md ops fin r (listed.setIfInBounds k true)
 |.fork i p j q,listed=>decide (Region.ready md ops listed=[i,j])&&decide (p.len=q.len)&&nZ md ops fin p (listed.setIfInBounds i true)&&nZ md ops fin q (listed.setIfInBounds j true)
def fK(P:Program)(l:List Oper)(Q:Exit→Act→World→Prop)(C:World→Prop)(L:Act→World→Prop):gq→Act→World→Prop
 |.nil,a,w=>L a w
 |.plain i r,a,w=>match l[i]? with
  |some o=>if Region.wanted o (yielded l.toArray a.tmps)then gD P o a C (fun a'=>fK P l Q C L r a' w)else fK P l Q C L r (a.put o.dst undef) w
  |none=>fK P l Q C L r a w
 |.lone i r,a,w=>wpList P l.toArray (Exit.then (fun a' w'=>C w'∧fK P l Q C L r a' w') Q) (pick l [i]) a w
 |.fork i p j q,a,w=>wpList P l.toArray (Exit.then (fun a' w'=>C w'∧fK P l Q C L p a' w') Q) (pick l [i]) a w∧wpList P l.toArray (Exit.then (fun a' w'=>C w'∧fK P l Q C L q a' w') Q) (pick l [j]) a w
theorem eX{l:List Oper}{L:Act→World→Prop}{i:Nat}{o:Oper}{r:gq}{a:Act}{w:World}(ho:l[i]?=some o)
  (h:∀K:Act→Prop,(∀a,fK P l Q C L r a w→K a)→if Region.wanted o (yielded l.toArray a.tmps)then gD P o a C K else K (a.put o.dst undef)):fK P l Q C L (.plain i r) a w:=by
 unfold fK;rw[ho];exact h _ (fun _ h=>h)
theorem aW{l:List Oper}{L:Act→World→Prop}{i:Nat}{o:Oper}{r:gq}{a:Act}{w:World}(ho:l[i]?=some o)
  (h:∀K:Act→World→Prop,(∀a w,C w→fK P l Q C L r a w→K a w)→wpList P l.toArray (Exit.then K Q) [o] a w):fK P l Q C L (.lone i r) a w:=by
 unfold fK;have hp:pick l [i]=[o]:=by simp[pick,ho]
 rw[hp];exact h _ (fun _ _ h1 h2=>⟨h1,h2⟩)
theorem o6{l:List Oper}{L:Act→World→Prop}{i j:Nat}{p q:gq}{a:Act}{w:World}(h1:fK P l Q C L (.lone i p) a w)(h2:fK P l Q C L (.lone j q) a w):fK P l Q C L (.fork i p j q) a w:=⟨h1,h2⟩
theorem sQ{l:List Oper}{L:Act→World→Prop}{a:Act}{w:World}(h:L a w):fK P l Q C L .nil a w:=h
theorem TW{l:List Oper}{Cl:World→World→Prop}{t:Nat}{o:Oper}{bU:List (List (Nat×Bool)×Nat)}{last:List (Nat×Bool)}{a:Act}{w:World}(ho:l[t]?=some o)
  (h:∀K:Act→World→Prop,(∀a w,uK Cl P l Q bU last a w w→K a w)→wpList P l.toArray (Exit.then K Q) [o] a w):fK P l Q C (fun a' w'=>wpList P l.toArray (Exit.then (fun a'' w''=>uK Cl P l Q bU last a'' w'' w'') Q) (pick l [t]) a' w') .nil a w:=by
 unfold fK;have hp:pick l [t]=[o]:=by simp[pick,ho]
 rw[hp];exact h _ (fun _ _ h1=>h1)
theorem y7{ns:List Nat}{eH fin:Array Bool}:∀(p:gq) (listed:Array Bool),p.within ns=true→nC md ops ns eH listed→nZ md ops fin p listed=true→nC md ops ns eH fin
 |.nil,listed,_,inv,hB=>by
  simp only[nZ,decide_eq_true_eq]at hB;rw[←hB];exact inv
 |.plain k r,listed,hn,inv,hB=>by
  simp only[nZ,Bool.and_eq_true]at hB;simp only[gq.within,Bool.and_eq_true]at hn;exact y7 r _ hn.2 (inv.put (by simpa using hB.1.1) (by simpa using hn.1)) hB.2
 |.lone k r,listed,hn,inv,hB=>by
  simp only[nZ,Bool.and_eq_true,decide_eq_true_eq]at hB;simp only[gq.within,Bool.and_eq_true]at hn;exact y7 r _ hn.2 (inv.put (by rw[hB.1];simp) (by simpa using hn.1)) hB.2
 |.fork i p j q,listed,hn,inv,hB=>by
  simp only[nZ,Bool.and_eq_true,decide_eq_true_eq]at hB;simp only[gq.within,Bool.and_eq_true]at hn;exact y7 p _ hn.1.1.2 (inv.put (by rw[hB.1.1.1];simp) (by simpa using hn.1.1.1)) hB.1.2
theorem lG{l0:List Oper}{ns:List Nat}{t:Option Nat}{eH:Array Bool}{Lq:Act→World→Prop}{fin:Array Bool}(hsel:Region.noSelect l0.toArray=true)(hQ:∀c a d v w,Q (.panic c) (Act.put a d v) w→Q (.panic c) a w)
  (hs:qi md l0.toArray ns t eH=true) (hfin:∀j∈Region.ready md l0.toArray fin,j∉ns):
  ∀(p:gq) (listed:Array Bool) (a:Act) (w:World),p.within ns=true→nC md l0.toArray ns eH listed→nZ md l0.toArray fin p listed=true→C w→
  fK P l0 Q C Lq p a w→DZ P md l0.toArray Q C ns (fun listed' a' w'=>listed'=fin∧Lq a' w') p.len listed a w
 |.nil,listed,a,w,_,_,hB,_,h=>by
  simp only[nZ,decide_eq_true_eq]at hB;exact⟨hB,h⟩
 |.plain k r,listed,a,w,hn,inv,hB,hC,h=>by
  simp only[nZ,Bool.and_eq_true]at hB;simp only[gq.within,Bool.and_eq_true]at hn;obtain⟨⟨hr,hfr⟩,hB'⟩:=hB;have hr':k∈Region.ready md l0.toArray listed:=by simpa using hr
  obtain⟨_,o,ho,_⟩:=mem_ready.1 hr';have ho':l0[k]?=some o:=by simpa using ho
  unfold fK at h;rw[ho']at h;have hkq:k∈ns:=by simpa using hn.1
  obtain⟨v,hy,hK⟩:∃v,YieldsIf P l0.toArray C o v a∧fK P l0 Q C Lq r (a.put o.dst v) w:=by
   by_cases hw:Region.wanted o (yielded l0.toArray a.tmps)=true
   ·simp only[hw,if_true]at h
    obtain⟨v,h1,h2⟩:=h;exact⟨v,.inl ⟨hw,fun w hw=>BG (h1 w hw)⟩,h2⟩
   ·simp only[hw]at h
    exact⟨undef,.inr ⟨by simpa using hw,rfl⟩,h⟩
  exact Gw ho (Region.noSelect_spec hsel) (fun c a w=>hQ c a o.dst v w) hs hkq (fun listed' a' w' hL=>by rw[hL.1];exact hfin) r.len listed a w inv (Region.free_spec ho hfr) hr' hy hC
   (lG hsel hQ hs hfin r _ _ w hn.2 (inv.put hr' hkq) hB' hC hK)
 |.lone k r,listed,a,w,hn,inv,hB,hC,h=>by
  simp only[nZ,Bool.and_eq_true,decide_eq_true_eq]at hB;simp only[gq.within,Bool.and_eq_true]at hn;obtain⟨hr,hB'⟩:=hB;have hr':k∈Region.ready md l0.toArray listed:=by rw[hr];simp
  obtain⟨_,o,ho,_⟩:=mem_ready.1 hr';have hkq:k∈ns:=by simpa using hn.1
  refine⟨by rw[hr];simp,fun i hi=>?_⟩;rw[hr]at hi;rw[List.mem_singleton.1 hi];unfold fK at h;exact⟨hkq,wpOp_mono (fun a' w' h'=>⟨h'.1,lG hsel hQ hs hfin r _ a' w' hn.2 (inv.put hr' hkq) hB' h'.1 h'.2⟩) (jD ho h)⟩
 |.fork i p j q,listed,a,w,hn,inv,hB,hC,h=>by
  simp only[nZ,Bool.and_eq_true,decide_eq_true_eq]at hB;simp only[gq.within,Bool.and_eq_true]at hn;obtain⟨⟨⟨hr,hlen⟩,hBp⟩,hBq⟩:=hB;have hri:i∈Region.ready md l0.toArray listed:=by rw[hr];simp
  have hrj:j∈Region.ready md l0.toArray listed:=by rw[hr];simp
  obtain⟨_,oi,hoi,_⟩:=mem_ready.1 hri;obtain⟨_,oj,hoj,_⟩:=mem_ready.1 hrj;have hki:i∈ns:=by simpa using hn.1.1.1
  have hkj:j∈ns:=by simpa using hn.1.2
  unfold fK at h;refine⟨by rw[hr];simp,fun k hk=>?_⟩;rw[hr]at hk
  rcases List.mem_cons.1 hk with rfl|hk
  ·exact⟨hki,wpOp_mono (fun a' w' h'=>⟨h'.1,lG hsel hQ hs hfin p _ a' w' hn.1.1.2 (inv.put hri hki) hBp h'.1 h'.2⟩) (jD hoi h.1)⟩
  ·rw[List.mem_singleton.1 hk]
   exact⟨hkj,wpOp_mono (fun a' w' h'=>⟨h'.1,by rw[hlen];exact lG hsel hQ hs hfin q _ a' w' hn.2 (inv.put hrj hkj) hBq h'.1 h'.2⟩) (jD hoj h.2)⟩
theorem MS{id:Nat}{a:Act}{w:World}{l:List Oper}(p:gq)(ns:List Nat)(t:Nat)(fin:Array Bool)(bU:List (List (Nat×Bool)×Nat))(last:List (Nat×Bool))(hm:P.follows .mixedOrders=true)(hQ:∀c a d v w,Q (.panic c) (Act.put a d v) w→Q (.panic c) a w)
  (hB:(Region.noSelect l.toArray&&decide (p.len+(EL bU last+1)=l.toArray.size)&&p.within ns&&nZ .any l.toArray fin p (Array.replicate l.toArray.size false)&&qi .any l.toArray ns (some t) (Array.replicate l.toArray.size false)&&
   decide (Region.ready .any l.toArray fin=[t])&&!ns.contains t&&J9 .any l.toArray bU last (fin.setIfInBounds t true))=true)
  (h:fK P l Q (fun w'=>∃p:Regrown,w'=Go.Sort.grow (redrawn w p.d) p.os) (fun a' w'=>wpList P l.toArray (Exit.then (fun a'' w''=>uK (fun w w'=>∃p:Regrown,w'=Go.Sort.grow (redrawn w p.d) p.os) P l Q bU last a'' w'' w'') Q) (pick l [t]) a' w') p a (w.drewN 1)):(Code.region id l.toArray true).wp P Q a w:=by
 simp only[Bool.and_eq_true,decide_eq_true_eq,Bool.not_eq_true']at hB;obtain⟨⟨⟨⟨⟨⟨⟨hsel,hn⟩,hin⟩,hp⟩,hs⟩,hr⟩,ht⟩,hB'⟩:=hB;refine wp_region_any hm ?_;rw[←hn];rw[←hn]at hp hs
 have hz:nC .any l.toArray ns (Array.replicate (p.len+(EL bU last+1)) false) (Array.replicate (p.len+(EL bU last+1)) false):=
  ⟨⟨by simp[hn],fun j oj _ hl=>by rw[qB]at hl;cases hl⟩,fun _ h=>h,fun _ h=>.inl h⟩
 have hz':=y7 p _ hin hz hp;have htr:t∈Region.ready .any l.toArray fin:=by rw[hr];simp
 have htn:t∉ns:=by
  intro hx;rw[List.contains_iff_mem.2 hx]at ht;cases ht
 obtain⟨_,ot,hot,_⟩:=mem_ready.1 htr;have:=lG (P:=P) (Q:=Q) (fin:=fin) hsel hQ hs (by rw[hr];intro j hj;rw[List.mem_singleton.1 hj];exact htn) p _ a (w.drewN 1) hin hz hp (mE.drew w) h;refine nL (g:=EL bU last+1) (fun listed' a' w' _ hL=>?_) p.len _ a _ (mE.drew w) this;refine wpAny_all (rs:=[t]) (by rw[hL.1];exact hr) (by simp) (fun i hi=>?_);rw[List.mem_singleton.1 hi,hL.1];exact wpOp_mono (fun a'' w'' h''=>x8 mE.refl hsel hQ bU last _ a'' w'' w'' (hz'.closed.put htr) hB' (mE.refl w'') h'') (jD hot hL.2)
end
section
variable {P:Program} {md:Region.Mode} {Q:Exit→Act→World→Prop}
def x9(P:Program)(l:List Oper)(L:Act→Prop):List Nat→Act→Prop
 |[],a=>L a
 |i::r,a=>match l[i]? with
  |some o=>if Region.wanted o (yielded l.toArray a.tmps)then gD P o a (fun _=>True) (fun a'=>x9 P l L r a')else x9 P l L r (a.put o.dst undef)
  |none=>x9 P l L r a
theorem V6{l:List Oper}{L:Act→Prop}{i:Nat}{o:Oper}{r:List Nat}{a:Act}(ho:l[i]?=some o)
  (h:∀K:Act→Prop,(∀a,x9 P l L r a→K a)→if Region.wanted o (yielded l.toArray a.tmps)then gD P o a (fun _=>True) K else K (a.put o.dst undef)):x9 P l L (i::r) a:=by
 unfold x9;rw[ho];exact h _ (fun _ h=>h)
theorem YQ{l:List Oper}{L:Act→Prop}{a:Act}(h:L a):x9 P l L [] a:=h
def preB(md:Region.Mode)(ops:Array Oper):List Nat→Array Bool→Bool
 |[],_=>true
 |k::r,listed=>(Region.ready md ops listed).contains k&&Region.free md ops listed k&&preB md ops r (listed.setIfInBounds k true)
theorem Lj{l:List Oper}:∀(pre:List Nat) (listed:Array Bool),Closed md l.toArray listed→preB md l.toArray pre listed=true→Closed md l.toArray (jv pre listed)
 |[],_,inv,_=>inv
 |k::r,listed,inv,hB=>by
  simp only[preB,Bool.and_eq_true]at hB;exact Lj r _ (inv.put (by simpa using hB.1.1)) hB.2
theorem NQ{l:List Oper}(hsel:Region.noSelect l.toArray=true)(hQ:∀c a d v w,Q (.panic c) (Act.put a d v) w→Q (.panic c) a w){w:World}{f:Nat}{L:Act→Prop}:
  ∀(pre:List Nat) (listed:Array Bool) (a:Act),preB md l.toArray pre listed=true→(∀a',L a'→wpAny P md l.toArray Q f (jv pre listed) a' w)→x9 P l L pre a→wpAny P md l.toArray Q (pre.length+f) listed a w
 |[],listed,a,_,hL,h=>by rw[List.length_nil,Nat.zero_add];exact hL a h
 |k::r,listed,a,hB,hL,h=>by
  simp only[preB,Bool.and_eq_true]at hB;obtain⟨⟨hr,hfr⟩,hB'⟩:=hB;have hr':k∈Region.ready md l.toArray listed:=by simpa using hr
  obtain⟨_,o,ho,_⟩:=mem_ready.1 hr';have ho':l[k]?=some o:=by simpa using ho
  unfold x9 at h;rw[ho']at h
  obtain⟨v,hy,hK⟩:∃v,Yields P l.toArray o v a∧x9 P l L r (a.put o.dst v):=by
   by_cases hw:Region.wanted o (yielded l.toArray a.tmps)=true
   ·simp only[hw,if_true]at h
    obtain⟨v,h1,h2⟩:=h;exact⟨v,.inl ⟨hw,fun w=>BG (h1 w trivial)⟩,h2⟩
   ·simp only[hw]at h
    exact⟨undef,.inr ⟨by simpa using hw,rfl⟩,h⟩
  rw[List.length_cons,show r.length+1+f=(r.length+f)+1 by omega];exact wpAny_take ho hsel hfr hr (fun c a w=>hQ c a o.dst v w) hy (NQ hsel hQ r _ _ hB' hL hK)
theorem O8{id:Nat}{a:Act}{w:World}{l:List Oper}(pre:List Nat)(bU:List (List (Nat×Bool)×Nat))(last:List (Nat×Bool))(hm:P.follows .mixedOrders=true)(hQ:∀c a d v w,Q (.panic c) (Act.put a d v) w→Q (.panic c) a w)
  (hB:(Region.noSelect l.toArray&&decide (pre.length+EL bU last=l.toArray.size)&&preB .any l.toArray pre (Array.replicate l.toArray.size false)&&J9 .any l.toArray bU last (jv pre (Array.replicate l.toArray.size false)))=true)
  (h:x9 P l (fun a'=>uK (fun w w'=>∃p:Regrown,w'=Go.Sort.grow (redrawn w p.d) p.os) P l Q bU last a' w (w.drewN 1)) pre a):(Code.region id l.toArray true).wp P Q a w:=by
 simp only[Bool.and_eq_true,decide_eq_true_eq]at hB;obtain⟨⟨⟨hsel,hn⟩,hp⟩,hB⟩:=hB;refine wp_region_any hm ?_;rw[←hn];rw[←hn]at hp hB;refine NQ hsel hQ pre _ a hp (fun a' h'=>?_) h;exact x8 mE.refl hsel hQ bU last _ a' w _ (Lj pre _ ⟨by simp[hn],fun j oj _ hl=>by rw[qB]at hl;cases hl⟩ hp) hB (mE.drew w) h'
end
theorem uV{P:Program}{Q:Exit→Act→World→Prop}{id:Nat}{a:Act}{w:World}{l:List Oper}(C:World→Prop)(last:List (Nat×Bool))(hm:P.follows .mixedOrders=true)(hQ:∀c a d v w,Q (.panic c) (Act.put a d v) w→Q (.panic c) a w)
  (hB:(Region.noSelect l.toArray&&decide (last.length=l.toArray.size)&&(qi .any l.toArray (last.map (·.1)) none (Array.replicate l.toArray.size false)&&seqB .any l.toArray last (Array.replicate l.toArray.size false)&&(Region.ready .any l.toArray (jv (last.map (·.1)) (Array.replicate l.toArray.size false))).isEmpty))=true)
  (hC:C (w.drewN 1)) (h:mV P l Q C (fun a' w'=>Q .normal a' w') last a (w.drewN 1)):(Code.region id l.toArray true).wp P Q a w:=by
 simp only[Bool.and_eq_true,decide_eq_true_eq,List.isEmpty_iff]at hB;obtain⟨⟨hsel,hn⟩,⟨hs,hl⟩,hr⟩:=hB;refine wp_region_any hm ?_;rw[←hn];rw[←hn]at hs hl hr;have inv:Closed .any l.toArray (Array.replicate last.length false):=⟨by simp[hn],fun j oj _ hl=>by rw[qB]at hl;cases hl⟩;have hz:nC .any l.toArray (last.map (·.1)) (Array.replicate last.length false) (Array.replicate last.length false):=⟨inv,fun _ h=>h,fun _ h=>.inl h⟩;have:=xZ (P:=P) (C:=C) (Q:=Q) (fin:=jv (last.map (·.1)) (Array.replicate last.length false)) (Lq:=fun a' w'=>Q .normal a' w') hsel hQ hs (by rw[hr];simp) last _ a (w.drewN 1) (fun k hk=>List.mem_map.2 ⟨k,hk,rfl⟩) hz hl rfl hC h;exact nL (g:=0) (fun listed' a' w' _ hL=>wpAny_done (by rw[hL.1];exact hr) hL.2 0) last.length _ a _ hC this
theorem AA{P:Program}{Q:Exit→Act→World→Prop}{id:Nat}{a:Act}{w:World}{l:List Oper}(C:World→Prop)(p:gq)(ns:List Nat)(fin:Array Bool)(hm:P.follows .mixedOrders=true)(hQ:∀c a d v w,Q (.panic c) (Act.put a d v) w→Q (.panic c) a w)
  (hB:(Region.noSelect l.toArray&&decide (p.len=l.toArray.size)&&p.within ns&&nZ .any l.toArray fin p (Array.replicate l.toArray.size false)&&qi .any l.toArray ns none (Array.replicate l.toArray.size false)&&(Region.ready .any l.toArray fin).isEmpty)=true)
  (hC:C (w.drewN 1)) (h:fK P l Q C (fun a' w'=>Q .normal a' w') p a (w.drewN 1)):(Code.region id l.toArray true).wp P Q a w:=by
 simp only[Bool.and_eq_true,decide_eq_true_eq,List.isEmpty_iff]at hB;obtain⟨⟨⟨⟨⟨hsel,hn⟩,hin⟩,hp⟩,hs⟩,hr⟩:=hB;refine wp_region_any hm ?_;rw[←hn];rw[←hn]at hp hs
 have hz:nC .any l.toArray ns (Array.replicate p.len false) (Array.replicate p.len false):=
  ⟨⟨by simp[hn],fun j oj _ hl=>by rw[qB]at hl;cases hl⟩,fun _ h=>h,fun _ h=>.inl h⟩
 have:=lG (P:=P) (Q:=Q) (fin:=fin) hsel hQ hs (by rw[hr];simp) p _ a (w.drewN 1) hin hz hp hC h;exact nL (g:=0) (fun listed' a' w' _ hL=>wpAny_done (by rw[hL.1];exact hr) hL.2 0) p.len _ a _ hC this
end
end Go.Proofs.YtcgbccfpcgaikaaGreatDoor
