/- Part 3 of 46 of a proof. No condition. -/
import Derived.Test.YtcgbccfpcgaikaaGreatDoorRows
import Derived.WalkKit
import Derived.WalkSpells
import Derived.WalkLawsBesides
import Derived.Deep.QuietTactic
import Derived.BigQuiet
import Derived.Deep.Draws
import Derived.StillTailTactics
import Derived.Deep.RegionHeld3
import Derived.Lib.QuietBelow
import Derived.ProofKit
import Derived.ChangeMaps5
import Derived.WideKeyArgs
import Derived.Lib.SmallJoins
import Derived.Maps.AppendAt
import Derived.Deep.RegionLaw
import Derived.Deep.DeepCutAuto
set_option maxRecDepth 100000
namespace Go.Proofs.YtcgbccfpcgaikaaGreatDoor
section
open Go.RowKit
theorem aeq{k:IntKind}{a b:Int}(h:a=b):Ending.returned (.int k a)=.returned (.int k b):=by rw[h]
def Hd(p:Prop):Prop:=p
theorem Hd.out{p:Prop}(h:Hd p):p:=h
theorem hid{p:Prop}(h:p):Hd p:=h
def af(w:World)(g:Nat)(t:TypeId)(cs:Array Value):Prop:=w.heap[g]?=some (.cells cs t (0,0))
theorem af.lt{w:World}{g:Nat}{t:TypeId}{cs:Array Value}(h:af w g t cs):g<w.heap.size:=(Array.getElem?_eq_some_iff.1 h).1
theorem af.cell{w:World}{g:Nat}{t:TypeId}{cs:Array Value}(h:af w g t cs)(i:Nat):w.cell? ⟨g,i,none⟩=cs[i]?:=by
 unfold af at h;simp[World.cell?,h]
theorem af.frozen{w:World}{g:Nat}{t:TypeId}{cs:Array Value}(h:af w g t cs)(i:Nat):w.frozen? ⟨g,i,none⟩=false:=by
 unfold af at h;simp[World.frozen?,h]
theorem af.new(w:World)(t:TypeId)(cs:Array Value):af (w.alloc (.cells cs t)) w.heap.size t cs:=heap_alloc_new w _
theorem af.new2(w:World)(o:Obj)(t:TypeId)(cs:Array Value):af ((w.alloc o).alloc (.cells cs t)) (w.heap.size+1) t cs:=by
 have:=af.new (w.alloc o) t cs;simpa using this
theorem af.drewN{w:World}{g:Nat}{t:TypeId}{cs:Array Value}(h:af w g t cs)(n:Nat):af (w.drewN n) g t cs:=h
theorem af.alloc{w:World}{g:Nat}{t:TypeId}{cs:Array Value}(h:af w g t cs)(o:Obj):af (w.alloc o) g t cs:=(Below.heap_alloc w o g h.lt).trans h
theorem af.put{w:World}{g:Nat}{t:TypeId}{cs:Array Value}(h:af w g t cs)(i:Nat)(u:Value):af (w.setCell ⟨g,i,none⟩ u) g t (cs.setIfInBounds i u):=by
 unfold af at h⊢;simp[World.setCell,Array.getElem?_modify,h]
theorem af.far{w:World}{g:Nat}{t:TypeId}{cs:Array Value}(h:af w g t cs){p:Addr}(hp:g≠p.block)(u:Value):af (w.setCell p u) g t cs:=(Below.heap_setCell w p u g hp).trans h
theorem af.four{w:World}{g:Nat}{t:TypeId}{x0 x1 x2 x3:Value}(h:af w g t #[x0,x1,x2,x3]):
  w.cell? ⟨g,0,none⟩=some x0∧w.cell? ⟨g,1,none⟩=some x1∧w.cell? ⟨g,2,none⟩=some x2∧w.cell? ⟨g,3,none⟩=some x3∧
  w.frozen? ⟨g,0,none⟩=false∧w.frozen? ⟨g,1,none⟩=false∧w.frozen? ⟨g,2,none⟩=false∧w.frozen? ⟨g,3,none⟩=false∧g<w.heap.size:=
 ⟨h.cell 0,h.cell 1,h.cell 2,h.cell 3,h.frozen 0,h.frozen 1,h.frozen 2,h.frozen 3,h.lt⟩
structure Touch(S:Nat→Prop)(w w':World):Prop where
 os:w'.os=w.os
 tape:w'.tape=w.tape
 output:w'.output=w.output
 size:w.heap.size≤w'.heap.size
 block:∀k,k<w.heap.size→¬S k→w'.heap[k]?=w.heap[k]?
namespace Touch
variable {S S':Nat→Prop} {a b c w w':World}
theorem refl(S:Nat→Prop)(w:World):Touch S w w:=⟨rfl,rfl,rfl,Nat.le_refl _,fun _ _ _=>rfl⟩
theorem trans'(h:Touch S a b)(k:Touch S' b c)(hS:∀i,S' i→S i∨a.heap.size≤i):Touch S a c:=
 ⟨k.os.trans h.os,k.tape.trans h.tape,k.output.trans h.output,Nat.le_trans h.size k.size,fun i hi hn=>
  (k.block i (Nat.lt_of_lt_of_le hi h.size) (fun hs=>(hS i hs).elim hn (fun hle=>absurd hi (by omega)))).trans (h.block i hi hn)⟩
theorem trans(h:Touch S a b)(k:Touch S b c):Touch S a c:=h.trans' k fun _ hs=>.inl hs
theorem mono(h:Touch S a b)(hS:∀i,S i→S' i):Touch S' a b:=⟨h.os,h.tape,h.output,h.size,fun i hi hn=>h.block i hi (fun hs=>hn (hS i hs))⟩
theorem drew(h:Touch S a w):Touch S a w.drew:=⟨h.os,h.tape,h.output,h.size,h.block⟩
theorem drewN(h:Touch S a w)(n:Nat):Touch S a (w.drewN n):=⟨h.os,h.tape,h.output,h.size,h.block⟩
theorem alloc(h:Touch S a w)(o:Obj):Touch S a (w.alloc o):=
 h.trans ⟨rfl,rfl,rfl,by simp,fun i hi _=>Below.heap_alloc _ _ _ hi⟩
theorem setCell(h:Touch S a w){p:Addr}(hp:S p.block∨a.heap.size≤p.block)(u:Value):Touch S a (w.setCell p u):=
 ⟨h.os,h.tape,h.output,by simpa[World.setCell]using h.size,fun i hi hn=>(Below.heap_setCell w p u i (by
  rintro rfl;exact hp.elim hn (fun hle=>absurd hi (by omega)))).trans (h.block i hi hn)⟩
theorem grown(h:Touch S a w){row:Option Nat}(hg:w.grownBy w' row)(hr:∀g,row=some g→S g∨a.heap.size≤g):Touch S a w':=
 ⟨hg.os.trans h.os,hg.tape.trans h.tape,hg.output.trans h.output,Nat.le_trans h.size hg.size,fun i hi hn=>
  (hg.block i (Nat.lt_of_lt_of_le hi h.size) (fun e=>(hr i e.symm).elim hn (fun hle=>absurd hi (by omega)))).trans (h.block i hi hn)⟩
theorem below(h:Touch S a w){B:Nat}(hB:B≤a.heap.size)(hS:∀i,S i→B≤i):Below B a w:=
 ⟨h.os,h.tape,h.output,h.size,fun i hi=>h.block i (by omega) (fun hs=>by have:=hS i hs;omega)⟩
theorem of_below{B:Nat}(h:Below B a w)(hS:∀i,B≤i→i<a.heap.size→S i):Touch S a w:=
 ⟨h.os,h.tape,h.output,h.size,fun i hi hn=>h.block i (by
  rcases Nat.lt_or_ge i B with h'|h'
  ·exact h'
  ·exact absurd (hS i h' hi) hn)⟩
theorem blk(h:Touch S w w'){g:Nat}{t:TypeId}{cs:Array Value}(hb:af w g t cs)(hn:¬S g):af w' g t cs:=(h.block g hb.lt hn).trans hb
theorem cell(h:Touch S w w'){p:Addr}{v:Value}(hc:w.cell? p=some v)(hn:¬S p.block):w'.cell? p=some v:=by
 have hlt:p.block<w.heap.size:=by
  rcases Nat.lt_or_ge p.block w.heap.size with h'|h'
  ·exact h'
  ·simp[World.cell?,Array.getElem?_eq_none h']at hc
 exact(World.cell?_of_block (w:=w) (h.block p.block hlt hn)).trans hc
theorem frozen(h:Touch S w w'){p:Addr}(hlt:p.block<w.heap.size)(hn:¬S p.block):w'.frozen? p=w.frozen? p:=
 World.frozen?_of_block (w:=w) (h.block p.block hlt hn)
end Touch
theorem M(S:Nat→Prop)(w:World):Touch S w w:=Touch.refl S w
abbrev Z:Array Value:=#[.string ⟨#[]⟩,.slice none 0 0,.slice none 0 0,.string ⟨#[]⟩]
abbrev ZN:Array Value:=#[.int .i64 0,.string ⟨#[]⟩,.int .i64 0,.slice none 0 0]
theorem Touch.setRow{S:Nat→Prop}{a w:World}(h:Touch S a w){g:Nat}(hg:S g∨a.heap.size≤g)(cs:Array Value):Touch S a (w.setRow g cs):=
 ⟨h.os,h.tape,h.output,by simpa[World.setRow]using h.size,fun i hi hn=>(setRow_other w g i cs (by
  rintro rfl;exact hg.elim hn (fun hle=>absurd hi (by omega)))).trans (h.block i hi hn)⟩
def aO(w:World)(g:Nat)(x0 x1 x2 x3:Value):World:=(((w.setCell ⟨g,0,none⟩ x0).setCell ⟨g,1,none⟩ x1).setCell ⟨g,2,none⟩ x2).setCell ⟨g,3,none⟩ x3
theorem af.uJ{w:World}{L g:Nat}{t:TypeId}{cs:Array Value}(h:af w L t cs)(hne:L≠g)(x0 x1 x2 x3:Value):af (aO w g x0 x1 x2 x3) L t cs:=
 (((h.far (p:=⟨g,0,none⟩) hne _).far (p:=⟨g,1,none⟩) hne _).far (p:=⟨g,2,none⟩) hne _).far (p:=⟨g,3,none⟩) hne _
theorem af.gH{w:World}{g:Nat}{t:TypeId}{a b c d:Value}(h:af w g t #[a,b,c,d])(x0 x1 x2 x3:Value):af (aO w g x0 x1 x2 x3) g t #[x0,x1,x2,x3]:=(((h.put 0 x0).put 1 x1).put 2 x2).put 3 x3
theorem Touch.aO{S:Nat→Prop}{w w':World}{g:Nat}(h:Touch S w w')(hg:S g∨w.heap.size≤g)(x0 x1 x2 x3:Value):Touch S w (aO w' g x0 x1 x2 x3):=
 (((h.setCell (p:=⟨g,0,none⟩) hg _).setCell (p:=⟨g,1,none⟩) hg _).setCell (p:=⟨g,2,none⟩) hg _).setCell (p:=⟨g,3,none⟩) hg _
theorem Touch.pre{S:Nat→Prop}{w w':World}{o:Obj}(h:Touch S (w.alloc o) w'):Touch S w w':=((M S w).alloc o).trans h
theorem Touch.pG{S:Nat→Prop}{w w':World}{o:Obj}{n:Nat}(h:Touch S ((w.alloc o).drewN n) w'):Touch S w w':=(((M S w).alloc o).drewN n).trans h
theorem Touch.BD{S:Nat→Prop}{w w':World}{n:Nat}(h:Touch S (w.drewN n) w'):Touch S w w':=((M S w).drewN n).trans h
abbrev ag(w w':World):Prop:=Touch (fun _=>False) w w'
theorem ag.below{w w':World}(h:ag w w'):Below w.heap.size w w':=Touch.below h (Nat.le_refl _) (fun _ hf=>hf.elim)
theorem aZ{w w':World}(h:Below w.heap.size w w'):ag w w':=Touch.of_below h fun _ h1 h2=>absurd h2 (by omega)
structure Wd(b c:World):Prop where
 xV:ag b c
instance aj3(b:World):Nonempty (Wd b b):=⟨⟨M _ _⟩⟩
instance ajO(b c:World)(o:Obj)[h:Nonempty (Wd b c)]:Nonempty (Wd b (c.alloc o)):=h.elim fun h=>⟨⟨h.xV.alloc o⟩⟩
instance aj4(b c:World)(n:Nat)[h:Nonempty (Wd b c)]:Nonempty (Wd b (c.drewN n)):=h.elim fun h=>⟨⟨h.xV.drewN n⟩⟩
theorem kV{a b c:World}(h:ag a b)[hw:Nonempty (Wd b c)]:ag a c:=hw.elim fun k=>h.trans k.xV
theorem qV{a b c:World}(h:ag b c)[hw:Nonempty (Wd a b)]:ag a c:=hw.elim fun k=>k.xV.trans h
theorem bD{b c:World}{g:Nat}{t:TypeId}{cs:Array Value}(h:af b g t cs)[hw:Nonempty (Wd b c)]:af c g t cs:=hw.elim fun k=>k.xV.blk h fun h=>h
structure Bn(w:World)(g:Nat)(t:TypeId)(cs:Array Value):Prop where
 blk:af w g t cs
theorem af.Jc(w:World)(o o':Obj)(t:TypeId)(cs:Array Value):af (((w.alloc o).alloc o').alloc (.cells cs t)) (w.heap.size+1+1) t cs:=by
 have:=af.new2 (w.alloc o) o' t cs;simpa using this
instance akr(w:World)(t:TypeId)(cs:Array Value):Nonempty (Bn (w.alloc (.cells cs t)) w.heap.size t cs):=⟨⟨af.new _ _ _⟩⟩
instance aj5(w:World)(o:Obj)(t:TypeId)(cs:Array Value):Nonempty (Bn ((w.alloc o).alloc (.cells cs t)) (w.heap.size+1) t cs):=⟨⟨af.new2 _ _ _ _⟩⟩
instance aj6(w:World)(o o':Obj)(t:TypeId)(cs:Array Value):Nonempty (Bn (((w.alloc o).alloc o').alloc (.cells cs t)) (w.heap.size+1+1) t cs):=⟨⟨af.Jc _ _ _ _ _⟩⟩
instance ajP(w:World)(o:Obj)(g:Nat)(t:TypeId)(cs:Array Value)[h:Nonempty (Bn w g t cs)]:Nonempty (Bn (w.alloc o) g t cs):=h.elim fun h=>⟨⟨h.blk.alloc o⟩⟩
instance aj7(w:World)(n:Nat)(g:Nat)(t:TypeId)(cs:Array Value)[h:Nonempty (Bn w g t cs)]:Nonempty (Bn (w.drewN n) g t cs):=h.elim fun h=>⟨⟨h.blk.drewN n⟩⟩
theorem bH{w:World}{g:Nat}{t:TypeId}{cs:Array Value}[h:Nonempty (Bn w g t cs)]:af w g t cs:=h.elim fun h=>h.blk
theorem xW{w w':World}{a b c d:Addr}{x y z u:Value}(h:ag w w')(h0:w.cell? a=some x)(h1:w.cell? b=some y)(h2:w.cell? c=some z)(h3:w.cell? d=some u):
  w'.cell? a=some x∧w'.cell? b=some y∧w'.cell? c=some z∧w'.cell? d=some u:=⟨h.cell h0 (fun h=>h),h.cell h1 (fun h=>h),h.cell h2 (fun h=>h),h.cell h3 (fun h=>h)⟩
theorem dF{p:Prop}[Decidable p](h:¬p):decide p=false:=decide_eq_false h
theorem dT{p:Prop}[Decidable p](h:p):decide p=true:=decide_eq_true h
theorem aF{a c:World}[hw:Nonempty (Wd a c)]:ag a c:=hw.elim fun k=>k.xV
theorem bL{w:World}{a:Addr}{v:Value}(h:w.cell? a=some v):a.block<w.heap.size:=block_lt_of_cell h
theorem cR{w:World}{a:Addr}{v:Value}(h:w.cell? a=some v)(d:Nat)(os:Array Obj):(Go.Sort.grow (redrawn w d) os).cell? a=some v:=cell_regrown h d os
end
section
open Go.ChangeShapes Go.WideShapes Go.ChangeAt Go.RowKit
open Go.ChangeMaps (open_string shut_string)
theorem Tryz.ownKnob:ownKnob Tryz.prog.godebug=none:=by kernel_rfl
theorem Tryz.laidOut:laidOutB Tryz.prog=true:=by kernel_rfl
section
variable {H:Type} {enc:TypeId×Value→H} {P:Program}
theorem O6{f:Func}{s:ChangeSpec}{apart fresh handsOn again:Bool}{W W':World}{args:Array Value}{v:Value}{ds gs:List (DataW H)}{before pa pv:List MemPlace}
  (hW:DataW.Whole enc P f.params.toList s.vars apart W args.toList ds gs before)
  (hres:∀(b:Nat) (sp:Nat→Bool) (hd:Bool),DataW.TrodAll enc P W' b sp hd f.resultTypes.toList (v.resultList f.resultTypes.size) (s.fn H (ds++gs)).results [])
  (hargs:∀sp:Nat→Bool,(∀p∈before,sp p.block=true)→DataW.TrodAll enc P W' 0 sp true f.params.toList args.toList (s.fn H (ds++gs)).args pa)
  (hvars:∀sp:Nat→Bool,(∀p∈before,sp p.block=true)→DataW.TrodVars enc P W' sp s.vars (s.fn H (ds++gs)).vars pv)
  (hps:before=pa++pv) (hb:Below W.heap.size W W')
  (hok:∀(j:Nat) (t:TypeId) (r:Value),f.resultTypes[j]?=some t→(v.resultList f.resultTypes.size)[j]?=some r→Value.okWide P W' .any 0 t r):
  s.post enc P f apart fresh handsOn again W args v W':=by
 have hlt:∀p∈before,p.block<W.heap.size:=fun p hp=>hW.lt p hp
 have hold:∀p∈before,(fun b=>decide (b<W.heap.size)) p.block=true:=fun p hp=>by simpa using hlt p hp
 refine⟨ds,gs,before,[],pa,pv,hW,hres _ _ _,hargs _ hold,hvars _ hold,World.keptBut_mono (fun p hp=>⟨hp,?_⟩) (hb.frame (·∈before)),fun _=>?_⟩
 ·rw[hps,List.mem_append]at hp
  exact Or.inr hp
 ·obtain⟨_,_,_,_,_,hz,hn⟩:=hW
  refine⟨hok,_,_,([]++pa)++pv,⟨[]++pa,pv,trodAll_append (hargs _ (fun _ _=>rfl)) (hres _ _ _),hvars _ (fun _ _=>rfl),rfl,?_,?_⟩,?_⟩
  ·intro b off hp
   have hin:MemPlace.cell b off∈before:=by rw[hps];simpa using hp
   rw[hb.frozen (hlt _ hin)];exact hz b off hin
  ·intro ha
   have:=hn ha;rw[hps]at this;simpa using this
  ·intro p hp _
   rw[hps];simpa using hp
theorem FV(hl:laidOutB P=true){W W':World}{sp':Nat→Bool}(hb:Below W.heap.size W W'):∀{ts:List TypeId} {vs:List Value} {ds:List (DataW H)} {ps:List MemPlace},(∀t∈ts,P.readableRec t=true∧t<P.types.size)→
  DataW.TrodAll enc P W 0 (fun _=>true) true ts vs ds ps→(∀x∈ps,x.block<W.heap.size)→(∀x∈ps,sp' x.block=true)→DataW.TrodAll enc P W' 0 sp' true ts vs ds ps
 |[],[],[],_,_,h,_,_=>h
 |_::_,_::_,_::_,_,ht,⟨p,q,h1,h2,e⟩,hlt,hs=>by
  subst e
  exact⟨p,q,WideElems.Trod_stays hl (ht _ (List.mem_cons_self ..)).1 (ht _ (List.mem_cons_self ..)).2 h1 (fun x hx=>hb.same (hlt x (List.mem_append_left _ hx))) (fun x hx=>hs x (List.mem_append_left _ hx)),
   FV hl hb (fun t h=>ht t (List.mem_cons_of_mem _ h)) h2 (fun x hx=>hlt x (List.mem_append_right _ hx)) (fun x hx=>hs x (List.mem_append_right _ hx)),rfl⟩
theorem YP{f:Func}{s:ChangeSpec}{W W':World}{args:Array Value}{ds:List (DataW H)}{before:List MemPlace}{tb:TypeId}(hl:laidOutB P=true)
  (htb:P.underlying tb=some .bool) (hres:f.resultTypes=#[tb]) (hp:(f.params.toList.all fun t=>P.readableRec t&&decide (t<P.types.size))=true) (hv:s.vars=[])
  (hfn:s.fn H ds=({results:=[.lit (.bool true)],args:=ds}:Left H))
  (hW:DataW.Whole enc P f.params.toList s.vars false W args.toList ds [] before) (hb:ag W W'):s.post enc P f false true false false W args (.bool true) W':=by
 have hW':=hW;obtain⟨p,q,hA,hV,rfl,hfz,hnd⟩:=hW;have hlt:=hW'.lt;rw[hv]at hV;obtain⟨_,rfl⟩:=trodVars_none hV
 have hpt:∀t∈f.params.toList,P.readableRec t=true∧t<P.types.size:=fun t ht=>by
  have:=List.all_eq_true.1 hp t ht;simpa using this
 refine O6 (pa:=p) (pv:=[]) (gs:=[]) hW' ?_ ?_ ?_ rfl hb.below ?_
 ·intro b sp hd
  rw[hres,List.append_nil,hfn];exact trodAll_mk1 (shut_bool htb _)
 ·intro sp hs
  rw[List.append_nil,hfn];exact FV hl hb.below hpt hA (fun x hx=>hlt x (List.mem_append_left _ hx)) (fun x hx=>hs x (List.mem_append_left _ hx))
 ·intro sp hs
  rw[hv,List.append_nil,hfn];rfl
 ·exact ok_one (f:=f) (t:=tb) hres rfl (okWide_bool_mk htb _)
end
end
section
open Go.RowKit
section
variable {P:Program} {ops:Array Oper} {md:Region.Mode} {C:World→Prop}
structure Closed(md:Region.Mode)(ops:Array Oper)(listed:Array Bool):Prop where
 size:listed.size=ops.size
 closed:∀j oj,ops[j]?=some oj→listed.getD j false=true→∀e∈oj.after,Region.binds md e=true→listed.getD e.on false=true
theorem Closed.put{i:Nat}{listed:Array Bool}(inv:Closed md ops listed)(hi:i∈Region.ready md ops listed):Closed md ops (listed.setIfInBounds i true):=by
 obtain⟨_,oi,hoi,hall⟩:=mem_ready.1 hi;refine⟨by simp[inv.size],fun j oj hj hl e he hb=>?_⟩
 by_cases hij:i=j
 ·subst hij
  have:oj=oi:=Option.some.inj (hj.symm.trans hoi);subst this;exact getD_set_true (hall e he hb)
 ·rw[getD_set_ne false hij]at hl
  exact getD_set_true (inv.closed j oj hj hl e he hb)
def PG(md:Region.Mode)(ops:Array Oper):List Nat→Option Nat→Bool
 |[],_=>true
 |q::qs,t=>(qs.any (fun j=>Region.waitsFor md ops j q)||(match t with|some t=>Region.waitsFor md ops t q|none=>true))&&PG md ops qs t
def qi(md:Region.Mode)(ops:Array Oper)(qs:List Nat)(t:Option Nat)(listed:Array Bool):Bool:=
 (List.range ops.size).all (fun u=>listed.getD u false||qs.contains u||t==some u||(List.range ops.size).any (fun v=>Region.waitsFor md ops u v&&!listed.getD v false&&!qs.contains v))
 &&PG md ops qs t
theorem NN{t:Nat}{listed:Array Bool}(inv:Closed md ops listed):∀(qs:List Nat),PG md ops qs (some t)=true→(∃q∈qs,listed.getD q false=false)→∃v,Region.waitsFor md ops t v=true∧listed.getD v false=false
 |[],_,h=>by obtain⟨q,hq,_⟩:=h;cases hq
 |q::qs,hs,h=>by
  simp only[PG,Bool.and_eq_true,Bool.or_eq_true]at hs
  by_cases hr:∃q∈qs,listed.getD q false=false
  ·exact NN inv qs hs.2 hr
  ·obtain⟨x,hx,hxl⟩:=h
   have hxq:x=q:=by
    rcases List.mem_cons.1 hx with h1|h1
    ·exact h1
    ·exact absurd ⟨x,h1,hxl⟩ hr
   subst hxq
   rcases hs.1 with h1|h1
   ·obtain⟨j,hj,hw⟩:=List.any_eq_true.1 h1
    obtain⟨oj,hoj,e,he,hb,hon⟩:=Region.waitsFor_spec hw;cases hl:listed.getD j false with
    |true=>
     have h2:=inv.closed j oj hoj hl e he hb;rw[hon,hxl]at h2;cases h2
    |false=>exact absurd ⟨j,hj,hl⟩ hr
   ·exact⟨x,h1,hxl⟩
theorem JB{u v:Nat}{listed:Array Bool}(hu:u∈Region.ready md ops listed)(hw:Region.waitsFor md ops u v=true):listed.getD v false=true:=by
 obtain⟨_,ou,hou,hall⟩:=mem_ready.1 hu;obtain⟨o',ho',e,he,hb,hon⟩:=Region.waitsFor_spec hw;have:o'=ou:=Option.some.inj (ho'.symm.trans hou);subst this;have:=hall e he hb
 rwa [hon]at this
theorem CO{qs:List Nat}{t:Option Nat}{eH listed:Array Bool}(h:qi md ops qs t eH=true)(inv:Closed md ops listed)
  (h1:∀j,eH.getD j false=true→listed.getD j false=true) (h2:∀j,listed.getD j false=true→eH.getD j false=true∨j∈qs)
  (hq:∃q∈qs,listed.getD q false=false):∀u∈Region.ready md ops listed,u∈qs:=by
 intro u hu;simp only[qi,Bool.and_eq_true]at h;obtain⟨hun,ou,hou,_⟩:=mem_ready.1 hu;have hlt:u<ops.size:=(Array.getElem?_eq_some_iff.1 hou).1;have hx:=List.all_eq_true.1 h.1 u (List.mem_range.2 hlt);simp only[Bool.or_eq_true]at hx
 rcases hx with((hx|hx)|hx)|hx
 ·have:=h1 u hx
  rw[getD_both hun]at this;cases this
 ·simpa using hx
 ·have ht:t=some u:=by simpa using hx
  subst ht;obtain⟨v,hw,hv⟩:=NN inv qs h.2 hq;rw[JB hu hw]at hv;cases hv
 ·obtain⟨v,hv,hx⟩:=List.any_eq_true.1 hx
  simp only[Bool.and_eq_true,Bool.not_eq_true']at hx;have hl:=JB hu hx.1.1
  rcases h2 v hl with h3|h3
  ·rw[hx.1.2]at h3;cases h3
  ·simp[h3]at hx
def Gu(P:Program)(md:Region.Mode)(ops:Array Oper)(C:World→Prop)(qs:List Nat)(L:Array Bool→Act→Prop):Nat→Array Bool→Act→Prop
 |0,listed,a=>L listed a
 |f+1,listed,a=>Region.ready md ops listed≠[]∧∀i∈Region.ready md ops listed,i∈qs∧qOp P ops C i (Gu P md ops C qs L f (listed.setIfInBounds i true)) a
theorem xX{qs:List Nat}{g:Nat}{L:Array Bool→Act→Prop}{Q':Exit→Act→World→Prop}(hL:∀listed a w,C w→L listed a→wpAny P md ops Q' g listed a w):
  ∀(f:Nat) (listed:Array Bool) (a:Act) (w:World),C w→Gu P md ops C qs L f listed a→wpAny P md ops Q' (f+g) listed a w
 |0,listed,a,w,hC,h=>by rw[Nat.zero_add];exact hL _ _ _ hC h
 |f+1,listed,a,w,hC,h=>by
  rw[show f+1+g=(f+g)+1 by omega];exact⟨fun h0=>absurd h0 h.1,fun i hi=>wpOp_of_qOp hC (fun a' w' hC' h'=>xX hL f _ a' w' hC' h') (h.2 i hi).2⟩
structure nC(md:Region.Mode)(ops:Array Oper)(qs:List Nat)(eH listed:Array Bool):Prop where
 closed:Closed md ops listed
 sub:∀j,eH.getD j false=true→listed.getD j false=true
 sup:∀j,listed.getD j false=true→eH.getD j false=true∨j∈qs
theorem nC.put{qs:List Nat}{eH listed:Array Bool}{i:Nat}(inv:nC md ops qs eH listed)(hi:i∈Region.ready md ops listed)(hq:i∈qs):nC md ops qs eH (listed.setIfInBounds i true):=
 ⟨inv.closed.put hi,fun j hj=>getD_set_true (inv.sub j hj),fun j hj=>by
  by_cases hij:i=j
  ·subst hij;exact .inr hq
  ·rw[getD_set_ne false hij]at hj;exact inv.sup j hj⟩
theorem Qm{qs:List Nat}{t:Option Nat}{eH:Array Bool}{i:Nat}{oi:Oper}{v:Value}{L:Array Bool→Act→Prop}(hi:ops[i]?=some oi)(hsel:∀(j:Nat) (o:Oper) cs b,ops[j]?=some o→o.op≠.select cs b)
  (hs:qi md ops qs t eH=true) (hin:i∈qs) (hdone:∀listed a,L listed a→∀j∈Region.ready md ops listed,j∉qs):
  ∀(f:Nat) (listed:Array Bool) (a:Act),nC md ops qs eH listed→
   (∀j oj,ops[j]?=some oj→j≠i→listed.getD j true=false→(∀e∈oj.after,Region.binds md e=true→e.on≠i)→oi.apart ops oj=true)→
   i∈Region.ready md ops listed→YieldsIn P ops C oi v a→
   Gu P md ops C qs L f (listed.setIfInBounds i true) (a.put oi.dst v)→Gu P md ops C qs L (f+1) listed a:=by
 intro f
 induction f with
 |zero=>
  intro listed a inv _ hr hy H;have hun:=(mem_ready.1 hr).1;refine⟨fun h=>(by rw[h]at hr;cases hr),fun j hj=>?_⟩;have hjn:=CO hs inv.closed inv.sub inv.sup ⟨i,hin,getD_both hun⟩ j hj;refine⟨hjn,?_⟩
  by_cases hji:j=i
  ·subst hji;exact hy.qOp hi H
  ·exact absurd hjn (hdone _ _ H j (ready_mono hj hji))
 |succ f ih=>
  intro listed a inv hfree hr hy H;have hun:=(mem_ready.1 hr).1;refine⟨fun h=>(by rw[h]at hr;cases hr),fun j hj=>?_⟩;have hjn:=CO hs inv.closed inv.sub inv.sup ⟨i,hin,getD_both hun⟩ j hj;refine⟨hjn,?_⟩
  by_cases hji:j=i
  ·subst hji;exact hy.qOp hi H
  ·have h1:=(H.2 j (ready_mono hj hji)).2
   obtain⟨hjun,oj,hoj,hall⟩:=mem_ready.1 hj
   have hnot:∀e∈oj.after,Region.binds md e=true→e.on≠i:=fun e he hb heq=>by
    have h1:=hall e he hb;rw[heq,getD_both hun]at h1;cases h1
   have h2:=qOp_put hoj (hfree j oj hoj hji hjun hnot) (fun cs b=>hsel i oi cs b hi) (fun cs b=>hsel j oj cs b hoj) hy h1
   have hfree':∀k ok,ops[k]?=some ok→k≠i→(listed.setIfInBounds j true).getD k true=false→
     (∀e∈ok.after,Region.binds md e=true→e.on≠i)→oi.apart ops ok=true:=fun k ok hk hki hun hno=>by
    refine hfree k ok hk hki ?_ hno
    by_cases hjk:j=k
    ·subst hjk;exact hjun
    ·rw[getD_set_ne true hjk]at hun;exact hun
   refine qOp_mono (fun a' h3=>ih (listed.setIfInBounds j true) a' (inv.put hj hjn) hfree' (ready_mono hr (Ne.symm hji)) h3.1 ?_) h2;rw[Array.setIfInBounds_comm _ _ hji];exact h3.2
def jv:List Nat→Array Bool→Array Bool
 |[],x=>x
 |k::l,x=>jv l (x.setIfInBounds k true)
def J6(md:Region.Mode)(ops:Array Oper):List Nat→Array Bool→Bool
 |[],_=>true
 |k::l,listed=>(Region.ready md ops listed).contains k&&Region.free md ops listed k&&J6 md ops l (listed.setIfInBounds k true)
def pick(l:List Oper):List Nat→List Oper
 |[]=>[]
 |k::r=>match l[k]? with
  |some o=>o::pick l r
  |none=>pick l r
theorem xY{l0:List Oper}{qs:List Nat}{t:Option Nat}{eH:Array Bool}{Lq:Act→Prop}{fin:Array Bool}(hsel:Region.noSelect l0.toArray=true)(hs:qi md l0.toArray qs t eH=true)
  (hfin:∀j∈Region.ready md l0.toArray fin,j∉qs):
  ∀(l:List Nat) (listed:Array Bool) (a:Act),(∀k∈l,k∈qs)→nC md l0.toArray qs eH listed→J6 md l0.toArray l listed=true→jv l listed=fin→
  wpQuiet P l0.toArray C Lq (pick l0 l) a→Gu P md l0.toArray C qs (fun listed' a'=>listed'=fin∧Lq a') l.length listed a
 |[],listed,a,_,_,_,hf,h=>⟨hf,h⟩
 |k::l,listed,a,hq,inv,hB,hf,h=>by
  simp only[J6,Bool.and_eq_true]at hB;obtain⟨⟨hr,hfr⟩,hB'⟩:=hB;have hr':k∈Region.ready md l0.toArray listed:=by simpa using hr
  obtain⟨_,o,ho,_⟩:=mem_ready.1 hr';have ho':l0[k]?=some o:=by simpa using ho
  have hpick:pick l0 (k::l)=o::pick l0 l:=by simp[pick,ho']
  rw[hpick]at h;have hst:qOp P l0.toArray C k (wpQuiet P l0.toArray C Lq (pick l0 l)) a:=by unfold qOp;rw[ho];exact h
  obtain⟨v,hy,hK⟩:=yieldsIn_of_qOp ho hst;have hkq:=hq k (by simp)
  exact Qm ho (Region.noSelect_spec hsel) hs hkq (fun listed' a' hL=>by rw[hL.1];exact hfin) l.length listed a inv (Region.free_spec ho hfr) hr' hy
   (xY hsel hs hfin l _ _ (fun x hx=>hq x (by simp[hx])) (inv.put hr' hkq) hB' hf hK)
theorem BF{qs:List Nat}{eH:Array Bool}:∀(l:List Nat) (listed:Array Bool),(∀k∈l,k∈qs)→nC md ops qs eH listed→J6 md ops l listed=true→nC md ops qs eH (jv l listed)
 |[],_,_,inv,_=>inv
 |k::l,listed,hq,inv,hB=>by
  simp only[J6,Bool.and_eq_true]at hB;exact BF l _ (fun x hx=>hq x (by simp[hx])) (inv.put (by simpa using hB.1.1) (hq k (by simp))) hB.2
def zH(md:Region.Mode)(ops:Array Oper):List (List Nat×Nat)→List Nat→Array Bool→Bool
 |[],last,listed=>qi md ops last none listed&&J6 md ops last listed&&(Region.ready md ops (jv last listed)).isEmpty
 |(qs,t)::bU,last,listed=>qi md ops qs (some t) listed&&J6 md ops qs listed&&decide (Region.ready md ops (jv qs listed)=[t])&&!qs.contains t&&
   zH md ops bU last ((jv qs listed).setIfInBounds t true)
def CP:List (List Nat×Nat)→List Nat→Nat
 |[],last=>last.length
 |(qs,_)::bU,last=>qs.length+(CP bU last+1)
def tY(P:Program)(l:List Oper)(Q:Exit→Act→World→Prop):List (List Nat×Nat)→List Nat→Act→World→Prop
 |[],last,a,w=>wpQuiet P l.toArray (fun w'=>∃n,w'=w.drewN n) (fun a'=>∀w',(∃n,w'=w.drewN n)→Q .normal a' w') (pick l last) a
 |(qs,t)::bU,last,a,w=>wpQuiet P l.toArray (fun w'=>∃n,w'=w.drewN n)
   (fun a'=>∀w',(∃n,w'=w.drewN n)→wpList P l.toArray (Exit.then (tY P l Q bU last) Q) (pick l [t]) a' w') (pick l qs) a
theorem jD{l:List Oper}{t:Nat}{o:Oper}{K:Act→World→Prop}{Q:Exit→Act→World→Prop}{a:Act}{w:World}(ho:l.toArray[t]?=some o)
  (h:wpList P l.toArray (Exit.then K Q) (pick l [t]) a w):wpOp P l.toArray Q t K a w:=by
 have ho':l[t]?=some o:=by simpa using ho
 have hp:pick l [t]=[o]:=by simp[pick,ho']
 rw[hp]at h;unfold wpOp;rw[ho];exact h
theorem FW{l:List Oper}{Q:Exit→Act→World→Prop}(hsel:Region.noSelect l.toArray=true):∀(bU:List (List Nat×Nat)) (last:List Nat) (listed:Array Bool) (a:Act) (w w0:World),
  Closed md l.toArray listed→zH md l.toArray bU last listed=true→(∃n,w=w0.drewN n)→tY P l Q bU last a w0→wpAny P md l.toArray Q (CP bU last) listed a w
 |[],last,listed,a,w,w0,inv,hB,hC,h=>by
  simp only[zH,Bool.and_eq_true,List.isEmpty_iff]at hB;obtain⟨⟨hs,hl⟩,hr⟩:=hB;have hz:nC md l.toArray last listed listed:=⟨inv,fun _ h=>h,fun _ h=>.inl h⟩;have:=xY (P:=P) (C:=fun w'=>∃n,w'=w0.drewN n) (fin:=jv last listed) (Lq:=fun a'=>∀w',(∃n,w'=w0.drewN n)→Q .normal a' w') hsel hs (by rw[hr];simp) last listed a (fun _ h=>h) hz hl rfl h;refine xX (g:=0) (fun listed' a' w' hC' hL=>?_) last.length listed a w hC this;exact wpAny_done (by rw[hL.1];exact hr) (hL.2 w' hC') 0
 |(qs,t)::bU,last,listed,a,w,w0,inv,hB,hC,h=>by
  simp only[zH,Bool.and_eq_true,decide_eq_true_eq,Bool.not_eq_true']at hB;obtain⟨⟨⟨⟨hs,hl⟩,hr⟩,ht⟩,hB'⟩:=hB;have hz:nC md l.toArray qs listed listed:=⟨inv,fun _ h=>h,fun _ h=>.inl h⟩;have hz':=BF qs listed (fun _ h=>h) hz hl;have htr:t∈Region.ready md l.toArray (jv qs listed):=by rw[hr];simp
  have htn:t∉qs:=by simpa using ht
  obtain⟨_,ot,hot,_⟩:=mem_ready.1 htr
  have:=xY (P:=P) (C:=fun w'=>∃n,w'=w0.drewN n) (fin:=jv qs listed) (Lq:=fun a'=>∀w',(∃n,w'=w0.drewN n)→wpList P l.toArray (Exit.then (tY P l Q bU last) Q) (pick l [t]) a' w') hsel hs
   (by rw[hr];intro j hj;rw[List.mem_singleton.1 hj];exact htn) qs listed a (fun _ h=>h) hz hl rfl h
  refine xX (g:=CP bU last+1) (fun listed' a' w' hC' hL=>?_) qs.length listed a w hC this;refine wpAny_all (rs:=[t]) (by rw[hL.1];exact hr) (by simp) (fun i hi=>?_);rw[List.mem_singleton.1 hi,hL.1];exact wpOp_mono (fun a'' w'' h''=>FW hsel bU last _ a'' w'' w'' (hz'.closed.put htr) hB' ⟨0,rfl⟩ h'') (jD hot (hL.2 w' hC'))
theorem qB(m j:Nat):(Array.replicate m false).getD j false=false:=by
 rcases Nat.lt_or_ge j m with h|h
 ·simp[h]
 ·simp[h]
theorem kY{id:Nat}{Q:Exit→Act→World→Prop}{a:Act}{w:World}{l:List Oper}(bU:List (List Nat×Nat))(last:List Nat)(hm:P.follows .mixedOrders=true)
  (hB:(Region.noSelect l.toArray&&decide (CP bU last=l.toArray.size)&&zH .any l.toArray bU last (Array.replicate l.toArray.size false))=true)
  (h:tY P l Q bU last a w):(Code.region id l.toArray true).wp P Q a w:=by
 simp only[Bool.and_eq_true,decide_eq_true_eq]at hB;obtain⟨⟨hsel,hn⟩,hB⟩:=hB;refine wp_region_any hm ?_;rw[←hn];rw[←hn]at hB;exact FW hsel bU last _ a _ w ⟨by simp[hn],fun j oj _ hl=>by rw[qB]at hl;cases hl⟩ hB ⟨1,rfl⟩ h
end
section
variable {P:Program} {ops:Array Oper} {md:Region.Mode} {C:World→Prop}
def vR(Cl:World→World→Prop)(P:Program)(l:List Oper)(Q:Exit→Act→World→Prop):List (List Nat×Nat)→List Nat→Act→World→Prop
 |[],last,a,w=>wpQuiet P l.toArray (fun w'=>Cl w w') (fun a'=>∀w',Cl w w'→Q .normal a' w') (pick l last) a
 |(qs,t)::bU,last,a,w=>wpQuiet P l.toArray (fun w'=>Cl w w')
   (fun a'=>∀w',Cl w w'→wpList P l.toArray (Exit.then (vR Cl P l Q bU last) Q) (pick l [t]) a' w') (pick l qs) a
theorem DY{Cl:World→World→Prop}(hrefl:∀w,Cl w w){l:List Oper}{Q:Exit→Act→World→Prop}(hsel:Region.noSelect l.toArray=true):∀(bU:List (List Nat×Nat)) (last:List Nat) (listed:Array Bool) (a:Act) (w w0:World),
  Closed md l.toArray listed→zH md l.toArray bU last listed=true→Cl w0 w→vR Cl P l Q bU last a w0→wpAny P md l.toArray Q (CP bU last) listed a w
 |[],last,listed,a,w,w0,inv,hB,hC,h=>by
  simp only[zH,Bool.and_eq_true,List.isEmpty_iff]at hB;obtain⟨⟨hs,hl⟩,hr⟩:=hB;have hz:nC md l.toArray last listed listed:=⟨inv,fun _ h=>h,fun _ h=>.inl h⟩;have:=xY (P:=P) (C:=fun w'=>Cl w0 w') (fin:=jv last listed) (Lq:=fun a'=>∀w',Cl w0 w'→Q .normal a' w') hsel hs (by rw[hr];simp) last listed a (fun _ h=>h) hz hl rfl h;refine xX (g:=0) (fun listed' a' w' hC' hL=>?_) last.length listed a w hC this;exact wpAny_done (by rw[hL.1];exact hr) (hL.2 w' hC') 0
 |(qs,t)::bU,last,listed,a,w,w0,inv,hB,hC,h=>by
  simp only[zH,Bool.and_eq_true,decide_eq_true_eq,Bool.not_eq_true']at hB;obtain⟨⟨⟨⟨hs,hl⟩,hr⟩,ht⟩,hB'⟩:=hB;have hz:nC md l.toArray qs listed listed:=⟨inv,fun _ h=>h,fun _ h=>.inl h⟩;have hz':=BF qs listed (fun _ h=>h) hz hl;have htr:t∈Region.ready md l.toArray (jv qs listed):=by rw[hr];simp
  have htn:t∉qs:=by simpa using ht
  obtain⟨_,ot,hot,_⟩:=mem_ready.1 htr
  have:=xY (P:=P) (C:=fun w'=>Cl w0 w') (fin:=jv qs listed) (Lq:=fun a'=>∀w',Cl w0 w'→wpList P l.toArray (Exit.then (vR Cl P l Q bU last) Q) (pick l [t]) a' w') hsel hs
   (by rw[hr];intro j hj;rw[List.mem_singleton.1 hj];exact htn) qs listed a (fun _ h=>h) hz hl rfl h
  refine xX (g:=CP bU last+1) (fun listed' a' w' hC' hL=>?_) qs.length listed a w hC this;refine wpAny_all (rs:=[t]) (by rw[hL.1];exact hr) (by simp) (fun i hi=>?_);rw[List.mem_singleton.1 hi,hL.1];exact wpOp_mono (fun a'' w'' h''=>DY hrefl hsel bU last _ a'' w'' w'' (hz'.closed.put htr) hB' (hrefl _) h'') (jD hot (hL.2 w' hC'))
theorem Lh(Cl:World→World→Prop)(hrefl:∀w,Cl w w)(ag2:∀w,Cl w (w.drewN 1)){id:Nat}{Q:Exit→Act→World→Prop}{a:Act}{w:World}{l:List Oper}(bU:List (List Nat×Nat))(last:List Nat)(hm:P.follows .mixedOrders=true)
  (hB:(Region.noSelect l.toArray&&decide (CP bU last=l.toArray.size)&&zH .any l.toArray bU last (Array.replicate l.toArray.size false))=true)
  (h:vR Cl P l Q bU last a w):(Code.region id l.toArray true).wp P Q a w:=by
 simp only[Bool.and_eq_true,decide_eq_true_eq]at hB;obtain⟨⟨hsel,hn⟩,hB⟩:=hB;refine wp_region_any hm ?_;rw[←hn];rw[←hn]at hB;exact DY hrefl hsel bU last _ a _ w ⟨by simp[hn],fun j oj _ hl=>by rw[qB]at hl;cases hl⟩ hB (ag2 w) h
end
def mE(w w':World):Prop:=∃p:Regrown,w'=Go.Sort.grow (redrawn w p.d) p.os
theorem mE.refl(w:World):mE w w:=⟨⟨w.drawn,#[]⟩,by rw[Go.Sort.grow_empty];rfl⟩
theorem mE.drew(w:World):mE w (w.drewN 1):=⟨⟨w.drawn+1,#[]⟩,by rw[Go.Sort.grow_empty];rfl⟩
theorem oP{P:Program}{id:Nat}{Q:Exit→Act→World→Prop}{a:Act}{w:World}{l:List Oper}(bU:List (List Nat×Nat))(last:List Nat)(hm:P.follows .mixedOrders=true)
  (hB:(Region.noSelect l.toArray&&decide (CP bU last=l.toArray.size)&&zH .any l.toArray bU last (Array.replicate l.toArray.size false))=true)
  (h:vR (fun w w'=>∃p:Regrown,w'=Go.Sort.grow (redrawn w p.d) p.os) P l Q bU last a w):(Code.region id l.toArray true).wp P Q a w:=
 Lh _ mE.refl mE.drew bU last hm hB h
theorem PI{P:Program}{f:Nat}{args:Array Value}{v:Value}(h:∀w,Calls P f args w fun e w'=>e=.returned v∧ag w w')(W:World):
  ∀d os,Calls P f args (Go.Sort.grow (redrawn W d) os) fun e w''=>e=.returned v∧∃p:Regrown,w''=Go.Sort.grow (redrawn W p.d) p.os:=
 fun _ _=>Calls.regrown_of ((h _).mono fun _ _ h=>⟨h.1,h.2.below⟩)
def jw(p:Prop):Prop:=p
theorem jw.mk{p:Prop}(h:jw p):p:=h
theorem jw.go{p:Prop}(h:p):jw p:=h
def Src(w:World)(size:Nat)(y:Value)(m:Nat)(news:List Value):Prop:=
 ∃A c,y=.slice A m c∧news.length=m*size∧((A=none∧m=0∧news=[])∨∃ad,A=some ad∧∀j u,news[j]?=some u→w.cell? (ad.add j)=some u)
theorem Src.fresh{w w':World}{size m:Nat}{y:Value}{news:List Value}(h:Src w size y m news)(hf:ag w w'):Src w' size y m news:=by
 obtain⟨A,c,h1,h2,h3⟩:=h;refine⟨A,c,h1,h2,h3.imp id ?_⟩;rintro⟨ad,ha,hc⟩;exact⟨ad,ha,fun j u hu=>hf.cell (hc j u hu) (fun h=>h)⟩
theorem Src.uT{w:World}{g:Nat}{t:TypeId}{cs:Array Value}{size m c:Nat}(h:af w g t cs)(hs:cs.size=m*size):Src w size (.slice (some ⟨g,0,none⟩) m c) m cs.toList:=
 ⟨_,_,rfl,by simpa using hs,.inr ⟨_,rfl,fun j u hu=>by rw[Addr.add_mid,Nat.zero_add,h.cell];simpa using hu⟩⟩
section
variable {P:Program} (w:World)
theorem MP(base:Nat)(t ty e:TypeId)(i:TypeInfo)(z:Value)(size bytes:Nat)(ht:P.underlying t=some (.slice e))(hi:P.info? e=some i)(hz:i.zero=some z)
  (hsize:i.size=size) (hby:i.bytes=bytes) (hzs:z.cells.size=size) (hsz:0<size)
  (v:Value) (n:Nat) (xs:List Value) (hown:w.ownsRow base e size v n xs) (y:Value) (m:Nat) (news:List Value) (hsrc:Src w size y m news) (h1:∀u∈news,u.oneCell'=true)
  (h63:n+m≤maxLen) (hbytes:(n+m)*bytes≤140737488355328) (hbase:base≤w.heap.size):
  ∃v' w',(Builtin.append_ #[t,t] ty #[v,y]).run P w=.ok v' w'∧w'.ownsRow base e size v' (n+m) (xs++news)∧w.grownBy w' v.ownBlock∧(v'.ownBlock=v.ownBlock∨v'.ownBlock=some w.heap.size):=by
 obtain⟨A,c,rfl,hl,hA⟩:=hsrc
 rcases hA with⟨rfl,rfl,rfl⟩|⟨ad,rfl,hc⟩
 ·refine⟨v,w,?_,by simpa using hown,World.grownBy.refl w _,.inl rfl⟩
  rcases hown.2 with⟨rfl,rfl⟩|⟨g,cap,cur,rfl,_,_,hnc,_⟩
  ·simp[Builtin.append_,run_underlying ht,sizeOf,typeInfo,hi,Builtin.lenOf,Builtin.firstCells]
  ·simp[Builtin.append_,run_underlying ht,sizeOf,typeInfo,hi,Builtin.lenOf,Builtin.firstCells,hnc,storeCells]
 ·obtain⟨v',w',hrun,h2,h3,_,h5⟩:=run_append_own_at (P:=P) w base t ty e i z size bytes ht hi hz hsize hby hzs hsz v n xs hown ad m c news hl hc h1 h63 hbytes hbase
  exact⟨v',w',hrun,h2,h3,h5⟩
theorem O7{o:Oper}{a:Act}{K:Act→World→Prop}{Q:Exit→Act→World→Prop}(s x:Operand)(t:TypeId)
  (ho:o.op=.call {callee:=.builtin .append,args:=#[s,x],argTypes:=#[t,t]})
  (base:Nat) (e:TypeId) (i:TypeInfo) (z:Value) (size bytes:Nat) (ht:P.underlying t=some (.slice e)) (hi:P.info? e=some i) (hz:i.zero=some z)
  (hsize:i.size=size) (hby:i.bytes=bytes) (hzs:z.cells.size=size) (hsz:0<size)
  (v:Value) (n:Nat) (xs:List Value) (hs:a.eval s=v) (hown:w.ownsRow base e size v n xs)
  (y:Value) (m:Nat) (news:List Value) (hx:a.eval x=y) (hsrc:Src w size y m news) (h1:∀u∈news,u.oneCell'=true)
  (h63:n+m≤maxLen) (hbytes:(n+m)*bytes≤140737488355328) (hbase:base≤w.heap.size)
  (h:∀v' w',w'.ownsRow base e size v' (n+m) (xs++news)→w.grownBy w' v.ownBlock→(v'.ownBlock=v.ownBlock∨v'.ownBlock=some w.heap.size)→K (a.put o.dst v') w'):o.wp P a w K Q:=by
 obtain⟨v',w',hrun,h2,h3,h4⟩:=MP (P:=P) w base t o.type e i z size bytes ht hi hz hsize hby hzs hsz v n xs hown y m news hsrc h1 h63 hbytes hbase;unfold Oper.wp execOp;simp only[ho,resolve,invoke,builtin,Sem.run_bind,Sem.run_pure,Result.andThen_ok,List.map_toArray,List.map_cons,List.map_nil,hs,hx,hrun];exact h v' w' h2 h3 h4
theorem iL{ops:Array Oper}{rest:List Oper}{o:Oper}{a:Act}{Q:Exit→Act→World→Prop}(hgd:o.guard=none)(s x:Operand)(t:TypeId)
  (ho:o.op=.call {callee:=.builtin .append,args:=#[s,x],argTypes:=#[t,t]})
  (base:Nat) (e:TypeId) (i:TypeInfo) (z:Value) (size bytes:Nat) (ht:P.underlying t=some (.slice e)) (hi:P.info? e=some i) (hz:i.zero=some z)
  (hsize:i.size=size) (hby:i.bytes=bytes) (hzs:z.cells.size=size) (hsz:0<size)
  (v:Value) (n:Nat) (xs:List Value) (hs:a.eval s=v) (hown:w.ownsRow base e size v n xs)
  (y:Value) (m:Nat) (news:List Value) (hx:a.eval x=y) (hsrc:Src w size y m news) (h1:∀u∈news,u.oneCell'=true)
  (h63:n+m≤maxLen) (hbytes:(n+m)*bytes≤140737488355328) (hbase:base≤w.heap.size)
  (h:∀v' w',w'.ownsRow base e size v' (n+m) (xs++news)→w.grownBy w' v.ownBlock→(v'.ownBlock=v.ownBlock∨v'.ownBlock=some w.heap.size)→wpList P ops Q rest (a.put o.dst v') w'):wpList P ops Q (o::rest) a w:=
 wpList_plain hgd fun _ hK=>O7 w s x t ho base e i z size bytes ht hi hz hsize hby hzs hsz v n xs hs hown y m news hx hsrc h1 h63 hbytes hbase fun v' w' h2 h3 h4=>hK _ _ (h v' w' h2 h3 h4)
end
end
end Go.Proofs.YtcgbccfpcgaikaaGreatDoor
