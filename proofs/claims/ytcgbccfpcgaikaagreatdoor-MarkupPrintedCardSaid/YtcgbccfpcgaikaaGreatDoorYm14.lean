/- Part 14 of 46 of a proof. No condition. -/
import Derived.Test.YtcgbccfpcgaikaaGreatDoorYm13
set_option maxRecDepth 100000
set_option maxHeartbeats 1000000
namespace Go.Proofs.YtcgbccfpcgaikaaGreatDoor
section
open Go.RowKit
attribute [local go_sem] Oper.semAt_some
structure BR(w:World)(B:Nat)(pre:List Lx.aB)(v:Value)(W:World):Prop where
 toks:af W w.heap.size 38 #[v]
 at_:af W (w.heap.size+1) 3 #[.int .i64 0]
 err:af W (w.heap.size+1+1) 28 #[.int .i64 0]
 own:W.ownsRow B 115 4 v pre.length (pre.flatMap kZ)
 fresh:ag w W
theorem BR.touch{S:Nat→Prop}{w:World}{B:Nat}{pre:List Lx.aB}{v:Value}{W W':World}(h:BR w B pre v W)(ht:Touch S W W')(hS:∀k,S k→w.heap.size+1+1<k∧k<B):BR w B pre v W':=
 ⟨ht.blk h.toks (fun hk=>by have:=hS _ hk;omega),ht.blk h.at_ (fun hk=>by have:=hS _ hk;omega),ht.blk h.err (fun hk=>by have:=hS _ hk;omega),
  aQ h.own ht (fun k hk hs=>by have:=(h.own.lt k hk).1;have:=hS _ hs;omega),h.fresh.trans' ht (fun k hk=>.inr (by have:=hS _ hk;omega))⟩
theorem UB{W:World}{g:Nat}{t:TypeId}{cs:Array Value}(h:af W g t cs):∀j u,cs.toList[j]?=some u→W.cell? ((⟨g,0,none⟩:Addr).add j)=some u:=by
 intro j u hu;rw[Addr.add_mid,Nat.zero_add,h.cell];simpa using hu
def Oa(s:ByteArray)(w:World)(e:Ending)(w':World):Prop:=
 ag w w'∧match(Lx.jr s.data.toList).2 with
  |none=>∃v,e=.returned (.tuple #[v,.int .i64 0,.int .i64 0])∧w'.ownsRow w.heap.size 115 4 v (Lx.jr s.data.toList).1.length ((Lx.jr s.data.toList).1.flatMap kZ)
  |some (p,er)=>e=.returned (.tuple #[.slice none 0 0,.int .i64 p,.int .i64 er])
theorem Q6{w W:World}{B D:Nat}{pre:List Lx.aB}{v u:Value}{p e:Int}(h:BR w B pre v W)(hD:w.heap.size+1+1<D)(hd:W.heap[D]?=some (.deferred (some []))):
  (((W.setCell ⟨w.heap.size,0,none⟩ u).setCell ⟨w.heap.size+1,0,none⟩ (.int .i64 p)).setCell ⟨w.heap.size+1+1,0,none⟩ (.int .i64 e)).heap[D]?=some (.deferred (some []))∧
  ∃WF,(((W.setCell ⟨w.heap.size,0,none⟩ u).setCell ⟨w.heap.size+1,0,none⟩ (.int .i64 p)).setCell ⟨w.heap.size+1+1,0,none⟩ (.int .i64 e)).putObj D (.deferred none)=WF∧
   WF.cell? ⟨w.heap.size,0,none⟩=some u∧WF.cell? ⟨w.heap.size+1,0,none⟩=some (.int .i64 p)∧WF.cell? ⟨w.heap.size+1+1,0,none⟩=some (.int .i64 e)∧
   ag w WF∧Touch (fun k=>k=w.heap.size∨k=w.heap.size+1∨k=w.heap.size+1+1∨k=D) W WF:=by
 have t1:=(((M (fun k=>k=w.heap.size∨k=w.heap.size+1∨k=w.heap.size+1+1) W).setCell (p:=⟨w.heap.size,0,none⟩) (.inl (.inl rfl)) u).setCell (p:=⟨w.heap.size+1,0,none⟩) (.inl (.inr (.inl rfl))) (.int .i64 p)).setCell (p:=⟨w.heap.size+1+1,0,none⟩) (.inl (.inr (.inr rfl))) (.int .i64 e);have hlt:D<W.heap.size:=(Array.getElem?_eq_some_iff.1 hd).1;have t2:=yo (((W.setCell ⟨w.heap.size,0,none⟩ u).setCell ⟨w.heap.size+1,0,none⟩ (.int .i64 p)).setCell ⟨w.heap.size+1+1,0,none⟩ (.int .i64 e)) D (.deferred none);have b1:=((h.toks.put 0 u).far (p:=⟨w.heap.size+1,0,none⟩) (by simp) (.int .i64 p)).far (p:=⟨w.heap.size+1+1,0,none⟩) (by simp;omega) (.int .i64 e);have b2:=((h.at_.far (p:=⟨w.heap.size,0,none⟩) (by simp) u).put 0 (.int .i64 p)).far (p:=⟨w.heap.size+1+1,0,none⟩) (by simp) (.int .i64 e);have b3:=((h.err.far (p:=⟨w.heap.size,0,none⟩) (by simp;omega) u).far (p:=⟨w.heap.size+1,0,none⟩) (by simp) (.int .i64 p)).put 0 (.int .i64 e);have t3:=t1.mono (S':=fun k=>k=w.heap.size∨k=w.heap.size+1∨k=w.heap.size+1+1∨k=D) (fun k hk=>by omega);refine⟨(t1.block D hlt (by omega)).trans hd,_,rfl,?_,?_,?_,?_,?_⟩
 ·exact(t2.blk b1 (by omega)).cell 0
 ·exact(t2.blk b2 (by omega)).cell 0
 ·exact(t2.blk b3 (by omega)).cell 0
 ·exact h.fresh.trans' (t3.trans (t2.mono (fun k hk=>by omega))) (fun k hk=>.inr (by omega))
 ·exact t3.trans (t2.mono (fun k hk=>by omega))
theorem Xd(s:ByteArray)(w:World)(hm:s.size≤140737488355328)(hcount:(Lx.jr s.data.toList).1.length≤8000):
  Calls Tryz.prog 30 #[.string s] w (Oa s w):=by
 obtain⟨i0,hi,hz0,hz1,hz2⟩:=info_parts aeR;refine callsIn_wide.1 (callsIn_of_wp_marks (F:=Fence.wide) (n:=4) Tryz.func30 rfl trivial ?_ rfl);simp only[Tryz.ntmps30,List.size_toArray,List.length_cons,List.length_nil,Nat.reduceAdd,Nat.reduceSub,Array.replicate_succ,Array.replicate_zero,List.push_toArray,List.append_toArray,List.nil_append,List.cons_append];refine wpIn_wide.2 ?_;go_wp2_with fail
 refine(UA _).mono ?_;rintro e1 w1 ⟨rfl,hf1⟩;have hsz1:=hf1.size;simp only[World.size_alloc]at hsz1;have hT1:=hf1.blk ((af.new w 38 #[.slice none 0 0]).alloc _|>.alloc _) (fun h=>h);have hA1:=hf1.blk ((af.new2 w (.cells #[.slice none 0 0] 38) 3 #[.int .i64 0]).alloc _) (fun h=>h);have hE1:af w1 (w.heap.size+1+1) 28 #[.int .i64 0]:=hf1.blk (by have:=af.new2 (w.alloc (.cells #[.slice none 0 0] 38)) (.cells #[.int .i64 0] 3) 28 #[.int .i64 0];simpa using this) (fun h=>h);have hfw:ag w w1:=(((M (fun _=>False) w).alloc _).alloc _|>.alloc _).trans hf1;have HT1:=hid hT1;have HA1:=hid hA1;have kI:=hid hE1;have Lu:=hid hfw;clear hf1 hT1 hA1 hE1 hfw
 go_wp2_with (refine Kh s rfl _ _ rfl rfl rfl ?_)
 refine(Xc _ _).mono ?_;rintro e2 w2 ⟨rfl,rfl⟩;go_wp2_with fail
 obtain⟨W0,hW0⟩:∃W0,(w1.alloc (.cells (pV s 0 0 0) 110)).alloc (.cells #[.pointer (some ⟨w1.heap.size,0,none⟩)] 106)=W0:=⟨_,rfl⟩;rw[hW0];have hs0:W0.heap.size≤w1.heap.size+2:=by rw[←hW0];simp
 have akV:w1.heap.size+2≤W0.heap.size:=by rw[←hW0];simp
 have hc0:W0.cell? ⟨w1.heap.size+1,0,none⟩=some (.pointer (some ⟨w1.heap.size,0,none⟩)):=by rw[←hW0];exact(af.new2 w1 _ 106 #[.pointer (some ⟨w1.heap.size,0,none⟩)]).cell 0
 have hl0:bu W0 w1.heap.size s 0 0 0:=by rw[←hW0];exact(af.new w1 110 (pV s 0 0 0)).alloc _
 have hi0:BR w (W0.heap.size+2) [] (.slice none 0 0) W0:=by
  rw[←hW0];exact⟨(HT1.out.alloc _).alloc _,(HA1.out.alloc _).alloc _,(kI.out.alloc _).alloc _,World.ownsRow_nil _ _ _ _,(Lu.out.alloc _).alloc _⟩
 refine Pk (L:=w1.heap.size) (c:=w1.heap.size+1) (s:=s) rfl hm (by omega) hc0 hl0 (fun pre W=>∃v,BR w (W0.heap.size+2) pre v W) ?_ ⟨_,hi0⟩ ?_ ?_
 ·rintro pre W W' ⟨v,hv⟩ ht
  exact⟨v,hv.touch ht (fun k hk=>by omega)⟩
 ·rintro pre x W ⟨v,hv⟩ hsz hpre
  have HV:=hid hv;clear hv hc0 hl0 hi0 HT1 HA1 kI Lu hW0;simp only[EX,List.setIfInBounds_toArray,List.set_cons_succ,List.set_cons_zero]
  gi_wp2
  refine⟨((M _ W).alloc _),?_⟩;intro W2 ht2 hs2;have hv2:BR w (W0.heap.size+2) pre v W2:=((HV.out.touch ((M (fun _=>False) W).alloc _) (fun k hk=>hk.elim)).touch ht2 (fun k hk=>by omega));have htk:af W2 W.heap.size 115 #[.int .i64 x.kind,.string ⟨x.text.toArray⟩,.int .i64 x.from_,.int .i64 x.eF]:=ht2.blk (af.new _ _ _) (by omega);have hln:pre.length+1≤(Lx.jr s.data.toList).1.length:=by have:=hpre.length_le;simpa using this
  obtain⟨A,cap,rfl⟩:∃A cap,v=.slice A pre.length cap:=by
   rcases hv2.own.2 with⟨h1,h2⟩|⟨g,cap,cur,h1,_⟩
   ·exact⟨none,0,by rw[h1,h2]⟩
   ·exact⟨_,_,h1⟩
  have b1:((pre.length:Int)==8000)=false:=by rw[beq_eq_false_iff_ne];omega
  have c1:=hv2.toks.cell 0;have f1:=hv2.toks.frozen 0;simp only[List.getElem?_toArray,List.getElem?_cons_zero]at c1;obtain⟨q0,q1,q2,q3,z0,z1,z2,z3,hg⟩:=af.four htk;have hown:=hv2.own;have hTl:=hv2.toks.lt;have HV2:=hid hv2;have nK:=hid htk;have HT2:=hid ht2;have afI:W2.heap.size=W.heap.size+1:=by simpa using hs2
  have HS2:=hid afI;clear hv2 htk ht2 hs2 afI hpre
  gi_wp2_with (gi_at_builtin;refine wpListIn_append_own _ rfl _ _ 38 rfl (W0.heap.size+2) 115 i0 _ 4 40 Tryz.underlying38 hi hz0 hz1 hz2 rfl (by decide) _ _ _ rfl (hown.alloc _) ⟨W2.heap.size,0,none⟩ 1 1 (kZ x) rfl rfl ?c1 ?c2 ?c3 ?c4 ?c5 ?_)
  case c1=>exact UB (cs:=(kZ x).toArray) (af.new W2 115 _)
  case c2=>intro u hu;simp only[kZ,List.mem_cons,List.not_mem_nil,or_false]at hu;rcases hu with rfl|rfl|rfl|rfl<;>rfl
  case c3=>unfold maxLen;omega
  case c4=>omega
  case c5=>have:=HS2.out;simp;omega
  intro v' W3 hown' hgrow _;have ht3:Touch (fun k=>(Value.slice A pre.length cap).ownBlock=some k) W2 W3:=((M _ W2).alloc _).grown hgrow (fun g hg=>.inl hg);have hbl:∀k,(Value.slice A pre.length cap).ownBlock=some k→W0.heap.size+2≤k:=fun k hk=>(hown.lt k hk).1
  have hT3:af W3 w.heap.size 38 #[.slice A pre.length cap]:=ht3.blk HV2.out.toks (fun hk=>by have:=hbl _ hk;omega);have d1:=hT3.cell 0;have e1:=hT3.frozen 0;simp only[List.getElem?_toArray,List.getElem?_cons_zero]at d1
  obtain⟨g,cap',rfl⟩:∃g cap',v'=.slice (some ⟨g,0,none⟩) (pre.length+1) cap':=by
   rcases hown'.2 with⟨_,h0⟩|⟨g,cap',cur,hv,_⟩
   ·omega
   ·exact⟨g,cap',hv⟩
  have hgl:=(hown'.lt g rfl).1;have HO:=hid hown';have HT3:=hid hT3;have HTT:=hid ht3;have Vu:=hid hbl;clear hown' hT3 ht3 hbl hown hgrow
  gi_wp2
  refine⟨?_,?_⟩
  ·refine Touch.setCell ?_ (p:=⟨w.heap.size,0,none⟩) (.inl ⟨by simp;omega,by simp;omega,by simp;omega,by simp;omega⟩) _
   exact HTT.out.mono (fun k hk=>by have:=Vu.out k hk;exact⟨by omega,by omega,by omega,by omega⟩)
  ·refine⟨.slice (some ⟨g,0,none⟩) (pre.length+1) cap',?_,?_,?_,?_,?_⟩
   ·exact HT3.out.put 0 _
   ·exact(HTT.out.blk HV2.out.at_ (fun hk=>by have:=Vu.out _ hk;omega)).far (p:=⟨w.heap.size,0,none⟩) (by simp) _
   ·exact(HTT.out.blk HV2.out.err (fun hk=>by have:=Vu.out _ hk;omega)).far (p:=⟨w.heap.size,0,none⟩) (by simp;omega) _
   ·rw[List.length_append,List.flatMap_append]
    refine aQ (S:=(·=w.heap.size)) ?_ ((M (·=w.heap.size) W3).setCell (p:=⟨w.heap.size,0,none⟩) (.inl rfl) _) (fun k hk hs=>by simp[Value.ownBlock]at hk;omega);simpa using HO.out
   ·exact(HV2.out.fresh.trans' HTT.out (fun k hk=>.inr (by have:=Vu.out k hk;omega))).setCell (p:=⟨w.heap.size,0,none⟩) (.inr (Nat.le_refl _)) _
 ·rintro W ⟨v,hv⟩ hend hd hsz
  obtain⟨a',p',e',hlx,hmn⟩:=hend;obtain⟨g1,g2,g3,g4,f1,f2,f3,aiB⟩:=eD hlx;have c1:=hv.toks.cell 0;have c2:=hv.at_.cell 0;have c3:=hv.err.cell 0;have f4:=hv.toks.frozen 0;have f5:=hv.at_.frozen 0;have f6:=hv.err.frozen 0;have l1:=hv.toks.lt;have l2:=hv.at_.lt;have l3:=hv.err.lt;simp only[List.getElem?_toArray,List.getElem?_cons_zero]at c1 c2 c3;have HV:=hid hv;have HD:=hid hd
  obtain⟨A,cap,rfl⟩:∃A cap,v=.slice A (Lx.jr s.data.toList).1.length cap:=by
   rcases hv.own.2 with⟨h1,h2⟩|⟨g,cap,cur,h1,_⟩
   ·exact⟨none,0,by rw[h1,h2]⟩
   ·exact⟨_,_,h1⟩
  clear hv hd hlx hc0 hl0 hi0 hW0 HT1 HA1 kI Lu;simp only[Exit.inBlock,Exit.then];cases hr:(Lx.jr s.data.toList).2 with
  |none=>
   rw[hr]at hmn;obtain rfl:e'=0:=hmn;have HR:=hid hr;clear hr;generalize hTS:(Lx.jr s.data.toList).1=ts at*;have ZB:=hid hTS;clear hTS;go_wp2_with fail
   obtain⟨hdd,WF,hWF,r1,r2,r3,hfr,htc⟩:=Q6 (u:=.slice A ts.length cap) (p:=0) (e:=0) HV.out (by omega) HD.out;refine⟨by simp,.inl ⟨_,_,rfl,run_takeDeferred (b:=W0.heap.size) (ds:=[]) hdd,?_⟩⟩;rw[hWF];refine⟨.tuple #[.slice A ts.length cap,.int .i64 0,.int .i64 0],by simp[results,Tryz.results30,go_sem,r1,r2,r3],?_⟩;refine⟨hfr,?_⟩;rw[HR.out,ZB.out];refine⟨_,rfl,?_⟩;have ho:=aQ HV.out.own htc (fun k hk hs=>by have:=(HV.out.own.lt k hk).1;omega);exact Gv ho (by omega)
  |some q=>
   obtain⟨p0,e0⟩:=q;rw[hr]at hmn;obtain⟨rfl,rfl⟩:=hmn;have HR:=hid hr;clear hr;have hne:((e0:Int) !=0)=true:=by have:=Lx.NI _ _ _ _ _ HR.out;rw[bne_iff_ne];omega
   go_wp2_with fail
   go_region_held3 (fun w'=>w'.cell? ⟨w1.heap.size,258,none⟩=some (.int .i64 (p0:Int))∧w'.cell? ⟨w1.heap.size,259,none⟩=some (.int .i64 (e0:Int))) (first|(refine⟨?_,?_⟩<;>first|exact(World.cell?_setCell_other _ _ _ _ (by simp)).trans (by assumption)|exact(World.cell?_setCell_other _ _ _ _ (by simp)).trans ((World.cell?_setCell_other _ _ _ _ (by simp)).trans (by assumption))|exact(World.cell?_setCell_other _ _ _ _ (by simp)).trans ((World.cell?_setCell_other _ _ _ _ (by simp)).trans ((World.cell?_setCell_other _ _ _ _ (by simp)).trans (by assumption))))|go_keep) (fail)
   simp only[Exit.then];go_wp2_with fail
   obtain⟨hdd,WF,hWF,r1,r2,r3,hfr,htc⟩:=Q6 (W:=W.drew) (u:=.slice none 0 0) (p:=p0) (e:=e0) (HV.out.touch (S:=fun _=>False) (M _ W).drew (fun k hk=>hk.elim)) (by omega) HD.out;refine⟨by simp,.inl ⟨_,WF,rfl,?_,?_⟩⟩
   ·rw[←hWF];exact run_takeDeferred (b:=W0.heap.size) (ds:=[]) hdd
   refine⟨.tuple #[.slice none 0 0,.int .i64 p0,.int .i64 e0],by simp[results,Tryz.results30,go_sem,r1,r2,r3],?_⟩;refine⟨hfr,?_⟩;rw[HR.out]
end
section
open Go.RowKit
theorem ZC{s:ByteArray}{w:World}{ts:List Lx.aB}(h:Lx.jr s.data.toList=(ts,none))(hm:s.size≤140737488355328)(hc:ts.length≤8000):
  Calls Tryz.prog 30 #[.string s] w fun e w'=>ag w w'∧∃v,e=.returned (.tuple #[v,.int .i64 0,.int .i64 0])∧w'.ownsRow w.heap.size 115 4 v ts.length (ts.flatMap kZ):=by
 have:=Xd s w hm (by rw[h];exact hc);unfold Oa at this;rw[h]at this;exact this
end
end Go.Proofs.YtcgbccfpcgaikaaGreatDoor
