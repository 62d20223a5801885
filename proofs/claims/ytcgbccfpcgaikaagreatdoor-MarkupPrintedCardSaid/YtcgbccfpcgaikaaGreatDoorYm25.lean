/- Part 25 of 46 of a proof. No condition. -/
import Derived.Laws.EntriesVeiled
import Derived.Maps.RangeWalk
import Derived.WideMake
import Derived.Test.YtcgbccfpcgaikaaGreatDoorYm24
set_option maxRecDepth 100000
set_option maxHeartbeats 4000000
namespace Go.Proofs.YtcgbccfpcgaikaaGreatDoor
section
open Go.RowKit
open U (E aJ fJ oq L9 Ff)
attribute [local go_sem] gD stillUpon
theorem Oz{W:World}{a:aJ}{v:Value}(h:gJ W a v)(nm:List UInt8):(fJ a nm).length≤maxLen:=by
 obtain⟨_,_,_,_,h3,_⟩:=h
 have:∀a:aJ,(∀x∈a,x.1.length≤maxLen∧x.2.length≤maxLen)→(fJ a nm).length≤maxLen:=by
  intro a
  induction a with
  |nil=>intro _;exact Nat.zero_le _
  |cons x a ih=>
   intro h;rw[fJ];split
   ·exact(h x (List.mem_cons_self ..)).2
   ·exact ih fun y hy=>h y (List.mem_cons_of_mem _ hy)
 exact this a h3
theorem UK(p k:E)(g o gk ok:Nat)(va vk ua uk:Value)(w:World)(hp:gZ w g o p va vk)(hk:gZ w gk ok k ua uk)(hne:0<p.kids.length)(hn:p.name∈Oy)(had:Ff p k=true):
  Calls Tryz.prog 84 #[.pointer (some ⟨g,o,none⟩),.pointer (some ⟨gk,ok,none⟩)] w fun x w'=>x=.returned (.bool true)∧ag w w':=by
 obtain⟨n,a,ks,t⟩:=p;obtain⟨m,b,ls,s⟩:=k;obtain⟨B,cb,hvb⟩:=hp.2.2.2.2.2.2.1.slice;obtain⟨Bl,cl,hvl⟩:=hk.2.2.2.2.2.2.1.slice;replace hvb:vk=.slice B ks.length cb:=hvb;replace hvl:uk=.slice Bl ls.length cl:=hvl;subst hvb;subst hvl;obtain⟨i,e,xa,xk,hA,hx⟩:=(show gK w ks _ from hp.2.2.2.2.2.2.1).yw 0 hne;subst hA
 match ks,hne,hp,hx,had with
 |x::r,_,hp,hx,had=>
  obtain⟨xn,xt,xs,xx⟩:=x;obtain⟨Bj,cj,hvj⟩:=hx.2.2.2.2.2.2.1.slice;replace hvj:xk=.slice Bj xs.length cj:=hvj;subst hvj;have a0:=hp.2.1;have a2:=hp.2.2.2.1;have b0:=hk.2.1;have b2:=hk.2.2.2.1;have c2:w.cell? ⟨i,e+2,none⟩=some (.slice Bj xs.length cj):=by have:=hx.2.2.2.1;simpa using this
  simp only[E.name]at a0 b0 hn;have hkl:(0:Int)<((E.mk xn xt xs xx::r).length:Int):=by rw[List.length_cons];omega
  have hkl':0<(E.mk xn xt xs xx::r).length:=by rw[List.length_cons];omega
  clear hp hk hx;simp only[Oy,List.mem_cons,List.not_mem_nil,or_false]at hn
  rcases hn with rfl|rfl|rfl|rfl|rfl|rfl|rfl|rfl|rfl|rfl|rfl|rfl|rfl|rfl|rfl|rfl|rfl
  all_goals simp[Ff,U.yt,U.yu,U.CU,U.qG,U.gU,U.aj,U.bq,U.bE,U.dU,U.lq,U.fZ,U.mW,U.mX,U.gN,U.fV,U.bI,U.aV]at had a0
  all_goals
   first
    |(have h0:=of_decide_eq_true had;subst h0)
    |(obtain⟨h0,h1⟩:=had;have h0:=of_decide_eq_true h0;subst h0;rw[(by first|exact h1|exact of_decide_eq_true h1:ls.length=xs.length)]at b2)
    |(obtain⟨⟨⟨h1,h2⟩,h3⟩,h4⟩:=had;replace h1:=beq_eq_false_iff_ne.2 (of_decide_eq_false h1);replace h2:=beq_eq_false_iff_ne.2 (of_decide_eq_false h2);replace h3:=beq_eq_false_iff_ne.2 (of_decide_eq_false h3);replace h4:=beq_eq_false_iff_ne.2 (of_decide_eq_false h4))
   go_enter Tryz.func84,Tryz.ntmps84;go_wp2_with fail
   first
    |(go_ret;exact⟨rfl,aF⟩)
    |(refine wp_region_quiet_lit (by kernel_rfl) (by kernel_rfl) ?_;(repeat(with_reducible refine wpQuiet_step (fun K hK=>?_);go_simp;first|(refine hK _ ?_;clear hK K)|(apply Exists.intro;refine⟨fun _=>?_,hK _ ?_⟩;(fail);clear hK K)));refine wpQuiet_nil ?_;rintro _ ⟨nq,rfl⟩;go_wp2_with fail;go_ret;exact⟨rfl,aF⟩)
abbrev Rz(c f:Nat):Value:=.func (.func 82) #[] #[.pointer (some ⟨c,0,none⟩),.pointer (some ⟨f,0,none⟩)]
abbrev H6:TypeId:=130
def Ma(e:E):Prop:=∀(g o c f:Nat) (z:Int) (va vk:Value) (w:World),gZ w g o e va vk→af w c 3 #[.int .i64 z]→af w f H6 #[Rz c f]→c≠f→oq e=true→
 Calls Tryz.prog 82 #[.pointer (some ⟨g,o,none⟩),.bool true,.pointer (some ⟨c,0,none⟩),.pointer (some ⟨f,0,none⟩)] w fun x w'=>x=.returned (.bool true)∧Touch (fun b=>b=c) w w'∧∃z,af w' c 3 #[.int .i64 z]
theorem XK(e:E)(ih:∀x∈e.kids,Ma x):Ma e:=by
 intro g o c f z va vk w he hc hf hcf hok;rw[U.uj,Bool.and_eq_true,U.vY,List.all_eq_true]at hok;have HOW:=hid hok.1;have jJ:=hid (show∀x∈e.kids,Ff e x=true∧oq x=true from fun x hx=>by have:=hok.2 x hx;rwa [Bool.and_eq_true]at this);have HN:=hid (show e.name∈Oy by cases e;exact Hw hok.1);have HE:=hid he;have HC:=hid hc;have HF:=hid hf;have q9:=hid ih;have hcc:c<w.heap.size:=hc.lt;have q0:=hc.cell 0;replace q0:w.cell? ⟨c,0,none⟩=some (.int .i64 z):=q0;have qf:w.frozen? ⟨c,0,none⟩=false:=hc.frozen 0;clear he hc hf ih hok;go_enter Tryz.func82,Tryz.ntmps82;go_wp2_with fail
 generalize wrap64 (z+1)=z1;have Mc:=hid (show af (w.setCell ⟨c,0,none⟩ (.int .i64 z1)) c 3 #[.int .i64 z1]from HC.out.put 0 (.int .i64 z1));have HT1:=hid ((M (fun b=>b=c) w).setCell (p:=⟨c,0,none⟩) (.inl rfl) (.int .i64 z1));have kI:=hid (HE.out.turn HT1.out fun b hb=>by rw[show b=c from hb];exact wS.int HC.out);have aK:=hid (HT1.out.blk HF.out fun h=>hcf h.symm);refine(acB e g o va vk _ kI.out (Oz kI.out.2.2.2.2.2.1 _) HOW.out).mono ?_;rintro _ w2 ⟨rfl,hf2⟩;have HT2:=hid (HT1.out.trans (hf2.mono fun _ h=>h.elim));have HE2:=hid (kI.out.fresh hf2);have GI:=hid (hf2.blk Mc.out fun h=>h);clear hf2 q0 qf hcc;have hl2:=HE.out.2.2.2.2.2.2.1.len;obtain⟨B,cb,hvb⟩:=HE.out.2.2.2.2.2.2.1.slice;subst hvb;unfold maxLen at hl2;obtain⟨hg2,_,_,h2,_,_⟩:=HE2.out;go_wp2_with fail
 clear hg2 h2
 go_loopw [22] (fun i wr=>∃(j:Nat) (z:Int),i=.int .i64 j∧j≤e.kids.length∧Hd (Touch (fun b=>b=c) w wr)∧Hd (af wr c 3 #[.int .i64 z])) (fun i _=>e.kids.length-(intOf i).toNat)
 case atStart=>exact⟨0,_,rfl,Nat.zero_le _,HT2,GI⟩
 case round=>
  obtain⟨j,z2,rfl,hj,HT,Rm⟩:=hrel;rename_i wr _;have HE3:=hid (HE.out.turn HT.out fun b hb=>by rw[show b=c from hb];exact wS.int HC.out);have bJ:=hid (HT.out.blk HF.out fun h=>hcf h.symm)
  by_cases c1:j<e.kids.length
  ·have d1:decide ((j:Int)<(e.kids.length:Int))=true:=dT (by omega)
   have d1':(j:Int)<(e.kids.length:Int):=by omega
   obtain⟨gk,ok,wa,wk,rfl,jW⟩:=(show gK wr e.kids _ from HE3.out.2.2.2.2.2.2.1).yw j c1;have aiQ:=hid (fun(w:World) (hp:gZ w g o e va (.slice (some ⟨gk,ok,none⟩) e.kids.length cb)) (hk:gZ w gk (ok+j*4) e.kids[j] wa wk)=>UK e e.kids[j] g o gk (ok+j*4) va _ wa wk w hp hk (show 0<e.kids.length by omega) HN.out (jJ.out _ (List.getElem_mem c1)).1);have HC4:=hid (fun z=>q9.out e.kids[j] (List.getElem_mem c1) gk (ok+j*4) c f z wa wk);have HOJ:=hid (jJ.out _ (List.getElem_mem c1)).2;have AL:=hid jW;clear jW;generalize e.kids[j]=x at*;obtain⟨hg2,_,_,h2,_,_⟩:=HE3.out;go_wp2_with fail
   have k2:=cR h2;have kf:=cR (bJ.out.cell 0);refine cu [([(0,true),(1,true),(2,true),(3,true),(4,true),(5,true),(6,true),(7,true),(8,true),(9,true),(10,true),(11,true),(12,true),(13,true),(14,false)],15)] [(16,true)] (by kernel_rfl) (fun _ _ d _ _ h=>by cases d<;>exact h) (by kernel_rfl) ?_;refine dJ ?_
   repeat(refine ak rfl (fun K hK=>?_);go_simp;refine hK _ ?_;clear hK K)
   refine aS rfl (fun K hK=>?_);go_wp2_with fail
   refine(aiQ.out _ (HE3.out.fresh aF) (AL.out.fresh aF)).mono ?_;rintro _ w5 ⟨rfl,jO⟩;have eY:=hid (show ag wr w5 from qV jO);clear jO k2 kf;go_wp2
   refine hK _ _ (aA eY.out) ?_;clear hK K;refine dm rfl (fun K hK=>?_);go_wp2_with fail
   refine(HC4.out _ w5 (AL.out.fresh eY.out) (eY.out.blk Rm.out fun h=>h) (eY.out.blk bJ.out fun h=>h) hcf HOJ.out).mono ?_;rintro _ w6 ⟨rfl,jq,z6,hb6⟩;have iC:=hid ((HT.out.trans (eY.out.mono fun _ h=>h.elim)).trans jq);have gy:=hid hb6;clear jq hb6;go_wp2_with fail
   refine EN ?_
   repeat(refine ak rfl (fun K hK=>?_);go_simp;refine hK _ ?_;clear hK K)
   refine sj ?_;go_wp2
   go_roundw
   case rel=>exact⟨j+1,_,by go_num,c1,iC,gy⟩
   case measure=>simp[intOf];omega
  ·have d1:decide ((j:Int)<(e.kids.length:Int))=false:=dF (by omega)
   obtain rfl:j=e.kids.length:=by omega
   go_wp2
   go_ret;exact⟨rfl,HT.out,_,Rm.out⟩
theorem XL(e:E):Ma e:=U.E.ind (p:=Ma) XK e
theorem XM(e:E)(g o:Nat)(va vk:Value)(w:World)(he:gZ w g o e va vk)(hn:e.name=U.gU)(hok:oq e=true):
  Calls Tryz.prog 40 #[.pointer (some ⟨g,o,none⟩)] w fun x w'=>x=.returned (.tuple #[.int .i64 0,.bool false])∧ag w w':=by
 have HE:=hid he;have HV:=hid (fun g o c f z va vk w h1 h2 h3 h4=>XL e g o c f z va vk w h1 h2 h3 h4 hok);have HD:=hid (show(e.name==[109,97,116,104])=true by rw[hn];rfl);clear he hn hok;go_enter Tryz.func40,Tryz.ntmps40;go_wp2_with fail
 have hb1:=af.new2 w (.cells #[.int .i64 (-1)] 3) H6 #[Rz w.heap.size (w.heap.size+1)];have hb0:=(af.new w 3 #[.int .i64 (-1)]).alloc (.cells #[Rz w.heap.size (w.heap.size+1)] H6);have hf0:=((M (fun _=>False) w).alloc (.cells #[.int .i64 (-1)] 3)).alloc (.cells #[Rz w.heap.size (w.heap.size+1)] H6);generalize ((w.alloc (.cells #[.int .i64 (-1)] 3)).alloc (.cells #[Rz w.heap.size (w.heap.size+1)] H6))=W2 at*;have HB1:=hid hb1;have HB0:=hid hb0;have jQ:=hid hf0;have HE2:=hid (HE.out.fresh hf0);obtain⟨hg2,h0,_,_,_,_⟩:=HE2.out;have k0:=cR h0;have kf:=cR (hb1.cell 0);clear hb1 hb0 hf0;refine cu [([(0,true),(1,true),(2,true),(3,true),(4,true),(5,true),(6,true)],7)] [] (by kernel_rfl) (fun _ _ d _ _ h=>by cases d<;>exact h) (by kernel_rfl) ?_;refine dJ ?_
 repeat(refine ak rfl (fun K hK=>?_);go_simp;refine hK _ ?_;clear hK K)
 refine dm rfl (fun K hK=>?_);go_wp2_with fail
 rw[HD.out];have hdr:=(M (fun _=>False) W2).drewN 1;refine(HV.out g o w.heap.size (w.heap.size+1) _ va vk _ (HE2.out.fresh hdr) (hdr.blk HB0.out fun h=>h) (hdr.blk HB1.out fun h=>h) (by omega)).mono ?_;rintro _ w3 ⟨rfl,ht3,z3,hb3⟩;have bJ:=hid (show ag w w3 from(jQ.out.trans hdr).trans' ht3 fun i hi=>.inr (by have hi:i=w.heap.size:=hi;omega));clear ht3 hb3 kf k0 h0;go_wp2_with fail
 refine fH ?_;go_wp2
 go_ret2;exact⟨rfl,bJ.out⟩
end
section
open Go.RowKit Go.Maps
theorem strKeys:Keyed Tryz.prog 9:=string_keyed Tryz.underlying9
section
variable {H:Type}
def sM:List (List UInt8×Int):=[(U.lq,5),(U.mW,7),(U.mX,8),(U.gN,9)]
def RA:DataW H:=sM.foldl (fun D x=>D.put (.string x.1) (.lit (.int .i64 x.2))) (.map [])
theorem af1:(RA:DataW H)=.map [(.string U.lq,.lit (.int .i64 5)),(.string U.mW,.lit (.int .i64 7)),(.string U.gN,.lit (.int .i64 9)),(.string U.mX,.lit (.int .i64 8))]:=by rfl
theorem aaj(x:List UInt8)(zd:DataW H):(RA:DataW H).atKey (.string x) zd=match sM.find? (·.1==x)with|some y=>.lit (.int .i64 y.2)|none=>zd:=by
 rw[af1]
 by_cases h1:U.lq=x
 ·subst h1;rfl
 by_cases h2:U.mW=x
 ·subst h2;rfl
 by_cases h3:U.mX=x
 ·subst h3;rfl
 by_cases h4:U.gN=x
 ·subst h4;rfl
 have b1:(U.lq==x)=false:=beq_eq_false_iff_ne.2 h1;have b2:(U.mW==x)=false:=beq_eq_false_iff_ne.2 h2;have b3:(U.mX==x)=false:=beq_eq_false_iff_ne.2 h3;have b4:(U.gN==x)=false:=beq_eq_false_iff_ne.2 h4;simp only[DataW.atKey,Lit.sameKey,sM,List.find?_cons,List.find?_nil,b1,b2,b3,b4]
theorem aak(x:List UInt8)(c:Int)(h:∀zd,(RA:DataW H).atKey (.string x) zd=.lit (.int .i64 c)):sM.find? (·.1==x)=some (x,c):=by
 have h1:=h (.lit (.int .i64 (c+1)));rw[aaj]at h1;cases hf:sM.find? (·.1==x)with
 |none=>
  rw[hf]at h1;simp only[DataW.lit.injEq,Lit.int.injEq,true_and]at h1;omega
 |some y=>
  rw[hf]at h1;simp only[DataW.lit.injEq,Lit.int.injEq,true_and]at h1;have h2:=List.find?_some hf;simp only[beq_iff_eq]at h2;subst h1 h2;rfl
end
section
variable {w:World}
theorem yC(x:List UInt8)(h:x.length≤maxLen):keyOf Tryz.prog 9 (.string ⟨x.toArray⟩)=some (.string x):=by
 have hs:(⟨x.toArray⟩:ByteArray).size≤maxLen:=by show x.toArray.size≤_;simpa using h
 simp[keyOf,Tryz.underlying9,mapKey,hs]
theorem Ch(H:Type)(w:World):Calls Tryz.prog 114 #[] w fun e w'=>e=.returned (.map (some w.heap.size))∧w'.ownsMap (H:=H) Tryz.prog 9 (plainElem Tryz.prog 3) w.heap.size 4 RA∧ag w w':=by
 have hmm:∀W:World,(Instr.makeMap 150 none).run Tryz.prog W=.ok (.map (some W.heap.size)) (W.alloc (.map #[] 0)):=fun W=>run_makeMap_plain W 150
 have hw:∀n:Int,(Lit.int .i64 n).wf=true→plainElem (H:=H) Tryz.prog 3 (.int .i64 n)=some (.lit (.int .i64 n),[]):=fun n h=>plainElem_int Tryz.underlying3 h
 obtain⟨w1,r1,o1,g1⟩:=(World.ownsMap_made (H:=H) w Tryz.prog 9 (plainElem Tryz.prog 3)).update strKeys Tryz.underlying150 (by decide) (yC U.lq (by decide)) (hw 5 (by decide));obtain⟨w2,r2,o2,g2⟩:=o1.update strKeys Tryz.underlying150 (by decide) (yC U.mW (by decide)) (hw 7 (by decide));obtain⟨w3,r3,o3,g3⟩:=o2.update strKeys Tryz.underlying150 (by decide) (yC U.mX (by decide)) (hw 8 (by decide));obtain⟨w4,r4,o4,g4⟩:=o3.update strKeys Tryz.underlying150 (by decide) (yC U.gN (by decide)) (hw 9 (by decide));have hf:ag w w4:=(((((M _ w).alloc (.map #[] 0)).grown g1 (fun k hk=>.inr (by cases hk;exact Nat.le_refl _))).grown g2 (fun k hk=>.inr (by cases hk;exact Nat.le_refl _))).grown g3 (fun k hk=>.inr (by cases hk;exact Nat.le_refl _))).grown g4 (fun k hk=>.inr (by cases hk;exact Nat.le_refl _));have HF:=hid hf;have HO:=hid o4;simp only[U.lq,U.mW,U.mX,U.gN]at r1 r2 r3 r4;clear o1 o2 o3 o4 g1 g2 g3 g4 hf hw;go_enter Tryz.func114,Tryz.ntmps114;go_wp2
 go_ret;exact⟨rfl,HO.out,HF.out⟩
end
end
section
open Go.RowKit
open Tr (Nd)
open U (E iX eU ax)
attribute [local go_sem] gD stillUpon
def oH(w w':World)(e:E)(v:Value):Prop:=∃va vk,v=ev e va vk∧ag w w'∧dz (fun k=>k<w.heap.size) w' fun W=>jd W e va vk
def RB(n:Nd):Prop:=∀(sl:Value) (w:World),Tr.count n≤100000→aD w n.kids sl→Calls Tryz.prog 73 #[nv n sl] w fun e w'=>∃v,e=.returned v∧oH w w' (iX n) v
def aC(nm:List UInt8)(ks:List Nd):List E:=ks.map fun n=>ax nm (eU n.kids)
def ahb(ks:List Nd):Prop:=∀(nm:List UInt8) (sl:Value) (w:World),nm.length≤maxLen→Tr.az ks≤100000→aD w ks sl→Calls Tryz.prog 112 #[.string ⟨nm.toArray⟩,sl] w fun e w'=>∃v,e=.returned v∧oH w w' (ax nm (aC U.aj ks)) v
theorem Df(nm:List UInt8)(l:List Nd):(aC nm l).length=l.length:=List.length_map _
theorem XO(nm:List UInt8)(l:List Nd)(j:Nat)(h:j<l.length):(aC nm l).take j++[ax nm (eU l[j].kids)]=(aC nm l).take (j+1):=by
 unfold aC;rw[List.take_add_one,List.getElem?_map,List.getElem?_eq_getElem h];rfl
def Au(n:Nd):Prop:=∀(nm:List UInt8) (sl:Value) (w:World),nm.length≤maxLen→Tr.count n≤100000→aD w n.kids sl→Calls Tryz.prog 35 #[.string ⟨nm.toArray⟩,nv n sl] w fun e w'=>∃v,e=.returned v∧oH w w' (ax nm (eU n.kids)) v
theorem fQ.base{B:Nat}{w:World}{es:List E}{v:Value}(h:fQ B w es v):B≤w.heap.size:=h.1
theorem VF(l:List Nd):(eU l).length=l.length:=by rw[U.zb,List.length_map]
theorem acC(l:List Nd)(j:Nat)(h:j<l.length):(eU l).take j++[iX l[j]]=(eU l).take (j+1):=by
 rw[U.zb,List.take_add_one,List.getElem?_map,List.getElem?_eq_getElem h];rfl
theorem OA(n:Nd)(ih:∀x∈n.kids,RB x):Au n:=by
 intro nm sl w hnm hc hsl;have hcl:Tr.az n.kids≤100000:=by have:=Tr.aN n;omega
 obtain⟨A,cap,rfl⟩:=hsl.slice;have yD:=hid hsl;have q9:=hid ih;have uf:=hid hnm;have hkl:=Tr.jF n.kids;clear hc;generalize hks:n.kids=ks at*;have Em:=hid hks;clear hsl ih hnm hks;go_enter Tryz.func35,Tryz.ntmps35;go_wp2_with fail
 refine bK (fun W=>ag w W∧W.heap.size=w.heap.size+3∧af W (w.heap.size+1) 55 Z∧af W (w.heap.size+1+1) 55 #[.string ⟨nm.toArray⟩,.slice none 0 0,.slice none 0 0,.string ⟨#[]⟩]) ⟨(((M _ _).alloc _).alloc _).alloc _,by simp,(af.new2 w _ 55 _).alloc _,af.Jc _ _ _ _ _⟩ ?_;rintro W1 ⟨hf1,hs1,yx,Ci⟩;have aK:=hid hf1;have mP:=hid yx;have KA:=hid Ci;have yc:=hid hs1;have Da:=hid (show fQ (w.heap.size+3) W1 ((eU ks).take 0) (.slice none 0 0) by rw[List.take_zero];exact fQ.nil (by omega));clear hf1 yx Ci hs1
 go_loopw [13] (fun i wr=>∃(j:Nat) (Ae:Option Addr) (ce:Nat),i=.int .i64 j∧j≤ks.length∧Hd (af wr (w.heap.size+1) 55 Z)∧Hd (af wr (w.heap.size+1+1) 55 #[.string ⟨nm.toArray⟩,.slice none 0 0,.slice Ae j ce,.string ⟨#[]⟩])∧Hd (fQ (w.heap.size+3) wr ((eU ks).take j) (.slice Ae j ce))∧Hd (ag w wr)) (fun i _=>ks.length-(intOf i).toNat)
 case atStart=>exact⟨0,none,0,rfl,Nat.zero_le _,mP,KA,Da,aK⟩
 case round=>
  obtain⟨j,Ae,ce,rfl,hj,ow,oI,HG,HF⟩:=hrel;rename_i wr _
  by_cases c1:j<ks.length
  ·have d1:decide ((j:Int)<(ks.length:Int))=true:=dT (by omega)
   have jo:decide (j<ks.length)=true:=dT c1;have d1':(j:Int)<(ks.length:Int):=by omega
   obtain⟨g,o,sx,hA,hg,m0,m1,m2,m3,hrx⟩:=yD.out.get j c1;cases hA;obtain⟨Ax,cx,rfl⟩:=hrx.slice;have e0:=HF.out.cell m0 (fun h=>h);have e1:=HF.out.cell m1 (fun h=>h);have e2:=HF.out.cell m2 (fun h=>h);have e3:=HF.out.cell m3 (fun h=>h);have hgl:g<wr.heap.size:=Nat.lt_of_lt_of_le hg HF.out.size;have HRX:=hid (hrx.fresh HF.out);have wZ:=hid (List.getElem_mem c1);have lg:=hid (show((eU ks).take j).length=j by rw[List.length_take,VF];omega);clear m0 m1 m2 m3 hg hrx;go_wp2_with fail
   have k0:=cR ((oI.out.alloc (.cells #[.int .i64 ks[j].kind,.string ⟨ks[j].text.toArray⟩,.int .i64 ks[j].ah,.slice Ax ks[j].kids.length cx] 24)).cell 2|>.trans rfl);have j0:=cR ((af.new wr 24 #[.int .i64 ks[j].kind,.string ⟨ks[j].text.toArray⟩,.int .i64 ks[j].ah,.slice Ax ks[j].kids.length cx]).cell 0|>.trans rfl);have j1:=cR ((af.new wr 24 #[.int .i64 ks[j].kind,.string ⟨ks[j].text.toArray⟩,.int .i64 ks[j].ah,.slice Ax ks[j].kids.length cx]).cell 1|>.trans rfl);have j2:=cR ((af.new wr 24 #[.int .i64 ks[j].kind,.string ⟨ks[j].text.toArray⟩,.int .i64 ks[j].ah,.slice Ax ks[j].kids.length cx]).cell 2|>.trans rfl);have j3:=cR ((af.new wr 24 #[.int .i64 ks[j].kind,.string ⟨ks[j].text.toArray⟩,.int .i64 ks[j].ah,.slice Ax ks[j].kids.length cx]).cell 3|>.trans rfl);have xG:=hid (HG.out.fresh ((M _ wr).alloc (.cells #[.int .i64 ks[j].kind,.string ⟨ks[j].text.toArray⟩,.int .i64 ks[j].ah,.slice Ax ks[j].kids.length cx] 24)));have DJ:=hid (oI.out.alloc (.cells #[.int .i64 ks[j].kind,.string ⟨ks[j].text.toArray⟩,.int .i64 ks[j].ah,.slice Ax ks[j].kids.length cx] 24));have DK:=hid (ow.out.alloc (.cells #[.int .i64 ks[j].kind,.string ⟨ks[j].text.toArray⟩,.int .i64 ks[j].ah,.slice Ax ks[j].kids.length cx] 24));have eY:=hid (HF.out.alloc (.cells #[.int .i64 ks[j].kind,.string ⟨ks[j].text.toArray⟩,.int .i64 ks[j].ah,.slice Ax ks[j].kids.length cx] 24));have Na:=hid (HRX.out.fresh ((M _ wr).alloc (.cells #[.int .i64 ks[j].kind,.string ⟨ks[j].text.toArray⟩,.int .i64 ks[j].ah,.slice Ax ks[j].kids.length cx] 24)));generalize (wr.alloc (.cells #[.int .i64 ks[j].kind,.string ⟨ks[j].text.toArray⟩,.int .i64 ks[j].ah,.slice Ax ks[j].kids.length cx] 24))=W5 at k0 j0 j1 j2 j3 xG DJ DK eY Na⊢;obtain⟨bx,hbx⟩:∃b,b=wr.heap.size:=⟨_,rfl⟩;rw[←hbx]at j0 j1 j2 j3⊢;clear e0 e1 e2 e3 hgl hbx;refine cu [([(0,true),(1,true),(2,true),(3,false),(4,false)],5),([(6,true)],7)] [] (by kernel_rfl) (fun _ _ d _ _ h=>by cases d<;>exact h) (by kernel_rfl) ?_;refine dJ ?_
   repeat(refine ak rfl (fun K hK=>?_);go_simp;refine hK _ ?_;clear hK K)
   clear k0 j0 j1 j2 j3;refine aS rfl (fun K hK=>?_);go_wp2_with fail
   refine(q9.out ks[j] wZ.out _ _ (by have:=Tr.cB wZ.out;omega) (Na.out.fresh ((M _ _).drewN 1))).mono ?_;rintro _ w6 ⟨v6,rfl,va,vk,rfl,dK,dZ⟩;have fI:=hid (show ag W5 w6 from((M _ W5).drewN 1).trans dK);have nV:=hid (show dz (fun k=>k<W5.heap.size) w6 fun W=>jd W (iX ks[j]) va vk from dZ);obtain⟨Aa,ca,rfl⟩:=dZ.now.1.slice;obtain⟨Ak,ck,rfl⟩:=dZ.now.2.1.slice;clear dK dZ;go_wp2
   refine hK _ _ (aA fI.out) ?_;clear hK K;refine aS rfl (fun K hK=>?_);go_wp2
   refine hK _ _ (aA (fI.out.alloc _)) ?_;clear hK K;have kW:=hid (af.new w6 55 #[.string ⟨(iX ks[j]).name.toArray⟩,.slice Aa (iX ks[j]).attrs.length ca,.slice Ak (iX ks[j]).kids.length ck,.string ⟨(iX ks[j]).text.toArray⟩]);have gW:=hid (fI.out.alloc (.cells #[.string ⟨(iX ks[j]).name.toArray⟩,.slice Aa (iX ks[j]).attrs.length ca,.slice Ak (iX ks[j]).kids.length ck,.string ⟨(iX ks[j]).text.toArray⟩] 55));have tq:=hid (nV.out.fresh ((M _ w6).alloc (.cells #[.string ⟨(iX ks[j]).name.toArray⟩,.slice Aa (iX ks[j]).attrs.length ca,.slice Ak (iX ks[j]).kids.length ck,.string ⟨(iX ks[j]).text.toArray⟩] 55)));generalize (w6.alloc (.cells #[.string ⟨(iX ks[j]).name.toArray⟩,.slice Aa (iX ks[j]).attrs.length ca,.slice Ak (iX ks[j]).kids.length ck,.string ⟨(iX ks[j]).text.toArray⟩] 55))=w7 at kW gW tq⊢;have Ej:=hid (xG.out.fresh gW.out);have HOW:=hid xG.out.pY;have tu:=hid (gW.out.blk DJ.out fun h=>h);have qc:=hid (gW.out.blk DK.out fun h=>h);have eO:=hid xG.out.base;refine dm rfl (fun K hK=>?_)
   go_wp2_with (at_builtin;go_loud (refine zY rfl (.tmp 18) (.tmp 21) rfl Ej.out lg.out (by simp[Act.eval]) (iX ks[j]) kW.out (by simp[Act.eval]) W5.heap.size eO.out (fun k hk=>(HOW.out k hk).2) tq.out (by omega) ?_);intro A8 c8 w8 jI bR _;refine jw.mk ?_)
   have wI:=hid jI;have tC:=hid (bR.blk tu.out fun h=>by have:=(HOW.out _ h).1;omega);have wE:=hid (bR.blk qc.out fun h=>by have:=(HOW.out _ h).1;omega);have mZ:=hid (show ag w w8 from(eY.out.trans gW.out).trans' bR fun k hk=>.inr (by have:=(HOW.out _ hk).1;omega));clear jI bR;obtain⟨q0,q1,q2,q3,z0,z1,z2,z3,hlt⟩:=af.four tC.out;refine jw.go ?_;go_wp2_with fail
   refine dJ ?_
   repeat(refine ak rfl (fun K hK=>?_);go_simp;refine hK _ ?_;clear hK K)
   refine dm rfl (fun K hK=>?_);go_wp2_with fail
   refine fH ?_;go_wp2_with fail
   have jA:=wI.out.mv ((M (fun k=>k=(w.heap.size+1+1)) w8).setCell (p:=⟨(w.heap.size+1+1),2,none⟩) (.inl rfl) (.slice A8 (j+1) c8)) (fun k hk _=>by omega);rw[acC ks j c1]at jA;exact⟨⟨j+1,A8,c8,by simp,by omega,wE.out.far (p:=⟨(w.heap.size+1+1),2,none⟩) (by simp) _,tC.out.put 2 _,jA,mZ.out.setCell (p:=⟨(w.heap.size+1+1),2,none⟩) (.inr (by show w.heap.size≤(w.heap.size+1+1);omega)) _⟩,by simp[intOf];omega⟩
  ·have d1:decide ((j:Int)<(ks.length:Int))=false:=dF (by omega)
   have jo:decide (j<ks.length)=false:=dF c1;obtain rfl:j=ks.length:=by omega
   obtain⟨q0,q1,q2,q3,_,_,_,_,hlt⟩:=af.four oI.out;obtain⟨p0,p1,p2,p3,y0,y1,y2,y3,hlp⟩:=af.four ow.out;have jA:=HG.out.mv ((M (fun k=>k=(w.heap.size+1)) wr).aO (.inl rfl) (.string ⟨nm.toArray⟩) (.slice none 0 0) (.slice Ae ks.length ce) (.string ⟨#[]⟩)) (fun k hk _=>by omega);rw[List.take_of_length_le (by rw[VF];exact Nat.le_refl _)]at jA;have qL:=hid jA;obtain⟨r0,r1,r2,r3,_,_,_,_,_⟩:=af.four (ow.out.gH (.string ⟨nm.toArray⟩) (.slice none 0 0) (.slice Ae ks.length ce) (.string ⟨#[]⟩));simp only[aO]at r0 r1 r2 r3;clear jA;go_wp2
   refine bodyPost_ret (v:=.agg #[.string ⟨nm.toArray⟩,.slice none 0 0,.slice Ae ks.length ce,.string ⟨#[]⟩]) (by simp[results,Tryz.results35,go_sem,r0,r1,r2,r3]) rfl ?_;refine⟨_,rfl,.slice none 0 0,.slice Ae ks.length ce,rfl,Touch.aO HF.out (.inr (by omega)) _ _ _ _,?_⟩;exact(qL.out.done.mono fun i _ hi=>by omega).imp fun W hW=>⟨gJ.nil _ _ _,hW,uf.out,Nat.zero_le _⟩
theorem yE(fC:List Nd)(ih:∀x∈fC,Au x):ahb fC:=by
 intro nm sl w hnm hcl hsl;obtain⟨A,cap,rfl⟩:=hsl.slice;have yD:=hid hsl;have q9:=hid ih;have uf:=hid hnm;have hkl:=Tr.jF fC;generalize hks:fC=ks at*;have Em:=hid hks;clear hsl ih hnm hks;go_enter Tryz.func112,Tryz.ntmps112;go_wp2_with fail
 refine bK (fun W=>ag w W∧W.heap.size=w.heap.size+2∧af W w.heap.size 55 Z∧af W (w.heap.size+1) 55 #[.string ⟨nm.toArray⟩,.slice none 0 0,.slice none 0 0,.string ⟨#[]⟩]) ⟨((M _ _).alloc _).alloc _,by simp,(af.new w 55 _).alloc _,af.new2 w _ 55 _⟩ ?_;rintro W1 ⟨hf1,hs1,yx,Ci⟩;have aK:=hid hf1;have mP:=hid yx;have KA:=hid Ci;have yc:=hid hs1;have Da:=hid (show fQ (w.heap.size+2) W1 ((aC U.aj ks).take 0) (.slice none 0 0) by rw[List.take_zero];exact fQ.nil (by omega));clear hf1 yx Ci hs1
 go_loopw [12] (fun i wr=>∃(j:Nat) (Ae:Option Addr) (ce:Nat),i=.int .i64 j∧j≤ks.length∧Hd (af wr w.heap.size 55 Z)∧Hd (af wr (w.heap.size+1) 55 #[.string ⟨nm.toArray⟩,.slice none 0 0,.slice Ae j ce,.string ⟨#[]⟩])∧Hd (fQ (w.heap.size+2) wr ((aC U.aj ks).take j) (.slice Ae j ce))∧Hd (ag w wr)) (fun i _=>ks.length-(intOf i).toNat)
 case atStart=>exact⟨0,none,0,rfl,Nat.zero_le _,mP,KA,Da,aK⟩
 case round=>
  obtain⟨j,Ae,ce,rfl,hj,ow,oI,HG,HF⟩:=hrel;rename_i wr _
  by_cases c1:j<ks.length
  ·have d1:decide ((j:Int)<(ks.length:Int))=true:=dT (by omega)
   have jo:decide (j<ks.length)=true:=dT c1;have d1':(j:Int)<(ks.length:Int):=by omega
   obtain⟨g,o,sx,hA,hg,m0,m1,m2,m3,hrx⟩:=yD.out.get j c1;cases hA;obtain⟨Ax,cx,rfl⟩:=hrx.slice;have e0:=HF.out.cell m0 (fun h=>h);have e1:=HF.out.cell m1 (fun h=>h);have e2:=HF.out.cell m2 (fun h=>h);have e3:=HF.out.cell m3 (fun h=>h);have hgl:g<wr.heap.size:=Nat.lt_of_lt_of_le hg HF.out.size;have HRX:=hid (hrx.fresh HF.out);have wZ:=hid (List.getElem_mem c1);have lg:=hid (show((aC U.aj ks).take j).length=j by rw[List.length_take,Df];omega);clear m0 m1 m2 m3 hg hrx;go_wp2_with fail
   have k0:=cR ((oI.out.alloc (.cells #[.int .i64 ks[j].kind,.string ⟨ks[j].text.toArray⟩,.int .i64 ks[j].ah,.slice Ax ks[j].kids.length cx] 24)).cell 2|>.trans rfl);have j0:=cR ((af.new wr 24 #[.int .i64 ks[j].kind,.string ⟨ks[j].text.toArray⟩,.int .i64 ks[j].ah,.slice Ax ks[j].kids.length cx]).cell 0|>.trans rfl);have j1:=cR ((af.new wr 24 #[.int .i64 ks[j].kind,.string ⟨ks[j].text.toArray⟩,.int .i64 ks[j].ah,.slice Ax ks[j].kids.length cx]).cell 1|>.trans rfl);have j2:=cR ((af.new wr 24 #[.int .i64 ks[j].kind,.string ⟨ks[j].text.toArray⟩,.int .i64 ks[j].ah,.slice Ax ks[j].kids.length cx]).cell 2|>.trans rfl);have j3:=cR ((af.new wr 24 #[.int .i64 ks[j].kind,.string ⟨ks[j].text.toArray⟩,.int .i64 ks[j].ah,.slice Ax ks[j].kids.length cx]).cell 3|>.trans rfl);have xG:=hid (HG.out.fresh ((M _ wr).alloc (.cells #[.int .i64 ks[j].kind,.string ⟨ks[j].text.toArray⟩,.int .i64 ks[j].ah,.slice Ax ks[j].kids.length cx] 24)));have DJ:=hid (oI.out.alloc (.cells #[.int .i64 ks[j].kind,.string ⟨ks[j].text.toArray⟩,.int .i64 ks[j].ah,.slice Ax ks[j].kids.length cx] 24));have DK:=hid (ow.out.alloc (.cells #[.int .i64 ks[j].kind,.string ⟨ks[j].text.toArray⟩,.int .i64 ks[j].ah,.slice Ax ks[j].kids.length cx] 24));have eY:=hid (HF.out.alloc (.cells #[.int .i64 ks[j].kind,.string ⟨ks[j].text.toArray⟩,.int .i64 ks[j].ah,.slice Ax ks[j].kids.length cx] 24));have Na:=hid (HRX.out.fresh ((M _ wr).alloc (.cells #[.int .i64 ks[j].kind,.string ⟨ks[j].text.toArray⟩,.int .i64 ks[j].ah,.slice Ax ks[j].kids.length cx] 24)));generalize (wr.alloc (.cells #[.int .i64 ks[j].kind,.string ⟨ks[j].text.toArray⟩,.int .i64 ks[j].ah,.slice Ax ks[j].kids.length cx] 24))=W5 at k0 j0 j1 j2 j3 xG DJ DK eY Na⊢;obtain⟨bx,hbx⟩:∃b,b=wr.heap.size:=⟨_,rfl⟩;rw[←hbx]at j0 j1 j2 j3⊢;clear e0 e1 e2 e3 hgl hbx;refine cu [([(0,true),(1,true),(2,true),(3,false),(4,false)],5),([(6,true)],7)] [] (by kernel_rfl) (fun _ _ d _ _ h=>by cases d<;>exact h) (by kernel_rfl) ?_;refine dJ ?_
   repeat(refine ak rfl (fun K hK=>?_);go_simp;refine hK _ ?_;clear hK K)
   clear k0 j0 j1 j2 j3;refine aS rfl (fun K hK=>?_);go_wp2_with fail
   refine(q9.out ks[j] wZ.out U.aj _ _ (by decide) (by have:=Tr.cB wZ.out;omega) (Na.out.fresh ((M _ _).drewN 1))).mono ?_;rintro _ w6 ⟨v6,rfl,va,vk,rfl,dK,dZ⟩;have fI:=hid (show ag W5 w6 from((M _ W5).drewN 1).trans dK);have nV:=hid (show dz (fun k=>k<W5.heap.size) w6 fun W=>jd W (ax U.aj (eU ks[j].kids)) va vk from dZ);obtain⟨Aa,ca,rfl⟩:=dZ.now.1.slice;obtain⟨Ak,ck,rfl⟩:=dZ.now.2.1.slice;clear dK dZ;go_wp2
   refine hK _ _ (aA fI.out) ?_;clear hK K;refine aS rfl (fun K hK=>?_);go_wp2
   refine hK _ _ (aA (fI.out.alloc _)) ?_;clear hK K;have kW:=hid (af.new w6 55 #[.string ⟨(ax U.aj (eU ks[j].kids)).name.toArray⟩,.slice Aa (ax U.aj (eU ks[j].kids)).attrs.length ca,.slice Ak (ax U.aj (eU ks[j].kids)).kids.length ck,.string ⟨(ax U.aj (eU ks[j].kids)).text.toArray⟩]);have gW:=hid (fI.out.alloc (.cells #[.string ⟨(ax U.aj (eU ks[j].kids)).name.toArray⟩,.slice Aa (ax U.aj (eU ks[j].kids)).attrs.length ca,.slice Ak (ax U.aj (eU ks[j].kids)).kids.length ck,.string ⟨(ax U.aj (eU ks[j].kids)).text.toArray⟩] 55));have tq:=hid (nV.out.fresh ((M _ w6).alloc (.cells #[.string ⟨(ax U.aj (eU ks[j].kids)).name.toArray⟩,.slice Aa (ax U.aj (eU ks[j].kids)).attrs.length ca,.slice Ak (ax U.aj (eU ks[j].kids)).kids.length ck,.string ⟨(ax U.aj (eU ks[j].kids)).text.toArray⟩] 55)));generalize (w6.alloc (.cells #[.string ⟨(ax U.aj (eU ks[j].kids)).name.toArray⟩,.slice Aa (ax U.aj (eU ks[j].kids)).attrs.length ca,.slice Ak (ax U.aj (eU ks[j].kids)).kids.length ck,.string ⟨(ax U.aj (eU ks[j].kids)).text.toArray⟩] 55))=w7 at kW gW tq⊢;have Ej:=hid (xG.out.fresh gW.out);have HOW:=hid xG.out.pY;have tu:=hid (gW.out.blk DJ.out fun h=>h);have qc:=hid (gW.out.blk DK.out fun h=>h);have eO:=hid xG.out.base;refine dm rfl (fun K hK=>?_)
   go_wp2_with (at_builtin;go_loud (refine zY rfl (.tmp 17) (.tmp 20) rfl Ej.out lg.out (by simp[Act.eval]) (ax U.aj (eU ks[j].kids)) kW.out (by simp[Act.eval]) W5.heap.size eO.out (fun k hk=>(HOW.out k hk).2) tq.out (by omega) ?_);intro A8 c8 w8 jI bR _;refine jw.mk ?_)
   have wI:=hid jI;have tC:=hid (bR.blk tu.out fun h=>by have:=(HOW.out _ h).1;omega);have wE:=hid (bR.blk qc.out fun h=>by have:=(HOW.out _ h).1;omega);have mZ:=hid (show ag w w8 from(eY.out.trans gW.out).trans' bR fun k hk=>.inr (by have:=(HOW.out _ hk).1;omega));clear jI bR;obtain⟨q0,q1,q2,q3,z0,z1,z2,z3,hlt⟩:=af.four tC.out;refine jw.go ?_;go_wp2_with fail
   refine dJ ?_
   repeat(refine ak rfl (fun K hK=>?_);go_simp;refine hK _ ?_;clear hK K)
   refine dm rfl (fun K hK=>?_);go_wp2_with fail
   refine fH ?_;go_wp2_with fail
   have jA:=wI.out.mv ((M (fun k=>k=(w.heap.size+1)) w8).setCell (p:=⟨(w.heap.size+1),2,none⟩) (.inl rfl) (.slice A8 (j+1) c8)) (fun k hk _=>by omega);rw[XO U.aj ks j c1]at jA;exact⟨⟨j+1,A8,c8,by simp,by omega,wE.out.far (p:=⟨(w.heap.size+1),2,none⟩) (by simp) _,tC.out.put 2 _,jA,mZ.out.setCell (p:=⟨(w.heap.size+1),2,none⟩) (.inr (by show w.heap.size≤(w.heap.size+1);omega)) _⟩,by simp[intOf];omega⟩
  ·have d1:decide ((j:Int)<(ks.length:Int))=false:=dF (by omega)
   have jo:decide (j<ks.length)=false:=dF c1;obtain rfl:j=ks.length:=by omega
   obtain⟨q0,q1,q2,q3,_,_,_,_,hlt⟩:=af.four oI.out;obtain⟨p0,p1,p2,p3,y0,y1,y2,y3,hlp⟩:=af.four ow.out;have jA:=HG.out.mv ((M (fun k=>k=w.heap.size) wr).aO (.inl rfl) (.string ⟨nm.toArray⟩) (.slice none 0 0) (.slice Ae ks.length ce) (.string ⟨#[]⟩)) (fun k hk _=>by omega);rw[List.take_of_length_le (by rw[Df];exact Nat.le_refl _)]at jA;have qL:=hid jA;obtain⟨r0,r1,r2,r3,_,_,_,_,_⟩:=af.four (ow.out.gH (.string ⟨nm.toArray⟩) (.slice none 0 0) (.slice Ae ks.length ce) (.string ⟨#[]⟩));simp only[aO]at r0 r1 r2 r3;clear jA;go_wp2
   refine bodyPost_ret (v:=.agg #[.string ⟨nm.toArray⟩,.slice none 0 0,.slice Ae ks.length ce,.string ⟨#[]⟩]) (by simp[results,Tryz.results112,go_sem,r0,r1,r2,r3]) rfl ?_;refine⟨_,rfl,.slice none 0 0,.slice Ae ks.length ce,rfl,Touch.aO HF.out (.inr (by omega)) _ _ _ _,?_⟩;exact(qL.out.done.mono fun i _ hi=>by omega).imp fun W hW=>⟨gJ.nil _ _ _,hW,uf.out,Nat.zero_le _⟩
end
section
open Go.RowKit
open Tr (Nd)
open U (E aJ dX bN eG)
attribute [local go_sem] gD stillUpon
def nY:List (List UInt8):=[U.yt,U.yu,U.CU,U.qG,U.lq,U.fV,U.fZ,U.mW,U.mX,U.gN,U.bI,U.aV,U.bE]
def aal(e:E):Prop:=∀(g o:Nat) (va vk:Value) (w:World),gZ w g o e va vk→U.oq e=true→e.name∈nY→U.count e≤100000→Calls Tryz.prog 85 #[.pointer (some ⟨g,o,none⟩)] w fun x w'=>∃v,x=.returned v∧nW w w' (dX e) v
def oz(e:E):Prop:=∀(g o:Nat) (va vk:Value) (w:World),gZ w g o e va vk→(∀x∈e.kids,U.oq x=true∧x.name∈nY)→U.count e≤100000→Calls Tryz.prog 41 #[.pointer (some ⟨g,o,none⟩)] w fun x w'=>∃v,x=.returned v∧nW w w' (eG e) v
theorem Md(l:List E):(bN l).length=l.length:=by rw[U.Fg,List.length_map]
theorem UL(l:List E)(j:Nat)(h:j<l.length):(bN l).take j++[dX l[j]]=(bN l).take (j+1):=by
 rw[U.Fg,List.take_add_one,List.getElem?_map,List.getElem?_eq_getElem h];rfl
theorem XP(e:E)(ih:∀x∈e.kids,aal x):oz e:=by
 intro g0 o0 va vk w he hok hcnt;obtain⟨B,cb,hvk⟩:=he.2.2.2.2.2.2.1.slice;have HE:=hid he;have q9:=hid ih;have jJ:=hid hok;have hcl:=U.jF e.kids;have hck:=U.aN e;have hl2:e.kids.length≤100000:=by omega
 have HCN:=hid hcnt;obtain⟨hg0,_,_,h2,_,_⟩:=he;subst hvk;clear ih hok hcl hck hcnt;have HRN:=hid (show eG e=.mk 1 [] 0 (bN e.kids)from rfl);go_enter Tryz.func41,Tryz.ntmps41;go_wp2_with fail
 refine bK (fun W=>ag w W∧W.heap.size=w.heap.size+2∧af W w.heap.size 24 ZN∧af W (w.heap.size+1) 24 #[.int .i64 1,.string ⟨#[]⟩,.int .i64 0,.slice none 0 0]) ⟨((M _ _).alloc _).alloc _,by simp,(af.new w 24 _).alloc _,af.new2 w _ 24 _⟩ ?_;rintro W1 ⟨hf1,hs1,yx,Ci⟩;have aK:=hid hf1;have mP:=hid yx;have KA:=hid Ci;have yc:=hid hs1;have Da:=hid (show ja (w.heap.size+2) W1 ((bN e.kids).take 0) (.slice none 0 0) by rw[List.take_zero];exact ja.nil (by omega));clear hf1 yx Ci hs1 hg0 h2
 go_loopw [11] (fun i wr=>∃(j:Nat) (Ae:Option Addr) (ce:Nat),i=.int .i64 j∧j≤e.kids.length∧Hd (af wr w.heap.size 24 ZN)∧Hd (af wr (w.heap.size+1) 24 #[.int .i64 1,.string ⟨#[]⟩,.int .i64 0,.slice Ae j ce])∧Hd (ja (w.heap.size+2) wr ((bN e.kids).take j) (.slice Ae j ce))∧Hd (ag w wr)) (fun i _=>e.kids.length-(intOf i).toNat)
 case atStart=>exact⟨0,none,0,rfl,Nat.zero_le _,mP,KA,Da,aK⟩
 case round=>
  obtain⟨j,Ae,ce,rfl,hj,ow,oI,HG,HF⟩:=hrel;rename_i wr _
  by_cases c1:j<e.kids.length
  ·have d1:decide ((j:Int)<(e.kids.length:Int))=true:=dT (by omega)
   have jo:decide (j<e.kids.length)=true:=dT c1;have d1':(j:Int)<(e.kids.length:Int):=by omega
   have RD:=hid (HE.out.fresh HF.out);obtain⟨g,o,xa,xk,rfl,jW⟩:=(show gK wr e.kids _ from RD.out.2.2.2.2.2.2.1).yw j c1;have AL:=hid jW;have wZ:=hid (List.getElem_mem c1);have lg:=hid (show((bN e.kids).take j).length=j by rw[List.length_take,Md];omega);have nK:=hid (UL e.kids j c1);have HOX:=hid (jJ.out _ wZ.out);have HC:=hid (q9.out _ wZ.out);have Me:=hid (show U.count e.kids[j]≤100000 by have:=U.cB wZ.out;have:=U.aN e;have:=HCN.out;omega);obtain⟨hgr,_,_,h2,_,_⟩:=RD.out;obtain⟨q0,q1,q2,q3,_,_,_,_,hlt⟩:=af.four oI.out;clear jW wZ;generalize e.kids[j]=x at*;go_wp2_with fail
   have k0:=cR h2;have k3:=cR q3;clear h2 q0 q1 q2 q3;refine cu [([(0,true),(1,true),(2,true),(3,true),(4,true),(5,true),(6,true),(7,true),(8,false),(9,false)],10),([(11,true)],12)] [] (by kernel_rfl) (fun _ _ d _ _ h=>by cases d<;>exact h) (by kernel_rfl) ?_;refine dJ ?_
   repeat(refine ak rfl (fun K hK=>?_);go_simp;refine hK _ ?_;clear hK K)
   clear k0 k3;refine aS rfl (fun K hK=>?_);go_wp2_with fail
   refine(HC.out g (o+j*4) xa xk _ (AL.out.fresh ((M _ _).drewN 1)) HOX.out.1 HOX.out.2 Me.out).mono ?_;rintro _ w6 ⟨v6,rfl,sl,rfl,dK,H7,dZ⟩;have fI:=hid (show ag wr w6 from((M _ wr).drewN 1).trans dK);have nV:=hid (show dz (fun k=>k<wr.heap.size) w6 fun W=>aD W (dX x).kids sl from dZ);have RF:=hid H7;obtain⟨Ak,ck,rfl⟩:=dZ.now.slice;clear dK dZ H7;go_wp2
   refine hK _ _ (aA fI.out) ?_;clear hK K;refine aS rfl (fun K hK=>?_);go_wp2
   refine hK _ _ (aA (fI.out.alloc _)) ?_;clear hK K;have kW:=hid (af.new w6 24 #[.int .i64 (dX x).kind,.string ⟨(dX x).text.toArray⟩,.int .i64 (dX x).ah,.slice Ak (dX x).kids.length ck]);have gW:=hid (fI.out.alloc (.cells #[.int .i64 (dX x).kind,.string ⟨(dX x).text.toArray⟩,.int .i64 (dX x).ah,.slice Ak (dX x).kids.length ck] 24));have tq:=hid (nV.out.fresh ((M _ w6).alloc (.cells #[.int .i64 (dX x).kind,.string ⟨(dX x).text.toArray⟩,.int .i64 (dX x).ah,.slice Ak (dX x).kids.length ck] 24)));generalize (w6.alloc (.cells #[.int .i64 (dX x).kind,.string ⟨(dX x).text.toArray⟩,.int .i64 (dX x).ah,.slice Ak (dX x).kids.length ck] 24))=w7 at kW gW tq⊢;have Ej:=hid (HG.out.fresh gW.out);have HOW:=hid HG.out.pY;have tu:=hid (gW.out.blk oI.out fun h=>h);have qc:=hid (gW.out.blk ow.out fun h=>h);have eO:=hid HG.out.1;refine dm rfl (fun K hK=>?_)
   go_wp2_with (at_builtin;go_loud (refine qM rfl (.tmp 15) (.tmp 23) rfl Ej.out lg.out (by simp[Act.eval]) (dX x) kW.out (by simp[Act.eval]) wr.heap.size eO.out (fun k hk=>(HOW.out k hk).2) RF.out tq.out (by omega) ?_);intro A8 c8 w8 jI bR _;refine jw.mk ?_)
   have wI:=hid jI;have tC:=hid (bR.blk tu.out fun h=>by have:=(HOW.out _ h).1;omega);have wE:=hid (bR.blk qc.out fun h=>by have:=(HOW.out _ h).1;omega);have mZ:=hid (show ag w w8 from(HF.out.trans gW.out).trans' bR fun k hk=>.inr (by have:=(HOW.out _ hk).1;omega));clear jI bR;obtain⟨q0,q1,q2,q3,z0,z1,z2,z3,Rn⟩:=af.four tC.out;refine jw.go ?_;go_wp2_with fail
   refine dJ ?_
   repeat(refine ak rfl (fun K hK=>?_);go_simp;refine hK _ ?_;clear hK K)
   refine dm rfl (fun K hK=>?_);go_wp2_with fail
   refine fH ?_;go_wp2_with fail
   have jA:=wI.out.mv ((M (fun k=>k=w.heap.size+1) w8).setCell (p:=⟨w.heap.size+1,3,none⟩) (.inl rfl) (.slice A8 (j+1) c8)) (fun k hk _=>by omega);rw[nK.out]at jA;exact⟨⟨j+1,A8,c8,by simp,by omega,wE.out.far (p:=⟨w.heap.size+1,3,none⟩) (by simp) _,tC.out.put 3 _,jA,mZ.out.setCell (p:=⟨w.heap.size+1,3,none⟩) (.inr (by show w.heap.size≤w.heap.size+1;omega)) _⟩,by simp[intOf];omega⟩
  ·have d1:decide ((j:Int)<(e.kids.length:Int))=false:=dF (by omega)
   have jo:decide (j<e.kids.length)=false:=dF c1;obtain rfl:j=e.kids.length:=by omega
   obtain⟨q0,q1,q2,q3,_,_,_,_,hlt⟩:=af.four oI.out;obtain⟨p0,p1,p2,p3,y0,y1,y2,y3,hlp⟩:=af.four ow.out;have jA:=HG.out.mv ((M (fun k=>k=w.heap.size) wr).aO (.inl rfl) (.int .i64 1) (.string ⟨#[]⟩) (.int .i64 0) (.slice Ae e.kids.length ce)) (fun k hk _=>by omega);rw[List.take_of_length_le (by rw[Md];exact Nat.le_refl _)]at jA;have qL:=hid jA;obtain⟨r0,r1,r2,r3,_,_,_,_,_⟩:=af.four (ow.out.gH (.int .i64 1) (.string ⟨#[]⟩) (.int .i64 0) (.slice Ae e.kids.length ce));simp only[aO]at r0 r1 r2 r3;have xJ:=hid (Touch.aO HF.out (.inr (Nat.le_refl _)) (.int .i64 1) (.string ⟨#[]⟩) (.int .i64 0) (.slice Ae e.kids.length ce));clear jA hl2;go_wp2
   refine bodyPost_ret (v:=.agg #[.int .i64 1,.string ⟨#[]⟩,.int .i64 0,.slice Ae e.kids.length ce]) (by simp[results,Tryz.results41,go_sem,r0,r1,r2,r3]) rfl ?_;refine⟨_,rfl,.slice Ae e.kids.length ce,rfl,xJ.out,Nat.zero_le _,?_⟩;exact(qL.out.done.mono fun i _ hi=>by omega)
end
end Go.Proofs.YtcgbccfpcgaikaaGreatDoor
