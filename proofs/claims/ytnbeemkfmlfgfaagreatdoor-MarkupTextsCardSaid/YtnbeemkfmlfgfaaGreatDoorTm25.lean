/- Part 25 of 48 of a proof. No condition. -/
import Derived.Laws.StructEq
import Derived.Test.YtnbeemkfmlfgfaaGreatDoorTm24
set_option maxRecDepth 100000
set_option maxHeartbeats 3000000
namespace Go.Proofs.YtnbeemkfmlfgfaaGreatDoor
section
open Go.RowKit Go.Maps
open Tr (Nd)
open U (E aA aW fA di dR iy lW N9)
attribute [local go_sem] jg stillUpon
theorem TI{w w':World}{b n:Nat}{D:DataW Unit}(h:w.ownsMap (H:=Unit) Tryz.prog 9 (plainElem Tryz.prog 3) b n D)(hf:ag w w'):w'.ownsMap (H:=Unit) Tryz.prog 9 (plainElem Tryz.prog 3) b n D:=
 h.kept (row:=none) ⟨hf.os,hf.tape,hf.output,hf.size,fun i hi _=>hf.block i hi fun h=>h⟩ (by simp)
theorem Rc(n:List UInt8)(hn:n.length≤maxLen)(c:Int)(hc:U.N9 n=c)(w:World)(b:Nat)(h:w.ownsMap (H:=Unit) Tryz.prog 9 (plainElem Tryz.prog 3) b 4 Oq):
  (Instr.lookup 177 (.map (some b)) (.string ⟨n.toArray⟩) false).run Tryz.prog w=.ok (.int .i64 c) w:=by
 obtain⟨c',hrun,hat,_⟩:=h.lookup_int (q:=.i64) strKeys Tryz.underlying177 Tryz.underlying3 (by exact Tryz.zeroValue3 w) (wH n hn);rw[WA]at hat
 have:c'=c:=by
  rw[←hc];unfold U.N9
  by_cases h1:n=U.iL
  ·subst h1
   simp only[qR,List.find?_cons,beq_self_eq_true]at hat;cases hat;rw[if_pos rfl]
  ·by_cases h2:n=U.jo
   ·subst h2
    have e:qR.find? (·.1==U.jo)=some (U.jo,7):=by decide
    rw[e]at hat;cases hat;rw[if_neg h1,if_pos rfl]
   ·by_cases h3:n=U.jq
    ·subst h3
     have e:qR.find? (·.1==U.jq)=some (U.jq,8):=by decide
     rw[e]at hat;cases hat;rw[if_neg h1,if_neg h2,if_pos rfl]
    ·by_cases h4:n=U.eF
     ·subst h4
      have e:qR.find? (·.1==U.eF)=some (U.eF,9):=by decide
      rw[e]at hat;cases hat;rw[if_neg h1,if_neg h2,if_neg h3,if_pos rfl]
     ·have e:qR.find? (·.1==n)=none:=by
       rw[List.find?_eq_none];intro x hx;simp only[qR,List.mem_cons,List.not_mem_nil,or_false]at hx
       rcases hx with rfl|rfl|rfl|rfl
       ·simpa using fun h=>h1 h.symm
       ·simpa using fun h=>h2 h.symm
       ·simpa using fun h=>h3 h.symm
       ·simpa using fun h=>h4 h.symm
      rw[e]at hat;cases hat;rw[if_neg h1,if_neg h2,if_neg h3,if_neg h4]
 rw[this]at hrun;exact hrun
theorem pU(l:List E):(iy l).length=l.length:=by rw[U.qP,List.length_map]
theorem Jh(l:List E)(j:Nat)(h:j<l.length):(iy l).take j++[dR l[j]]=(iy l).take (j+1):=by
 rw[U.qP,List.take_add_one,List.getElem?_map,List.getElem?_eq_getElem h];rfl
theorem Av(n:List UInt8)(hn:n.length≤maxLen)(TJ:lW n=0)(dK:n≠U.dK)(fo:n≠U.fo)(bF:n≠U.bF)(aT:n≠U.aT)(aU:n≠U.aU)(a:aA)(ks:List E)(t:List UInt8)(g o:Nat)(va vk:Value)(w:World)(he:fC w g o (.mk n a ks t) va vk)
  (hks:∀x∈ks,nM x∧(∀y∈x.kids,U.mM y=true∧y.name∈nE)∧U.count x≤100000) (hkl:ks.length≤100000):
  Calls Tryz.prog 75 #[.pointer (some ⟨g,o,none⟩)] w fun x w'=>∃v,x=.returned v∧kR w w' (fA (.mk n a ks t)) v:=by
 obtain⟨B,cb,hvb⟩:=he.2.2.2.2.2.2.1.slice;replace hvb:vk=.slice B ks.length cb:=hvb;subst hvb;obtain⟨c,hc⟩:∃c,N9 n=c:=⟨_,rfl⟩
 have HIT:=I (show fA (.mk n a ks t)=.mk c [] 0 (iy ks) by
  rw[U.sO];show U.Oa n a t _ _ _=_;unfold U.Oa;rw[if_neg (by rw[TJ];simp),if_neg dK,if_neg fo,if_neg bF,if_neg aT,if_neg aU,hc];rfl)
 rw[HIT.J];have HC:=I hc;have HLF:=I TJ;have kr:=I hn;have Rb:=I hks;have HE:=I he;obtain⟨hg0,a0,_,a2,_,_⟩:=he;replace a0:w.cell? ⟨g,o,none⟩=some (.string ⟨n.toArray⟩):=a0;replace a2:w.cell? ⟨g,o+2,none⟩=some (.slice B ks.length cb):=a2;have yh:(n==[109,115,113,114,116])=false:=beq_eq_false_iff_ne.2 dK;have yg:(n==[109,114,111,111,116])=false:=beq_eq_false_iff_ne.2 fo;have yj:(n==[109,111,118,101,114])=false:=beq_eq_false_iff_ne.2 bF;have sQ:(n==[109,102,101,110,99,101,100])=false:=beq_eq_false_iff_ne.2 aT;have vR:(n==[109,116,97,98,108,101])=false:=beq_eq_false_iff_ne.2 aU;have Le:=I hkl;clear hc TJ hn hks hkl dK fo bF aT aU;go_enter Tryz.func75,Tryz.ntmps75;go_wp2_with fail
 have gm:=I (O.new w 31 Y);have hf0:=(M (fun _=>False) w).alloc (.cells Y 31);have hg1:=gm.J.lt;have dh:=I hf0;have j6:=I (HE.J.fresh hf0);generalize w.alloc (.cells Y 31)=W1 at*;clear hf0 hg0 a0 a2;obtain⟨hg0,a0,_,a2,_,_⟩:=j6.J;replace a0:W1.cell? ⟨g,o,none⟩=some (.string ⟨n.toArray⟩):=a0;replace a2:W1.cell? ⟨g,o+2,none⟩=some (.slice B ks.length cb):=a2;refine(gP n 0 HLF.J _).mono ?_;rintro _ w2 ⟨rfl,hw2⟩;replace hw2:=hw2.symm;subst hw2;go_wp2_with fail
 have k0:=cR a0;refine xw (bq.of [(1,true),(2,true),(3,true),(4,true)] (.fork 0 (.fork 5 (.plain 6 (.lone 7 .nil)) 7 (.lone 5 (.plain 6 .nil))) 7 (.lone 0 (.lone 5 (.plain 6 .nil))))) [0,1,2,3,4,5,6,7] 8 (Array.replicate 8 true++#[false]) [] [] (by kernel_rfl) (fun _ _ d _ _ h=>by cases d<;>exact h) (by kernel_rfl) ?_;unfold bq.of
 repeat(refine aS rfl (fun K hK=>?_);go_simp;refine hK _ ?_;clear hK K;first|done|unfold bq.of)
 clear k0;have hdr:=(M (fun _=>False) W1).drewN 1;have HDR:=I hdr;clear hdr;refine fB ?_ ?_
 focus
  refine ax rfl (fun K hK=>?_);go_wp2_with fail
  refine(zM Unit _).mono ?_;rintro _ w2 ⟨rfl,hown,hf2⟩;have aY:=I (show ag W1 w2 from HDR.J.trans hf2);have HL:=I (fun(W:World) (hW:ag w2 W)=>show(Instr.lookup 177 (.map (some W1.heap.size)) (.string ⟨n.toArray⟩) false).run Tryz.prog W=.ok (.int .i64 c) W from Rc n kr.J c HC.J W _ (TI hown hW));clear hown hf2;go_wp2
  refine hK _ _ (aN aY.J) ?_;clear hK K;refine fB ?_ ?_
  focus
   refine ax rfl (fun K hK=>?_);have hl:=HL.J w2 (M _ _);go_wp2
   refine hK _ _ (aN aY.J) ?_;clear hK K hl;refine aS rfl (fun K hK=>?_);go_simp;refine hK _ ?_;clear hK K
   refine ax rfl (fun K hK=>?_);go_wp2
   refine hK _ _ (aN (aY.J.alloc _)) ?_;clear hK K;have mE:=I (O.new w2 31 Y);have eP:=I (aY.J.alloc (.cells Y 31));generalize w2.alloc (.cells Y 31)=w8 at mE eP⊢;obtain⟨b,hb⟩:∃b,b=w2.heap.size:=⟨_,rfl⟩;have fT:=I (show W1.heap.size≤b by rw[hb];exact aY.J.size);rw[←hb]at mE⊢;clear hb HL aY HDR
  rotate_left
  focus
   refine ax rfl (fun K hK=>?_);go_wp2
   refine hK _ _ (aN (aY.J.alloc _)) ?_;clear hK K;have mE:=I (O.new w2 31 Y);have eP:=I (aY.J.alloc (.cells Y 31));have hl:=HL.J _ ((M _ w2).alloc (.cells Y 31));generalize w2.alloc (.cells Y 31)=w8 at mE eP hl⊢;obtain⟨b,hb⟩:∃b,b=w2.heap.size:=⟨_,rfl⟩;have fT:=I (show W1.heap.size≤b by rw[hb];exact aY.J.size);rw[←hb]at mE⊢;clear hb HL aY HDR;refine ax rfl (fun K hK=>?_);go_wp2
   refine hK _ _ (aN eP.J) ?_;clear hK K hl;refine aS rfl (fun K hK=>?_);go_simp;refine hK _ ?_;clear hK K
 rotate_left
 rotate_left
 focus
  refine ax rfl (fun K hK=>?_);go_wp2
  refine hK _ _ (aN (HDR.J.alloc _)) ?_;clear hK K;have HB3:=I (O.new (W1.drewN 1) 31 Y);have bC:=I (HDR.J.alloc (.cells Y 31));generalize (W1.drewN 1).alloc (.cells Y 31)=w3 at HB3 bC⊢;obtain⟨b,hb⟩:∃b,b=(W1.drewN 1).heap.size:=⟨_,rfl⟩;have fT:=I (show W1.heap.size≤b by rw[hb];exact Nat.le_refl _);rw[show W1.heap.size=b from hb.symm];rw[←hb]at HB3;clear hb HDR;refine ax rfl (fun K hK=>?_);go_wp2_with fail
  refine(zM Unit _).mono ?_;rintro _ w8 ⟨rfl,hown,hf2⟩;have eP:=I (show ag W1 w8 from bC.J.trans hf2);have mE:=I (hf2.blk HB3.J fun h=>h);have hl:=Rc n kr.J c HC.J w8 _ hown;clear hown hf2;go_wp2
  refine hK _ _ (aN eP.J) ?_;clear hK K;refine ax rfl (fun K hK=>?_);go_wp2
  refine hK _ _ (aN eP.J) ?_;clear hK K hl bC HB3;refine aS rfl (fun K hK=>?_);go_simp;refine hK _ ?_;clear hK K
 all_goals
  clear hg0 a0 a2;have qF:=I (eP.J.blk gm.J fun h=>h);have iG:=I (dh.J.trans eP.J);obtain⟨y0,y1,y2,y3,z0,z1,z2,z3,hgr⟩:=O.four mE.J;obtain⟨r0,r1,r2,r3,_,_,_,_,_⟩:=O.four (mE.J.dJ (.int .i64 c) (.string ⟨#[]⟩) (.int .i64 0) (.slice none 0 0));refine AV rfl (fun K hK=>?_);go_wp2_with fail
  refine jk ?_;have Lf:=I (mE.J.dJ (.int .i64 c) (.string ⟨#[]⟩) (.int .i64 0) (.slice none 0 0));have hbne:w.heap.size≠b:=by have:=fT.J;omega
  have Lh:=I (qF.J.MH hbne (.int .i64 c) (.string ⟨#[]⟩) (.int .i64 0) (.slice none 0 0));have Li:=I (Touch.aH iG.J (.inr (show w.heap.size≤b by have:=fT.J;omega)) (.int .i64 c) (.string ⟨#[]⟩) (.int .i64 0) (.slice none 0 0));clear r0 r1 r2 r3 y0 y1 y2 y3 z0 z1 z2 z3;simp only[aH]at Lf Lh Li;generalize (((w8.setCell ⟨b,0,none⟩ (.int .i64 c)).setCell ⟨b,1,none⟩ (.string ⟨#[]⟩)).setCell ⟨b,2,none⟩ (.int .i64 0)).setCell ⟨b,3,none⟩ (.slice none 0 0)=W2 at Lf Lh Li⊢;have hbw:=Lf.J.lt;obtain⟨hg0,_,_,a2,_,_⟩:=HE.J.fresh Li.J;replace a2:W2.cell? ⟨g,o+2,none⟩=some (.slice B ks.length cb):=a2;have hkl:=Le.J;go_wp2_with fail
  have uq:=I (show dU W2.heap.size W2 ((iy ks).take 0) (.slice none 0 0) by rw[List.take_zero];exact dU.nil (Nat.le_refl _));have HBW:=I hbw;have HWW:=I Lh.J.lt;clear hg0 a2 hgr hbw
  go_loopw [144] (fun i wr=>∃(j:Nat) (Ae:Option Addr) (ce:Nat),i=.int .i64 j∧j≤ks.length∧Hd (O wr w.heap.size 31 Y)∧Hd (O wr b 31 #[.int .i64 c,.string ⟨#[]⟩,.int .i64 0,.slice Ae j ce])∧Hd (dU W2.heap.size wr ((iy ks).take j) (.slice Ae j ce))∧Hd (ag w wr)) (fun i _=>ks.length-(intOf i).toNat)
  case atStart=>exact⟨0,none,0,rfl,Nat.zero_le _,Lh,Lf,uq,Li⟩
  case round=>
   clear Lf Lh Li uq;obtain⟨j,Ae,ce,rfl,hj,jX,jO,HG,HF⟩:=hrel;rename_i wr _
   by_cases c1:j<ks.length
   ·have d1:decide ((j:Int)<(ks.length:Int))=true:=dT (by omega)
    have dG:decide (j<ks.length)=true:=dT c1;have d1':(j:Int)<(ks.length:Int):=by omega
    have Ov:=I (HE.J.fresh HF.J);obtain⟨gk,ok,xa,xk,rfl,eB⟩:=(show dL wr ks _ from Ov.J.2.2.2.2.2.2.1).ru j c1;have qQ:=I eB;have mK:=I (show((iy ks).take j).length=j by rw[List.length_take,pU];omega);have DW:=I (Jh ks j c1);have BM:=I (Rb.J _ (List.getElem_mem c1));obtain⟨hgr,_,_,h2,_,_⟩:=Ov.J;replace h2:wr.cell? ⟨g,o+2,none⟩=some (.slice (some ⟨gk,ok,none⟩) ks.length cb):=h2;obtain⟨q0,q1,q2,q3,_,_,_,_,hlt⟩:=O.four jO.J;clear eB;generalize ks[j]=x at*;go_wp2_with fail
    have k0:=cR h2;have k3:=cR q3;clear h2 q0 q1 q2 q3;refine ic [([(0,true),(1,true),(2,true),(3,true),(4,true),(5,true),(6,true),(7,true),(8,false),(9,false)],10),([(11,true)],12)] [] (by kernel_rfl) (fun _ _ d _ _ h=>by cases d<;>exact h) (by kernel_rfl) ?_;refine gT ?_
    repeat(refine bX rfl (fun K hK=>?_);go_simp;refine hK _ ?_;clear hK K)
    clear k0 k3;refine fF rfl (fun K hK=>?_);go_wp2_with fail
    refine(BM.J.1 gk (ok+j*4) xa xk _ (qQ.J.fresh ((M _ _).drewN 1)) BM.J.2.1 BM.J.2.2).mono ?_;rintro _ w6 ⟨v6,rfl,sl,rfl,bu,oV,aQ⟩;have bT:=I (show ag wr w6 from((M _ wr).drewN 1).trans bu);have fM:=I (show aZ (fun k=>k<wr.heap.size) w6 fun W=>aO W (dR x).kids sl from aQ);have xD:=I oV;obtain⟨Ak,ck,rfl⟩:=aQ.now.slice;clear bu aQ oV;go_wp2
    refine hK _ _ (aN bT.J) ?_;clear hK K;refine fF rfl (fun K hK=>?_);go_wp2
    refine hK _ _ (aN (bT.J.alloc _)) ?_;clear hK K;have dX:=I (O.new w6 31 #[.int .i64 (dR x).kind,.string ⟨(dR x).text.toArray⟩,.int .i64 (dR x).ai,.slice Ak (dR x).kids.length ck]);have eZ:=I (bT.J.alloc (.cells #[.int .i64 (dR x).kind,.string ⟨(dR x).text.toArray⟩,.int .i64 (dR x).ai,.slice Ak (dR x).kids.length ck] 31));have jR:=I (fM.J.fresh ((M _ w6).alloc (.cells #[.int .i64 (dR x).kind,.string ⟨(dR x).text.toArray⟩,.int .i64 (dR x).ai,.slice Ak (dR x).kids.length ck] 31)));generalize (w6.alloc (.cells #[.int .i64 (dR x).kind,.string ⟨(dR x).text.toArray⟩,.int .i64 (dR x).ai,.slice Ak (dR x).kids.length ck] 31))=w7 at dX eZ jR⊢;have uu:=I (HG.J.fresh eZ.J);have HOW:=I HG.J.jE;have oU:=I (eZ.J.blk jO.J fun h=>h);have qc:=I (eZ.J.blk jX.J fun h=>h);have bV:=I HG.J.1;refine fP rfl (fun K hK=>?_)
    go_wp2_with (at_builtin;go_loud (refine nA rfl (.tmp 148) (.tmp 156) rfl uu.J mK.J (by simp[Act.eval]) (dR x) dX.J (by simp[Act.eval]) wr.heap.size bV.J (fun k hk=>(HOW.J k hk).2) xD.J jR.J (by omega) ?_);intro A8 c8 w9 gJ bW _;refine iC.mk ?_)
    have nT:=I gJ;have lq:=I (bW.blk oU.J fun h=>by have:=(HOW.J _ h).1;have:=HBW.J;omega);have mJ:=I (bW.blk qc.J fun h=>by have:=(HOW.J _ h).1;have:=HWW.J;omega);have jd:=I (show ag w w9 from(HF.J.trans eZ.J).trans' bW fun k hk=>.inr (by have:=(HOW.J _ hk).1;have:=HWW.J;omega));clear gJ bW;obtain⟨q0,q1,q2,q3,z0,z1,z2,z3,wo⟩:=O.four lq.J;refine iC.go ?_;go_wp2_with fail
    refine gT ?_
    repeat(refine bX rfl (fun K hK=>?_);go_simp;refine hK _ ?_;clear hK K)
    refine fP rfl (fun K hK=>?_);go_wp2_with fail
    refine jk ?_;go_wp2_with fail
    have fO:=nT.J.mv ((M (fun k=>k=b) w9).setCell (p:=⟨b,3,none⟩) (.inl rfl) (.slice A8 (j+1) c8)) (fun k hk _=>by have hk:k=b:=hk;have:=HBW.J;omega);rw[DW.J]at fO;exact⟨⟨j+1,A8,c8,by simp,by omega,mJ.J.far (p:=⟨b,3,none⟩) (by have:=fT.J;show w.heap.size≠b;omega) _,lq.J.put 3 _,fO,jd.J.setCell (p:=⟨b,3,none⟩) (.inr (by show w.heap.size≤b;have:=fT.J;omega)) _⟩,by simp[intOf];omega⟩
   ·have d1:decide ((j:Int)<(ks.length:Int))=false:=dF (by omega)
    have dG:decide (j<ks.length)=false:=dF c1;obtain rfl:j=ks.length:=by omega
    obtain⟨q0,q1,q2,q3,_,_,_,_,hlt⟩:=O.four jO.J;obtain⟨p0,p1,p2,p3,y0,y1,y2,y3,hlp⟩:=O.four jX.J;have fO:=HG.J.mv ((M (fun k=>k=w.heap.size) wr).aH (.inl rfl) (.int .i64 c) (.string ⟨#[]⟩) (.int .i64 0) (.slice Ae ks.length ce)) (fun k hk _=>by have hk:k=w.heap.size:=hk;have:=HWW.J;omega);rw[List.take_of_length_le (by rw[pU];exact Nat.le_refl _)]at fO;have iE:=I fO;obtain⟨r0,r1,r2,r3,_,_,_,_,_⟩:=O.four (jX.J.dJ (.int .i64 c) (.string ⟨#[]⟩) (.int .i64 0) (.slice Ae ks.length ce));simp only[aH]at r0 r1 r2 r3;have jd:=I (Touch.aH HF.J (.inr (Nat.le_refl _)) (.int .i64 c) (.string ⟨#[]⟩) (.int .i64 0) (.slice Ae ks.length ce));clear fO hkl c1 hj hbne;go_wp2
    refine bodyPost_ret (v:=.agg #[.int .i64 c,.string ⟨#[]⟩,.int .i64 0,.slice Ae ks.length ce]) (by simp[results,Tryz.results75,go_sem,r0,r1,r2,r3]) rfl ?_;have hln:=pU ks;refine⟨_,rfl,.slice Ae ks.length ce,rfl,jd.J,Nat.zero_le _,?_⟩;exact(iE.J.done.mono fun i _ hi=>by have:=HWW.J;omega)
end
section
open Go.RowKit
open Tr (Nd)
open U (E aA aW fA di dR iy jF kg)
attribute [local go_sem] jg stillUpon
theorem Qb(l:List E)(i:Nat)(h:i<l.length):jF (l.take (i+1))=jF (l.take i)++iy l[i].kids:=by
 rw[U.CE,U.CE,List.take_add_one,List.getElem?_eq_getElem h,List.flatMap_append];simp
theorem WH(l:List E):(jF l).length≤U.aj l:=by
 induction l with
 |nil=>exact Nat.zero_le _
 |cons x l ih=>
  obtain⟨a,b,ks,c⟩:=x;rw[U.jF,List.length_append,pU,U.aj,U.count];have:=U.gL ks;omega
theorem Qc(a:aA)(ks:List E)(t:List UInt8)(g o:Nat)(va vk:Value)(w:World)(he:fC w g o (.mk ([109,116,97,98,108,101]) a ks t) va vk)
  (hne:0<ks.length) (hks:∀x∈ks,∀y∈x.kids,nM y∧(∀z∈y.kids,U.mM z=true∧z.name∈nE)∧U.count y≤100000) (hkl:U.aj ks≤100000):Calls Tryz.prog 75 #[.pointer (some ⟨g,o,none⟩)] w fun x w'=>∃v,x=.returned v∧kR w w' (fA (.mk ([109,116,97,98,108,101]) a ks t)) v:=by
 obtain⟨A,ca,hva⟩:=he.2.2.2.2.2.1.slice;obtain⟨B,cb,hvb⟩:=he.2.2.2.2.2.2.1.slice;replace hva:va=.slice A a.length ca:=hva;replace hvb:vk=.slice B ks.length cb:=hvb;subst hva;subst hvb;have htl:t.length≤maxLen:=he.2.2.2.2.2.2.2.2;have gX:=I htl;have HE:=I he;obtain⟨hg0,a0,a1,a2,a3,_⟩:=he;replace a0:w.cell? ⟨g,o,none⟩=some (.string ⟨#[109,116,97,98,108,101]⟩):=a0;replace a2:w.cell? ⟨g,o+2,none⟩=some (.slice B ks.length cb):=a2;replace a3:w.cell? ⟨g,o+3,none⟩=some (.string ⟨t.toArray⟩):=a3;have HIT:=I (show fA (.mk ([109,116,97,98,108,101]) a ks t)=.mk 12 [] (kg ks) (jF ks)from by rw[U.sO];rfl);rw[HIT.J];have Rb:=I hks;have Le:=I hkl;have agb:=U.gL ks;have hkn:ks.length≤100000:=by omega
 have hn0:(0:Int)<(ks.length:Int):=by omega
 clear hks hkl agb;go_enter Tryz.func75,Tryz.ntmps75;go_wp2_with fail
 have gm:=I (O.new w 31 Y);have hf0:=(M (fun _=>False) w).alloc (.cells Y 31);have hg1:=gm.J.lt;have dh:=I hf0;have j6:=I (HE.J.fresh hf0);generalize w.alloc (.cells Y 31)=W1 at*;clear hf0 hg0 a0 a1 a2 a3;obtain⟨hg0,a0,a1,a2,a3,_⟩:=j6.J;replace a0:W1.cell? ⟨g,o,none⟩=some (.string ⟨#[109,116,97,98,108,101]⟩):=a0;replace a2:W1.cell? ⟨g,o+2,none⟩=some (.slice B ks.length cb):=a2;replace a3:W1.cell? ⟨g,o+3,none⟩=some (.string ⟨t.toArray⟩):=a3;refine(gP [109,116,97,98,108,101] 0 (by rfl) _).mono ?_;rintro _ w2 ⟨rfl,hw2⟩;replace hw2:=hw2.symm;subst hw2;obtain⟨gk,ok,xa,xk,rfl,eB⟩:=(show dL W1 ks _ from j6.J.2.2.2.2.2.2.1).ru 0 hne;obtain⟨B1,c1',hv1⟩:=eB.2.2.2.2.2.2.1.slice;have h02:=eB.2.2.2.1;have WI:=eB.1;rw[hv1]at h02;replace h02:W1.cell? ⟨gk,ok+2,none⟩=some (.slice B1 ks[0].kids.length c1'):=by simpa using h02
 have adN:=I (show ks[0].kids.length=kg ks by
  match ks,hne with
  |.mk _ _ js _::r,_=>rfl)
 clear eB hv1;rw[adN.J]at h02;go_wp2_with fail
 have hb:=O.new W1 31 #[.int .i64 12,.string ⟨#[]⟩,.int .i64 (kg ks:Nat),.slice none 0 0];have hf2:=(M (fun _=>False) W1).alloc (.cells #[.int .i64 12,.string ⟨#[]⟩,.int .i64 (kg ks:Nat),.slice none 0 0] 31);have fT:=I (show w.heap.size<W1.heap.size from hg1);have HW2:=I (show(W1.alloc (.cells #[.int .i64 12,.string ⟨#[]⟩,.int .i64 (kg ks:Nat),.slice none 0 0] 31)).heap.size=W1.heap.size+1 by simp);generalize W1.alloc (.cells #[.int .i64 12,.string ⟨#[]⟩,.int .i64 (kg ks:Nat),.slice none 0 0] 31)=W2 at*;obtain⟨b,hbe⟩:∃b,b=W1.heap.size:=⟨_,rfl⟩;rw[←hbe]at hb fT HW2;have hbg:W1.heap.size=b:=hbe.symm;have Lf:=I hb;have Lh:=I (hf2.blk gm.J fun h=>h);have Li:=I (dh.J.trans hf2);generalize hcn:kg ks=cn at*;have uy:=I hcn;have uq:=I (show dU (b+1) W2 (jF (ks.take 0)) (.slice none 0 0) by rw[List.take_zero,U.jF];exact dU.nil (by have:=HW2.J;omega));rw[show W1.heap.size=b from hbg];clear hb hf2 hbe hbg hg0 a0 a1 a2 a3 h02 WI adN hcn hg1
 go_loopw [98] (fun i wr=>∃(p m:Nat) (Ae:Option Addr) (ce:Nat),i=.int .i64 p∧p≤ks.length∧Hd ((jF (ks.take p)).length=m)∧Hd (O wr w.heap.size 31 Y)∧Hd (O wr b 31 #[.int .i64 12,.string ⟨#[]⟩,.int .i64 (cn:Int),.slice Ae m ce])∧Hd (dU (b+1) wr (jF (ks.take p)) (.slice Ae m ce))∧Hd (ag w wr)) (fun i _=>ks.length-(intOf i).toNat)
 case atStart=>exact⟨0,0,none,0,rfl,Nat.zero_le _,by show(jF []).length=0;rw[U.jF];rfl,Lh,Lf,uq,Li⟩
 case round=>
  clear Lf Lh Li uq;obtain⟨p,m,Ae,ce,rfl,hp,HM,jX,jO,HG,HF⟩:=hrel;rename_i wr _
  by_cases cp:p<ks.length
  ·have d1:decide ((p:Int)<(ks.length:Int))=true:=dT (by omega)
   have dG:decide (p<ks.length)=true:=dT cp;have d1':(p:Int)<(ks.length:Int):=by omega
   have Ov:=I (HE.J.fresh HF.J);obtain⟨gi,oi,ya,yk,hgi,hey⟩:=(show dL w ks _ from HE.J.2.2.2.2.2.2.1).ru p cp;obtain⟨rfl,rfl⟩:gk=gi∧ok=oi:=by cases hgi;exact⟨rfl,rfl⟩
   have hyl:ks[p].kids.length≤100000:=by
    have h1:=U.dm (List.getElem_mem cp);have h2:=U.aI ks[p];have h3:=U.gL ks[p].kids;have:=Le.J;omega
   have hml:m≤100000:=by
    have h1:=WH (ks.take p);have h2:=U.kV ks p;have:=Le.J;rw[←HM.J];omega
   have vK:=I (Qb ks p cp);have HKX:=I (Rb.J _ (List.getElem_mem cp));obtain⟨Bl,cl,hvl⟩:=hey.2.2.2.2.2.2.1.slice;subst hvl;have ZX:=hey.fresh HF.J;have hgy:=ZX.1;have h2y:=ZX.2.2.2.1;clear ZX;obtain⟨hgr,_,_,h2,_,_⟩:=Ov.J;replace h2:wr.cell? ⟨g,o+2,none⟩=some (.slice (some ⟨gk,ok,none⟩) ks.length cb):=h2;have HPI:=I (fun(W:World) (hW:ag w W)=>hey.fresh hW);have HGI:=I (show∀W:World,ag w W→fC W g o (.mk [109,116,97,98,108,101] a ks t) (.slice A a.length ca) (.slice (some ⟨gk,ok,none⟩) ks.length cb)from fun W hW=>HE.J.fresh hW);clear hey hgi;generalize ks[p]=y at*;go_wp2_with fail
   clear hgy h2y hgr h2
   go_loopw [110] (fun i wr=>∃(j:Nat) (Ae:Option Addr) (ce:Nat),i=.int .i64 j∧j≤y.kids.length∧Hd (O wr w.heap.size 31 Y)∧Hd (O wr b 31 #[.int .i64 12,.string ⟨#[]⟩,.int .i64 (cn:Int),.slice Ae (m+j) ce])∧Hd (dU (b+1) wr (jF (ks.take p)++(iy y.kids).take j) (.slice Ae (m+j) ce))∧Hd (ag w wr)) (fun i _=>y.kids.length-(intOf i).toNat)
   case atStart=>exact⟨0,Ae,ce,rfl,Nat.zero_le _,jX,jO,by rw[List.take_zero,List.append_nil];exact HG,HF⟩
   case round=>
    clear jX jO HG HF;obtain⟨j,Ae,ce,rfl,hj,jX,jO,HG,HF⟩:=hrel;rename_i wr _
    by_cases c1:j<y.kids.length
    ·have e1:decide ((j:Int)<(y.kids.length:Int))=true:=dT (by omega)
     have e1n:decide (j<y.kids.length)=true:=dT c1;have e1':(j:Int)<(y.kids.length:Int):=by omega
     have HPY:=I (HPI.J wr HF.J);obtain⟨gj,oj,za,zk,rfl,eB⟩:=(show dL wr y.kids _ from HPY.J.2.2.2.2.2.2.1).ru j c1;have qQ:=I eB;have mK:=I (show(jF (ks.take p)++(iy y.kids).take j).length=m+j by rw[List.length_append,HM.J,List.length_take,pU];omega);have DW:=I (Jh y.kids j c1);have BM:=I (HKX.J _ (List.getElem_mem c1));obtain⟨hgr,_,_,h2,_,_⟩:=HE.J.fresh HF.J;replace h2:wr.cell? ⟨g,o+2,none⟩=some (.slice (some ⟨gk,ok,none⟩) ks.length cb):=h2;obtain⟨hgy,_,_,h2y,_,_⟩:=HPY.J;obtain⟨q0,q1,q2,q3,_,_,_,_,hlt⟩:=O.four jO.J;clear eB;generalize y.kids[j]=x at*;go_wp2_with fail
     have k0:=cR h2;have k1:=cR h2y;have k3:=cR q3;clear h2 h2y q0 q1 q2 q3;refine ic [([(0,true),(1,true),(2,true),(3,true),(4,true),(5,true),(6,true),(7,true),(8,true),(9,true),(10,true),(11,true),(12,false),(13,false)],14),([(15,true)],16)] [] (by kernel_rfl) (fun _ _ d _ _ h=>by cases d<;>exact h) (by kernel_rfl) ?_;refine gT ?_
     repeat(refine bX rfl (fun K hK=>?_);go_simp;refine hK _ ?_;clear hK K)
     clear k0 k1 k3;refine fF rfl (fun K hK=>?_);go_wp2_with fail
     refine(BM.J.1 gj (oj+j*4) za zk _ (qQ.J.fresh ((M _ _).drewN 1)) BM.J.2.1 BM.J.2.2).mono ?_;rintro _ w6 ⟨v6,rfl,sl,rfl,bu,oV,aQ⟩;have bT:=I (show ag wr w6 from((M _ wr).drewN 1).trans bu);have fM:=I (show aZ (fun k=>k<wr.heap.size) w6 fun W=>aO W (dR x).kids sl from aQ);have xD:=I oV;obtain⟨Ak,ck,rfl⟩:=aQ.now.slice;clear bu aQ oV;go_wp2
     refine hK _ _ (aN bT.J) ?_;clear hK K;refine fF rfl (fun K hK=>?_);go_wp2
     refine hK _ _ (aN (bT.J.alloc _)) ?_;clear hK K;have dX:=I (O.new w6 31 #[.int .i64 (dR x).kind,.string ⟨(dR x).text.toArray⟩,.int .i64 (dR x).ai,.slice Ak (dR x).kids.length ck]);have eZ:=I (bT.J.alloc (.cells #[.int .i64 (dR x).kind,.string ⟨(dR x).text.toArray⟩,.int .i64 (dR x).ai,.slice Ak (dR x).kids.length ck] 31));have jR:=I (fM.J.fresh ((M _ w6).alloc (.cells #[.int .i64 (dR x).kind,.string ⟨(dR x).text.toArray⟩,.int .i64 (dR x).ai,.slice Ak (dR x).kids.length ck] 31)));generalize (w6.alloc (.cells #[.int .i64 (dR x).kind,.string ⟨(dR x).text.toArray⟩,.int .i64 (dR x).ai,.slice Ak (dR x).kids.length ck] 31))=w7 at dX eZ jR⊢;have uu:=I (HG.J.fresh eZ.J);have HOW:=I HG.J.jE;have oU:=I (eZ.J.blk jO.J fun h=>h);have qc:=I (eZ.J.blk jX.J fun h=>h);have bV:=I HG.J.1;refine fP rfl (fun K hK=>?_)
     go_wp2_with (at_builtin;go_loud (refine nA rfl (.tmp 114) (.tmp 126) rfl uu.J mK.J (by simp[Act.eval]) (dR x) dX.J (by simp[Act.eval]) wr.heap.size bV.J (fun k hk=>(HOW.J k hk).2) xD.J jR.J (by omega) ?_);intro A8 c8 w9 gJ bW _;refine iC.mk ?_)
     have nT:=I gJ;have lq:=I (bW.blk oU.J fun h=>by have:=(HOW.J _ h).1;omega);have mJ:=I (bW.blk qc.J fun h=>by have:=(HOW.J _ h).1;have:=fT.J;omega);have jd:=I (show ag w w9 from(HF.J.trans eZ.J).trans' bW fun k hk=>.inr (by have:=(HOW.J _ hk).1;have:=fT.J;omega));clear gJ bW;obtain⟨q0,q1,q2,q3,z0,z1,z2,z3,wo⟩:=O.four lq.J;refine iC.go ?_;go_wp2_with fail
     refine gT ?_
     repeat(refine bX rfl (fun K hK=>?_);go_simp;refine hK _ ?_;clear hK K)
     refine fP rfl (fun K hK=>?_);go_wp2_with fail
     refine jk ?_;go_wp2_with fail
     have fO:=nT.J.mv ((M (fun k=>k=b) w9).setCell (p:=⟨b,3,none⟩) (.inl rfl) (.slice A8 (m+j+1) c8)) (fun k hk _=>by have hk:k=b:=hk;omega);rw[List.append_assoc,DW.J]at fO;exact⟨⟨j+1,A8,c8,by simp,by omega,mJ.J.far (p:=⟨b,3,none⟩) (by have:=fT.J;show w.heap.size≠b;omega) _,lq.J.put 3 _,fO,jd.J.setCell (p:=⟨b,3,none⟩) (.inr (by show w.heap.size≤b;have:=fT.J;omega)) _⟩,by simp[intOf];omega⟩
    ·have e1:decide ((j:Int)<(y.kids.length:Int))=false:=dF (by omega)
     have e1n:decide (j<y.kids.length)=false:=dF c1;obtain rfl:j=y.kids.length:=by omega
     have yK:=I (show(jF (ks.take (p+1))).length=m+y.kids.length by rw[vK.J,List.length_append,HM.J,pU])
     have EH:=I (show dU (b+1) wr (jF (ks.take (p+1))) (.slice Ae (m+y.kids.length) ce) by
      have:=HG.J;rw[show(iy y.kids).take y.kids.length=iy y.kids from List.take_of_length_le (by rw[pU];exact Nat.le_refl _)]at this;rw[vK.J];exact this)
     clear hyl hml c1 hj;go_wp2
     go_roundw
     case rel=>exact⟨p+1,m+y.kids.length,Ae,ce,by go_num,cp,yK,jX,jO,EH,HF⟩
     case measure=>simp[intOf];omega
  ·have d1:decide ((p:Int)<(ks.length:Int))=false:=dF (by omega)
   have dG:decide (p<ks.length)=false:=dF cp;obtain rfl:p=ks.length:=by omega
   obtain⟨q0,q1,q2,q3,_,_,_,_,hlt⟩:=O.four jO.J;obtain⟨p0,p1,p2,p3,y0,y1,y2,y3,hlp⟩:=O.four jX.J;have fO:=HG.J.mv ((M (fun k=>k=w.heap.size) wr).aH (.inl rfl) (.int .i64 12) (.string ⟨#[]⟩) (.int .i64 (cn:Int)) (.slice Ae m ce)) (fun k hk _=>by have hk:k=w.heap.size:=hk;have:=fT.J;omega);rw[List.take_length]at fO;have iE:=I fO;obtain⟨r0,r1,r2,r3,_,_,_,_,_⟩:=O.four (jX.J.dJ (.int .i64 12) (.string ⟨#[]⟩) (.int .i64 (cn:Int)) (.slice Ae m ce));simp only[aH]at r0 r1 r2 r3;have jd:=I (Touch.aH HF.J (.inr (Nat.le_refl _)) (.int .i64 12) (.string ⟨#[]⟩) (.int .i64 (cn:Int)) (.slice Ae m ce));clear fO hkn cp hp hn0;go_wp2
   refine bodyPost_ret (v:=.agg #[.int .i64 12,.string ⟨#[]⟩,.int .i64 (cn:Int),.slice Ae m ce]) (by simp[results,Tryz.results75,go_sem,r0,r1,r2,r3]) rfl ?_;rw[uy.J];refine⟨_,rfl,.slice Ae m ce,rfl,jd.J,Nat.zero_le _,?_⟩;exact(iE.J.done.mono fun i _ hi=>by have:=fT.J;omega)
end
section
open Go.RowKit
open Tr (Nd)
open U (E aA aW mM Dx kD fA di dR)
theorem ZY(e:E)(h:U.bQ e=true):e.name∈nE∨e.name=U.bJ∨e.name=U.ah∨e.name=U.aJ∨e.name=U.bM:=by
 obtain⟨n,a,ks,t⟩:=e;show n∈nE∨n=U.bJ∨n=U.ah∨n=U.aJ∨n=U.bM
 rcases Jc n with h0|h0|h0|h0|h0|h0|h0|h0|h0|h0|h0|h0|h0|h0|h0|h0|h0|hn
 all_goals first
  |(refine .inl ?_;rw[h0];decide)
  |(exact .inr (.inl h0))
  |(exact .inr (.inr (.inl h0)))
  |(exact .inr (.inr (.inr (.inl h0))))
  |(exact .inr (.inr (.inr (.inr h0))))
  |(rw[Q8 n hn]at h;cases h)
theorem EI(x:E)(hok:mM x=true)(hn:x.name=U.bJ∨x.name=U.ah∨x.name=U.aJ):∀y∈x.kids,mM y=true∧y.name∈nE:=by
 intro y hy;rw[U.rP,Bool.and_eq_true,U.vO,List.all_eq_true]at hok;have hxy:=hok.2 y hy;rw[Bool.and_eq_true]at hxy;refine⟨hxy.2,?_⟩;have hoy:=hxy.2;rw[U.rP,Bool.and_eq_true]at hoy;have ha:=hxy.1;obtain⟨n,a,ks,t⟩:=x;obtain⟨m,b,ls,s⟩:=y;replace ha:(if n=U.bJ∨n=U.ah∨n=U.aJ then !(decide (m=U.bJ)||decide (m=U.ah)||decide (m=U.aJ)||decide (m=U.bM))else _)=true:=ha;replace hn:n=U.bJ∨n=U.ah∨n=U.aJ:=hn;rw[if_pos hn]at ha;simp only[Bool.not_eq_true',Bool.or_eq_false_iff,decide_eq_false_iff_not]at ha
 rcases ZY _ hoy.1 with h|h|h|h|h
 ·exact h
 ·exact absurd h ha.1.1.1
 ·exact absurd h ha.1.1.2
 ·exact absurd h ha.1.2
 ·exact absurd h ha.2
theorem ZZ(n:List UInt8)(a:aA)(ks:List E)(t:List UInt8)(hok:mM (.mk n a ks t)=true)(h1:¬(n=U.bJ∨n=U.ah∨n=U.aJ))(h2:n≠U.aU)(h3:n≠U.bM):∀x∈ks,mM x=true∧x.name=U.ah:=by
 intro x hx;rw[U.rP,Bool.and_eq_true,U.vO,List.all_eq_true]at hok;have hxy:=hok.2 x hx;rw[Bool.and_eq_true]at hxy;refine⟨hxy.2,?_⟩;have ha:=hxy.1;obtain⟨m,b,ls,s⟩:=x;replace ha:(if n=U.bJ∨n=U.ah∨n=U.aJ then _ else if n=U.aU then _ else if n=U.bM then _ else decide (m=U.ah))=true:=ha;rw[if_neg h1,if_neg h2,if_neg h3]at ha;exact of_decide_eq_true ha
theorem TK(a:aA)(ks:List E)(t:List UInt8)(hok:mM (.mk U.aU a ks t)=true):∀x∈ks,mM x=true∧x.name=U.bM:=by
 intro x hx;rw[U.rP,Bool.and_eq_true,U.vO,List.all_eq_true]at hok;have hxy:=hok.2 x hx;rw[Bool.and_eq_true]at hxy;refine⟨hxy.2,?_⟩;have ha:=hxy.1;obtain⟨m,b,ls,s⟩:=x;replace ha:(decide (m=U.bM)&&_)=true:=ha;rw[Bool.and_eq_true]at ha;exact of_decide_eq_true ha.1
theorem Z0(x:E)(hok:mM x=true)(hn:x.name=U.bM):∀y∈x.kids,mM y=true∧y.name=U.aJ:=by
 intro y hy;rw[U.rP,Bool.and_eq_true,U.vO,List.all_eq_true]at hok;have hxy:=hok.2 y hy;rw[Bool.and_eq_true]at hxy;refine⟨hxy.2,?_⟩;have ha:=hxy.1;obtain⟨n,a,ks,t⟩:=x;obtain⟨m,b,ls,s⟩:=y;replace hn:n=U.bM:=hn;subst hn;replace ha:decide (m=U.aJ)=true:=ha;exact of_decide_eq_true ha
theorem Ox{l:List E}(h:l.length=1):∃x,l=[x]:=by
 match l,h with
 |[x],_=>exact⟨x,rfl⟩
theorem adO{l:List E}(h:l.length=2):∃x y,l=[x,y]:=by
 match l,h with
 |[x,y],_=>exact⟨x,y,rfl⟩
theorem WJ(e:E)(hok:mM e=true)(hn:e.name∈nE)(hI:∀x∈e.kids,nM x)(hJ:∀x∈e.kids,∀y∈x.kids,nM y):∀(g o:Nat) (va vk:Value) (w:World),fC w g o e va vk→U.count e≤100000→
  Calls Tryz.prog 75 #[.pointer (some ⟨g,o,none⟩)] w fun x w'=>∃v,x=.returned v∧kR w w' (fA e) v:=by
 intro g o va vk w he hc;obtain⟨n,a,ks,t⟩:=e;have hown:U.bQ (.mk n a ks t)=true:=by rw[U.rP,Bool.and_eq_true]at hok;exact hok.1
 replace hn:n∈nE:=hn;replace hI:∀x∈ks,nM x:=hI;replace hJ:∀x∈ks,∀y∈x.kids,nM y:=hJ;have hcl:U.aj ks≤100000:=by rw[U.count]at hc;omega
 have hcx:∀x∈ks,U.count x≤100000:=fun x hx=>by have:=U.dm hx;omega
 have hkn:ks.length≤100000:=by have:=U.gL ks;omega
 have hnr:∀m∈nE,¬(m=U.bJ∨m=U.ah∨m=U.aJ)∧m≠U.bM:=by decide
 have wJ:n≠U.aU→∀x∈ks,∀y∈x.kids,mM y=true∧y.name∈nE:=fun ht x hx=>by
  have:=ZZ n a ks t hok (hnr n hn).1 ht (hnr n hn).2 x hx;exact EI x this.1 (.inr (.inl this.2))
 simp only[nE,List.mem_cons,List.not_mem_nil,or_false]at hn;have hal:∀nm,(aW a nm).length≤maxLen:=Lb he.2.2.2.2.2.1
 rcases hn with rfl|rfl|rfl|rfl|rfl|rfl|rfl|rfl|rfl|rfl|rfl|rfl|rfl
 ·exact acg a ks t g o va vk w he
 ·exact ach a ks t g o va vk w he
 ·exact aci a ks t g o va vk w he
 ·exact TE a ks t g o va vk w he
 ·exact Av U.iL (by decide) (by rfl) (by decide) (by decide) (by decide) (by decide) (by decide) a ks t g o va vk w he (fun x hx=>⟨hI x hx,wJ (by decide) x hx,hcx x hx⟩) hkn
 ·rw[show U.bQ (.mk U.dK a ks t)=_ from I8]at hown
  simp only[Bool.and_eq_true,beq_iff_eq]at hown;obtain⟨x,rfl⟩:=Ox (show ks.length=1 by omega);exact TF a [x] t x rfl (hI x (by simp)) (wJ (by decide) x (by simp)) (hcx x (by simp)) g o va vk w he
 ·rw[show U.bQ (.mk U.fo a ks t)=_ from I7]at hown
  simp only[Bool.and_eq_true,beq_iff_eq]at hown;obtain⟨x,y,rfl⟩:=adO (show ks.length=2 by omega);exact TH a [x,y] t x y rfl (hI x (by simp)) (hI y (by simp)) (wJ (by decide) x (by simp)) (wJ (by decide) y (by simp)) (hcx x (by simp)) (hcx y (by simp)) g o va vk w he
 ·exact Av U.jo (by decide) (by rfl) (by decide) (by decide) (by decide) (by decide) (by decide) a ks t g o va vk w he (fun x hx=>⟨hI x hx,wJ (by decide) x hx,hcx x hx⟩) hkn
 ·exact Av U.jq (by decide) (by rfl) (by decide) (by decide) (by decide) (by decide) (by decide) a ks t g o va vk w he (fun x hx=>⟨hI x hx,wJ (by decide) x hx,hcx x hx⟩) hkn
 ·exact Av U.eF (by decide) (by rfl) (by decide) (by decide) (by decide) (by decide) (by decide) a ks t g o va vk w he (fun x hx=>⟨hI x hx,wJ (by decide) x hx,hcx x hx⟩) hkn
 ·rw[show U.bQ (.mk U.bF a ks t)=_ from I9]at hown
  simp only[Bool.and_eq_true,beq_iff_eq]at hown;obtain⟨x,rfl⟩:=Ox (show ks.length=1 by omega);exact TG a [x] t x rfl (hI x (by simp)) (wJ (by decide) x (by simp)) (hcx x (by simp)) _ rfl (hal _) g o va vk w he
 ·rw[show U.bQ (.mk U.aT a ks t)=_ from EC]at hown
  simp only[Bool.and_eq_true,beq_iff_eq]at hown;obtain⟨x,rfl⟩:=Ox (show ks.length=1 by omega);exact Ow a [x] t x rfl (hI x (by simp)) (wJ (by decide) x (by simp)) (hcx x (by simp)) _ _ rfl rfl (by omega) (by omega) g o va vk w he
 ·have hlen:0<ks.length:=by
   rw[show U.bQ (.mk U.aU a ks t)=_ from Gi]at hown;simp only[Bool.and_eq_true,decide_eq_true_eq]at hown;omega
  refine Qc a ks t g o va vk w he hlen (fun x hx y hy=>⟨hJ x hx y hy,?_,?_⟩) hcl
  ·have h1:=TK a ks t hok x hx
   have h2:=Z0 x h1.1 h1.2 y hy;exact EI y h2.1 (.inr (.inr h2.2))
  ·have h1:=U.dm hy
   have h2:=U.aI x;have:=hcx x hx;omega
theorem WK:∀(m:Nat) (e:E),U.count e≤m→WC e∧nM e:=by
 intro m
 induction m with
 |zero=>intro e h;have:=U.gQ e;omega
 |succ m ih=>
  intro e hm;have hk:∀x∈e.kids,U.count x≤m:=fun x hx=>by have:=U.dm hx;have:=U.aI e;omega
  refine⟨fun g o va vk w he hok hn hc=>WJ e hok hn (fun x hx=>(ih x (hk x hx)).2) (fun x hx y hy=>(ih y (by have:=U.dm hy;have:=U.aI x;have:=hk x hx;omega)).2) g o va vk w he hc,?_⟩;exact TD e fun x hx=>(ih x (hk x hx)).1
theorem WL(e:E):nM e:=(WK _ e (Nat.le_refl _)).2
end
section
open Go.RowKit
open U (E aA)
end
end Go.Proofs.YtnbeemkfmlfgfaaGreatDoor
