/- Part 27 of 46 of a proof. No condition. -/
import Derived.Laws.StructEq
import Derived.Test.YtcgbccfpcgaikaaGreatDoorYm26
set_option maxRecDepth 100000
set_option maxHeartbeats 3000000
namespace Go.Proofs.YtcgbccfpcgaikaaGreatDoor
section
open Go.RowKit Go.Maps
open Tr (Nd)
open U (E aJ fJ dX bN eG iN nO Rw)
attribute [local go_sem] gD stillUpon
theorem XX{w w':World}{b n:Nat}{D:DataW Unit}(h:w.ownsMap (H:=Unit) Tryz.prog 9 (plainElem Tryz.prog 3) b n D)(hf:ag w w'):w'.ownsMap (H:=Unit) Tryz.prog 9 (plainElem Tryz.prog 3) b n D:=
 h.kept (row:=none) ⟨hf.os,hf.tape,hf.output,hf.size,fun i hi _=>hf.block i hi fun h=>h⟩ (by simp)
theorem VG(n:List UInt8)(hn:n.length≤maxLen)(c:Int)(hc:U.Rw n=c)(w:World)(b:Nat)(h:w.ownsMap (H:=Unit) Tryz.prog 9 (plainElem Tryz.prog 3) b 4 RA):
  (Instr.lookup 150 (.map (some b)) (.string ⟨n.toArray⟩) false).run Tryz.prog w=.ok (.int .i64 c) w:=by
 obtain⟨c',hrun,hat,_⟩:=h.lookup_int (q:=.i64) strKeys Tryz.underlying150 Tryz.underlying3 (by exact Tryz.zeroValue3 w) (yC n hn);rw[aaj]at hat
 have:c'=c:=by
  rw[←hc];unfold U.Rw
  by_cases h1:n=U.lq
  ·subst h1
   simp only[sM,List.find?_cons,beq_self_eq_true]at hat;cases hat;rw[if_pos rfl]
  ·by_cases h2:n=U.mW
   ·subst h2
    have e:sM.find? (·.1==U.mW)=some (U.mW,7):=by decide
    rw[e]at hat;cases hat;rw[if_neg h1,if_pos rfl]
   ·by_cases h3:n=U.mX
    ·subst h3
     have e:sM.find? (·.1==U.mX)=some (U.mX,8):=by decide
     rw[e]at hat;cases hat;rw[if_neg h1,if_neg h2,if_pos rfl]
    ·by_cases h4:n=U.gN
     ·subst h4
      have e:sM.find? (·.1==U.gN)=some (U.gN,9):=by decide
      rw[e]at hat;cases hat;rw[if_neg h1,if_neg h2,if_neg h3,if_pos rfl]
     ·have e:sM.find? (·.1==n)=none:=by
       rw[List.find?_eq_none];intro x hx;simp only[sM,List.mem_cons,List.not_mem_nil,or_false]at hx
       rcases hx with rfl|rfl|rfl|rfl
       ·simpa using fun h=>h1 h.symm
       ·simpa using fun h=>h2 h.symm
       ·simpa using fun h=>h3 h.symm
       ·simpa using fun h=>h4 h.symm
      rw[e]at hat;cases hat;rw[if_neg h1,if_neg h2,if_neg h3,if_neg h4]
 rw[this]at hrun;exact hrun
theorem vw(l:List E):(iN l).length=l.length:=by rw[U.sK,List.length_map]
theorem Mf(l:List E)(j:Nat)(h:j<l.length):(iN l).take j++[eG l[j]]=(iN l).take (j+1):=by
 rw[U.sK,List.take_add_one,List.getElem?_map,List.getElem?_eq_getElem h];rfl
theorem Dh(n:List UInt8)(hn:n.length≤maxLen)(XY:nO n=0)(fV:n≠U.fV)(fZ:n≠U.fZ)(bI:n≠U.bI)(aV:n≠U.aV)(bE:n≠U.bE)(a:aJ)(ks:List E)(t:List UInt8)(g o:Nat)(va vk:Value)(w:World)(he:gZ w g o (.mk n a ks t) va vk)
  (hks:∀x∈ks,oz x∧(∀y∈x.kids,U.oq y=true∧y.name∈nY)∧U.count x≤100000) (hkl:ks.length≤100000):
  Calls Tryz.prog 85 #[.pointer (some ⟨g,o,none⟩)] w fun x w'=>∃v,x=.returned v∧nW w w' (dX (.mk n a ks t)) v:=by
 obtain⟨B,cb,hvb⟩:=he.2.2.2.2.2.2.1.slice;replace hvb:vk=.slice B ks.length cb:=hvb;subst hvb;obtain⟨c,hc⟩:∃c,Rw n=c:=⟨_,rfl⟩
 have HIT:=hid (show dX (.mk n a ks t)=.mk c [] 0 (iN ks) by
  rw[U.zi];show U.mkN n a t _ _ _=_;unfold U.mkN;rw[if_neg (by rw[XY];simp),if_neg fV,if_neg fZ,if_neg bI,if_neg aV,if_neg bE,hc];rfl)
 rw[HIT.out];have HC:=hid hc;have Hy:=hid XY;have wH:=hid hn;have Em:=hid hks;have HE:=hid he;obtain⟨hg0,a0,_,a2,_,_⟩:=he;replace a0:w.cell? ⟨g,o,none⟩=some (.string ⟨n.toArray⟩):=a0;replace a2:w.cell? ⟨g,o+2,none⟩=some (.slice B ks.length cb):=a2;have aj8:(n==[109,115,113,114,116])=false:=beq_eq_false_iff_ne.2 fV;have aj9:(n==[109,114,111,111,116])=false:=beq_eq_false_iff_ne.2 fZ;have aj':(n==[109,111,118,101,114])=false:=beq_eq_false_iff_ne.2 bI;have aiV:(n==[109,102,101,110,99,101,100])=false:=beq_eq_false_iff_ne.2 aV;have ajQ:(n==[109,116,97,98,108,101])=false:=beq_eq_false_iff_ne.2 bE;have HKL:=hid hkl;clear hc XY hn hks hkl fV fZ bI aV bE;go_enter Tryz.func85,Tryz.ntmps85;go_wp2_with fail
 have jV:=hid (af.new w 24 ZN);have hf0:=(M (fun _=>False) w).alloc (.cells ZN 24);have hg1:=jV.out.lt;have jQ:=hid hf0;have kI:=hid (HE.out.fresh hf0);generalize w.alloc (.cells ZN 24)=W1 at*;clear hf0 hg0 a0 a2;obtain⟨hg0,a0,_,a2,_,_⟩:=kI.out;replace a0:W1.cell? ⟨g,o,none⟩=some (.string ⟨n.toArray⟩):=a0;replace a2:W1.cell? ⟨g,o+2,none⟩=some (.slice B ks.length cb):=a2;refine(uG n 0 Hy.out _).mono ?_;rintro _ w2 ⟨rfl,hw2⟩;replace hw2:=hw2.symm;subst hw2;go_wp2_with fail
 have k0:=cR a0;refine MS (gq.of [(1,true),(2,true),(3,true),(4,true)] (.fork 0 (.fork 5 (.plain 6 (.lone 7 .nil)) 7 (.lone 5 (.plain 6 .nil))) 7 (.lone 0 (.lone 5 (.plain 6 .nil))))) [0,1,2,3,4,5,6,7] 8 (Array.replicate 8 true++#[false]) [] [] (by kernel_rfl) (fun _ _ d _ _ h=>by cases d<;>exact h) (by kernel_rfl) ?_;unfold gq.of
 repeat(refine eX rfl (fun K hK=>?_);go_simp;refine hK _ ?_;clear hK K;first|done|unfold gq.of)
 clear k0;have hdr:=(M (fun _=>False) W1).drewN 1;have HDR:=hid hdr;clear hdr;refine o6 ?_ ?_
 focus
  refine aW rfl (fun K hK=>?_);go_wp2_with fail
  refine(Ch Unit _).mono ?_;rintro _ w2 ⟨rfl,hown,hf2⟩;have bW:=hid (show ag W1 w2 from HDR.out.trans hf2);have HL:=hid (fun(W:World) (hW:ag w2 W)=>show(Instr.lookup 150 (.map (some W1.heap.size)) (.string ⟨n.toArray⟩) false).run Tryz.prog W=.ok (.int .i64 c) W from VG n wH.out c HC.out W _ (XX hown hW));clear hown hf2;go_wp2
  refine hK _ _ (aA bW.out) ?_;clear hK K;refine o6 ?_ ?_
  focus
   refine aW rfl (fun K hK=>?_);have hl:=HL.out w2 (M _ _);go_wp2
   refine hK _ _ (aA bW.out) ?_;clear hK K hl;refine eX rfl (fun K hK=>?_);go_simp;refine hK _ ?_;clear hK K
   refine aW rfl (fun K hK=>?_);go_wp2
   refine hK _ _ (aA (bW.out.alloc _)) ?_;clear hK K;have lT:=hid (af.new w2 24 ZN);have mZ:=hid (bW.out.alloc (.cells ZN 24));generalize w2.alloc (.cells ZN 24)=w8 at lT mZ⊢;obtain⟨b,hb⟩:∃b,b=w2.heap.size:=⟨_,rfl⟩;have gu:=hid (show W1.heap.size≤b by rw[hb];exact bW.out.size);rw[←hb]at lT⊢;clear hb HL bW HDR
  rotate_left
  focus
   refine aW rfl (fun K hK=>?_);go_wp2
   refine hK _ _ (aA (bW.out.alloc _)) ?_;clear hK K;have lT:=hid (af.new w2 24 ZN);have mZ:=hid (bW.out.alloc (.cells ZN 24));have hl:=HL.out _ ((M _ w2).alloc (.cells ZN 24));generalize w2.alloc (.cells ZN 24)=w8 at lT mZ hl⊢;obtain⟨b,hb⟩:∃b,b=w2.heap.size:=⟨_,rfl⟩;have gu:=hid (show W1.heap.size≤b by rw[hb];exact bW.out.size);rw[←hb]at lT⊢;clear hb HL bW HDR;refine aW rfl (fun K hK=>?_);go_wp2
   refine hK _ _ (aA mZ.out) ?_;clear hK K hl;refine eX rfl (fun K hK=>?_);go_simp;refine hK _ ?_;clear hK K
 rotate_left
 rotate_left
 focus
  refine aW rfl (fun K hK=>?_);go_wp2
  refine hK _ _ (aA (HDR.out.alloc _)) ?_;clear hK K;have HB3:=hid (af.new (W1.drewN 1) 24 ZN);have bJ:=hid (HDR.out.alloc (.cells ZN 24));generalize (W1.drewN 1).alloc (.cells ZN 24)=w3 at HB3 bJ⊢;obtain⟨b,hb⟩:∃b,b=(W1.drewN 1).heap.size:=⟨_,rfl⟩;have gu:=hid (show W1.heap.size≤b by rw[hb];exact Nat.le_refl _);rw[show W1.heap.size=b from hb.symm];rw[←hb]at HB3;clear hb HDR;refine aW rfl (fun K hK=>?_);go_wp2_with fail
  refine(Ch Unit _).mono ?_;rintro _ w8 ⟨rfl,hown,hf2⟩;have mZ:=hid (show ag W1 w8 from bJ.out.trans hf2);have lT:=hid (hf2.blk HB3.out fun h=>h);have hl:=VG n wH.out c HC.out w8 _ hown;clear hown hf2;go_wp2
  refine hK _ _ (aA mZ.out) ?_;clear hK K;refine aW rfl (fun K hK=>?_);go_wp2
  refine hK _ _ (aA mZ.out) ?_;clear hK K hl bJ HB3;refine eX rfl (fun K hK=>?_);go_simp;refine hK _ ?_;clear hK K
 all_goals
  clear hg0 a0 a2;have ZU:=hid (mZ.out.blk jV.out fun h=>h);have gL:=hid (jQ.out.trans mZ.out);obtain⟨y0,y1,y2,y3,z0,z1,z2,z3,hgr⟩:=af.four lT.out;obtain⟨r0,r1,r2,r3,_,_,_,_,_⟩:=af.four (lT.out.gH (.int .i64 c) (.string ⟨#[]⟩) (.int .i64 0) (.slice none 0 0));refine TW rfl (fun K hK=>?_);go_wp2_with fail
  refine fH ?_;have Di:=hid (lT.out.gH (.int .i64 c) (.string ⟨#[]⟩) (.int .i64 0) (.slice none 0 0));have hbne:w.heap.size≠b:=by have:=gu.out;omega
  have OB:=hid (ZU.out.uJ hbne (.int .i64 c) (.string ⟨#[]⟩) (.int .i64 0) (.slice none 0 0));have OC:=hid (Touch.aO gL.out (.inr (show w.heap.size≤b by have:=gu.out;omega)) (.int .i64 c) (.string ⟨#[]⟩) (.int .i64 0) (.slice none 0 0));clear r0 r1 r2 r3 y0 y1 y2 y3 z0 z1 z2 z3;simp only[aO]at Di OB OC;generalize (((w8.setCell ⟨b,0,none⟩ (.int .i64 c)).setCell ⟨b,1,none⟩ (.string ⟨#[]⟩)).setCell ⟨b,2,none⟩ (.int .i64 0)).setCell ⟨b,3,none⟩ (.slice none 0 0)=W2 at Di OB OC⊢;have hbw:=Di.out.lt;obtain⟨hg0,_,_,a2,_,_⟩:=HE.out.fresh OC.out;replace a2:W2.cell? ⟨g,o+2,none⟩=some (.slice B ks.length cb):=a2;have hkl:=HKL.out;go_wp2_with fail
  have Da:=hid (show ja W2.heap.size W2 ((iN ks).take 0) (.slice none 0 0) by rw[List.take_zero];exact ja.nil (Nat.le_refl _));have HBW:=hid hbw;have HWW:=hid OB.out.lt;clear hg0 a2 hgr hbw
  go_loopw [144] (fun i wr=>∃(j:Nat) (Ae:Option Addr) (ce:Nat),i=.int .i64 j∧j≤ks.length∧Hd (af wr w.heap.size 24 ZN)∧Hd (af wr b 24 #[.int .i64 c,.string ⟨#[]⟩,.int .i64 0,.slice Ae j ce])∧Hd (ja W2.heap.size wr ((iN ks).take j) (.slice Ae j ce))∧Hd (ag w wr)) (fun i _=>ks.length-(intOf i).toNat)
  case atStart=>exact⟨0,none,0,rfl,Nat.zero_le _,OB,Di,Da,OC⟩
  case round=>
   clear Di OB OC Da;obtain⟨j,Ae,ce,rfl,hj,ow,oI,HG,HF⟩:=hrel;rename_i wr _
   by_cases c1:j<ks.length
   ·have d1:decide ((j:Int)<(ks.length:Int))=true:=dT (by omega)
    have jo:decide (j<ks.length)=true:=dT c1;have d1':(j:Int)<(ks.length:Int):=by omega
    have RD:=hid (HE.out.fresh HF.out);obtain⟨gk,ok,xa,xk,rfl,jW⟩:=(show gK wr ks _ from RD.out.2.2.2.2.2.2.1).yw j c1;have AL:=hid jW;have lg:=hid (show((iN ks).take j).length=j by rw[List.length_take,vw];omega);have nK:=hid (Mf ks j c1);have Me:=hid (Em.out _ (List.getElem_mem c1));obtain⟨hgr,_,_,h2,_,_⟩:=RD.out;replace h2:wr.cell? ⟨g,o+2,none⟩=some (.slice (some ⟨gk,ok,none⟩) ks.length cb):=h2;obtain⟨q0,q1,q2,q3,_,_,_,_,hlt⟩:=af.four oI.out;clear jW;generalize ks[j]=x at*;go_wp2_with fail
    have k0:=cR h2;have k3:=cR q3;clear h2 q0 q1 q2 q3;refine cu [([(0,true),(1,true),(2,true),(3,true),(4,true),(5,true),(6,true),(7,true),(8,false),(9,false)],10),([(11,true)],12)] [] (by kernel_rfl) (fun _ _ d _ _ h=>by cases d<;>exact h) (by kernel_rfl) ?_;refine dJ ?_
    repeat(refine ak rfl (fun K hK=>?_);go_simp;refine hK _ ?_;clear hK K)
    clear k0 k3;refine aS rfl (fun K hK=>?_);go_wp2_with fail
    refine(Me.out.1 gk (ok+j*4) xa xk _ (AL.out.fresh ((M _ _).drewN 1)) Me.out.2.1 Me.out.2.2).mono ?_;rintro _ w6 ⟨v6,rfl,sl,rfl,dK,H7,dZ⟩;have fI:=hid (show ag wr w6 from((M _ wr).drewN 1).trans dK);have nV:=hid (show dz (fun k=>k<wr.heap.size) w6 fun W=>aD W (eG x).kids sl from dZ);have RF:=hid H7;obtain⟨Ak,ck,rfl⟩:=dZ.now.slice;clear dK dZ H7;go_wp2
    refine hK _ _ (aA fI.out) ?_;clear hK K;refine aS rfl (fun K hK=>?_);go_wp2
    refine hK _ _ (aA (fI.out.alloc _)) ?_;clear hK K;have kW:=hid (af.new w6 24 #[.int .i64 (eG x).kind,.string ⟨(eG x).text.toArray⟩,.int .i64 (eG x).ah,.slice Ak (eG x).kids.length ck]);have gW:=hid (fI.out.alloc (.cells #[.int .i64 (eG x).kind,.string ⟨(eG x).text.toArray⟩,.int .i64 (eG x).ah,.slice Ak (eG x).kids.length ck] 24));have tq:=hid (nV.out.fresh ((M _ w6).alloc (.cells #[.int .i64 (eG x).kind,.string ⟨(eG x).text.toArray⟩,.int .i64 (eG x).ah,.slice Ak (eG x).kids.length ck] 24)));generalize (w6.alloc (.cells #[.int .i64 (eG x).kind,.string ⟨(eG x).text.toArray⟩,.int .i64 (eG x).ah,.slice Ak (eG x).kids.length ck] 24))=w7 at kW gW tq⊢;have Ej:=hid (HG.out.fresh gW.out);have HOW:=hid HG.out.pY;have tu:=hid (gW.out.blk oI.out fun h=>h);have qc:=hid (gW.out.blk ow.out fun h=>h);have eO:=hid HG.out.1;refine dm rfl (fun K hK=>?_)
    go_wp2_with (at_builtin;go_loud (refine qM rfl (.tmp 148) (.tmp 156) rfl Ej.out lg.out (by simp[Act.eval]) (eG x) kW.out (by simp[Act.eval]) wr.heap.size eO.out (fun k hk=>(HOW.out k hk).2) RF.out tq.out (by omega) ?_);intro A8 c8 w9 jI bR _;refine jw.mk ?_)
    have wI:=hid jI;have tC:=hid (bR.blk tu.out fun h=>by have:=(HOW.out _ h).1;have:=HBW.out;omega);have wE:=hid (bR.blk qc.out fun h=>by have:=(HOW.out _ h).1;have:=HWW.out;omega);have xJ:=hid (show ag w w9 from(HF.out.trans gW.out).trans' bR fun k hk=>.inr (by have:=(HOW.out _ hk).1;have:=HWW.out;omega));clear jI bR;obtain⟨q0,q1,q2,q3,z0,z1,z2,z3,Rn⟩:=af.four tC.out;refine jw.go ?_;go_wp2_with fail
    refine dJ ?_
    repeat(refine ak rfl (fun K hK=>?_);go_simp;refine hK _ ?_;clear hK K)
    refine dm rfl (fun K hK=>?_);go_wp2_with fail
    refine fH ?_;go_wp2_with fail
    have jA:=wI.out.mv ((M (fun k=>k=b) w9).setCell (p:=⟨b,3,none⟩) (.inl rfl) (.slice A8 (j+1) c8)) (fun k hk _=>by have hk:k=b:=hk;have:=HBW.out;omega);rw[nK.out]at jA;exact⟨⟨j+1,A8,c8,by simp,by omega,wE.out.far (p:=⟨b,3,none⟩) (by have:=gu.out;show w.heap.size≠b;omega) _,tC.out.put 3 _,jA,xJ.out.setCell (p:=⟨b,3,none⟩) (.inr (by show w.heap.size≤b;have:=gu.out;omega)) _⟩,by simp[intOf];omega⟩
   ·have d1:decide ((j:Int)<(ks.length:Int))=false:=dF (by omega)
    have jo:decide (j<ks.length)=false:=dF c1;obtain rfl:j=ks.length:=by omega
    obtain⟨q0,q1,q2,q3,_,_,_,_,hlt⟩:=af.four oI.out;obtain⟨p0,p1,p2,p3,y0,y1,y2,y3,hlp⟩:=af.four ow.out;have jA:=HG.out.mv ((M (fun k=>k=w.heap.size) wr).aO (.inl rfl) (.int .i64 c) (.string ⟨#[]⟩) (.int .i64 0) (.slice Ae ks.length ce)) (fun k hk _=>by have hk:k=w.heap.size:=hk;have:=HWW.out;omega);rw[List.take_of_length_le (by rw[vw];exact Nat.le_refl _)]at jA;have qL:=hid jA;obtain⟨r0,r1,r2,r3,_,_,_,_,_⟩:=af.four (ow.out.gH (.int .i64 c) (.string ⟨#[]⟩) (.int .i64 0) (.slice Ae ks.length ce));simp only[aO]at r0 r1 r2 r3;have xJ:=hid (Touch.aO HF.out (.inr (Nat.le_refl _)) (.int .i64 c) (.string ⟨#[]⟩) (.int .i64 0) (.slice Ae ks.length ce));clear jA hkl c1 hj hbne;go_wp2
    refine bodyPost_ret (v:=.agg #[.int .i64 c,.string ⟨#[]⟩,.int .i64 0,.slice Ae ks.length ce]) (by simp[results,Tryz.results85,go_sem,r0,r1,r2,r3]) rfl ?_;have hln:=vw ks;refine⟨_,rfl,.slice Ae ks.length ce,rfl,xJ.out,Nat.zero_le _,?_⟩;exact(qL.out.done.mono fun i _ hi=>by have:=HWW.out;omega)
end
section
open Go.RowKit
open Tr (Nd)
open U (E aJ fJ dX bN eG iN jL wT)
attribute [local go_sem] gD stillUpon
theorem UM(l:List E)(i:Nat)(h:i<l.length):jL (l.take (i+1))=jL (l.take i)++iN l[i].kids:=by
 rw[U.Fh,U.Fh,List.take_add_one,List.getElem?_eq_getElem h,List.flatMap_append];simp
theorem aan(l:List E):(jL l).length≤U.az l:=by
 induction l with
 |nil=>exact Nat.zero_le _
 |cons x l ih=>
  obtain⟨a,b,ks,c⟩:=x;rw[U.jL,List.length_append,vw,U.az,U.count];have:=U.jF ks;omega
theorem UN(a:aJ)(ks:List E)(t:List UInt8)(g o:Nat)(va vk:Value)(w:World)(he:gZ w g o (.mk ([109,116,97,98,108,101]) a ks t) va vk)
  (hne:0<ks.length) (hks:∀x∈ks,∀y∈x.kids,oz y∧(∀z∈y.kids,U.oq z=true∧z.name∈nY)∧U.count y≤100000) (hkl:U.az ks≤100000):Calls Tryz.prog 85 #[.pointer (some ⟨g,o,none⟩)] w fun x w'=>∃v,x=.returned v∧nW w w' (dX (.mk ([109,116,97,98,108,101]) a ks t)) v:=by
 obtain⟨A,ca,hva⟩:=he.2.2.2.2.2.1.slice;obtain⟨B,cb,hvb⟩:=he.2.2.2.2.2.2.1.slice;replace hva:va=.slice A a.length ca:=hva;replace hvb:vk=.slice B ks.length cb:=hvb;subst hva;subst hvb;have htl:t.length≤maxLen:=he.2.2.2.2.2.2.2.2;have wL:=hid htl;have HE:=hid he;obtain⟨hg0,a0,a1,a2,a3,_⟩:=he;replace a0:w.cell? ⟨g,o,none⟩=some (.string ⟨#[109,116,97,98,108,101]⟩):=a0;replace a2:w.cell? ⟨g,o+2,none⟩=some (.slice B ks.length cb):=a2;replace a3:w.cell? ⟨g,o+3,none⟩=some (.string ⟨t.toArray⟩):=a3;have HIT:=hid (show dX (.mk ([109,116,97,98,108,101]) a ks t)=.mk 12 [] (wT ks) (jL ks)from by rw[U.zi];rfl);rw[HIT.out];have Em:=hid hks;have HKL:=hid hkl;have aiW:=U.jF ks;have hkn:ks.length≤100000:=by omega
 have hn0:(0:Int)<(ks.length:Int):=by omega
 clear hks hkl aiW;go_enter Tryz.func85,Tryz.ntmps85;go_wp2_with fail
 have jV:=hid (af.new w 24 ZN);have hf0:=(M (fun _=>False) w).alloc (.cells ZN 24);have hg1:=jV.out.lt;have jQ:=hid hf0;have kI:=hid (HE.out.fresh hf0);generalize w.alloc (.cells ZN 24)=W1 at*;clear hf0 hg0 a0 a1 a2 a3;obtain⟨hg0,a0,a1,a2,a3,_⟩:=kI.out;replace a0:W1.cell? ⟨g,o,none⟩=some (.string ⟨#[109,116,97,98,108,101]⟩):=a0;replace a2:W1.cell? ⟨g,o+2,none⟩=some (.slice B ks.length cb):=a2;replace a3:W1.cell? ⟨g,o+3,none⟩=some (.string ⟨t.toArray⟩):=a3;refine(uG [109,116,97,98,108,101] 0 (by rfl) _).mono ?_;rintro _ w2 ⟨rfl,hw2⟩;replace hw2:=hw2.symm;subst hw2;obtain⟨gk,ok,xa,xk,rfl,jW⟩:=(show gK W1 ks _ from kI.out.2.2.2.2.2.2.1).yw 0 hne;obtain⟨B1,c1',hv1⟩:=jW.2.2.2.2.2.2.1.slice;have h02:=jW.2.2.2.1;have hgk:=jW.1;rw[hv1]at h02;replace h02:W1.cell? ⟨gk,ok+2,none⟩=some (.slice B1 ks[0].kids.length c1'):=by simpa using h02
 have af3:=hid (show ks[0].kids.length=wT ks by
  match ks,hne with
  |.mk _ _ js _::r,_=>rfl)
 clear jW hv1;rw[af3.out]at h02;go_wp2_with fail
 have hb:=af.new W1 24 #[.int .i64 12,.string ⟨#[]⟩,.int .i64 (wT ks:Nat),.slice none 0 0];have hf2:=(M (fun _=>False) W1).alloc (.cells #[.int .i64 12,.string ⟨#[]⟩,.int .i64 (wT ks:Nat),.slice none 0 0] 24);have gu:=hid (show w.heap.size<W1.heap.size from hg1);have HW2:=hid (show(W1.alloc (.cells #[.int .i64 12,.string ⟨#[]⟩,.int .i64 (wT ks:Nat),.slice none 0 0] 24)).heap.size=W1.heap.size+1 by simp);generalize W1.alloc (.cells #[.int .i64 12,.string ⟨#[]⟩,.int .i64 (wT ks:Nat),.slice none 0 0] 24)=W2 at*;obtain⟨b,hbe⟩:∃b,b=W1.heap.size:=⟨_,rfl⟩;rw[←hbe]at hb gu HW2;have hbg:W1.heap.size=b:=hbe.symm;have Di:=hid hb;have OB:=hid (hf2.blk jV.out fun h=>h);have OC:=hid (jQ.out.trans hf2);generalize hcn:wT ks=cn at*;have HCN:=hid hcn;have Da:=hid (show ja (b+1) W2 (jL (ks.take 0)) (.slice none 0 0) by rw[List.take_zero,U.jL];exact ja.nil (by have:=HW2.out;omega));rw[show W1.heap.size=b from hbg];clear hb hf2 hbe hbg hg0 a0 a1 a2 a3 h02 hgk af3 hcn hg1
 go_loopw [98] (fun i wr=>∃(p m:Nat) (Ae:Option Addr) (ce:Nat),i=.int .i64 p∧p≤ks.length∧Hd ((jL (ks.take p)).length=m)∧Hd (af wr w.heap.size 24 ZN)∧Hd (af wr b 24 #[.int .i64 12,.string ⟨#[]⟩,.int .i64 (cn:Int),.slice Ae m ce])∧Hd (ja (b+1) wr (jL (ks.take p)) (.slice Ae m ce))∧Hd (ag w wr)) (fun i _=>ks.length-(intOf i).toNat)
 case atStart=>exact⟨0,0,none,0,rfl,Nat.zero_le _,by show(jL []).length=0;rw[U.jL];rfl,OB,Di,Da,OC⟩
 case round=>
  clear Di OB OC Da;obtain⟨p,m,Ae,ce,rfl,hp,HM,ow,oI,HG,HF⟩:=hrel;rename_i wr _
  by_cases cp:p<ks.length
  ·have d1:decide ((p:Int)<(ks.length:Int))=true:=dT (by omega)
   have jo:decide (p<ks.length)=true:=dT cp;have d1':(p:Int)<(ks.length:Int):=by omega
   have RD:=hid (HE.out.fresh HF.out);obtain⟨gi,oi,ya,yk,hgi,hey⟩:=(show gK w ks _ from HE.out.2.2.2.2.2.2.1).yw p cp;obtain⟨rfl,rfl⟩:gk=gi∧ok=oi:=by cases hgi;exact⟨rfl,rfl⟩
   have hyl:ks[p].kids.length≤100000:=by
    have h1:=U.cB (List.getElem_mem cp);have h2:=U.aN ks[p];have h3:=U.jF ks[p].kids;have:=HKL.out;omega
   have hml:m≤100000:=by
    have h1:=aan (ks.take p);have h2:=U.qy ks p;have:=HKL.out;rw[←HM.out];omega
   have yf:=hid (UM ks p cp);have HKX:=hid (Em.out _ (List.getElem_mem cp));obtain⟨Bl,cl,hvl⟩:=hey.2.2.2.2.2.2.1.slice;subst hvl;have acF:=hey.fresh HF.out;have hgy:=acF.1;have h2y:=acF.2.2.2.1;clear acF;obtain⟨hgr,_,_,h2,_,_⟩:=RD.out;replace h2:wr.cell? ⟨g,o+2,none⟩=some (.slice (some ⟨gk,ok,none⟩) ks.length cb):=h2;have HPI:=hid (fun(W:World) (hW:ag w W)=>hey.fresh hW);have HGI:=hid (show∀W:World,ag w W→gZ W g o (.mk [109,116,97,98,108,101] a ks t) (.slice A a.length ca) (.slice (some ⟨gk,ok,none⟩) ks.length cb)from fun W hW=>HE.out.fresh hW);clear hey hgi;generalize ks[p]=y at*;go_wp2_with fail
   clear hgy h2y hgr h2
   go_loopw [110] (fun i wr=>∃(j:Nat) (Ae:Option Addr) (ce:Nat),i=.int .i64 j∧j≤y.kids.length∧Hd (af wr w.heap.size 24 ZN)∧Hd (af wr b 24 #[.int .i64 12,.string ⟨#[]⟩,.int .i64 (cn:Int),.slice Ae (m+j) ce])∧Hd (ja (b+1) wr (jL (ks.take p)++(iN y.kids).take j) (.slice Ae (m+j) ce))∧Hd (ag w wr)) (fun i _=>y.kids.length-(intOf i).toNat)
   case atStart=>exact⟨0,Ae,ce,rfl,Nat.zero_le _,ow,oI,by rw[List.take_zero,List.append_nil];exact HG,HF⟩
   case round=>
    clear ow oI HG HF;obtain⟨j,Ae,ce,rfl,hj,ow,oI,HG,HF⟩:=hrel;rename_i wr _
    by_cases c1:j<y.kids.length
    ·have e1:decide ((j:Int)<(y.kids.length:Int))=true:=dT (by omega)
     have e1n:decide (j<y.kids.length)=true:=dT c1;have e1':(j:Int)<(y.kids.length:Int):=by omega
     have HPY:=hid (HPI.out wr HF.out);obtain⟨gj,oj,za,zk,rfl,jW⟩:=(show gK wr y.kids _ from HPY.out.2.2.2.2.2.2.1).yw j c1;have AL:=hid jW;have lg:=hid (show(jL (ks.take p)++(iN y.kids).take j).length=m+j by rw[List.length_append,HM.out,List.length_take,vw];omega);have nK:=hid (Mf y.kids j c1);have Me:=hid (HKX.out _ (List.getElem_mem c1));obtain⟨hgr,_,_,h2,_,_⟩:=HE.out.fresh HF.out;replace h2:wr.cell? ⟨g,o+2,none⟩=some (.slice (some ⟨gk,ok,none⟩) ks.length cb):=h2;obtain⟨hgy,_,_,h2y,_,_⟩:=HPY.out;obtain⟨q0,q1,q2,q3,_,_,_,_,hlt⟩:=af.four oI.out;clear jW;generalize y.kids[j]=x at*;go_wp2_with fail
     have k0:=cR h2;have k1:=cR h2y;have k3:=cR q3;clear h2 h2y q0 q1 q2 q3;refine cu [([(0,true),(1,true),(2,true),(3,true),(4,true),(5,true),(6,true),(7,true),(8,true),(9,true),(10,true),(11,true),(12,false),(13,false)],14),([(15,true)],16)] [] (by kernel_rfl) (fun _ _ d _ _ h=>by cases d<;>exact h) (by kernel_rfl) ?_;refine dJ ?_
     repeat(refine ak rfl (fun K hK=>?_);go_simp;refine hK _ ?_;clear hK K)
     clear k0 k1 k3;refine aS rfl (fun K hK=>?_);go_wp2_with fail
     refine(Me.out.1 gj (oj+j*4) za zk _ (AL.out.fresh ((M _ _).drewN 1)) Me.out.2.1 Me.out.2.2).mono ?_;rintro _ w6 ⟨v6,rfl,sl,rfl,dK,H7,dZ⟩;have fI:=hid (show ag wr w6 from((M _ wr).drewN 1).trans dK);have nV:=hid (show dz (fun k=>k<wr.heap.size) w6 fun W=>aD W (eG x).kids sl from dZ);have RF:=hid H7;obtain⟨Ak,ck,rfl⟩:=dZ.now.slice;clear dK dZ H7;go_wp2
     refine hK _ _ (aA fI.out) ?_;clear hK K;refine aS rfl (fun K hK=>?_);go_wp2
     refine hK _ _ (aA (fI.out.alloc _)) ?_;clear hK K;have kW:=hid (af.new w6 24 #[.int .i64 (eG x).kind,.string ⟨(eG x).text.toArray⟩,.int .i64 (eG x).ah,.slice Ak (eG x).kids.length ck]);have gW:=hid (fI.out.alloc (.cells #[.int .i64 (eG x).kind,.string ⟨(eG x).text.toArray⟩,.int .i64 (eG x).ah,.slice Ak (eG x).kids.length ck] 24));have tq:=hid (nV.out.fresh ((M _ w6).alloc (.cells #[.int .i64 (eG x).kind,.string ⟨(eG x).text.toArray⟩,.int .i64 (eG x).ah,.slice Ak (eG x).kids.length ck] 24)));generalize (w6.alloc (.cells #[.int .i64 (eG x).kind,.string ⟨(eG x).text.toArray⟩,.int .i64 (eG x).ah,.slice Ak (eG x).kids.length ck] 24))=w7 at kW gW tq⊢;have Ej:=hid (HG.out.fresh gW.out);have HOW:=hid HG.out.pY;have tu:=hid (gW.out.blk oI.out fun h=>h);have qc:=hid (gW.out.blk ow.out fun h=>h);have eO:=hid HG.out.1;refine dm rfl (fun K hK=>?_)
     go_wp2_with (at_builtin;go_loud (refine qM rfl (.tmp 114) (.tmp 126) rfl Ej.out lg.out (by simp[Act.eval]) (eG x) kW.out (by simp[Act.eval]) wr.heap.size eO.out (fun k hk=>(HOW.out k hk).2) RF.out tq.out (by omega) ?_);intro A8 c8 w9 jI bR _;refine jw.mk ?_)
     have wI:=hid jI;have tC:=hid (bR.blk tu.out fun h=>by have:=(HOW.out _ h).1;omega);have wE:=hid (bR.blk qc.out fun h=>by have:=(HOW.out _ h).1;have:=gu.out;omega);have xJ:=hid (show ag w w9 from(HF.out.trans gW.out).trans' bR fun k hk=>.inr (by have:=(HOW.out _ hk).1;have:=gu.out;omega));clear jI bR;obtain⟨q0,q1,q2,q3,z0,z1,z2,z3,Rn⟩:=af.four tC.out;refine jw.go ?_;go_wp2_with fail
     refine dJ ?_
     repeat(refine ak rfl (fun K hK=>?_);go_simp;refine hK _ ?_;clear hK K)
     refine dm rfl (fun K hK=>?_);go_wp2_with fail
     refine fH ?_;go_wp2_with fail
     have jA:=wI.out.mv ((M (fun k=>k=b) w9).setCell (p:=⟨b,3,none⟩) (.inl rfl) (.slice A8 (m+j+1) c8)) (fun k hk _=>by have hk:k=b:=hk;omega);rw[List.append_assoc,nK.out]at jA;exact⟨⟨j+1,A8,c8,by simp,by omega,wE.out.far (p:=⟨b,3,none⟩) (by have:=gu.out;show w.heap.size≠b;omega) _,tC.out.put 3 _,jA,xJ.out.setCell (p:=⟨b,3,none⟩) (.inr (by show w.heap.size≤b;have:=gu.out;omega)) _⟩,by simp[intOf];omega⟩
    ·have e1:decide ((j:Int)<(y.kids.length:Int))=false:=dF (by omega)
     have e1n:decide (j<y.kids.length)=false:=dF c1;obtain rfl:j=y.kids.length:=by omega
     have fU:=hid (show(jL (ks.take (p+1))).length=m+y.kids.length by rw[yf.out,List.length_append,HM.out,vw])
     have HGN:=hid (show ja (b+1) wr (jL (ks.take (p+1))) (.slice Ae (m+y.kids.length) ce) by
      have:=HG.out;rw[show(iN y.kids).take y.kids.length=iN y.kids from List.take_of_length_le (by rw[vw];exact Nat.le_refl _)]at this;rw[yf.out];exact this)
     clear hyl hml c1 hj;go_wp2
     go_roundw
     case rel=>exact⟨p+1,m+y.kids.length,Ae,ce,by go_num,cp,fU,ow,oI,HGN,HF⟩
     case measure=>simp[intOf];omega
  ·have d1:decide ((p:Int)<(ks.length:Int))=false:=dF (by omega)
   have jo:decide (p<ks.length)=false:=dF cp;obtain rfl:p=ks.length:=by omega
   obtain⟨q0,q1,q2,q3,_,_,_,_,hlt⟩:=af.four oI.out;obtain⟨p0,p1,p2,p3,y0,y1,y2,y3,hlp⟩:=af.four ow.out;have jA:=HG.out.mv ((M (fun k=>k=w.heap.size) wr).aO (.inl rfl) (.int .i64 12) (.string ⟨#[]⟩) (.int .i64 (cn:Int)) (.slice Ae m ce)) (fun k hk _=>by have hk:k=w.heap.size:=hk;have:=gu.out;omega);rw[List.take_length]at jA;have qL:=hid jA;obtain⟨r0,r1,r2,r3,_,_,_,_,_⟩:=af.four (ow.out.gH (.int .i64 12) (.string ⟨#[]⟩) (.int .i64 (cn:Int)) (.slice Ae m ce));simp only[aO]at r0 r1 r2 r3;have xJ:=hid (Touch.aO HF.out (.inr (Nat.le_refl _)) (.int .i64 12) (.string ⟨#[]⟩) (.int .i64 (cn:Int)) (.slice Ae m ce));clear jA hkn cp hp hn0;go_wp2
   refine bodyPost_ret (v:=.agg #[.int .i64 12,.string ⟨#[]⟩,.int .i64 (cn:Int),.slice Ae m ce]) (by simp[results,Tryz.results85,go_sem,r0,r1,r2,r3]) rfl ?_;rw[HCN.out];refine⟨_,rfl,.slice Ae m ce,rfl,xJ.out,Nat.zero_le _,?_⟩;exact(qL.out.done.mono fun i _ hi=>by have:=gu.out;omega)
end
section
open Go.RowKit
open Tr (Nd)
open U (E aJ fJ oq L9 Ff dX bN eG)
theorem Af{n:List UInt8}{a:aJ}{ks:List E}{t:List UInt8}(h:U.lD (.mk n a ks t)=true):(n=U.fV→ks.length=1)∧(n=U.fZ→ks.length=2)∧(n=U.bI→ks.length=1)∧(n=U.aV→ks.length=1∧(fJ a U.qH).length=1∧(fJ a U.nR).length=1)∧(n=U.bE→0<ks.length):=by
 refine⟨?_,?_,?_,?_,?_⟩
 all_goals
  rintro rfl;simp[U.lD,U.nO,U.L8,U.XG,U.nQ,U.yt,U.yu,U.CU,U.qG,U.gU,U.aj,U.bq,U.bE,U.dU,U.lq,U.fZ,U.mW,U.mX,U.gN,U.fV,U.bI,U.aV]at h
  omega
theorem acG(e:E)(h:U.lD e=true):e.name∈nY∨e.name=U.gU∨e.name=U.aj∨e.name=U.bq∨e.name=U.dU:=by
 obtain⟨n,a,ks,t⟩:=e;show n∈nY∨n=U.gU∨n=U.aj∨n=U.bq∨n=U.dU;have hn:=Hw h;simp only[Oy,List.mem_cons,List.not_mem_nil,or_false]at hn
 rcases hn with h0|h0|h0|h0|h0|h0|h0|h0|h0|h0|h0|h0|h0|h0|h0|h0|h0
 all_goals first
  |(refine .inl ?_;rw[h0];decide)
  |(exact .inr (.inl h0))
  |(exact .inr (.inr (.inl h0)))
  |(exact .inr (.inr (.inr (.inl h0))))
  |(exact .inr (.inr (.inr (.inr h0))))
theorem H9(x:E)(hok:oq x=true)(hn:x.name=U.gU∨x.name=U.aj∨x.name=U.bq):∀y∈x.kids,oq y=true∧y.name∈nY:=by
 intro y hy;rw[U.uj,Bool.and_eq_true,U.vY,List.all_eq_true]at hok;have hxy:=hok.2 y hy;rw[Bool.and_eq_true]at hxy;refine⟨hxy.2,?_⟩;have hoy:=hxy.2;rw[U.uj,Bool.and_eq_true]at hoy;have ha:=hxy.1;obtain⟨n,a,ks,t⟩:=x;obtain⟨m,b,ls,s⟩:=y;replace ha:(if n=U.gU∨n=U.aj∨n=U.bq then !(decide (m=U.gU)||decide (m=U.aj)||decide (m=U.bq)||decide (m=U.dU))else _)=true:=ha;replace hn:n=U.gU∨n=U.aj∨n=U.bq:=hn;rw[if_pos hn]at ha;simp only[Bool.not_eq_true',Bool.or_eq_false_iff,decide_eq_false_iff_not]at ha
 rcases acG _ hoy.1 with h|h|h|h|h
 ·exact h
 ·exact absurd h ha.1.1.1
 ·exact absurd h ha.1.1.2
 ·exact absurd h ha.1.2
 ·exact absurd h ha.2
theorem acH(n:List UInt8)(a:aJ)(ks:List E)(t:List UInt8)(hok:oq (.mk n a ks t)=true)(h1:¬(n=U.gU∨n=U.aj∨n=U.bq))(h2:n≠U.bE)(h3:n≠U.dU):∀x∈ks,oq x=true∧x.name=U.aj:=by
 intro x hx;rw[U.uj,Bool.and_eq_true,U.vY,List.all_eq_true]at hok;have hxy:=hok.2 x hx;rw[Bool.and_eq_true]at hxy;refine⟨hxy.2,?_⟩;have ha:=hxy.1;obtain⟨m,b,ls,s⟩:=x;replace ha:(if n=U.gU∨n=U.aj∨n=U.bq then _ else if n=U.bE then _ else if n=U.dU then _ else decide (m=U.aj))=true:=ha;rw[if_neg h1,if_neg h2,if_neg h3]at ha;exact of_decide_eq_true ha
theorem XZ(a:aJ)(ks:List E)(t:List UInt8)(hok:oq (.mk U.bE a ks t)=true):∀x∈ks,oq x=true∧x.name=U.dU:=by
 intro x hx;rw[U.uj,Bool.and_eq_true,U.vY,List.all_eq_true]at hok;have hxy:=hok.2 x hx;rw[Bool.and_eq_true]at hxy;refine⟨hxy.2,?_⟩;have ha:=hxy.1;obtain⟨m,b,ls,s⟩:=x;replace ha:(decide (m=U.dU)&&_)=true:=ha;rw[Bool.and_eq_true]at ha;exact of_decide_eq_true ha.1
theorem acI(x:E)(hok:oq x=true)(hn:x.name=U.dU):∀y∈x.kids,oq y=true∧y.name=U.bq:=by
 intro y hy;rw[U.uj,Bool.and_eq_true,U.vY,List.all_eq_true]at hok;have hxy:=hok.2 y hy;rw[Bool.and_eq_true]at hxy;refine⟨hxy.2,?_⟩;have ha:=hxy.1;obtain⟨n,a,ks,t⟩:=x;obtain⟨m,b,ls,s⟩:=y;replace hn:n=U.dU:=hn;subst hn;replace ha:decide (m=U.bq)=true:=ha;exact of_decide_eq_true ha
theorem RH{l:List E}(h:l.length=1):∃x,l=[x]:=by
 match l,h with
 |[x],_=>exact⟨x,rfl⟩
theorem af4{l:List E}(h:l.length=2):∃x y,l=[x,y]:=by
 match l,h with
 |[x,y],_=>exact⟨x,y,rfl⟩
theorem aao(e:E)(hok:oq e=true)(hn:e.name∈nY)(hI:∀x∈e.kids,oz x)(hJ:∀x∈e.kids,∀y∈x.kids,oz y):∀(g o:Nat) (va vk:Value) (w:World),gZ w g o e va vk→U.count e≤100000→
  Calls Tryz.prog 85 #[.pointer (some ⟨g,o,none⟩)] w fun x w'=>∃v,x=.returned v∧nW w w' (dX e) v:=by
 intro g o va vk w he hc;obtain⟨n,a,ks,t⟩:=e;have hown:U.lD (.mk n a ks t)=true:=by rw[U.uj,Bool.and_eq_true]at hok;exact hok.1
 replace hn:n∈nY:=hn;replace hI:∀x∈ks,oz x:=hI;replace hJ:∀x∈ks,∀y∈x.kids,oz y:=hJ;have hcl:U.az ks≤100000:=by rw[U.count]at hc;omega
 have hcx:∀x∈ks,U.count x≤100000:=fun x hx=>by have:=U.cB hx;omega
 have hkn:ks.length≤100000:=by have:=U.jF ks;omega
 have hnr:∀m∈nY,¬(m=U.gU∨m=U.aj∨m=U.bq)∧m≠U.dU:=by decide
 have yF:n≠U.bE→∀x∈ks,∀y∈x.kids,oq y=true∧y.name∈nY:=fun ht x hx=>by
  have:=acH n a ks t hok (hnr n hn).1 ht (hnr n hn).2 x hx;exact H9 x this.1 (.inr (.inl this.2))
 simp only[nY,List.mem_cons,List.not_mem_nil,or_false]at hn;have hal:∀nm,(fJ a nm).length≤maxLen:=Oz he.2.2.2.2.2.1
 rcases hn with rfl|rfl|rfl|rfl|rfl|rfl|rfl|rfl|rfl|rfl|rfl|rfl|rfl
 ·exact aeV a ks t g o va vk w he
 ·exact aeW a ks t g o va vk w he
 ·exact aeX a ks t g o va vk w he
 ·exact XQ a ks t g o va vk w he
 ·exact Dh U.lq (by decide) (by rfl) (by decide) (by decide) (by decide) (by decide) (by decide) a ks t g o va vk w he (fun x hx=>⟨hI x hx,yF (by decide) x hx,hcx x hx⟩) hkn
 ·have hown:=(Af hown).1 rfl
  obtain⟨x,rfl⟩:=RH (show ks.length=1 by omega);exact XR a [x] t x rfl (hI x (by simp)) (yF (by decide) x (by simp)) (hcx x (by simp)) g o va vk w he
 ·have hown:=(Af hown).2.1 rfl
  obtain⟨x,y,rfl⟩:=af4 (show ks.length=2 by omega);exact XW a [x,y] t x y rfl (hI x (by simp)) (hI y (by simp)) (yF (by decide) x (by simp)) (yF (by decide) y (by simp)) (hcx x (by simp)) (hcx y (by simp)) g o va vk w he
 ·exact Dh U.mW (by decide) (by rfl) (by decide) (by decide) (by decide) (by decide) (by decide) a ks t g o va vk w he (fun x hx=>⟨hI x hx,yF (by decide) x hx,hcx x hx⟩) hkn
 ·exact Dh U.mX (by decide) (by rfl) (by decide) (by decide) (by decide) (by decide) (by decide) a ks t g o va vk w he (fun x hx=>⟨hI x hx,yF (by decide) x hx,hcx x hx⟩) hkn
 ·exact Dh U.gN (by decide) (by rfl) (by decide) (by decide) (by decide) (by decide) (by decide) a ks t g o va vk w he (fun x hx=>⟨hI x hx,yF (by decide) x hx,hcx x hx⟩) hkn
 ·have hown:=(Af hown).2.2.1 rfl
  obtain⟨x,rfl⟩:=RH (show ks.length=1 by omega);exact XT a [x] t x rfl (hI x (by simp)) (yF (by decide) x (by simp)) (hcx x (by simp)) _ rfl (hal _) g o va vk w he
 ·have hown:=(Af hown).2.2.2.1 rfl
  obtain⟨x,rfl⟩:=RH (show ks.length=1 by omega);exact RG a [x] t x rfl (hI x (by simp)) (yF (by decide) x (by simp)) (hcx x (by simp)) _ _ rfl rfl (by omega) (by omega) g o va vk w he
 ·have hlen:0<ks.length:=by
   exact(Af hown).2.2.2.2 rfl
  refine UN a ks t g o va vk w he hlen (fun x hx y hy=>⟨hJ x hx y hy,?_,?_⟩) hcl
  ·have h1:=XZ a ks t hok x hx
   have h2:=acI x h1.1 h1.2 y hy;exact H9 y h2.1 (.inr (.inr h2.2))
  ·have h1:=U.cB hy
   have h2:=U.aN x;have:=hcx x hx;omega
theorem aap:∀(m:Nat) (e:E),U.count e≤m→aal e∧oz e:=by
 intro m
 induction m with
 |zero=>intro e h;have:=U.bX e;omega
 |succ m ih=>
  intro e hm;have hk:∀x∈e.kids,U.count x≤m:=fun x hx=>by have:=U.cB hx;have:=U.aN e;omega
  refine⟨fun g o va vk w he hok hn hc=>aao e hok hn (fun x hx=>(ih x (hk x hx)).2) (fun x hx y hy=>(ih y (by have:=U.cB hy;have:=U.aN x;have:=hk x hx;omega)).2) g o va vk w he hc,?_⟩;exact XP e fun x hx=>(ih x (hk x hx)).1
theorem aaq(e:E):oz e:=(aap _ e (Nat.le_refl _)).2
end
section
open Go.RowKit
open U (E aJ)
end
end Go.Proofs.YtcgbccfpcgaikaaGreatDoor
