/- Part 29 of 48 of a proof. No condition. -/
import Derived.Test.YtnbeemkfmlfgfaaGreatDoorTm28
set_option maxRecDepth 100000
set_option maxHeartbeats 4000000
namespace Go.Proofs.YtnbeemkfmlfgfaaGreatDoor
section
open Go.RowKit
open Tr (Nd)
open U (E dH cz az grid bM aJ aU)
attribute [local go_sem] jg stillUpon
def pW(c:Nat)(ks:List Nd):List E:=(grid c (ay aJ ks)).map (az bM)
def TabAt(B c j:Nat)(w:World)(F:List E)(Ao:Option Addr)(ro co:Nat):Prop:=ro=(grid c (F.take j)).length∧
 ((j=0∧Ao=none∧co=0∧B≤w.heap.size)∨∃L r B2 v2 cs0,grid c (F.take j)=L++[r]∧lu B w (.slice Ao (L.length+1) co) (L.map (az bM)) r B2 v2 cs0)
theorem TabAt.fresh{B c j:Nat}{w w1:World}{F:List E}{Ao:Option Addr}{ro co:Nat}(h:TabAt B c j w F Ao ro co)(ht:ag w w1):TabAt B c j w1 F Ao ro co:=by
 obtain⟨h1,h2⟩:=h;refine⟨h1,?_⟩
 rcases h2 with⟨a,b,d,e⟩|⟨L,r,B2,v2,cs0,e1,e2⟩
 ·exact .inl ⟨a,b,d,Nat.le_trans e ht.size⟩
 ·exact .inr ⟨L,r,B2,v2,cs0,e1,e2.fresh ht⟩
theorem TabAt.grow{B c j:Nat}{w:World}{F:List E}{Ao:Option Addr}{ro co:Nat}(hc:0<c)(h:TabAt B c j w F Ao ro co):dO B w ((grid c (F.take j)).map (az bM)) (.slice Ao ro co):=by
 obtain⟨h1,h2⟩:=h
 rcases h2 with⟨a,b,d,e⟩|⟨L,r,B2,v2,cs0,e1,e2⟩
 ·subst a b d
  rw[List.take_zero,U.GY c hc]at h1⊢;subst h1;exact dO.nil e
 ·have h3:=e2.grow
  rw[e1]at h1⊢;subst h1;rw[List.length_append,List.map_append];exact h3
theorem TabAt.more{B c j:Nat}{w:World}{F:List E}{Ao:Option Addr}{ro co:Nat}(hc:0<c)(hj:j%c≠0)(hl:j<F.length)(h:TabAt B c j w F Ao ro co):∃L r B2 v2 cs0,grid c (F.take (j+1))=L++[r++[F[j]]]∧ro=L.length+1∧lu B w (.slice Ao (L.length+1) co) (L.map (az bM)) r B2 v2 cs0:=by
 obtain⟨h1,h2⟩:=h;have hjm:=Nat.mod_lt j hc;have hjd:=Nat.div_add_mod j c;have OD:j/c*c+j%c=j:=by rw[Nat.mul_comm];exact hjd
 obtain⟨L',r',g1,g2,_⟩:=U.Vi c hc F (j/c) (j%c) (by omega) hjm (by rw[OD];exact hl);simp only[OD]at g1 g2
 rcases h2 with⟨a,b,d,e⟩|⟨L,r,B2,v2,cs0,e1,e2⟩
 ·subst a;simp at hj
 ·rw[e1]at g1
  obtain⟨h4,h5⟩:=List.append_inj' g1 rfl;rw[List.cons.injEq]at h5;rw[←h4,←h5.1]at g2;exact⟨L,r,B2,v2,cs0,g2,by rw[h1,e1];simp,e2⟩
theorem Bq{α:Type}(c:Nat)(hc:0<c)(l:List α):(grid c l).length≤l.length:=by
 unfold U.grid;rw[List.length_map,List.length_range]
 rcases Nat.eq_zero_or_pos l.length with h|h
 ·rw[h,Nat.div_eq_of_lt (by omega)]
  exact Nat.le_refl _
 ·rw[Nat.div_le_iff_le_mul_add_pred hc]
  have:l.length≤c*l.length:=Nat.le_mul_of_pos_left _ hc;omega
theorem WZ{α:Type}(c:Nat)(hc:0<c)(l:List α)(r:List α)(h:r∈grid c l):r.length≤l.length:=by
 unfold U.grid at h;obtain⟨k,_,rfl⟩:=List.mem_map.1 h;rw[List.length_take,List.length_drop];omega
theorem TT(c j:Nat)(hc:0<c)(F:List E)(hj:j%c=0)(hl:j<F.length):grid c (F.take (j+1))=grid c (F.take j)++[[]++[F[j]]]:=by
 have hjd:=Nat.div_add_mod j c;have OD:j/c*c=j:=by rw[Nat.mul_comm];omega
 have:=U.Y4 c hc F (j/c) (by rw[OD];exact hl);simp only[OD]at this;exact this
theorem Qh(n:Nd)(c:Nat)(hc0:0<c)(hcc:n.ai=(c:Int))(ih:∀x∈n.kids,yB x)(sl:Value)(w:World)(hc:Tr.count n≤100000)(hsl:aO w n.kids sl):
  Calls Tryz.prog 131 #[nv n sl] w fun e w'=>∃v,e=.returned v∧iF w w' (.mk aU [] (pW c n.kids) []) v:=by
 obtain⟨A,cap,rfl⟩:=hsl.slice;have hcl:Tr.aj n.kids≤100000:=by have:=Tr.aI n;omega
 have hkl:=Tr.gL n.kids;have jW:=I hsl;have jw:=I ih;have Gb:=I hcc;generalize hks:n.kids=ks at*;have Rb:=I hks;clear hsl ih hks hc hcc;go_enter Tryz.func131,Tryz.ntmps131;go_wp2_with fail
 refine aV (fun W=>ag w W∧W.heap.size=w.heap.size+3∧O W w.heap.size 31 #[.int .i64 n.kind,.string ⟨n.text.toArray⟩,.int .i64 n.ai,.slice A ks.length cap]∧O W (w.heap.size+1) 45 Z∧O W (w.heap.size+1+1) 45 #[.string ⟨aU.toArray⟩,.slice none 0 0,.slice none 0 0,.string ⟨#[]⟩]) ⟨(((M _ _).alloc _).alloc _).alloc _,by simp,((O.new w 31 _).alloc _).alloc _,(O.new2 w _ 45 _).alloc _,O.BR _ _ _ _ _⟩ ?_;rintro W1 ⟨hf1,hs1,OE,mZ,oP⟩;have aF:=I hf1;have je:=I OE;have eX:=I mZ;have oQ:=I oP;have pq:=I hs1;have HT1:=I (show TabAt (w.heap.size+3) c 0 W1 (ay aJ ks) none 0 0 from⟨by rw[List.take_zero,U.GY c hc0];rfl,.inl ⟨rfl,rfl,rfl,by omega⟩⟩);clear hf1 mZ oP hs1 OE
 go_loopw [11] (fun i wr=>∃(j ro:Nat) (Ao:Option Addr) (co:Nat),i=.int .i64 j∧j≤ks.length∧Hd (O wr w.heap.size 31 #[.int .i64 n.kind,.string ⟨n.text.toArray⟩,.int .i64 n.ai,.slice A ks.length cap])∧Hd (O wr (w.heap.size+1) 45 Z)∧Hd (O wr (w.heap.size+1+1) 45 #[.string ⟨aU.toArray⟩,.slice none 0 0,.slice Ao ro co,.string ⟨#[]⟩])∧Hd (TabAt (w.heap.size+3) c j wr (ay aJ ks) Ao ro co)∧Hd (ag w wr)) (fun i _=>ks.length-(intOf i).toNat)
 case atStart=>exact⟨0,0,none,0,rfl,Nat.zero_le _,je,eX,oQ,HT1,aF⟩
 case round=>
  obtain⟨j,ro,Ao,co,rfl,hj,mo,jX,jO,HT,HF⟩:=hrel;rename_i wr _
  by_cases c1:j<ks.length
  ·have d1:decide ((j:Int)<(ks.length:Int))=true:=dT (by omega)
   have dG:decide (j<ks.length)=true:=dT c1;have d1':(j:Int)<(ks.length:Int):=by omega
   obtain⟨g,o,sx,hA,hg,m0,m1,m2,m3,hrx⟩:=jW.J.get j c1;cases hA;obtain⟨Ax,cx,rfl⟩:=hrx.slice;have e0:=HF.J.cell m0 (fun h=>h);have e1:=HF.J.cell m1 (fun h=>h);have e2:=HF.J.cell m2 (fun h=>h);have e3:=HF.J.cell m3 (fun h=>h);have hgl:g<wr.heap.size:=Nat.lt_of_lt_of_le hg HF.J.size;have Jf:=I (hrx.fresh HF.J);have agh:=I hrx;have jZ:=I (List.getElem_mem c1);clear m0 m1 m2 m3 hg hrx;obtain⟨b0,b1,b2,b3,_,_,_,_,hlb⟩:=O.four mo.J;rw[Gb.J]at b2;have hF:(ay aJ ks).length=ks.length:=oG _ _;have agi:=Bq c hc0 ((ay aJ ks).take j);rw[List.length_take,hF]at agi;have hro:ro≤100000:=by have:=HT.J.1;omega
   have bV:=I (show O (wr.alloc (.cells #[.int .i64 ks[j].kind,.string ⟨ks[j].text.toArray⟩,.int .i64 ks[j].ai,.slice Ax ks[j].kids.length cx] 31)) wr.heap.size 31 #[.int .i64 ks[j].kind,.string ⟨ks[j].text.toArray⟩,.int .i64 ks[j].ai,.slice Ax ks[j].kids.length cx]from O.new wr 31 #[.int .i64 ks[j].kind,.string ⟨ks[j].text.toArray⟩,.int .i64 ks[j].ai,.slice Ax ks[j].kids.length cx]);have adR:=I (mo.J.alloc (.cells #[.int .i64 ks[j].kind,.string ⟨ks[j].text.toArray⟩,.int .i64 ks[j].ai,.slice Ax ks[j].kids.length cx] 31));have EG:=I (jX.J.alloc (.cells #[.int .i64 ks[j].kind,.string ⟨ks[j].text.toArray⟩,.int .i64 ks[j].ai,.slice Ax ks[j].kids.length cx] 31));have Bi:=I (jO.J.alloc (.cells #[.int .i64 ks[j].kind,.string ⟨ks[j].text.toArray⟩,.int .i64 ks[j].ai,.slice Ax ks[j].kids.length cx] 31));have eu:=I (HT.J.fresh ((M _ wr).alloc (.cells #[.int .i64 ks[j].kind,.string ⟨ks[j].text.toArray⟩,.int .i64 ks[j].ai,.slice Ax ks[j].kids.length cx] 31)));have dA:=I (HF.J.alloc (.cells #[.int .i64 ks[j].kind,.string ⟨ks[j].text.toArray⟩,.int .i64 ks[j].ai,.slice Ax ks[j].kids.length cx] 31));have Kh:=I (Jf.J.fresh ((M _ wr).alloc (.cells #[.int .i64 ks[j].kind,.string ⟨ks[j].text.toArray⟩,.int .i64 ks[j].ai,.slice Ax ks[j].kids.length cx] 31)));have hBw:w.heap.size+3≤wr.heap.size:=(HT.J.grow hc0).base
   by_cases c2:j%c=0
   focus
    have d2:((j:Int)%(c:Int)==0)=true:=by rw[beq_iff_eq];omega
    have Ea:(j%c==0)=true:=by rw[c2];rfl
    have oD:=I (eu.J.grow hc0);have mK:=I (show((grid c ((ay aJ ks).take j)).map (az bM)).length=ro by rw[List.length_map];exact HT.J.1.symm);have HOW:=I oD.J.jE;obtain⟨q0,q1,q2,q3,z0,z1,z2,z3,hlt⟩:=O.four Bi.J
    go_wp2_with (at_builtin;go_loud (refine EO rfl (.tmp 22) (.tmp 24) rfl (oD.J.fresh ((M _ _).alloc _)) mK.J (by simp[Act.eval]) (O.new2 wr (.cells #[.int .i64 ks[j].kind,.string ⟨ks[j].text.toArray⟩,.int .i64 ks[j].ai,.slice Ax ks[j].kids.length cx] 31) 45 _) (by simp[Act.eval]) (by omega) ?_);intro A8 c8 w8 cs8 bW Kk;refine iC.mk ?_)
    have Kl:=I (HT.J.grow hc0).jE;obtain⟨g7,c7,hv7,hg7,_⟩:=bW.last mK.J;cases hv7;have Ri:ag w w8:=(dA.J.alloc _).trans' Kk fun k hk=>.inr (by have:=(Kl.J _ hk).1;omega)
    have Z9:=Kk.blk (Bi.J.alloc (.cells #[.string ⟨bM.toArray⟩,.slice none 0 0,.slice none 0 0,.string ⟨#[]⟩] 45)) fun h=>by have:=(Kl.J _ h).1;omega
    have adS:=Kk.blk (adR.J.alloc (.cells #[.string ⟨bM.toArray⟩,.slice none 0 0,.slice none 0 0,.string ⟨#[]⟩] 45)) fun h=>by have:=(Kl.J _ h).1;omega
    have adT:=Kk.blk (EG.J.alloc (.cells #[.string ⟨bM.toArray⟩,.slice none 0 0,.slice none 0 0,.string ⟨#[]⟩] 45)) fun h=>by have:=(Kl.J _ h).1;omega
    have adU:=Kk.blk (bV.J.alloc (.cells #[.string ⟨bM.toArray⟩,.slice none 0 0,.slice none 0 0,.string ⟨#[]⟩] 45)) fun h=>by have:=(Kl.J _ h).2;omega
    have dS:=I (bW.mv ((M (fun k=>k=(w.heap.size+1+1)) w8).setCell (p:=⟨(w.heap.size+1+1),2,none⟩) (.inl rfl) (.slice (some ⟨g7,0,none⟩) (ro+1) c8)) (fun k hk _=>by omega));have eZ:=I (Ri.setCell (p:=⟨(w.heap.size+1+1),2,none⟩) (.inr (by show w.heap.size≤(w.heap.size+1+1);omega)) (.slice (some ⟨g7,0,none⟩) (ro+1) c8));have oU:=I (Z9.put 2 (.slice (some ⟨g7,0,none⟩) (ro+1) c8));have Da:=I (adS.far (p:=⟨(w.heap.size+1+1),2,none⟩) (by simp;omega) (.slice (some ⟨g7,0,none⟩) (ro+1) c8));have qc:=I (adT.far (p:=⟨(w.heap.size+1+1),2,none⟩) (by simp) (.slice (some ⟨g7,0,none⟩) (ro+1) c8));have Hr:=I (adU.far (p:=⟨(w.heap.size+1+1),2,none⟩) (by show wr.heap.size≠(w.heap.size+1+1);omega) (.slice (some ⟨g7,0,none⟩) (ro+1) c8));have HGR:=I (TT c j hc0 (ay aJ ks) c2 (by omega));obtain⟨p0,p1,p2,p3,y0,y1,y2,y3,hlp⟩:=O.four Z9;have hwr:IntKind.i64.wrap (ro:Int)=ro:=IntWalk.i64_in _ (by omega);have hm1:(ro:Int)+1-1=ro:=by omega
    have hm2:(ro:Int)<ro+1:=by omega
    clear bW Kk Ri Z9 adS adT adU q0 q1 q2 q3 z0 z1 z2 z3 hlt;refine iC.go ?_;have hpk:∃(Lg:List (List E)) (r:List E) (B2:Nat) (v2:Value) (cs0:List Value),Lg.length=ro∧grid c ((ay aJ ks).take (j+1))=Lg++[r++[(ay aJ ks)[j]'(by rw[hF];exact c1)]]∧lu (w.heap.size+3) (w8.setCell ⟨(w.heap.size+1+1),2,none⟩ (.slice (some ⟨g7,0,none⟩) (ro+1) c8)) (.slice (some ⟨g7,0,none⟩) (ro+1) c8) (Lg.map (az bM)) r B2 v2 cs0:=⟨_,_,_,_,_,HT.J.1.symm,HGR.J,dS.J⟩;clear dS HGR mK HOW Kl oD;have qi:=I hpk;clear hpk;go_wp2_with fail
    clear p0 p1 p2 p3 y0 y1 y2 y3 hlp hwr hm1 hm2 d2 Ea;generalize (w8.setCell ⟨(w.heap.size+1+1),2,none⟩ (.slice (some ⟨g7,0,none⟩) (ro+1) c8))=W7 at qi eZ oU Da qc Hr⊢;obtain⟨m,rfl⟩:∃m,m=ro:=⟨ro,rfl⟩
   rotate_left
   focus
    have d2:((j:Int)%(c:Int)==0)=false:=by rw[beq_eq_false_iff_ne];omega
    have Ea:(j%c==0)=false:=by rw[beq_eq_false_iff_ne];exact c2
    obtain⟨m,g7,rfl,rfl,hg7,hpk⟩:∃m g7,ro=m+1∧Ao=some ⟨g7,0,none⟩∧w.heap.size+3≤g7∧∃(Lg:List (List E)) (r:List E) (B2:Nat) (v2:Value) (cs0:List Value),Lg.length=m∧grid c ((ay aJ ks).take (j+1))=Lg++[r++[(ay aJ ks)[j]'(by rw[hF];exact c1)]]∧lu (w.heap.size+3) (wr.alloc (.cells #[.int .i64 ks[j].kind,.string ⟨ks[j].text.toArray⟩,.int .i64 ks[j].ai,.slice Ax ks[j].kids.length cx] 31)) (.slice (some ⟨g7,0,none⟩) (m+1) co) (Lg.map (az bM)) r B2 v2 cs0:=by
     obtain⟨Lg,r,B2,v2,cs0,hgr,agj,htb⟩:=eu.J.more hc0 c2 (by omega);obtain⟨g7,c8,hv7,hg7,_⟩:=htb.last (List.length_map _);cases hv7;exact⟨_,g7,agj,rfl,hg7,_,_,_,_,_,rfl,hgr,htb⟩
    have qi:=I hpk;clear hpk eu;obtain⟨q0,q1,q2,q3,z0,z1,z2,z3,hlt⟩:=O.four Bi.J;have hwr:IntKind.i64.wrap (m:Int)=m:=IntWalk.i64_in _ (by omega);have hm1:(m:Int)+1-1=m:=by omega
    have hm2:(m:Int)<m+1:=by omega
    go_wp2_with fail
    clear q0 q1 q2 q3 z0 z1 z2 z3 hlt hwr hm1 hm2 d2 Ea;have eZ:=I dA.J;have oU:=I Bi.J;have Da:=I adR.J;have qc:=I EG.J;have Hr:=I bV.J;generalize (wr.alloc (.cells #[.int .i64 ks[j].kind,.string ⟨ks[j].text.toArray⟩,.int .i64 ks[j].ai,.slice Ax ks[j].kids.length cx] 31))=W7 at qi eZ oU Da qc Hr⊢;obtain⟨c8,rfl⟩:∃c8,c8=co:=⟨co,rfl⟩
   all_goals
    obtain⟨Lg,r,B2,v2,cs0,Rj,hgr,htb⟩:=qi.J;have HGR:=I hgr;have HLM:=I (show(Lg.map (az bM)).length=m by rw[List.length_map];exact Rj);obtain⟨g',c',hv',_,aac,hcell,hfz⟩:=htb.last HLM.J;cases hv';obtain⟨A2,c2',rfl⟩:=htb.2.2.2.2.slice;obtain⟨hB2,cs2,hi2,hs2⟩:=htb.2.2.2.2;have vN:=I htb;have HI2:=I hi2;have HS2:=I hs2;have hgB:g7<B2:=htb.2.1 g7 rfl;have adV:=I (agh.J.fresh eZ.J)
    have hmj:m≤j:=by
     have h1:=Bq c hc0 ((ay aJ ks).take (j+1));rw[hgr,List.length_append,List.length_take,Rj]at h1;simp only[List.length_cons,List.length_nil]at h1;omega
    have hrl:r.length≤100000:=by
     have h1:=HI2.J.1;have h2:=WZ c hc0 ((ay aJ ks).take (j+1)) (r++[(ay aJ ks)[j]'(by rw[hF];exact c1)]) (by rw[hgr];simp);rw[List.length_append,List.length_take]at h2;omega
    have k0:=cR hcell;have j0:=cR (Hr.J.cell 0|>.trans rfl);have j1:=cR (Hr.J.cell 1|>.trans rfl);have j2:=cR (Hr.J.cell 2|>.trans rfl);have j3:=cR (Hr.J.cell 3|>.trans rfl);have aeB:=I hcell;have HFZ:=I hfz;clear htb hi2 hs2 Rj hgr hcell hfz qi e0 e1 e2 e3
    refine IE (bq.of [(0,true),(1,true),(2,true),(3,true),(4,true),(6,true)] (.fork 5 (.lone 7 .nil) 7 (.lone 5 .nil))) [0,1,2,3,4,5,6,7] 8 (Array.replicate 8 true++Array.replicate 6 false) (fun _=>True) (bq.of [(9,true),(11,true),(12,true)] (.fork 10 (.lone 13 .nil) 13 (.lone 10 .nil))) [9,10,11,12,13] (Array.replicate 14 true)
     (by kernel_rfl) (fun _ _ d _ _ h=>by cases d<;>exact h) (by kernel_rfl) ?_
    unfold bq.of
    repeat(refine aS rfl (fun K hK=>?_);go_simp;refine hK _ ?_;clear hK K;first|done|unfold bq.of)
    clear k0 j0 j1 j2 j3;refine fB ?_ ?_
    focus
     refine ax rfl (fun K hK=>?_);go_wp2_with fail
     refine(jw.J ks[j] jZ.J aJ _ _ (by decide) (by have:=Tr.dm jZ.J;omega) (adV.J.fresh ((M _ _).drewN 1))).mono ?_;rintro _ w6 ⟨v6,rfl,va,vk,rfl,bu,aQ⟩;have bT:=I (show ag W7 w6 from((M _ W7).drewN 1).trans bu);have fM:=I (show aZ (fun k=>k<W7.heap.size) w6 fun W=>bN W (az aJ (cz ks[j].kids)) va vk from aQ);obtain⟨Aa,ca,rfl⟩:=aQ.now.1.slice;obtain⟨Ak,ck,rfl⟩:=aQ.now.2.1.slice;clear bu aQ;go_wp2
     refine hK _ _ (aN bT.J) ?_;clear hK K;refine ax rfl (fun K hK=>?_);go_wp2
     refine hK _ _ (aN (bT.J.alloc _)) ?_;clear hK K;have dX:=I (O.new w6 45 Z);have iG:=I (bT.J.alloc (.cells Z 45));have mI:=I (fM.J.fresh ((M _ w6).alloc (.cells Z 45)));generalize (w6.alloc (.cells Z 45))=wA at dX iG mI⊢;obtain⟨bz,hbz⟩:∃b,b=w6.heap.size:=⟨_,rfl⟩;rw[←hbz]at dX⊢;clear hbz bT fM
    rotate_left
    focus
     refine ax rfl (fun K hK=>?_);go_wp2
     refine hK _ _ (aN (((M _ W7).drewN 1).alloc _)) ?_;clear hK K;have zP:=I (show O ((W7.drewN 1).alloc (.cells Z 45)) W7.heap.size 45 Z from O.new (W7.drewN 1) 45 Z);have bT:=I (show ag W7 ((W7.drewN 1).alloc (.cells Z 45))from((M _ W7).drewN 1).alloc _);have EP:=I (show W7.heap.size≤((W7.drewN 1).alloc (.cells Z 45)).heap.size from bT.J.size);generalize ((W7.drewN 1).alloc (.cells Z 45))=w6 at zP bT EP⊢;obtain⟨bz,hbz⟩:∃b,b=W7.heap.size:=⟨_,rfl⟩;refine ax rfl (fun K hK=>?_);go_wp2_with fail
     refine(jw.J ks[j] jZ.J aJ _ _ (by decide) (by have:=Tr.dm jZ.J;omega) (adV.J.fresh bT.J)).mono ?_;rintro _ wA ⟨v6,rfl,va,vk,rfl,bu,aQ⟩;have iG:=I (show ag W7 wA from bT.J.trans bu);have mI:=I (show aZ (fun k=>k<W7.heap.size) wA fun W=>bN W (az aJ (cz ks[j].kids)) va vk from aQ.mono fun i _ hi=>Nat.lt_of_lt_of_le hi EP.J);obtain⟨Aa,ca,rfl⟩:=aQ.now.1.slice;obtain⟨Ak,ck,rfl⟩:=aQ.now.2.1.slice;have dX:=I (bu.blk zP.J fun h=>h);clear bu aQ;go_wp2
     refine hK _ _ (aN iG.J) ?_;clear hK K;rw[←hbz]at dX⊢;clear hbz bT zP EP
    all_goals
     have HIA:=I (fI HI2.J iG.J fun _ _ h=>h);have lH:=I (Nat.le_trans hB2 iG.J.size);obtain⟨ie,hie,hz0,hz1,hz2⟩:=info_parts Co;refine iY rfl (fun K hK=>?_)
     go_wp2_with (at_builtin;go_loud (refine jT _ rfl (.tmp 37) (.tmp 41) 43 rfl B2 45 ie _ 4 80 Tryz.underlying43 hie hz0 hz1 hz2 rfl (by decide) (.slice A2 r.length c2') r.length cs2 (by simp[Act.eval]) HIA.J (.slice (some ⟨bz,0,none⟩) 1 1) 1 _ (by simp[Act.eval]) (Src.xR dX.J rfl) (by simp[Value.oneCell']) (by simp only[maxLen];omega) (by omega) lH.J ?_);intro v9 w8 Jo Km hv9;refine iC.mk ?_)
     obtain⟨g2,c9,hv2⟩:∃g2 c9,v9=.slice (some ⟨g2,0,none⟩) (r.length+1) c9:=by
      rcases Jo.2 with⟨_,h0⟩|⟨g',cap',cur',e',_⟩
      ·omega
      ·exact⟨g',cap',e'⟩
     subst hv2;have Db:Touch (fun k=>(Value.slice A2 r.length c2').ownBlock=some k) wA w8:=Touch.grown (M _ _) Km fun k hk=>.inl hk
     have HST:=I (lu.stores (e:=az aJ (cz ks[j].kids)) vN.J HLM.J HI2.J HS2.J iG.J mI.J Jo Db hv9);have hg2:=Jo.lt g2 rfl;have hl2:cs2.length=r.length*4:=HI2.J.1
     have Jp:∀i z,([Value.string ⟨#[]⟩,.slice none 0 0,.slice none 0 0,.string ⟨#[]⟩])[i]?=some z→i<4→w8.cell? ⟨g2,r.length*4+i,none⟩=some z:=fun i z hz hi4=>by
      rw[Jo.cellAt _ (by omega),List.getElem?_append_right (by omega),show r.length*4+i-cs2.length=i by omega];exact hz
     have a0:w8.cell? ⟨g2,r.length*4,none⟩=some (.string ⟨#[]⟩):=Jp 0 _ rfl (by omega);have a1:=Jp 1 _ rfl (by omega);have a2:=Jp 2 _ rfl (by omega);have a3:=Jp 3 _ rfl (by omega);have f0:w8.frozen? ⟨g2,r.length*4,none⟩=false:=Jo.frozenAt _;have f1:w8.frozen? ⟨g2,r.length*4+1,none⟩=false:=Jo.frozenAt _;have f2:w8.frozen? ⟨g2,r.length*4+2,none⟩=false:=Jo.frozenAt _;have f3:w8.frozen? ⟨g2,r.length*4+3,none⟩=false:=Jo.frozenAt _;have hno:∀k,(Value.slice A2 r.length c2').ownBlock=some k→B2≤k:=fun k hk=>(HI2.J.lt k hk).1
     have b0:=Db.cell (iG.J.cell aeB.J fun h=>h) fun h=>by have:=hno _ h;simp only at this;omega
     have b1:w8.frozen? ⟨g7,m*4+2,none⟩=false:=(Db.frozen (p:=⟨g7,m*4+2,none⟩) (Nat.lt_of_lt_of_le aac iG.J.size) fun h=>by have:=hno _ h;simp only at this;omega).trans ((iG.J.frozen (p:=⟨g7,m*4+2,none⟩) aac fun h=>h).trans HFZ.J);have ajk:g7<w8.heap.size:=Nat.lt_of_lt_of_le aac (Nat.le_trans iG.J.size Db.size);have hne:g7≠g2:=by omega
     have hne':g2≠g7:=by omega
     have hBB:w.heap.size+3≤B2:=vN.J.1;have eP:=I (show ag w w8 from(eZ.J.trans iG.J).trans' Db fun k hk=>.inr (by have:=hno _ hk;omega));have lq:=I (Db.blk (iG.J.blk oU.J fun h=>h) fun h=>by have:=hno _ h;omega);have TU:=I (Db.blk (iG.J.blk Da.J fun h=>h) fun h=>by have:=hno _ h;omega);have mJ:=I (Db.blk (iG.J.blk qc.J fun h=>h) fun h=>by have:=hno _ h;omega);have fT:=I hBB;have HG2:=I hg2.1;have uo:=I (show r.length<r.length+1 by omega);have hr1:(r.length:Int)<(r.length:Int)+1:=by omega
     have hlt2:=hg2.2;clear Jo Km hv9 Db Jp hno hBB HIA lH dX hg2 hl2;refine iC.go ?_;go_wp2
     refine hK _ _ trivial ?_;clear hK K
     repeat(refine aS rfl (fun K hK=>?_);go_simp;refine hK _ ?_;clear hK K)
     refine fB ?_ ?_
     focus
      refine ax rfl (fun K hK=>?_);go_wp2
      refine hK _ _ trivial ?_;clear hK K;refine ax rfl (fun K hK=>?_);go_wp2
      refine hK _ _ trivial ?_;clear hK K;have bU:=I HST.J.1;have kK:=I (show Touch (fun k=>k=g2∨k=g7) w8 _ from((kF w8 g2 (r.length*4) (.string ⟨(az aJ (cz ks[j].kids)).name.toArray⟩) (.slice Aa (az aJ (cz ks[j].kids)).attrs.length ca) (.slice Ak (az aJ (cz ks[j].kids)).kids.length ck) (.string ⟨(az aJ (cz ks[j].kids)).text.toArray⟩)).mono fun i hi=>.inl hi).trans ((wL _ g7 (m*4+2) (.slice (some ⟨g2,0,none⟩) (r.length+1) c9)).mono fun i hi=>.inr hi));unfold mG at bU kK;clear a0 a1 a2 a3 f0 f1 f2 f3 b0 b1 HST;generalize World.setCell _ ⟨g7,m*4+2,none⟩ _=W9 at bU kK⊢
     rotate_left
     focus
      refine ax rfl (fun K hK=>?_);go_wp2
      refine hK _ _ trivial ?_;clear hK K;refine ax rfl (fun K hK=>?_);go_wp2
      refine hK _ _ trivial ?_;clear hK K;have bU:=I HST.J.2;have kK:=I (show Touch (fun k=>k=g2∨k=g7) w8 _ from((wL w8 g7 (m*4+2) (.slice (some ⟨g2,0,none⟩) (r.length+1) c9)).mono fun i hi=>.inr hi).trans ((kF _ g2 (r.length*4) (.string ⟨(az aJ (cz ks[j].kids)).name.toArray⟩) (.slice Aa (az aJ (cz ks[j].kids)).attrs.length ca) (.slice Ak (az aJ (cz ks[j].kids)).kids.length ck) (.string ⟨(az aJ (cz ks[j].kids)).text.toArray⟩)).mono fun i hi=>.inl hi));unfold mG at bU kK;clear a0 a1 a2 a3 f0 f1 f2 f3 b0 b1 HST;generalize World.setCell _ ⟨g2,r.length*4+3,none⟩ _=W9 at bU kK⊢
     all_goals
      refine jJ ?_;go_wp2_with fail
      have Km:=HGR.J;rw[show(ay aJ ks)[j]'(by rw[hF];exact c1)=az aJ (cz ks[j].kids) by simp[ay]]at Km;have hBB:=fT.J;have hG2:=HG2.J;have Rj:Lg.length=m:=by have:=HLM.J;rwa [List.length_map]at this
      have hta:TabAt (w.heap.size+3) c (j+1) W9 (ay aJ ks) (some ⟨g7,0,none⟩) (m+1) c8:=by
       refine⟨by rw[Km,List.length_append,Rj];rfl,.inr ⟨Lg,r++[az aJ (cz ks[j].kids)],B2,.slice (some ⟨g2,0,none⟩) (r.length+1) c9,cs0,Km,?_⟩⟩;rw[Rj];exact bU.J
      exact⟨⟨j+1,m+1,some ⟨g7,0,none⟩,c8,by simp,by omega,kK.J.blk TU.J (fun h=>by rcases h with h|h<;>omega),kK.J.blk mJ.J (fun h=>by rcases h with h|h<;>omega),kK.J.blk lq.J (fun h=>by rcases h with h|h<;>omega),hta,eP.J.trans' kK.J (fun k hk=>.inr (by rcases hk with h|h<;>omega))⟩,by simp[intOf];omega⟩
  ·have d1:decide ((j:Int)<(ks.length:Int))=false:=dF (by omega)
   have dG:decide (j<ks.length)=false:=dF c1;obtain rfl:j=ks.length:=by omega
   obtain⟨q0,q1,q2,q3,_,_,_,_,hlt⟩:=O.four jO.J;obtain⟨p0,p1,p2,p3,y0,y1,y2,y3,hlp⟩:=O.four jX.J;have fO:=(HT.J.grow hc0).mv ((M (fun k=>k=(w.heap.size+1)) wr).aH (.inl rfl) (.string ⟨aU.toArray⟩) (.slice none 0 0) (.slice Ao ro co) (.string ⟨#[]⟩)) (fun k hk _=>by omega);rw[List.take_of_length_le (by rw[oG];exact Nat.le_refl _)]at fO;have iE:=I fO;obtain⟨r0,r1,r2,r3,_,_,_,_,_⟩:=O.four (jX.J.dJ (.string ⟨aU.toArray⟩) (.slice none 0 0) (.slice Ao ro co) (.string ⟨#[]⟩));simp only[aH]at r0 r1 r2 r3;clear fO;go_wp2
   refine bodyPost_ret (v:=.agg #[.string ⟨aU.toArray⟩,.slice none 0 0,.slice Ao ro co,.string ⟨#[]⟩]) (by simp[results,Tryz.results131,go_sem,r0,r1,r2,r3]) rfl ?_;refine⟨_,rfl,.slice none 0 0,.slice Ao ro co,rfl,Touch.aH HF.J (.inr (by omega)) _ _ _ _,?_⟩;exact(iE.J.done.mono fun i _ hi=>by omega).imp fun W hW=>⟨dW.nil _ _ _,hW,show aU.length≤maxLen by decide,Nat.zero_le _⟩
end
end Go.Proofs.YtnbeemkfmlfgfaaGreatDoor
