/- Part 31 of 46 of a proof. No condition. -/
import Derived.Test.YtcgbccfpcgaikaaGreatDoorYm30
set_option maxRecDepth 100000
set_option maxHeartbeats 4000000
namespace Go.Proofs.YtcgbccfpcgaikaaGreatDoor
section
open Go.RowKit
open Tr (Nd)
open U (E iX eU ax grid dU bq bE)
attribute [local go_sem] gD stillUpon
def rG(c:Nat)(ks:List Nd):List E:=(grid c (aC bq ks)).map (ax dU)
def TabAt(B c j:Nat)(w:World)(F:List E)(Ao:Option Addr)(ro co:Nat):Prop:=ro=(grid c (F.take j)).length∧
 ((j=0∧Ao=none∧co=0∧B≤w.heap.size)∨∃L r B2 v2 cs0,grid c (F.take j)=L++[r]∧kS B w (.slice Ao (L.length+1) co) (L.map (ax dU)) r B2 v2 cs0)
theorem TabAt.fresh{B c j:Nat}{w w1:World}{F:List E}{Ao:Option Addr}{ro co:Nat}(h:TabAt B c j w F Ao ro co)(ht:ag w w1):TabAt B c j w1 F Ao ro co:=by
 obtain⟨h1,h2⟩:=h;refine⟨h1,?_⟩
 rcases h2 with⟨a,b,d,e⟩|⟨L,r,B2,v2,cs0,e1,e2⟩
 ·exact .inl ⟨a,b,d,Nat.le_trans e ht.size⟩
 ·exact .inr ⟨L,r,B2,v2,cs0,e1,e2.fresh ht⟩
theorem TabAt.grow{B c j:Nat}{w:World}{F:List E}{Ao:Option Addr}{ro co:Nat}(hc:0<c)(h:TabAt B c j w F Ao ro co):fQ B w ((grid c (F.take j)).map (ax dU)) (.slice Ao ro co):=by
 obtain⟨h1,h2⟩:=h
 rcases h2 with⟨a,b,d,e⟩|⟨L,r,B2,v2,cs0,e1,e2⟩
 ·subst a b d
  rw[List.take_zero,U.Q9 c hc]at h1⊢;subst h1;exact fQ.nil e
 ·have h3:=e2.grow
  rw[e1]at h1⊢;subst h1;rw[List.length_append,List.map_append];exact h3
theorem TabAt.more{B c j:Nat}{w:World}{F:List E}{Ao:Option Addr}{ro co:Nat}(hc:0<c)(hj:j%c≠0)(hl:j<F.length)(h:TabAt B c j w F Ao ro co):∃L r B2 v2 cs0,grid c (F.take (j+1))=L++[r++[F[j]]]∧ro=L.length+1∧kS B w (.slice Ao (L.length+1) co) (L.map (ax dU)) r B2 v2 cs0:=by
 obtain⟨h1,h2⟩:=h;have hjm:=Nat.mod_lt j hc;have hjd:=Nat.div_add_mod j c;have RS:j/c*c+j%c=j:=by rw[Nat.mul_comm];exact hjd
 obtain⟨L',r',g1,g2,_⟩:=U.ZH c hc F (j/c) (j%c) (by omega) hjm (by rw[RS];exact hl);simp only[RS]at g1 g2
 rcases h2 with⟨a,b,d,e⟩|⟨L,r,B2,v2,cs0,e1,e2⟩
 ·subst a;simp at hj
 ·rw[e1]at g1
  obtain⟨h4,h5⟩:=List.append_inj' g1 rfl;rw[List.cons.injEq]at h5;rw[←h4,←h5.1]at g2;exact⟨L,r,B2,v2,cs0,g2,by rw[h1,e1];simp,e2⟩
theorem JS{α:Type}(c:Nat)(hc:0<c)(l:List α):(grid c l).length≤l.length:=by
 unfold U.grid;rw[List.length_map,List.length_range]
 rcases Nat.eq_zero_or_pos l.length with h|h
 ·rw[h,Nat.div_eq_of_lt (by omega)]
  exact Nat.le_refl _
 ·rw[Nat.div_le_iff_le_mul_add_pred hc]
  have:l.length≤c*l.length:=Nat.le_mul_of_pos_left _ hc;omega
theorem aaA{α:Type}(c:Nat)(hc:0<c)(l:List α)(r:List α)(h:r∈grid c l):r.length≤l.length:=by
 unfold U.grid at h;obtain⟨k,_,rfl⟩:=List.mem_map.1 h;rw[List.length_take,List.length_drop];omega
theorem X8(c j:Nat)(hc:0<c)(F:List E)(hj:j%c=0)(hl:j<F.length):grid c (F.take (j+1))=grid c (F.take j)++[[]++[F[j]]]:=by
 have hjd:=Nat.div_add_mod j c;have RS:j/c*c=j:=by rw[Nat.mul_comm];omega
 have:=U.ab6 c hc F (j/c) (by rw[RS];exact hl);simp only[RS]at this;exact this
theorem UW(n:Nd)(c:Nat)(hc0:0<c)(hcc:n.ah=(c:Int))(ih:∀x∈n.kids,Au x)(sl:Value)(w:World)(hc:Tr.count n≤100000)(hsl:aD w n.kids sl):
  Calls Tryz.prog 113 #[nv n sl] w fun e w'=>∃v,e=.returned v∧oH w w' (.mk bE [] (rG c n.kids) []) v:=by
 obtain⟨A,cap,rfl⟩:=hsl.slice;have hcl:Tr.az n.kids≤100000:=by have:=Tr.aN n;omega
 have hkl:=Tr.jF n.kids;have yD:=hid hsl;have q9:=hid ih;have Rm:=hid hcc;generalize hks:n.kids=ks at*;have Em:=hid hks;clear hsl ih hks hc hcc;go_enter Tryz.func113,Tryz.ntmps113;go_wp2_with fail
 refine bK (fun W=>ag w W∧W.heap.size=w.heap.size+3∧af W w.heap.size 24 #[.int .i64 n.kind,.string ⟨n.text.toArray⟩,.int .i64 n.ah,.slice A ks.length cap]∧af W (w.heap.size+1) 55 Z∧af W (w.heap.size+1+1) 55 #[.string ⟨bE.toArray⟩,.slice none 0 0,.slice none 0 0,.string ⟨#[]⟩]) ⟨(((M _ _).alloc _).alloc _).alloc _,by simp,((af.new w 24 _).alloc _).alloc _,(af.new2 w _ 55 _).alloc _,af.Jc _ _ _ _ _⟩ ?_;rintro W1 ⟨hf1,hs1,af7,yx,Ci⟩;have aK:=hid hf1;have lU:=hid af7;have mP:=hid yx;have KA:=hid Ci;have yc:=hid hs1;have HT1:=hid (show TabAt (w.heap.size+3) c 0 W1 (aC bq ks) none 0 0 from⟨by rw[List.take_zero,U.Q9 c hc0];rfl,.inl ⟨rfl,rfl,rfl,by omega⟩⟩);clear hf1 yx Ci hs1 af7
 go_loopw [11] (fun i wr=>∃(j ro:Nat) (Ao:Option Addr) (co:Nat),i=.int .i64 j∧j≤ks.length∧Hd (af wr w.heap.size 24 #[.int .i64 n.kind,.string ⟨n.text.toArray⟩,.int .i64 n.ah,.slice A ks.length cap])∧Hd (af wr (w.heap.size+1) 55 Z)∧Hd (af wr (w.heap.size+1+1) 55 #[.string ⟨bE.toArray⟩,.slice none 0 0,.slice Ao ro co,.string ⟨#[]⟩])∧Hd (TabAt (w.heap.size+3) c j wr (aC bq ks) Ao ro co)∧Hd (ag w wr)) (fun i _=>ks.length-(intOf i).toNat)
 case atStart=>exact⟨0,0,none,0,rfl,Nat.zero_le _,lU,mP,KA,HT1,aK⟩
 case round=>
  obtain⟨j,ro,Ao,co,rfl,hj,iY,ow,oI,HT,HF⟩:=hrel;rename_i wr _
  by_cases c1:j<ks.length
  ·have d1:decide ((j:Int)<(ks.length:Int))=true:=dT (by omega)
   have jo:decide (j<ks.length)=true:=dT c1;have d1':(j:Int)<(ks.length:Int):=by omega
   obtain⟨g,o,sx,hA,hg,m0,m1,m2,m3,hrx⟩:=yD.out.get j c1;cases hA;obtain⟨Ax,cx,rfl⟩:=hrx.slice;have e0:=HF.out.cell m0 (fun h=>h);have e1:=HF.out.cell m1 (fun h=>h);have e2:=HF.out.cell m2 (fun h=>h);have e3:=HF.out.cell m3 (fun h=>h);have hgl:g<wr.heap.size:=Nat.lt_of_lt_of_le hg HF.out.size;have HRX:=hid (hrx.fresh HF.out);have ai1:=hid hrx;have wZ:=hid (List.getElem_mem c1);clear m0 m1 m2 m3 hg hrx;obtain⟨b0,b1,b2,b3,_,_,_,_,hlb⟩:=af.four iY.out;rw[Rm.out]at b2;have hF:(aC bq ks).length=ks.length:=Df _ _;have af8:=JS c hc0 ((aC bq ks).take j);rw[List.length_take,hF]at af8;have hro:ro≤100000:=by have:=HT.out.1;omega
   have eO:=hid (show af (wr.alloc (.cells #[.int .i64 ks[j].kind,.string ⟨ks[j].text.toArray⟩,.int .i64 ks[j].ah,.slice Ax ks[j].kids.length cx] 24)) wr.heap.size 24 #[.int .i64 ks[j].kind,.string ⟨ks[j].text.toArray⟩,.int .i64 ks[j].ah,.slice Ax ks[j].kids.length cx]from af.new wr 24 #[.int .i64 ks[j].kind,.string ⟨ks[j].text.toArray⟩,.int .i64 ks[j].ah,.slice Ax ks[j].kids.length cx]);have Nf:=hid (iY.out.alloc (.cells #[.int .i64 ks[j].kind,.string ⟨ks[j].text.toArray⟩,.int .i64 ks[j].ah,.slice Ax ks[j].kids.length cx] 24));have DK:=hid (ow.out.alloc (.cells #[.int .i64 ks[j].kind,.string ⟨ks[j].text.toArray⟩,.int .i64 ks[j].ah,.slice Ax ks[j].kids.length cx] 24));have DJ:=hid (oI.out.alloc (.cells #[.int .i64 ks[j].kind,.string ⟨ks[j].text.toArray⟩,.int .i64 ks[j].ah,.slice Ax ks[j].kids.length cx] 24));have iW:=hid (HT.out.fresh ((M _ wr).alloc (.cells #[.int .i64 ks[j].kind,.string ⟨ks[j].text.toArray⟩,.int .i64 ks[j].ah,.slice Ax ks[j].kids.length cx] 24)));have eY:=hid (HF.out.alloc (.cells #[.int .i64 ks[j].kind,.string ⟨ks[j].text.toArray⟩,.int .i64 ks[j].ah,.slice Ax ks[j].kids.length cx] 24));have Na:=hid (HRX.out.fresh ((M _ wr).alloc (.cells #[.int .i64 ks[j].kind,.string ⟨ks[j].text.toArray⟩,.int .i64 ks[j].ah,.slice Ax ks[j].kids.length cx] 24)));have hBw:w.heap.size+3≤wr.heap.size:=(HT.out.grow hc0).base
   by_cases c2:j%c=0
   focus
    have d2:((j:Int)%(c:Int)==0)=true:=by rw[beq_iff_eq];omega
    have d2n:(j%c==0)=true:=by rw[c2];rfl
    have xG:=hid (iW.out.grow hc0);have lg:=hid (show((grid c ((aC bq ks).take j)).map (ax dU)).length=ro by rw[List.length_map];exact HT.out.1.symm);have HOW:=hid xG.out.pY;obtain⟨q0,q1,q2,q3,z0,z1,z2,z3,hlt⟩:=af.four DJ.out
    go_wp2_with (at_builtin;go_loud (refine Ig rfl (.tmp 22) (.tmp 24) rfl (xG.out.fresh ((M _ _).alloc _)) lg.out (by simp[Act.eval]) (af.new2 wr (.cells #[.int .i64 ks[j].kind,.string ⟨ks[j].text.toArray⟩,.int .i64 ks[j].ah,.slice Ax ks[j].kids.length cx] 24) 55 _) (by simp[Act.eval]) (by omega) ?_);intro A8 c8 w8 cs8 bR Ng;refine jw.mk ?_)
    have Nh:=hid (HT.out.grow hc0).pY;obtain⟨g7,c7,hv7,hg7,_⟩:=bR.last lg.out;cases hv7;have RU:ag w w8:=(eY.out.alloc _).trans' Ng fun k hk=>.inr (by have:=(Nh.out _ hk).1;omega)
    have acN:=Ng.blk (DJ.out.alloc (.cells #[.string ⟨dU.toArray⟩,.slice none 0 0,.slice none 0 0,.string ⟨#[]⟩] 55)) fun h=>by have:=(Nh.out _ h).1;omega
    have af9:=Ng.blk (Nf.out.alloc (.cells #[.string ⟨dU.toArray⟩,.slice none 0 0,.slice none 0 0,.string ⟨#[]⟩] 55)) fun h=>by have:=(Nh.out _ h).1;omega
    have af':=Ng.blk (DK.out.alloc (.cells #[.string ⟨dU.toArray⟩,.slice none 0 0,.slice none 0 0,.string ⟨#[]⟩] 55)) fun h=>by have:=(Nh.out _ h).1;omega
    have aga:=Ng.blk (eO.out.alloc (.cells #[.string ⟨dU.toArray⟩,.slice none 0 0,.slice none 0 0,.string ⟨#[]⟩] 55)) fun h=>by have:=(Nh.out _ h).2;omega
    have jy:=hid (bR.mv ((M (fun k=>k=(w.heap.size+1+1)) w8).setCell (p:=⟨(w.heap.size+1+1),2,none⟩) (.inl rfl) (.slice (some ⟨g7,0,none⟩) (ro+1) c8)) (fun k hk _=>by omega));have gW:=hid (RU.setCell (p:=⟨(w.heap.size+1+1),2,none⟩) (.inr (by show w.heap.size≤(w.heap.size+1+1);omega)) (.slice (some ⟨g7,0,none⟩) (ro+1) c8));have tu:=hid (acN.put 2 (.slice (some ⟨g7,0,none⟩) (ro+1) c8));have Av:=hid (af9.far (p:=⟨(w.heap.size+1+1),2,none⟩) (by simp;omega) (.slice (some ⟨g7,0,none⟩) (ro+1) c8));have qc:=hid (af'.far (p:=⟨(w.heap.size+1+1),2,none⟩) (by simp) (.slice (some ⟨g7,0,none⟩) (ro+1) c8));have KG:=hid (aga.far (p:=⟨(w.heap.size+1+1),2,none⟩) (by show wr.heap.size≠(w.heap.size+1+1);omega) (.slice (some ⟨g7,0,none⟩) (ro+1) c8));have HGR:=hid (X8 c j hc0 (aC bq ks) c2 (by omega));obtain⟨p0,p1,p2,p3,y0,y1,y2,y3,hlp⟩:=af.four acN;have hwr:IntKind.i64.wrap (ro:Int)=ro:=IntWalk.i64_in _ (by omega);have hm1:(ro:Int)+1-1=ro:=by omega
    have hm2:(ro:Int)<ro+1:=by omega
    clear bR Ng RU acN af9 af' aga q0 q1 q2 q3 z0 z1 z2 z3 hlt;refine jw.go ?_;have hpk:∃(Lg:List (List E)) (r:List E) (B2:Nat) (v2:Value) (cs0:List Value),Lg.length=ro∧grid c ((aC bq ks).take (j+1))=Lg++[r++[(aC bq ks)[j]'(by rw[hF];exact c1)]]∧kS (w.heap.size+3) (w8.setCell ⟨(w.heap.size+1+1),2,none⟩ (.slice (some ⟨g7,0,none⟩) (ro+1) c8)) (.slice (some ⟨g7,0,none⟩) (ro+1) c8) (Lg.map (ax dU)) r B2 v2 cs0:=⟨_,_,_,_,_,HT.out.1.symm,HGR.out,jy.out⟩;clear jy HGR lg HOW Nh xG;have G6:=hid hpk;clear hpk;go_wp2_with fail
    clear p0 p1 p2 p3 y0 y1 y2 y3 hlp hwr hm1 hm2 d2 d2n;generalize (w8.setCell ⟨(w.heap.size+1+1),2,none⟩ (.slice (some ⟨g7,0,none⟩) (ro+1) c8))=W7 at G6 gW tu Av qc KG⊢;obtain⟨m,rfl⟩:∃m,m=ro:=⟨ro,rfl⟩
   rotate_left
   focus
    have d2:((j:Int)%(c:Int)==0)=false:=by rw[beq_eq_false_iff_ne];omega
    have d2n:(j%c==0)=false:=by rw[beq_eq_false_iff_ne];exact c2
    obtain⟨m,g7,rfl,rfl,hg7,hpk⟩:∃m g7,ro=m+1∧Ao=some ⟨g7,0,none⟩∧w.heap.size+3≤g7∧∃(Lg:List (List E)) (r:List E) (B2:Nat) (v2:Value) (cs0:List Value),Lg.length=m∧grid c ((aC bq ks).take (j+1))=Lg++[r++[(aC bq ks)[j]'(by rw[hF];exact c1)]]∧kS (w.heap.size+3) (wr.alloc (.cells #[.int .i64 ks[j].kind,.string ⟨ks[j].text.toArray⟩,.int .i64 ks[j].ah,.slice Ax ks[j].kids.length cx] 24)) (.slice (some ⟨g7,0,none⟩) (m+1) co) (Lg.map (ax dU)) r B2 v2 cs0:=by
     obtain⟨Lg,r,B2,v2,cs0,hgr,ai2,htb⟩:=iW.out.more hc0 c2 (by omega);obtain⟨g7,c8,hv7,hg7,_⟩:=htb.last (List.length_map _);cases hv7;exact⟨_,g7,ai2,rfl,hg7,_,_,_,_,_,rfl,hgr,htb⟩
    have G6:=hid hpk;clear hpk iW;obtain⟨q0,q1,q2,q3,z0,z1,z2,z3,hlt⟩:=af.four DJ.out;have hwr:IntKind.i64.wrap (m:Int)=m:=IntWalk.i64_in _ (by omega);have hm1:(m:Int)+1-1=m:=by omega
    have hm2:(m:Int)<m+1:=by omega
    go_wp2_with fail
    clear q0 q1 q2 q3 z0 z1 z2 z3 hlt hwr hm1 hm2 d2 d2n;have gW:=hid eY.out;have tu:=hid DJ.out;have Av:=hid Nf.out;have qc:=hid DK.out;have KG:=hid eO.out;generalize (wr.alloc (.cells #[.int .i64 ks[j].kind,.string ⟨ks[j].text.toArray⟩,.int .i64 ks[j].ah,.slice Ax ks[j].kids.length cx] 24))=W7 at G6 gW tu Av qc KG⊢;obtain⟨c8,rfl⟩:∃c8,c8=co:=⟨co,rfl⟩
   all_goals
    obtain⟨Lg,r,B2,v2,cs0,VL,hgr,htb⟩:=G6.out;have HGR:=hid hgr;have HLM:=hid (show(Lg.map (ax dU)).length=m by rw[List.length_map];exact VL);obtain⟨g',c',hv',_,acO,hcell,hfz⟩:=htb.last HLM.out;cases hv';obtain⟨A2,c2',rfl⟩:=htb.2.2.2.2.slice;obtain⟨hB2,cs2,hi2,hs2⟩:=htb.2.2.2.2;have yB:=hid htb;have HI2:=hid hi2;have HS2:=hid hs2;have hgB:g7<B2:=htb.2.1 g7 rfl;have agb:=hid (ai1.out.fresh gW.out)
    have hmj:m≤j:=by
     have h1:=JS c hc0 ((aC bq ks).take (j+1));rw[hgr,List.length_append,List.length_take,VL]at h1;simp only[List.length_cons,List.length_nil]at h1;omega
    have hrl:r.length≤100000:=by
     have h1:=HI2.out.1;have h2:=aaA c hc0 ((aC bq ks).take (j+1)) (r++[(aC bq ks)[j]'(by rw[hF];exact c1)]) (by rw[hgr];simp);rw[List.length_append,List.length_take]at h2;omega
    have k0:=cR hcell;have j0:=cR (KG.out.cell 0|>.trans rfl);have j1:=cR (KG.out.cell 1|>.trans rfl);have j2:=cR (KG.out.cell 2|>.trans rfl);have j3:=cR (KG.out.cell 3|>.trans rfl);have ahh:=hid hcell;have HFZ:=hid hfz;clear htb hi2 hs2 VL hgr hcell hfz G6 e0 e1 e2 e3
    refine LG (gq.of [(0,true),(1,true),(2,true),(3,true),(4,true),(6,true)] (.fork 5 (.lone 7 .nil) 7 (.lone 5 .nil))) [0,1,2,3,4,5,6,7] 8 (Array.replicate 8 true++Array.replicate 6 false) (fun _=>True) (gq.of [(9,true),(11,true),(12,true)] (.fork 10 (.lone 13 .nil) 13 (.lone 10 .nil))) [9,10,11,12,13] (Array.replicate 14 true)
     (by kernel_rfl) (fun _ _ d _ _ h=>by cases d<;>exact h) (by kernel_rfl) ?_
    unfold gq.of
    repeat(refine eX rfl (fun K hK=>?_);go_simp;refine hK _ ?_;clear hK K;first|done|unfold gq.of)
    clear k0 j0 j1 j2 j3;refine o6 ?_ ?_
    focus
     refine aW rfl (fun K hK=>?_);go_wp2_with fail
     refine(q9.out ks[j] wZ.out bq _ _ (by decide) (by have:=Tr.cB wZ.out;omega) (agb.out.fresh ((M _ _).drewN 1))).mono ?_;rintro _ w6 ⟨v6,rfl,va,vk,rfl,dK,dZ⟩;have fI:=hid (show ag W7 w6 from((M _ W7).drewN 1).trans dK);have nV:=hid (show dz (fun k=>k<W7.heap.size) w6 fun W=>jd W (ax bq (eU ks[j].kids)) va vk from dZ);obtain⟨Aa,ca,rfl⟩:=dZ.now.1.slice;obtain⟨Ak,ck,rfl⟩:=dZ.now.2.1.slice;clear dK dZ;go_wp2
     refine hK _ _ (aA fI.out) ?_;clear hK K;refine aW rfl (fun K hK=>?_);go_wp2
     refine hK _ _ (aA (fI.out.alloc _)) ?_;clear hK K;have kW:=hid (af.new w6 55 Z);have gL:=hid (fI.out.alloc (.cells Z 55));have Ky:=hid (nV.out.fresh ((M _ w6).alloc (.cells Z 55)));generalize (w6.alloc (.cells Z 55))=wA at kW gL Ky⊢;obtain⟨bz,hbz⟩:∃b,b=w6.heap.size:=⟨_,rfl⟩;rw[←hbz]at kW⊢;clear hbz fI nV
    rotate_left
    focus
     refine aW rfl (fun K hK=>?_);go_wp2
     refine hK _ _ (aA (((M _ W7).drewN 1).alloc _)) ?_;clear hK K;have acP:=hid (show af ((W7.drewN 1).alloc (.cells Z 55)) W7.heap.size 55 Z from af.new (W7.drewN 1) 55 Z);have fI:=hid (show ag W7 ((W7.drewN 1).alloc (.cells Z 55))from((M _ W7).drewN 1).alloc _);have AO:=hid (show W7.heap.size≤((W7.drewN 1).alloc (.cells Z 55)).heap.size from fI.out.size);generalize ((W7.drewN 1).alloc (.cells Z 55))=w6 at acP fI AO⊢;obtain⟨bz,hbz⟩:∃b,b=W7.heap.size:=⟨_,rfl⟩;refine aW rfl (fun K hK=>?_);go_wp2_with fail
     refine(q9.out ks[j] wZ.out bq _ _ (by decide) (by have:=Tr.cB wZ.out;omega) (agb.out.fresh fI.out)).mono ?_;rintro _ wA ⟨v6,rfl,va,vk,rfl,dK,dZ⟩;have gL:=hid (show ag W7 wA from fI.out.trans dK);have Ky:=hid (show dz (fun k=>k<W7.heap.size) wA fun W=>jd W (ax bq (eU ks[j].kids)) va vk from dZ.mono fun i _ hi=>Nat.lt_of_lt_of_le hi AO.out);obtain⟨Aa,ca,rfl⟩:=dZ.now.1.slice;obtain⟨Ak,ck,rfl⟩:=dZ.now.2.1.slice;have kW:=hid (dK.blk acP.out fun h=>h);clear dK dZ;go_wp2
     refine hK _ _ (aA gL.out) ?_;clear hK K;rw[←hbz]at kW⊢;clear hbz fI acP AO
    all_goals
     have HIA:=hid (aQ HI2.out gL.out fun _ _ h=>h);have ql:=hid (Nat.le_trans hB2 gL.out.size);obtain⟨ie,hie,hz0,hz1,hz2⟩:=info_parts E8;refine BU rfl (fun K hK=>?_)
     go_wp2_with (at_builtin;go_loud (refine iL _ rfl (.tmp 37) (.tmp 41) 53 rfl B2 55 ie _ 4 80 Tryz.underlying53 hie hz0 hz1 hz2 rfl (by decide) (.slice A2 r.length c2') r.length cs2 (by simp[Act.eval]) HIA.out (.slice (some ⟨bz,0,none⟩) 1 1) 1 _ (by simp[Act.eval]) (Src.uT kW.out rfl) (by simp[Value.oneCell']) (by simp only[maxLen];omega) (by omega) ql.out ?_);intro v9 w8 yX DR hv9;refine jw.mk ?_)
     obtain⟨g2,c9,hv2⟩:∃g2 c9,v9=.slice (some ⟨g2,0,none⟩) (r.length+1) c9:=by
      rcases yX.2 with⟨_,h0⟩|⟨g',cap',cur',e',_⟩
      ·omega
      ·exact⟨g',cap',e'⟩
     subst hv2;have Fx:Touch (fun k=>(Value.slice A2 r.length c2').ownBlock=some k) wA w8:=Touch.grown (M _ _) DR fun k hk=>.inl hk
     have HST:=hid (kS.stores (e:=ax bq (eU ks[j].kids)) yB.out HLM.out HI2.out HS2.out gL.out Ky.out yX Fx hv9);have hg2:=yX.lt g2 rfl;have hl2:cs2.length=r.length*4:=HI2.out.1
     have Mo:∀i z,([Value.string ⟨#[]⟩,.slice none 0 0,.slice none 0 0,.string ⟨#[]⟩])[i]?=some z→i<4→w8.cell? ⟨g2,r.length*4+i,none⟩=some z:=fun i z hz hi4=>by
      rw[yX.cellAt _ (by omega),List.getElem?_append_right (by omega),show r.length*4+i-cs2.length=i by omega];exact hz
     have a0:w8.cell? ⟨g2,r.length*4,none⟩=some (.string ⟨#[]⟩):=Mo 0 _ rfl (by omega);have a1:=Mo 1 _ rfl (by omega);have a2:=Mo 2 _ rfl (by omega);have a3:=Mo 3 _ rfl (by omega);have f0:w8.frozen? ⟨g2,r.length*4,none⟩=false:=yX.frozenAt _;have f1:w8.frozen? ⟨g2,r.length*4+1,none⟩=false:=yX.frozenAt _;have f2:w8.frozen? ⟨g2,r.length*4+2,none⟩=false:=yX.frozenAt _;have f3:w8.frozen? ⟨g2,r.length*4+3,none⟩=false:=yX.frozenAt _;have hno:∀k,(Value.slice A2 r.length c2').ownBlock=some k→B2≤k:=fun k hk=>(HI2.out.lt k hk).1
     have b0:=Fx.cell (gL.out.cell ahh.out fun h=>h) fun h=>by have:=hno _ h;simp only at this;omega
     have b1:w8.frozen? ⟨g7,m*4+2,none⟩=false:=(Fx.frozen (p:=⟨g7,m*4+2,none⟩) (Nat.lt_of_lt_of_le acO gL.out.size) fun h=>by have:=hno _ h;simp only at this;omega).trans ((gL.out.frozen (p:=⟨g7,m*4+2,none⟩) acO fun h=>h).trans HFZ.out);have ak8:g7<w8.heap.size:=Nat.lt_of_lt_of_le acO (Nat.le_trans gL.out.size Fx.size);have hne:g7≠g2:=by omega
     have hne':g2≠g7:=by omega
     have hBB:w.heap.size+3≤B2:=yB.out.1;have mZ:=hid (show ag w w8 from(gW.out.trans gL.out).trans' Fx fun k hk=>.inr (by have:=hno _ hk;omega));have tC:=hid (Fx.blk (gL.out.blk tu.out fun h=>h) fun h=>by have:=hno _ h;omega);have ai3:=hid (Fx.blk (gL.out.blk Av.out fun h=>h) fun h=>by have:=hno _ h;omega);have wE:=hid (Fx.blk (gL.out.blk qc.out fun h=>h) fun h=>by have:=hno _ h;omega);have gu:=hid hBB;have HG2:=hid hg2.1;have Rk:=hid (show r.length<r.length+1 by omega);have hr1:(r.length:Int)<(r.length:Int)+1:=by omega
     have hlt2:=hg2.2;clear yX DR hv9 Fx Mo hno hBB HIA ql kW hg2 hl2;refine jw.go ?_;go_wp2
     refine hK _ _ trivial ?_;clear hK K
     repeat(refine eX rfl (fun K hK=>?_);go_simp;refine hK _ ?_;clear hK K)
     refine o6 ?_ ?_
     focus
      refine aW rfl (fun K hK=>?_);go_wp2
      refine hK _ _ trivial ?_;clear hK K;refine aW rfl (fun K hK=>?_);go_wp2
      refine hK _ _ trivial ?_;clear hK K;have lS:=hid HST.out.1;have uX:=hid (show Touch (fun k=>k=g2∨k=g7) w8 _ from((zm w8 g2 (r.length*4) (.string ⟨(ax bq (eU ks[j].kids)).name.toArray⟩) (.slice Aa (ax bq (eU ks[j].kids)).attrs.length ca) (.slice Ak (ax bq (eU ks[j].kids)).kids.length ck) (.string ⟨(ax bq (eU ks[j].kids)).text.toArray⟩)).mono fun i hi=>.inl hi).trans ((En _ g7 (m*4+2) (.slice (some ⟨g2,0,none⟩) (r.length+1) c9)).mono fun i hi=>.inr hi));unfold Ie at lS uX;clear a0 a1 a2 a3 f0 f1 f2 f3 b0 b1 HST;generalize World.setCell _ ⟨g7,m*4+2,none⟩ _=W9 at lS uX⊢
     rotate_left
     focus
      refine aW rfl (fun K hK=>?_);go_wp2
      refine hK _ _ trivial ?_;clear hK K;refine aW rfl (fun K hK=>?_);go_wp2
      refine hK _ _ trivial ?_;clear hK K;have lS:=hid HST.out.2;have uX:=hid (show Touch (fun k=>k=g2∨k=g7) w8 _ from((En w8 g7 (m*4+2) (.slice (some ⟨g2,0,none⟩) (r.length+1) c9)).mono fun i hi=>.inr hi).trans ((zm _ g2 (r.length*4) (.string ⟨(ax bq (eU ks[j].kids)).name.toArray⟩) (.slice Aa (ax bq (eU ks[j].kids)).attrs.length ca) (.slice Ak (ax bq (eU ks[j].kids)).kids.length ck) (.string ⟨(ax bq (eU ks[j].kids)).text.toArray⟩)).mono fun i hi=>.inl hi));unfold Ie at lS uX;clear a0 a1 a2 a3 f0 f1 f2 f3 b0 b1 HST;generalize World.setCell _ ⟨g2,r.length*4+3,none⟩ _=W9 at lS uX⊢
     all_goals
      refine sQ ?_;go_wp2_with fail
      have DR:=HGR.out;rw[show(aC bq ks)[j]'(by rw[hF];exact c1)=ax bq (eU ks[j].kids) by simp[aC]]at DR;have hBB:=gu.out;have hG2:=HG2.out;have VL:Lg.length=m:=by have:=HLM.out;rwa [List.length_map]at this
      have yG:TabAt (w.heap.size+3) c (j+1) W9 (aC bq ks) (some ⟨g7,0,none⟩) (m+1) c8:=by
       refine⟨by rw[DR,List.length_append,VL];rfl,.inr ⟨Lg,r++[ax bq (eU ks[j].kids)],B2,.slice (some ⟨g2,0,none⟩) (r.length+1) c9,cs0,DR,?_⟩⟩;rw[VL];exact lS.out
      exact⟨⟨j+1,m+1,some ⟨g7,0,none⟩,c8,by simp,by omega,uX.out.blk ai3.out (fun h=>by rcases h with h|h<;>omega),uX.out.blk wE.out (fun h=>by rcases h with h|h<;>omega),uX.out.blk tC.out (fun h=>by rcases h with h|h<;>omega),yG,mZ.out.trans' uX.out (fun k hk=>.inr (by rcases hk with h|h<;>omega))⟩,by simp[intOf];omega⟩
  ·have d1:decide ((j:Int)<(ks.length:Int))=false:=dF (by omega)
   have jo:decide (j<ks.length)=false:=dF c1;obtain rfl:j=ks.length:=by omega
   obtain⟨q0,q1,q2,q3,_,_,_,_,hlt⟩:=af.four oI.out;obtain⟨p0,p1,p2,p3,y0,y1,y2,y3,hlp⟩:=af.four ow.out;have jA:=(HT.out.grow hc0).mv ((M (fun k=>k=(w.heap.size+1)) wr).aO (.inl rfl) (.string ⟨bE.toArray⟩) (.slice none 0 0) (.slice Ao ro co) (.string ⟨#[]⟩)) (fun k hk _=>by omega);rw[List.take_of_length_le (by rw[Df];exact Nat.le_refl _)]at jA;have qL:=hid jA;obtain⟨r0,r1,r2,r3,_,_,_,_,_⟩:=af.four (ow.out.gH (.string ⟨bE.toArray⟩) (.slice none 0 0) (.slice Ao ro co) (.string ⟨#[]⟩));simp only[aO]at r0 r1 r2 r3;clear jA;go_wp2
   refine bodyPost_ret (v:=.agg #[.string ⟨bE.toArray⟩,.slice none 0 0,.slice Ao ro co,.string ⟨#[]⟩]) (by simp[results,Tryz.results113,go_sem,r0,r1,r2,r3]) rfl ?_;refine⟨_,rfl,.slice none 0 0,.slice Ao ro co,rfl,Touch.aO HF.out (.inr (by omega)) _ _ _ _,?_⟩;exact(qL.out.done.mono fun i _ hi=>by omega).imp fun W hW=>⟨gJ.nil _ _ _,hW,show bE.length≤maxLen by decide,Nat.zero_le _⟩
end
end Go.Proofs.YtcgbccfpcgaikaaGreatDoor
