/- Part 42 of 48 of a proof. No condition. -/
import Derived.Test.YtnbeemkfmlfgfaaGreatDoorTm41
set_option maxRecDepth 100000
set_option maxHeartbeats 8000000
namespace Go.Proofs.YtnbeemkfmlfgfaaGreatDoor
section
open Go.RowKit
open Tr (Nd)
open U (E Rd aA iQ gY kP gV bZ gW dN aJ bM ah)
attribute [local go_sem] jg stillUpon
theorem Ut(W0:World)(g:Nat)(e:E)(hK:U.cu e.name≠12)(ih:∀x∈e.kids,JH W0 g x):JG W0 g e:=by
 intro s va vk w hs0 hcnt hpr hr hrd;have HK:=I hK;have jw:=I ih;have jP:=I hrd;have qi:=I (U.xP e hpr);have hg0:=hrd.lt;have hW0:=hrd.le;have gm:=I hr;have yc:=I (show dL W0 e.kids vk from hr.2.1);have uy:=I (show(s.1+1)+U.aj e.kids≤100000 by rw[U.aI]at hcnt;omega);have hl2:e.kids.length≤100000:=by have:=U.gL e.kids;have:=uy.J;omega
 have hsb:s.1≤1000000:=by omega
 have gX:=I (LV e (U.cu e.name) hr.2.2.2 (U.AU e hpr));have X5:=I (fun w:World=>LQ e.name w);have jM:=I (fun(w:World) (h:bN w e va vk)=>LU e va vk w h (U.AU e hpr));have jW:=I (fun(w:World) (h:bN w e va vk)=>Jz e (U.cu e.name) va vk w h);have qU:=I (show U.jH e=(decide (0<U.cu e.name)&&(U.bY e (U.cu e.name)).2&&U.tq e.name e.kids.length (U.cu e.name))from rfl);have wX:=I (show kP e s=(U.uj e (bZ ah e.kids (iQ (U.jH e) s)).1 (bZ ah e.kids (iQ (U.jH e) s)).2.2,(bZ ah e.kids (iQ (U.jH e) s)).2) by rw[U.Dk];simp only[if_neg hK])
 have j6:=I (show∀ns bad,¬(U.cu e.name=6∧bad<0)→U.uj e ns bad=.mk (U.cu e.name) (U.bY e (U.cu e.name)).1 0 ns by
  intro ns bad h;show(if U.cu e.name=6∧bad<0 then _ else _)=_;rw[if_neg h,if_neg hK])
 have HE2:=I (show∀ns bad,U.cu e.name=6→bad<0→U.uj e ns bad=if e.name=U.dK then .mk 6 (U.bY e (U.cu e.name)).1 0 (dN::ns)else .mk 6 (U.bY e (U.cu e.name)).1 0 ((ns.drop 1).take 1++ns.take 1++ns.drop 2) by
  intro ns bad h hb;show(if U.cu e.name=6∧bad<0 then _ else _)=_;rw[if_pos ⟨h,hb⟩,h])
 have Gn:=I (show U.cu e.name=6→U.jH e=true→(e.name=U.dK∧e.kids.length=1)∨(e.name≠U.dK∧e.kids.length=2) by
  intro h6 ho;unfold U.jH at ho;rw[h6]at ho;simp only[Bool.and_eq_true]at ho;have h:=ho.2
  by_cases hn:e.name=U.dK
  ·refine .inl ⟨hn,?_⟩
   rw[hn]at h;exact of_decide_eq_true h
  ·refine .inr ⟨hn,?_⟩
   unfold U.tq at h;rw[if_neg (by decide),if_neg (by simp[hn]),if_neg (by decide),if_neg (by decide)]at h;exact of_decide_eq_true h)
 obtain⟨A,ca,hva⟩:=hr.1.slice;obtain⟨Bk,cb,hvk⟩:=hr.2.1.slice;clear ih hrd hpr hcnt hr hs0 hK;generalize U.jH e=ok at*;generalize U.bY e (U.cu e.name)=M at*;generalize U.tq e.name e.kids.length (U.cu e.name)=SB at*;generalize U.cu e.name=K at*;obtain⟨tx,tb⟩:=M;obtain⟨s1,hs1⟩:∃s1,iQ ok s=s1:=⟨_,rfl⟩;rw[hs1]at wX;have pq:=I hs1;have Fp:=I (show s1.1+U.aj e.kids≤100000 by rw[←hs1];exact uy.J)
 have HBD:=I (show s1.2<0→ok=true by
  intro h;cases ok with
  |true=>rfl
  |false=>
   rw[←hs1]at h;obtain⟨a,b⟩:=s;have h:(if b<0 then(a:Int)else b)<0:=by simpa[iQ]using h
   split at h<;>omega)
 clear hs1 uy;obtain⟨n,ats,ks,t⟩:=e;replace hva:va=.slice A ats.length ca:=hva;replace hvk:vk=.slice Bk ks.length cb:=hvk;subst hva hvk;unfold ev at*;simp only[E.name,E.text,E.kids]at*;have hk0:=HK.J;go_enter Tryz.func128,Tryz.ntmps128;go_wp2_with fail
 have dh:=I (((M (fun _=>False) w).alloc (.cells #[.string ⟨n.toArray⟩,.slice A ats.length ca,.slice Bk ks.length cb,.string ⟨t.toArray⟩] 45)).alloc (.cells Y 31));have Pg:=I ((O.new w 45 #[.string ⟨n.toArray⟩,.slice A ats.length ca,.slice Bk ks.length cb,.string ⟨t.toArray⟩]).alloc (.cells Y 31));have Hu:=I (O.new2 w (.cells #[.string ⟨n.toArray⟩,.slice A ats.length ca,.slice Bk ks.length cb,.string ⟨t.toArray⟩] 45) 31 Y);refine(X5.J _).mono ?_;rintro _ w1 ⟨rfl,hf1⟩;have aF:=I (dh.J.trans hf1);have oQ:=I (hf1.blk Pg.J fun h=>h);have eX:=I (hf1.blk Hu.J fun h=>h);clear hf1 dh Pg Hu;obtain⟨q0,q1,q2,q3,_,_,_,_,hlt1⟩:=O.four oQ.J;go_wp2_with fail
 refine(jM.J _ (gm.J.fresh (jP.J.fr.trans aF.J))).mono ?_;rintro _ w2 ⟨rfl,hf2⟩;have aY:=I (aF.J.trans hf2);have uE:=I (hf2.blk oQ.J fun h=>h);have uD:=I (hf2.blk eX.J fun h=>h);clear hf2 aF oQ eX q0 q1 q2 q3 hlt1;obtain⟨q0,q1,q2,q3,_,_,_,_,hlt2⟩:=O.four uE.J
 have iV:(decide ((0:Int)<K)=false∧ok=false)∨(decide ((0:Int)<K)=true∧tb=false∧ok=false)∨(decide ((0:Int)<K)=true∧tb=true∧ok=SB):=by
  have h:=qU.J;cases hd:decide ((0:Int)<K)with
  |false=>exact .inl ⟨rfl,by rw[h,hd];rfl⟩
  |true=>
   cases tb with
   |false=>exact .inr (.inl ⟨rfl,rfl,by rw[h,hd];rfl⟩)
   |true=>exact .inr (.inr ⟨rfl,rfl,by rw[h,hd];rfl⟩)
 have Dz:=I (show∀(W:World) (hf:ag w W) (b:Bool) (hb:ok=b),O W w.heap.size 45 #[.string ⟨n.toArray⟩,.slice A ats.length ca,.slice Bk ks.length cb,.string ⟨t.toArray⟩]→O W (w.heap.size+1) 31 Y→Calls Tryz.prog 127 #[.pointer (some ⟨g,0,none⟩),.bool b] W fun x w'=>x=.returned (.tuple #[])∧Touch (fun k=>k=g) w w'∧oJ W0 g s1 w'∧O w' w.heap.size 45 #[.string ⟨n.toArray⟩,.slice A ats.length ca,.slice Bk ks.length cb,.string ⟨t.toArray⟩]∧O w' (w.heap.size+1) 31 Y from fun W hf b hb h1 h2=>by
  subst hb;refine(AO s ok g _ (jP.J.fresh hf).blk hsb).mono ?_;rintro x w' ⟨hx,ht,hb⟩;rw[pq.J]at hb;exact⟨hx,(hf.mono fun _ h=>h.elim).trans ht,(jP.J.fresh hf).turn ht hb,ht.blk h1 fun h=>by omega,ht.blk h2 fun h=>by omega⟩)
 clear qU X5 jM hsb pq
 rcases iV with⟨d1,e1⟩|⟨d1,rfl,e1⟩|⟨d1,rfl,e1⟩
 focus
  go_wp2_with fail
  refine(Dz.J _ aY.J _ e1 uE.J uD.J).mono ?_
 rotate_left
 focus
  go_wp2_with fail
  refine(Dz.J _ aY.J _ e1 uE.J uD.J).mono ?_
 rotate_left
 focus
  go_wp2_with fail
  refine(jW.J _ (gm.J.fresh (jP.J.fr.trans aY.J))).mono ?_;rintro _ w4 ⟨rfl,jh⟩;have dw:=I (aY.J.trans jh);have aa2:=I (jh.blk uE.J fun h=>h);have aa3:=I (jh.blk uD.J fun h=>h);clear jh aY uE uD q0 q1 q2 q3 hlt2;go_wp2_with fail
  refine(Dz.J _ dw.J _ e1 aa2.J aa3.J).mono ?_
 all_goals
  rintro _ w3 ⟨rfl,ht3,Fw,Ph,Pj⟩;have HT3:=I ht3;have vF:=I Fw;have Fx:=I Ph;have jL:=I Pj;clear ht3 Fw Ph Pj Dz jP jW e1 d1;obtain⟨bO,LX⟩:∃b,b=w3.heap.size:=⟨_,rfl⟩;have HO:=I LX;have hO1:w.heap.size+2≤bO:=by have:=jL.J.lt;omega
  clear LX;have k12:(K==(12:Int))=false:=by rw[beq_eq_false_iff_ne];exact HK.J
  have aiN:¬K=12:=HK.J;go_wp2_with fail
  rw[←HO.J]
  refine aV (fun W=>Touch (fun k=>k=g) w W∧oJ W0 g s1 W∧O W w.heap.size 45 #[.string ⟨n.toArray⟩,.slice A ats.length ca,.slice Bk ks.length cb,.string ⟨t.toArray⟩]∧O W (w.heap.size+1) 31 Y∧
   O W bO 31 #[.int .i64 K,.string ⟨tx.toArray⟩,.int .i64 0,.slice none 0 0]∧bO+1≤W.heap.size) ⟨HT3.J.alloc _,vF.J.fresh ((M _ _).alloc _),Fx.J.alloc _,jL.J.alloc _,by rw[HO.J];exact O.new _ _ _,by rw[HO.J];simp⟩ ?_
  rintro W1 ⟨ht1,Fs,oP,mZ,Fu,hs1⟩;have HT1:=I ht1;have O9:=I Fs;have oQ:=I oP;have eX:=I mZ;have Pb:=I Fu;have uq:=I (show dU (bO+1) W1 [] (.slice none 0 0)from dU.nil hs1);clear ht1 Fs oP mZ Fu hs1 HT3 vF Fx jL HO
  have aef:=I (show(bZ ah ks s1).2.2<0→ok=true from fun h=>HBD.J (by
   rcases Int.lt_or_le s1.2 0 with h1|h1
   ·exact h1
   ·rw[U.wT _ _ _ (by omega)]at h;exact h))
  have Bv:=I (show(bZ ah ks s1)=([]++(bZ ah (ks.drop 0) s1).1,(bZ ah (ks.drop 0) s1).2) by rw[List.drop_zero,List.nil_append]);clear HBD;generalize bZ ah ks s1=RF at Bv wX aef
  go_loopw [9] (fun i wr=>∃(j:Nat) (Ae:Option Addr) (ce:Nat) (ns:List Nd) (sj:Rd),i=.int .i64 j∧j≤ks.length∧Hd (ns.length=j)∧Hd (O wr w.heap.size 45 #[.string ⟨n.toArray⟩,.slice A ats.length ca,.slice Bk ks.length cb,.string ⟨t.toArray⟩])∧Hd (O wr (w.heap.size+1) 31 Y)∧
   Hd (O wr bO 31 #[.int .i64 K,.string ⟨tx.toArray⟩,.int .i64 0,.slice Ae j ce])∧Hd (dU (bO+1) wr ns (.slice Ae j ce))∧Hd (Touch (fun k=>k=g) w wr)∧Hd (oJ W0 g sj wr)∧Hd (sj.1+U.aj (ks.drop j)≤100000)∧
   Hd (RF=(ns++(bZ ah (ks.drop j) sj).1,(bZ ah (ks.drop j) sj).2))) (fun i _=>ks.length-(intOf i).toNat)
  case atStart=>exact⟨0,none,0,[],s1,rfl,Nat.zero_le _,I rfl,oQ,eX,Pb,uq,HT1,O9,Fp,Bv⟩
  case round=>
   obtain⟨j,Ae,ce,ns,⟨sa,sc⟩,rfl,hj,kr,jO,jX,uz,HG,HT,jP,yt,ja⟩:=hrel;rename_i wr _;have hsz:=HT.J.size;have hgs:=jP.J.lt;obtain⟨c0,_,e2,_,_,_,_,_,hle⟩:=O.four jO.J;obtain⟨_,r1,_,_,_⟩:=O.two (x0:=.int .i64 (sa:Int)) (x1:=.int .i64 sc) jP.J.blk
   by_cases c1:j<ks.length∧sc<0
   ·have d1:decide ((j:Int)<(ks.length:Int))=true:=dT (by omega)
    have dG:decide (j<ks.length)=true:=dT c1.1;have d1':(j:Int)<(ks.length:Int):=by omega
    have d2:decide (sc<(0:Int))=true:=dT c1.2;have vJ:=I c1.2;obtain⟨hjl,_⟩:=c1;obtain⟨_,_,_,u3,_,_,_,_,hlo⟩:=O.four uz.J;obtain⟨gx,o,xa,xk,rfl,eB⟩:=yc.J.ru j hjl;have qQ:=I eB;have jZ:=I (List.getElem_mem hjl);have HC:=I (jw.J _ jZ.J);have Dy:=I (qi.J _ jZ.J);have wU:=I (U.xQ ks j hjl);have HDR:=I (List.drop_eq_getElem_cons hjl);have Fv:=I (U.Ib ah ks[j] (sa,sc));obtain⟨hgx,x0,x1,x2,x3,Pd⟩:=eB.fresh jP.J.fr;have wV:gx≠g:=by have:=eB.1;omega
    clear eB jZ Pd hgx c0;generalize ks[j]=x at*;go_wp2_with fail
    have k0:=cT (S:=fun k=>k=g) e2 (by omega);have k3:=cT (S:=fun k=>k=g) u3 (by omega);have y0:=cT (S:=fun k=>k=g) x0 wV;have y1:=cT (S:=fun k=>k=g) x1 wV;have y2:=cT (S:=fun k=>k=g) x2 wV;have y3:=cT (S:=fun k=>k=g) x3 wV;clear e2 u3 r1 x0 x1 x2 x3 d1 dG d2
    refine fu (fun W=>∃x:Turned (fun k=>k=g) wr,W=x.W) (bq.of [(0,true),(1,true),(2,true),(3,true),(4,true),(5,true),(6,true),(7,true),(9,true)] (.fork 8 (.lone 10 .nil) 10 (.lone 8 .nil))) [0,1,2,3,4,5,6,7,8,9,10] 11 (Array.replicate 11 true++Array.replicate 5 false) (fun _=>True)
     (bq.of [(12,true),(14,true)] (.fork 13 (.lone 15 .nil) 15 (.lone 13 .nil))) [12,13,14,15] (Array.replicate 16 true) (by kernel_rfl) (fun _ _ d _ _ h=>by cases d<;>exact h) (by kernel_rfl) ⟨⟨_,(M _ _).drewN 1⟩,rfl⟩ ?_
    unfold bq.of
    repeat(refine aS rfl (fun K hK=>?_);go_simp;refine hK _ ?_;clear hK K;first|done|unfold bq.of)
    clear k0 k3 y0 y1 y2 y3;refine fB ?_ ?_
    focus
     refine ax rfl (fun K hK=>?_);go_wp2_with fail
     refine(HC.J ah (sa,sc) xa xk _ (by decide) vJ.J (by have:=yt.J;have:=wU.J;omega) Dy.J qQ.J.2.2.2.2.2 (jP.J.fresh ((M _ _).drewN 1))).mono ?_;rintro _ w6 ⟨v6,rfl,⟨sl,rfl,jl,oV,aQ⟩,tH⟩;have dB:=I (show Touch (fun k=>k=g) wr w6 from((M _ wr).drewN 1).trans jl);have fM:=I (show aZ (fun k=>k<wr.heap.size) w6 fun W=>aO W (gY ah x (sa,sc)).1.kids sl from aQ);have xD:=I oV;have Dl:=I tH;obtain⟨Ak,ck,rfl⟩:=aQ.now.slice;clear jl aQ oV tH;go_wp2
     refine hK _ _ ⟨⟨_,dB.J⟩,rfl⟩ ?_;clear hK K;refine ax rfl (fun K hK=>?_);go_wp2
     refine hK _ _ ⟨⟨_,dB.J.alloc _⟩,rfl⟩ ?_;clear hK K;have dX:=I (O.new w6 31 Y);have gq:=I (dB.J.alloc (.cells Y 31));have Ig:=I (Dl.J.fresh ((M _ w6).alloc (.cells Y 31)));have mI:=I (fM.J.fresh ((M _ w6).alloc (.cells Y 31)));generalize (w6.alloc (.cells Y 31))=wA at dX gq Ig mI⊢;obtain⟨bz,hbz⟩:∃b,b=w6.heap.size:=⟨_,rfl⟩;rw[←hbz]at dX⊢;clear hbz dB fM Dl
    rotate_left
    focus
     refine ax rfl (fun K hK=>?_);go_wp2
     refine hK _ _ ⟨⟨_,((M _ wr).drewN 1).alloc _⟩,rfl⟩ ?_;clear hK K;have zP:=I (show O ((wr.drewN 1).alloc (.cells Y 31)) wr.heap.size 31 Y from O.new (wr.drewN 1) 31 Y);have bT:=I (show ag wr ((wr.drewN 1).alloc (.cells Y 31))from((M _ wr).drewN 1).alloc _);have dB:=I (show Touch (fun k=>k=g) wr ((wr.drewN 1).alloc (.cells Y 31))from((M _ wr).drewN 1).alloc _);generalize ((wr.drewN 1).alloc (.cells Y 31))=w6 at zP bT dB⊢;obtain⟨bz,hbz⟩:∃b,b=wr.heap.size:=⟨_,rfl⟩;have yf:=I (show wr.heap.size≠g by omega);refine ax rfl (fun K hK=>?_);go_wp2_with fail
     refine(HC.J ah (sa,sc) xa xk _ (by decide) vJ.J (by have:=yt.J;have:=wU.J;omega) Dy.J qQ.J.2.2.2.2.2 (jP.J.fresh bT.J)).mono ?_;rintro _ wA ⟨v6,rfl,⟨sl,rfl,jl,oV,aQ⟩,tH⟩;have gq:=I (show Touch (fun k=>k=g) wr wA from dB.J.trans jl);have mI:=I (show aZ (fun k=>k<wr.heap.size) wA fun W=>aO W (gY ah x (sa,sc)).1.kids sl from aQ.mono fun i _ hi=>Nat.lt_of_lt_of_le hi bT.J.size);have xD:=I oV;have Ig:=I tH;obtain⟨Ak,ck,rfl⟩:=aQ.now.slice;have dX:=I (jl.blk zP.J yf.J);clear jl aQ oV tH;go_wp2
     refine hK _ _ ⟨⟨_,gq.J⟩,rfl⟩ ?_;clear hK K;rw[←hbz]at dX⊢;clear hbz dB zP bT yf
    all_goals
     have vg:=I (show RF=((ns++[(gY ah x (sa,sc)).1])++(bZ ah (ks.drop (j+1)) (gY ah x (sa,sc)).2).1,(bZ ah (ks.drop (j+1)) (gY ah x (sa,sc)).2).2) by
      rw[ja.J,HDR.J,bZ,if_pos vJ.J,List.append_assoc];rfl)
     have Ic:=I (show(gY ah x (sa,sc)).2.1+U.aj (ks.drop (j+1))≤100000 by have:=yt.J;have:=wU.J;have:=Fv.J;omega);clear ja HC HDR Fv yt wU;generalize gY ah x (sa,sc)=R at*;obtain⟨m,sb⟩:=R;simp only at*;have nu:=I (HG.J.mv gq.J fun k hk _=>by omega);have HOW:=I HG.J.jE;have Pe:=I (gq.J.blk jO.J fun h=>by omega);have Pf:=I (gq.J.blk uz.J fun h=>by omega);have aa4:=I (gq.J.blk jX.J fun h=>by omega);have bV:=I HG.J.1;have HAP:=I (HG.J.apart jO.J (by decide));refine iY rfl (fun K hK=>?_)
     go_wp2_with (at_builtin;go_loud (refine tF rfl (.tmp 73) (.tmp 82) rfl nu.J kr.J (by simp[Act.eval]) m dX.J (by simp[Act.eval]) wr.heap.size bV.J (fun k hk=>(HOW.J k hk).2) xD.J mI.J (by omega) ?_);intro A8 c8 w8 gJ bW _;refine iC.mk ?_)
     obtain⟨g8,Kc,BK,FH,Ke,Kg,a0,a1,a2,a3,f0,f1,f2,f3⟩:=gJ.cells kr.J;cases BK;have lq:=I (bW.blk Pe.J fun h=>HAP.J h);have zW:=bW.blk Pf.J fun h=>by have:=(HOW.J _ h).1;omega
     have mJ:=I (bW.blk aa4.J fun h=>by have:=(HOW.J _ h).1;omega);have Ie:=I (Ig.J.move bW (fun h=>by have:=(HOW.J _ h).1;omega) fun k hk=>by have:=(HOW.J _ hk).1;omega);have oC:=I (show Touch (fun k=>k=g) w w8 from(HT.J.trans gq.J).trans' bW fun k hk=>.inr (by have:=(HOW.J _ hk).1;omega));have HST:=I (gJ.stores kr.J zW (Nat.lt_succ_self bO));obtain⟨_,_,_,q3,_,_,_,z3,wo⟩:=O.four zW;have hne:bO≠g8:=by omega
     have hne':g8≠bO:=by omega
     have hr1:(j:Int)<(j:Int)+1:=by omega
     have aa1:=I (gJ.apart lq.J (by decide));clear bW zW gJ;refine iC.go ?_;go_wp2
     refine hK _ _ trivial ?_;clear hK K
     repeat(refine aS rfl (fun K hK=>?_);go_simp;refine hK _ ?_;clear hK K)
     refine fB ?_ ?_
     focus
      refine ax rfl (fun K hK=>?_);go_wp2
      refine hK _ _ trivial ?_;clear hK K;refine ax rfl (fun K hK=>?_);go_wp2
      refine hK _ _ trivial ?_;clear hK K;have bU:=I (HST.J.1 _ rfl);unfold mG at bU;clear a0 a1 a2 a3 f0 f1 f2 f3 q3 z3 HST;generalize World.setCell _ ⟨bO,3,none⟩ _=W9 at bU⊢
     rotate_left
     focus
      refine ax rfl (fun K hK=>?_);go_wp2
      refine hK _ _ trivial ?_;clear hK K;refine ax rfl (fun K hK=>?_);go_wp2
      refine hK _ _ trivial ?_;clear hK K;have bU:=I (HST.J.2 _ rfl);unfold mG at bU;clear a0 a1 a2 a3 f0 f1 f2 f3 q3 z3 HST;generalize World.setCell _ ⟨g8,j*4+3,none⟩ _=W9 at bU⊢
     all_goals
      refine jJ ?_;go_wp2_with fail
      obtain⟨qG,fO,eY⟩:=bU.J
      exact⟨⟨j+1,some ⟨g8,0,none⟩,c8,ns++[m],sb,by simp,by omega,I (by rw[List.length_append,kr.J];rfl),I (eY.blk lq.J fun h=>h.elim (fun h=>aa1.J (by rw[h];rfl)) fun h=>by omega),I (eY.blk mJ.J fun h=>by omega),I qG,I fO,I (oC.J.trans' eY fun i hi=>.inr (by omega)),
       I (Ie.J.move eY (by omega) fun i hi=>by omega),Ic,vg⟩,by simp[intOf];omega⟩
   ·have hend:bZ ah (ks.drop j) (sa,sc)=([],(sa,sc)):=by
     by_cases c2:j<ks.length
     ·exact U.wT _ _ _ fun h=>c1 ⟨c2,h⟩
     ·rw[List.drop_of_length_le (by omega),bZ]
    have aG:=I (show RF=(ns,(sa,sc)) by rw[ja.J,hend,List.append_nil]);clear hend ja;clear hl2
    by_cases h6:K=6∧sc<0
    ·have hjk:j=ks.length:=by
      rcases Nat.lt_or_ge j ks.length with h|h
      ·exact absurd ⟨h,h6.2⟩ c1
      ·omega
     have hsq:=Gn.J h6.1 (aef.J (by rw[aG.J];exact h6.2));have Gm:=I (HE2.J ns sc h6.1 h6.2);have d1:decide ((j:Int)<(ks.length:Int))=false:=dF (by omega);have dG:decide (j<ks.length)=false:=dF (by omega);have d2:decide (sc<(0:Int))=true:=dT h6.2;obtain⟨h6a,h6b⟩:=h6;subst h6a
     rcases hsq with⟨hnm,hkl⟩|⟨hnm,hkl⟩
     ·have dn:(n==([109,115,113,114,116]:List UInt8))=true:=by rw[beq_iff_eq];exact hnm
      rw[hkl]at hjk;subst hjk
      obtain⟨x,hx⟩:∃x,ns=[x]:=by
       have:=kr.J
       match ns,this with
       |[x],_=>exact⟨x,rfl⟩
      subst hx;obtain⟨_,_,_,u3,_,_,_,_,hlo⟩:=O.four uz.J;go_wp2_with fail
      have k3:=cT (S:=fun k=>k=g) u3 (by omega);clear e2 u3 r1 d1 dG d2 dn c0
      refine fu (fun W=>∃x:Turned (fun k=>k=g) wr,W=x.W) (bq.of [(0,true),(1,true),(2,true),(3,true)] (.lone 4 .nil)) [0,1,2,3,4] 5 (Array.replicate 5 true++Array.replicate 5 false) (fun _=>True)
       (bq.of [(6,true),(8,true)] (.fork 7 (.lone 9 .nil) 9 (.lone 7 .nil))) [6,7,8,9] (Array.replicate 10 true) (by kernel_rfl) (fun _ _ d _ _ h=>by cases d<;>exact h) (by kernel_rfl) ⟨⟨_,(M _ _).drewN 1⟩,rfl⟩ ?_
      unfold bq.of
      repeat(refine aS rfl (fun K hK=>?_);go_simp;refine hK _ ?_;clear hK K;first|done|unfold bq.of)
      clear k3;refine ax rfl (fun K hK=>?_);go_wp2
      refine hK _ _ ⟨⟨_,((M _ wr).drewN 1).alloc _⟩,rfl⟩ ?_;clear hK;have dX:=I (show O ((wr.drewN 1).alloc (.cells Y 31)) wr.heap.size 31 Y from O.new (wr.drewN 1) 31 Y);have iG:=I (show ag wr ((wr.drewN 1).alloc (.cells Y 31))from((M _ wr).drewN 1).alloc _);generalize ((wr.drewN 1).alloc (.cells Y 31))=wA at dX iG⊢;have nu:=I (HG.J.fresh iG.J);have HOW:=I HG.J.jE;have Pe:=I (iG.J.blk jO.J fun h=>h);have Pf:=I (iG.J.blk uz.J fun h=>h);have aa4:=I (iG.J.blk jX.J fun h=>h);have bV:=I HG.J.1;have ag5:=I (show aZ (fun k=>k<wr.heap.size) wA fun W=>aO W (dN).kids (.slice none 0 0)from fun _ _=>aO.nil _ _);refine iY rfl (fun K hK=>?_)
      go_wp2_with (at_builtin;go_loud (refine tF rfl (.tmp 99) (.tmp 102) rfl nu.J rfl (by simp[Act.eval]) dN dX.J (by simp[Act.eval]) wr.heap.size bV.J (fun k hk=>(HOW.J k hk).2) (Nat.zero_le _) ag5.J (by show 1<2^40;decide) ?_);intro A8 c8 w8 gJ bW _;refine iC.mk ?_)
      obtain⟨g8,Kc,BK,FH,Ke,Kg,a0,a1,a2,a3,f0,f1,f2,f3⟩:=gJ.cells (n:=1) rfl;replace a0:w8.cell? ⟨g8,4,none⟩=some (.int .i64 0):=a0;replace a1:w8.cell? ⟨g8,5,none⟩=some (.string ⟨#[]⟩):=a1;replace a2:w8.cell? ⟨g8,6,none⟩=some (.int .i64 0):=a2;replace a3:w8.cell? ⟨g8,7,none⟩=some (.slice none 0 0):=a3;replace f0:w8.frozen? ⟨g8,4,none⟩=false:=f0;replace f1:w8.frozen? ⟨g8,5,none⟩=false:=f1;replace f2:w8.frozen? ⟨g8,6,none⟩=false:=f2;replace f3:w8.frozen? ⟨g8,7,none⟩=false:=f3;cases BK;have lq:=I (bW.blk Pe.J fun h=>by have:=(HOW.J _ h).1;omega);have zW:=bW.blk Pf.J fun h=>by have:=(HOW.J _ h).1;omega
      have mJ:=I (bW.blk aa4.J fun h=>by have:=(HOW.J _ h).1;omega);have Ie:=I ((jP.J.fresh iG.J).move bW (fun h=>by have:=(HOW.J _ h).1;omega) fun k hk=>by have:=(HOW.J _ hk).1;omega);have oC:=I (show Touch (fun k=>k=g) w w8 from(HT.J.trans' iG.J (fun _ h=>h.elim)).trans' bW fun k hk=>.inr (by have:=(HOW.J _ hk).1;omega));have HST:=I (gJ.stores (n:=1) rfl zW (Nat.lt_succ_self bO));obtain⟨_,_,_,q3,_,_,_,z3,wo⟩:=O.four zW;have hne:bO≠g8:=by omega
      have hne':g8≠bO:=by omega
      clear bW zW gJ;refine iC.go ?_;go_wp2
      refine hK _ _ trivial ?_;clear hK
      repeat(refine aS rfl (fun K hK=>?_);go_simp;refine hK _ ?_;clear hK K)
      refine fB ?_ ?_
      focus
       refine ax rfl (fun K hK=>?_);go_wp2
       refine hK _ _ trivial ?_;clear hK;refine ax rfl (fun K hK=>?_);go_wp2
       refine hK _ _ trivial ?_;clear hK;have bU:=I (HST.J.1 _ rfl);unfold mG at bU;simp only[dN,Nd.kind,Nd.text,Nd.ai,Nat.reduceMul,Nat.reduceAdd]at bU;clear a0 a1 a2 a3 f0 f1 f2 f3 q3 z3 HST;generalize World.setCell _ ⟨bO,3,none⟩ _=W9 at bU⊢
      rotate_left
      focus
       refine ax rfl (fun K hK=>?_);go_wp2
       refine hK _ _ trivial ?_;clear hK;refine ax rfl (fun K hK=>?_);go_wp2
       refine hK _ _ trivial ?_;clear hK;have bU:=I (HST.J.2 _ rfl);unfold mG at bU;simp only[dN,Nd.kind,Nd.text,Nd.ai,Nat.reduceMul,Nat.reduceAdd]at bU;clear a0 a1 a2 a3 f0 f1 f2 f3 q3 z3 HST;generalize World.setCell _ ⟨g8,7,none⟩ _=W9 at bU⊢
      all_goals
       refine jJ ?_;go_wp2_with fail
       obtain⟨qG,fO,eY⟩:=bU.J;have uz:=I qG;have HG:=I (show dU (bO+1) W9 [x,dN] (.slice (some ⟨g8,0,none⟩) 2 c8)from fO);have jO:=I (eY.blk lq.J fun h=>by omega);have jX:=I (eY.blk mJ.J fun h=>by omega);have HT:=I (show Touch (fun k=>k=g) w W9 from oC.J.trans' eY fun i hi=>.inr (by omega));have jP:=I (Ie.J.move eY (by omega) fun i hi=>by omega);clear qG fO eY bU;obtain⟨gS,cS,sx,sy,⟨Ax,nx,cx,rfl⟩,⟨Ay,ny,cy,rfl⟩,hvS,hcS,hgB,hgl,hfz,⟨a0,a1,a2,a3⟩,⟨b0,b1,b2,b3⟩,hgN⟩:=(HG.J.fresh ((M (fun _=>False) W9).drewN 1)).two;cases hvS;obtain⟨_,_,_,u3,_,_,_,_,hlo⟩:=O.four uz.J;have ag6:g8<W9.heap.size:=hgl;have EH:=I hgN;have kK:=I (show Touch (fun k=>k=g8) W9 _ from(((M (fun k=>k=g8) W9).drewN 1).trans (kF (W9.drewN 1) g8 0 (.int .i64 dN.kind) (.string ⟨dN.text.toArray⟩) (.int .i64 dN.ai) (.slice Ay ny cy))).trans (kF _ g8 4 (.int .i64 x.kind) (.string ⟨x.text.toArray⟩) (.int .i64 x.ai) (.slice Ax nx cx)));have k3:=cR u3;have m0:=cR (show W9.cell? ⟨g8,0,none⟩=_ from a0);have m1:=cR (show W9.cell? ⟨g8,1,none⟩=_ from a1);have m2:=cR (show W9.cell? ⟨g8,2,none⟩=_ from a2);have m3:=cR (show W9.cell? ⟨g8,3,none⟩=_ from a3);have m4:=cR (show W9.cell? ⟨g8,4,none⟩=_ from b0);have m5:=cR (show W9.cell? ⟨g8,5,none⟩=_ from b1);have m6:=cR (show W9.cell? ⟨g8,6,none⟩=_ from b2);have m7:=cR (show W9.cell? ⟨g8,7,none⟩=_ from b3);have hbg:bO≠g8:=by omega
       clear hgN u3 hlo;refine ic [([(0,true),(1,true),(2,true),(3,true),(4,true),(5,true),(6,true),(7,true),(8,true),(9,true),(10,true),(11,true),(12,true)],13),([(14,true)],15)] [] (by kernel_rfl) (fun _ _ d _ _ h=>by cases d<;>exact h) (by kernel_rfl) ?_;refine gT ?_
       repeat(refine bX rfl (fun K hK=>?_);go_simp;refine hK _ ?_;clear hK K)
       clear k3 m0 m1 m2 m3 m4 m5 m6 m7;have f0:=hfz 0;have f1:=hfz 1;have f2:=hfz 2;have f3:=hfz 3;have f4:=hfz 4;have f5:=hfz 5;have f6:=hfz 6;have f7:=hfz 7;refine fP rfl (fun K hK=>?_);go_wp2_with fail
       refine gT ?_
       repeat(refine bX rfl (fun K hK=>?_);go_simp;refine hK _ ?_;clear hK K)
       refine fP rfl (fun K hK=>?_);go_wp2_with fail
       refine jk ?_;unfold mG at EH kK;simp only[Nat.zero_add,Nat.reduceAdd]at EH kK;clear a0 a1 a2 a3 b0 b1 b2 b3 f0 f1 f2 f3 f4 f5 f6 f7 hfz hgl;generalize World.setCell _ ⟨g8,7,none⟩ _=WF at EH kK⊢;have aa5:=I (kK.J.blk uz.J fun h=>by omega);have Pk:=I (kK.J.blk jX.J fun h=>by omega);have Ah:=I (show Touch (fun k=>k=g) w WF from HT.J.trans' kK.J fun i hi=>.inr (by omega));have aa6:=I (jP.J.move kK.J (by omega) fun i hi=>by omega);obtain⟨u0,u1,u2,u3,_,_,_,_,hlo⟩:=O.four aa5.J;obtain⟨p0,p1,p2,p3,y0,y1,y2,y3,hlp⟩:=O.four Pk.J;have iE:=I (EH.J.mv ((M (fun k=>k=w.heap.size+1) WF).aH (.inl rfl) (.int .i64 6) (.string ⟨tx.toArray⟩) (.int .i64 0) (.slice (some ⟨g8,0,none⟩) 2 c8)) (fun k hk _=>by omega));obtain⟨t0,t1,t2,t3,_,_,_,_,_⟩:=O.four (Pk.J.dJ (.int .i64 6) (.string ⟨tx.toArray⟩) (.int .i64 0) (.slice (some ⟨g8,0,none⟩) 2 c8));simp only[aH]at t0 t1 t2 t3;have bU:=I (Touch.aH (g:=w.heap.size+1) Ah.J (.inr (by omega)) (.int .i64 6) (.string ⟨tx.toArray⟩) (.int .i64 0) (.slice (some ⟨g8,0,none⟩) 2 c8));have Dm:=I (aa6.J.move ((M (fun k=>k=w.heap.size+1) WF).aH (.inl rfl) (.int .i64 6) (.string ⟨tx.toArray⟩) (.int .i64 0) (.slice (some ⟨g8,0,none⟩) 2 c8)) (by omega) fun k hk=>by omega);go_wp2
       refine bodyPost_ret (v:=.agg #[.int .i64 6,.string ⟨tx.toArray⟩,.int .i64 0,(.slice (some ⟨g8,0,none⟩) 2 c8)]) (by simp[results,Tryz.results128,go_sem,t0,t1,t2,t3]) rfl ?_;refine⟨_,rfl,?_,?_⟩
       ·rw[wX.J,aG.J]
        rw[show U.uj (E.mk n ats ks t) [x] sc=_ from Gm.J.trans (if_pos hnm)];refine⟨.slice (some ⟨g8,0,none⟩) 2 c8,rfl,bU.J,gX.J,?_⟩;exact(iE.J.done.mono fun i _ hi=>by omega)
       ·rw[wX.J,aG.J]
        exact Dm.J
     ·have dn:(n==([109,115,113,114,116]:List UInt8))=false:=by rw[beq_eq_false_iff_ne];exact hnm
      rw[hkl]at hjk;subst hjk
      obtain⟨x,y,hx⟩:∃x y,ns=[x,y]:=by
       have:=kr.J
       match ns,this with
       |[x,y],_=>exact⟨x,y,rfl⟩
      subst hx;obtain⟨_,_,_,u3,_,_,_,_,hlo⟩:=O.four uz.J;obtain⟨W9,hW9⟩:∃W9,W9=wr:=⟨_,rfl⟩;subst hW9;go_wp2_with fail
      clear e2 u3 r1 d1 dG d2 dn c0 hlo;obtain⟨gS,cS,sx,sy,⟨Ax,nx,cx,rfl⟩,⟨Ay,ny,cy,rfl⟩,hvS,hcS,hgB,hgl,hfz,⟨a0,a1,a2,a3⟩,⟨b0,b1,b2,b3⟩,hgN⟩:=(HG.J.fresh ((M (fun _=>False) W9).drewN 1)).two;cases hvS;obtain⟨_,_,_,u3,_,_,_,_,hlo⟩:=O.four uz.J;have ag6:gS<W9.heap.size:=hgl;have EH:=I hgN;have kK:=I (show Touch (fun k=>k=gS) W9 _ from(((M (fun k=>k=gS) W9).drewN 1).trans (kF (W9.drewN 1) gS 0 (.int .i64 y.kind) (.string ⟨y.text.toArray⟩) (.int .i64 y.ai) (.slice Ay ny cy))).trans (kF _ gS 4 (.int .i64 x.kind) (.string ⟨x.text.toArray⟩) (.int .i64 x.ai) (.slice Ax nx cx)));have k3:=cR u3;have m0:=cR (show W9.cell? ⟨gS,0,none⟩=_ from a0);have m1:=cR (show W9.cell? ⟨gS,1,none⟩=_ from a1);have m2:=cR (show W9.cell? ⟨gS,2,none⟩=_ from a2);have m3:=cR (show W9.cell? ⟨gS,3,none⟩=_ from a3);have m4:=cR (show W9.cell? ⟨gS,4,none⟩=_ from b0);have m5:=cR (show W9.cell? ⟨gS,5,none⟩=_ from b1);have m6:=cR (show W9.cell? ⟨gS,6,none⟩=_ from b2);have m7:=cR (show W9.cell? ⟨gS,7,none⟩=_ from b3);have hbg:bO≠gS:=by omega
      clear hgN u3 hlo;refine ic [([(0,true),(1,true),(2,true),(3,true),(4,true),(5,true),(6,true),(7,true),(8,true),(9,true),(10,true),(11,true),(12,true)],13),([(14,true)],15)] [] (by kernel_rfl) (fun _ _ d _ _ h=>by cases d<;>exact h) (by kernel_rfl) ?_;refine gT ?_
      repeat(refine bX rfl (fun K hK=>?_);go_simp;refine hK _ ?_;clear hK K)
      clear k3 m0 m1 m2 m3 m4 m5 m6 m7;have f0:=hfz 0;have f1:=hfz 1;have f2:=hfz 2;have f3:=hfz 3;have f4:=hfz 4;have f5:=hfz 5;have f6:=hfz 6;have f7:=hfz 7;refine fP rfl (fun K hK=>?_);go_wp2_with fail
      refine gT ?_
      repeat(refine bX rfl (fun K hK=>?_);go_simp;refine hK _ ?_;clear hK K)
      refine fP rfl (fun K hK=>?_);go_wp2_with fail
      refine jk ?_;unfold mG at EH kK;simp only[Nat.zero_add,Nat.reduceAdd]at EH kK;clear a0 a1 a2 a3 b0 b1 b2 b3 f0 f1 f2 f3 f4 f5 f6 f7 hfz hgl;generalize World.setCell _ ⟨gS,7,none⟩ _=WF at EH kK⊢;have aa5:=I (kK.J.blk uz.J fun h=>by omega);have Pk:=I (kK.J.blk jX.J fun h=>by omega);have Ah:=I (show Touch (fun k=>k=g) w WF from HT.J.trans' kK.J fun i hi=>.inr (by omega));have aa6:=I (jP.J.move kK.J (by omega) fun i hi=>by omega);obtain⟨u0,u1,u2,u3,_,_,_,_,hlo⟩:=O.four aa5.J;obtain⟨p0,p1,p2,p3,y0,y1,y2,y3,hlp⟩:=O.four Pk.J;have iE:=I (EH.J.mv ((M (fun k=>k=w.heap.size+1) WF).aH (.inl rfl) (.int .i64 6) (.string ⟨tx.toArray⟩) (.int .i64 0) (.slice (some ⟨gS,0,none⟩) 2 ce)) (fun k hk _=>by omega));obtain⟨t0,t1,t2,t3,_,_,_,_,_⟩:=O.four (Pk.J.dJ (.int .i64 6) (.string ⟨tx.toArray⟩) (.int .i64 0) (.slice (some ⟨gS,0,none⟩) 2 ce));simp only[aH]at t0 t1 t2 t3;have bU:=I (Touch.aH (g:=w.heap.size+1) Ah.J (.inr (by omega)) (.int .i64 6) (.string ⟨tx.toArray⟩) (.int .i64 0) (.slice (some ⟨gS,0,none⟩) 2 ce));have Dm:=I (aa6.J.move ((M (fun k=>k=w.heap.size+1) WF).aH (.inl rfl) (.int .i64 6) (.string ⟨tx.toArray⟩) (.int .i64 0) (.slice (some ⟨gS,0,none⟩) 2 ce)) (by omega) fun k hk=>by omega);go_wp2
      refine bodyPost_ret (v:=.agg #[.int .i64 6,.string ⟨tx.toArray⟩,.int .i64 0,(.slice (some ⟨gS,0,none⟩) 2 ce)]) (by simp[results,Tryz.results128,go_sem,t0,t1,t2,t3]) rfl ?_;refine⟨_,rfl,?_,?_⟩
      ·rw[wX.J,aG.J]
       rw[show U.uj (E.mk n ats ks t) [x,y] sc=_ from Gm.J.trans (if_neg hnm)];refine⟨.slice (some ⟨gS,0,none⟩) 2 ce,rfl,bU.J,gX.J,?_⟩;exact(iE.J.done.mono fun i _ hi=>by omega)
      ·rw[wX.J,aG.J]
       exact Dm.J
    ·have hno:¬(K=6∧sc<0):=h6
     have Lv:=I hno
     have wW:((decide ((j:Int)<(ks.length:Int))=false∧decide (j<ks.length)=false)∨((decide ((j:Int)<(ks.length:Int))=true∧decide (j<ks.length)=true)∧decide (sc<(0:Int))=false))∧((K==(6:Int))=false∨((K==(6:Int))=true∧decide (sc<(0:Int))=false)):=by
      constructor
      ·by_cases c2:j<ks.length
       ·exact .inr ⟨⟨dT (by omega),dT c2⟩,dF fun h=>c1 ⟨c2,h⟩⟩
       ·exact .inl ⟨dF (by omega),dF c2⟩
      ·by_cases c3:K=6
       ·exact .inr ⟨by rw[beq_iff_eq];exact c3,dF fun h=>hno ⟨c3,h⟩⟩
       ·exact .inl (by rw[beq_eq_false_iff_ne];exact c3)
     clear hno h6
     rcases wW with⟨⟨d1,dG⟩|⟨⟨d1,dG⟩,d2⟩,d6|⟨d6,d3⟩⟩
     all_goals
      have hno:=Lv.J;obtain⟨u0,u1,u2,u3,_,_,_,_,hlo⟩:=O.four uz.J;obtain⟨p0,p1,p2,p3,y0,y1,y2,y3,hlp⟩:=O.four jX.J;have iE:=I (HG.J.mv ((M (fun k=>k=w.heap.size+1) wr).aH (.inl rfl) (.int .i64 K) (.string ⟨tx.toArray⟩) (.int .i64 0) (.slice Ae j ce)) (fun k hk _=>by omega));obtain⟨t0,t1,t2,t3,_,_,_,_,_⟩:=O.four (jX.J.dJ (.int .i64 K) (.string ⟨tx.toArray⟩) (.int .i64 0) (.slice Ae j ce));simp only[aH]at t0 t1 t2 t3;have bU:=I (Touch.aH (g:=w.heap.size+1) HT.J (.inr (by omega)) (.int .i64 K) (.string ⟨tx.toArray⟩) (.int .i64 0) (.slice Ae j ce));have Dm:=I (jP.J.move ((M (fun k=>k=w.heap.size+1) wr).aH (.inl rfl) (.int .i64 K) (.string ⟨tx.toArray⟩) (.int .i64 0) (.slice Ae j ce)) (by omega) fun k hk=>by omega);go_wp2
      refine bodyPost_ret (v:=.agg #[.int .i64 K,.string ⟨tx.toArray⟩,.int .i64 0,(.slice Ae j ce)]) (by simp[results,Tryz.results128,go_sem,t0,t1,t2,t3]) rfl ?_;refine⟨_,rfl,?_,?_⟩
      ·rw[wX.J,aG.J,j6.J ns sc Lv.J]
       refine⟨.slice Ae j ce,rfl,bU.J,gX.J,?_⟩;exact(iE.J.done.mono fun i _ hi=>by omega)
      ·rw[wX.J,aG.J]
       exact Dm.J
end
end Go.Proofs.YtnbeemkfmlfgfaaGreatDoor
