/- Part 43 of 48 of a proof. No condition. -/
import Derived.Test.YtnbeemkfmlfgfaaGreatDoorTm42
set_option maxRecDepth 100000
set_option maxHeartbeats 8000000
namespace Go.Proofs.YtnbeemkfmlfgfaaGreatDoor
section
open Go.RowKit
open Tr (Nd)
open U (E Rd aA iQ gY kP gV bZ gW dN aJ bM ah kg)
attribute [local go_sem] jg stillUpon
theorem Uu(c:Int)(x:E)(s:Rd):(bZ aJ x.kids (iQ (U.gK c x) s)).2.1≤s.1+U.count x:=by
 have h:=U.Fj aJ x.kids (fun y _ nm s=>U.Ib nm y s) (iQ (U.gK c x) s);have h3:(iQ (U.gK c x) s).1=s.1+1:=rfl;rw[U.aI];omega
theorem Uv(c:Int)(x:E)(xs:List E)(s:Rd)(hs:s.2<0):gW c (x::xs) s=((bZ aJ x.kids (iQ (U.gK c x) s)).1++(gW c xs (bZ aJ x.kids (iQ (U.gK c x) s)).2).1,(gW c xs (bZ aJ x.kids (iQ (U.gK c x) s)).2).2):=by
 cases x;rw[gW,if_pos hs];rfl
theorem Qr(W0:World)(g:Nat)(e:E)(hK:U.cu e.name=12)(ih:∀x∈e.kids,X4 W0 g x):JG W0 g e:=by
 intro s va vk w hs0 hcnt hpr hr hrd;have HK:=I hK;have jw:=I ih;have jP:=I hrd;have qi:=I (U.xP e hpr);have hg0:=hrd.lt;have hW0:=hrd.le;have gm:=I hr;have yc:=I (show dL W0 e.kids vk from hr.2.1);have uy:=I (show(s.1+1)+U.aj e.kids≤100000 by rw[U.aI]at hcnt;omega);have hl2:e.kids.length≤100000:=by have:=U.gL e.kids;have:=uy.J;omega
 have hsb:s.1≤1000000:=by omega
 have gX:=I (LV e (U.cu e.name) hr.2.2.2 (U.AU e hpr));have X5:=I (fun w:World=>LQ e.name w);have jM:=I (fun(w:World) (h:bN w e va vk)=>LU e va vk w h (U.AU e hpr));have jW:=I (fun(w:World) (h:bN w e va vk)=>Jz e (U.cu e.name) va vk w h);have qU:=I (show U.jH e=(decide (0<U.cu e.name)&&(U.bY e (U.cu e.name)).2&&U.tq e.name e.kids.length (U.cu e.name))from rfl)
 have wX:=I (show kP e s=(.mk 12 (U.bY e (U.cu e.name)).1 (kg e.kids:Int) (gW (kg e.kids) e.kids (iQ (U.jH e) s)).1,(gW (kg e.kids) e.kids (iQ (U.jH e) s)).2) by
  rw[U.Dk];simp only[if_pos hK]
  congr 1
  show(if U.cu e.name=6∧_ then _ else _)=_;rw[hK,if_neg (fun h=>absurd h.1 (by decide)),if_pos rfl])
 obtain⟨A,ca,hva⟩:=hr.1.slice;obtain⟨Bk,cb,hvk⟩:=hr.2.1.slice;clear ih hrd hpr hcnt hr hs0 hK;generalize U.jH e=ok at*;generalize U.bY e (U.cu e.name)=M at*;generalize U.tq e.name e.kids.length (U.cu e.name)=SB at*;generalize U.cu e.name=K at*;obtain⟨tx,tb⟩:=M;obtain⟨s1,hs1⟩:∃s1,iQ ok s=s1:=⟨_,rfl⟩;rw[hs1]at wX;have pq:=I hs1;have Fp:=I (show s1.1+U.aj e.kids≤100000 by rw[←hs1];exact uy.J)
 have HBD:=I (show s1.2<0→ok=true by
  intro h;cases ok with
  |true=>rfl
  |false=>
   rw[←hs1]at h;obtain⟨a,b⟩:=s;have h:(if b<0 then(a:Int)else b)<0:=by simpa[iQ]using h
   split at h<;>omega)
 clear hs1 uy;obtain⟨n,ats,ks,t⟩:=e;replace hva:va=.slice A ats.length ca:=hva;replace hvk:vk=.slice Bk ks.length cb:=hvk;subst hva hvk;unfold ev at*;simp only[E.name,E.text,E.kids]at*;go_enter Tryz.func128,Tryz.ntmps128;go_wp2_with fail
 have dh:=I (((M (fun _=>False) w).alloc (.cells #[.string ⟨n.toArray⟩,.slice A ats.length ca,.slice Bk ks.length cb,.string ⟨t.toArray⟩] 45)).alloc (.cells Y 31));have Pg:=I ((O.new w 45 #[.string ⟨n.toArray⟩,.slice A ats.length ca,.slice Bk ks.length cb,.string ⟨t.toArray⟩]).alloc (.cells Y 31));have Hu:=I (O.new2 w (.cells #[.string ⟨n.toArray⟩,.slice A ats.length ca,.slice Bk ks.length cb,.string ⟨t.toArray⟩] 45) 31 Y);refine(X5.J _).mono ?_;rintro _ w1 ⟨rfl,hf1⟩;have aF:=I (dh.J.trans hf1);have oQ:=I (hf1.blk Pg.J fun h=>h);have eX:=I (hf1.blk Hu.J fun h=>h);clear hf1 dh Pg Hu;obtain⟨q0,q1,q2,q3,_,_,_,_,hlt1⟩:=O.four oQ.J;go_wp2_with fail
 refine(jM.J _ (gm.J.fresh (jP.J.fr.trans aF.J))).mono ?_;rintro _ w2 ⟨rfl,hf2⟩;have aY:=I (aF.J.trans hf2);have uE:=I (hf2.blk oQ.J fun h=>h);have uD:=I (hf2.blk eX.J fun h=>h);clear hf2 aF oQ eX q0 q1 q2 q3 hlt1;obtain⟨q0,q1,q2,q3,_,_,_,_,hlt2⟩:=O.four uE.J
 have iV:(decide ((0:Int)<K)=false∧ok=false)∨(decide ((0:Int)<K)=true∧tb=false∧ok=false)∨(decide ((0:Int)<K)=true∧tb=true∧ok=SB):=by
  have h:=qU.J;cases hd:decide ((0:Int)<K)with
  |false=>exact .inl ⟨rfl,by rw[h,hd];rfl⟩
  |true=>
   cases tb with
   |false=>exact .inr (.inl ⟨rfl,rfl,by rw[h,hd];rfl⟩)
   |true=>exact .inr (.inr ⟨rfl,rfl,by rw[h,hd];rfl⟩)
 have Dz:=I (show∀(W:World) (hf:ag w W) (b:Bool) (hb:ok=b),O W w.heap.size 45 #[.string ⟨n.toArray⟩,.slice A ats.length ca,.slice Bk ks.length cb,.string ⟨t.toArray⟩]→O W (w.heap.size+1) 31 Y→Calls Tryz.prog 127 #[.pointer (some ⟨g,0,none⟩),.bool b] W fun x w'=>x=.returned (.tuple #[])∧Touch (fun k=>k=g) w w'∧oJ W0 g s1 w'∧O w' w.heap.size 45 #[.string ⟨n.toArray⟩,.slice A ats.length ca,.slice Bk ks.length cb,.string ⟨t.toArray⟩]∧O w' (w.heap.size+1) 31 Y from fun W hf b hb h1 h2=>by
  subst hb;refine(AO s ok g _ (jP.J.fresh hf).blk hsb).mono ?_;rintro x w' ⟨hx,ht,hb⟩;rw[pq.J]at hb;exact⟨hx,(hf.mono fun _ h=>h.elim).trans ht,(jP.J.fresh hf).turn ht hb,ht.blk h1 fun h=>by omega,ht.blk h2 fun h=>by omega⟩)
 clear qU X5 jM hsb pq
 rcases iV with⟨d1,e1⟩|⟨d1,rfl,e1⟩|⟨d1,rfl,e1⟩
 focus
  go_wp2_with fail
  refine(Dz.J _ aY.J _ e1 uE.J uD.J).mono ?_
 rotate_left
 focus
  go_wp2_with fail
  refine(Dz.J _ aY.J _ e1 uE.J uD.J).mono ?_
 rotate_left
 focus
  go_wp2_with fail
  refine(jW.J _ (gm.J.fresh (jP.J.fr.trans aY.J))).mono ?_;rintro _ w4 ⟨rfl,jh⟩;have dw:=I (aY.J.trans jh);have aa2:=I (jh.blk uE.J fun h=>h);have aa3:=I (jh.blk uD.J fun h=>h);clear jh aY uE uD q0 q1 q2 q3 hlt2;go_wp2_with fail
  refine(Dz.J _ dw.J _ e1 aa2.J aa3.J).mono ?_
 all_goals
  rintro _ w3 ⟨rfl,ht3,Fw,Ph,Pj⟩;have HT3:=I ht3;have vF:=I Fw;have Fx:=I Ph;have jL:=I Pj;clear ht3 Fw Ph Pj Dz jP jW e1 d1;obtain⟨bO,LX⟩:∃b,b=w3.heap.size:=⟨_,rfl⟩;have HO:=I LX;have hO1:w.heap.size+2≤bO:=by have:=jL.J.lt;omega
  clear LX;have ag7:K=12:=HK.J;subst ag7;have Bv:=I (show(gW (kg ks:Int) ks s1)=([]++(gW (kg ks:Int) (ks.drop 0) s1).1,(gW (kg ks:Int) (ks.drop 0) s1).2) by rw[List.drop_zero,List.nil_append])
  have Aq:∀(y:E) (ys:List E),ks=y::ys→kg ks=y.kids.length:=by
   intro y ys h;subst h;cases y;rfl
  have aeg:ks=[]→kg ks=0:=by intro h;subst h;rfl
  generalize gW (kg ks:Int) ks s1=RF at Bv wX;generalize kg ks=cn at*;clear HBD HK
  have hcells:Hd (∀W:World,ag W0 W→ks≠[]→∃gx o b2 c2,Bk=some ⟨gx,o,none⟩∧gx<W0.heap.size∧W.cell? ⟨gx,o+2,none⟩=some (.slice b2 cn c2)∧0<ks.length):=I fun W hW hk=>by
   cases hks:ks with
   |nil=>exact absurd hks hk
   |cons y ys=>
    obtain⟨gx,o,xa,xk,hb,eB⟩:=yc.J.ru 0 (by rw[hks];exact Nat.succ_pos _);obtain⟨b2,c2,hx⟩:=eB.2.2.2.2.2.2.1.slice;have h2:=(eB.fresh hW).2.2.2.1;rw[Nat.zero_mul,Nat.add_zero,hx]at h2;rw[Aq y ys hks];have hy:ks[0]'(by rw[hks];exact Nat.succ_pos _)=y:=by simp[hks]
    rw[hy]at h2;exact⟨gx,o,b2,c2,hb,eB.1,h2,Nat.succ_pos _⟩
  have aeh:(ks.length=0∧cn=0)∨ks≠[]:=by
   cases hks:ks with
   |nil=>exact .inl ⟨rfl,aeg hks⟩
   |cons y ys=>exact .inr (List.cons_ne_nil _ _)
  clear Aq aeg;have hlen3:(ks.length=0→decide ((0:Int)<(ks.length:Int))=false)∧(0<ks.length→decide ((0:Int)<(ks.length:Int))=true):=⟨fun h=>dF (by omega),fun h=>dT (by omega)⟩;have aa7:ag W0 (w3.alloc (.cells #[.int .i64 12,.string ⟨tx.toArray⟩,.int .i64 0,.slice none 0 0] 31)):=vF.J.fr.alloc _;have JI:=Fx.J.alloc (.cells #[.int .i64 12,.string ⟨tx.toArray⟩,.int .i64 0,.slice none 0 0] 31);have Uw:=O.new w3 31 #[.int .i64 12,.string ⟨tx.toArray⟩,.int .i64 0,.slice none 0 0];have aeN:∃W1:World,Touch (fun k=>k=g) w W1∧oJ W0 g s1 W1∧True:=⟨w3,HT3.J,vF.J,trivial⟩;clear aeN
  rcases aeh with⟨hz,hcz⟩|hnz
  focus
   have d0:=hlen3.1 hz;have d0n:decide (0<ks.length)=false:=dF (by omega);have HCZ:=I hcz;clear hlen3 hcz;obtain⟨_,_,q2',_,_⟩:=O.four JI
   try clear q0 q1 q2 q3 hlt2
   go_wp2_with fail
   rw[←HO.J];clear d0 d0n hz q2' JI Uw aa7 hcells
   refine aV (fun W=>Touch (fun k=>k=g) w W∧oJ W0 g s1 W∧O W w.heap.size 45 #[.string ⟨n.toArray⟩,.slice A ats.length ca,.slice Bk ks.length cb,.string ⟨t.toArray⟩]∧O W (w.heap.size+1) 31 Y∧
    O W bO 31 #[.int .i64 12,.string ⟨tx.toArray⟩,.int .i64 (cn:Int),.slice none 0 0]∧bO+1≤W.heap.size) ⟨HT3.J.alloc _,vF.J.fresh ((M _ _).alloc _),Fx.J.alloc _,jL.J.alloc _,by rw[HO.J,HCZ.J];exact O.new _ _ _,by rw[HO.J];simp⟩ ?_
  rotate_left
  focus
   obtain⟨gx,o,b2,c2,hB,hgx,hcell,hpos⟩:=hcells.J _ aa7 hnz;have d0:=hlen3.2 hpos;have d0n:decide (0<ks.length)=true:=dT hpos;have d0p:(0:Int)<(ks.length:Int):=by omega
   subst hB;clear hlen3;obtain⟨_,_,q2',_,_⟩:=O.four JI;obtain⟨_,_,z2',_,_,_,zf2,_,hzl⟩:=O.four Uw
   try clear q0 q1 q2 q3 hlt2
   go_wp2_with fail
   rw[←HO.J];clear d0 d0n d0p q2' z2' zf2 hzl Uw hcell hpos;generalize hBk:(some ⟨gx,o,none⟩:Option Addr)=Bk at yc Fx JI⊢;clear hBk
   refine aV (fun W=>Touch (fun k=>k=g) w W∧oJ W0 g s1 W∧O W w.heap.size 45 #[.string ⟨n.toArray⟩,.slice A ats.length ca,.slice Bk ks.length cb,.string ⟨t.toArray⟩]∧O W (w.heap.size+1) 31 Y∧
    O W bO 31 #[.int .i64 12,.string ⟨tx.toArray⟩,.int .i64 (cn:Int),.slice none 0 0]∧bO+1≤W.heap.size) ⟨HT3.J.alloc _,vF.J.fresh ((M _ _).alloc _),Fx.J.alloc _,jL.J.alloc _,by rw[HO.J];exact O.new _ _ _,by rw[HO.J];simp⟩ ?_
   clear JI aa7 hcells
  all_goals
   rintro W1 ⟨ht1,Fs,oP,mZ,Fu,hs1⟩;have HT1:=I ht1;have O9:=I Fs;have oQ:=I oP;have eX:=I mZ;have Pb:=I Fu;have uq:=I (show dU (bO+1) W1 [] (.slice none 0 0)from dU.nil hs1);have HZ1:=I (show 0+U.aj (ks.drop 0)≤U.aj ks by rw[List.drop_zero];omega);clear ht1 Fs oP mZ Fu hs1 HT3 vF Fx jL HO
   try clear q0 q1 q2 q3 hlt2
   go_loopw [9] (fun i wr=>∃(j:Nat) (Ae:Option Addr) (ce ne:Nat) (ns:List Nd) (sj:Rd),i=.int .i64 j∧j≤ks.length∧Hd ((ns:List Nd).length=ne)∧Hd (ne+U.aj (ks.drop j)≤U.aj ks)∧Hd (O wr w.heap.size 45 #[.string ⟨n.toArray⟩,.slice A ats.length ca,.slice Bk ks.length cb,.string ⟨t.toArray⟩])∧Hd (O wr (w.heap.size+1) 31 Y)∧
   Hd (O wr bO 31 #[.int .i64 12,.string ⟨tx.toArray⟩,.int .i64 (cn:Int),.slice Ae ne ce])∧Hd (dU (bO+1) wr ns (.slice Ae ne ce))∧Hd (Touch (fun k=>k=g) w wr)∧Hd (oJ W0 g sj wr)∧Hd (sj.1+U.aj (ks.drop j)≤100000)∧
   Hd (RF=(ns++(gW (cn:Int) (ks.drop j) sj).1,(gW (cn:Int) (ks.drop j) sj).2))) (fun i _=>ks.length-(intOf i).toNat)
   case atStart=>exact⟨0,none,0,0,[],s1,rfl,Nat.zero_le _,I rfl,HZ1,oQ,eX,Pb,uq,HT1,O9,Fp,Bv⟩
   case round=>
    obtain⟨j,Ae,ce,ne,ns,⟨sa,sc⟩,rfl,hj,kr,HNE,jO,jX,uz,HG,HT,jP,yt,ja⟩:=hrel;rename_i wr _;have hsz:=HT.J.size;have hgs:=jP.J.lt;obtain⟨c0,_,e2,_,_,_,_,_,hle⟩:=O.four jO.J;obtain⟨_,r1,_,_,_⟩:=O.two (x0:=.int .i64 (sa:Int)) (x1:=.int .i64 sc) jP.J.blk
    by_cases c1:j<ks.length∧sc<0
    ·have d1:decide ((j:Int)<(ks.length:Int))=true:=dT (by omega)
     have dG:decide (j<ks.length)=true:=dT c1.1;have d1':(j:Int)<(ks.length:Int):=by omega
     have d2:decide (sc<(0:Int))=true:=dT c1.2;have vJ:=I c1.2;obtain⟨hjl,_⟩:=c1;obtain⟨gx,o,xa,xk,hBk,eB⟩:=yc.J.ru j hjl;cases hBk;have qQ:=I eB;have jZ:=I (List.getElem_mem hjl);have HC:=I (jw.J _ jZ.J);have Dy:=I (qi.J _ jZ.J);have wU:=I (U.xQ ks j hjl);have HDR:=I (List.drop_eq_getElem_cons hjl);have Fv:=I (Uu (cn:Int) ks[j] (sa,sc));have HRL:=I (aaZ aJ ks[j].kids (iQ (U.gK (cn:Int) ks[j]) (sa,sc)));have Le:=I (show ks[j].kids.length+1≤U.count ks[j] by rw[U.aI];have:=U.gL ks[j].kids;omega);obtain⟨hgx,x0,x1,x2,x3,Pd⟩:=eB.fresh jP.J.fr;have Xh:=I (HNE.J);clear eB jZ Pd hgx c0;generalize ks[j]=x at*;go_wp2_with fail
     have aei:=I (show ne+x.kids.length≤200000 by have:=HNE.J;have:=wU.J;have:=Le.J;have:=Fp.J;omega);refine(HC.J (sa,sc) xa xk wr bO (bO+1) 12 (cn:Int) tx ns Ae ne ce vJ.J (by have:=yt.J;have:=wU.J;omega) Dy.J qQ.J.2.2.2.2.2 jP.J uz.J kr.J HG.J (Nat.lt_succ_self bO) (by omega) (by omega) (by omega) aei.J).mono ?_;rintro _ w6 ⟨rfl,A6,n6,c6,aej,aek,hg6,tH,jl⟩;have ag8:=I aej;have ael:=I aek;have lG:=I hg6;have Dl:=I tH;have ag9:=I (jl.blk jO.J fun h=>by rcases h with h|h|h<;>omega);have jC:=I (jl.blk jX.J fun h=>by rcases h with h|h|h<;>omega);have dB:=I (show Touch (fun k=>k=g) w w6 from HT.J.trans' jl fun i hi=>hi.elim .inl fun h=>.inr (by omega))
     have vg:=I (show RF=((ns++(bZ aJ x.kids (iQ (U.gK (cn:Int) x) (sa,sc))).1)++(gW (cn:Int) (ks.drop (j+1)) (bZ aJ x.kids (iQ (U.gK (cn:Int) x) (sa,sc))).2).1,(gW (cn:Int) (ks.drop (j+1)) (bZ aJ x.kids (iQ (U.gK (cn:Int) x) (sa,sc))).2).2) by
      rw[ja.J,HDR.J,Uv _ _ _ _ vJ.J,List.append_assoc])
     have Ic:=I (show(bZ aJ x.kids (iQ (U.gK (cn:Int) x) (sa,sc))).2.1+U.aj (ks.drop (j+1))≤100000 by have:=yt.J;have:=wU.J;have:=Fv.J;omega);have ag':=I (show n6+U.aj (ks.drop (j+1))≤U.aj ks by have h1:=ael.J;have h2:=HRL.J;have h3:=kr.J;rw[List.length_append]at h1;have:=HNE.J;have:=wU.J;have:=Le.J;omega);clear aej aek hg6 tH jl ja HC HDR Fv yt wU HRL Xh HNE Le aei;generalize bZ aJ x.kids (iQ (U.gK (cn:Int) x) (sa,sc))=R at*;obtain⟨ms,sb⟩:=R;simp only at*;clear e2 r1 x0 x1 x2 x3 d1 dG d1' d2 hle;go_wp2
     go_roundw
     case rel=>exact⟨j+1,A6,c6,n6,ns++ms,sb,by go_num,by omega,ael,ag',ag9,jC,ag8,lG,dB,Dl,Ic,vg⟩
     case measure=>simp[intOf];omega
    ·have hend:gW (cn:Int) (ks.drop j) (sa,sc)=([],(sa,sc)):=by
      by_cases c2:j<ks.length
      ·exact U.GD _ _ _ fun h=>c1 ⟨c2,h⟩
      ·rw[List.drop_of_length_le (by omega),gW]
     have aG:=I (show RF=(ns,(sa,sc)) by rw[ja.J,hend,List.append_nil]);clear hend ja;clear hl2
     have wW:(decide ((j:Int)<(ks.length:Int))=false∧decide (j<ks.length)=false)∨((decide ((j:Int)<(ks.length:Int))=true∧decide (j<ks.length)=true)∧decide (sc<(0:Int))=false):=by
      by_cases c2:j<ks.length
      ·exact .inr ⟨⟨dT (by omega),dT c2⟩,dF fun h=>c1 ⟨c2,h⟩⟩
      ·exact .inl ⟨dF (by omega),dF c2⟩
     rcases wW with⟨d1,dG⟩|⟨⟨d1,dG⟩,d2⟩
     all_goals
      obtain⟨u0,u1,u2,u3,_,_,_,_,hlo⟩:=O.four uz.J;obtain⟨p0,p1,p2,p3,y0,y1,y2,y3,hlp⟩:=O.four jX.J;have iE:=I (HG.J.mv ((M (fun k=>k=w.heap.size+1) wr).aH (.inl rfl) (.int .i64 12) (.string ⟨tx.toArray⟩) (.int .i64 (cn:Int)) (.slice Ae ne ce)) (fun k hk _=>by omega));obtain⟨t0,t1,t2,t3,_,_,_,_,_⟩:=O.four (jX.J.dJ (.int .i64 12) (.string ⟨tx.toArray⟩) (.int .i64 (cn:Int)) (.slice Ae ne ce));simp only[aH]at t0 t1 t2 t3;have bU:=I (Touch.aH (g:=w.heap.size+1) HT.J (.inr (by omega)) (.int .i64 12) (.string ⟨tx.toArray⟩) (.int .i64 (cn:Int)) (.slice Ae ne ce));have Dm:=I (jP.J.move ((M (fun k=>k=w.heap.size+1) wr).aH (.inl rfl) (.int .i64 12) (.string ⟨tx.toArray⟩) (.int .i64 (cn:Int)) (.slice Ae ne ce)) (by omega) fun k hk=>by omega);go_wp2
      refine bodyPost_ret (v:=.agg #[.int .i64 12,.string ⟨tx.toArray⟩,.int .i64 (cn:Int),(.slice Ae ne ce)]) (by simp[results,Tryz.results128,go_sem,t0,t1,t2,t3]) rfl ?_;refine⟨_,rfl,?_,?_⟩
      ·rw[wX.J,aG.J]
       refine⟨.slice Ae ne ce,rfl,bU.J,gX.J,?_⟩;exact(iE.J.done.mono fun i _ hi=>by omega)
      ·rw[wX.J,aG.J]
       exact Dm.J
end
section
open Go.RowKit
open Tr (Nd)
open U (E aA Rd tu gY dN jr)
attribute [local go_sem] jg stillUpon
namespace U
theorem aa8(l:List Nd)(i:Nat):Tr.aj (l.take i)≤Tr.aj l:=Tr.kV l i
theorem aem(n:Bytes)(a:aA)(t:Bytes)(rs cs:List Nd)(c:Nat)(m:Nat)(h1:Tr.aj rs≤m)(h2:Tr.aj cs≤m):Tr.count (Oa n a t rs cs c)≤m+2:=by
 have h3:=aa8 rs 1
 have h4:Tr.aj ((rs.drop 1).take 1++rs.take 1)≤Tr.aj rs:=by
  match rs with
  |[]=>exact Nat.le_refl _
  |[x]=>simp[Tr.aj]
  |x::y::l=>simp only[List.drop_succ_cons,List.drop_zero,List.take_succ_cons,List.take_zero,List.singleton_append,Tr.aj];omega
 have h5:Tr.count dN=1:=by rw[dN,Tr.count,Tr.aj]
 unfold Oa
 repeat(split;·first|(rw[Tr.count,Tr.aj];omega)|(rw[Tr.count,Tr.aj,h5];omega)|(rw[Tr.count];omega))
 rw[Tr.count];omega
theorem aa9:∀(m:Nat) (l:List E),aj l≤m→Tr.aj (di l)≤2*aj l∧Tr.aj (iy l)≤2*aj l∧Tr.aj (jF l)≤2*aj l:=by
 intro m
 induction m with
 |zero=>
  intro l h;cases l with
  |nil=>exact⟨Nat.le_refl _,Nat.le_refl _,Nat.le_refl _⟩
  |cons x l=>rw[aj]at h;have:=gQ x;omega
 |succ m ih=>
  intro l
  induction l with
  |nil=>intro _;exact⟨Nat.le_refl _,Nat.le_refl _,Nat.le_refl _⟩
  |cons x l ihl=>
   intro h;rw[aj]at h;obtain⟨h1,h2,h3⟩:=ihl (by omega);have hk:=aI x;obtain⟨k1,k2,k3⟩:=ih x.kids (by omega);have hm:=aem x.name x.attrs x.text (iy x.kids) (jF x.kids) (kg x.kids) _ k2 k3;rw[←sO]at hm;obtain⟨n,a,ks,t⟩:=x;refine⟨?_,?_,?_⟩
   ·rw[di,Tr.aj,aj];omega
   ·have k1:Tr.aj (di ks)≤2*aj ks:=k1
    have hk:count (.mk n a ks t)=1+aj ks:=hk;rw[iy,Tr.aj,aj,Tr.count];omega
   ·have k2:Tr.aj (iy ks)≤2*aj ks:=k2
    have hk:count (.mk n a ks t)=1+aj ks:=hk
    have happ:∀a b:List Nd,Tr.aj (a++b)=Tr.aj a+Tr.aj b:=by
     intro a b
     induction a with
     |nil=>simp[Tr.aj]
     |cons x a ih=>rw[List.cons_append,Tr.aj,Tr.aj,ih];omega
    rw[jF,happ,aj];omega
theorem acR(e:E):Tr.count (dR e)≤2*count e:=by
 have h:=(aa9 _ e.kids (Nat.le_refl _)).1;have hk:=aI e;unfold dR;rw[Tr.count];omega
end U
theorem X6(W0:World)(g:Nat):∀(m:Nat) (e:E),U.count e≤m→JH W0 g e∧JG W0 g e:=by
 intro m
 induction m with
 |zero=>intro e h;have:=U.gQ e;omega
 |succ m ih=>
  intro e hm
  have hk:∀x∈e.kids,U.count x≤m:=by
   intro x hx;have:=U.dm hx;rw[U.aI]at hm;omega
  refine⟨X0 W0 g e fun x hx=>(ih x (hk x hx)).2,?_⟩
  by_cases h12:U.cu e.name=12
  ·exact Qr W0 g e h12 fun x hx=>Us W0 g x fun y hy=>(ih y (by have:=U.dm hy;have:=U.aI x;have:=hk x hx;omega)).1
  ·exact Ut W0 g e h12 fun x hx=>(ih x (hk x hx)).1
theorem Ux(W0:World)(g:Nat)(e:E):JH W0 g e:=(X6 W0 g _ e (Nat.le_refl _)).1
theorem GH(e:E)(va vk:Value)(w:World)(hr:bN w e va vk)(hc:U.count e≤90000):
  Calls Tryz.prog 41 #[ev e va vk] w fun x w'=>∃v,x=.returned (.tuple #[v,.int .i64 (tu e).2.1,.int .i64 (tu e).2.2])∧kR w w' (tu e).1 v:=by
 have HV:=I (fun(W:World) (h:bN W e va vk)=>OP e va vk W h (by omega));have HRW:=I (fun(W0:World) (g:Nat) (W:World) (hv:U.valid e=true) (h:bN W0 e va vk) (hrd:oJ W0 g (0,-1) W)=>Ux W0 g e U.bJ (0,-1) va vk W (by decide) (by decide) (by show 0+U.count e≤100000;omega) (by unfold U.valid at hv;simp only[Bool.and_eq_true]at hv;exact hv.1.1) h hrd);have QU:=I (show tu e=(if U.valid e then(if 0≤(gY U.bJ e (0,-1)).2.2 then(jr,(gY U.bJ e (0,-1)).2.2,19)else if Tr.valid (gY U.bJ e (0,-1)).1 then((gY U.bJ e (0,-1)).1,0,0)else(jr,0,6))else(jr,0,1))from rfl)
 have uy:=I (show(gY U.bJ e (0,-1)).2.2<0→Tr.count (gY U.bJ e (0,-1)).1≤1000000 by
  intro h;have hb:=(U.O7 _ e (Nat.le_refl _)).1 U.bJ (by decide) 0;have hlt:=U.EA e (decide (e.name=U.bJ)) 0;cases hv:(U.vis (decide (e.name=U.bJ)) 0 e).1 with
  |true=>rw[hb.1 hv];have:=U.acR e;show Tr.count (U.dR e)≤_;omega
  |false=>have:=hb.2 hv;omega)
 have HR:=I hr;obtain⟨A,ca,hva⟩:=hr.1.slice;obtain⟨B,cb,hvk⟩:=hr.2.1.slice;clear hr;generalize tu e=R at*;generalize gY U.bJ e (0,-1)=RR at*;generalize U.valid e=V at*;obtain⟨m,s1,s2⟩:=RR;obtain⟨n,ats,ks,t⟩:=e;replace hva:va=.slice A ats.length ca:=hva;replace hvk:vk=.slice B ks.length cb:=hvk;subst hva;subst hvk;unfold ev at*;simp only[E.name,E.text]at*;have hbx:=(O.new w 45 #[.string ⟨n.toArray⟩,.slice A ats.length ca,.slice B ks.length cb,.string ⟨t.toArray⟩]).alloc (.cells Y 31);have hby:=O.new2 w (.cells #[.string ⟨n.toArray⟩,.slice A ats.length ca,.slice B ks.length cb,.string ⟨t.toArray⟩] 45) 31 Y;have hfx:=((M (fun _=>False) w).alloc (.cells #[.string ⟨n.toArray⟩,.slice A ats.length ca,.slice B ks.length cb,.string ⟨t.toArray⟩] 45)).alloc (.cells Y 31);have HBX:=I hbx;have HBY:=I hby;have Gt:=I hfx;clear hbx hby hfx;go_enter Tryz.func41,Tryz.ntmps41;go_wp2_with fail
 refine(HV.J _ (HR.J.fresh Gt.J)).mono ?_;rintro _ w1 ⟨rfl,hf1⟩;have aF:=I (Gt.J.trans hf1);have HB1:=I (hf1.blk HBX.J fun h=>h);have HY1:=I (hf1.blk HBY.J fun h=>h);clear hf1 Gt HBX HBY;obtain⟨p0,p1,p2,p3,y0,y1,y2,y3,hg1⟩:=O.four HY1.J;cases V with
 |false=>
  have HZ:=I (show R=(jr,0,1) by rw[QU.J];rfl);go_wp2_with fail
  obtain⟨r0,r1,r2,r3,_,_,_,_,_⟩:=O.four (HY1.J.dJ (.int .i64 0) (.string ⟨#[]⟩) (.int .i64 0) (.slice none 0 0));simp only[aH]at r0 r1 r2 r3;refine bodyPost_ret (v:=.tuple #[.agg Y,.int .i64 0,.int .i64 1]) (by simp[results,Tryz.results41,go_sem,r0,r1,r2,r3]) rfl ?_;rw[HZ.J];exact⟨_,rfl,pV _ _ (Touch.aH aF.J (.inr (by omega)) _ _ _ _)⟩
 |true=>
 clear p0 p1 p2 p3 y0 y1 y2 y3;obtain⟨q0,q1,q2,q3,_⟩:=O.four HB1.J;go_wp2_with fail
 have aY:=I (aF.J.alloc (.cells #[.int .i64 0,.int .i64 (-1)] 132));have HY2:=I (HY1.J.alloc (.cells #[.int .i64 0,.int .i64 (-1)] 132));have Fq:=I (show oJ w1 w1.heap.size (0,-1) (w1.alloc (.cells #[.int .i64 0,.int .i64 (-1)] 132))from⟨(M _ _).alloc _,O.new _ _ _,Nat.le_refl _⟩);refine(HRW.J w1 w1.heap.size _ trivial (HR.J.fresh aF.J) Fq.J).mono ?_;rintro _ w3 ⟨v3,rfl,⟨sl,rfl,ht3,zN,kE⟩,Fw⟩;obtain⟨Ar,cr,rfl⟩:=kE.now.slice;have hgl:=Fq.J.lt;have bC:=I (show ag w w3 from aY.J.trans' ht3 fun k hk=>.inr (by subst hk;exact aF.J.size));have HY3:=I (ht3.blk HY2.J fun h=>by omega);have vF:=I Fw;have rD:=I (show aZ (fun k=>k<w1.heap.size) w3 fun W=>aO W m.kids (.slice Ar m.kids.length cr)from kE.mono fun i _ hi=>by omega);have gX:=I zN;have hy1:w.heap.size+1<w1.heap.size:=hg1;obtain⟨G,hG⟩:∃G,G=w1.heap.size:=⟨_,rfl⟩;have HG:=I hG;rw[←hG]at vF rD hy1⊢;clear ht3 zN kE Fw aF HB1 HY1 aY HY2 Fq hg1 q0 q1 q2 q3 HRW hgl hG;obtain⟨_,k1,_,_,WI⟩:=O.two (x0:=.int .i64 (s1:Int)) (x1:=.int .i64 s2) vF.J.blk
 by_cases c1:0≤s2
 ·have d1:decide ((0:Int)≤s2)=true:=dT c1
  have HZ:=I (show R=(jr,s2,19) by rw[QU.J];exact if_pos c1);go_wp2_with fail
  clear k1 WI;have dw:=I (bC.J.alloc (.cells #[.int .i64 m.kind,.string ⟨m.text.toArray⟩,.int .i64 m.ai,.slice Ar m.kids.length cr] 31));have Pm:=I (HY3.J.alloc (.cells #[.int .i64 m.kind,.string ⟨m.text.toArray⟩,.int .i64 m.ai,.slice Ar m.kids.length cr] 31));have Ll:=I (O.new w3 31 #[.int .i64 m.kind,.string ⟨m.text.toArray⟩,.int .i64 m.ai,.slice Ar m.kids.length cr]);have Rh:=I (vF.J.blk.alloc (.cells #[.int .i64 m.kind,.string ⟨m.text.toArray⟩,.int .i64 m.ai,.slice Ar m.kids.length cr] 31));have xC:=I (rD.J.fresh ((M _ w3).alloc (.cells #[.int .i64 m.kind,.string ⟨m.text.toArray⟩,.int .i64 m.ai,.slice Ar m.kids.length cr] 31)));have WG:w3.heap.size<(w3.alloc (.cells #[.int .i64 m.kind,.string ⟨m.text.toArray⟩,.int .i64 m.ai,.slice Ar m.kids.length cr] 31)).heap.size:=Ll.J.lt;generalize (w3.alloc (.cells #[.int .i64 m.kind,.string ⟨m.text.toArray⟩,.int .i64 m.ai,.slice Ar m.kids.length cr] 31))=w4 at dw Pm Ll Rh xC WG⊢;obtain⟨_,k1,_,_,WI⟩:=O.two (x0:=.int .i64 (s1:Int)) (x1:=.int .i64 s2) Rh.J;obtain⟨p0,p1,p2,p3,y0,y1,y2,y3,hg1⟩:=O.four Pm.J;clear bC HY3 vF rD;have kk:=cT (S:=fun k=>k=w.heap.size+1) k1 (by omega);refine FU (fun W=>∃x:Turned (fun k=>k=w.heap.size+1) w4,W=x.W) (bq.of [(0,true),(1,true),(2,true),(3,true),(4,true)] (.lone 5 (.plain 6 (.plain 7 .nil)))) [0,1,2,3,4,5,6,7] (Array.replicate 8 true) (by kernel_rfl) (fun _ _ d _ _ h=>by cases d<;>exact h) (by kernel_rfl) ⟨⟨_,(M _ _).drewN 1⟩,rfl⟩ ?_;unfold bq.of
  repeat(refine aS rfl (fun K hK=>?_);go_simp;refine hK _ ?_;clear hK K;first|done|unfold bq.of)
  obtain⟨p0,p1,p2,p3,y0,y1,y2,y3,hg1'⟩:=O.four (Pm.J.drewN 1);refine ax rfl (fun K hK=>?_);go_wp2
  refine hK _ _ ⟨⟨_,((M (fun k=>k=w.heap.size+1) w4).drewN 1).aH (.inl rfl) (.int .i64 0) (.string ⟨#[]⟩) (.int .i64 0) (.slice none 0 0)⟩,rfl⟩ ?_;clear hK K
  repeat(refine aS rfl (fun K hK=>?_);go_simp;refine hK _ ?_;clear hK K)
  refine jJ ?_;go_wp2_with fail
  obtain⟨r0,r1,r2,r3,_,_,_,_,_⟩:=O.four ((Pm.J.drewN 1).dJ (.int .i64 0) (.string ⟨#[]⟩) (.int .i64 0) (.slice none 0 0));simp only[aH]at r0 r1 r2 r3
  (try simp only[Exit.inBlock,Exit.then])
  refine bodyPost_ret (v:=.tuple #[.agg Y,.int .i64 s2,.int .i64 19]) (by simp[results,Tryz.results41,go_sem,r0,r1,r2,r3]) rfl ?_;rw[HZ.J];exact⟨_,rfl,pV _ _ (Touch.aH (dw.J.drewN 1) (.inr (by omega)) _ _ _ _)⟩
 ·have d1:decide ((0:Int)≤s2)=false:=dF c1
  have HZ:=I (show R=(if Tr.valid m then(m,0,0)else(jr,0,6)) by rw[QU.J];exact if_neg c1);have HVA:=I (fun(W:World) (h:aO W m.kids (.slice Ar m.kids.length cr))=>yM m _ W h gX.J (uy.J (by omega)));clear c1 QU uy;obtain⟨mk,mt,mc,DJ⟩:=m;unfold nv;simp only[Nd.kind,Nd.text,Nd.ai,Nd.kids]at*;go_wp2_with fail
  clear k1 WI;have dw:=I (bC.J.alloc (.cells #[.int .i64 mk,.string ⟨mt.toArray⟩,.int .i64 mc,.slice Ar DJ.length cr] 31));have Pm:=I (HY3.J.alloc (.cells #[.int .i64 mk,.string ⟨mt.toArray⟩,.int .i64 mc,.slice Ar DJ.length cr] 31));have Ll:=I (O.new w3 31 #[.int .i64 mk,.string ⟨mt.toArray⟩,.int .i64 mc,.slice Ar DJ.length cr]);have Rh:=I (vF.J.blk.alloc (.cells #[.int .i64 mk,.string ⟨mt.toArray⟩,.int .i64 mc,.slice Ar DJ.length cr] 31));have xC:=I (rD.J.fresh ((M _ w3).alloc (.cells #[.int .i64 mk,.string ⟨mt.toArray⟩,.int .i64 mc,.slice Ar DJ.length cr] 31)));have WG:w3.heap.size<(w3.alloc (.cells #[.int .i64 mk,.string ⟨mt.toArray⟩,.int .i64 mc,.slice Ar DJ.length cr] 31)).heap.size:=Ll.J.lt;generalize (w3.alloc (.cells #[.int .i64 mk,.string ⟨mt.toArray⟩,.int .i64 mc,.slice Ar DJ.length cr] 31))=w4 at dw Pm Ll Rh xC WG⊢;clear bC HY3 vF rD;refine(HVA.J _ xC.J.now).mono ?_;rintro _ w5 ⟨rfl,iJ⟩;have dA:=I (dw.J.trans iJ);have HY5:=I (iJ.blk Pm.J fun h=>h);have HN5:=I (iJ.blk Ll.J fun h=>h);have SX:=I (xC.J.fresh iJ);clear iJ HVA;obtain⟨p0,p1,p2,p3,y0,y1,y2,y3,hg5⟩:=O.four HY5.J;obtain⟨u0,u1,u2,u3,_,_,_,_,hgn⟩:=O.four HN5.J;cases hv:Tr.valid (.mk mk mt mc DJ)with
  |false=>
   have h1:R=(jr,0,6):=by rw[HZ.J,hv];rfl
   have HR1:=I h1;clear hv h1;go_wp2_with fail
   obtain⟨r0,r1,r2,r3,_,_,_,_,_⟩:=O.four (HY5.J.dJ (.int .i64 0) (.string ⟨#[]⟩) (.int .i64 0) (.slice none 0 0));simp only[aH]at r0 r1 r2 r3;refine bodyPost_ret (v:=.tuple #[.agg Y,.int .i64 0,.int .i64 6]) (by simp[results,Tryz.results41,go_sem,r0,r1,r2,r3]) rfl ?_;rw[HR1.J];exact⟨_,rfl,pV _ _ (Touch.aH dA.J (.inr (by omega)) _ _ _ _)⟩
  |true=>
   have h1:R=(.mk mk mt mc DJ,0,0):=by rw[HZ.J,hv];rfl
   have HR1:=I h1;clear hv h1;go_wp2_with fail
   obtain⟨r0,r1,r2,r3,_,_,_,_,_⟩:=O.four (HY5.J.dJ (.int .i64 mk) (.string ⟨mt.toArray⟩) (.int .i64 mc) (.slice Ar DJ.length cr));simp only[aH]at r0 r1 r2 r3;refine bodyPost_ret (v:=.tuple #[.agg #[.int .i64 mk,.string ⟨mt.toArray⟩,.int .i64 mc,.slice Ar DJ.length cr],.int .i64 0,.int .i64 0]) (by simp[results,Tryz.results41,go_sem,r0,r1,r2,r3]) rfl ?_;rw[HR1.J];refine⟨_,rfl,.slice Ar DJ.length cr,rfl,Touch.aH dA.J (.inr (by omega)) _ _ _ _,gX.J,?_⟩;exact SX.J.step ((M (fun k=>k=w.heap.size+1) w5).aH (.inl rfl) _ _ _ _) (fun i _ hi=>by have hi:i=w.heap.size+1:=hi;omega) (fun i _ hi=>by omega)
end
section
open Go.ChangeShapes Go.WideShapes Go.ChangeAt Go.RowKit
inductive gB(W:World):List Tr.Nd→Value→Prop
 |nil (A:Option Addr) (cap:Nat):gB W [] (.slice A 0 cap)
 |row (g o cap:Nat) (ks:List Tr.Nd) (sl:Nat→Value) (hg:g<W.heap.size) (hl:ks.length≤maxLen) (ht:∀i (hi:i<ks.length),ks[i].text.length≤maxLen)
   (h0:∀i (hi:i<ks.length),W.cell? ⟨g,o+i*4,none⟩=some (.int .i64 ks[i].kind))
   (h1:∀i (hi:i<ks.length),W.cell? ⟨g,o+i*4+1,none⟩=some (.string ⟨ks[i].text.toArray⟩))
   (h2:∀i (hi:i<ks.length),W.cell? ⟨g,o+i*4+2,none⟩=some (.int .i64 ks[i].ai))
   (h3:∀i,i<ks.length→W.cell? ⟨g,o+i*4+3,none⟩=some (sl i))
   (hk:∀i (hi:i<ks.length),gB W ks[i].kids (sl i)) (hc:ks.length≤cap) (hm:cap≤maxLen):gB W ks (.slice (some ⟨g,o,none⟩) ks.length cap)
theorem gB.fresh{W W':World}{ks:List Tr.Nd}{v:Value}(h:gB W ks v)(hf:ag W W'):gB W' ks v:=by
 induction h with
 |nil A cap=>exact .nil A cap
 |row g o cap ks sl hg hl ht h0 h1 h2 h3 hk hc hm ih=>
  exact .row g o cap ks sl (Nat.lt_of_lt_of_le hg hf.size) hl ht (fun i hi=>hf.cell (h0 i hi) (fun h=>h)) (fun i hi=>hf.cell (h1 i hi) (fun h=>h)) (fun i hi=>hf.cell (h2 i hi) (fun h=>h)) (fun i hi=>hf.cell (h3 i hi) (fun h=>h)) ih hc hm
theorem gB.rep{W:World}{ks:List Tr.Nd}{v:Value}(h:gB W ks v):aO W ks v:=by
 induction h with
 |nil A cap=>exact .nil A cap
 |row g o cap ks sl hg hl ht h0 h1 h2 h3 hk hc hm ih=>exact .row g o cap ks sl hg hl ht h0 h1 h2 h3 ih
theorem gB.slice{W:World}{ks:List Tr.Nd}{v:Value}(h:gB W ks v):∃A cap,v=.slice A ks.length cap:=h.rep.slice
theorem gB.len{W:World}{ks:List Tr.Nd}{v:Value}(h:gB W ks v):ks.length≤maxLen:=h.rep.len
theorem gB.texts{W:World}{ks:List Tr.Nd}{v:Value}(h:gB W ks v)(i:Nat)(hi:i<ks.length):ks[i].text.length≤maxLen:=h.rep.texts i hi
theorem gB.get{W:World}{ks:List Tr.Nd}{A:Option Addr}{len cap:Nat}(h:gB W ks (.slice A len cap))(i:Nat)(hi:i<ks.length):
  ∃g o sl,A=some ⟨g,o,none⟩∧g<W.heap.size∧W.cell? ⟨g,o+i*4,none⟩=some (.int .i64 ks[i].kind)∧W.cell? ⟨g,o+i*4+1,none⟩=some (.string ⟨ks[i].text.toArray⟩)∧
   W.cell? ⟨g,o+i*4+2,none⟩=some (.int .i64 ks[i].ai)∧W.cell? ⟨g,o+i*4+3,none⟩=some sl∧gB W ks[i].kids sl:=by
 generalize hv:Value.slice A len cap=v at h;cases h with
 |nil A cap=>simp at hi
 |row g o cap _ sl hg hl ht h0 h1 h2 h3 hk=>
  cases hv;exact⟨g,o,sl i,rfl,hg,h0 i hi,h1 i hi,h2 i hi,h3 i hi,hk i hi⟩
theorem gB.cap{W:World}{ks:List Tr.Nd}{A:Option Addr}{len cap:Nat}(h:gB W ks (.slice A len cap))(hne:0<ks.length):ks.length≤cap∧cap≤maxLen:=by
 generalize hv:Value.slice A len cap=v at h;cases h with
 |nil A cap=>simp at hne
 |row g o cap _ sl hg hl ht h0 h1 h2 h3 hk hc hm=>cases hv;exact⟨hc,hm⟩
theorem gB.sub{W:World}{ks:List Tr.Nd}{g o len cap:Nat}(h:gB W ks (.slice (some ⟨g,o,none⟩) len cap))(i c cap':Nat)(hi:i+c≤ks.length)(hc:c≤cap')(hm:cap'≤maxLen):gB W ((ks.drop i).take c) (.slice (some ⟨g,o+i*4,none⟩) c cap'):=by
 have hlen:((ks.drop i).take c).length=c:=by rw[List.length_take,List.length_drop];omega
 cases Nat.eq_zero_or_pos c with
 |inl h0=>subst h0;rw[List.take_zero];exact .nil _ _
 |inr hpos=>
  generalize hv:Value.slice (some ⟨g,o,none⟩) len cap=v at h;cases h with
  |nil A cap=>simp at hi;omega
  |row g o cap _ sl hg hl ht h0 h1 h2 h3 hk hc' hm'=>
   cases hv;have e:∀k (hk:k<((ks.drop i).take c).length),((ks.drop i).take c)[k]=ks[i+k]'(by rw[hlen]at hk;omega):=fun k hk=>by simp
   have a:∀k,o+i*4+k*4=o+(i+k)*4:=fun k=>by omega
   have:=gB.row (W:=W) g (o+i*4) cap' ((ks.drop i).take c) (fun k=>sl (i+k)) hg (by rw[hlen];omega) (fun k hk=>by rw[e k hk];exact ht _ _) (fun k hk=>by rw[e k hk,a];exact h0 _ _) (fun k hk=>by rw[e k hk,a];exact h1 _ _) (fun k hk=>by rw[e k hk,a];exact h2 _ _)
    (fun k hk=>by rw[a];exact h3 _ (by rw[hlen]at hk;omega)) (fun k hk=>by rw[e k hk];exact ‹∀i (hi:i<ks.length),gB W ks[i].kids (sl i)› _ _) (by rw[hlen];exact hc) hm
   rw[hlen]at this;exact this
section
variable {H:Type} {enc:TypeId×Value→H}
theorem Qs{w:World}{base:Nat}{sp:Nat→Bool}{hd:Bool}:∀(fuel:Nat) (cs:List Value) (y:DataW H×List MemPlace),DataW.trod enc Tryz.prog w base sp hd fuel 29 cs=some y→∃ks v,cs=[v]∧gB w ks v:=by
 intro fuel
 induction fuel using Nat.strongRecOn with
 |_ fuel ih=>
  intro cs y h
  rcases DataW.trod_slice Tryz.underlying29 h with⟨rfl,_⟩|⟨a,len,cap,elems,rest,n,hn,rfl,_,hb,hl,hm,hlen,hel,_,_⟩
  ·exact⟨[],_,rfl,.nil _ _⟩
  ·have hC:Tryz.prog.cellsOf 31=4:=by kernel_rfl
   rw[hC]at hel
   have each:∀i,i<len→∃(t:Tr.Nd) (sl:Value),a.spot=none∧a.block<w.heap.size∧w.cell? ⟨a.block,a.off+i*4,none⟩=some (.int .i64 t.kind)∧w.cell? ⟨a.block,a.off+i*4+1,none⟩=some (.string ⟨t.text.toArray⟩)∧
     w.cell? ⟨a.block,a.off+i*4+2,none⟩=some (.int .i64 t.ai)∧w.cell? ⟨a.block,a.off+i*4+3,none⟩=some sl∧gB w t.kids sl∧t.text.length≤maxLen:=by
    intro i hi;have h0:=hel i hi;rw[List.getElem?_eq_getElem (by omega),Option.bind_eq_some_iff]at h0;obtain⟨cs',hcs,hy⟩:=h0;obtain⟨c0,c1,c2,c3,rfl,hs,hlt,e0,e1,e2,e3⟩:=UF hcs;obtain⟨k,c,s,m,z,hm',rfl,rfl,rfl,hsz,hz⟩:=Ip hy;obtain⟨ks,v,hv,hr⟩:=ih m (by omega) _ _ hz;cases hv
    have hsp:a.spot=none∨0<i:=by
     rcases Nat.eq_zero_or_pos i with h|h
     ·subst h;left;simpa[Addr.add]using hs
     ·exact .inr h
    have hblk:(a.add (i*4)).block=a.block:=by unfold Addr.add;split<;>rfl
    have hoff:(a.add (i*4)).off=a.off+i*4:=by
     unfold Addr.add;split
     ·omega
     ·rfl
    rw[hblk,hoff]at e0 e1 e2 e3;rw[hblk]at hlt
    have hs0:a.spot=none:=by
     rcases hsp with h|h
     ·exact h
     ·have h00:=hel 0 (by omega)
      rw[List.getElem?_eq_getElem (by omega),Option.bind_eq_some_iff]at h00;obtain⟨cs0,aha,_⟩:=h00;obtain⟨_,_,_,_,_,hs',_⟩:=UF aha;simpa[Addr.add]using hs'
    exact⟨.mk k s.data.toList c ks,c3,hs0,hlt,e0,e1,e2,e3,hr,by show s.data.toList.length≤maxLen;simpa using hsz⟩
   cases hl0:len with
   |zero=>subst hl0;exact⟨[],_,rfl,.nil _ _⟩
   |succ l=>
    rw[←hl0];have hpos:0<len:=by omega
    have he:∃f:Nat→Tr.Nd×Value,∀i,i<len→w.cell? ⟨a.block,a.off+i*4,none⟩=some (.int .i64 (f i).1.kind)∧w.cell? ⟨a.block,a.off+i*4+1,none⟩=some (.string ⟨(f i).1.text.toArray⟩)∧
     w.cell? ⟨a.block,a.off+i*4+2,none⟩=some (.int .i64 (f i).1.ai)∧w.cell? ⟨a.block,a.off+i*4+3,none⟩=some (f i).2∧gB w (f i).1.kids (f i).2∧(f i).1.text.length≤maxLen:=by
     refine⟨fun i=>if h:i<len then⟨Classical.choose (each i h),Classical.choose (Classical.choose_spec (each i h))⟩else⟨.mk 0 [] 0 [],.bool false⟩,fun i hi=>?_⟩;simp only[dif_pos hi];exact(Classical.choose_spec (Classical.choose_spec (each i hi))).2.2
    obtain⟨f,hf⟩:=he;obtain⟨_,_,hs,hlt,_⟩:=each 0 hpos;obtain⟨g,o,s⟩:=a;simp only at hs hlt hf;subst hs;have hln:((List.range len).map fun i=>(f i).1).length=len:=by simp
    refine⟨(List.range len).map fun i=>(f i).1,_,rfl,?_⟩
    have:=gB.row (W:=w) g o cap ((List.range len).map fun i=>(f i).1) (fun i=>(f i).2) hlt (by rw[hln];omega) (fun i hi=>by simpa using(hf i (by simpa using hi)).2.2.2.2.2)
     (fun i hi=>by simpa using(hf i (by simpa using hi)).1) (fun i hi=>by simpa using(hf i (by simpa using hi)).2.1) (fun i hi=>by simpa using(hf i (by simpa using hi)).2.2.1)
     (fun i hi=>by simpa using(hf i (by simpa using hi)).2.2.2.1) (fun i hi=>by simpa using(hf i (by simpa using hi)).2.2.2.2.1) (by rw[hln];exact hl) (by first|exact hm|omega)
    rw[hln]at this;exact this
theorem JJ{w:World}{base b0:Nat}{sp:Nat→Bool}{hd:Bool}{v:Value}{d:DataW H}{p:List MemPlace}(hv:Value.okWide Tryz.prog w .any b0 31 v)(h:DataW.Trod enc Tryz.prog w base sp hd 31 v d p):
  ∃(n:Tr.Nd) (sl:Value),v=.agg #[.int .i64 n.kind,.string ⟨n.text.toArray⟩,.int .i64 n.ai,sl]∧gB w n.kids sl∧n.text.length≤maxLen:=by
 obtain⟨cs,rfl,hsz⟩:=okWide_struct Tryz.underlying31 hv;have hC:Tryz.prog.cellsOf 31=4:=by kernel_rfl
 rw[hC]at hsz;obtain⟨fuel,hf⟩:=h;obtain⟨l,rfl⟩:∃l:List Value,cs=l.toArray:=⟨cs.toList,by simp⟩
 match l,hsz with
 |[c0,c1,c2,c3],_=>
  obtain⟨k,c,s,m,z,_,rfl,rfl,rfl,hsz,hz⟩:=Ip hf;obtain⟨ks,v,hv,hr⟩:=Qs m _ _ hz;cases hv;exact⟨.mk k s.data.toList c ks,c3,rfl,hr,by show s.data.toList.length≤maxLen;simpa using hsz⟩
end
end
end Go.Proofs.YtnbeemkfmlfgfaaGreatDoor
