/- Part 41 of 48 of a proof. No condition. -/
import Derived.Test.YtnbeemkfmlfgfaaGreatDoorTm40
set_option maxRecDepth 100000
set_option maxHeartbeats 8000000
namespace Go.Proofs.YtnbeemkfmlfgfaaGreatDoor
section
open Go.RowKit
open Tr (Nd)
open U (E Rd aA iQ gY kP gV bZ gW dN)
attribute [local go_sem] jg stillUpon
theorem aaY(n nm:List UInt8)(a:aA)(ks:List E)(t:List UInt8):
  (U.oh nm (.mk n a ks t)=false∧(n==nm)=false)∨(U.oh nm (.mk n a ks t)=false∧(n==nm)=true∧((a.length:Int)==(0:Int))=false)∨
  (U.oh nm (.mk n a ks t)=false∧(n==nm)=true∧((a.length:Int)==(0:Int))=true∧t.isEmpty=false)∨(U.oh nm (.mk n a ks t)=true∧(n==nm)=true∧((a.length:Int)==(0:Int))=true∧t.isEmpty=true):=by
 have h:U.oh nm (.mk n a ks t)=((n==nm)&&((a.length:Int)==(0:Int))&&t.isEmpty):=by rw[Kr,Kt];rfl
 rw[h];cases n==nm<;>cases((a.length:Int)==(0:Int))<;>cases t.isEmpty<;>simp
theorem X0(W0:World)(g:Nat)(e:E)(ih:∀x∈e.kids,JG W0 g x):JH W0 g e:=by
 intro nm s va vk w hnm hs0 hcnt hpr hr hrd;have jw:=I ih;have jP:=I hrd;have qi:=I (U.xP e hpr);have hg0:=hrd.lt;have yc:=I (show dL W0 e.kids vk from hr.2.1);have HRR:=I (show gY nm e s=(.mk 1 [] 0 (gV e.kids (iQ (U.oh nm e) s)).1,(gV e.kids (iQ (U.oh nm e) s)).2) by cases e;rw[gY];rfl);have uy:=I (show(s.1+1)+U.aj e.kids≤100000 by rw[U.aI]at hcnt;omega);have hl2:e.kids.length≤100000:=by have:=U.gL e.kids;have:=uy.J;omega
 have hsb:s.1≤1000000:=by omega
 obtain⟨A,ca,hva⟩:=hr.1.slice;obtain⟨Bk,cb,hvk⟩:=hr.2.1.slice;clear ih hrd hpr hcnt hr hnm hs0;obtain⟨n,ats,ks,t⟩:=e;replace hva:va=.slice A ats.length ca:=hva;replace hvk:vk=.slice Bk ks.length cb:=hvk;subst hva hvk;have iV:=aaY n nm ats ks t;unfold ev;simp only[E.name,E.text,E.kids]at*;generalize U.oh nm (.mk n ats ks t)=ok at HRR iV;obtain⟨s1,hs1⟩:∃s1,iQ ok s=s1:=⟨_,rfl⟩;rw[hs1]at HRR;have pq:=I hs1;have Fp:=I (show s1.1+U.aj ks≤100000 by rw[←hs1];exact uy.J);clear hs1 uy
 rcases iV with⟨hok,c1⟩|⟨hok,c1,c2⟩|⟨hok,c1,c2,c3⟩|⟨hok,c1,c2,c3⟩
 all_goals
  subst hok;go_enter Tryz.func69,Tryz.ntmps69;go_wp2_with fail
  have hf0:=((M (fun k=>k=g) w).alloc (.cells #[.string ⟨n.toArray⟩,.slice A ats.length ca,.slice Bk ks.length cb,.string ⟨t.toArray⟩] 45)).alloc (.cells Y 31);have hr0:=jP.J.fresh (((M (fun _=>False) w).alloc (.cells #[.string ⟨n.toArray⟩,.slice A ats.length ca,.slice Bk ks.length cb,.string ⟨t.toArray⟩] 45)).alloc (.cells Y 31));have O8:=(O.new w 45 #[.string ⟨n.toArray⟩,.slice A ats.length ca,.slice Bk ks.length cb,.string ⟨t.toArray⟩]).alloc (.cells Y 31);have ad':=O.new2 w (.cells #[.string ⟨n.toArray⟩,.slice A ats.length ca,.slice Bk ks.length cb,.string ⟨t.toArray⟩] 45) 31 Y;have hsz0:((w.alloc (.cells #[.string ⟨n.toArray⟩,.slice A ats.length ca,.slice Bk ks.length cb,.string ⟨t.toArray⟩] 45)).alloc (.cells Y 31)).heap.size=w.heap.size+2:=by simp
  refine(AO s _ g _ hr0.blk hsb).mono ?_;rintro _ w2 ⟨rfl,ht2,hb2⟩;rw[pq.J]at hb2;have HT2:=I (hf0.trans ht2);have Fq:=I (hr0.turn ht2 hb2);have uE:=I (ht2.blk O8 fun h=>by omega);have uD:=I (ht2.blk ad' fun h=>by omega);have hsz2:w.heap.size+2≤w2.heap.size:=by rw[←hsz0];exact ht2.size
  clear hf0 hr0 O8 ad' hsz0 ht2 hb2 c1 jP hsb pq;obtain⟨bO,LX⟩:∃b,b=w2.heap.size:=⟨_,rfl⟩;have HO:=I LX;have hO1:w.heap.size+2≤bO:=by omega
  clear LX hsz2;go_wp2_with fail
  rw[←HO.J];have hlt2:w.heap.size+1<w2.heap.size:=uD.J.lt
  refine aV (fun W=>Touch (fun k=>k=g) w W∧oJ W0 g s1 W∧O W w.heap.size 45 #[.string ⟨n.toArray⟩,.slice A ats.length ca,.slice Bk ks.length cb,.string ⟨t.toArray⟩]∧O W (w.heap.size+1) 31 Y∧
   O W bO 31 #[.int .i64 1,.string ⟨#[]⟩,.int .i64 0,.slice none 0 0]∧bO+1≤W.heap.size) ⟨HT2.J.alloc _,Fq.J.fresh ((M _ _).alloc _),uE.J.alloc _,uD.J.alloc _,by rw[HO.J];exact O.new _ _ _,by rw[HO.J];simp⟩ ?_
  rintro W1 ⟨ht1,Fs,oP,mZ,Fu,hs1⟩;have HT1:=I ht1;have O9:=I Fs;have oQ:=I oP;have eX:=I mZ;have Pb:=I Fu;have uq:=I (show dU (bO+1) W1 [] (.slice none 0 0)from dU.nil hs1);have Bv:=I (show gV ks s1=([]++(gV (ks.drop 0) s1).1,(gV (ks.drop 0) s1).2) by rw[List.drop_zero,List.nil_append]);clear ht1 Fs oP mZ Fu hs1 HT2 Fq uE uD HO hlt2
  go_loopw [8] (fun i wr=>∃(j:Nat) (Ae:Option Addr) (ce:Nat) (ns:List Nd) (sj:Rd),i=.int .i64 j∧j≤ks.length∧Hd (ns.length=j)∧Hd (O wr w.heap.size 45 #[.string ⟨n.toArray⟩,.slice A ats.length ca,.slice Bk ks.length cb,.string ⟨t.toArray⟩])∧Hd (O wr (w.heap.size+1) 31 Y)∧
   Hd (O wr bO 31 #[.int .i64 1,.string ⟨#[]⟩,.int .i64 0,.slice Ae j ce])∧Hd (dU (bO+1) wr ns (.slice Ae j ce))∧Hd (Touch (fun k=>k=g) w wr)∧Hd (oJ W0 g sj wr)∧Hd (sj.1+U.aj (ks.drop j)≤100000)∧
   Hd (gV ks s1=(ns++(gV (ks.drop j) sj).1,(gV (ks.drop j) sj).2))) (fun i _=>ks.length-(intOf i).toNat)
  case atStart=>exact⟨0,none,0,[],s1,rfl,Nat.zero_le _,I rfl,oQ,eX,Pb,uq,HT1,O9,Fp,Bv⟩
  case round=>
   obtain⟨j,Ae,ce,ns,⟨sa,sc⟩,rfl,hj,kr,jO,jX,uz,HG,HT,jP,yt,ja⟩:=hrel;rename_i wr _;have hsz:=HT.J.size;have aiM:=uz.J.lt;have hgs:=jP.J.lt;obtain⟨_,_,e2,_,_,_,_,_,_⟩:=O.four jO.J;obtain⟨u0,u1,u2,u3,v0,v1,v2,v3,hlo⟩:=O.four uz.J;obtain⟨_,r1,_,_,_⟩:=O.two (x0:=.int .i64 (sa:Int)) (x1:=.int .i64 sc) jP.J.blk
   by_cases c1:j<ks.length∧sc<0
   ·have d1:decide ((j:Int)<(ks.length:Int))=true:=dT (by omega)
    have dG:decide (j<ks.length)=true:=dT c1.1;have d1':(j:Int)<(ks.length:Int):=by omega
    have d2:decide (sc<(0:Int))=true:=dT c1.2;have vJ:=I c1.2;obtain⟨hjl,_⟩:=c1;obtain⟨gx,o,xa,xk,rfl,eB⟩:=yc.J.ru j hjl;have qQ:=I eB;have jZ:=I (List.getElem_mem hjl);have HC:=I (jw.J _ jZ.J);have Dy:=I (qi.J _ jZ.J);have wU:=I (U.xQ ks j hjl);have HDR:=I (List.drop_eq_getElem_cons hjl);have Fv:=I (U.XY ks[j] (sa,sc));obtain⟨hgx,x0,x1,x2,x3,Pd⟩:=eB.fresh jP.J.fr;have wV:gx≠g:=by have:=eB.1;have:=jP.J.le;omega
    clear eB jZ Pd hgx;generalize ks[j]=x at*;go_wp2_with fail
    have k0:=cT (S:=fun k=>k=g) e2 (by omega);have k3:=cT (S:=fun k=>k=g) u3 (by omega);have y0:=cT (S:=fun k=>k=g) x0 wV;have y1:=cT (S:=fun k=>k=g) x1 wV;have y2:=cT (S:=fun k=>k=g) x2 wV;have y3:=cT (S:=fun k=>k=g) x3 wV;clear e2 u0 u1 u2 u3 v0 v1 v2 v3 hlo r1 x0 x1 x2 x3 d1 dG d2
    refine fu (fun W=>∃x:Turned (fun k=>k=g) wr,W=x.W) (bq.of [(0,true),(1,true),(2,true),(3,true),(4,true),(5,true),(6,true),(7,true)] (.lone 8 (.lone 9 .nil))) [0,1,2,3,4,5,6,7,8,9] 10 (Array.replicate 10 true++Array.replicate 3 false) (fun _=>True) (bq.of [(11,true)] (.lone 12 .nil)) [11,12] (Array.replicate 13 true)
     (by kernel_rfl) (fun _ _ d _ _ h=>by cases d<;>exact h) (by kernel_rfl) ⟨⟨_,(M _ _).drewN 1⟩,rfl⟩ ?_
    unfold bq.of
    repeat(refine aS rfl (fun K hK=>?_);go_simp;refine hK _ ?_;clear hK K;first|done|unfold bq.of)
    clear k0 k3 y0 y1 y2 y3;refine ax rfl (fun K hK=>?_);go_wp2_with fail
    refine(HC.J (sa,sc) xa xk _ vJ.J (by have:=yt.J;have:=wU.J;omega) Dy.J qQ.J.2.2.2.2.2 (jP.J.fresh ((M _ _).drewN 1))).mono ?_;rintro _ w6 ⟨v6,rfl,⟨sl,rfl,jl,oV,aQ⟩,tH⟩;have dB:=I (show Touch (fun k=>k=g) wr w6 from((M _ wr).drewN 1).trans jl);have fM:=I (show aZ (fun k=>k<wr.heap.size) w6 fun W=>aO W (kP x (sa,sc)).1.kids sl from aQ);have xD:=I oV;have Dl:=I tH
    have vg:=I (show gV ks s1=((ns++[(kP x (sa,sc)).1])++(gV (ks.drop (j+1)) (kP x (sa,sc)).2).1,(gV (ks.drop (j+1)) (kP x (sa,sc)).2).2) by
     rw[ja.J,HDR.J,gV,if_pos vJ.J,List.append_assoc];rfl)
    have Ic:=I (show(kP x (sa,sc)).2.1+U.aj (ks.drop (j+1))≤100000 by have:=yt.J;have:=wU.J;have:=Fv.J;omega);obtain⟨Ak,ck,rfl⟩:=aQ.now.slice;clear jl aQ oV tH ja HC HDR Fv yt wU;generalize kP x (sa,sc)=R at*;obtain⟨m,sb⟩:=R;simp only at*;go_wp2
    refine hK _ _ ⟨⟨_,dB.J⟩,rfl⟩ ?_;clear hK K;refine ax rfl (fun K hK=>?_);go_wp2
    refine hK _ _ ⟨⟨_,dB.J.alloc _⟩,rfl⟩ ?_;clear hK K;have dX:=I (O.new w6 31 #[.int .i64 m.kind,.string ⟨m.text.toArray⟩,.int .i64 m.ai,.slice Ak m.kids.length ck]);have dS:=I (dB.J.alloc (.cells #[.int .i64 m.kind,.string ⟨m.text.toArray⟩,.int .i64 m.ai,.slice Ak m.kids.length ck] 31));have aea:=I (Dl.J.fresh ((M _ w6).alloc (.cells #[.int .i64 m.kind,.string ⟨m.text.toArray⟩,.int .i64 m.ai,.slice Ak m.kids.length ck] 31)));have jR:=I (fM.J.fresh ((M _ w6).alloc (.cells #[.int .i64 m.kind,.string ⟨m.text.toArray⟩,.int .i64 m.ai,.slice Ak m.kids.length ck] 31)));generalize (w6.alloc (.cells #[.int .i64 m.kind,.string ⟨m.text.toArray⟩,.int .i64 m.ai,.slice Ak m.kids.length ck] 31))=w7 at dX dS aea jR⊢;have uu:=I (HG.J.mv dS.J fun k hk _=>by omega);have HOW:=I HG.J.jE;have oU:=I (dS.J.blk jO.J fun h=>by omega);have qc:=I (dS.J.blk jX.J fun h=>by omega);have agZ:=I (dS.J.blk uz.J fun h=>by omega);have bV:=I HG.J.1;refine iY rfl (fun K hK=>?_)
    go_wp2_with (at_builtin;go_loud (refine nA rfl (.tmp 42) (.tmp 50) rfl uu.J kr.J (by simp[Act.eval]) m dX.J (by simp[Act.eval]) wr.heap.size bV.J (fun k hk=>(HOW.J k hk).2) xD.J jR.J (by omega) ?_);intro A8 c8 w8 gJ bW _;refine iC.mk ?_)
    have nT:=I gJ;have lq:=I (bW.blk oU.J fun h=>by have:=(HOW.J _ h).1;omega);have mJ:=I (bW.blk qc.J fun h=>by have:=(HOW.J _ h).1;omega);have aeb:=I (bW.blk agZ.J fun h=>by have:=(HOW.J _ h).1;omega);have Ie:=I (aea.J.move bW (fun h=>by have:=(HOW.J _ h).1;omega) fun k hk=>by have:=(HOW.J _ hk).1;have:=jP.J.le;omega);have oC:=I (show Touch (fun k=>k=g) w w8 from(HT.J.trans dS.J).trans' bW fun k hk=>.inr (by have:=(HOW.J _ hk).1;omega));clear gJ bW;obtain⟨q0,q1,q2,q3,z0,z1,z2,z3,wo⟩:=O.four aeb.J;refine iC.go ?_;go_wp2
    refine hK _ _ trivial ?_;clear hK K
    repeat(refine aS rfl (fun K hK=>?_);go_simp;refine hK _ ?_;clear hK K)
    refine ax rfl (fun K hK=>?_);go_wp2
    refine hK _ _ trivial ?_;clear hK K;refine jJ ?_;go_wp2_with fail
    have fO:=nT.J.mv ((M (fun k=>k=bO) w8).setCell (p:=⟨bO,3,none⟩) (.inl rfl) (.slice A8 (j+1) c8)) (fun k hk _=>by omega)
    exact⟨⟨j+1,A8,c8,ns++[m],sb,by simp,by omega,I (by rw[List.length_append,kr.J];rfl),I (lq.J.far (p:=⟨bO,3,none⟩) (by show _≠bO;omega) _),I (mJ.J.far (p:=⟨bO,3,none⟩) (by show _≠bO;omega) _),I (aeb.J.put 3 _),I fO,I (oC.J.setCell (p:=⟨bO,3,none⟩) (.inr (by show w.heap.size≤bO;omega)) _),
     I (Ie.J.move ((M (fun k=>k=bO) w8).setCell (p:=⟨bO,3,none⟩) (.inl rfl) (.slice A8 (j+1) c8)) (by omega) fun k hk=>by have:=jP.J.fr.size;have:=jP.J.le;omega),Ic,vg⟩,by simp[intOf];omega⟩
   ·have hend:gV (ks.drop j) (sa,sc)=([],(sa,sc)):=by
     by_cases c2:j<ks.length
     ·exact U.Bu _ _ fun h=>c1 ⟨c2,h⟩
     ·rw[List.drop_of_length_le (by omega),gV]
    have aG:=I (show gV ks s1=(ns,(sa,sc)) by rw[ja.J,hend,List.append_nil]);clear hend ja;obtain⟨p0,p1,p2,p3,y0,y1,y2,y3,hlp⟩:=O.four jX.J;have iE:=I (HG.J.mv ((M (fun k=>k=w.heap.size+1) wr).aH (.inl rfl) (.int .i64 1) (.string ⟨#[]⟩) (.int .i64 0) (.slice Ae j ce)) (fun k hk _=>by omega));obtain⟨t0,t1,t2,t3,_,_,_,_,_⟩:=O.four (jX.J.dJ (.int .i64 1) (.string ⟨#[]⟩) (.int .i64 0) (.slice Ae j ce));simp only[aH]at t0 t1 t2 t3;have bU:=I (Touch.aH (g:=w.heap.size+1) HT.J (.inr (by omega)) (.int .i64 1) (.string ⟨#[]⟩) (.int .i64 0) (.slice Ae j ce));have Dm:=I (jP.J.move ((M (fun k=>k=w.heap.size+1) wr).aH (.inl rfl) (.int .i64 1) (.string ⟨#[]⟩) (.int .i64 0) (.slice Ae j ce)) (by omega) fun k hk=>by have:=jP.J.le;omega);clear hl2
    have wW:(decide ((j:Int)<(ks.length:Int))=false∧decide (j<ks.length)=false)∨((decide ((j:Int)<(ks.length:Int))=true∧decide (j<ks.length)=true)∧decide (sc<(0:Int))=false):=by
     by_cases c2:j<ks.length
     ·exact .inr ⟨⟨dT (by omega),dT c2⟩,dF fun h=>c1 ⟨c2,h⟩⟩
     ·exact .inl ⟨dF (by omega),dF c2⟩
    rcases wW with⟨d1,dG⟩|⟨⟨d1,dG⟩,d2⟩
    all_goals
     go_wp2
     refine bodyPost_ret (v:=.agg #[.int .i64 1,.string ⟨#[]⟩,.int .i64 0,.slice Ae j ce]) (by simp[results,Tryz.results69,go_sem,t0,t1,t2,t3]) rfl ?_;refine⟨_,rfl,?_,?_⟩
     ·rw[HRR.J,aG.J]
      refine⟨.slice Ae j ce,rfl,bU.J,Nat.zero_le _,?_⟩;exact(iE.J.done.mono fun i _ hi=>by omega)
     ·rw[HRR.J,aG.J]
      exact Dm.J
end
section
open Go.RowKit
open Tr (Nd)
open U (E Rd aA iQ gY kP gV bZ gW dN aJ bM)
attribute [local go_sem] jg stillUpon
theorem aaZ(nm:List UInt8)(l:List E):∀s,(bZ nm l s).1.length≤l.length:=by
 induction l with
 |nil=>intro s;rw[bZ];exact Nat.le_refl _
 |cons x l ih=>
  intro s;rw[bZ];split
  ·have:=ih (gY nm x s).2
   show((bZ nm l (gY nm x s).2).1).length+1≤l.length+1;omega
  ·exact Nat.zero_le _
theorem X3(n:List UInt8)(a:aA)(ks:List E)(t:List UInt8)(c:Int):
  (U.gK c (.mk n a ks t)=false∧(n==([109,116,114]:List UInt8))=false)∨
  (U.gK c (.mk n a ks t)=false∧(n==([109,116,114]:List UInt8))=true∧((a.length:Int)==(0:Int))=false)∨
  (U.gK c (.mk n a ks t)=false∧(n==([109,116,114]:List UInt8))=true∧((a.length:Int)==(0:Int))=true∧t.isEmpty=false)∨
  (U.gK c (.mk n a ks t)=false∧(n==([109,116,114]:List UInt8))=true∧((a.length:Int)==(0:Int))=true∧t.isEmpty=true∧decide ((1:Int)≤(ks.length:Int))=false)∨
  (U.gK c (.mk n a ks t)=false∧(n==([109,116,114]:List UInt8))=true∧((a.length:Int)==(0:Int))=true∧t.isEmpty=true∧decide ((1:Int)≤(ks.length:Int))=true∧decide ((ks.length:Int)≤(16:Int))=false)∨
  (U.gK c (.mk n a ks t)=false∧(n==([109,116,114]:List UInt8))=true∧((a.length:Int)==(0:Int))=true∧t.isEmpty=true∧decide ((1:Int)≤(ks.length:Int))=true∧decide ((ks.length:Int)≤(16:Int))=true∧((ks.length:Int)==c)=false)∨
  (U.gK c (.mk n a ks t)=true∧(n==([109,116,114]:List UInt8))=true∧((a.length:Int)==(0:Int))=true∧t.isEmpty=true∧decide ((1:Int)≤(ks.length:Int))=true∧decide ((ks.length:Int)≤(16:Int))=true∧((ks.length:Int)==c)=true):=by
 have h:U.gK c (.mk n a ks t)=((n==bM)&&((a.length:Int)==(0:Int))&&t.isEmpty&&decide ((1:Int)≤(ks.length:Int))&&decide ((ks.length:Int)≤(16:Int))&&((ks.length:Int)==c)):=by rw[Kr,Kt,show decide ((1:Int)≤(ks.length:Int))=decide (1≤ks.length) by rw[decide_eq_decide];omega,show decide ((ks.length:Int)≤(16:Int))=decide (ks.length≤16) by rw[decide_eq_decide];omega];rfl
 rw[h];unfold bM;cases n==([109,116,114]:List UInt8)<;>cases((a.length:Int)==(0:Int))<;>cases t.isEmpty<;>cases decide ((1:Int)≤(ks.length:Int))<;>cases decide ((ks.length:Int)≤(16:Int))<;>cases((ks.length:Int)==c)<;>simp
theorem uV.stores{B n:Nat}{w8:World}{ns:List Nd}{m:Nd}{sl x0 x1 x2 x3:Value}{g8 cap go:Nat}(h:uV B w8 ns m sl (.slice (some ⟨g8,0,none⟩) (n+1) cap))(hn:ns.length=n)(hb:O w8 go 31 #[x0,x1,x2,x3])(hgo:go<B):
  (∀W,W=(mG w8 g8 (n*4) (.int .i64 m.kind) (.string ⟨m.text.toArray⟩) (.int .i64 m.ai) sl).setCell ⟨go,3,none⟩ (.slice (some ⟨g8,0,none⟩) (n+1) cap)→
   O W go 31 #[x0,x1,x2,.slice (some ⟨g8,0,none⟩) (n+1) cap]∧dU B W (ns++[m]) (.slice (some ⟨g8,0,none⟩) (n+1) cap)∧Touch (fun i=>i=g8∨i=go) w8 W)∧
  (∀W,W=mG (w8.setCell ⟨go,3,none⟩ (.slice (some ⟨g8,0,none⟩) (n+1) cap)) g8 (n*4) (.int .i64 m.kind) (.string ⟨m.text.toArray⟩) (.int .i64 m.ai) sl→
   O W go 31 #[x0,x1,x2,.slice (some ⟨g8,0,none⟩) (n+1) cap]∧dU B W (ns++[m]) (.slice (some ⟨g8,0,none⟩) (n+1) cap)∧Touch (fun i=>i=g8∨i=go) w8 W):=by
 obtain⟨g',cap',hv,_,gJ,_⟩:=h.cells hn;cases hv;constructor
 ·rintro W rfl
  have hp:=kF w8 g8 (n*4) (.int .i64 m.kind) (.string ⟨m.text.toArray⟩) (.int .i64 m.ai) sl;exact⟨(hp.blk hb fun h=>by omega).put 3 _,(h.put hn).mv (wL _ go 3 _) fun k hk _=>by omega,(hp.mono fun i hi=>.inl hi).trans ((wL _ go 3 _).mono fun i hi=>.inr hi)⟩
 ·rintro W rfl
  have hs:=wL w8 go 3 (.slice (some ⟨g8,0,none⟩) (n+1) cap);exact⟨(kF _ g8 (n*4) _ _ _ _).blk (hb.put 3 _) fun h=>by omega,(h.mv hs fun k hk _=>by omega).put hn,(hs.mono fun i hi=>.inr hi).trans ((kF _ g8 (n*4) _ _ _ _).mono fun i hi=>.inl hi)⟩
theorem LY{B n k:Nat}{w:World}{v:Value}{cs:List Value}(h:w.ownsRow B 31 4 v n cs){T:TypeId}{ds:Array Value}(hb:O w k T ds)(hT:T≠31):v.ownBlock≠some k:=by
 intro h4
 rcases h.2 with⟨h5,_⟩|⟨g',cap,cur,h5,_,h6,_⟩
 ·rw[h5]at h4;cases h4
 ·rw[h5]at h4
  cases h4;unfold O at hb;rw[hb]at h6;cases h6;exact hT rfl
theorem dU.apart{B k:Nat}{w:World}{ns:List Nd}{v:Value}(h:dU B w ns v){T:TypeId}{ds:Array Value}(hb:O w k T ds)(hT:T≠31):v.ownBlock≠some k:=by
 obtain⟨_,cs,h1,_⟩:=h;exact LY h1 hb hT
theorem uV.apart{B k:Nat}{w:World}{ns:List Nd}{m:Nd}{sl v:Value}(h:uV B w ns m sl v){T:TypeId}{ds:Array Value}(hb:O w k T ds)(hT:T≠31):v.ownBlock≠some k:=by
 obtain⟨_,_,cs,h1,_⟩:=h;exact LY h1 hb hT
def X4(W0:World)(g:Nat)(e:E):Prop:=∀(s:Rd) (va vk:Value) (w:World) (go B:Nat) (k c:Int) (tx:List UInt8) (ns:List Nd) (A:Option Addr) (n cap:Nat),s.2<0→s.1+U.count e≤100000→U.proper e=true→bN W0 e va vk→oJ W0 g s w→
 O w go 31 #[.int .i64 k,.string ⟨tx.toArray⟩,.int .i64 c,.slice A n cap]→ns.length=n→dU B w ns (.slice A n cap)→go<B→g<B→W0.heap.size≤go→go≠g→n+e.kids.length≤200000→
 Calls Tryz.prog 178 #[.pointer (some ⟨g,0,none⟩),ev e va vk,.pointer (some ⟨go,0,none⟩)] w fun x w'=>x=.returned (.tuple #[])∧∃A' n' cap',
  O w' go 31 #[.int .i64 k,.string ⟨tx.toArray⟩,.int .i64 c,.slice A' n' cap']∧(ns++(bZ aJ e.kids (iQ (U.gK c e) s)).1).length=n'∧dU B w' (ns++(bZ aJ e.kids (iQ (U.gK c e) s)).1) (.slice A' n' cap')∧
  oJ W0 g (bZ aJ e.kids (iQ (U.gK c e) s)).2 w'∧Touch (fun i=>i=g∨i=go∨B≤i) w w'
theorem Us(W0:World)(g:Nat)(e:E)(ih:∀x∈e.kids,JH W0 g x):X4 W0 g e:=by
 intro s va vk w go B k c tx ns0 A0 n0 cap0 hs0 hcnt hpr hr hrd aec aed aa0 ag0 hgB ajo ag1 hn0;have jw:=I ih;have jP:=I hrd;have qi:=I (U.xP e hpr);have hg0:=hrd.lt;have hW0:=hrd.le;have yc:=I (show dL W0 e.kids vk from hr.2.1);have uy:=I (show(s.1+1)+U.aj e.kids≤100000 by rw[U.aI]at hcnt;omega);have hl2:e.kids.length≤100000:=by have:=U.gL e.kids;have:=uy.J;omega
 have hsb:s.1≤1000000:=by omega
 have aee:=I aec;have ag2:=I aed;have ag3:=I aa0;have hBw:=aa0.1;obtain⟨A,ca,hva⟩:=hr.1.slice;obtain⟨Bk,cb,hvk⟩:=hr.2.1.slice;clear ih hrd hpr hcnt hr hs0 aec aed aa0;obtain⟨n,ats,ks,t⟩:=e;replace hva:va=.slice A ats.length ca:=hva;replace hvk:vk=.slice Bk ks.length cb:=hvk;subst hva hvk;have iV:=X3 n ats ks t c;unfold ev;simp only[E.name,E.text,E.kids]at*;generalize U.gK c (.mk n ats ks t)=ok at iV⊢;obtain⟨s1,hs1⟩:∃s1,iQ ok s=s1:=⟨_,rfl⟩;rw[hs1];have pq:=I hs1;have Fp:=I (show s1.1+U.aj ks≤100000 by rw[←hs1];exact uy.J);have Bv:=I (show(bZ aJ ks s1)=([]++(bZ aJ (ks.drop 0) s1).1,(bZ aJ (ks.drop 0) s1).2) by rw[List.drop_zero,List.nil_append]);clear hs1 uy;generalize hRF:bZ aJ ks s1=RF at Bv⊢;clear hRF;obtain⟨_,_,g2,_,_⟩:=O.four aee.J
 rcases iV with⟨hok,c1⟩|⟨hok,c1,c2⟩|⟨hok,c1,c2,c3⟩|⟨hok,c1,c2,c3,c4⟩|⟨hok,c1,c2,c3,c4,c5⟩|⟨hok,c1,c2,c3,c4,c5,c6⟩|⟨hok,c1,c2,c3,c4,c5,c6⟩
 all_goals
  subst hok;go_enter Tryz.func178,Tryz.ntmps178;go_wp2_with fail
  have hr0:=jP.J.fresh ((M (fun _=>False) w).alloc (.cells #[.string ⟨n.toArray⟩,.slice A ats.length ca,.slice Bk ks.length cb,.string ⟨t.toArray⟩] 45));have O8:=O.new w 45 #[.string ⟨n.toArray⟩,.slice A ats.length ca,.slice Bk ks.length cb,.string ⟨t.toArray⟩];have hf0:=(M (fun i=>i=g∨i=go∨B≤i) w).alloc (.cells #[.string ⟨n.toArray⟩,.slice A ats.length ca,.slice Bk ks.length cb,.string ⟨t.toArray⟩] 45);have EK:=(M (fun _=>False) w).alloc (.cells #[.string ⟨n.toArray⟩,.slice A ats.length ca,.slice Bk ks.length cb,.string ⟨t.toArray⟩] 45);refine(AO s _ g _ hr0.blk hsb).mono ?_;rintro _ w2 ⟨rfl,ht2,hb2⟩;rw[pq.J]at hb2;have HT2:=I (show Touch (fun i=>i=g∨i=go∨B≤i) w w2 from hf0.trans (ht2.mono fun i hi=>.inl hi));have Fq:=I (hr0.turn ht2 hb2);have uE:=I (ht2.blk O8 fun h=>by omega);have ag4:=I (ht2.blk (EK.blk aee.J fun h=>h) fun h=>by omega);have HG2:=I (show dU B w2 (ns0++[]) (.slice A0 n0 cap0) by rw[List.append_nil];exact(ag3.J.fresh EK).mv ht2 fun k hk _=>by omega);clear hf0 hr0 O8 EK ht2 hb2 c1 jP hsb pq g2;go_wp2
  go_loopw [7] (fun i wr=>∃(j:Nat) (Ae:Option Addr) (ce ne:Nat) (ns:List Nd) (sj:Rd),i=.int .i64 j∧j≤ks.length∧ne≤n0+j∧Hd ((ns0++ns).length=ne)∧Hd (O wr w.heap.size 45 #[.string ⟨n.toArray⟩,.slice A ats.length ca,.slice Bk ks.length cb,.string ⟨t.toArray⟩])∧
   Hd (O wr go 31 #[.int .i64 k,.string ⟨tx.toArray⟩,.int .i64 c,.slice Ae ne ce])∧Hd (dU B wr (ns0++ns) (.slice Ae ne ce))∧Hd (Touch (fun i=>i=g∨i=go∨B≤i) w wr)∧Hd (oJ W0 g sj wr)∧Hd (sj.1+U.aj (ks.drop j)≤100000)∧
   Hd (RF=(ns++(bZ aJ (ks.drop j) sj).1,(bZ aJ (ks.drop j) sj).2))) (fun i _=>ks.length-(intOf i).toNat)
  case atStart=>exact⟨0,A0,cap0,n0,[],s1,rfl,Nat.zero_le _,Nat.le_refl _,I (by rw[List.append_nil];exact ag2.J),uE,ag4,HG2,HT2,Fq,Fp,Bv⟩
  case round=>
   obtain⟨j,Ae,ce,ne,ns,⟨sa,sc⟩,rfl,hj,hne0,kr,jO,uz,HG,HT,jP,yt,ja⟩:=hrel;rename_i wr _;have hsz:=HT.J.size;have hgs:=jP.J.lt;obtain⟨_,_,e2,_,_,_,_,_,hle⟩:=O.four jO.J;obtain⟨_,r1,_,_,_⟩:=O.two (x0:=.int .i64 (sa:Int)) (x1:=.int .i64 sc) jP.J.blk
   by_cases c1:j<ks.length∧sc<0
   ·have d1:decide ((j:Int)<(ks.length:Int))=true:=dT (by omega)
    have dG:decide (j<ks.length)=true:=dT c1.1;have d1':(j:Int)<(ks.length:Int):=by omega
    have d2:decide (sc<(0:Int))=true:=dT c1.2;have vJ:=I c1.2;obtain⟨hjl,_⟩:=c1;obtain⟨_,_,_,u3,_,_,_,_,hlo⟩:=O.four uz.J;obtain⟨gx,o,xa,xk,rfl,eB⟩:=yc.J.ru j hjl;have qQ:=I eB;have jZ:=I (List.getElem_mem hjl);have HC:=I (jw.J _ jZ.J);have Dy:=I (qi.J _ jZ.J);have wU:=I (U.xQ ks j hjl);have HDR:=I (List.drop_eq_getElem_cons hjl);have Fv:=I (U.Ib aJ ks[j] (sa,sc));obtain⟨hgx,x0,x1,x2,x3,Pd⟩:=eB.fresh jP.J.fr;have wV:gx≠g:=by have:=eB.1;omega
    clear eB jZ Pd hgx;generalize ks[j]=x at*;go_wp2_with fail
    have k0:=cT (S:=fun k=>k=g) e2 (by omega);have k3:=cT (S:=fun k=>k=g) u3 ag1;have y0:=cT (S:=fun k=>k=g) x0 wV;have y1:=cT (S:=fun k=>k=g) x1 wV;have y2:=cT (S:=fun k=>k=g) x2 wV;have y3:=cT (S:=fun k=>k=g) x3 wV;clear e2 u3 r1 x0 x1 x2 x3 d1 dG d2
    refine fu (fun W=>∃x:Turned (fun k=>k=g) wr,W=x.W) (bq.of [(0,true),(1,true),(2,true),(3,true),(4,true),(5,true),(6,true),(7,true),(8,true),(9,true),(11,true)] (.fork 10 (.lone 12 .nil) 12 (.lone 10 .nil))) [0,1,2,3,4,5,6,7,8,9,10,11,12] 13 (Array.replicate 13 true++Array.replicate 6 false) (fun _=>True)
     (bq.of [(14,true),(16,true),(17,true)] (.fork 15 (.lone 18 .nil) 18 (.lone 15 .nil))) [14,15,16,17,18] (Array.replicate 19 true) (by kernel_rfl) (fun _ _ d _ _ h=>by cases d<;>exact h) (by kernel_rfl) ⟨⟨_,(M _ _).drewN 1⟩,rfl⟩ ?_
    unfold bq.of
    repeat(refine aS rfl (fun K hK=>?_);go_simp;refine hK _ ?_;clear hK K;first|done|unfold bq.of)
    clear k0 k3 y0 y1 y2 y3;refine fB ?_ ?_
    focus
     refine ax rfl (fun K hK=>?_);go_wp2_with fail
     refine(HC.J aJ (sa,sc) xa xk _ (by decide) vJ.J (by have:=yt.J;have:=wU.J;omega) Dy.J qQ.J.2.2.2.2.2 (jP.J.fresh ((M _ _).drewN 1))).mono ?_;rintro _ w6 ⟨v6,rfl,⟨sl,rfl,jl,oV,aQ⟩,tH⟩;have dB:=I (show Touch (fun k=>k=g) wr w6 from((M _ wr).drewN 1).trans jl);have fM:=I (show aZ (fun k=>k<wr.heap.size) w6 fun W=>aO W (gY aJ x (sa,sc)).1.kids sl from aQ);have xD:=I oV;have Dl:=I tH;obtain⟨Ak,ck,rfl⟩:=aQ.now.slice;clear jl aQ oV tH;go_wp2
     refine hK _ _ ⟨⟨_,dB.J⟩,rfl⟩ ?_;clear hK K;refine ax rfl (fun K hK=>?_);go_wp2
     refine hK _ _ ⟨⟨_,dB.J.alloc _⟩,rfl⟩ ?_;clear hK K;have dX:=I (O.new w6 31 Y);have gq:=I (dB.J.alloc (.cells Y 31));have Ig:=I (Dl.J.fresh ((M _ w6).alloc (.cells Y 31)));have mI:=I (fM.J.fresh ((M _ w6).alloc (.cells Y 31)));generalize (w6.alloc (.cells Y 31))=wA at dX gq Ig mI⊢;obtain⟨bz,hbz⟩:∃b,b=w6.heap.size:=⟨_,rfl⟩;rw[←hbz]at dX⊢;clear hbz dB fM Dl
    rotate_left
    focus
     refine ax rfl (fun K hK=>?_);go_wp2
     refine hK _ _ ⟨⟨_,((M _ wr).drewN 1).alloc _⟩,rfl⟩ ?_;clear hK K;have zP:=I (show O ((wr.drewN 1).alloc (.cells Y 31)) wr.heap.size 31 Y from O.new (wr.drewN 1) 31 Y);have bT:=I (show ag wr ((wr.drewN 1).alloc (.cells Y 31))from((M _ wr).drewN 1).alloc _);have dB:=I (show Touch (fun k=>k=g) wr ((wr.drewN 1).alloc (.cells Y 31))from((M _ wr).drewN 1).alloc _);generalize ((wr.drewN 1).alloc (.cells Y 31))=w6 at zP bT dB⊢;obtain⟨bz,hbz⟩:∃b,b=wr.heap.size:=⟨_,rfl⟩;have yf:=I (show wr.heap.size≠g by omega);refine ax rfl (fun K hK=>?_);go_wp2_with fail
     refine(HC.J aJ (sa,sc) xa xk _ (by decide) vJ.J (by have:=yt.J;have:=wU.J;omega) Dy.J qQ.J.2.2.2.2.2 (jP.J.fresh bT.J)).mono ?_;rintro _ wA ⟨v6,rfl,⟨sl,rfl,jl,oV,aQ⟩,tH⟩;have gq:=I (show Touch (fun k=>k=g) wr wA from dB.J.trans jl);have mI:=I (show aZ (fun k=>k<wr.heap.size) wA fun W=>aO W (gY aJ x (sa,sc)).1.kids sl from aQ.mono fun i _ hi=>Nat.lt_of_lt_of_le hi bT.J.size);have xD:=I oV;have Ig:=I tH;obtain⟨Ak,ck,rfl⟩:=aQ.now.slice;have dX:=I (jl.blk zP.J yf.J);clear jl aQ oV tH;go_wp2
     refine hK _ _ ⟨⟨_,gq.J⟩,rfl⟩ ?_;clear hK K;rw[←hbz]at dX⊢;clear hbz dB zP bT yf
    all_goals
     have vg:=I (show RF=((ns++[(gY aJ x (sa,sc)).1])++(bZ aJ (ks.drop (j+1)) (gY aJ x (sa,sc)).2).1,(bZ aJ (ks.drop (j+1)) (gY aJ x (sa,sc)).2).2) by
      rw[ja.J,HDR.J,bZ,if_pos vJ.J,List.append_assoc];rfl)
     have Ic:=I (show(gY aJ x (sa,sc)).2.1+U.aj (ks.drop (j+1))≤100000 by have:=yt.J;have:=wU.J;have:=Fv.J;omega);clear ja HC HDR Fv yt wU;generalize gY aJ x (sa,sc)=R at*;obtain⟨m,sb⟩:=R;simp only at*;have nu:=I (HG.J.mv gq.J fun k hk _=>by omega);have HOW:=I HG.J.jE;have Pe:=I (gq.J.blk jO.J fun h=>by omega);have Pf:=I (gq.J.blk uz.J fun h=>by omega);have bV:=I HG.J.1;have HAP:=I (HG.J.apart jO.J (by decide));refine iY rfl (fun K hK=>?_)
     go_wp2_with (at_builtin;go_loud (refine tF rfl (.tmp 58) (.tmp 67) rfl nu.J kr.J (by simp[Act.eval]) m dX.J (by simp[Act.eval]) wr.heap.size bV.J (fun k hk=>(HOW.J k hk).2) xD.J mI.J (by omega) ?_);intro A8 c8 w8 gJ bW _;refine iC.mk ?_)
     obtain⟨g8,Kc,BK,FH,Ke,Kg,a0,a1,a2,a3,f0,f1,f2,f3⟩:=gJ.cells kr.J;cases BK;have lq:=I (bW.blk Pe.J fun h=>HAP.J h);have zW:=bW.blk Pf.J fun h=>by have:=(HOW.J _ h).1;omega
     have Ie:=I (Ig.J.move bW (fun h=>by have:=(HOW.J _ h).1;omega) fun k hk=>by have:=(HOW.J _ hk).1;omega);have oC:=I (show Touch (fun i=>i=g∨i=go∨B≤i) w w8 from(HT.J.trans (gq.J.mono fun i hi=>.inl hi)).trans (bW.mono fun i hi=>.inr (.inr (HOW.J i hi).1)));have HST:=I (gJ.stores kr.J zW ag0);obtain⟨_,_,_,q3,_,_,_,z3,wo⟩:=O.four zW;have hne:go≠g8:=by omega
     have hne':g8≠go:=by omega
     have hr1:(ne:Int)<(ne:Int)+1:=by omega
     have aa1:=I (gJ.apart lq.J (by decide));clear bW zW gJ;refine iC.go ?_;go_wp2
     refine hK _ _ trivial ?_;clear hK K
     repeat(refine aS rfl (fun K hK=>?_);go_simp;refine hK _ ?_;clear hK K)
     refine fB ?_ ?_
     focus
      refine ax rfl (fun K hK=>?_);go_wp2
      refine hK _ _ trivial ?_;clear hK K;refine ax rfl (fun K hK=>?_);go_wp2
      refine hK _ _ trivial ?_;clear hK K;have bU:=I (HST.J.1 _ rfl);unfold mG at bU;clear a0 a1 a2 a3 f0 f1 f2 f3 q3 z3 HST;generalize World.setCell _ ⟨go,3,none⟩ _=W9 at bU⊢
     rotate_left
     focus
      refine ax rfl (fun K hK=>?_);go_wp2
      refine hK _ _ trivial ?_;clear hK K;refine ax rfl (fun K hK=>?_);go_wp2
      refine hK _ _ trivial ?_;clear hK K;have bU:=I (HST.J.2 _ rfl);unfold mG at bU;clear a0 a1 a2 a3 f0 f1 f2 f3 q3 z3 HST;generalize World.setCell _ ⟨g8,ne*4+3,none⟩ _=W9 at bU⊢
     all_goals
      refine jJ ?_;go_wp2_with fail
      obtain⟨qG,fO,eY⟩:=bU.J
      exact⟨⟨j+1,some ⟨g8,0,none⟩,c8,ne+1,ns++[m],sb,by simp,by omega,by omega,I (by rw[←List.append_assoc,List.length_append,kr.J];rfl),I (eY.blk lq.J fun h=>h.elim (fun h=>aa1.J (by rw[h];rfl)) fun h=>by omega),I qG,I (by rw[←List.append_assoc];exact fO),I (oC.J.trans (eY.mono fun i hi=>hi.elim (fun h=>.inr (.inr (by omega))) fun h=>.inr (.inl h))),
       I (Ie.J.move eY (by omega) fun i hi=>by omega),Ic,vg⟩,by simp[intOf];omega⟩
   ·have hend:bZ aJ (ks.drop j) (sa,sc)=([],(sa,sc)):=by
     by_cases c2:j<ks.length
     ·exact U.wT _ _ _ fun h=>c1 ⟨c2,h⟩
     ·rw[List.drop_of_length_le (by omega),bZ]
    have aG:=I (show RF=(ns,(sa,sc)) by rw[ja.J,hend,List.append_nil]);clear hend ja;clear hl2
    have wW:(decide ((j:Int)<(ks.length:Int))=false∧decide (j<ks.length)=false)∨((decide ((j:Int)<(ks.length:Int))=true∧decide (j<ks.length)=true)∧decide (sc<(0:Int))=false):=by
     by_cases c2:j<ks.length
     ·exact .inr ⟨⟨dT (by omega),dT c2⟩,dF fun h=>c1 ⟨c2,h⟩⟩
     ·exact .inl ⟨dF (by omega),dF c2⟩
    rcases wW with⟨d1,dG⟩|⟨⟨d1,dG⟩,d2⟩
    all_goals
     go_wp2
     refine bodyPost_end (v:=.tuple #[]) (results_none rfl _ _ _) rfl ?_;refine⟨rfl,Ae,ne,ce,uz.J,?_,?_,?_,HT.J⟩
     ·rw[aG.J]
      show ns0.length+ns.length=ne;rw[←List.length_append];exact kr.J
     ·rw[aG.J];exact HG.J
     ·rw[aG.J];exact jP.J
end
end Go.Proofs.YtnbeemkfmlfgfaaGreatDoor
