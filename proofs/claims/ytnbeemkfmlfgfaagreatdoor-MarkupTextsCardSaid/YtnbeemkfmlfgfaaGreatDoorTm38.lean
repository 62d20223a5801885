/- Part 38 of 48 of a proof. No condition. -/
import Derived.Test.YtnbeemkfmlfgfaaGreatDoorTm37
set_option maxRecDepth 100000
set_option maxHeartbeats 2000000
namespace Go.Proofs.YtnbeemkfmlfgfaaGreatDoor
section
open Go.RowKit
open Xp (aX Q aR dD aM bA iB kG dz kY bB j4 mU bR mD kS gy iO bH uB iA dP OQ)
open U (E aA)
attribute [local go_sem] jg stillUpon
theorem acz(aB:aA)(q:Q):(iB aB q).2.l.length≤q.l.length:=by
 by_cases h:aB.length=8
 ·rw[Xp.EZ aB h];exact Nat.le_refl _
 ·have h1:iB aB q=Xp.xN (kY q) ((if aB.any (fun x=>x.1==kY q)then dD (dz q)else dz q).l.length+2) (if aB.any (fun x=>x.1==kY q)then dD (dz q)else dz q):=by
   unfold iB Xp.xN;rw[if_neg h]
  rw[h1];have h2:=(LH (kY q) ((if aB.any (fun x=>x.1==kY q)then dD (dz q)else dz q).l.length+2) (if aB.any (fun x=>x.1==kY q)then dD (dz q)else dz q)).len;have h3:(if aB.any (fun x=>x.1==kY q)then dD (dz q)else dz q).l.length=(dz q).l.length:=by split<;>rfl
  have h4:=(OW q).len;omega
theorem OZ:∀(f:Nat) (aB:aA) (z:Bool) (q:Q),(kG f aB z q).2.l.length≤q.l.length
 |0,_,_,_=>Nat.le_refl _
 |f+1,aB,z,q=>by
  rw[kG];split
  ·have h1:=OZ f (aB++[(iB aB q).1]) (!(j4 (iB aB q).2).isEmpty) (bB (iB aB q).2)
   have h2:=acz aB q;have h3:=(sZ (iB aB q).2).len;omega
  ·exact Nat.le_refl _
theorem Ry{cO:Q→E×Q}(ho:Gx cO):∀(f:Nat) (ks:List E) (q:Q),(mD cO f ks q).2.l.length≤q.l.length
 |0,_,_=>Nat.le_refl _
 |f+1,ks,q=>by
  rw[mD];split
  ·exact Nat.le_refl _
  ·split
   ·exact(qd 60 q).len
   ·exact Nat.le_trans (Ry ho f _ _) (XG ho q)
theorem H9(s:List UInt8)(q:Q):(bA s q).l.length≤q.l.length:=(ym s q).len
theorem acA{cO:Q→E×Q}(ho:Gx cO)(q:Q):(bR cO q).2.l.length≤q.l.length:=by
 have hs:=(sZ q).len;unfold bR;split
 ·have h1:(if bH (j4 q)then bB q else dD (bB q)).l.length=(bB q).l.length:=by split<;>rfl
  have h2:=(H8 60 ((if bH (j4 q)then bB q else dD (bB q)).l.length+2) (j4 q) (if bH (j4 q)then bB q else dD (bB q))).len;refine Nat.le_trans (H9 _ _) ?_;omega
 ·refine Nat.le_trans (qd 47 _).len ?_
  exact Nat.le_trans (Ry ho _ _ _) hs
theorem Rz{cO:Q→E×Q}(ho:Gx cO)(q:Q):(mU (bR cO) q).2.l.length≤q.l.length:=by
 have h1:=(OW q).len;have h2:=(sZ (dz q)).len;have h3:=OZ 10 [] (!(j4 (dz q)).isEmpty) (bB (dz q));unfold mU;simp only
 split
 ·refine Nat.le_trans (H9 _ _) ?_
  omega
 ·refine Nat.le_trans (qd 62 _).len (Nat.le_trans (sZ _).len (Nat.le_trans (H9 _ _) (Nat.le_trans (acA ho _) (Nat.le_trans (qd 62 _).len ?_))))
  omega
theorem RA:Gx fun q=>(uB,q):=fun _=>⟨fun h=>h,Nat.le_refl _⟩
theorem GA:∀n,Gx (gy n)
 |0=>fun q=>⟨fun h=>(Xp.rR h 0).2,by rw[gy];exact Rz RA _⟩
 |n+1=>fun q=>⟨fun h=>(Xp.rR h (n+1)).2,by rw[gy];exact Rz (GA n) _⟩
theorem LK(S:ByteArray)(g:Nat)(cO:Q→E×Q)(d:Int)(q:Q)(hS:S.size≤1000000000000)(hd1:-1000≤d)(hd2:d≤1000)(ho:Gx cO)(hel:q.b=false→MC S g cO (d+1)):ME S g cO d q:=by
 by_cases h:aR (bB q)=60
 ·exact Uk S g cO d q hS hd1 hd2 ho hel h
 ·exact Uj S g cO d q (by omega) h
theorem LM(S:ByteArray)(g:Nat)(hS:S.size≤1000000000000):∀n:Nat,n≤64→MC S g (gy n) (65-(n:Int))
 |0,_=>by
  have h:=Ju S g (fun q=>(uB,q)) 65 true (by omega) (by decide) fun q hq=>LK S g _ 65 q hS (by decide) (by decide) RA fun h=>by rw[hq rfl]at h;cases h
  rw[show gy 0=fun q=>mU (bR fun q=>(uB,q)) (kS true q)from funext fun q=>by rw[gy]];exact h
 |n+1,hn=>by
  have h:=Ju S g (gy n) (64-(n:Int)) false (by omega) (dF (by omega)) fun q _=>LK S g _ (64-(n:Int)) q hS (by omega) (by omega) (GA n) fun _=>by
   rw[show 64-(n:Int)+1=65-(n:Int) by omega];exact LM S g hS n (by omega)
  rw[show gy (n+1)=fun q=>mU (bR (gy n)) (kS false q)from funext fun q=>by rw[gy],show(65-((n+1:Nat):Int))=64-(n:Int) by omega];exact h
theorem E8(S:ByteArray)(w:World)(hS:S.size≤1000000000000):Calls Tryz.prog 40 #[.string S] w fun e w'=>∃va vk,e=.returned (.tuple #[ev (dP S.data.toList).1 va vk,.int .i64 (dP S.data.toList).2.1,.int .i64 (dP S.data.toList).2.2])∧Made w w' fun W=>bN W (dP S.data.toList).1 va vk:=by
 have hS2:S.size≤1099511627776:=by omega
 obtain⟨T,hT⟩:∃T,T=S.data.toList:=⟨_,rfl⟩;have hTl:T.length=S.size:=by rw[hT];simp
 obtain⟨R,hR⟩:∃R,R=dP T:=⟨_,rfl⟩;rw[←hT,←hR];obtain⟨q0,hq0⟩:∃q0:Q,q0=⟨T,0,false⟩:=⟨_,rfl⟩;obtain⟨q2,hq2⟩:∃q2,q2=aM 60 (bB q0):=⟨_,rfl⟩;obtain⟨er,her⟩:∃er,er=gy 64 q2:=⟨_,rfl⟩;have xm:=I (show R=if(bB er.2).b=true∨(bB er.2).l≠[]then(uB,((T.length-(bB er.2).l.length:Nat):Int),3)else(er.1,0,0) by rw[hR,←Xp.Xo,her,hq2,hq0];rfl)
 have pg:=I (fun(g:Nat) (W:World) (h:Xq S g q2 W)=>show Calls Tryz.prog 68 #[.pointer (some ⟨g,0,none⟩),.int .i64 1] W fun e w'=>∃va vk,e=.returned (ev er.1 va vk)∧Touch (fun b=>b=g) W w'∧aZ (fun k=>k<W.heap.size) w' (fun W=>bN W er.1 va vk)∧Xq S g er.2 w' by
  rw[her];exact LM S g hS 64 (Nat.le_refl _) q2 W h)
 have HX0:=I (show Xq S (w.heap.size+1) q0 ((w.alloc (.cells Z 45)).alloc (.cells #[.string S,.int .i64 0,.int .i64 0,.bool false] 127)) by
  rw[hq0];refine⟨?_,by rw[hT];exact aX.refl _⟩;have h:=O.new2 w (.cells Z 45) 127 #[.string S,.int .i64 0,.int .i64 0,.bool false];rw[show(S.size-(⟨T,0,false⟩:Q).l.length:Nat)=0 by show S.size-T.length=0;omega];exact h)
 have dh:=I (((M (fun _=>False) w).alloc (.cells Z 45)).alloc (.cells #[.string S,.int .i64 0,.int .i64 0,.bool false] 127));have gm:=I ((O.new w 45 Z).alloc (.cells #[.string S,.int .i64 0,.int .i64 0,.bool false] 127));have LG:=I (show aM 60 (bB q0)=q2 from hq2.symm);have gX:=I hTl;clear hT hR hq0 hq2 her hTl;go_enter Tryz.func40,Tryz.ntmps40;go_wp2_with fail
 generalize ((w.alloc (.cells Z 45)).alloc (.cells #[.string S,.int .i64 0,.int .i64 0,.bool false] 127))=w0 at HX0 dh gm⊢;generalize hg:w.heap.size+1=g at HX0⊢;have HG:=I hg;have hgw:w.heap.size<g:=by omega
 clear hg;refine(pX S g q0 _ hS2 HX0.J).mono ?_;rintro _ w1 ⟨rfl,ht,hx⟩;have bS:=I hx;have HT1:=I (dh.J.trans' ht fun k hk=>.inr (by omega));have HR1:=I (ht.blk gm.J fun h=>by omega);clear ht hx HX0 dh gm;go_wp2_with fail
 refine(oI S g 60 (bB q0) _ hS2 (by decide) bS.J).mono ?_;rintro _ w2 ⟨rfl,ht,hx⟩;rw[LG.J]at hx;have eT:=I hx;have HT2:=I (HT1.J.trans' ht fun k hk=>.inr (by omega));have HR2:=I (ht.blk HR1.J fun h=>by omega);clear ht hx bS HT1 HR1 LG;go_wp2_with fail
 obtain⟨⟨en,dZ,iw,jA⟩,q6⟩:=er;simp only at xm pg;refine(pg.J g _ eT.J).mono ?_;rintro _ w3 ⟨ea,ek,rfl,ht,hst,hx⟩;obtain⟨Aa,ca,oF⟩:=hst.now.1.slice;obtain⟨Ab,cb,eB⟩:=hst.now.2.1.slice;simp only[E.kids,E.attrs]at oF eB;subst oF eB;unfold ev;simp only[E.name,E.text];have hg2:w.heap.size<w2.heap.size:=HR2.J.lt;have iP:=I hx;have HT3:=I (HT2.J.trans' ht fun k hk=>.inr (by omega));have HR3:=I (ht.blk HR2.J fun h=>by omega);have HST:=I (show aZ (fun k=>k≤g) w3 (fun W=>bN W (.mk en dZ iw jA) (.slice Aa dZ.length ca) (.slice Ab iw.length cb))from hst.mono fun i _ hi=>by have:=eT.J.lt;omega);clear ht hst hx eT HT2 HR2 pg hg2;have hgl:=iP.J.lt;obtain⟨E0,hE0⟩:∃b,b=w3.heap.size:=⟨_,rfl⟩;have nU:=I hE0;have hE1:g<E0:=by omega
 clear hE0;go_wp2_with fail
 rw[←nU.J];have gD:=I (iP.J.fresh ((M _ w3).alloc (.cells #[.string ⟨en.toArray⟩,.slice Aa dZ.length ca,.slice Ab iw.length cb,.string ⟨jA.toArray⟩] 45)));have iU:=I (HT3.J.alloc (.cells #[.string ⟨en.toArray⟩,.slice Aa dZ.length ca,.slice Ab iw.length cb,.string ⟨jA.toArray⟩] 45));have HR4:=I (HR3.J.alloc (.cells #[.string ⟨en.toArray⟩,.slice Aa dZ.length ca,.slice Ab iw.length cb,.string ⟨jA.toArray⟩] 45));have iI:=I (O.new w3 45 #[.string ⟨en.toArray⟩,.slice Aa dZ.length ca,.slice Ab iw.length cb,.string ⟨jA.toArray⟩]);have HS4:=I (HST.J.fresh ((M _ w3).alloc (.cells #[.string ⟨en.toArray⟩,.slice Aa dZ.length ca,.slice Ab iw.length cb,.string ⟨jA.toArray⟩] 45)));rw[←nU.J]at iI;generalize (w3.alloc (.cells #[.string ⟨en.toArray⟩,.slice Aa dZ.length ca,.slice Ab iw.length cb,.string ⟨jA.toArray⟩] 45))=w4 at gD iU HR4 iI HS4⊢;clear iP HT3 HR3 HST nU hgl;refine(pX S g q6 _ hS2 gD.J).mono ?_;rintro _ w5 ⟨rfl,ht,hx⟩;have dI:=I hx;have eu:=I (iU.J.trans' ht fun k hk=>.inr (by omega));have qj:=I (ht.blk HR4.J fun h=>by omega);have bV:=I (ht.blk iI.J fun h=>by omega);have HS5:=I (show aZ (fun k=>k≤g) w5 (fun W=>bN W (.mk en dZ iw jA) (.slice Aa dZ.length ca) (.slice Ab iw.length cb))from HS4.J.step ht (fun i _ hi=>by have:=HG.J;omega) fun i _ hi=>by omega);clear ht hx gD iU HR4 iI HS4;generalize bB q6=q7 at*;have uw:=I dI.J.len;obtain⟨r0,r1,r2,r3,x0,x1,x2,x3,hlr⟩:=O.four qj.J;obtain⟨p0,p1,p2,p3,_,_,_,_,hg⟩:=O.four dI.J.blk;obtain⟨l7,k7,b7⟩:=q7;simp only at p0 p1 p2 p3 xm uw;clear p0 p2
 have iV:(b7=true∧R=(uB,((T.length-l7.length:Nat):Int),3))∨(b7=false∧S.size-l7.length<S.size∧R=(uB,((T.length-l7.length:Nat):Int),3))∨(b7=false∧l7.length=0∧R=(.mk en dZ iw jA,0,0)):=by
  cases b7 with
  |true=>exact .inl ⟨rfl,by rw[xm.J,if_pos (.inl rfl)]⟩
  |false=>
   cases l7 with
   |nil=>exact .inr (.inr ⟨rfl,rfl,by rw[xm.J,if_neg (by rintro(h|h);cases h;exact h rfl)]⟩)
   |cons x l=>exact .inr (.inl ⟨rfl,by have:=uw.J;rw[List.length_cons]at*;omega,by rw[xm.J,if_pos (.inr (by simp))]⟩)
 have hk:((T.length-l7.length:Nat):Int)=((S.size-l7.length:Nat):Int):=by rw[gX.J]
 rw[hk]at iV;clear xm hk uw
 rcases iV with⟨hb,hr⟩|⟨hb,hl,hr⟩|⟨hb,hl,hr⟩
 focus
  subst hb;have HRR:=I hr;clear hr;generalize S.size-l7.length=pos at*;go_wp2_with fail
 rotate_left
 focus
  subst hb;have HRR:=I hr;have hl':((S.size-l7.length:Nat):Int)<(S.size:Int):=by omega
  clear hr;generalize S.size-l7.length=pos at*;go_wp2_with fail
  clear hl hl'
 rotate_left
 focus
  subst hb;have HRR:=I hr;clear hr;rw[show S.size-l7.length=S.size by omega]at p1;clear hl;obtain⟨e0,e1,e2,e3,_,_,_,_,_⟩:=O.four bV.J;obtain⟨t0,t1,t2,t3,_,_,_,_,_⟩:=O.four (qj.J.dJ (.string ⟨en.toArray⟩) (.slice Aa dZ.length ca) (.slice Ab iw.length cb) (.string ⟨jA.toArray⟩));simp only[aH]at t0 t1 t2 t3;go_wp2
  refine bodyPost_ret (v:=.tuple #[.agg #[.string ⟨en.toArray⟩,.slice Aa dZ.length ca,.slice Ab iw.length cb,.string ⟨jA.toArray⟩],.int .i64 0,.int .i64 0]) (by simp[results,Tryz.results40,go_sem,t0,t1,t2,t3]) rfl ?_;rw[HRR.J];refine⟨.slice Aa dZ.length ca,.slice Ab iw.length cb,rfl,Touch.aH eu.J (.inr (Nat.le_refl _)) _ _ _ _,?_⟩;exact HS5.J.step ((M (fun k=>k=w.heap.size) w5).aH (.inl rfl) _ _ _ _) (fun i _ hi=>by omega) fun i _ hi=>by omega
 all_goals
  have k1:=cT (S:=fun k=>k=w.heap.size) p1 (by omega)
  refine fu (fun W=>∃x:Turned (fun k=>k=w.heap.size) w5,W=x.W) (bq.of [(0,true),(1,true),(2,true),(3,true),(4,true)] (.lone 5 .nil)) [0,1,2,3,4,5] 6 (Array.replicate 6 true++Array.replicate 2 false) (fun _=>True)
   (.plain 7 .nil) [7] (Array.replicate 8 true) (by kernel_rfl) (fun _ _ d _ _ h=>by cases d<;>exact h) (by kernel_rfl) ⟨⟨_,(M _ _).drewN 1⟩,rfl⟩ ?_
  unfold bq.of
  repeat(refine aS rfl (fun K hK=>?_);go_simp;refine hK _ ?_;clear hK K;first|done|unfold bq.of)
  clear k1;refine ax rfl (fun K hK=>?_);go_wp2
  refine hK _ _ ⟨⟨_,Touch.aH ((M (fun k=>k=w.heap.size) w5).drewN 1) (.inl rfl) _ _ _ _⟩,rfl⟩ ?_;clear hK K;refine iY rfl (fun K hK=>?_);go_wp2
  refine hK _ _ trivial ?_;clear hK K;refine aS rfl (fun K hK=>?_);go_simp;refine hK _ ?_;clear hK K;refine jJ ?_;go_wp2_with fail
  obtain⟨t0,t1,t2,t3,_,_,_,_,_⟩:=O.four ((qj.J.drewN 1).dJ (.string ⟨#[]⟩) (.slice none 0 0) (.slice none 0 0) (.string ⟨#[]⟩));simp only[aH]at t0 t1 t2 t3;refine bodyPost_ret (v:=.tuple #[.agg Z,.int .i64 (pos:Int),.int .i64 3]) (by simp[results,Tryz.results40,go_sem,t0,t1,t2,t3]) rfl ?_;rw[HRR.J];exact⟨.slice none 0 0,.slice none 0 0,rfl,Touch.aH (eu.J.drewN 1) (.inr (Nat.le_refl _)) _ _ _ _,fun _ _=>⟨dW.nil _ none 0,dL.nil none 0,Nat.zero_le _,Nat.zero_le _⟩⟩
end
namespace U
open Tr (Nd)
def cu(n:Bytes):Int:=
 if n=pO then 2 else if n=qC then 2 else if n=vL then 3 else if n=lF then 4 else if n=iL then 5 else if n=dK then 6 else if n=fo then 6
 else if n=jo then 7 else if n=jq then 8 else if n=eF then 9 else if n=bF then 10 else if n=aT then 11 else if n=aU then 12 else 0
def nG(a:aA)(nm:Bytes):Bool:=a.any (fun x=>x.1==nm)
def uP(s:Bytes):Bool:=decide (1<s.length)||(s.length==1&&iR s)
def bY:E→Int→Bytes×Bool
 |.mk n a _ t,k=>
  if k=2 then(t,a.isEmpty&&Tr.symbol t&&(uP t==decide (n=pO)))
  else if k=3∨k=4 then(t,a.isEmpty&&Tr.valid (.mk 1 [] 0 [.mk k t 0 []]))
  else if k=10 then(aW a cK,nG a cK&&decide (a.length=1)&&t.isEmpty&&Tr.fJ.contains (aW a cK))
  else if k=11 then(aW a fK++aW a dM,nG a fK&&nG a dM&&decide (a.length=2)&&t.isEmpty&&decide ((aW a fK).length=1)&&decide ((aW a dM).length=1)&&Tr.valid (.mk 1 [] 0 [.mk k (aW a fK++aW a dM) 0 [dN]]))
  else([],a.isEmpty&&t.isEmpty)
def tq(nm:Bytes)(m:Nat)(k:Int):Bool:=
 if k=2∨k=3∨k=4 then decide (m=0)
 else if nm=dK∨k=10∨k=11 then decide (m=1)
 else if k=9 then decide (m=3)
 else if k=12 then decide (1≤m)
 else decide (m=2)
abbrev Rd:=Nat×Int
def iQ(ok:Bool)(s:Rd):Rd:=(s.1+1,if !ok&&decide (s.2<0)then(s.1:Int)else s.2)
def oh(nm:Bytes)(e:E):Bool:=decide (e.name=nm)&&e.attrs.isEmpty&&e.text.isEmpty
def jH(e:E):Bool:=decide (0<cu e.name)&&(bY e (cu e.name)).2&&tq e.name e.kids.length (cu e.name)
def gK(c:Int)(e:E):Bool:=decide (e.name=bM)&&e.attrs.isEmpty&&e.text.isEmpty&&decide (1≤e.kids.length)&&decide (e.kids.length≤16)&&decide ((e.kids.length:Int)=c)
def uj(e:E)(ns:List Nd)(bad:Int):Nd:=
 if cu e.name=6∧bad<0 then(if e.name=dK then .mk 6 (bY e 6).1 0 (dN::ns)else .mk 6 (bY e 6).1 0 ((ns.drop 1).take 1++ns.take 1++ns.drop 2))
 else .mk (cu e.name) (bY e (cu e.name)).1 (if cu e.name=12 then(kg e.kids:Int)else 0) ns
mutual
def gY(nm:Bytes):E→Rd→Nd×Rd
 |.mk n a ks t,s=>let r:=gV ks (iQ (oh nm (.mk n a ks t)) s);(.mk 1 [] 0 r.1,r.2)
def gV:List E→Rd→List Nd×Rd
 |[],s=>([],s)
 |x::xs,s=>if s.2<0 then(let r:=kP x s;let q:=gV xs r.2;(r.1::q.1,q.2))else([],s)
def kP:E→Rd→Nd×Rd
 |.mk n a ks t,s=>
  let s1:=iQ (jH (.mk n a ks t)) s
  let r:=if cu n=12 then gW (kg ks) ks s1 else bZ ah ks s1
  (uj (.mk n a ks t) r.1 r.2.2,r.2)
def bZ(nm:Bytes):List E→Rd→List Nd×Rd
 |[],s=>([],s)
 |x::xs,s=>if s.2<0 then(let r:=gY nm x s;let q:=bZ nm xs r.2;(r.1::q.1,q.2))else([],s)
def gW(c:Int):List E→Rd→List Nd×Rd
 |[],s=>([],s)
 |.mk n a ks t::xs,s=>if s.2<0 then(let r:=bZ aJ ks (iQ (gK c (.mk n a ks t)) s);let q:=gW c xs r.2;(r.1++q.1,q.2))else([],s)
end
def tu(e:E):Nd×Int×Int:=
 if valid e then(if 0≤(gY bJ e (0,-1)).2.2 then(jr,(gY bJ e (0,-1)).2.2,19)else if Tr.valid (gY bJ e (0,-1)).1 then((gY bJ e (0,-1)).1,0,0)else(jr,0,6))else(jr,0,1)
end U
section
open Go.RowKit
open Tr (Nd)
open U (E aA aW Rd iQ cu nG tq)
def rdC(s:Rd):Array Value:=#[.int .i64 (s.1:Int),.int .i64 s.2]
theorem O.two{w:World}{g:Nat}{t:TypeId}{x0 x1:Value}(h:O w g t #[x0,x1]):
  w.cell? ⟨g,0,none⟩=some x0∧w.cell? ⟨g,1,none⟩=some x1∧w.frozen? ⟨g,0,none⟩=false∧w.frozen? ⟨g,1,none⟩=false∧g<w.heap.size:=by
 exact⟨h.cell 0,h.cell 1,h.frozen 0,h.frozen 1,h.lt⟩
theorem AO(s:Rd)(b:Bool)(g:Nat)(w:World)(hb:O w g 132 (rdC s))(hs:s.1≤1000000):
  Calls Tryz.prog 127 #[.pointer (some ⟨g,0,none⟩),.bool b] w fun x w'=>x=.returned (.tuple #[])∧Touch (fun k=>k=g) w w'∧O w' g 132 (rdC (iQ b s)):=by
 have HB:=I hb;obtain⟨a,c⟩:=s;have hw:IntKind.i64.wrap ((a:Int)+1)=(a:Int)+1:=IntWalk.i64_in _ (by simp only at hs;omega);obtain⟨hb0,hb1,hf0,hf1,hlt⟩:=O.two (x0:=.int .i64 (a:Int)) (x1:=.int .i64 c) hb;clear hb hs;cases b with
 |true=>
  go_enter Tryz.func127,Tryz.ntmps127;go_wp2
  refine bodyPost_end (v:=.tuple #[]) (results_none rfl _ _ _) rfl ?_;exact⟨rfl,(M (fun k=>k=g) _).setCell (p:=⟨g,0,none⟩) (.inl rfl) _,HB.J.put 0 (.int .i64 ((a:Int)+1))⟩
 |false=>
  by_cases c1:c<0
  ·have d1:decide (c<(0:Int))=true:=dT c1
   have hb2:=O.put HB.J 1 (.int .i64 (a:Int));obtain⟨_,_,hf2,hf3,_⟩:=O.two (x0:=.int .i64 (a:Int)) (x1:=.int .i64 (a:Int)) hb2;have HB2:=I hb2;clear hb2;go_enter Tryz.func127,Tryz.ntmps127;go_wp2
   refine bodyPost_end (v:=.tuple #[]) (results_none rfl _ _ _) rfl ?_;refine⟨rfl,((M (fun k=>k=g) _).setCell (p:=⟨g,1,none⟩) (.inl rfl) _).setCell (p:=⟨g,0,none⟩) (.inl rfl) _,?_⟩;have:=HB2.J.put 0 (.int .i64 ((a:Int)+1));rw[show iQ false (a,c)=(a+1,(a:Int)) by unfold iQ;simp[c1]];exact this
  ·have d1:decide (c<(0:Int))=false:=dF c1
   go_enter Tryz.func127,Tryz.ntmps127;go_wp2_with fail
   rw[show iQ false (a,c)=(a+1,c) by simp only[iQ,Bool.not_false,Bool.true_and,d1,Bool.false_eq_true,if_false]];refine bodyPost_end (v:=.tuple #[]) (results_none rfl _ _ _) rfl ?_;exact⟨rfl,(M (fun k=>k=g) _).setCell (p:=⟨g,0,none⟩) (.inl rfl) _,HB.J.put 0 (.int .i64 ((a:Int)+1))⟩
def o7:List (List UInt8):=[U.pO,U.qC,U.vL,U.lF,U.iL,U.dK,U.fo,U.jo,U.jq,U.eF,U.bF,U.aT,U.aU]
def o9:List Int:=[2,2,3,4,5,6,6,7,8,9,10,11,12]
def intRow(l:List Int):Array Value:=(l.map fun s=>Value.int .i64 s).toArray
theorem Ul{l:List Int}{W:World}{g:Nat}(h:O W g 3 (intRow l))(i:Nat)(hi:i<l.length):W.cell? ⟨g,i,none⟩=some (.int .i64 l[i]):=by
 rw[h.cell];simp[intRow,hi]
theorem RB(n:List UInt8)(j:Nat)(h:j<o7.length)(e:o7[j]=n):cu n=o9[j]'h:=by
 have:∀i:Fin 13,cu (o7[i.1]'i.2)=o9[i.1]'i.2:=by decide
 rw[←e];exact this ⟨j,h⟩
theorem LP(n:List UInt8)(h:o7.contains n=false):cu n=0:=by
 have h':n∉o7:=by intro hm;rw[List.contains_iff_mem.2 hm]at h;cases h
 simp only[o7,List.mem_cons,List.not_mem_nil,or_false,not_or]at h';unfold cu;simp only[h',if_false]
theorem LQ(n:List UInt8)(w:World):Calls Tryz.prog 175 #[.string ⟨n.toArray⟩] w fun e w'=>e=.returned (.int .i64 (cu n))∧ag w w':=by
 go_enter Tryz.func175,Tryz.ntmps175;go_wp2_with fail
 have hb1:=O.new2 w (.cells (sF o7) 9) 3 (intRow o9);have hb0:=(O.new w 9 (sF o7)).alloc (.cells (intRow o9) 3);have hf:=((M (fun _=>False) w).alloc (.cells (sF o7) 9)).alloc (.cells (intRow o9) 3);have HH:=I (And.intro hb0 (And.intro hb1 hf));clear hb0 hb1 hf;refine aV (fun W=>O W w.heap.size 9 (sF o7)∧O W (w.heap.size+1) 3 (intRow o9)∧ag w W) HH.J ?_;rintro W1 ⟨hb0,hb1,hf⟩;have HB0:=I hb0;have HB1:=I hb1;have HF:=I hf;have ajn:=hb0.lt;have hlt1:=hb1.lt;clear hb0 hb1 hf HH
 go_loopw [5] (fun i wr=>∃j:Nat,i=.int .i64 j∧j≤13∧Hd ((o7.take j).contains n=false)∧wr=W1) (fun i _=>13-(intOf i).toNat)
 case atStart=>exact⟨0,rfl,Nat.zero_le _,by simp[Hd],rfl⟩
 case round=>
  obtain⟨j,rfl,hj,HA,rfl⟩:=hrel
  by_cases c1:j<13
  ·have d1:decide ((j:Int)<(13:Int))=true:=dT (by omega)
   have dG:decide (j<13)=true:=dT (by omega);have d1':(j:Int)<(13:Int):=by omega
   have q:=Iy HB0.J j c1;have q1:=Ul HB1.J j c1;have HS:=I (Du o7 n j c1);have HN:=I (RB n j c1);generalize o7[j]'c1=x at*;cases h1:(x==n)with
   |false=>
    go_wp2
    go_roundw
    case rel=>exact⟨j+1,by go_num,c1,by unfold Hd;rw[HS.J,HA.J];simp_all,trivial⟩
    case measure=>simp[intOf];omega
   |true=>
    have HV:=I (HN.J (by simpa using h1));go_wp2
    go_ret;exact⟨by rw[HV.J];rfl,HF.J⟩
  ·have d1:decide ((j:Int)<(13:Int))=false:=dF (by omega)
   have dG:decide (j<13)=false:=dF (by omega);obtain rfl:j=13:=by omega
   go_wp2
   go_ret;exact⟨by rw[LP n HA.J];rfl,HF.J⟩
theorem XH(a:aA)(nm:List UInt8)(j:Nat)(h:j<a.length)(hx:a[j].1=nm):nG a nm=true:=by
 unfold nG;rw[List.any_eq_true];exact⟨a[j],List.getElem_mem h,by simpa using hx⟩
theorem XI(e:E)(nm:List UInt8)(va vk:Value)(w:World)(hr:bN w e va vk):Calls Tryz.prog 204 #[ev e va vk,.string ⟨nm.toArray⟩] w fun x w'=>x=.returned (.tuple #[.string ⟨(aW e.attrs nm).toArray⟩,.bool (nG e.attrs nm)])∧ag w w':=by
 obtain⟨n,ats,ks,t⟩:=e;obtain⟨A,ca,hva⟩:=hr.1.slice;replace hva:va=.slice A ats.length ca:=hva;subst hva;have hl1:ats.length≤maxLen:=by obtain⟨_,_,_,h,_⟩:=hr.1;exact h.1
 unfold maxLen at hl1;have HA:=I (show dW w ats _ from hr.1);clear hr;unfold ev;show Calls _ _ _ _ (fun x w'=>x=.returned (.tuple #[.string ⟨(aW ats nm).toArray⟩,.bool (nG ats nm)])∧ag w w');simp only[E.name,E.text];go_enter Tryz.func204,Tryz.ntmps204;go_wp2_with fail
 have hf:=(M (fun _=>False) w).alloc (.cells #[.string ⟨n.toArray⟩,.slice A ats.length ca,vk,.string ⟨t.toArray⟩] 45);have hb:=O.new w 45 #[.string ⟨n.toArray⟩,.slice A ats.length ca,vk,.string ⟨t.toArray⟩];have HH:=I (And.intro hf hb);clear hf hb;refine aV (fun W=>ag w W∧O W w.heap.size 45 #[.string ⟨n.toArray⟩,.slice A ats.length ca,vk,.string ⟨t.toArray⟩]) HH.J ?_;clear HH;rintro W1 ⟨hf,hb⟩;obtain⟨_,q1,_,_,_,_,_,_,hg⟩:=O.four hb;have HF:=I hf;clear hf hb
 go_loopw [6] (fun i wr=>∃j:Nat,i=.int .i64 j∧j≤ats.length∧Hd ((ats.take j).any (fun x=>x.1==nm)=false)∧wr=W1) (fun i _=>ats.length-(intOf i).toNat)
 case atStart=>exact⟨0,rfl,Nat.zero_le _,by simp[Hd],rfl⟩
 case round=>
  obtain⟨j,rfl,hj,HT,rfl⟩:=hrel
  by_cases c1:j<ats.length
  ·have d1:decide ((j:Int)<(ats.length:Int))=true:=dT (by omega)
   have d1':(j:Int)<(ats.length:Int):=by omega
   obtain⟨g,o,rfl,hg2,m0,m1,_,_⟩:=HA.J.get j c1;have e0:=HF.J.cell m0 (fun h=>h);have f0:=HF.J.cell m1 (fun h=>h);have hg3:g<wr.heap.size:=Nat.lt_of_lt_of_le hg2 HF.J.size;clear m0 m1;have HS:=I (I5 ats nm j c1 HT.J);have HN:=I (XH ats nm j c1);generalize ats[j]=x at*;cases h4:decide (x.1=nm)with
   |true=>
    have e1:(x.1==nm)=true:=by simpa using h4
    have HV:=I (HS.J.1 (of_decide_eq_true h4));have Gl:=I (HN.J (of_decide_eq_true h4));clear h4;go_wp2
    refine bodyPost_ret (results_tmp2 rfl _ _ _) rfl ?_;exact⟨by rw[HV.J,Gl.J];rfl,HF.J⟩
   |false=>
    have e1:(x.1==nm)=false:=by simpa using h4
    have HV:=I (HS.J.2 (of_decide_eq_false h4));clear h4;go_wp2
    go_roundw
    case rel=>exact⟨j+1,by go_num,c1,HV,trivial⟩
    case measure=>simp[intOf];omega
  ·have d1:decide ((j:Int)<(ats.length:Int))=false:=dF (by omega)
   obtain rfl:j=ats.length:=by omega
   have HT2:=I (show nG ats nm=false by have:=HT.J;rwa [List.take_length]at this);have HV:=I (I6 ats nm HT2.J);go_wp2
   refine bodyPost_ret (results_tmp2 rfl _ _ _) rfl ?_;exact⟨by rw[HV.J,HT2.J];rfl,HF.J⟩
theorem Jz(e:E)(k:Int)(va vk:Value)(w:World)(hr:bN w e va vk):Calls Tryz.prog 177 #[ev e va vk,.int .i64 k] w fun x w'=>x=.returned (.bool (tq e.name e.kids.length k))∧ag w w':=by
 obtain⟨n,ats,ks,t⟩:=e;obtain⟨B,cb,hvk⟩:=hr.2.1.slice;replace hvk:vk=.slice B ks.length cb:=hvk;subst hvk;clear hr;unfold ev;show Calls _ _ _ _ (fun x w'=>x=.returned (.bool (tq n ks.length k))∧ag w w');simp only[E.name,E.text];go_enter Tryz.func177,Tryz.ntmps177;go_wp2_with fail
 all_goals
  go_ret;refine⟨af _ _ ?_,(M _ _).alloc _⟩;rw[Bool.eq_iff_iff];simp_all [tq,U.dK]
  try omega
end
end Go.Proofs.YtnbeemkfmlfgfaaGreatDoor
