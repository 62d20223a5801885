/- Part 38 of 41 of a proof. No condition. -/
import Derived.Test.YtabjglnjjdcfmaaGreatDoorWe37
set_option maxRecDepth 100000
set_option maxHeartbeats 4000000
namespace Go.Proofs.YtabjglnjjdcfmaaGreatDoor
open _root_.List renaming getElem_mem->avS,take_length->avm,length_cons->au0,length_append->auZ,getElem?_append_right->avY
open _root_.Nat renaming zero_le->au1,zero_add->au8,le_refl->au3
open _root_.Go.Value renaming slice->avb
open _root_.Go.Proofs.Tryz
section
open Go.RowKit
open Tr (Nd)
theorem anq(args:List Nd)(W0:W_)(va:Value)(hsm:D7.Small args)(ae:args.length<=1000)(ac:aD W0 args va):∀(N:Nat) (ks:List Nd),Tr.az ks<=N->D7.al3 args.length ks->Tr.az ks<=1000->anT args W0 va ks
 |0,ks,hN,ad,hc=>by
  have h0:ks=[]:=by
   have:=Tr.jF ks;exact List.length_eq_zero_iff.1 Zo
  subst h0;exact ana args W0 va [] hsm ae ac ad hc (λx hx=>by cases hx)
 |N+1,ks,hN,ad,hc=>ana args W0 va ks hsm ae ac ad hc λx hx y hy=>by
  have h1:=alN hx;have h2:=alN hy;rw[Tr.aN]at h1 h2;exact anq args W0 va hsm ae ac N y.Qx Zo (D7.amj (D7.ami (D7.amj (D7.ami ad x hx)) y hy)) Zo
def anV(R:Nd×Int)(w:W_)(e:Ending)(w':W_):Prop:=∃A cp,e=.returned (.tuple #[nv R.1 (.slice A R.1.Qx.length cp),V R.2])/\aP w.heap.size w' R.1.Qx (.slice A R.1.Qx.length cp)/\R.1.QG.length<=maxLen/\ag w w'
theorem anW(p:Nd->Bool)(args:List Nd)(j:Nat)(hj:j<args.length):(args.take (j+1)).all p=((args.take j).all p&&p args[j]):=by
 rw[List.take_succ_eq_append_getElem hj,List.all_append];simp
theorem aoF(p:Nd->Bool)(args:List Nd)(j:Nat)(hj:j<args.length)(h:p args[j]=false):args.all p=false:=by
 rw[List.all_eq_false];exact⟨args[j],avS hj,by simp[h]⟩
theorem aoh(t:Nd)(sl:Value)(args:List Nd)(va:Value)(w:W_)(hr:aD w t.Qx sl)(ht:t.QG.length<=maxLen)(ac:aD w args va):C_ 169 #[nv t sl,va] w (anV (D7.alK t args) w):=by
 obtain⟨A,cap,rfl⟩:=hr.slice;obtain⟨Aa,ca,rfl⟩:=ac.slice;have HR:=I hr;have z8:=I ac;have wL:=I ht;obtain⟨R,hR⟩:∃R,R=D7.alK t args:=⟨_,rfl⟩;have am:=I (show R=if D7.ald t args.length=false then(D7.Jf,1)else if args.all (λa=>D7.ald a 4)=false then(D7.Jf,1)else if D7.ald (Np.CG (D7.alf args t.Qx)) 4=false then(D7.Jf,6)else(Np.CG (D7.alf args t.Qx),0)from hR);rw[<-hR];have ae:=ac.len;have Rt:=I ae;clear hr ac ht hR ae;refine Calls.via λQ hQ=>?_
 have HQ:=I hQ;clear hQ;have aK:=I (show ag w ((w.alloc (.cells #[V t.QI,S_ t.QG,V t.ah,.slice A t.Qx.length cap] 31)).alloc (.cells ZN 31))from((M _ w).alloc _).alloc _);have ai:=I ((af.new w 31 #[V t.QI,S_ t.QG,V t.ah,.slice A t.Qx.length cap]).alloc (.cells ZN 31));have ow:=I (af.new2 w (.cells #[V t.QI,S_ t.QG,V t.ah,.slice A t.Qx.length cap] 31) 31 ZN);go_enter func169,ntmps169;go_wp2_with fail
 generalize ((w.alloc (.cells #[V t.QI,S_ t.QG,V t.ah,.slice A t.Qx.length cap] 31)).alloc (.cells ZN 31))=W1 at aK ai ow|-;refine(alU t (.slice A t.Qx.length cap) (args.length:Int) W1 (HR.QH aK) wL).mono ?_;rintro _ w2 ⟨rfl,hf⟩;have bW:=I (aK.trans hf);have Su:=I (hf.QN ai λh=>h);have RY:=I (hf.QN ow λh=>h);clear hf aK ai ow;cases aa:D7.ald t (args.length:Int)with
 |false=>
  have al:=I (show R=(D7.Jf,1)from am.trans (if_pos aa));obtain⟨p0,p1,p2,p3,y0,y1,y2,y3,hlt⟩:=af.QM RY;go_wp2_with fail
  have n1:=RY.gH (V 0) (E_) (V 0) (N_);have hf:=bW.aO (g:=w.heap.size+1) Ls (V 0) (E_) (V 0) (N_);obtain⟨g0,g1,g2,g3,_⟩:=af.QM n1;simp only[aO]at g0 g1 g2 g3 hf
  exact abU
 |true=>
  have aoG:=I (show R=if args.all (λa=>D7.ald a 4)=false then(D7.Jf,1)else if D7.ald (Np.CG (D7.alf args t.Qx)) 4=false then(D7.Jf,6)else(Np.CG (D7.alf args t.Qx),0)from am.trans (if_neg (by rw[aa];decide)))
  have apS:args.length<=4:=by
   unfold D7.ald at aa;split at aa
   .cases aa
   .omega
  have apT:=I apS;have Rc:=I (D7.aoB (P:=args.length) aa);have HTC:=I (D7.al6 aa);clear am aa;go_wp2
  go_loopw [17] (λi av=>∃(wr:W_) (j:Nat),wr=av/\i=V j/\j<=args.length/\Hd ((args.take j).all (λa=>D7.ald a 4)=true)/\Hd (af wr w.heap.size 31 #[V t.QI,S_ t.QG,V t.ah,.slice A t.Qx.length cap])/\Hd (af wr (w.heap.size+1) 31 ZN)/\Hd (ag w wr)) (λi _=>args.length-(intOf i).toNat)
  case atStart=>exact⟨_,0,rfl,rfl,au1 _,I rfl,Su,RY,bW⟩
  case round=>
   clear Su RY bW;obtain⟨wr,j,rfl,rfl,hj,Ra,ai,ow,HF⟩:=hrel
   by_cases c1:j<args.length
   .have d1:decide ((j:Int)<(args.length:Int))=true:=dT Zo
    have jo:decide (j<args.length)=true:=dT c1;have aE:(j:Int)<(args.length:Int):=Zo
    have hjb:j<=4:=Zo
    obtain⟨g,o,sx,rfl,hg,e0,e1,e2,e3,e4⟩:=z8.get j c1;have HXT:=I (z8.texts j c1);have ab:=I e4;have sJ:=I (anW (λa=>D7.ald a 4) args j c1);have aq:=I (aoF (λa=>D7.ald a 4) args j c1);have HJ:=I auF;have b0:=HF.cell e0 PR;have b1:=HF.cell e1 PR;have b2:=HF.cell e2 PR;have b3:=HF.cell e3 PR;clear e0 e1 e2 e3 e4 hg;generalize args[j]=x at*;obtain⟨Ax,cx,rfl⟩:=ab.slice;have kW:=I (af.new wr 31 #[V x.QI,S_ x.QG,V x.ah,.slice Ax x.Qx.length cx]);have gL:=I (show ag wr (wr.alloc (.cells #[V x.QI,S_ x.QG,V x.ah,.slice Ax x.Qx.length cx] 31))from(M _ wr).alloc _);obtain⟨k0,k1,k2,k3,_,_,_,_,hlk⟩:=af.QM kW;go_wp2_with fail
    clear k0 k1 k2 k3 hlk b0 b1 b2 b3;generalize (wr.alloc (.cells #[V x.QI,S_ x.QG,V x.ah,.slice Ax x.Qx.length cx] 31))=wa at kW gL|-;refine(alU x (.slice Ax x.Qx.length cx) 4 wa (ab.QH (HF.trans gL)) HXT).mono ?_;rintro _ w3 ⟨rfl,hf⟩;have bJ:=I ((HF.trans gL).trans hf);have Ym:=I (hf.QN (gL.QN ai λh=>h) λh=>h);have vC:=I (hf.QN (gL.QN ow λh=>h) λh=>h);clear hf;cases an:D7.ald x 4 with
    |false=>
     have al:=I (show R=(D7.Jf,1)from aoG.trans (if_pos (aq an)));clear an d1 jo aE;obtain⟨p0,p1,p2,p3,y0,y1,y2,y3,hlt⟩:=af.QM vC;go_wp2_with fail
     have n1:=vC.gH (V 0) (E_) (V 0) (N_);have hf:=bJ.aO (g:=w.heap.size+1) Ls (V 0) (E_) (V 0) (N_);obtain⟨g0,g1,g2,g3,_⟩:=af.QM n1;simp only[aO]at g0 g1 g2 g3 hf
     exact abU
    |true=>
     have apU:=I (show(args.take (j+1)).all (λa=>D7.ald a 4)=true by rw[sJ.out,Ra.out,an];rfl);clear an;go_wp2_with fail
     exact⟨⟨_,j+1,rfl,by simp,by have:=HJ.out;omega,apU,Ym,vC,bJ⟩,by simp[intOf];have:=HJ.out;omega⟩
   .have d1:decide ((j:Int)<(args.length:Int))=false:=dF Zo
    have jo:decide (j<args.length)=false:=dF c1;obtain rfl:j=args.length:=Zo
    have hall:args.all (λa=>D7.ald a 4)=true:=by have h:=Ra.out;rwa [avm]at h
    have aoH:=I (show R=if D7.ald (Np.CG (D7.alf args t.Qx)) 4=false then(D7.Jf,6)else(Np.CG (D7.alf args t.Qx),0)from aoG.trans (if_neg (by rw[hall];decide)));have a4:=I (show D7.Small args from λa ha=>D7.al6 ((List.all_eq_true.1 hall) a ha));have aM:=I (show Tr.az t.Qx<=1000 by have h:=HTC.out;rw[Tr.aN]at h;omega);obtain⟨p0,p1,p2,p3,y0,y1,y2,y3,hlt⟩:=af.QM ai;clear hall aoG Ra;go_wp2_with fail
    refine(anq args w (.slice Aa args.length ca) a4 (by have:=apT.out;omega) z8 _ t.Qx PD Rc aM (.slice A t.Qx.length cap) wr HR HF).mono ?_;rintro _ w6 ⟨A6,c6,rfl,jq,dK⟩;have iC:=I jq;have fI:=I (HF.trans dK);have oG:=I (dK.QN ow λh=>h);have AO:=I dK.size;clear jq dK p0 p1 p2 p3 y0 y1 y2 y3 hlt;obtain⟨fs,a6⟩:∃fs,fs=D7.alf args t.Qx:=⟨_,rfl⟩;rw[<-a6]at iC aoH|-;clear a6;have kW:=I (af.new w6 31 #[V 1,E_,V 0,.slice A6 fs.length c6]);have gL:=I (show ag w6 (w6.alloc (.cells #[V 1,E_,V 0,.slice A6 fs.length c6] 31))from(M _ w6).alloc _);obtain⟨k0,k1,k2,k3,_,_,_,_,hlk⟩:=af.QM kW;go_wp2_with fail
    generalize (w6.alloc (.cells #[V 1,E_,V 0,.slice A6 fs.length c6] 31))=wa at kW gL|-;refine(alU (Np.CG fs) (.slice A6 fs.length c6) 4 wa (iC.rep.QH gL) JI).mono ?_;rintro _ w7 ⟨rfl,hf⟩;have gW:=I ((fI.trans gL).trans hf);have qc:=I (hf.QN (gL.QN oG λh=>h) λh=>h);have acs:=I (hf.QN kW λh=>h);have jy:=I ((iC.QH gL).QH hf);clear hf k0 k1 k2 k3 hlk;cases an:D7.ald (Np.CG fs) 4 with
    |false=>
     have al:=I (show R=(D7.Jf,6)from aoH.trans (if_pos an));clear an d1 jo;obtain⟨p0,p1,p2,p3,y0,y1,y2,y3,hlt⟩:=af.QM qc;go_wp2_with fail
     have n1:=qc.gH (V 0) (E_) (V 0) (N_);have hf:=gW.aO (g:=w.heap.size+1) Ls (V 0) (E_) (V 0) (N_);obtain⟨g0,g1,g2,g3,_⟩:=af.QM n1;simp only[aO]at g0 g1 g2 g3 hf
     refine bodyPost_ret (v:=.tuple #[nv D7.Jf (N_),V 6]) (by simp[nv,D7.Jf,Nd.QI,Nd.QG,Nd.ah,results,results169,go_sem,g0,g1,g2,g3]) rfl ?_;exact HQ _ _ (by rw[al.out];exact⟨none,0,rfl,.nil _ _,au1 _,hf⟩)
    |true=>
     have al:=I (show R=(Np.CG fs,0)from aoH.trans (if_neg (by rw[an];decide)));clear an d1 jo;obtain⟨p0,p1,p2,p3,y0,y1,y2,y3,hlt⟩:=af.QM qc;obtain⟨k0,k1,k2,k3,_,_,_,_,hlk⟩:=af.QM acs;go_wp2_with fail
     have n1:=qc.gH (V 1) (E_) (V 0) (.slice A6 fs.length c6);have hf:=gW.aO (g:=w.heap.size+1) Ls (V 1) (E_) (V 0) (.slice A6 fs.length c6);have sI:=jy.far (yL w7 (w.heap.size+1) (V 1) (E_) (V 0) (.slice A6 fs.length c6)) (by have:=ow.lt;omega);obtain⟨g0,g1,g2,g3,_⟩:=af.QM n1;simp only[aO]at g0 g1 g2 g3 hf sI
     refine bodyPost_ret (v:=.tuple #[nv (Np.CG fs) (.slice A6 fs.length c6),V 0]) (by simp[nv,Np.CG,Nd.QI,Nd.QG,Nd.ah,results,results169,go_sem,g0,g1,g2,g3]) rfl ?_;exact HQ _ _ (by rw[al.out];exact⟨A6,c6,rfl,sI.base HF.size,au1 _,hf⟩)
theorem anE(g:Nat)(tb:D7.Table)(tp:Value)(s:List UInt8)(args:List Nd)(va:Value)(w:W_)(h:alB w g tb tp)(ac:aD w args va):C_ 161 #[tp,S_ s,va] w (anV (D7.alm tb s args) w):=by
 obtain⟨Aa,ca,rfl⟩:=ac.slice;have z8:=I ac;have jQ:=I ((M (λ_=>False) w).alloc (.cells ZN 31));have ow:=I abR;clear ac
 rcases h with⟨rfl,rfl⟩|⟨gt,bm,apL,NY,rfl,h⟩
 focus
  have HX:=I (show D7.alm [] s args=(D7.Jf,8)from rfl);go_enter func161,ntmps161;go_wp2_with fail
  obtain⟨g0,g1,g2,g3,_⟩:=af.QM (ow)
  refine bodyPost_ret (v:=.tuple #[nv D7.Jf (N_),V 8]) arB rfl ?_;rw[HX.out];exact⟨none,0,rfl,.nil _ _,au1 _,jQ⟩
 focus
  have H0:=h.QH jQ;have q1:=H0.QN.cell 1;have hlt:=H0.QN.lt;have hgt:gt<w.heap.size:=h.QN.lt;have kJ:=I h.D9
  rcases ams H0 s with⟨m,i,e1,hi,e2,e3⟩|⟨e1,e3⟩
  rotate_left
  focus
   have HX:=I (show D7.alm tb s args=(D7.Jf,8) by unfold D7.alm;rw[e1]);clear h H0 e1;go_enter func161,ntmps161;go_wp2_with fail
   obtain⟨g0,g1,g2,g3,_⟩:=af.QM (ow.alloc (.cells #[V 0,V 0,E_,V 0,N_] 119))
   refine bodyPost_ret (v:=.tuple #[nv D7.Jf (N_),V 8]) arB rfl ?_;rw[HX.out];exact⟨none,0,rfl,.nil _ _,au1 _,jQ.alloc _⟩
  focus
   have ae:=kJ.out m (by rw[<-e2];exact avS hi);have aa:=h.tree i hi;rw[e2]at aa;obtain⟨A6,c6,ab⟩:=aa.slice;unfold alW at e3;rw[ab]at e3 aa;have jK:=I aa;have HMT:=I ae;have aC:=I (show D7.alm tb s args=if args.length≠m.params then(D7.Jf,13)else D7.alK m.tree args by unfold D7.alm;rw[e1]);have ak:=ae.2.1;clear h H0 e1 e2 aa ae ab hi kJ;have kW:=I (af.new2 w (.cells ZN 31) 119 #[V (m.params:Int),V m.tree.QI,S_ m.tree.QG,V m.tree.ah,.slice A6 m.tree.Qx.length c6]);have ad:=I (jQ.alloc (.cells #[V (m.params:Int),V m.tree.QI,S_ m.tree.QG,V m.tree.ah,.slice A6 m.tree.Qx.length c6] 119));have apq:=I (ow.alloc (.cells #[V (m.params:Int),V m.tree.QI,S_ m.tree.QG,V m.tree.ah,.slice A6 m.tree.Qx.length c6] 119))
   by_cases hlen:args.length=m.params
   .have d1:((args.length:Int) !=(m.params:Int))=false:=by rw[hlen];simp
    have HX:=I (show D7.alm tb s args=D7.alK m.tree args from aC.trans (if_neg Zo));have lg:=I hlen;clear hlen aC;go_enter func161,ntmps161;go_wp2_with fail
    refine(aoh m.tree (.slice A6 m.tree.Qx.length c6) args (.slice Aa args.length ca) _ (jK.rep.QH ad) HMT.out.1 (z8.QH ad)).mono ?_;rintro _ w6 ⟨A9,c9,rfl,jq,apr,dK⟩;have iC:=I jq;have aps:=I apr;have fI:=I (ad.trans dK);have gy:=I (dK.QN apq λh=>h);have ap:w.heap.size+1<=((w.alloc (.cells ZN 31)).alloc (.cells #[V (m.params:Int),V m.tree.QI,S_ m.tree.QG,V m.tree.ah,.slice A6 m.tree.Qx.length c6] 119)).heap.size:=P9
    have AO:=I ap;clear jq apr dK ap;obtain⟨R,hR⟩:∃R,R=D7.alK m.tree args:=⟨_,rfl⟩;rw[<-hR]at iC aps HX|-;clear hR;obtain⟨p0,p1,p2,p3,y0,y1,y2,y3,lW⟩:=af.QM gy;unfold nv;go_wp2_with fail
    have n1:=gy.gH (V R.1.QI) (S_ R.1.QG) (V R.1.ah) (.slice A9 R.1.Qx.length c9);have hf:=fI.aO (g:=w.heap.size) ET (V R.1.QI) (S_ R.1.QG) (V R.1.ah) (.slice A9 R.1.Qx.length c9);have sI:=iC.far (yL w6 w.heap.size (V R.1.QI) (S_ R.1.QG) (V R.1.ah) (.slice A9 R.1.Qx.length c9)) asH;obtain⟨g0,g1,g2,g3,_⟩:=af.QM n1;simp only[aO]at g0 g1 g2 g3 hf sI
    refine bodyPost_ret (v:=.tuple #[nv R.1 (.slice A9 R.1.Qx.length c9),V R.2]) (by simp[nv,results,results161,go_sem,g0,g1,g2,g3]) rfl ?_;rw[HX.out];exact⟨A9,c9,rfl,sI.base asH,aps,hf⟩
   .have d1:((args.length:Int) !=(m.params:Int))=true:=by rw[bne_iff_ne];omega
    have HX:=I (show D7.alm tb s args=(D7.Jf,13)from aC.trans (if_pos hlen));clear hlen aC;go_enter func161,ntmps161;go_wp2_with fail
    obtain⟨g0,g1,g2,g3,_⟩:=af.QM (apq)
    refine bodyPost_ret (v:=.tuple #[nv D7.Jf (N_),V 13]) (by simp[nv,D7.Jf,Nd.QI,Nd.QG,Nd.ah,results,results161,go_sem]) rfl ?_;rw[HX.out];exact⟨none,0,rfl,.nil _ _,au1 _,ad⟩
end
section
open Go.RowKit
open Tr (Nd)
attribute [local go_sem] gD stillUpon
theorem anX(cb k:Nat)(d:Int)(w:W_)(h:af w cb 3 #[V (k:Int)])(hk:k<=1000000):C_ 171 #[V d,.pointer (A_ cb 0)] w λe w'=>e=.returned (.tuple #[])/\w'=w.setCell (B_ cb 0) (V ((k+1:Nat):Int)):=by
 have q0:=h.cell 0;have z0:=h.frozen 0;have hl:=h.lt;have e1:((k:Int)+1)=((k+1:Nat):Int):=P9
 have w1:IntKind.i64.wrap ((k:Int)+1)=((k+1:Nat):Int):=by rw[IntWalk.i64_in _ (by omega)];exact e1
 clear e1;generalize ((k+1:Nat):Int)=k1 at*;go_enter func171,ntmps171;go_wp2_with fail
 go_end0
 exact ah5
def NdC(W0:W_)(x:Nd)(p:Addr):Prop:=p.spot=none/\p.block<W0.heap.size/\∃A c,W0.cell? (B_ p.block (p.off+3))=some (.slice A x.Qx.length c)/\aD W0 x.Qx (.slice A x.Qx.length c)
def alQ:List (Nd×Addr×Int)->List Value
 |[]=>[]
 |x::L=>.pointer (some x.2.1)::V x.2.2::alQ L
theorem anr:∀L,(alQ L).length=L.length*2
 |[]=>rfl
 |_::L=>by simp only[alQ,au0,anr L];omega
theorem amL:∀(L M:List (Nd×Addr×Int)),alQ (L++M)=alQ L++alQ M
 |[],_=>rfl
 |_::L,M=>by simp only[List.cons_append,alQ,amL L M]
def alT(W0 w:W_)(L:List (Nd×Addr×Int))(v:Value):Prop:=w.ownsRow W0.heap.size 230 2 v L.length (alQ L)/\∀x∈L,NdC W0 x.1 x.2.1
theorem anF{W:W_}{B e g n cap:Nat}{xs:List Value}{u v:Value}(h:W.ownsRow B e 2 (.slice (A_ g 0) (n+1) cap) (n+1) (xs++[u,v])):W.ownsRow B e 2 (.slice (A_ g 0) n cap) n xs:=by
 have hl:=h.1;rw[auZ]at hl;have hl':xs.length+2=(n+1)*2:=hl;refine⟨by omega,?_⟩
 rcases h.2 with⟨h1,_⟩|⟨g',cap',cur,h1,h2,h3,h4,h5,h6,h7⟩
 .cases h1
 .cases h1
  refine .inr ⟨g,cap,cur,rfl,h2,h3,by omega,h5,h6,?_⟩;have h8:(cur.toList.take ((n+1)*2)).take (n*2)=(xs++[u,v]).take (n*2):=by rw[h7]
  rw[List.take_take,show min (n*2) ((n+1)*2)=n*2 by omega]at h8;rw[h8,List.take_append_of_le_length (by omega),List.take_of_length_le (by omega)]
theorem alT.top{W0 w:W_}{M:List (Nd×Addr×Int)}{x:Nd×Addr×Int}{A:Option Addr}{m cp:Nat}(h:alT W0 w (M++[x]) (.slice A (m+1) cp))(hm:M.length=m):m+1<=cp/\∃s,A=some ⟨s,0,none⟩/\s<w.heap.size/\w.cell? ⟨s,m*2,none⟩=some (.pointer (some x.2.1))/\w.cell? ⟨s,m*2+1,none⟩=some (V x.2.2)/\NdC W0 x.1 x.2.1/\alT W0 w M (.slice A m cp):=by
 obtain⟨h1,h2⟩:=h;rw[amL,auZ,hm]at h1;have hl:=anr M;rw[hm]at hl;have hx:alQ [x]=[.pointer (some x.2.1),V x.2.2]:=rfl;rw[hx]at h1;simp only[au0,List.length_nil,au8]at h1
 rcases h1.2 with⟨hv,_⟩|⟨s,cap,cur,hv,_,_,hc,_⟩
 .cases hv
 .cases hv
  have c0:=h1.cells (g:=s) rfl (m*2) (.pointer (some x.2.1)) (by rw[avY (by omega),show m*2-(alQ M).length=0 by omega];rfl);have c1:=h1.cells (g:=s) rfl (m*2+1) (V x.2.2) (by rw[avY (by omega),show m*2+1-(alQ M).length=1 by omega];rfl);rw[Addr.add_mid,au8]at c0 c1;exact⟨hc,s,rfl,(h1.lt s rfl).2,c0,c1,h2 x P9,by unfold alT;rw[hm];exact⟨anF h1,λy hy=>h2 y atw⟩⟩
theorem alT.mv{W0 w w':W_}{L:List (Nd×Addr×Int)}{v:Value}{S:Nat->Prop}(h:alT W0 w L v)(ht:Touch S w w')(hS:∀k,S k->∀cs,¬af w k 230 cs):alT W0 w' L v:=
 ⟨aQ h.1 ht λk hk hs=>by
  obtain⟨_,cur,h2⟩:=fe h.1 hk;exact hS k hs cur h2,h.2⟩
theorem aoi:(Tryz.prog.info? 230).map (λi=>(i.zero,i.size,i.bytes))=some (some (.agg #[.pointer none,V 0]),2,16):=Pg
def am3(W0:W_)(cb C:Nat)(v:Value)(wr:W_)(m:Nat):Prop:=∃(L:List (Nd×Addr×Int)) (A:Option Addr) (k cp:Nat),v=.slice A k cp/\L.length=k/\ag W0 wr/\alT W0 wr L (.slice A k cp)/\af wr cb 3 #[V ((C-m:Nat):Int)]/\Tr.az (L.map Prod.fst)=m/\m<=C
noncomputable def aoI (W0:W_) (cb C:Nat) (v:Value) (wr:W_):Nat:=least (am3 W0 cb C v wr)
theorem anY(n:Nd)(W0 w:W_)(p:Addr)(cb:Nat)(hn:NdC W0 n p)(hC:Tr.count n<=1000000)(hf:ag W0 w)(hb:af w cb 3 #[.int .i64 0])(hcb:W0.heap.size<=cb):C_ 170 #[.pointer (some p),.func (.func 171) #[] #[.pointer (some ⟨cb,0,none⟩)]] w λe w'=>e=.returned (.tuple #[])/\ag W0 w'/\af w' cb 3 #[.int .i64 (Tr.count n:Int)]:=by
 have aq:∀(a:Array Value) (w:W_),(callFunc 171 a).run Tryz.prog w=.ok (.enter 171 a) w:=λa w=>by kernel_rfl
 obtain⟨C,hc⟩:∃C,C=Tr.count n:=⟨_,rfl⟩;have aK:=I hcb
 have ae:=I (show am3 W0 cb C (.slice (some ⟨w.heap.size,0,none⟩) 1 1) (w.alloc (.cells #[.pointer (some p),.int .i64 1] 230)) C from by
  refine⟨[(n,p,1)],_,1,1,rfl,rfl,hf.alloc _,⟨?_,λx hx=>by obtain rfl:=List.mem_singleton.1 hx;exact hn⟩,by rw[Nat.sub_self];exact hb.alloc _,by simp[Tr.az,hc],au3 _⟩;have:=World.ownsRow_lit (base:=W0.heap.size) (e:=230) (size:=2) w #[.pointer (some p),.int .i64 1] 1 hf.size vG P9;simpa[alQ]using this)
 rw[<-hc]at hC|-;have HCM:=I hC;clear hn hf hb hcb hC hc;go_enter func170,ntmps170;go_wp2_with fail
 generalize (w.alloc (.cells #[.pointer (some p),.int .i64 1] 230))=W1 at ae|-
 go_loopw [4] (λv av=>∃(wr:W_) (m:Nat),wr=av/\Hd (am3 W0 cb C v wr m)) (λv wr=>aoI W0 cb C v wr)
 case atStart=>exact⟨_,_,rfl,ae⟩
 case round=>
  clear ae;obtain⟨wr,m0,rfl,amb⟩:=hrel;obtain⟨L,A,k,cp,rfl,hlen,an,ar,hbl,hm,amc⟩:=amh amb;have AJ:=I amc;cases k with
  |zero=>
   have d1:decide ((0:Int)<(0:Int))=false:=Pf
   rw[List.length_eq_zero_iff.1 hlen,List.map_nil,Tr.az]at hm;rw[<-hm,Nat.sub_zero]at hbl;have HB:=I hbl;have HF:=I an;clear amb hlen an ar hbl hm amc AJ;go_wp2_with fail
   first|go_end0|refine bodyPost_ret (v:=.tuple #[]) Un rfl ?_
   exact⟨rfl,HF,HB⟩
  |succ m=>
   obtain⟨M8,⟨x,q,d⟩,rfl,hM⟩:=anJ hlen;obtain⟨aC,s,rfl,hs,hc0,hc1,⟨aD,ay,Ax,cx,ab,al⟩,apt⟩:=ar.top hM;obtain⟨qb,qo,qs⟩:=q;simp only at aD ay ab hc0 hc1;subst aD
   have ap:Tr.az (M8.map Prod.fst)+Tr.az x.Qx+1=least (am3 W0 cb C (.slice (some ⟨s,0,none⟩) (m+1) cp) wr):=by
    exact arT
   obtain⟨mu,aH⟩:∃mu,mu=least (am3 W0 cb C (.slice (some ⟨s,0,none⟩) (m+1) cp) wr):=⟨_,rfl⟩;rw[<-aH]at hbl amc ap;have aV:=I aH;have JX:=I ap;have aT:=I an;have HIR:=I apt;have Vu:=I hbl;have aw:=I al;have yD:=I (And.intro ay ab);have aZ:=I hM;have aW:=I hs;have Mq:=I (show mu<=C/\C<=1000000 from⟨amc,HCM⟩);have am:=Tr.jF (M8.map Prod.fst);have aM:=Tr.jF x.Qx;rw[List.length_map,hM]at am;have au:=I (show m<=1000000/\x.Qx.length<=1000000/\m+x.Qx.length<=1000000 by have:=Mq.out;omega);have aU:=au.out.1;have y3:=an.cell ab PR;have HCU:=I (show C-mu<=1000000 by have:=Mq.out;omega)
   have aY:=I (show s≠cb from λe=>by
    subst e;obtain⟨_,cur,h2⟩:=fe ar.1 rfl;unfold af at hbl;rw[hbl]at h2;cases h2)
   have d1:decide ((0:Int)<((m+1:Nat):Int))=true:=dT Zo;have aE:decide ((0:Int)<(m:Int)+1)=true:=dT Zo;have jo:decide (0<m+1)=true:=dT Zo;have w1:IntKind.i64.wrap (m:Int)=(m:Int):=IntWalk.i64_in _ Zo;have w2:(m:Int)+1-1=(m:Int):=Zo
   have w3:(m:Int)<(m:Int)+1:=Zo
   have w5:(m:Int)<=(cp:Int):=Zo
   have w6:m<=cp:=Zo
   clear amb hlen an ar hbl hm amc AJ hM apt ay ab al aC ap aH am aM;go_wp2_with fail
   have HBI:=I (af.new wr 230 #[.pointer (some ⟨qb,qo,none⟩),.int .i64 d]);have gL:=I (show ag wr (wr.alloc (.cells #[.pointer (some ⟨qb,qo,none⟩),.int .i64 d] 230))from(M _ wr).alloc _);have aa:cb<wr.heap.size:=Vu.lt;refine(anX cb (C-mu) d _ (gL.QN Vu λh=>h) HCU).mono ?_;rintro _ w2 ⟨rfl,rfl⟩;have ao:=I (show Touch (λk=>k=cb) wr ((wr.alloc (.cells #[.pointer (some ⟨qb,qo,none⟩),.int .i64 d] 230)).setCell ⟨cb,0,none⟩ (.int .i64 ((C-mu+1:Nat):Int)))from((M (λk=>k=cb) wr).alloc _).setCell (p:=⟨cb,0,none⟩) Wh _);have aoJ:=I (HBI.far (p:=⟨cb,0,none⟩) (by show wr.heap.size≠cb;omega) (.int .i64 ((C-mu+1:Nat):Int)));have apu:=I ((gL.QN Vu λh=>h).put 0 (.int .i64 ((C-mu+1:Nat):Int)));have aP:((wr.alloc (.cells #[.pointer (some ⟨qb,qo,none⟩),.int .i64 d] 230)).setCell ⟨cb,0,none⟩ (.int .i64 ((C-mu+1:Nat):Int))).heap.size=wr.heap.size+1:=P9
   have HQ0:=I aP
   have HOS:=I (show∀k,(avb (some ⟨s,0,none⟩) m cp).ownBlock=some k->k≠wr.heap.size from λk hk=>by
    have h1:=aW.out;have h2:s=k:=by simpa[Value.ownBlock]using hk
    omega)
   clear y3 hc0 hc1 hs d1 aE jo w1 w2 w3 w5 w6 aP;generalize ((wr.alloc (.cells #[.pointer (some ⟨qb,qo,none⟩),.int .i64 d] 230)).setCell ⟨cb,0,none⟩ (.int .i64 ((C-mu+1:Nat):Int)))=w7 at ao aoJ apu HQ0|-;have apV:=I (HIR.mv ao λk hk cs h=>by rw[hk]at h;exact absurd (Vu.inj h).1 Pf);have apv:=I (aT.trans' ao λk hk=>.inr (by rw[hk];exact aK));have y3:=apv.cell yD.out.2 PR;obtain⟨b0,b1,z0,z1,aB⟩:=af.two aoJ;go_wp2
   go_loopw [4,34] (λa i wq0=>∃(wq:W_) (A':Option Addr) (n' cp' j:Nat) (N:List (Nd×Addr×Int)),wq=wq0/\a=.slice A' n' cp'/\i=.int .i64 j/\j<=x.Qx.length/\Hd (n'=m+j/\N.length=n'/\N.map Prod.fst=M8.map Prod.fst++x.Qx.take j)/\Hd (alT W0 wq N (.slice A' n' cp'))/\Hd (ag W0 wq)/\Hd (af wq cb 3 #[.int .i64 ((C-mu+1:Nat):Int)])/\Hd (af wq wr.heap.size 230 #[.pointer (some ⟨qb,qo,none⟩),.int .i64 d])/\Hd (∀k,(avb A' n' cp').ownBlock=some k->k≠wr.heap.size)) (λ_ i _=>x.Qx.length-(intOf i).toNat)
   case atStart=>exact⟨_,_,m,cp,0,M8,rfl,rfl,rfl,au1 _,I ⟨rfl,aZ,by rw[List.take_zero,List.append_nil]⟩,apV,apv,apu,aoJ,HOS⟩
   case round=>
    clear y3 b0 b1 z0 z1 aB;obtain⟨wq,A',n',cp',j,N,rfl,rfl,rfl,hj,HN,Rc,ai,aF,ah,aj⟩:=hrel
    by_cases c1:j<x.Qx.length
    .have d1:decide ((j:Int)<(x.Qx.length:Int))=true:=dT Zo
     have jo:decide (j<x.Qx.length)=true:=dT c1;have aE:(j:Int)<(x.Qx.length:Int):=Zo
     have hjb:j<=1000000:=by have:=au.out;omega
     obtain⟨gx,ox,sy,aX,hgx,e0,e1,e2,e3,e4⟩:=aw.get j c1;subst aX;obtain⟨Ay,cy,rfl⟩:=e4.slice;have HNY:=I (show NdC W0 x.Qx[j] ⟨gx,ox+j*4,none⟩from⟨rfl,hgx,Ay,cy,e3,e4⟩);have nK:=I (show x.Qx.take (j+1)=x.Qx.take j++[x.Qx[j]] by rw[List.take_add_one,List.getElem?_eq_getElem c1];rfl);have HJ:=I auF;have lg:=I (show N.length<2^40 by have:=HN.out;have:=au.out;omega);clear e0 e1 e2 e3 e4 hgx;generalize x.Qx[j]=y at*;have y3:=cR ((ai.cell yD.out.2 PR).trans rfl);have b0:=cR ((ah.cell 0).trans rfl);have b1:=cR ((ah.cell 1).trans rfl);have aB:=ah.lt;have ay:qb<wq.heap.size:=Nat.lt_of_lt_of_le yD.out.1 ai.size;go_wp2_with fail
     refine cu [([(0,true),(1,true),(2,true),(3,true),(4,true),(5,true),(6,true),(7,true),(8,true),(9,true),(10,true),(11,true),(12,false)],13)] [(14,true)] Pg Ph Pg ?_;refine dJ ?_
     repeat(refine Z4 ?_)
     refine aS rfl (λK hK=>?_);go_wp2
     refine hK _ _ (aA (((M _ wq).drewN 1).alloc _)) ?_;clear hK K y3 b0 b1;have kW:=I (af.new (wq.drewN 1) 230 #[.pointer (some ⟨gx,ox+j*4,none⟩),.int .i64 (wrap64 (d+1))]);have ad:=I (show ag wq ((wq.drewN 1).alloc (.cells #[.pointer (some ⟨gx,ox+j*4,none⟩),.int .i64 (wrap64 (d+1))] 230))from((M _ wq).drewN 1).alloc _);obtain⟨ii,hi,hz0,hz1,hz2⟩:=info_parts aoi;refine dm rfl (λK hK=>?_)
     go_wp2_with (at_builtin;go_loud (refine iL _ rfl (.tmp 37) (.tmp 49) 231 rfl W0.heap.size 230 ii _ 2 16 underlying231 hi hz0 hz1 hz2 rfl Pf (.slice A' n' cp') n' (alQ N) WH (by have h:=(Rc.mv ad λ_ h=>h.elim).1;rw[HN.out.2.1]at h;exact h) (.slice (some ⟨wq.heap.size,0,none⟩) 1 1) 1 [.pointer (some ⟨gx,ox+j*4,none⟩),.int .i64 (wrap64 (d+1))] WH (Src.uT kW rfl) (by intro u hu;simp at hu;rcases hu with rfl|rfl<;>rfl) (by have:=HN.out;have:=au.out;have:=HJ.out;simp only[maxLen];omega) (by have:=HN.out;have:=au.out;have:=HJ.out;omega) (ai.trans ad).size ?_);intro v8 w8 ac jI ax;refine jw.mk ?_)
     have hown:∀k,(avb A' n' cp').ownBlock=some k->W0.heap.size<=k/\∀t cs,af wq k t cs->t=230:=λk hk=>by
      obtain⟨h1,cur,h2⟩:=fe Rc.out.1 hk;refine⟨h1,λt cs h=>?_⟩;unfold af at h;rw[h2]at h;cases h;rfl
     have Cb:=I (show Touch (λk=>(avb A' n' cp').ownBlock=some k) wq w8 from Touch.grown (ad.mono λ_ h=>h.elim) jI λk hk=>.inl hk);have anZ:=I (ai.trans' Cb λk hk=>.inr (hown k hk).1);have apW:=I (Cb.QN aF λhk=>by have:=(hown cb hk).2 _ _ aF;revert this;decide);have apX:=I (Cb.QN ah λhk=>aj _ hk rfl);have HWQ:=I (show wr.heap.size<wq.heap.size from ah.lt);obtain⟨A8,c8,rfl⟩:=mK ac
     have apY:=I (show∀k,(avb A8 (n'+1) c8).ownBlock=some k->k≠wr.heap.size from λk hk=>by
      rcases ax with h|h
      .rw[h]at hk;exact aj k hk
      .rw[h]at hk
       cases hk;have h1:=HWQ.out;have h2:=ad.size;omega)
     have LU:=I (show n'+1=m+(j+1)/\(N++[(y,(⟨gx,ox+j*4,none⟩:Addr),wrap64 (d+1))]).length=n'+1/\(N++[(y,(⟨gx,ox+j*4,none⟩:Addr),wrap64 (d+1))]).map Prod.fst=M8.map Prod.fst++x.Qx.take (j+1) by
      obtain⟨h1,h2,h3⟩:=HN.out;refine⟨by omega,by rw[auZ,h2];rfl,?_⟩;rw[List.map_append,h3,nK.out,List.append_assoc];rfl)
     have HI8:=I (show alT W0 w8 (N++[(y,(⟨gx,ox+j*4,none⟩:Addr),wrap64 (d+1))]) (.slice A8 (n'+1) c8)from⟨by rw[LU.out.2.1,amL];exact ac,λz hz=>by
      rcases List.mem_append.1 hz with hz|hz
      .exact Rc.out.2 z hz
      .obtain rfl:=List.mem_singleton.1 hz
       exact HNY⟩)
     clear ac jI ax hown aB ay;refine jw.go ?_;go_wp2_with fail
     refine EN ?_
     repeat(refine Z4 ?_)
     refine sj ?_;go_wp2
     go_roundw
     case rel=>exact⟨_,A8,n'+1,c8,j+1,_,rfl,rfl,by go_num,by have:=HJ.out;omega,LU,HI8,anZ,apW,apX,apY⟩
     case measure=>simp[intOf];have:=HJ.out;omega
    .have d1:decide ((j:Int)<(x.Qx.length:Int))=false:=dF Zo
     have jo:decide (j<x.Qx.length)=false:=dF c1;obtain rfl:j=x.Qx.length:=Zo
     have al1:=I (show am3 W0 cb C (.slice A' n' cp') wq (mu-1)from⟨N,A',n',cp',rfl,HN.out.2.1,ai,Rc,by
      have h:=aF.out
      rwa [show C-mu+1=C-(mu-1) by have:=JX.out;have:=Mq.out;omega]at h,by
      rw[HN.out.2.2,avm,Xe];have:=JX.out;omega,by have:=Mq.out;omega⟩)
     have apZ:=I (show 1<=mu by have:=JX.out;omega);go_wp2
     go_roundw
     case rel=>exact⟨_,_,rfl,al1⟩
     case measure=>
      have h1:aoI W0 cb C (.slice A' n' cp') wq<=mu-1:=least_le al1;have h2:mu=aoI W0 cb C (.slice (some ⟨s,0,none⟩) (m+1) cp) wr:=aV;have h3:=apZ.out;omega
theorem an0(n:Nd)(sl:Value)(w:W_)(hC:Tr.count n<=1000000)(hr:aD w n.Qx sl):C_ 162 #[nv n sl] w λe w'=>e=.returned (V (Tr.count n:Int))/\ag w w':=by
 obtain⟨A,cap,rfl⟩:=hr.slice;have ak:∀(fn:Fn) (first cap:Array Value) (w:W_),(Instr.makeFunc fn first cap).run Tryz.prog w=.ok (.func fn first cap) w:=λ_ _ _ _=>rfl
 have aj:=(M (λ_=>False) w).alloc (.cells #[V n.QI,S_ n.QG,V n.ah,.slice A n.Qx.length cap] 31);have hb0:=af.new w 31 #[V n.QI,S_ n.QG,V n.ah,.slice A n.Qx.length cap];have hs0:(w.alloc (.cells #[V n.QI,S_ n.QG,V n.ah,.slice A n.Qx.length cap] 31)).heap.size=w.heap.size+1:=P9
 have HNC:=I (show NdC (w.alloc (.cells #[V n.QI,S_ n.QG,V n.ah,.slice A n.Qx.length cap] 31)) n (B_ w.heap.size 0)from⟨rfl,hb0.lt,A,cap,hb0.cell 3,hr.QH aj⟩);have aC:=I (af.new2 w (.cells #[V n.QI,S_ n.QG,V n.ah,.slice A n.Qx.length cap] 31) 3 #[V 0]);have jQ:=I aj;have HC:=I hC;have ae:=I hs0;clear hb0 aj hs0 hr hC;go_enter func162,ntmps162;go_wp2_with fail
 refine(anY n (w.alloc (.cells #[V n.QI,S_ n.QG,V n.ah,.slice A n.Qx.length cap] 31)) _ (B_ w.heap.size 0) (w.heap.size+1) HNC.out HC.out Q_ aC.out (by rw[ae.out];exact au3 _)).mono ?_;rintro _ w2 ⟨rfl,hf,hb⟩;have HF:=I (jQ.trans hf);have q0:=hb.cell 0;clear hf hb;go_wp2
 go_ret;exact⟨rfl,HF.out⟩
end
end Go.Proofs.YtabjglnjjdcfmaaGreatDoor
