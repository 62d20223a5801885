/- Part 33 of 41 of a proof. No condition. -/
import Derived.Test.YtabjglnjjdcfmaaGreatDoorWe32
set_option maxRecDepth 100000
set_option maxHeartbeats 2000000
namespace Go.Proofs.YtabjglnjjdcfmaaGreatDoor
open _root_.Go.World renaming setCell->auX
open _root_.Go.Proofs.Tryz
section
open Go.RowKit
open Tr (Nd)
open Lx (aB)
open D7 (R cZ kE eB eP dA bV fD di pArg aln)
attribute [local go_sem] gD stillUpon
theorem Sw(F:Fn)(a b:Array Value)(w:W_):(binOp .eql 81 (.func F a b) .nilFunc).run Tryz.prog w=.ok (.bool false) w:=by
 have h:∀d,(Op.equalIn (d+1) 81 (.func F a b) .nilFunc).run Tryz.prog w=.ok false w:=λd=>by simp[Op.equalIn,run_underlying underlying81]
 simp only[binOp];simp[Op.equal,Op.maxDepth,h 9999]
theorem U4(w:W_):(binOp .eql 81 .nilFunc .nilFunc).run Tryz.prog w=.ok (.bool true) w:=by
 have h:∀d,(Op.equalIn (d+1) 81 .nilFunc .nilFunc).run Tryz.prog w=.ok true w:=λd=>by simp[Op.equalIn,run_underlying underlying81]
 simp only[binOp];simp[Op.equal,Op.maxDepth,h 9999]
theorem amt{c:Cf}{k:Kp}{t:aB}{r:List aB}(f:Nat)(op:List Nat)(hl:(c.at k).l=t::r):pArg c.E (f+1) op (c.at k)=match D7.alo c.P t with
  |some x=>.ok (Np.CG [x]) (c.at k.up)
  |none=>if Np.dx 123 (t::r)then(kE c.E f 125 op (c.at k)).map Np.CG
   else if t.QI=4/\Np.special t.QG=false then
    match D7.alA c.tb t.QG with
    |some m=>if 0<m.params then .err (Np.place c.en (t::r)) 3 else(aln c.E f 0 op t (c.at k.up)).map Np.CG
    |none=>(D7.plainName t (c.at k.up)).map Np.CG
   else .err (Np.place c.en (t::r)) 3:=by
 rw[<-Cf.alE];exact asf
theorem ao7{c:Cf}{k:Kp}(f:Nat)(op:List Nat)(hl:(c.at k).l=[]):pArg c.E (f+1) op (c.at k)=.err (Np.place c.en []) 3:=by
 exact asf
theorem aoz{c:Cf}{k:Kp}{t:aB}{r:List aB}(f:Nat)(op:List Nat)(hl:(c.at k).l=t::r)(hx:D7.alo c.P t=none)(hm:Np.dx 123 (t::r)=false)(h4:t.QI=4)(ah:qP t.QG=none):
  (∃(X:R (List Nd)) (z:Bool),alI c.tb t.QG=(0,z)/\pArg c.E (f+1) op (c.at k)=X.map Np.CG/\fD c.E (f+1) op t (c.at k.up)=X)\/
  (∃p,alI c.tb t.QG=(p,true)/\0<p/\pArg c.E (f+1) op (c.at k)=.err (Np.place c.en (t::r)) 3):=by
 rw[amt f op hl,hx,FD c f op t _ ah];unfold alI;simp only
 rw[if_neg (by simp[hm]),if_pos ⟨h4,(zu t.QG).1 ah⟩];cases D7.alA c.tb t.QG with
 |none=>exact .inl ⟨_,false,rfl,rfl,rfl⟩
 |some m=>
  simp only
  by_cases hp:0<m.params
  .exact .inr ⟨_,rfl,hp,by rw[if_pos hp]⟩
  .have h0:m.params=0:=by omega
   exact .inl ⟨_,true,by rw[h0],by rw[if_neg hp],by rw[h0]⟩
theorem Yn(c:Cf)(hc:c.Good)(bm:Nat)(aI:c.Dn bm)(f:Nat)(ae:xM c f)(hname:Jo c (f+1)):xN c (f+1):=by
 intro k op w h hop hne;have au:=hc.tl;have FH:=I (λ(w':W_) (hf:ag w w')=>IC c hc k op w' ah6);have HT:=I F_;have HA:=I atV;have HR:=I (λ(w':W_) (hf:ag w w')=>Cu c hc k op w' ah6);have ade:=I (λ(s:List UInt8) (w':W_) (hf:ag w w')=>JW c hc k op s w' ah6);have JN:=I hname;have OJ:=I ae;have agx:=I hc.D9;have H:=I h;have oJ:=I hop;have ax:=I h.low.size;have aF:c.g<w.heap.size:=h.Ap;have aY:=I hne;have uf:=I aI;have Sr:=I (aI.at h);refine Calls.via λQ hQ=>?_
 have HQ:=I hQ;clear hne h hop hc hQ hname ae aI;unfold Jm at FH;generalize hl:(c.at k).l=l at FH HT HA HR;have HL:=I hl;clear hl;unfold lV;go_enter func126,ntmps126;go_wp2_with fail
 refine(FH _ aqI).mono ?_;rintro e w1 (⟨x,b,hx,rfl,aa,hp,hm⟩|⟨hx,rfl,hf⟩)
 .have Zi:=I ((Mp.QH aui).trans hm)
  have lU:=I (hm.QN ((af.new w 31 yM).alloc (.cells #[V 0,V 0] 45)) Zo Pf);have tL:=I (hm.QN (af.new2 w (.cells yM 31) 45 #[V 0,V 0]) Zo Pf);have agy:aP (w.heap.size+1+1) w1 [x] (.slice (A_ b 0) 1 1):=aa.base P9;have jK:=I agy;have oL:=I hp
  have HX:=I (show pArg c.E (f+1) op (c.at k)=.ok (Np.CG [x]) (c.at k.up)from by
   cases l with
   |nil=>cases hx
   |cons t r=>
    rw[amt f op HL.out];simp only[show D7.alo c.P t=some x from hx])
  rw[HX.out]at HQ;clear hm aa agy hp hx;go_wp2_with fail
  refine(j6 (A_ b 0) 1 1 _).mono ?_;rintro _ w7 ⟨rfl,hf⟩;have iY:=I (hf.QN lU λh=>h);have jg:=I (hf.QN tL λh=>h);have HM:=I (Zi.trans (Mp.QH hf));have HP:=I (oL.QH hf);have Sy:=I (jK.QH hf);clear hf;obtain⟨p0,p1,p2,p3,y0,y1,y2,y3,lW⟩:=af.QM iY;obtain⟨q0,q1,z0,z1,ai⟩:=af.two jg;go_wp2_with fail
  have hne:w.heap.size≠w.heap.size+1:=Zo
  have n1:=(iY.gH (V 1) (E_) (V 0) (.slice (A_ b 0) 1 1)).nJ hne (V 0) (V 0);have IQ:=jg.uJ (Ne.symm hne) (V 1) (E_) (V 0) (.slice (A_ b 0) 1 1);have n2:=IQ.fT (V 0) (V 0);have am:=(HP.aO iY Pf Zo ax (V 1) (E_) (V 0) (.slice (A_ b 0) 1 1)).aH IQ Pf Zo ail (V 0) (V 0);have IU:=(Sy.far (yL w7 w.heap.size (V 1) (E_) (V 0) (.slice (A_ b 0) 1 1)) Zo).other IQ Pf as4;have pq:Mp c.g c.W0.heap.size w _:=(HM.aO (g:=w.heap.size) ET (V 1) (E_) (V 0) (.slice (A_ b 0) 1 1)).aH (g:=w.heap.size+1) Ls (V 0) (V 0);obtain⟨g0,g1,g2,g3,_⟩:=af.QM n1;obtain⟨f0,f1,_⟩:=af.two n2;simp only[aH,aO]at g0 g1 g2 g3 f0 f1 am IU pq
  refine bodyPost_ret (v:=.tuple #[.agg #[V 1,E_,V 0,.slice (A_ b 0) 1 1],aG 0 0]) Jy rfl ?_;exact HQ _ _ ⟨(A_ b 0),1,k.up,rfl,IU.base Zo,Nat.zero_le _,rfl,Nat.le_succ _,am,pq⟩
 .have aK:=I atd
  have lU:=I (hf.QN ((af.new w 31 yM).alloc (.cells #[V 0,V 0] 45)) PR);have tL:=I adL;clear hf;cases l with
  |nil=>
   have Ay:Np.dx 123 ([]:List aB)=false:=rfl;have rO:=I (show pArg c.E (f+1) op (c.at k)=.err (Np.place c.en []) 3 from ao7 f op HL);rw[rO.out]at HQ;unfold yK at HT;go_wp2_with fail
   refine(HT _ aK).mono ?_;rintro _ w2 ⟨rfl,hf⟩;have hf3:=(aK.trans hf).alloc (.cells #[V 0,E_,V (c.en:Int),V (c.en:Int)] 131)|>.alloc (.cells #[V 0,V 0] 45)
   have al:=(hf.QN lU λh=>h).alloc (.cells #[V 0,E_,V (c.en:Int),V (c.en:Int)] 131)|>.alloc (.cells #[V 0,V 0] 45)
   have hb3:=(hf.QN tL λh=>h).alloc (.cells #[V 0,E_,V (c.en:Int),V (c.en:Int)] 131)|>.alloc (.cells #[V 0,V 0] 45)
   have ap:af _ w2.heap.size 131 #[V 0,E_,V (c.en:Int),V (c.en:Int)]:=(af.new w2 131 #[V 0,E_,V (c.en:Int),V (c.en:Int)]).alloc (.cells #[V 0,V 0] 45);have an:af _ (w2.heap.size+1) 45 #[V 0,V 0]:=af.new2 w2 (.cells #[V 0,E_,V (c.en:Int),V (c.en:Int)] 131) 45 #[V 0,V 0];have aq:=I atD;clear hf;go_wp2_with fail
   generalize ((w2.alloc (.cells #[V 0,E_,V (c.en:Int),V (c.en:Int)] 131)).alloc (.cells #[V 0,V 0] 45))=w3 at hf3 al hb3 ap an|-;have bJ:=I hf3;have oF:=I al;have dY:=I hb3;have Ym:=I ap;have agz:=I an;clear hf3 al hb3 ap an;refine(HA 123 _ bJ).mono ?_;rintro _ w4 ⟨rfl,hf⟩;have eZ:=I aqJ;have Sz:=I auD;have Az:=I (hf.QN dY λh=>h);have adg:=I (hf.QN Ym λh=>h);have adh:=I (hf.QN agz λh=>h);have Es:=I arK;clear hf;rw[Ay];go_wp2_with fail
   obtain⟨t0,t1,t2,t3,_,_,_,_,FI⟩:=af.QM adg;have r0:=cR t0
   go_quiet (fail)
   have eY:=I (eZ.drewN nq);have ad3:=I (Sz.drewN nq);have ad4:=I (Az.drewN nq);have adj:=I (adg.drewN nq);have ad5:=I (adh.drewN nq);clear t0 t1 t2 t3 FI r0;generalize w4.drewN nq=w6 at eY ad3 ad4 adj ad5|-;go_wp2_with fail
   refine(HR _ eY).mono ?_;rintro _ w5 ⟨rfl,hf⟩;have Ga:=I abW;have Nf:=I auc;have adi:=I aud;have FJ:=I aue;clear hf;generalize Np.place c.en ([])=pl at HQ|-;obtain⟨q0,q1,z0,z1,ab⟩:=af.two FJ
   (try unfold aG)
   go_wp2_with fail
   have b8:=FJ.fT (V (pl:Int)) (V 3);have bn:=Nf.nJ (L:=w.heap.size) (g:=w2.heap.size+1) R4 (V (pl:Int)) (V 3);have bf:=adi.nJ (L:=w.heap.size+1) (g:=w2.heap.size+1) R4 (V (pl:Int)) (V 3);have GJ:Mp c.g c.W0.heap.size w _:=Ga.aH (g:=w2.heap.size+1) arq (V (pl:Int)) (V 3);simp only[aH]at b8 bn bf GJ;generalize (auX (auX w5 (B_ (w2.heap.size+1) 0) _) (B_ (w2.heap.size+1) 1) _)=W6 at b8 bn bf GJ|-;clear q0 q1 z0 z1 ab;have alM:=I b8;have ic:=I bn;have KO:=I bf;have Dp:=I GJ;clear bn bf GJ b8;refine uV (λW=>af W (w2.heap.size+1) 45 #[V (pl:Int),V 3]/\af W w.heap.size 31 yM) [(0,true),(1,true),(2,false),(3,false)] Pg Ph Pg ⟨alM.drewN 1,ic.drewN 1⟩ ?_;refine ak rfl (λK hK=>?_);rw[if_pos (by rfl)];refine⟨.agg yM,λW hW=>?_,hK _ ?_⟩
   .go_simp
   clear hK K;refine ak rfl (λK hK=>?_);rw[if_pos (by rfl)];refine⟨.agg #[V (pl:Int),V 3],λW hW=>?_,hK _ ?_⟩
   .obtain⟨h1,_⟩:=hW
    obtain⟨p0,p1,_⟩:=af.two h1;go_simp
   clear hK K;obtain⟨p0,p1,p2,p3,y0,y1,y2,y3,lW⟩:=af.QM (ic.drewN 1);refine aS rfl (λK hK=>?_);go_wp2_with fail
   have hne:w.heap.size≠w.heap.size+1:=Zo
   have n1:=(ic.drewN 1).gH (V 0) (E_) (V 0) (N_);have n2:=(KO.drewN 1).uJ (Ne.symm hne) (V 0) (E_) (V 0) (N_);have n8:=(alM.drewN 1).uJ (L:=w2.heap.size+1) (g:=w.heap.size) R4 (V 0) (E_) (V 0) (N_);have Sn:Mp c.g c.W0.heap.size w _:=(Dp.drewN 1).aO (g:=w.heap.size) ET (V 0) (E_) (V 0) (N_);simp only[aO]at n1 n2 n8 Sn;generalize (auX (auX (auX (auX (W6.drewN 1) (B_ w.heap.size 0) _) (B_ w.heap.size 1) _) (B_ w.heap.size 2) _) (B_ w.heap.size 3) _)=W7 at n1 n2 n8 Sn|-;refine hK _ _ ⟨n8,n1⟩ ?_;clear hK K p0 p1 p2 p3 y0 y1 y2 y3 lW;have av:=I n1;have Sb:=I n2;have LU:=I n8;have Cx:=I Sn;clear n1 n2 n8 Sn;obtain⟨q0,q1,z0,z1,ai⟩:=af.two Sb;refine aS rfl (λK hK=>?_);go_wp2_with fail
   have m1:=av.nJ hne (V (pl:Int)) (V 3);have m2:=Sb.fT (V (pl:Int)) (V 3);have m8:=LU.nJ (L:=w2.heap.size+1) (g:=w.heap.size+1) R4 (V (pl:Int)) (V 3);have xO:Mp c.g c.W0.heap.size w _:=Cx.aH (g:=w.heap.size+1) Ls (V (pl:Int)) (V 3);simp only[aH]at m1 m2 m8 xO;generalize (auX (auX W7 (B_ (w.heap.size+1) 0) _) (B_ (w.heap.size+1) 1) _)=W8 at m1 m2 m8 xO|-;refine hK _ _ ⟨m8,m1⟩ ?_;clear hK K q0 q1 z0 z1 ai;refine sj ?_;go_wp2_with fail
   obtain⟨g0,g1,g2,g3,_⟩:=af.QM m1;obtain⟨f0,f1,_⟩:=af.two m2
   exact aaU
  |cons t r=>
   have HK:=I asn;have HX:=I (show D7.alo c.P t=none from hx);clear hx;unfold yK at HT;go_wp2_with fail
   refine(HT _ aK).mono ?_;rintro _ w2 ⟨rfl,hf⟩;have hf3:=(aK.trans hf).alloc (.cells #[V (t.QI:Int),S_ t.QG,V (t.from_:Int),V (t.eF:Int)] 131)|>.alloc (.cells #[V 0,V 0] 45)
   have al:=(hf.QN lU λh=>h).alloc (.cells #[V (t.QI:Int),S_ t.QG,V (t.from_:Int),V (t.eF:Int)] 131)|>.alloc (.cells #[V 0,V 0] 45)
   have hb3:=(hf.QN tL λh=>h).alloc (.cells #[V (t.QI:Int),S_ t.QG,V (t.from_:Int),V (t.eF:Int)] 131)|>.alloc (.cells #[V 0,V 0] 45)
   have ap:af _ w2.heap.size 131 #[V (t.QI:Int),S_ t.QG,V (t.from_:Int),V (t.eF:Int)]:=(af.new w2 131 #[V (t.QI:Int),S_ t.QG,V (t.from_:Int),V (t.eF:Int)]).alloc (.cells #[V 0,V 0] 45);have an:af _ (w2.heap.size+1) 45 #[V 0,V 0]:=af.new2 w2 (.cells #[V (t.QI:Int),S_ t.QG,V (t.from_:Int),V (t.eF:Int)] 131) 45 #[V 0,V 0];have aq:=I atD;clear hf;go_wp2_with fail
   generalize ((w2.alloc (.cells #[V (t.QI:Int),S_ t.QG,V (t.from_:Int),V (t.eF:Int)] 131)).alloc (.cells #[V 0,V 0] 45))=w3 at hf3 al hb3 ap an|-;have bJ:=I hf3;have oF:=I al;have dY:=I hb3;have Ym:=I ap;have agz:=I an;clear hf3 al hb3 ap an
   have Rc:=I (λ(w':W_) (hp:Ps c k op w') (hne:kE c.E f 125 op (c.at k)≠.out)=>show Calls _ _ _ _ (oK c k op (kE c.E f 125 op (c.at k)) w')from by
    exact OJ k op 125 w' hp oJ HK hne)
   cases Ay:Np.dx 123 (t::r)with
   |true=>
    have rO:=I (show pArg c.E (f+1) op (c.at k)=(kE c.E f 125 op (c.at k)).map Np.CG from by
     rw[amt f op HL.out];simp only[HX.out];rw[if_pos Ay])
    rw[rO.out]at HQ aY;refine(HA 123 _ bJ).mono ?_;rintro _ w4 ⟨rfl,hf⟩;have eZ:=I aqJ;have Sz:=I auD;have Az:=I (hf.QN dY λh=>h);have adg:=I (hf.QN Ym λh=>h);have adh:=I (hf.QN agz λh=>h);have Es:=I arK;clear hf;rw[Ay];go_wp2_with fail
    refine(Rc w4 (H.QH eZ) (R.oC aY)).mono ?_;intro e w5 hres;have ac:=hres.parts (R.oC aY);clear hres;generalize kE c.E f 125 op (c.at k)=X at aY HQ ac;obtain⟨A,n,cp,i,er,rfl,hm,hend⟩:=ac;have Ga:=I (Es.trans hm);have Nf:=I (hm.QN Sz Zo Pf);have adi:=I (hm.QN Az Zo Pf);have FJ:=I (hm.QN adh R4 Pf);have aT:w.heap.size+1<w4.heap.size:=Az.lt;clear hm
    rcases hend with⟨QS,rest,k',hX,rfl,rfl,rfl,aa,hdr,ad,hp⟩|⟨hX,aj⟩
    .have jK:=I aa
     have ao:=I hdr;have aJ:=I ad;have wN:=I hp;clear aa hdr ad hp;rw[hX]at HQ;clear hX;obtain⟨q0,q1,z0,z1,ab⟩:=af.two FJ
     (try unfold aG)
     go_wp2_with fail
     have b8:=FJ.fT (V 0) (V 0);have bn:=Nf.nJ (L:=w.heap.size) (g:=w2.heap.size+1) R4 (V 0) (V 0);have bf:=adi.nJ (L:=w.heap.size+1) (g:=w2.heap.size+1) R4 (V 0) (V 0);have GJ:Mp c.g c.W0.heap.size w _:=Ga.aH (g:=w2.heap.size+1) arq (V 0) (V 0);have yY:=wN.aH FJ Pf R4 ah8 (V 0) (V 0);have FK:=jK.other FJ Pf (dS w5 (w2.heap.size+1) (V 0) (V 0));simp only[aH]at b8 bn bf GJ yY FK;generalize (auX (auX w5 (B_ (w2.heap.size+1) 0) _) (B_ (w2.heap.size+1) 1) _)=W6 at b8 bn bf GJ yY FK|-;clear q0 q1 z0 z1 ab;have ic:=I bn;have KO:=I bf;have Dp:=I GJ;have pg:=I yY;have Sm:=I FK;clear b8 bn bf GJ yY FK;refine(j6 A QS.length cp _).mono ?_;rintro _ w7 ⟨rfl,hf⟩;have iY:=I (hf.QN ic λh=>h);have jg:=I (hf.QN KO λh=>h);have HM:=I (Dp.trans (Mp.QH hf));have HP:=I (pg.QH hf);have Sy:=I (Sm.out.QH hf);clear hf;obtain⟨p0,p1,p2,p3,y0,y1,y2,y3,lW⟩:=af.QM iY;obtain⟨q0,q1,z0,z1,ai⟩:=af.two jg;go_wp2_with fail
     have hne:w.heap.size≠w.heap.size+1:=Zo
     have n1:=(iY.gH (V 1) (E_) (V 0) (.slice A QS.length cp)).nJ hne (V 0) (V 0);have IQ:=jg.uJ (Ne.symm hne) (V 1) (E_) (V 0) (.slice A QS.length cp);have n2:=IQ.fT (V 0) (V 0);have am:=(HP.aO iY Pf Zo ax (V 1) (E_) (V 0) (.slice A QS.length cp)).aH IQ Pf Zo ail (V 0) (V 0);have IU:=(Sy.far anj Zo).other IQ Pf as4;have pq:Mp c.g c.W0.heap.size w _:=(HM.aO (g:=w.heap.size) ET (V 1) (E_) (V 0) (.slice A QS.length cp)).aH (g:=w.heap.size+1) Ls (V 0) (V 0);obtain⟨g0,g1,g2,g3,_⟩:=af.QM n1;obtain⟨f0,f1,_⟩:=af.two n2;simp only[aH,aO]at g0 g1 g2 g3 f0 f1 am IU pq
     refine bodyPost_ret (v:=.tuple #[.agg #[V 1,E_,V 0,.slice A QS.length cp],aG 0 0]) Jy rfl ?_;exact HQ _ _ ⟨A,cp,k',rfl,IU.base Es.size,Nat.zero_le _,ao,aJ,am,pq⟩
    .have F7:=I aj
     have e0:=alr aj;rw[hX]at HQ;clear aj hX;obtain⟨q0,q1,z0,z1,ab⟩:=af.two FJ
     (try unfold aG)
     go_wp2_with fail
     have b8:=FJ.fT (V (i:Int)) (V (er:Int));have bn:=Nf.nJ (L:=w.heap.size) (g:=w2.heap.size+1) R4 (V (i:Int)) (V (er:Int));have bf:=adi.nJ (L:=w.heap.size+1) (g:=w2.heap.size+1) R4 (V (i:Int)) (V (er:Int));have GJ:Mp c.g c.W0.heap.size w _:=Ga.aH (g:=w2.heap.size+1) arq (V (i:Int)) (V (er:Int));simp only[aH]at b8 bn bf GJ;generalize (auX (auX w5 (B_ (w2.heap.size+1) 0) _) (B_ (w2.heap.size+1) 1) _)=W6 at b8 bn bf GJ|-;clear q0 q1 z0 z1 ab;have alM:=I b8;have ic:=I bn;have KO:=I bf;have Dp:=I GJ;clear bn bf GJ b8;refine uV (λW=>af W (w2.heap.size+1) 45 #[V (i:Int),V (er:Int)]/\af W w.heap.size 31 yM) [(0,true),(1,true),(2,false),(3,false)] Pg Ph Pg ⟨alM.drewN 1,ic.drewN 1⟩ ?_;refine ak rfl (λK hK=>?_);rw[if_pos (by rfl)];refine⟨.agg yM,λW hW=>?_,hK _ ?_⟩
     .go_simp
     clear hK K;refine ak rfl (λK hK=>?_);rw[if_pos (by rfl)];refine⟨.agg #[V (i:Int),V (er:Int)],λW hW=>?_,hK _ ?_⟩
     .obtain⟨h1,_⟩:=hW
      obtain⟨p0,p1,_⟩:=af.two h1;go_simp
     clear hK K;obtain⟨p0,p1,p2,p3,y0,y1,y2,y3,lW⟩:=af.QM (ic.drewN 1);refine aS rfl (λK hK=>?_);go_wp2_with fail
     have hne:w.heap.size≠w.heap.size+1:=Zo
     have n1:=(ic.drewN 1).gH (V 0) (E_) (V 0) (N_);have n2:=(KO.drewN 1).uJ (Ne.symm hne) (V 0) (E_) (V 0) (N_);have n8:=(alM.drewN 1).uJ (L:=w2.heap.size+1) (g:=w.heap.size) R4 (V 0) (E_) (V 0) (N_);have Sn:Mp c.g c.W0.heap.size w _:=(Dp.drewN 1).aO (g:=w.heap.size) ET (V 0) (E_) (V 0) (N_);simp only[aO]at n1 n2 n8 Sn;generalize (auX (auX (auX (auX (W6.drewN 1) (B_ w.heap.size 0) _) (B_ w.heap.size 1) _) (B_ w.heap.size 2) _) (B_ w.heap.size 3) _)=W7 at n1 n2 n8 Sn|-;refine hK _ _ ⟨n8,n1⟩ ?_;clear hK K p0 p1 p2 p3 y0 y1 y2 y3 lW;have av:=I n1;have Sb:=I n2;have LU:=I n8;have Cx:=I Sn;clear n1 n2 n8 Sn;obtain⟨q0,q1,z0,z1,ai⟩:=af.two Sb;refine aS rfl (λK hK=>?_);go_wp2_with fail
     have m1:=av.nJ hne (V (i:Int)) (V (er:Int));have m2:=Sb.fT (V (i:Int)) (V (er:Int));have m8:=LU.nJ (L:=w2.heap.size+1) (g:=w.heap.size+1) R4 (V (i:Int)) (V (er:Int));have xO:Mp c.g c.W0.heap.size w _:=Cx.aH (g:=w.heap.size+1) Ls (V (i:Int)) (V (er:Int));simp only[aH]at m1 m2 m8 xO;generalize (auX (auX W7 (B_ (w.heap.size+1) 0) _) (B_ (w.heap.size+1) 1) _)=W8 at m1 m2 m8 xO|-;refine hK _ _ ⟨m8,m1⟩ ?_;clear hK K q0 q1 z0 z1 ai;refine sj ?_;go_wp2_with fail
     obtain⟨g0,g1,g2,g3,_⟩:=af.QM m1;obtain⟨f0,f1,_⟩:=af.two m2
     exact aqK
   |false=>
    refine(HA 123 _ bJ).mono ?_;rintro _ w4 ⟨rfl,hf⟩;have eZ:=I aqJ;have Sz:=I auD;have Az:=I (hf.QN dY λh=>h);have adg:=I (hf.QN Ym λh=>h);have adh:=I (hf.QN agz λh=>h);have Es:=I arK;clear hf;rw[Ay];go_wp2_with fail
    by_cases h4:t.QI=4
    .have e4:=Bq _ 4 h4
     have H4:=I h4;cases ah:qP t.QG with
     |some F=>
      have rO:=I (show pArg c.E (f+1) op (c.at k)=.err (Np.place c.en (t::r)) 3 from by
       rw[amt f op HL.out];simp only[HX.out];rw[if_neg (by simp[Ay]),if_neg (λh=>by rw[(zu t.QG).2 h.2]at ah;cases ah)])
      rw[rO.out]at HQ;clear h4;obtain⟨t0,t1,t2,t3,_,_,_,_,FI⟩:=af.QM (adg.drewN 1);obtain⟨ov,hb,_⟩:=((H.QH eZ).QH ((M _ _).drewN 1)).box;have q6:=(hb.cell 6).trans (congrArg some uf.out.1);have ay:=hb.lt;have aL:=((eZ.drewN 1).block bm (Array.getElem?_eq_some_iff.1 Sr).1 PR).trans Sr;have hlk:=OU (w:=w4.drewN 1) (bm:=bm) (g:=c.g) (clock:=9) aL t.QG false;rw[ah]at hlk;simp only[if_false,Bool.false_eq_true]at hlk
      (try unfold mM at hlk)
      have aw:=Sw;have hen:=U4;clear hb aL;refine uV (λW=>W=w4.drewN 1) [(0,true),(1,true),(2,true),(3,true),(4,true),(5,true),(6,true),(7,true),(8,true),(9,true),(10,true),(11,true),(12,true),(13,true)] Pg Ph Pg rfl ?_;refine ak rfl (λK hK=>?_);rw[if_pos (by rfl)];refine⟨(.pointer (A_ w2.heap.size 0)),λW hW=>?_,?_⟩
      .subst hW
       go_simp
      go_simp;refine hK _ ?_;clear hK K;refine ak rfl (λK hK=>?_);rw[if_pos (by rfl)];refine⟨(V (t.QI:Int)),λW hW=>?_,?_⟩
      .subst hW
       go_simp
      go_simp;refine hK _ ?_;clear hK K;refine ak rfl (λK hK=>?_);rw[if_pos (by rfl)];refine⟨(.bool true),λW hW=>?_,?_⟩
      .subst hW
       go_simp;have:=H4.out;omega
      go_simp;refine hK _ ?_;clear hK K;refine ak rfl (λK hK=>?_);rw[if_pos (by rfl)];refine⟨(.bool true),λW hW=>?_,?_⟩
      .subst hW
       go_simp
      go_simp;refine hK _ ?_;clear hK K;refine ak rfl (λK hK=>?_);rw[if_pos (by rfl)];refine⟨(.pointer (A_ c.g 0)),λW hW=>?_,?_⟩
      .subst hW
       go_simp
      go_simp;refine hK _ ?_;clear hK K;refine ak rfl (λK hK=>?_);rw[if_pos (by rfl)];refine⟨(.pointer (A_ c.g 0)),λW hW=>?_,?_⟩
      .subst hW
       go_simp
      go_simp;refine hK _ ?_;clear hK K;refine ak rfl (λK hK=>?_);rw[if_pos (by rfl)];refine⟨(.pointer (A_ c.g 6)),λW hW=>?_,?_⟩
      .subst hW
       go_simp
      go_simp;refine hK _ ?_;clear hK K;refine ak rfl (λK hK=>?_);rw[if_pos (by rfl)];refine⟨(.map (some bm)),λW hW=>?_,?_⟩
      .subst hW
       go_simp
      go_simp;refine hK _ ?_;clear hK K;refine ak rfl (λK hK=>?_);rw[if_pos (by rfl)];refine⟨(.pointer (A_ w2.heap.size 1)),λW hW=>?_,?_⟩
      .subst hW
       go_simp
      go_simp;refine hK _ ?_;clear hK K;refine ak rfl (λK hK=>?_);rw[if_pos (by rfl)];refine⟨(S_ t.QG),λW hW=>?_,?_⟩
      .subst hW
       go_simp
      go_simp;refine hK _ ?_;clear hK K;refine ak rfl (λK hK=>?_);rw[if_pos (by rfl)];refine⟨(.func (.func F) #[.pointer (A_ c.g 0)] #[]),λW hW=>?_,?_⟩
      .subst hW
       go_simp
      go_simp;refine hK _ ?_;clear hK K;refine ak rfl (λK hK=>?_);rw[if_pos (by rfl)];refine⟨(.bool false),λW hW=>?_,?_⟩
      .subst hW
       go_simp
      go_simp;refine hK _ ?_;clear hK K;refine ak rfl (λK hK=>?_);rw[if_pos (by rfl)];refine⟨(.bool false),λW hW=>?_,?_⟩
      .subst hW
       go_simp
      go_simp;refine hK _ ?_;clear hK K;refine ak rfl (λK hK=>?_);rw[if_pos (by rfl)];refine⟨(.bool false),λW hW=>?_,?_⟩
      .subst hW
       go_simp
      go_simp;refine hK _ ?_;clear hK K;refine sj ?_;have eY:=I (eZ.drewN 1);have ad3:=I (Sz.drewN 1);have ad4:=I (Az.drewN 1);have adj:=I (adg.drewN 1);have ad5:=I (adh.drewN 1);clear t0 t1 t2 t3 FI q6 ay hlk aw hen;generalize w4.drewN 1=w6 at eY ad3 ad4 adj ad5|-;go_wp2_with fail
      refine(HR _ eY).mono ?_;rintro _ w5 ⟨rfl,hf⟩;have Ga:=I abW;have Nf:=I auc;have adi:=I aud;have FJ:=I aue;clear hf;generalize Np.place c.en (t::r)=pl at HQ|-;obtain⟨q0,q1,z0,z1,ab⟩:=af.two FJ
      (try unfold aG)
      go_wp2_with fail
      have b8:=FJ.fT (V (pl:Int)) (V 3);have bn:=Nf.nJ (L:=w.heap.size) (g:=w2.heap.size+1) R4 (V (pl:Int)) (V 3);have bf:=adi.nJ (L:=w.heap.size+1) (g:=w2.heap.size+1) R4 (V (pl:Int)) (V 3);have GJ:Mp c.g c.W0.heap.size w _:=Ga.aH (g:=w2.heap.size+1) arq (V (pl:Int)) (V 3);simp only[aH]at b8 bn bf GJ;generalize (auX (auX w5 (B_ (w2.heap.size+1) 0) _) (B_ (w2.heap.size+1) 1) _)=W6 at b8 bn bf GJ|-;clear q0 q1 z0 z1 ab;have alM:=I b8;have ic:=I bn;have KO:=I bf;have Dp:=I GJ;clear bn bf GJ b8;refine uV (λW=>af W (w2.heap.size+1) 45 #[V (pl:Int),V 3]/\af W w.heap.size 31 yM) [(0,true),(1,true),(2,false),(3,false)] Pg Ph Pg ⟨alM.drewN 1,ic.drewN 1⟩ ?_;refine ak rfl (λK hK=>?_);rw[if_pos (by rfl)];refine⟨.agg yM,λW hW=>?_,hK _ ?_⟩
      .go_simp
      clear hK K;refine ak rfl (λK hK=>?_);rw[if_pos (by rfl)];refine⟨.agg #[V (pl:Int),V 3],λW hW=>?_,hK _ ?_⟩
      .obtain⟨h1,_⟩:=hW
       obtain⟨p0,p1,_⟩:=af.two h1;go_simp
      clear hK K;obtain⟨p0,p1,p2,p3,y0,y1,y2,y3,lW⟩:=af.QM (ic.drewN 1);refine aS rfl (λK hK=>?_);go_wp2_with fail
      have hne:w.heap.size≠w.heap.size+1:=Zo
      have n1:=(ic.drewN 1).gH (V 0) (E_) (V 0) (N_);have n2:=(KO.drewN 1).uJ (Ne.symm hne) (V 0) (E_) (V 0) (N_);have n8:=(alM.drewN 1).uJ (L:=w2.heap.size+1) (g:=w.heap.size) R4 (V 0) (E_) (V 0) (N_);have Sn:Mp c.g c.W0.heap.size w _:=(Dp.drewN 1).aO (g:=w.heap.size) ET (V 0) (E_) (V 0) (N_);simp only[aO]at n1 n2 n8 Sn;generalize (auX (auX (auX (auX (W6.drewN 1) (B_ w.heap.size 0) _) (B_ w.heap.size 1) _) (B_ w.heap.size 2) _) (B_ w.heap.size 3) _)=W7 at n1 n2 n8 Sn|-;refine hK _ _ ⟨n8,n1⟩ ?_;clear hK K p0 p1 p2 p3 y0 y1 y2 y3 lW;have av:=I n1;have Sb:=I n2;have LU:=I n8;have Cx:=I Sn;clear n1 n2 n8 Sn;obtain⟨q0,q1,z0,z1,ai⟩:=af.two Sb;refine aS rfl (λK hK=>?_);go_wp2_with fail
      have m1:=av.nJ hne (V (pl:Int)) (V 3);have m2:=Sb.fT (V (pl:Int)) (V 3);have m8:=LU.nJ (L:=w2.heap.size+1) (g:=w.heap.size+1) R4 (V (pl:Int)) (V 3);have xO:Mp c.g c.W0.heap.size w _:=Cx.aH (g:=w.heap.size+1) Ls (V (pl:Int)) (V 3);simp only[aH]at m1 m2 m8 xO;generalize (auX (auX W7 (B_ (w.heap.size+1) 0) _) (B_ (w.heap.size+1) 1) _)=W8 at m1 m2 m8 xO|-;refine hK _ _ ⟨m8,m1⟩ ?_;clear hK K q0 q1 z0 z1 ai;refine sj ?_;go_wp2_with fail
      obtain⟨g0,g1,g2,g3,_⟩:=af.QM m1;obtain⟨f0,f1,_⟩:=af.two m2
      exact aaU
     |none=>
      have az:=I (aoz f op HL HX Ay h4 ah);clear h4;obtain⟨t0,t1,t2,t3,_,_,_,_,FI⟩:=af.QM (adg.drewN 1);obtain⟨ov,hb,_⟩:=((H.QH eZ).QH ((M _ _).drewN 1)).box;have q6:=(hb.cell 6).trans (congrArg some uf.out.1);have ay:=hb.lt;have aL:=((eZ.drewN 1).block bm (Array.getElem?_eq_some_iff.1 Sr).1 PR).trans Sr;have hlk:=OU (w:=w4.drewN 1) (bm:=bm) (g:=c.g) (clock:=9) aL t.QG false;rw[ah]at hlk;simp only[if_false,Bool.false_eq_true]at hlk
      (try unfold mM at hlk)
      have aw:=Sw;have hen:=U4;clear hb aL;refine uV (λW=>W=w4.drewN 1) [(0,true),(1,true),(2,true),(3,true),(4,true),(5,true),(6,true),(7,true),(8,true),(9,true),(10,true),(11,true),(12,true),(13,true)] Pg Ph Pg rfl ?_;refine ak rfl (λK hK=>?_);rw[if_pos (by rfl)];refine⟨(.pointer (A_ w2.heap.size 0)),λW hW=>?_,?_⟩
      .subst hW
       go_simp
      go_simp;refine hK _ ?_;clear hK K;refine ak rfl (λK hK=>?_);rw[if_pos (by rfl)];refine⟨(V (t.QI:Int)),λW hW=>?_,?_⟩
      .subst hW
       go_simp
      go_simp;refine hK _ ?_;clear hK K;refine ak rfl (λK hK=>?_);rw[if_pos (by rfl)];refine⟨(.bool true),λW hW=>?_,?_⟩
      .subst hW
       go_simp;have:=H4.out;omega
      go_simp;refine hK _ ?_;clear hK K;refine ak rfl (λK hK=>?_);rw[if_pos (by rfl)];refine⟨(.bool true),λW hW=>?_,?_⟩
      .subst hW
       go_simp
      go_simp;refine hK _ ?_;clear hK K;refine ak rfl (λK hK=>?_);rw[if_pos (by rfl)];refine⟨(.pointer (A_ c.g 0)),λW hW=>?_,?_⟩
      .subst hW
       go_simp
      go_simp;refine hK _ ?_;clear hK K;refine ak rfl (λK hK=>?_);rw[if_pos (by rfl)];refine⟨(.pointer (A_ c.g 0)),λW hW=>?_,?_⟩
      .subst hW
       go_simp
      go_simp;refine hK _ ?_;clear hK K;refine ak rfl (λK hK=>?_);rw[if_pos (by rfl)];refine⟨(.pointer (A_ c.g 6)),λW hW=>?_,?_⟩
      .subst hW
       go_simp
      go_simp;refine hK _ ?_;clear hK K;refine ak rfl (λK hK=>?_);rw[if_pos (by rfl)];refine⟨(.map (some bm)),λW hW=>?_,?_⟩
      .subst hW
       go_simp
      go_simp;refine hK _ ?_;clear hK K;refine ak rfl (λK hK=>?_);rw[if_pos (by rfl)];refine⟨(.pointer (A_ w2.heap.size 1)),λW hW=>?_,?_⟩
      .subst hW
       go_simp
      go_simp;refine hK _ ?_;clear hK K;refine ak rfl (λK hK=>?_);rw[if_pos (by rfl)];refine⟨(S_ t.QG),λW hW=>?_,?_⟩
      .subst hW
       go_simp
      go_simp;refine hK _ ?_;clear hK K;refine ak rfl (λK hK=>?_);rw[if_pos (by rfl)];refine⟨.nilFunc,λW hW=>?_,?_⟩
      .subst hW
       go_simp
      go_simp;refine hK _ ?_;clear hK K;refine ak rfl (λK hK=>?_);rw[if_pos (by rfl)];refine⟨(.bool true),λW hW=>?_,?_⟩
      .subst hW
       go_simp
      go_simp;refine hK _ ?_;clear hK K;refine ak rfl (λK hK=>?_);rw[if_pos (by rfl)];refine⟨(.bool true),λW hW=>?_,?_⟩
      .subst hW
       go_simp
      go_simp;refine hK _ ?_;clear hK K;refine ak rfl (λK hK=>?_);rw[if_pos (by rfl)];refine⟨(.bool true),λW hW=>?_,?_⟩
      .subst hW
       go_simp
      go_simp;refine hK _ ?_;clear hK K;refine sj ?_;have eY:=I (eZ.drewN 1);have ad3:=I (Sz.drewN 1);have ad4:=I (Az.drewN 1);have adj:=I (adg.drewN 1);have ad5:=I (adh.drewN 1);clear t0 t1 t2 t3 FI q6 ay hlk aw hen;generalize w4.drewN 1=w6 at eY ad3 ad4 adj ad5|-;obtain⟨t0,t1,t2,t3,_,_,_,_,FI⟩:=af.QM adj;go_wp2_with fail
      clear t0 t1 t2 t3 FI;refine(ade t.QG _ eY).mono ?_;rintro _ w7 ⟨rfl,hf⟩;have gW:=I (eY.trans hf);have Av:=I auc;have Yo:=I aud;have ajm:=I (hf.QN adj λh=>h);have ajn:=I aue;have Cx:=I (Mp.QH (g:=c.g) (B:=c.W0.heap.size) gW);clear hf
      rcases az.out with⟨X,z,ar,aA,aC⟩|⟨p,ar,aD,aA⟩
      rotate_left
      focus
       rw[ar];rw[aA]at HQ;have d1:decide ((0:Int)<(p:Int))=true:=dT Zo;have jo:decide (0<p)=true:=dT aD;have aE:(0:Int)<(p:Int):=Zo
       clear ar aA aD az;go_wp2_with fail
       refine(HR _ gW).mono ?_;rintro _ w5 ⟨rfl,hf⟩;have Ga:=I (Mp.QH (g:=c.g) (B:=c.W0.heap.size) (gW.trans hf));have Nf:=I (hf.QN Av λh=>h);have adi:=I (hf.QN Yo λh=>h);clear hf;generalize Np.place c.en (t::r)=pl at HQ|-;obtain⟨p0,p1,p2,p3,y0,y1,y2,y3,lW⟩:=af.QM Nf;obtain⟨q0,q1,z0,z1,ai⟩:=af.two adi;unfold aG;go_wp2_with fail
       have hne:w.heap.size≠w.heap.size+1:=Zo
       have n1:=(Nf.gH (V 0) (E_) (V 0) (N_)).nJ hne (V (pl:Int)) (V 3);have n2:=(adi.uJ (Ne.symm hne) (V 0) (E_) (V 0) (N_)).fT (V (pl:Int)) (V 3);have pq:Mp c.g c.W0.heap.size w _:=(Ga.aO (g:=w.heap.size) ET (V 0) (E_) (V 0) (N_)).aH (g:=w.heap.size+1) Ls (V (pl:Int)) (V 3);obtain⟨g0,g1,g2,g3,_⟩:=af.QM n1;obtain⟨f0,f1,_⟩:=af.two n2;simp only[aH,aO]at g0 g1 g2 g3 f0 f1 pq
       refine bodyPost_ret (v:=.tuple #[.agg yM,aG pl 3]) Jy rfl ?_;exact HQ _ _ ⟨by decide,.mk 0 [] 0 [],none,0,rfl,pq⟩
      rw[ar];rw[aA]at HQ aY;have VQ:=I aC;clear ar aA aC az;cases z
      all_goals
       obtain⟨t0,t1,t2,t3,_,_,_,_,FI⟩:=af.QM ajm;go_wp2_with fail
       clear t0 t1 t2 t3 FI;refine(JN k op t r w7 (H.QH gW) oJ HL (by rw[VQ.out];exact R.oC aY)).mono ?_;intro e w5 hres;have ac:=hres.parts (by rw[VQ.out];exact R.oC aY);rw[VQ.out]at ac;clear hres;obtain⟨A,n,cp,i,er,rfl,hm,hend⟩:=ac;have Ga:=I (Cx.trans hm);have Nf:=I (hm.QN Av Zo Pf);have adi:=I (hm.QN Yo Zo Pf);have FJ:=I (hm.QN ajn R4 Pf);have aT:w.heap.size+1<w7.heap.size:=Yo.lt;clear hm
       rcases hend with⟨QS,rest,k',hX,rfl,rfl,rfl,aa,hdr,ad,hp⟩|⟨hX,aj⟩
       .have jK:=I aa
        have ao:=I hdr;have aJ:=I ad;have wN:=I hp;clear aa hdr ad hp;rw[hX]at HQ;clear hX;obtain⟨q0,q1,z0,z1,ab⟩:=af.two FJ
        (try unfold aG)
        go_wp2_with fail
        have b8:=FJ.fT (V 0) (V 0);have bn:=Nf.nJ (L:=w.heap.size) (g:=w2.heap.size+1) R4 (V 0) (V 0);have bf:=adi.nJ (L:=w.heap.size+1) (g:=w2.heap.size+1) R4 (V 0) (V 0);have GJ:Mp c.g c.W0.heap.size w _:=Ga.aH (g:=w2.heap.size+1) arq (V 0) (V 0);have yY:=wN.aH FJ Pf R4 ah8 (V 0) (V 0);have FK:=jK.other FJ Pf (dS w5 (w2.heap.size+1) (V 0) (V 0));simp only[aH]at b8 bn bf GJ yY FK;generalize (auX (auX w5 (B_ (w2.heap.size+1) 0) _) (B_ (w2.heap.size+1) 1) _)=W6 at b8 bn bf GJ yY FK|-;clear q0 q1 z0 z1 ab;have ic:=I bn;have KO:=I bf;have Dp:=I GJ;have pg:=I yY;have Sm:=I FK;clear b8 bn bf GJ yY FK;refine(j6 A QS.length cp _).mono ?_;rintro _ w7 ⟨rfl,hf⟩;have iY:=I (hf.QN ic λh=>h);have jg:=I (hf.QN KO λh=>h);have HM:=I (Dp.trans (Mp.QH hf));have HP:=I (pg.QH hf);have Sy:=I (Sm.out.QH hf);clear hf;obtain⟨p0,p1,p2,p3,y0,y1,y2,y3,lW⟩:=af.QM iY;obtain⟨q0,q1,z0,z1,ai⟩:=af.two jg;go_wp2_with fail
        have hne:w.heap.size≠w.heap.size+1:=Zo
        have n1:=(iY.gH (V 1) (E_) (V 0) (.slice A QS.length cp)).nJ hne (V 0) (V 0);have IQ:=jg.uJ (Ne.symm hne) (V 1) (E_) (V 0) (.slice A QS.length cp);have n2:=IQ.fT (V 0) (V 0);have am:=(HP.aO iY Pf Zo ax (V 1) (E_) (V 0) (.slice A QS.length cp)).aH IQ Pf Zo ail (V 0) (V 0);have IU:=(Sy.far anj Zo).other IQ Pf as4;have pq:Mp c.g c.W0.heap.size w _:=(HM.aO (g:=w.heap.size) ET (V 1) (E_) (V 0) (.slice A QS.length cp)).aH (g:=w.heap.size+1) Ls (V 0) (V 0);obtain⟨g0,g1,g2,g3,_⟩:=af.QM n1;obtain⟨f0,f1,_⟩:=af.two n2;simp only[aH,aO]at g0 g1 g2 g3 f0 f1 am IU pq
        refine bodyPost_ret (v:=.tuple #[.agg #[V 1,E_,V 0,.slice A QS.length cp],aG 0 0]) Jy rfl ?_;exact HQ _ _ ⟨A,cp,k',rfl,IU.base Cx.size,Nat.zero_le _,ao,aJ,am,pq⟩
       .have F7:=I aj
        have e0:=alr aj;rw[hX]at HQ;clear aj hX;obtain⟨q0,q1,z0,z1,ab⟩:=af.two FJ
        (try unfold aG)
        go_wp2_with fail
        have b8:=FJ.fT (V (i:Int)) (V (er:Int));have bn:=Nf.nJ (L:=w.heap.size) (g:=w2.heap.size+1) R4 (V (i:Int)) (V (er:Int));have bf:=adi.nJ (L:=w.heap.size+1) (g:=w2.heap.size+1) R4 (V (i:Int)) (V (er:Int));have GJ:Mp c.g c.W0.heap.size w _:=Ga.aH (g:=w2.heap.size+1) arq (V (i:Int)) (V (er:Int));simp only[aH]at b8 bn bf GJ;generalize (auX (auX w5 (B_ (w2.heap.size+1) 0) _) (B_ (w2.heap.size+1) 1) _)=W6 at b8 bn bf GJ|-;clear q0 q1 z0 z1 ab;have alM:=I b8;have ic:=I bn;have KO:=I bf;have Dp:=I GJ;clear bn bf GJ b8;refine uV (λW=>af W (w2.heap.size+1) 45 #[V (i:Int),V (er:Int)]/\af W w.heap.size 31 yM) [(0,true),(1,true),(2,false),(3,false)] Pg Ph Pg ⟨alM.drewN 1,ic.drewN 1⟩ ?_;refine ak rfl (λK hK=>?_);rw[if_pos (by rfl)];refine⟨.agg yM,λW hW=>?_,hK _ ?_⟩
        .go_simp
        clear hK K;refine ak rfl (λK hK=>?_);rw[if_pos (by rfl)];refine⟨.agg #[V (i:Int),V (er:Int)],λW hW=>?_,hK _ ?_⟩
        .obtain⟨h1,_⟩:=hW
         obtain⟨p0,p1,_⟩:=af.two h1;go_simp
        clear hK K;obtain⟨p0,p1,p2,p3,y0,y1,y2,y3,lW⟩:=af.QM (ic.drewN 1);refine aS rfl (λK hK=>?_);go_wp2_with fail
        have hne:w.heap.size≠w.heap.size+1:=Zo
        have n1:=(ic.drewN 1).gH (V 0) (E_) (V 0) (N_);have n2:=(KO.drewN 1).uJ (Ne.symm hne) (V 0) (E_) (V 0) (N_);have n8:=(alM.drewN 1).uJ (L:=w2.heap.size+1) (g:=w.heap.size) R4 (V 0) (E_) (V 0) (N_);have Sn:Mp c.g c.W0.heap.size w _:=(Dp.drewN 1).aO (g:=w.heap.size) ET (V 0) (E_) (V 0) (N_);simp only[aO]at n1 n2 n8 Sn;generalize (auX (auX (auX (auX (W6.drewN 1) (B_ w.heap.size 0) _) (B_ w.heap.size 1) _) (B_ w.heap.size 2) _) (B_ w.heap.size 3) _)=W7 at n1 n2 n8 Sn|-;refine hK _ _ ⟨n8,n1⟩ ?_;clear hK K p0 p1 p2 p3 y0 y1 y2 y3 lW;have av:=I n1;have Sb:=I n2;have LU:=I n8;have Cx:=I Sn;clear n1 n2 n8 Sn;obtain⟨q0,q1,z0,z1,ai⟩:=af.two Sb;refine aS rfl (λK hK=>?_);go_wp2_with fail
        have m1:=av.nJ hne (V (i:Int)) (V (er:Int));have m2:=Sb.fT (V (i:Int)) (V (er:Int));have m8:=LU.nJ (L:=w2.heap.size+1) (g:=w.heap.size+1) R4 (V (i:Int)) (V (er:Int));have xO:Mp c.g c.W0.heap.size w _:=Cx.aH (g:=w.heap.size+1) Ls (V (i:Int)) (V (er:Int));simp only[aH]at m1 m2 m8 xO;generalize (auX (auX W7 (B_ (w.heap.size+1) 0) _) (B_ (w.heap.size+1) 1) _)=W8 at m1 m2 m8 xO|-;refine hK _ _ ⟨m8,m1⟩ ?_;clear hK K q0 q1 z0 z1 ai;refine sj ?_;go_wp2_with fail
        obtain⟨g0,g1,g2,g3,_⟩:=af.QM m1;obtain⟨f0,f1,_⟩:=af.two m2
        exact aqK
    .have e4:=uH _ 4 h4
     have e4p:¬((t.QI:Int)=4):=Zo
     have rO:=I (show pArg c.E (f+1) op (c.at k)=.err (Np.place c.en (t::r)) 3 from by
      rw[amt f op HL.out];simp only[HX.out];rw[if_neg (by simp[Ay]),if_neg (λh=>h4 h.1)])
     rw[rO.out]at HQ;clear h4;obtain⟨t0,t1,t2,t3,_,_,_,_,FI⟩:=af.QM adg;have r0:=cR t0
     go_quiet (fail)
     have eY:=I (eZ.drewN nq);have ad3:=I (Sz.drewN nq);have ad4:=I (Az.drewN nq);have adj:=I (adg.drewN nq);have ad5:=I (adh.drewN nq);clear t0 t1 t2 t3 FI r0;generalize w4.drewN nq=w6 at eY ad3 ad4 adj ad5|-;go_wp2_with fail
     refine(HR _ eY).mono ?_;rintro _ w5 ⟨rfl,hf⟩;have Ga:=I abW;have Nf:=I auc;have adi:=I aud;have FJ:=I aue;clear hf;generalize Np.place c.en (t::r)=pl at HQ|-;obtain⟨q0,q1,z0,z1,ab⟩:=af.two FJ
     (try unfold aG)
     go_wp2_with fail
     have b8:=FJ.fT (V (pl:Int)) (V 3);have bn:=Nf.nJ (L:=w.heap.size) (g:=w2.heap.size+1) R4 (V (pl:Int)) (V 3);have bf:=adi.nJ (L:=w.heap.size+1) (g:=w2.heap.size+1) R4 (V (pl:Int)) (V 3);have GJ:Mp c.g c.W0.heap.size w _:=Ga.aH (g:=w2.heap.size+1) arq (V (pl:Int)) (V 3);simp only[aH]at b8 bn bf GJ;generalize (auX (auX w5 (B_ (w2.heap.size+1) 0) _) (B_ (w2.heap.size+1) 1) _)=W6 at b8 bn bf GJ|-;clear q0 q1 z0 z1 ab;have alM:=I b8;have ic:=I bn;have KO:=I bf;have Dp:=I GJ;clear bn bf GJ b8;refine uV (λW=>af W (w2.heap.size+1) 45 #[V (pl:Int),V 3]/\af W w.heap.size 31 yM) [(0,true),(1,true),(2,false),(3,false)] Pg Ph Pg ⟨alM.drewN 1,ic.drewN 1⟩ ?_;refine ak rfl (λK hK=>?_);rw[if_pos (by rfl)];refine⟨.agg yM,λW hW=>?_,hK _ ?_⟩
     .go_simp
     clear hK K;refine ak rfl (λK hK=>?_);rw[if_pos (by rfl)];refine⟨.agg #[V (pl:Int),V 3],λW hW=>?_,hK _ ?_⟩
     .obtain⟨h1,_⟩:=hW
      obtain⟨p0,p1,_⟩:=af.two h1;go_simp
     clear hK K;obtain⟨p0,p1,p2,p3,y0,y1,y2,y3,lW⟩:=af.QM (ic.drewN 1);refine aS rfl (λK hK=>?_);go_wp2_with fail
     have hne:w.heap.size≠w.heap.size+1:=Zo
     have n1:=(ic.drewN 1).gH (V 0) (E_) (V 0) (N_);have n2:=(KO.drewN 1).uJ (Ne.symm hne) (V 0) (E_) (V 0) (N_);have n8:=(alM.drewN 1).uJ (L:=w2.heap.size+1) (g:=w.heap.size) R4 (V 0) (E_) (V 0) (N_);have Sn:Mp c.g c.W0.heap.size w _:=(Dp.drewN 1).aO (g:=w.heap.size) ET (V 0) (E_) (V 0) (N_);simp only[aO]at n1 n2 n8 Sn;generalize (auX (auX (auX (auX (W6.drewN 1) (B_ w.heap.size 0) _) (B_ w.heap.size 1) _) (B_ w.heap.size 2) _) (B_ w.heap.size 3) _)=W7 at n1 n2 n8 Sn|-;refine hK _ _ ⟨n8,n1⟩ ?_;clear hK K p0 p1 p2 p3 y0 y1 y2 y3 lW;have av:=I n1;have Sb:=I n2;have LU:=I n8;have Cx:=I Sn;clear n1 n2 n8 Sn;obtain⟨q0,q1,z0,z1,ai⟩:=af.two Sb;refine aS rfl (λK hK=>?_);go_wp2_with fail
     have m1:=av.nJ hne (V (pl:Int)) (V 3);have m2:=Sb.fT (V (pl:Int)) (V 3);have m8:=LU.nJ (L:=w2.heap.size+1) (g:=w.heap.size+1) R4 (V (pl:Int)) (V 3);have xO:Mp c.g c.W0.heap.size w _:=Cx.aH (g:=w.heap.size+1) Ls (V (pl:Int)) (V 3);simp only[aH]at m1 m2 m8 xO;generalize (auX (auX W7 (B_ (w.heap.size+1) 0) _) (B_ (w.heap.size+1) 1) _)=W8 at m1 m2 m8 xO|-;refine hK _ _ ⟨m8,m1⟩ ?_;clear hK K q0 q1 z0 z1 ai;refine sj ?_;go_wp2_with fail
     obtain⟨g0,g1,g2,g3,_⟩:=af.QM m1;obtain⟨f0,f1,_⟩:=af.two m2
     exact aaU
end
end Go.Proofs.YtabjglnjjdcfmaaGreatDoor
