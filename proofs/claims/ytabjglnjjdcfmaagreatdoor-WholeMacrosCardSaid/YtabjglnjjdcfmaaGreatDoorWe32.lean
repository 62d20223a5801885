/- Part 32 of 41 of a proof. No condition. -/
import Derived.Test.YtabjglnjjdcfmaaGreatDoorWe31
set_option maxRecDepth 100000
set_option maxHeartbeats 400000
namespace Go.Proofs.YtabjglnjjdcfmaaGreatDoor
open _root_.Go.World renaming setCell->auX
open _root_.Nat renaming le_trans->au2
open _root_.Go.Proofs.Tryz
section
open Go.RowKit
open Tr (Nd)
open Lx (aB)
open D7 (R cZ kE eB eP dA bV fD di pArg aln)
attribute [local go_sem] gD stillUpon
def FE(c:Cf)(f:Nat):Prop:=∀(k:Kp) (op:List Nat) (w:W_),Ps c k op w->op.length<=k.p->dA c.E f op (c.at k)≠.out->C_ 92 #[lV c] w (oK c k op (dA c.E f op (c.at k)) w)
theorem OW{b:UInt8}{t:aB}{r:List aB}(h:Np.dx b (t::r)=true):t.QI=7/\t.QG=[b]:=by
 simpa[Np.dx]using h
theorem oK.parts{c:Cf}{k:Kp}{op:List Nat}{X:R (List Nd)}{w w':W_}{e:Ending}(h:oK c k op X w e w')(hne:X≠.out):∃A n cp i er,e=.returned (.tuple #[.slice A n cp,aG i er])/\Mp c.g c.W0.heap.size w w'/\
  ((∃QS rest k',X=.ok QS rest/\n=QS.length/\i=0/\er=0/\aP w.heap.size w' QS (.slice A n cp)/\c.at k'=rest/\k.p<=k'.p/\Ps c k' op w')\/(X=.err i er/\er≠0)):=by
 cases X with
 |out=>exact absurd rfl hne
 |err i er=>
  obtain⟨aj,A,n,cp,rfl,hm⟩:=h;exact⟨A,n,cp,i,er,rfl,hm,.inr ⟨rfl,aj⟩⟩
 |ok QS rest=>
  obtain⟨A,cp,k',rfl,aa,hdr,ad,hp,hm⟩:=h;exact⟨A,QS.length,cp,0,0,rfl,hm,.inl ⟨QS,rest,k',rfl,rfl,rfl,rfl,aa,hdr,ad,hp⟩⟩
theorem alP{c:Cf}{k:Kp}{t:aB}{r:List aB}(f:Nat)(op:List Nat)(hl:(c.at k).l=t::r):dA c.E (f+1) op (c.at k)=match D7.alo c.P t with
  |some x=>.ok [x] (c.at k.up)
  |none=>if t.QI=4 then fD c.E f op t (c.at k.up)
   else if t.QI=5 then(bV c.E f 1 op (c.at k.up)).map λks=>[.mk 11 t.QG 0 ks]
   else if Np.dx 40 (t::r)then(kE c.E f 41 op (c.at k)).map λQS=>[.mk 11 [40,41] 0 [Np.CG QS]]
   else if Np.dx 91 (t::r)then(kE c.E f 93 op (c.at k)).map λQS=>[.mk 11 [91,93] 0 [Np.CG QS]]
   else if Np.dx 123 (t::r)then kE c.E f 125 op (c.at k)
   else .err (Np.place c.en (t::r)) 3:=by
 rw[<-Cf.alE];exact ast
theorem aoy{c:Cf}{k:Kp}(f:Nat)(op:List Nat)(hl:(c.at k).l=[]):dA c.E (f+1) op (c.at k)=.err (Np.place c.en []) 3:=by
 exact ast
theorem aaT(c:Cf)(hc:c.Good)(f:Nat)(hname:Jo c f)(yN:Mw c f 1)(ae:xM c f):FE c (f+1):=by
 intro k op w h hop hne;have au:=hc.tl;have FH:=I (λ(w':W_) (hf:ag w w')=>IC c hc k op w' ah6);have HT:=I F_;have HA:=I atV;have HR:=I (λ(w':W_) (hf:ag w w')=>Cu c hc k op w' ah6);have JN:=I hname;have HW:=I yN;have OJ:=I ae;have agx:=I hc.D9;have H:=I h;have oJ:=I hop;have ax:=I h.low.size;have aF:c.g<w.heap.size:=h.Ap;have aY:=I hne;refine Calls.via λQ hQ=>?_
 have HQ:=I hQ;clear hne h hop hc hQ hname yN ae;unfold Jm at FH;generalize hl:(c.at k).l=l at FH HT HA HR;have HL:=I hl;clear hl;unfold lV;go_enter func92,ntmps92;go_wp2_with fail
 refine(FH.out _ Q_).mono ?_;rintro e w1 (⟨x,b,hx,rfl,aa,hp,hm⟩|⟨hx,rfl,hf⟩)
 .have rM:=I ((Mp.QH aq4).trans hm)
  have dY:=I (hm.QN (af.new w 45 #[V 0,V 0]) Zo Pf);have jK:=I aa;have oL:=I hp
  have HX:=I (show dA c.E (f+1) op (c.at k)=.ok [x] (c.at k.up)from by
   cases l with
   |nil=>cases hx
   |cons t r=>
    rw[alP f op HL.out];simp only[show D7.alo c.P t=some x from hx])
  clear hm aa hp hx;obtain⟨q0,q1,z0,z1,ab⟩:=af.two dY.out
  (try unfold aG)
  go_wp2_with fail
  have n1:=dY.fT (V 0) (V 0);have iU:Mp c.g c.W0.heap.size w (aH w1 (w.heap.size) (V 0) (V 0)):=rM.aH (g:=w.heap.size) Ls (V 0) (V 0);have fA:=dS w1 (w.heap.size) (V 0) (V 0);simp only[aH]at n1 iU fA;generalize (auX (auX w1 (B_ w.heap.size 0) _) (B_ w.heap.size 1) _)=W4 at n1 iU fA|-;obtain⟨f0,f1,_⟩:=af.two n1
  (try simp only[Exit.inBlock,Exit.then])
  refine bodyPost_ret (v:=.tuple #[.slice (A_ b 0) 1 1,aG 0 0]) Ea rfl ?_;have am:=oL.mv fA Lb;rw[HX.out]at HQ;exact HQ.out _ _ ⟨_,1,k.up,rfl,(jK.base P9).other dY.out Pf fA,rfl,Nat.le_succ _,am,iU⟩
 .have aK:=I aoa
  have tL:=I aik;have yc:=I (show w.heap.size<w1.heap.size from tL.lt);clear hf;cases l with
  |nil=>
   have MB:Np.dx 40 ([]:List aB)=false:=rfl;have Sv:Np.dx 91 ([]:List aB)=false:=rfl;have Ay:Np.dx 123 ([]:List aB)=false:=rfl;have rO:=I (show dA c.E (f+1) op (c.at k)=.err (Np.place c.en []) 3 from aoy f op HL.out);rw[rO.out]at HQ;unfold yK at HT;go_wp2_with fail
   refine(HT.out _ aK.out).mono ?_;rintro _ w2 ⟨rfl,hf⟩;have bW:=I (aK.trans hf);have MC:=I (hf.QN tL.out λh=>h);clear hf;go_wp2_with fail
   refine(HA.out 40 _ (bW.alloc (.cells #[V 0,E_,V (c.en:Int),V (c.en:Int)] 131))).mono ?_;rintro _ w3 ⟨rfl,hf⟩;have bJ:=I ((bW.alloc (.cells #[V 0,E_,V (c.en:Int),V (c.en:Int)] 131)).trans hf);have ai:=I (hf.QN (MC.alloc (.cells #[V 0,E_,V (c.en:Int),V (c.en:Int)] 131)) λh=>h);have aw:=I (hf.QN (af.new w2 131 #[V 0,E_,V (c.en:Int),V (c.en:Int)]) λh=>h);clear hf;rw[MB];go_wp2_with fail
   refine(HA.out 91 _ bJ.out).mono ?_;rintro _ w4 ⟨rfl,hf⟩;have eZ:=I aqJ;have iB:=I as7;have nU:=I as8;clear hf;rw[Sv];go_wp2_with fail
   refine(HA.out 123 _ eZ.out).mono ?_;rintro _ w5 ⟨rfl,hf⟩;have eY:=I (eZ.trans hf);have eO:=I (hf.QN iB.out λh=>h);have iW:=I (hf.QN nU.out λh=>h);clear hf;rw[Ay];go_wp2_with fail
   refine(HR.out _ eY.out).mono ?_;rintro _ w9 ⟨rfl,hf⟩;have rM:=I abW;have dY:=I (hf.QN eO.out λh=>h);clear hf;obtain⟨q0,q1,z0,z1,ab⟩:=af.two dY.out
   (try unfold aG)
   go_wp2_with fail
   have n1:=dY.fT (V (Np.place c.en []:Int)) (V 3);have iU:Mp c.g c.W0.heap.size w (aH w9 (w.heap.size) (V (Np.place c.en []:Int)) (V 3)):=rM.aH (g:=w.heap.size) Ls (V (Np.place c.en []:Int)) (V 3);have fA:=dS w9 (w.heap.size) (V (Np.place c.en []:Int)) (V 3);simp only[aH]at n1 iU fA;generalize (auX (auX w9 (B_ w.heap.size 0) _) (B_ w.heap.size 1) _)=W4 at n1 iU fA|-;obtain⟨f0,f1,_⟩:=af.two n1
   (try simp only[Exit.inBlock,Exit.then])
   refine bodyPost_ret (v:=.tuple #[N_,aG (Np.place c.en []) 3]) Ea rfl ?_;exact HQ.out _ _ ⟨by decide,none,0,0,rfl,iU⟩
  |cons t r=>
   have HK:=I asn;have HX:=I (show D7.alo c.P t=none from hx);have kJ:=I (agx.out t (List.mem_of_mem_drop (i:=k.p) (by rw[<-Cf.ama,HL.out];simp)));clear hx;unfold yK at HT;go_wp2_with fail
   refine(HT.out _ aK.out).mono ?_;rintro _ w2 ⟨rfl,hf⟩;have bW:=I (aK.trans hf);have MC:=I (hf.QN tL.out λh=>h);clear hf
   by_cases h4:t.QI=4
   .have e4:=Bq _ 4 h4
    have rO:=I (show dA c.E (f+1) op (c.at k)=fD c.E f op t (c.at k.up)from by
     rw[alP f op HL.out];simp only[HX.out];rw[if_pos h4])
    rw[rO.out]at HQ aY;clear h4;go_wp2_with fail
    have hf3:=bW.alloc (.cells #[V (t.QI:Int),S_ t.QG,V (t.from_:Int),V (t.eF:Int)] 131);have DT:=MC.alloc (.cells #[V (t.QI:Int),S_ t.QG,V (t.from_:Int),V (t.eF:Int)] 131);generalize (w2.alloc (.cells #[V (t.QI:Int),S_ t.QG,V (t.from_:Int),V (t.eF:Int)] 131))=W2 at hf3 DT|-;have iI:=I (Mp.QH (g:=c.g) (B:=c.W0.heap.size) hf3);have tK:=I DT;refine(JN.out k op t r W2 (H.QH hf3) oJ.out HL.out aY.out).mono ?_;intro e w3 hres;clear hf3 DT;generalize fD c.E f op t (c.at k.up)=X at aY HQ hres;cases X with
    |out=>exact absurd rfl aY.out
    |err i er=>
     obtain⟨aj,A,n,cp,rfl,hm⟩:=hres;have rM:=I aeA;have dY:=I ait;have F7:=I aj;clear hm aj;obtain⟨q0,q1,z0,z1,ab⟩:=af.two dY.out
     (try unfold aG)
     go_wp2_with fail
     have n1:=dY.fT (V (i:Int)) (V (er:Int));have iU:Mp c.g c.W0.heap.size w (aH w3 (w.heap.size) (V (i:Int)) (V (er:Int))):=rM.aH (g:=w.heap.size) Ls (V (i:Int)) (V (er:Int));have fA:=dS w3 (w.heap.size) (V (i:Int)) (V (er:Int));simp only[aH]at n1 iU fA;generalize (auX (auX w3 (B_ w.heap.size 0) _) (B_ w.heap.size 1) _)=W4 at n1 iU fA|-;obtain⟨f0,f1,_⟩:=af.two n1
     (try simp only[Exit.inBlock,Exit.then])
     exact air
    |ok QS rest=>
     obtain⟨A,cp,k',rfl,aa,hdr,ad,hp,hm⟩:=hres;have rM:=I aeA;have dY:=I ait;have jK:=I aa;have ao:=I hdr;have aJ:=I ad;have oL:=I hp;clear hm aa hdr ad hp;obtain⟨q0,q1,z0,z1,ab⟩:=af.two dY.out
     (try unfold aG)
     go_wp2_with fail
     have n1:=dY.fT (V 0) (V 0);have iU:Mp c.g c.W0.heap.size w (aH w3 (w.heap.size) (V 0) (V 0)):=rM.aH (g:=w.heap.size) Ls (V 0) (V 0);have fA:=dS w3 (w.heap.size) (V 0) (V 0);simp only[aH]at n1 iU fA;generalize (auX (auX w3 (B_ w.heap.size 0) _) (B_ w.heap.size 1) _)=W4 at n1 iU fA|-;obtain⟨f0,f1,_⟩:=af.two n1
     (try simp only[Exit.inBlock,Exit.then])
     exact aqV
   .have e4:=uH _ 4 h4
    by_cases h5:t.QI=5
    .have e5:=Bq _ 5 h5
     have rO:=I (show dA c.E (f+1) op (c.at k)=(bV c.E f 1 op (c.at k.up)).map λks=>[.mk 11 t.QG 0 ks]from by
      rw[alP f op HL.out];simp only[HX.out];rw[if_neg h4,if_pos h5])
     rw[rO.out]at HQ aY;clear h4 h5;have hk4:k.p<=100000:=by have:=HK.out;omega
     have HE:=I (show((k.p:Int)+1)=((k.p+1:Nat):Int) by simp);obtain⟨ov,hb2,_⟩:=(H.QH bW.out).box;have q1:=hb2.cell 1;have z1:=hb2.frozen 1;have hg2:=hb2.lt;clear hb2;go_wp2_with fail
     have hn:=(H.QH bW.out).next HK.out ((k.p:Int)+1) HE.out;have DT:=MC.far (p:=B_ c.g 1) (λe=>by have e':w.heap.size=c.g:=e;omega) (V ((k.p:Int)+1));generalize (w2.setCell (B_ c.g 1) (V ((k.p:Int)+1)))=W1 at hn DT|-;have av:=hn.1.QH ((M _ W1).alloc (.cells #[V (t.QI:Int),S_ t.QG,V (t.from_:Int),V (t.eF:Int)] 131));have al:=(Mp.QH bW.out).trans (hn.2.trans (Mp.QH ((M _ W1).alloc (.cells #[V (t.QI:Int),S_ t.QG,V (t.from_:Int),V (t.eF:Int)] 131))));have Nv:=DT.alloc (.cells #[V (t.QI:Int),S_ t.QG,V (t.from_:Int),V (t.eF:Int)] 131);generalize (W1.alloc (.cells #[V (t.QI:Int),S_ t.QG,V (t.from_:Int),V (t.eF:Int)] 131))=W2 at av al Nv|-;have jb:=I av;have iI:=I al;have tK:=I Nv;clear hn DT Nv av al q1 z1 hg2;refine(HW.out k.up op 11 t.QG [] none w.heap.size W2 jb.out h_ kJ.out P9 iI.size (.nil _ _) atU).mono ?_;intro e w3 hres;generalize bV c.E f 1 op (c.at k.up)=r at aY HQ hres;cases r with
     |out=>exact absurd rfl aY.out
     |err i er=>
      obtain⟨aj,A,n,cp,rfl,hm⟩:=hres;have rM:=I aeA;have dY:=I ait;have F7:=I aj;clear hm aj;obtain⟨q0,q1,z0,z1,ab⟩:=af.two dY.out
      (try unfold aG)
      go_wp2_with fail
      have n1:=dY.fT (V (i:Int)) (V (er:Int));have iU:Mp c.g c.W0.heap.size w (aH w3 (w.heap.size) (V (i:Int)) (V (er:Int))):=rM.aH (g:=w.heap.size) Ls (V (i:Int)) (V (er:Int));have fA:=dS w3 (w.heap.size) (V (i:Int)) (V (er:Int));simp only[aH]at n1 iU fA;generalize (auX (auX w3 (B_ w.heap.size 0) _) (B_ w.heap.size 1) _)=W4 at n1 iU fA|-;obtain⟨f0,f1,_⟩:=af.two n1
      (try simp only[Exit.inBlock,Exit.then])
      exact air
     |ok ks rest=>
      obtain⟨b,k',rfl,aa,hdr,ad,hp,hm⟩:=hres;have rM:=I aeA;have dY:=I ait;have jK:=I aa;have ao:=I hdr;have aJ:=I ad;have oL:=I hp;clear hm aa hdr ad hp;obtain⟨q0,q1,z0,z1,ab⟩:=af.two dY.out
      (try unfold aG)
      go_wp2_with fail
      have n1:=dY.fT (V 0) (V 0);have iU:Mp c.g c.W0.heap.size w (aH w3 (w.heap.size) (V 0) (V 0)):=rM.aH (g:=w.heap.size) Ls (V 0) (V 0);have fA:=dS w3 (w.heap.size) (V 0) (V 0);simp only[aH]at n1 iU fA;generalize (auX (auX w3 (B_ w.heap.size 0) _) (B_ w.heap.size 1) _)=W4 at n1 iU fA|-;obtain⟨f0,f1,_⟩:=af.two n1
      (try simp only[Exit.inBlock,Exit.then])
      refine bodyPost_ret (v:=.tuple #[.slice (A_ b 0) 1 1,aG 0 0]) Ea rfl ?_;exact aii
    .have e5:=uH _ 5 h5
     have Rc:=I (λ(cl:UInt8) (w':W_) (hp:Ps c k op w') (hne:kE c.E f cl op (c.at k)≠.out)=>show Calls _ _ _ _ (oK c k op (kE c.E f cl op (c.at k)) w')from by
      exact OJ.out k op cl w' hp oJ.out HK.out hne)
     cases MB:Np.dx 40 (t::r)with
     |true=>
      have an:=(OW MB).2;have ajl:(t.QG==[91])=false:=by rw[an];rfl
      have rO:=I (show dA c.E (f+1) op (c.at k)=(kE c.E f 41 op (c.at k)).map λQS=>[.mk 11 [40,41] 0 [Np.CG QS]]from by
       rw[alP f op HL.out];simp only[HX.out];rw[if_neg h4,if_neg h5,if_pos MB])
      rw[rO.out]at HQ aY;clear h4 h5 an;go_wp2_with fail
      refine(HA.out 40 _ (bW.alloc (.cells #[V (t.QI:Int),S_ t.QG,V (t.from_:Int),V (t.eF:Int)] 131))).mono ?_;rintro _ w3 ⟨rfl,hf⟩;have bJ:=I ((bW.alloc (.cells #[V (t.QI:Int),S_ t.QG,V (t.from_:Int),V (t.eF:Int)] 131)).trans hf);have ai:=I (hf.QN (MC.alloc (.cells #[V (t.QI:Int),S_ t.QG,V (t.from_:Int),V (t.eF:Int)] 131)) λh=>h);have aw:=I G_;clear hf;rw[MB];have t1:=aw.cell 1;have FI:=aw.lt;go_wp2_with fail
      clear t1 FI;refine(Rc.out 41 w3 (H.QH bJ.out) atU).mono ?_;intro e wa hres;have ac:=hres.parts atU;clear hres;generalize kE c.E f 41 op (c.at k)=X at aY HQ ac;obtain⟨A,n,cp,i,er,rfl,hm,hend⟩:=ac;have aq:=I ((Mp.QH bJ.out).trans hm);have Ep:=I (hm.QN ai.out Zo Pf);have ah:=I (au2 bJ.size hm.size);have ar:=I (bJ.size);have Aq:=I hend;clear hm hend;unfold aG;go_wp2_with fail
      have ap:af (wa.alloc (.cells #[V (i:Int),V (er:Int)] 45)) wa.heap.size 45 #[V (i:Int),V (er:Int)]:=af.new _ _ _;have IP:=I ((M (λ_=>False) wa).alloc (.cells #[V (i:Int),V (er:Int)] 45));have hbr:=Ep.alloc (.cells #[V (i:Int),V (er:Int)] 45);generalize (wa.alloc (.cells #[V (i:Int),V (er:Int)] 45))=W5 at ap IP hbr|-;have r0:=cR y_;have r1:=cR z_;have adf:=ap.lt;have ow:=I hbr;clear ap hbr;refine cu [([(0,true),(1,true),(6,true),(2,false),(3,false),(4,true),(5,false),(7,true)],8)] [] Pg Ph Pg ?_;refine dJ ?_
      repeat(refine Z4 ?_)
      refine aS rfl (λK hK=>?_);go_wp2_with fail
      refine(j6 A n cp _).mono ?_;rintro _ w6 ⟨rfl,hf⟩;have fI:=I (show ag W5 w6 from Touch.BD hf);clear hf;go_wp2
      refine hK _ _ (aA fI.out) ?_;clear hK K;refine aS rfl (λK hK=>?_);go_wp2
      refine hK _ _ an' ?_;clear hK K
      repeat(refine Z4 ?_)
      refine aS rfl (λK hK=>?_);go_wp2
      refine hK _ _ (aA ((fI.alloc _).alloc _)) ?_;clear hK K
      repeat(refine Z4 ?_)
      have jy:=I (λ(QS:List Nd) (aa:aP w.heap.size wa QS (.slice A n cp))=>show aP w.heap.size _ [Nd.mk 11 [40,41] 0 [Np.CG QS]] _ from
       aP.lit (n:=.mk 11 [40,41] 0 [Np.CG QS]) aqh (by
        have:=au2 ah.out (au2 IP.size fI.size);simp;omega) (by show 2<=maxLen;simp[maxLen]))
      have gX:=IP.trans ((fI.alloc (.cells #[V 1,E_,V 0,.slice A n cp] 31)).alloc (.cells #[V 11,.string ⟨#[40,41]⟩,V 0,.slice (A_ w6.heap.size 0) 1 1] 31));have oo:=gX.QN Ep.out λh=>h
      change Hd (∀QS,aP w.heap.size wa QS (.slice A n cp)->aP w.heap.size ((w6.alloc (.cells #[V 1,E_,V 0,.slice A n cp] 31)).alloc (.cells #[V 11,.string ⟨#[40,41]⟩,V 0,.slice (A_ w6.heap.size 0) 1 1] 31)) [Nd.mk 11 [40,41] 0 [Np.CG QS]] (.slice (A_ ((w6.alloc (.cells #[V 1,E_,V 0,.slice A n cp] 31)).heap.size) 0) 1 1))at jy
      have e7:(w6.alloc (.cells #[V 1,E_,V 0,.slice A n cp] 31)).heap.size=w6.heap.size+1:=P9
      rw[e7]at jy;clear e7;generalize ((w6.alloc (.cells #[V 1,E_,V 0,.slice A n cp] 31)).alloc (.cells #[V 11,.string ⟨#[40,41]⟩,V 0,.slice (A_ w6.heap.size 0) 1 1] 31))=W7 at gX oo jy|-;have Cx:=I (aq.trans (Mp.QH gX));have gW:=I gX;have vv:=I oo;clear gX oo r0 r1 adf;obtain⟨p0,p1,y0,y1,hlt⟩:=af.two vv.out;refine dm rfl (λK hK=>?_);go_wp2_with fail
      refine fH ?_;go_wp2_with fail
      have o9:af _ w.heap.size 45 #[V (i:Int),V (er:Int)]:=(vv.put 0 (V (i:Int))).put 1 (V (er:Int));have xO:Mp c.g c.W0.heap.size w (aH W7 w.heap.size (V (i:Int)) (V (er:Int))):=Cx.aH (g:=w.heap.size) ET _ _;have bR:=dS W7 w.heap.size (V (i:Int)) (V (er:Int));obtain⟨f0,f1,_⟩:=af.two o9
      (try simp only[Exit.inBlock,Exit.then])
      refine bodyPost_ret (v:=.tuple #[.slice (A_ (w6.heap.size+1) 0) 1 1,aG i er]) Ea rfl ?_
      rcases Aq.out with⟨QS,rest,k',rfl,rfl,rfl,rfl,aa,hdr,ad,hp⟩|⟨rfl,aj⟩
      .have am:=(hp.QH gW.out).mv bR ar2
       exact aq5
      .exact HQ.out _ _ ⟨aj,_,_,_,rfl,xO⟩
     |false=>
      cases Sv:Np.dx 91 (t::r)with
      |true=>
       have an:=(OW Sv).2;have ajl:(t.QG==[91])=true:=by rw[an];rfl
       have rO:=I (show dA c.E (f+1) op (c.at k)=(kE c.E f 93 op (c.at k)).map λQS=>[.mk 11 [91,93] 0 [Np.CG QS]]from by
        rw[alP f op HL.out];simp only[HX.out];rw[if_neg h4,if_neg h5,if_neg (by simp[MB]),if_pos Sv])
       rw[rO.out]at HQ aY;clear h4 h5 an;go_wp2_with fail
       refine(HA.out 40 _ (bW.alloc (.cells #[V (t.QI:Int),S_ t.QG,V (t.from_:Int),V (t.eF:Int)] 131))).mono ?_;rintro _ w3 ⟨rfl,hf⟩;have bJ:=I ((bW.alloc (.cells #[V (t.QI:Int),S_ t.QG,V (t.from_:Int),V (t.eF:Int)] 131)).trans hf);have ai:=I (hf.QN (MC.alloc (.cells #[V (t.QI:Int),S_ t.QG,V (t.from_:Int),V (t.eF:Int)] 131)) λh=>h);have aw:=I G_;clear hf;rw[MB];go_wp2_with fail
       refine(HA.out 91 _ bJ.out).mono ?_;rintro _ w4 ⟨rfl,hf⟩;have eZ:=I aqJ;have iB:=I as7;have nU:=I as8;clear hf;rw[Sv];have t1:=nU.cell 1;have FI:=nU.lt;go_wp2_with fail
       clear t1 FI;refine(Rc.out 93 w4 (H.QH eZ.out) atU).mono ?_;intro e wa hres;have ac:=hres.parts atU;clear hres;generalize kE c.E f 93 op (c.at k)=X at aY HQ ac;obtain⟨A,n,cp,i,er,rfl,hm,hend⟩:=ac;have aq:=I ((Mp.QH eZ.out).trans hm);have Ep:=I (hm.QN iB.out Zo Pf);have ah:=I (au2 eZ.size hm.size);have ar:=I (eZ.size);have Aq:=I hend;clear hm hend;unfold aG;go_wp2_with fail
       have ap:af (wa.alloc (.cells #[V (i:Int),V (er:Int)] 45)) wa.heap.size 45 #[V (i:Int),V (er:Int)]:=af.new _ _ _;have IP:=I ((M (λ_=>False) wa).alloc (.cells #[V (i:Int),V (er:Int)] 45));have hbr:=Ep.alloc (.cells #[V (i:Int),V (er:Int)] 45);generalize (wa.alloc (.cells #[V (i:Int),V (er:Int)] 45))=W5 at ap IP hbr|-;have r0:=cR y_;have r1:=cR z_;have adf:=ap.lt;have ow:=I hbr;clear ap hbr;refine cu [([(0,true),(1,true),(6,true),(2,false),(3,false),(4,true),(5,false),(7,true)],8)] [] Pg Ph Pg ?_;refine dJ ?_
       repeat(refine Z4 ?_)
       refine aS rfl (λK hK=>?_);go_wp2_with fail
       refine(j6 A n cp _).mono ?_;rintro _ w6 ⟨rfl,hf⟩;have fI:=I (show ag W5 w6 from Touch.BD hf);clear hf;go_wp2
       refine hK _ _ (aA fI.out) ?_;clear hK K;refine aS rfl (λK hK=>?_);go_wp2
       refine hK _ _ an' ?_;clear hK K
       repeat(refine Z4 ?_)
       refine aS rfl (λK hK=>?_);go_wp2
       refine hK _ _ (aA ((fI.alloc _).alloc _)) ?_;clear hK K
       repeat(refine Z4 ?_)
       have jy:=I (λ(QS:List Nd) (aa:aP w.heap.size wa QS (.slice A n cp))=>show aP w.heap.size _ [Nd.mk 11 [91,93] 0 [Np.CG QS]] _ from
        aP.lit (n:=.mk 11 [91,93] 0 [Np.CG QS]) aqh (by
         have:=au2 ah.out (au2 IP.size fI.size);simp;omega) (by show 2<=maxLen;simp[maxLen]))
       have gX:=IP.trans ((fI.alloc (.cells #[V 1,E_,V 0,.slice A n cp] 31)).alloc (.cells #[V 11,.string ⟨#[91,93]⟩,V 0,.slice (A_ w6.heap.size 0) 1 1] 31));have oo:=gX.QN Ep.out λh=>h
       change Hd (∀QS,aP w.heap.size wa QS (.slice A n cp)->aP w.heap.size ((w6.alloc (.cells #[V 1,E_,V 0,.slice A n cp] 31)).alloc (.cells #[V 11,.string ⟨#[91,93]⟩,V 0,.slice (A_ w6.heap.size 0) 1 1] 31)) [Nd.mk 11 [91,93] 0 [Np.CG QS]] (.slice (A_ ((w6.alloc (.cells #[V 1,E_,V 0,.slice A n cp] 31)).heap.size) 0) 1 1))at jy
       have e7:(w6.alloc (.cells #[V 1,E_,V 0,.slice A n cp] 31)).heap.size=w6.heap.size+1:=P9
       rw[e7]at jy;clear e7;generalize ((w6.alloc (.cells #[V 1,E_,V 0,.slice A n cp] 31)).alloc (.cells #[V 11,.string ⟨#[91,93]⟩,V 0,.slice (A_ w6.heap.size 0) 1 1] 31))=W7 at gX oo jy|-;have Cx:=I (aq.trans (Mp.QH gX));have gW:=I gX;have vv:=I oo;clear gX oo r0 r1 adf;obtain⟨p0,p1,y0,y1,hlt⟩:=af.two vv.out;refine dm rfl (λK hK=>?_);go_wp2_with fail
       refine fH ?_;go_wp2_with fail
       have o9:af _ w.heap.size 45 #[V (i:Int),V (er:Int)]:=(vv.put 0 (V (i:Int))).put 1 (V (er:Int));have xO:Mp c.g c.W0.heap.size w (aH W7 w.heap.size (V (i:Int)) (V (er:Int))):=Cx.aH (g:=w.heap.size) ET _ _;have bR:=dS W7 w.heap.size (V (i:Int)) (V (er:Int));obtain⟨f0,f1,_⟩:=af.two o9
       (try simp only[Exit.inBlock,Exit.then])
       refine bodyPost_ret (v:=.tuple #[.slice (A_ (w6.heap.size+1) 0) 1 1,aG i er]) Ea rfl ?_
       rcases Aq.out with⟨QS,rest,k',rfl,rfl,rfl,rfl,aa,hdr,ad,hp⟩|⟨rfl,aj⟩
       .have am:=(hp.QH gW.out).mv bR ar2
        exact aq5
       .exact HQ.out _ _ ⟨aj,_,_,_,rfl,xO⟩
      |false=>
       cases Ay:Np.dx 123 (t::r)with
       |true=>
        have rO:=I (show dA c.E (f+1) op (c.at k)=kE c.E f 125 op (c.at k)from by
         rw[alP f op HL.out];simp only[HX.out];rw[if_neg h4,if_neg h5,if_neg (by simp[MB]),if_neg (by simp[Sv]),if_pos Ay])
        rw[rO.out]at HQ aY;clear h4 h5;go_wp2_with fail
        refine(HA.out 40 _ (bW.alloc (.cells #[V (t.QI:Int),S_ t.QG,V (t.from_:Int),V (t.eF:Int)] 131))).mono ?_;rintro _ w3 ⟨rfl,hf⟩;have bJ:=I ((bW.alloc (.cells #[V (t.QI:Int),S_ t.QG,V (t.from_:Int),V (t.eF:Int)] 131)).trans hf);have ai:=I (hf.QN (MC.alloc (.cells #[V (t.QI:Int),S_ t.QG,V (t.from_:Int),V (t.eF:Int)] 131)) λh=>h);have aw:=I G_;clear hf;rw[MB];go_wp2_with fail
        refine(HA.out 91 _ bJ.out).mono ?_;rintro _ w4 ⟨rfl,hf⟩;have eZ:=I aqJ;have iB:=I as7;have nU:=I as8;clear hf;rw[Sv];go_wp2_with fail
        refine(HA.out 123 _ eZ.out).mono ?_;rintro _ w5 ⟨rfl,hf⟩;have eY:=I (eZ.trans hf);have eO:=I (hf.QN iB.out λh=>h);have iW:=I (hf.QN nU.out λh=>h);clear hf;rw[Ay];go_wp2_with fail
        have iI:=I (Mp.QH (g:=c.g) (B:=c.W0.heap.size) eY.out);have tK:=eO;generalize w5=W2 at iI tK eY|-;refine(Rc.out 125 W2 (H.QH eY.out) aY.out).mono ?_;intro e w3 hres;generalize kE c.E f 125 op (c.at k)=X at aY HQ hres;cases X with
        |out=>exact absurd rfl aY.out
        |err i er=>
         obtain⟨aj,A,n,cp,rfl,hm⟩:=hres;have rM:=I aeA;have dY:=I ait;have F7:=I aj;clear hm aj;obtain⟨q0,q1,z0,z1,ab⟩:=af.two dY.out
         (try unfold aG)
         go_wp2_with fail
         have n1:=dY.fT (V (i:Int)) (V (er:Int));have iU:Mp c.g c.W0.heap.size w (aH w3 (w.heap.size) (V (i:Int)) (V (er:Int))):=rM.aH (g:=w.heap.size) Ls (V (i:Int)) (V (er:Int));have fA:=dS w3 (w.heap.size) (V (i:Int)) (V (er:Int));simp only[aH]at n1 iU fA;generalize (auX (auX w3 (B_ w.heap.size 0) _) (B_ w.heap.size 1) _)=W4 at n1 iU fA|-;obtain⟨f0,f1,_⟩:=af.two n1
         (try simp only[Exit.inBlock,Exit.then])
         exact air
        |ok QS rest=>
         obtain⟨A,cp,k',rfl,aa,hdr,ad,hp,hm⟩:=hres;have rM:=I aeA;have dY:=I ait;have jK:=I aa;have ao:=I hdr;have aJ:=I ad;have oL:=I hp;clear hm aa hdr ad hp;obtain⟨q0,q1,z0,z1,ab⟩:=af.two dY.out
         (try unfold aG)
         go_wp2_with fail
         have n1:=dY.fT (V 0) (V 0);have iU:Mp c.g c.W0.heap.size w (aH w3 (w.heap.size) (V 0) (V 0)):=rM.aH (g:=w.heap.size) Ls (V 0) (V 0);have fA:=dS w3 (w.heap.size) (V 0) (V 0);simp only[aH]at n1 iU fA;generalize (auX (auX w3 (B_ w.heap.size 0) _) (B_ w.heap.size 1) _)=W4 at n1 iU fA|-;obtain⟨f0,f1,_⟩:=af.two n1
         (try simp only[Exit.inBlock,Exit.then])
         exact aqV
       |false=>
        have rO:=I (show dA c.E (f+1) op (c.at k)=.err (Np.place c.en (t::r)) 3 from by
         rw[alP f op HL.out];simp only[HX.out];rw[if_neg h4,if_neg h5,if_neg (by simp[MB]),if_neg (by simp[Sv]),if_neg (by simp[Ay])])
        rw[rO.out]at HQ;clear h4 h5;go_wp2_with fail
        refine(HA.out 40 _ (bW.alloc (.cells #[V (t.QI:Int),S_ t.QG,V (t.from_:Int),V (t.eF:Int)] 131))).mono ?_;rintro _ w3 ⟨rfl,hf⟩;have bJ:=I ((bW.alloc (.cells #[V (t.QI:Int),S_ t.QG,V (t.from_:Int),V (t.eF:Int)] 131)).trans hf);have ai:=I (hf.QN (MC.alloc (.cells #[V (t.QI:Int),S_ t.QG,V (t.from_:Int),V (t.eF:Int)] 131)) λh=>h);have aw:=I G_;clear hf;rw[MB];go_wp2_with fail
        refine(HA.out 91 _ bJ.out).mono ?_;rintro _ w4 ⟨rfl,hf⟩;have eZ:=I aqJ;have iB:=I as7;have nU:=I as8;clear hf;rw[Sv];go_wp2_with fail
        refine(HA.out 123 _ eZ.out).mono ?_;rintro _ w5 ⟨rfl,hf⟩;have eY:=I (eZ.trans hf);have eO:=I (hf.QN iB.out λh=>h);have iW:=I (hf.QN nU.out λh=>h);clear hf;rw[Ay];go_wp2_with fail
        refine(HR.out _ eY.out).mono ?_;rintro _ w9 ⟨rfl,hf⟩;have rM:=I abW;have dY:=I (hf.QN eO.out λh=>h);clear hf;obtain⟨q0,q1,z0,z1,ab⟩:=af.two dY.out
        (try unfold aG)
        go_wp2_with fail
        have n1:=dY.fT (V (Np.place c.en (t::r):Int)) (V 3);have iU:Mp c.g c.W0.heap.size w (aH w9 (w.heap.size) (V (Np.place c.en (t::r):Int)) (V 3)):=rM.aH (g:=w.heap.size) Ls (V (Np.place c.en (t::r):Int)) (V 3);have fA:=dS w9 (w.heap.size) (V (Np.place c.en (t::r):Int)) (V 3);simp only[aH]at n1 iU fA;generalize (auX (auX w9 (B_ w.heap.size 0) _) (B_ w.heap.size 1) _)=W4 at n1 iU fA|-;obtain⟨f0,f1,_⟩:=af.two n1
        (try simp only[Exit.inBlock,Exit.then])
        refine bodyPost_ret (v:=.tuple #[N_,aG (Np.place c.en (t::r)) 3]) Ea rfl ?_;exact HQ.out _ _ ⟨by decide,none,0,0,rfl,iU⟩
end
end Go.Proofs.YtabjglnjjdcfmaaGreatDoor
