/- Part 35 of 41 of a proof. No condition. -/
import Derived.Test.YtabjglnjjdcfmaaGreatDoorWe34
set_option maxRecDepth 100000
set_option maxHeartbeats 2000000
namespace Go.Proofs.YtabjglnjjdcfmaaGreatDoor
open _root_.Nat renaming le_refl->au3,lt_of_lt_of_le->avc
open _root_.List renaming length_append->auZ,length_singleton->av4
open _root_.Go.Proofs.Tryz
section
open Go.RowKit
open Tr (Nd)
open Lx (aB)
open D7 (R cZ kE eB eP dA bV fD di pArg)
attribute [local go_sem] gD stillUpon
def ang(c:Cf)(F:Nat)(op:List Nat)(k:Kp)(w:W_)(B:Nat)(X:R (List Nd))(v:Value)(wr:W_)(f:Nat):Prop:=∃(k1:Kp) (ks:List Nd) (A:Option Addr) (cp:Nat),v=.slice A ks.length cp/\af wr w.heap.size 45 #[V 0,V 0]/\Grow (λ_=>False) wr w.heap.size B ks (.slice A ks.length cp)/\Ps c k1 op wr/\k.p<=k1.p/\Mp c.g c.W0.heap.size w wr/\B<=wr.heap.size/\
 f<=F/\ks.length+1000*f<=1000*F/\X=(cZ c.E f op (c.at k1)).map λl=>ks++l
noncomputable def amS (c:Cf) (F:Nat) (op:List Nat) (k:Kp) (w:W_) (B:Nat) (X:R (List Nd)) (v:Value) (wr:W_):Nat:=least (ang c F op k w B X v wr)
theorem ahr(c:Cf)(hc:c.Good)(F:Nat)(hF:F<=1000000)(ad7:∀f',f'<F->PW c f'):Nq c F:=by
 intro k op w h hop hne;obtain⟨i,hi,hz0,hz1,hz2⟩:=info_parts IG;have aL:=I ad7;have HT:=I (λ(k':Kp) (w':W_) (hp:Ps c k' op w')=>qO c hc k' op w' hp);have HA:=I (λ(b:UInt8) (k':Kp) (w':W_) (hp:Ps c k' op w')=>vE c hc k' op b w' hp);have aju:=I hc.knz;have au:=hc.tl;have H:=I h;have oJ:=I hop;have Et:=I hF;have aF:c.g<w.heap.size:=h.Ap;have ax:=I h.low.size;have aY:=I hne;refine Calls.via λQ hQ=>?_
 have HQ:=I hQ;clear hne ad7 h hop hc hQ hF;generalize hX:cZ c.E F op (c.at k)=X at aY HQ;have HX:=I hX;clear hX;unfold lV;go_enter func27,ntmps27;go_wp2_with fail
 have ae:ag w (w.alloc (.cells #[V 0,V 0] 45)):=(M _ _).alloc _;have aw:af (w.alloc (.cells #[V 0,V 0] 45)) w.heap.size 45 #[V 0,V 0]:=af.new _ _ _;have Cw:(w.alloc (.cells #[V 0,V 0] 45)).heap.size=w.heap.size+1:=P9
 generalize (w.alloc (.cells #[V 0,V 0] 45))=W1 at ae aw Cw|-;have aK:=I ae;have tL:=I aw;have xq:=I Cw;clear ae aw Cw
 go_loopw [4] (λj av=>∃(wr:W_) (m:Nat),wr=av/\Hd (ang c F op k w W1.heap.size X j wr m)) (λj wr=>amS c F op k w W1.heap.size X j wr)
 case atStart=>
  refine⟨_,F,rfl,I ⟨k,[],none,0,rfl,tL,Grow.nil _ _ _ _,H.QH aK,au3 _,Mp.QH aK,au3 _,au3 _,by simp,?_⟩⟩;rw[<-HX.out];cases cZ c.E F op (c.at k)<;>rfl
 case round=>
  obtain⟨wr,m0,rfl,amb⟩:=hrel;obtain⟨k1,ks,A,cp,rfl,aw,hg,hp,ad,hm,hsz,hle,aM,a0⟩:=amh amb;have jg:=I aw;have HG:=I hg;have HP:=I hp;have HM:=I hm;have rO:=I a0
  obtain⟨f',hf'⟩:∃f',amS c F op k w W1.heap.size X (.slice A ks.length cp) wr=f'+1:=by
   rcases Nat.eq_zero_or_pos (amS c F op k w W1.heap.size X (.slice A ks.length cp) wr)with h0|h0
   .exfalso
    have h1:=rO.out;rw[show least (ang c F op k w W1.heap.size X (.slice A ks.length cp) wr)=0 from h0,cZ]at h1;exact aY h1
   .exact⟨amS c F op k w W1.heap.size X (.slice A ks.length cp) wr-1,by omega⟩
  have kX:=I (show X=(cZ c.E (f'+1) op (c.at k1)).map λl=>ks++l from by rw[<-hf'];exact rO);have CE:=I (show f'+1<=F/\ks.length+1000*(f'+1)<=1000*F from⟨by rw[<-hf'];exact hle,by rw[<-hf'];exact aM⟩);have aV:=I hf';have aJ:=I ad;have xI:=I hsz;have aT:w.heap.size<wr.heap.size:=jg.lt;have aX:=I (show c.g<wr.heap.size from Nat.lt_trans aF aT);clear rO hf' hle ad hsz aM a0 amb aw hg hp hm;have ay:=I (HT k1 wr HP);have aO:=I (λ(b:UInt8) (w':W_) (hf:ag wr w')=>HA b k1 w' (HP.QH hf));cases hl:(c.at k1).l with
  |nil=>
   rw[hl]at ay;unfold yK at ay
   dsimp only at ay
   have HL:=I hl;clear hl
   rcases List.eq_nil_or_concat op with Ny|⟨op',x,Ny⟩
   .have Eu:=I (show X=.ok ks (c.at k1)from by
     rw[kX.out,cZ,HL.out,Ny];simp[D7.R.map,D7.R.bind])
    obtain⟨ov,hb,ho⟩:=HP.box;obtain⟨Ao,co,rfl⟩:=mK ho;rw[Ny,List.length_nil]at hb;have HB:=I hb;clear hb ho Ny;go_wp2_with fail
    refine ay.mono ?_;rintro _ w1 ⟨rfl,hf⟩;have gL:=I hf;have ql:=I (gL.QN jg λh=>h);have hb1:=hf.QN HB λh=>h
    have q3:=hb1.cell 3;have hg1:=hb1.lt;obtain⟨p0,p1,y0,y1,hlt⟩:=af.two ql;clear hf hb1;go_wp2_with fail
    have aa:=(((HG.tree aez).QH gL).other ql Pf (dS w1 w.heap.size (V 0) (V 0))).QH ((M _ _).alloc (.cells #[V 0,E_,V (c.en:Int),V (c.en:Int)] 131));have am:=((HP.QH gL).aH ql Pf Zo ax (V 0) (V 0)).QH ((M _ _).alloc (.cells #[V 0,E_,V (c.en:Int),V (c.en:Int)] 131));have pq:Mp c.g c.W0.heap.size w _:=((HM.fr gL).aH (g:=w.heap.size) ET (V 0) (V 0)).alloc (.cells #[V 0,E_,V (c.en:Int),V (c.en:Int)] 131);have kD:=((ql).fT (V 0) (V 0)).alloc (.cells #[V 0,E_,V (c.en:Int),V (c.en:Int)] 131);obtain⟨f0,f1,_⟩:=af.two kD;simp only[aH]at aa am pq f0 f1
    exact WI
   .rw[List.concat_eq_append]at Ny
    obtain⟨ov,hb,ho⟩:=HP.box
    have aC:=I (show X=.err x 12 from by
     rw[kX.out,cZ,HL.out,if_pos ⟨rfl,by rw[Ny];simp⟩,Ny];simp[D7.R.map,D7.R.bind])
    obtain⟨go,co,rfl,aS⟩:∃go cp,ov=.slice (A_ go 0) (op'.length+1) cp/\op'.length+1<=cp:=by
     rcases ho.2 with⟨_,h2⟩|⟨g,cap,cur,h1,_,_,h2,_⟩
     .rw[Ny]at h2;simp at h2
     .rw[Ny,auZ,av4]at h1 h2
      exact⟨_,_,h1,h2⟩
    have ao:op'.length+1<=100000:=by
     have h1:=oJ.out;have h2:=HP.le;rw[Ny,auZ,av4]at h1;have:=aJ.out;omega
    have Me:=I (show wr.cell? (B_ go op'.length)=some (V (x:Int))from by
     have:=ho.cells (g:=go) rfl op'.length (V (x:Int)) (by rw[Ny];simp)
     rwa [Addr.add_mid,Nat.zero_add]at this)
    have aI:=I (show go<wr.heap.size from bL Me);have HB:=I hb;have HCO:=I aS;clear hb ho Ny aS;go_wp2_with fail
    refine ay.mono ?_;rintro _ w1 ⟨rfl,hf⟩;have gL:=I hf;have hb1:=hf.QN HB λh=>h
    have q3:=hb1.cell 3;have hg1:=hb1.lt;have d1:decide ((op'.length:Int)+1>0)=true:=decide_eq_true Zo;have d2:(0:Int)<(op'.length:Int)+1:=Zo
    clear hf hb1;go_wp2_with fail
    have an:=gL.alloc (.cells #[V 0,E_,V (c.en:Int),V (c.en:Int)] 131);generalize (w1.alloc (.cells #[V 0,E_,V (c.en:Int),V (c.en:Int)] 131))=w2 at an|-;clear q3 hg1 d1 d2;have r3:=cR (((an.QN HB λh=>h).cell 3).trans rfl);have rx:=cR (an.cell Me λh=>h);have hg2:c.g<w2.heap.size:=avc aX an.size;have hgo:go<w2.heap.size:=avc aI an.size;have e1:((op'.length:Int)+1)-1=(op'.length:Int):=Zo
    have e2:IntKind.i64.wrap ((op'.length:Int))=(op'.length:Int):=IntWalk.i64_in _ Zo;have e3:(op'.length:Int)<(op'.length:Int)+1:=Zo
    have e4:(0:Int)<=(op'.length:Int):=Zo
    have ql:=I (an.QN jg λh=>h);have aE:=I (HM.fr an);clear an;refine cu [([(0,true),(1,true),(2,true),(3,true),(4,true),(5,true),(6,true),(7,true),(8,true),(9,true),(10,true),(11,true),(12,true),(13,true)],14)] [] Pg Ph Pg ?_;refine dJ ?_
    repeat(refine Z4 ?_)
    clear r3 rx e1 e2 e3 e4 hgo hg2;obtain⟨p0,p1,y0,y1,hlt⟩:=af.two (ql.drewN 1);refine dm rfl (λK hK=>?_);go_wp2_with fail
    refine fH ?_;go_wp2_with fail
    have al:=((ql.drewN 1).fT (V (x:Int)) (V 12));have wO:Mp c.g c.W0.heap.size w _:=(aE.drewN 1).aH (g:=w.heap.size) ET (V (x:Int)) (V 12);obtain⟨f0,f1,_⟩:=af.two al;simp only[aH]at f0 f1 wO
    refine bodyPost_ret (v:=.tuple #[N_,aG x 12]) auV rfl ?_;rw[aC.out]at HQ;exact HQ _ _ ⟨by decide,none,0,0,rfl,wO⟩
  |cons t r=>
   rw[hl]at ay;unfold yK at ay
   dsimp only at ay
   have HL:=I hl;have ah:t∈c.T:=List.mem_of_mem_drop (i:=k1.p) ar';have aA:=aju.out t ah;have e0:((t.QI:Int)==0)=false:=MW
   have e0p:¬((t.QI:Int)=0):=Zo
   have aP:=I (show Np.stops (t::r)=true->X=.ok ks (c.at k1)from λhs=>by
    rw[kX.out,cZ,HL.out,if_neg (by simp),if_pos (.inr hs)];simp[D7.R.map,D7.R.bind])
   clear hl ah aA
   by_cases h8:t.QI=8
   .have Eu:=I (aP (by simp[Np.stops,Np.j5,h8]))
    rw[show((t.QI:Nat):Int)=8 from by omega]at ay;clear h8 e0 e0p;go_wp2_with fail
    refine ay.mono ?_;rintro _ w1 ⟨rfl,hf⟩;have gL:=I hf;have ql:=I (gL.QN jg λh=>h);clear hf;obtain⟨p0,p1,y0,y1,hlt⟩:=af.two ql;go_wp2_with fail
    have aa:=(((HG.tree aez).QH gL).other ql Pf (dS w1 w.heap.size (V 0) (V 0))).QH ((M _ _).alloc (.cells #[V 8,S_ t.QG,V (t.from_:Int),V (t.eF:Int)] 131));have am:=((HP.QH gL).aH ql Pf Zo ax (V 0) (V 0)).QH ((M _ _).alloc (.cells #[V 8,S_ t.QG,V (t.from_:Int),V (t.eF:Int)] 131));have pq:Mp c.g c.W0.heap.size w _:=((HM.fr gL).aH (g:=w.heap.size) ET (V 0) (V 0)).alloc (.cells #[V 8,S_ t.QG,V (t.from_:Int),V (t.eF:Int)] 131);have kD:=((ql).fT (V 0) (V 0)).alloc (.cells #[V 8,S_ t.QG,V (t.from_:Int),V (t.eF:Int)] 131);obtain⟨f0,f1,_⟩:=af.two kD;simp only[aH]at aa am pq f0 f1
    exact WI
   .have e8:=uH _ 8 h8
    have e8p:¬((t.QI:Int)=8):=Zo
    have H8:=I (show Np.j5 (t::r)=false from by simp[Np.j5,h8]);clear h8;go_wp2_with fail
    refine ay.mono ?_;rintro _ w1 ⟨rfl,hf⟩;have gL:=I hf;have ql:=I (gL.QN jg λh=>h);clear hf;go_wp2_with fail
    refine(aO 41 _ (gL.alloc (.cells #[V (t.QI:Int),S_ t.QG,V (t.from_:Int),V (t.eF:Int)] 131))).mono ?_;rw[HL.out];rintro _ w2 ⟨rfl,hf⟩;have bW:=I ((gL.alloc (.cells #[V (t.QI:Int),S_ t.QG,V (t.from_:Int),V (t.eF:Int)] 131)).trans hf);have aq:=I (hf.QN (ql.alloc (.cells #[V (t.QI:Int),S_ t.QG,V (t.from_:Int),V (t.eF:Int)] 131)) λh=>h);clear hf;cases m41:Np.dx 41 (t::r)with
    |true=>
     have Eu:=I (aP (by simp[Np.stops,m41]));obtain⟨p0,p1,y0,y1,hlt⟩:=af.two aq;go_wp2_with fail
     have aa:=(((HG.tree aez).QH bW).other aq Pf (dS w2 w.heap.size (V 0) (V 0)));have am:=((HP.QH bW).aH aq Pf Zo ax (V 0) (V 0));have pq:Mp c.g c.W0.heap.size w _:=((HM.fr bW).aH (g:=w.heap.size) ET (V 0) (V 0));have kD:=((aq).fT (V 0) (V 0));obtain⟨f0,f1,_⟩:=af.two kD;simp only[aH]at aa am pq f0 f1
     exact WI
    |false=>
     go_wp2_with fail
     refine(aO 93 _ bW).mono ?_;rw[HL.out];rintro _ w3 ⟨rfl,hf⟩;have bJ:=I (bW.trans hf);have ai:=I (hf.QN aq λh=>h);clear hf;cases m93:Np.dx 93 (t::r)with
     |true=>
      have Eu:=I (aP (by simp[Np.stops,m93]));obtain⟨p0,p1,y0,y1,hlt⟩:=af.two ai;go_wp2_with fail
      have aa:=(((HG.tree aez).QH bJ).other ai Pf (dS w3 w.heap.size (V 0) (V 0)));have am:=((HP.QH bJ).aH ai Pf Zo ax (V 0) (V 0));have pq:Mp c.g c.W0.heap.size w _:=((HM.fr bJ).aH (g:=w.heap.size) ET (V 0) (V 0));have kD:=((ai).fT (V 0) (V 0));obtain⟨f0,f1,_⟩:=af.two kD;simp only[aH]at aa am pq f0 f1
      exact WI
     |false=>
      go_wp2_with fail
      refine(aO 125 _ bJ).mono ?_;rw[HL.out];rintro _ w4 ⟨rfl,hf⟩;have eZ:=I aqJ;have iB:=I (hf.QN ai λh=>h);clear hf;cases IX:Np.dx 125 (t::r)with
      |true=>
       have Eu:=I (aP (by simp[Np.stops,IX]));obtain⟨p0,p1,y0,y1,hlt⟩:=af.two iB;go_wp2_with fail
       have aa:=(((HG.tree aez).QH eZ).other iB Pf (dS w4 w.heap.size (V 0) (V 0)));have am:=((HP.QH eZ).aH iB Pf Zo ax (V 0) (V 0));have pq:Mp c.g c.W0.heap.size w _:=((HM.fr eZ).aH (g:=w.heap.size) ET (V 0) (V 0));have kD:=((iB).fT (V 0) (V 0));obtain⟨f0,f1,_⟩:=af.two kD;simp only[aH]at aa am pq f0 f1
       exact WI
      |false=>
       go_wp2_with fail
       refine(aO 38 _ eZ).mono ?_;rw[HL.out];rintro _ w5 ⟨rfl,hf⟩;have eY:=I (eZ.trans hf);have eO:=I (hf.QN iB λh=>h);clear hf;cases OX:Np.dx 38 (t::r)with
       |true=>
        have Eu:=I (aP (by simp[Np.stops,OX]));obtain⟨p0,p1,y0,y1,hlt⟩:=af.two eO;go_wp2_with fail
        have aa:=(((HG.tree aez).QH eY).other eO Pf (dS w5 w.heap.size (V 0) (V 0)));have am:=((HP.QH eY).aH eO Pf Zo ax (V 0) (V 0));have pq:Mp c.g c.W0.heap.size w _:=((HM.fr eY).aH (g:=w.heap.size) ET (V 0) (V 0));have kD:=((eO).fT (V 0) (V 0));obtain⟨f0,f1,_⟩:=af.two kD;simp only[aH]at aa am pq f0 f1
        exact WI
       |false=>
        go_wp2_with fail
        have aR:=I (show Np.stops (t::r)=false from by simp[Np.stops,H8.out,m41,m93,IX,OX])
        have aB:=I (show X=((eP c.E f' op (c.at k1)).bind λmore r=>(cZ c.E f' op r).map λQS=>more++QS).map λl=>ks++l from by
         rw[kX.out,cZ,HL.out,if_neg (by simp),if_neg (by simp[aR.out])])
        refine(aL f' (by have:=CE.out;omega) k1 op w5 (HP.QH eY) (by have:=oJ.out;have:=aJ.out;(try simp only[Kp.alq]at*);omega) (λh=>aY (by rw[aB.out,h];rfl))).mono ?_;intro e w6 hres;have aD:∀QS rest,eP c.E f' op (c.at k1)=.ok QS rest->QS.length<=1000:=λQS rest h=>D7.aoo _ _ _ _ _ _ h
        have ac:=hres.parts (λh=>aY (by rw[aB.out,h];rfl));clear hres;generalize eP c.E f' op (c.at k1)=Y at aB ac aD;obtain⟨A1,n1,uo,i1,ar,rfl,hm,hend⟩:=ac;have Dp:=I ((HM.fr eY).trans hm);have gy:=I (hm.QN eO Zo Pf);have AO:=I (show w.heap.size<w6.heap.size from gy.lt);have JX:=I hm;have aW:=I eY;clear hm
        rcases hend with⟨QS,rest,k',rfl,rfl,rfl,rfl,aa,hdr,IJ,hp⟩|⟨rfl,aj⟩
        case inr=>
         have F7:=I aj;have e0:=alr aj;clear aj aD;have aC:=I (show X=.err i1 ar from by rw[aB.out];rfl);unfold aG;go_wp2_with fail
         have ap:=af.new w6 45 #[V (i1:Int),V (ar:Int)];have hbr:=gy.alloc (.cells #[V (i1:Int),V (ar:Int)] 45);have az:=Dp.alloc (.cells #[V (i1:Int),V (ar:Int)] 45);generalize (w6.alloc (.cells #[V (i1:Int),V (ar:Int)] 45))=W5 at ap hbr az|-;have r0:=cR y_;have r1:=cR z_;have ab:=ap.lt;have ow:=I hbr;have aN:=I az;clear ap hbr az;refine cu [([(0,true),(1,true)],2)] [] Pg Ph Pg ?_;refine dJ ?_
         repeat(refine Z4 ?_)
         obtain⟨p0,p1,y0,y1,hlt⟩:=af.two (ow.drewN 1);refine dm rfl (λK hK=>?_);go_wp2_with fail
         refine fH ?_;go_wp2_with fail
         have al:af _ (w.heap.size) 45 #[V (i1:Int),V (ar:Int)]:=((ow.drewN 1).put 0 (V (i1:Int))).put 1 (V (ar:Int));have wO:=((aN.drewN 1).setCell (p:=B_ w.heap.size 0) WL (V (i1:Int))).setCell (p:=B_ w.heap.size 1) WL (V (ar:Int));obtain⟨f0,f1,_⟩:=af.two al
         refine bodyPost_ret (v:=.tuple #[N_,aG i1 ar]) auV rfl ?_;rw[aC.out]at HQ;exact ark
        have aU:=I (aD QS rest rfl);clear aD
        have aQ:=I (show X=(cZ c.E f' op (c.at k')).map λl=>(ks++QS)++l from by
         rw[aB.out,hdr];show R.map (R.map (cZ c.E f' op rest) (λitems'=>QS++items')) (λl=>ks++l)=R.map (cZ c.E f' op rest) _;cases cZ c.E f' op rest<;>simp[D7.R.map,D7.R.bind])
        have ajw:=I aa;have pg:=I hp;have uP:=I IJ;have wK:=I (show Grow (λ_=>False) w6 w.heap.size W1.heap.size ks (.slice A ks.length cp)from(HG.QH eY).mv JX aez (λ_ h=>h.elim) (λb hb=>.inr (.inr (PT.Sd (HP.QH eY) hb))))
        have aZ:=I (show∀b,(Value.slice A ks.length cp).ownBlock=some b->b<w5.heap.size from λb hb=>by
         obtain⟨cs,h1,_⟩:=HG.out;obtain⟨_,cur,h4⟩:=fe h1 hb;exact avc (Array.getElem?_eq_some_iff.1 h4).1 eY.size)
        clear hdr aa hp IJ;unfold aG;have HLK:=I (show ks.length+QS.length<2^40 by have:=CE.out;have:=aU.out;have:=Et.out;omega)
        go_wp2_with (at_builtin;refine alO rfl (.tmp 71) (.tmp 72) rfl i _ hi hz0 hz1 hz2 rfl (B0:=w.heap.size) (B:=W1.heap.size) (B1:=w5.heap.size) (ks:=ks) (ms:=QS) (v:=.slice A ks.length cp) (y:=.slice A1 QS.length uo) (wK.QH Q_) WH WH (ajw.QH Q_) (by have:=aW.size;omega) (λ_ h=>h.elim) aZ HLK (by have:=xI.out;have:=aW.size;have:=JX.size;simp;omega) ?_;intro A8 fq W8 jI bR;refine jw.mk ?_)
        have um:=bR.ps (pg.QH ((M _ _).alloc (.cells #[V 0,V 0] 45))) (by have:=xq.out;have:=ax.out;omega) aez;have xO:=bR.mp (Dp.fr ((M _ _).alloc (.cells #[V 0,V 0] 45))) aez;have o9:=bR.KM (gy.alloc (.cells #[V 0,V 0] 45)) aez;have a1:W1.heap.size<=W8.heap.size:=by have:=bR.size;have:=xI.out;have:=aW.size;have:=JX.size;simp at*;omega
        have al1:=I (show ang c F op k w W1.heap.size X (.slice A8 (ks.length+QS.length) fq) W8 f' from⟨k',ks++QS,A8,fq,by rw[auZ],o9,by rw[auZ];exact jI,um,Nat.le_trans aJ uP,xO,a1,by have:=CE.out;omega,by have:=CE.out;have:=aU.out;rw[auZ];omega,aQ⟩);clear um xO o9 a1 jI bR;refine jw.go ?_;go_wp2
        refine⟨⟨_,_,rfl,al1⟩,?_⟩;have h1:amS c F op k w W1.heap.size X (.slice A8 (ks.length+QS.length) fq) W8<=f':=least_le al1;have h2:=aV.out;omega
end
end Go.Proofs.YtabjglnjjdcfmaaGreatDoor
