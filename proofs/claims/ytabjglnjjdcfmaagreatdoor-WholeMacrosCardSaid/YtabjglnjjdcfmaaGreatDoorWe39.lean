/- Part 39 of 41 of a proof. No condition. -/
import Derived.Test.YtabjglnjjdcfmaaGreatDoorWe38
set_option maxRecDepth 100000
set_option maxHeartbeats 4000000
namespace Go.Proofs.YtabjglnjjdcfmaaGreatDoor
open _root_.Nat renaming eq_zero_or_pos->awr,le_trans->au2,sub_self->awi
open _root_.Array renaming replicate->au4
open _root_.Go.Proofs.Tryz
section
open Go.RowKit
open Tr (Nd)
open Lx (aB)
open D7 (R aln alk pArg alj)
attribute [local go_sem] gD stillUpon
theorem Ps.own_ne{c:Cf}{op:List Nat}{w:W_}{ov:Value}{cs:Array Value}(hb:af w c.g 85 cs)(ho:w.ownsRow c.W0.heap.size 3 1 ov op.length (EO (up op))):∀b,ov.ownBlock=some b->b≠c.g:=λb hb'=>by
 exact ag6
theorem Ps.aoK{c:Cf}{k:Kp}{op:List Nat}{w:W_}(h:Ps c k op w)(n:Nat)(hn:n<=1000*k.p):Ps c ⟨k.p,n,k.b⟩ op (w.setCell (B_ c.g 7) (V (n:Int)))/\Mp c.g c.W0.heap.size w (w.setCell (B_ c.g 7) (V (n:Int))):=by
 obtain⟨ov,hb,ho⟩:=h.box;have hne:=Ps.own_ne hb ho;exact⟨⟨h.low.setCell (p:=B_ c.g 7) Wh _,⟨ov,hb.put 7 (V (n:Int)),aQ ho ((M (λb=>b=c.g) w).setCell (p:=B_ c.g 7) Wh _) hne⟩,h.le,hn⟩,Mp.put w 7 _⟩
theorem Ps.aoL{c:Cf}{k:Kp}{op:List Nat}{w:W_}(h:Ps c k op w)(b:Bool):Ps c ⟨k.p,k.n,b⟩ op (w.setCell (B_ c.g 8) (.bool b))/\Mp c.g c.W0.heap.size w (w.setCell (B_ c.g 8) (.bool b)):=by
 obtain⟨ov,hb,ho⟩:=h.box;have hne:=Ps.own_ne hb ho;exact⟨⟨h.low.setCell (p:=B_ c.g 8) Wh _,⟨ov,hb.put 8 (.bool b),aQ ho ((M (λb=>b=c.g) w).setCell (p:=B_ c.g 8) Wh _) hne⟩,h.le,h.nl⟩,Mp.put w 8 _⟩
theorem Ps.cells{c:Cf}{k:Kp}{op:List Nat}{w:W_}(h:Ps c k op w):w.cell? (B_ c.g 4)=some c.tp/\w.cell? (B_ c.g 7)=some (V (k.n:Int))/\w.cell? (B_ c.g 8)=some (.bool k.b)/\w.frozen? (B_ c.g 7)=false/\w.frozen? (B_ c.g 8)=false/\c.g<w.heap.size:=by
 obtain⟨ov,hb,_⟩:=h.box;exact⟨hb.cell 4,hb.cell 7,hb.cell 8,hb.frozen 7,hb.frozen 8,hb.lt⟩
theorem aoM(c:Cf)(hc:c.Good)(F:Nat)(IE:∀f',f'<F->xN c f'):amz c (F+1):=by
 intro k op t m w h hop aP an a1 hne;have ac8:=I IE;have au:=hc.tl
 have aoN:=I (show m.params<=4 from by
  have hm:m∈c.tb:=List.mem_of_find?_eq_some a1
  rcases hc.tab with⟨_,h⟩|⟨gt,bm,nv,NY,_,h⟩
  .rw[h]at hm;cases hm
  .exact(h.D9 m hm).2.1)
 have agf:=I (λ(k':Kp) (w':W_) (hp:Ps c k' op w')=>alB.at hc hp);have H:=I h;have oJ:=I hop;have wH:=I aP;have kJ:=I an;have aF:c.g<w.heap.size:=h.Ap;have ax:=I h.low.size;obtain⟨X,hX⟩:∃X,X=alk c.E F m.params op true [] (c.at k):=⟨_,rfl⟩;have aA:aln c.E (F+1) m.params op t (c.at k)=X.bind λp r=>alj c.E t k.n k.b p.1 p.2 r:=by rw[aln,hX];rfl
 rw[aA]at hne|-;have aY:=I hne;have HX:=I hX;obtain⟨n,hn⟩:∃n,n=m.params:=⟨_,rfl⟩;have HN:=I hn;rw[<-hn]at HX aoN|-;refine Calls.via λQ hQ=>?_
 have HQ:=I hQ;obtain⟨a4,a7,a8,z7,z8,_⟩:=h.cells;clear hne IE h hop hc hQ hX aA aP an a1 hn;unfold lV agv;go_enter func146,ntmps146;go_wp2_with fail
 have aK:=I (show ag w ((w.alloc (.cells #[.int .i64 (t.QI:Int),.string ⟨t.QG.toArray⟩,.int .i64 (t.from_:Int),.int .i64 (t.eF:Int)] 131)).alloc (.cells #[.int .i64 0,.int .i64 0] 45))from((M _ w).alloc _).alloc _);have ai:=I ((af.new w 131 #[.int .i64 (t.QI:Int),.string ⟨t.QG.toArray⟩,.int .i64 (t.from_:Int),.int .i64 (t.eF:Int)]).alloc (.cells #[.int .i64 0,.int .i64 0] 45));have jg:=I (af.new2 w (.cells #[.int .i64 (t.QI:Int),.string ⟨t.QG.toArray⟩,.int .i64 (t.from_:Int),.int .i64 (t.eF:Int)] 131) 45 #[.int .i64 0,.int .i64 0]);have yc:=I (show((w.alloc (.cells #[.int .i64 (t.QI:Int),.string ⟨t.QG.toArray⟩,.int .i64 (t.from_:Int),.int .i64 (t.eF:Int)] 131)).alloc (.cells #[.int .i64 0,.int .i64 0] 45)).heap.size=w.heap.size+2 by simp);generalize ((w.alloc (.cells #[.int .i64 (t.QI:Int),.string ⟨t.QG.toArray⟩,.int .i64 (t.from_:Int),.int .i64 (t.eF:Int)] 131)).alloc (.cells #[.int .i64 0,.int .i64 0] 45))=W1 at aK ai jg yc|-;have Iu:=I (H.QH aK);obtain⟨b4,b7,b8,_,_,hg1⟩:=Iu.cells;have r7:=cR (b7.trans rfl);have r8:=cR (b8.trans rfl);refine cu [] [(0,true),(1,true),(2,true),(3,true),(4,true),(5,true),(6,true),(7,true),(8,true),(9,true)] Pg Ph Pg ?_;refine EN ?_
 repeat(refine Z4 ?_)
 refine sj ?_;have ve:=I ar8;have aoO:=I (ai.drewN 1);have amd:=I (jg.drewN 1);have ae:=I (Iu.QH ((M _ W1).drewN 1));have a2:=I (show(W1.drewN 1).heap.size=w.heap.size+2 from yc);clear r7 r8 b4 b7 b8 hg1 aK ai jg Iu yc a4 a7 a8 z7 z8;generalize W1.drewN 1=W2 at ve aoO amd ae a2|-;go_wp2
 go_loopw [10,11,25] (λa z i av=>∃(wr:W_) (q:Nat) (k1:Kp) (Gg:List Nd) (zz:Bool) (A:Option Addr) (cp:Nat),wr=av/\a=.slice A Gg.length cp/\z=.bool zz/\i=.int .i64 q/\q<=n/\Hd (Gg.length=q)/\Hd (af wr w.heap.size 131 #[.int .i64 (t.QI:Int),.string ⟨t.QG.toArray⟩,.int .i64 (t.from_:Int),.int .i64 (t.eF:Int)])/\Hd (af wr (w.heap.size+1) 45 #[.int .i64 0,.int .i64 0])/\Hd (Grow (λ_=>False) wr w.heap.size W2.heap.size Gg (.slice A Gg.length cp))/\Hd (Ps c k1 op wr)/\Hd (k.p<=k1.p)/\Hd (Mp c.g c.W0.heap.size w wr)/\Hd (W2.heap.size<=wr.heap.size)/\Hd (X=alk c.E (F-q) (n-q) op zz Gg (c.at k1))) (λ_ _ i _=>n-(intOf i).toNat)
 case atStart=>exact⟨_,0,k,[],true,none,0,rfl,rfl,rfl,rfl,Nat.zero_le _,I rfl,aoO,amd,I auE,ae,I PD,I (Mp.QH ve),I PD,HX⟩
 case round=>
  clear aoO amd ae HX;obtain⟨wr,q,k1,Gg,zz,A,cp,rfl,rfl,rfl,rfl,hq,Rt,ai,jg,HG,HP,aJ,HM,xI,rO⟩:=hrel;have hn4:=aoN.out
  by_cases c1:q<n
  .have d1:decide ((q:Int)<(n:Int))=true:=dT Zo
   have jo:decide (q<n)=true:=dT c1;have aE:(q:Int)<(n:Int):=Zo
   obtain⟨f',hf'⟩:∃f',F-q=f'+1:=by
    rcases awr (F-q)with h0|h0
    .exfalso
     have h1:=rO.out;rw[h0]at h1;exact aY (by rw[h1];cases n-q<;>(rw[alk];rfl))
    .exact⟨F-q-1,by omega⟩
   obtain⟨n',hn'⟩:∃n',n-q=n'+1:=⟨n-q-1,by omega⟩;have kX:=I (show X=(pArg c.E f' op (c.at ⟨k1.p,0,false⟩)).bind λa r=>alk c.E f' n' op (zz&&!r.b) (Gg++[a]) r by rw[rO.out,hf',hn',alk];rfl);have Et:=I (show f'<F/\f'=F-(q+1)/\n'=n-(q+1)from by omega);have bb:=I (And.intro c1 hn4);clear hf' hn' rO;obtain⟨b4,b7,b8,z7,z8,hg1⟩:=HP.cells;have Cj:=I (HP.aoK 0 JI);have aR:=I (Cj.out.1.aoL false);have aL:=I ((HM.trans Cj.out.2).trans aR.out.2);have ZB:=I (show Touch (λb=>b=c.g) wr ((wr.setCell ⟨c.g,7,none⟩ (.int .i64 ((0:Nat):Int))).setCell ⟨c.g,8,none⟩ (.bool false))from((M (λb=>b=c.g) wr).setCell (p:=⟨c.g,7,none⟩) Wh _).setCell (p:=⟨c.g,8,none⟩) Wh _);rw[show((0:Nat):Int)=0 from rfl]at aR aL ZB;go_wp2_with fail
   have ac:=I aR.out.1;clear b4 b7 b8 z7 z8 hg1 Cj aR d1 jo aE;generalize ((wr.setCell ⟨c.g,7,none⟩ (.int .i64 0)).setCell ⟨c.g,8,none⟩ (.bool false))=w3 at aL ZB ac|-;have Ym:=I (ZB.QN ai Zo);have dY:=I (ZB.QN jg Zo);have ZT:=I (HG.mv ZB ain (λ_ h=>h.elim) (λb hb=>.inr (.inr (by rw[hb];exact PT.Sd HP Wh))));have aoP:=I (show wr.heap.size<=w3.heap.size from ZB.size);have HOW:=I ZT.pY;refine(ac8 f' Et.out.1 ⟨k1.p,0,false⟩ op w3 ac (au2 oJ aJ) (λh=>aY ath)).mono ?_;intro e w4 hres;generalize pArg c.E f' op (c.at ⟨k1.p,0,false⟩)=Y at kX hres;cases Y with
   |out=>exact absurd (by rw[kX.out];rfl) aY
   |err ei er=>
    obtain⟨aj,nn,An,cn,rfl,ay⟩:=hres;have F7:=I aj;have e0:=alr aj;have Es:=I (aL.trans ay);have Az:=I (ay.QN dY Zo Pf);have aC:=I (show X=.err ei er from kX);clear ay aj;unfold aG uQ;go_wp2_with fail
    have ap:=af.new2 w4 (.cells #[.int .i64 nn.QI,.string ⟨nn.QG.toArray⟩,.int .i64 nn.ah,.slice An nn.Qx.length cn] 31) 45 #[.int .i64 (ei:Int),.int .i64 (er:Int)];have hbr:=(Az.alloc (.cells #[.int .i64 nn.QI,.string ⟨nn.QG.toArray⟩,.int .i64 nn.ah,.slice An nn.Qx.length cn] 31)).alloc (.cells #[.int .i64 (ei:Int),.int .i64 (er:Int)] 45);have az:=(Es.alloc (.cells #[.int .i64 nn.QI,.string ⟨nn.QG.toArray⟩,.int .i64 nn.ah,.slice An nn.Qx.length cn] 31)).alloc (.cells #[.int .i64 (ei:Int),.int .i64 (er:Int)] 45);generalize ((w4.alloc (.cells #[.int .i64 nn.QI,.string ⟨nn.QG.toArray⟩,.int .i64 nn.ah,.slice An nn.Qx.length cn] 31)).alloc (.cells #[.int .i64 (ei:Int),.int .i64 (er:Int)] 45))=W3 at ap hbr az|-;have r0:=cR y_;have r1:=cR z_;have ab:=ap.lt;have ow:=I hbr;have aN:=I az;clear ap hbr az;refine cu [([(0,true),(1,true)],2)] [] Pg Ph Pg ?_;refine dJ ?_
    repeat(refine Z4 ?_)
    obtain⟨p0,p1,y0,y1,hlt⟩:=af.two (ow.drewN 1);refine dm rfl (λK hK=>?_);go_wp2_with fail
    refine fH ?_;go_wp2_with fail
    have al:af _ (w.heap.size+1) 45 #[.int .i64 (ei:Int),.int .i64 (er:Int)]:=((ow.drewN 1).put 0 (.int .i64 (ei:Int))).put 1 (.int .i64 (er:Int));have wO:=((aN.drewN 1).setCell (p:=⟨w.heap.size+1,0,none⟩) Vi (.int .i64 (ei:Int))).setCell (p:=⟨w.heap.size+1,1,none⟩) Vi (.int .i64 (er:Int));obtain⟨f0,f1,_⟩:=af.two al
    refine bodyPost_ret (v:=.tuple #[N_,aG ei er]) aeI rfl ?_;rw[aC.out]at HQ;exact ark
   |ok x rest=>
    obtain⟨A1,uo,k2,rfl,aa,apw,hdr,IJ,hp,hm⟩:=hres;have jK:=I aa;have ap0:=I apw;have AP:=I hp;have uP:=I (show k1.p<=k2.p from IJ);have Es:=I (aL.trans hm);have adg:=I (hm.QN Ym Zo Pf);have Az:=I (hm.QN dY Zo Pf);have aQ:=I (show X=alk c.E f' n' op (zz&&!k2.b) (Gg++[x]) (c.at k2) by rw[kX.out,<-hdr];rfl);have a3:=I (ZT.mv hm ain (λ_ h=>h.elim) (λb hb=>.inr (.inr (PT.Sd ac hb))));have apx:=I (show w3.heap.size<=w4.heap.size from hm.size);clear aa apw hdr IJ hp hm kX;have gL:=I (show ag w4 ((w4.alloc (.cells #[.int .i64 x.QI,.string ⟨x.QG.toArray⟩,.int .i64 x.ah,.slice A1 x.Qx.length uo] 31)).alloc (.cells #[.int .i64 0,.int .i64 0] 45))from((M _ w4).alloc _).alloc _);have aV:=I ((af.new w4 31 #[.int .i64 x.QI,.string ⟨x.QG.toArray⟩,.int .i64 x.ah,.slice A1 x.Qx.length uo]).alloc (.cells #[.int .i64 0,.int .i64 0] 45));have HBY:=I (af.new2 w4 (.cells #[.int .i64 x.QI,.string ⟨x.QG.toArray⟩,.int .i64 x.ah,.slice A1 x.Qx.length uo] 31) 45 #[.int .i64 0,.int .i64 0]);obtain⟨b4,b7,b8,z7,z8,hg1⟩:=(AP.QH gL).cells;obtain⟨x0,x1,x2,x3,_,_,_,_,hlx⟩:=af.QM aV;obtain⟨y0,y1,_,_,hly⟩:=af.two HBY;obtain⟨ii,hi,hz0,hz1,hz2⟩:=info_parts IG;have ao3:Gg.length<2^40:=by have:=Rt.out;have:=bb.out;omega
    have ap1:=I ao3;clear ao3;have HBZ:=I (show af (((w4.alloc (.cells #[.int .i64 x.QI,.string ⟨x.QG.toArray⟩,.int .i64 x.ah,.slice A1 x.Qx.length uo] 31)).alloc (.cells #[.int .i64 0,.int .i64 0] 45)).alloc (.cells #[.int .i64 x.QI,.string ⟨x.QG.toArray⟩,.int .i64 x.ah,.slice A1 x.Qx.length uo] 31)) (w4.heap.size+1+1) 31 #[.int .i64 x.QI,.string ⟨x.QG.toArray⟩,.int .i64 x.ah,.slice A1 x.Qx.length uo] by have h:=af.new ((w4.alloc (.cells #[.int .i64 x.QI,.string ⟨x.QG.toArray⟩,.int .i64 x.ah,.slice A1 x.Qx.length uo] 31)).alloc (.cells #[.int .i64 0,.int .i64 0] 45)) 31 #[.int .i64 x.QI,.string ⟨x.QG.toArray⟩,.int .i64 x.ah,.slice A1 x.Qx.length uo];simpa using h);have aT:=I (show ag w4 (((w4.alloc (.cells #[.int .i64 x.QI,.string ⟨x.QG.toArray⟩,.int .i64 x.ah,.slice A1 x.Qx.length uo] 31)).alloc (.cells #[.int .i64 0,.int .i64 0] 45)).alloc (.cells #[.int .i64 x.QI,.string ⟨x.QG.toArray⟩,.int .i64 x.ah,.slice A1 x.Qx.length uo] 31))from gL.alloc _);unfold aG uQ;cases zz
    all_goals
     go_wp2_with (at_builtin;go_loud (refine vF rfl (.tmp 50) (.tmp 52) rfl ii _ hi hz0 hz1 hz2 rfl (B0:=w.heap.size) (B:=W2.heap.size) (B1:=w3.heap.size) (ks:=Gg) (v:=.slice A Gg.length cp) (y:=.slice (some ⟨w4.heap.size+1+1,0,none⟩) 1 1) (a3.QH aT) WH x (.slice A1 x.Qx.length uo) WH (Src.uT HBZ rfl) (jK.QH aT) (by have:=a2.out;have:=xI.out;have:=aoP.out;omega) (λ_ h=>h.elim) HOW ap0 ap1 (by have:=aT.size;have:=xI.out;have:=aoP.out;have:=apx.out;omega) ?_);intro A8 c8 w8 jI bR;refine jw.mk ?_)
     have wI:=I (show Grow (λ_=>False) w8 w.heap.size W2.heap.size (Gg++[x]) (.slice A8 (Gg++[x]).length c8) by rw[List.length_append];exact jI);have ap2:=I (bR.KM (aT.QN adg λh=>h) ain);have an1:=I (bR.KM (aT.QN Az λh=>h) ain);have AQ:=I (bR.ps (AP.QH aT) (by have:=a2.out;have:=ax.out;omega) ain);have OQ:=I (bR.mp (Es.trans (Mp.QH aT)) ain);have a':=I (show W2.heap.size<=w8.heap.size by have:=bR.size;have:=aT.size;have:=xI.out;have:=aoP.out;have:=apx.out;omega);clear jI bR;refine jw.go ?_;go_wp2
     refine⟨⟨_,q+1,k2,Gg++[x],_,A8,c8,rfl,by simp,rfl,by simp,by have:=bb.out;omega,I (by rw[List.length_append,Rt.out];rfl),ap2,an1,wI,AQ,I (au2 aJ uP),OQ,a',I (by rw[<-Et.out.2.1,<-Et.out.2.2];exact aQ)⟩,by simp[intOf];have:=bb.out;omega⟩
  .have d1:decide ((q:Int)<(n:Int))=false:=dF Zo
   have jo:decide (q<n)=false:=dF c1;obtain rfl:q=n:=Zo
   have Eu:=I (show X=.ok (zz,Gg) (c.at k1) by
    rcases awr (F-q)with h0|h0
    .exfalso
     have h1:=rO.out;rw[h0,awi,alk]at h1;exact aY (by rw[h1];rfl)
    .obtain⟨f',hf'⟩:∃f',F-q=f'+1:=⟨F-q-1,by omega⟩
     rw[rO.out,hf',awi,alk])
   have ant:=I (show(X.bind λp r=>alj c.E t k.n k.b p.1 p.2 r)=alj c.E t k.n k.b zz Gg (c.at k1) by rw[Eu.out];rfl);rw[ant.out]at HQ;obtain⟨b4,b7,b8,z7,z8,hg1⟩:=HP.cells;have Cj:=I (HP.aoK k.n (by have:=wH.out;have:=aJ.out;omega));have aR:=I (Cj.out.1.aoL k.b);have aL:=I ((HM.trans Cj.out.2).trans aR.out.2);have ZB:=I (show Touch (λb=>b=c.g) wr ((wr.setCell ⟨c.g,7,none⟩ (.int .i64 (k.n:Int))).setCell ⟨c.g,8,none⟩ (.bool k.b))from((M (λb=>b=c.g) wr).setCell (p:=⟨c.g,7,none⟩) Wh _).setCell (p:=⟨c.g,8,none⟩) Wh _);have ac:=I (show Ps c ⟨k1.p,k.n,k.b⟩ op ((wr.setCell ⟨c.g,7,none⟩ (.int .i64 (k.n:Int))).setCell ⟨c.g,8,none⟩ (.bool k.b))from aR.out.1);have jK:=I (HG.tree ain);clear rO Eu ant aY Cj aR HG;cases zz with
   |false=>
    have CY:=I (show alj c.E t k.n k.b false Gg (c.at k1)=.err t.from_ 6 from by unfold alj;rw[if_pos rfl]);go_wp2_with fail
    clear b4 b7 b8 z7 z8 hg1 d1 jo;generalize ((wr.setCell ⟨c.g,7,none⟩ (.int .i64 (k.n:Int))).setCell ⟨c.g,8,none⟩ (.bool k.b))=w3 at aL ZB ac|-;have Ym:=I (ZB.QN ai Zo);have dY:=I (ZB.QN jg Zo);have r2:=cR ((Ym.cell 2).trans rfl);have ab:=Ym.lt;refine cu [([(0,true),(1,true),(2,true),(3,true)],4)] [] Pg Ph Pg ?_;refine dJ ?_
    repeat(refine Z4 ?_)
    obtain⟨p0,p1,y0,y1,hlt⟩:=af.two (dY.drewN 1);refine dm rfl (λK hK=>?_);go_wp2_with fail
    refine fH ?_;go_wp2_with fail
    have al:af _ (w.heap.size+1) 45 #[.int .i64 (t.from_:Int),.int .i64 6]:=((dY.drewN 1).put 0 (.int .i64 (t.from_:Int))).put 1 (.int .i64 6);have wO:=((aL.drewN 1).setCell (p:=⟨w.heap.size+1,0,none⟩) Vi (.int .i64 (t.from_:Int))).setCell (p:=⟨w.heap.size+1,1,none⟩) Vi (.int .i64 6);obtain⟨f0,f1,_⟩:=af.two al
    refine bodyPost_ret (v:=.tuple #[N_,aG t.from_ 6]) aeI rfl ?_;rw[CY.out]at HQ;exact HQ _ _ ⟨by decide,none,0,0,rfl,wO⟩
   |true=>
    have ant:=I (show alj c.E t k.n k.b true Gg (c.at k1)=if(D7.alm c.tb t.QG Gg).2≠0 then .err t.from_ 6
     else if 1000<k.n+(Tr.count (D7.alm c.tb t.QG Gg).1-1)then .ok [] ⟨(c.at k1).l,k.n+(Tr.count (D7.alm c.tb t.QG Gg).1-1),true⟩
     else .ok (D7.alm c.tb t.QG Gg).1.Qx ⟨(c.at k1).l,k.n+(Tr.count (D7.alm c.tb t.QG Gg).1-1),k.b⟩from by unfold alj;rw[if_neg (by decide)])
    go_wp2_with fail
    clear b4 b7 b8 z7 z8 hg1 d1 jo;generalize ((wr.setCell ⟨c.g,7,none⟩ (.int .i64 (k.n:Int))).setCell ⟨c.g,8,none⟩ (.bool k.b))=w3 at aL ZB ac|-;have Ym:=I (ZB.QN ai Zo);have dY:=I (ZB.QN jg Zo);have ajg:=I (show aD w3 Gg (.slice A Gg.length cp)from(jK.mv ZB (λb cs fr hb _ e=>PT.Sd HP (.inl hb) ⟨cs,fr,e⟩)).rep);obtain⟨b4,b7,b8,z7,z8,hg1⟩:=ac.cells;have bt1:=Ym.cell 1;have apy:w3.cell? ⟨w.heap.size,1,none⟩=some (.string ⟨t.QG.toArray⟩):=bt1;have k4:=cT (S:=λ_=>False) b4 PR;have k1':=cT (S:=λ_=>False) apy PR;have yB:=I (agf _ _ ac);obtain⟨R,hR⟩:∃R,R=D7.alm c.tb t.QG Gg:=⟨_,rfl⟩;have anp:=I (show R.2=0->Tr.count R.1<=1000 from λh=>by rw[hR]at h|-;exact D7.amE h);have be:=I (show∀W,alB W c.g c.tb c.tp->aD W Gg (.slice A Gg.length cp)->C_ 161 #[c.tp,.string ⟨t.QG.toArray⟩,.slice A Gg.length cp] W (anV R W)from λW h1 h2=>by rw[hR];exact anE c.g c.tb c.tp t.QG Gg _ W h1 h2);rw[ant.out]at HQ;rw[<-hR]at HQ;clear hR ant b4 b7 b8 z7 z8 hg1 bt1 apy agf aoN;obtain⟨nd,er⟩:=R;simp only at anp HQ;obtain⟨nk,nt,nc,alu⟩:=nd;refine AA (λW=>∃x:Turned (λ_=>False) w3,W=x.W) (gq.of [(0,true),(1,true),(2,true),(3,true),(4,true),(5,true),(6,true)] (.fork 7 (gq.of [(8,true),(9,true),(10,true)] (.lone 11 (.lone 12 (.plain 13 .nil)))) 11 (.lone 7 (gq.of [(8,true),(9,true),(10,true)] (.lone 12 (.plain 13 .nil)))))) [0,1,2,3,4,5,6,7,8,9,10,11,12,13] (au4 14 true) Pg Ph Pg ⟨⟨_,(M _ _).drewN 1⟩,rfl⟩ ?_;unfold gq.of
    repeat(refine V9 ?_;first|done|unfold gq.of)
    clear k4 k1';refine o6 ?_ ?_
    focus
     refine aW rfl (λK hK=>?_);go_wp2_with fail
     refine(be _ (yB.QH ((M _ w3).drewN 1)) (ajg.QH ((M _ w3).drewN 1))).mono ?_;rintro _ w7 ⟨A7,c7,rfl,aa,an,hf⟩;have gW:=I (show ag w3 w7 from((M _ w3).drewN 1).trans hf);have Sy:=I (aa.base (B':=w3.heap.size) PD);have ap3:=I an;clear aa an hf;unfold nv;go_wp2
     refine hK _ _ ⟨⟨_,gW⟩,rfl⟩ ?_;clear hK K;unfold gq.of
     repeat(refine V9 ?_;first|done|unfold gq.of)
     refine aW rfl (λK hK=>?_);go_wp2
     refine hK _ _ ⟨⟨_,gW.alloc _⟩,rfl⟩ ?_;clear hK K;have ar:=af.new w7 31 ZN;have a0:=(M (λ_=>False) w7).alloc (.cells ZN 31);generalize w7.alloc (.cells ZN 31)=wA at ar a0|-;have bf:=af.gH ar (.int .i64 nk) (.string ⟨nt.toArray⟩) (.int .i64 nc) (.slice A7 alu.length c7);have bc:=Touch.aO a0 (g:=w7.heap.size) ET (.int .i64 nk) (.string ⟨nt.toArray⟩) (.int .i64 nc) (.slice A7 alu.length c7);have amM:=I (Sy.QH bc);have ad:=I (gW.trans bc);have kW:=I bf;have hlt:=ar.lt;obtain⟨p0,p1,p2,p3,y0,y1,y2,y3,_⟩:=af.QM ar;refine aW rfl (λK hK=>?_);simp only[Nd.QI,Nd.QG,Nd.ah,Nd.Qx]at*;go_wp2
     refine hK _ _ ⟨⟨_,ad⟩,rfl⟩ ?_;clear hK K bf bc p0 p1 p2 p3 y0 y1 y2 y3 ar a0 hlt gW Sy;unfold aO at amM ad kW;generalize ((((wA.setCell ⟨w7.heap.size,0,none⟩ (.int .i64 nk)).setCell ⟨w7.heap.size,1,none⟩ (.string ⟨nt.toArray⟩)).setCell ⟨w7.heap.size,2,none⟩ (.int .i64 nc)).setCell ⟨w7.heap.size,3,none⟩ (.slice A7 alu.length c7))=w9 at amM ad kW|-;obtain⟨bz,aS⟩:∃b,b=w7.heap.size:=⟨_,rfl⟩;rw[<-aS]at kW|-;clear aS
    rotate_left
    focus
     refine aW rfl (λK hK=>?_);go_wp2
     refine hK _ _ ⟨⟨_,((M _ w3).drewN 1).alloc _⟩,rfl⟩ ?_;clear hK K;have ar:=af.new (w3.drewN 1) 31 ZN;have a0:=((M (λ_=>False) w3).drewN 1).alloc (.cells ZN 31);have bd:((w3.drewN 1).alloc (.cells ZN 31)).heap.size=w3.heap.size+1:=P9
     generalize (w3.drewN 1).alloc (.cells ZN 31)=w7 at ar a0 bd|-;have vv:=I (show af w7 w3.heap.size 31 ZN from ar);have gW:=I (show ag w3 w7 from a0);have aI:=I bd;clear ar a0 bd;refine aW rfl (λK hK=>?_);go_wp2_with fail
     refine(be _ (yB.QH gW) (ajg.QH gW)).mono ?_;rintro _ wA ⟨A7,c7,rfl,aa,an,hf⟩;have ao:=gW.trans hf;have aZ:=hf.QN vv PR;have Sy:=I aa;have ap3:=I an;have hlt:=aZ.lt;clear aa an hf;unfold nv;go_wp2
     refine hK _ _ ⟨⟨_,ao⟩,rfl⟩ ?_;clear hK K;unfold gq.of
     repeat(refine V9 ?_;first|done|unfold gq.of)
     have amM:=I ((Sy.far (Touch.aO (M (λk=>k=w3.heap.size) wA) Wh (.int .i64 nk) (.string ⟨nt.toArray⟩) (.int .i64 nc) (.slice A7 alu.length c7)) (by have:=aI.out;omega)).base (B':=w3.heap.size) (by have:=aI.out;omega));have ad:=I (Touch.aO ao (g:=w3.heap.size) ET (.int .i64 nk) (.string ⟨nt.toArray⟩) (.int .i64 nc) (.slice A7 alu.length c7));have kW:=I (af.gH aZ (.int .i64 nk) (.string ⟨nt.toArray⟩) (.int .i64 nc) (.slice A7 alu.length c7));obtain⟨p0,p1,p2,p3,y0,y1,y2,y3,_⟩:=af.QM aZ;refine aW rfl (λK hK=>?_);simp only[Nd.QI,Nd.QG,Nd.ah,Nd.Qx]at*;go_wp2
     refine hK _ _ ⟨⟨_,ad⟩,rfl⟩ ?_;clear hK K p0 p1 p2 p3 y0 y1 y2 y3 aZ ao hlt gW Sy vv aI;unfold aO at amM ad kW;generalize ((((wA.setCell ⟨w3.heap.size,0,none⟩ (.int .i64 nk)).setCell ⟨w3.heap.size,1,none⟩ (.string ⟨nt.toArray⟩)).setCell ⟨w3.heap.size,2,none⟩ (.int .i64 nc)).setCell ⟨w3.heap.size,3,none⟩ (.slice A7 alu.length c7))=w9 at amM ad kW|-;obtain⟨bz,aS⟩:∃b,b=w3.heap.size:=⟨_,rfl⟩;rw[<-aS]at kW|-;clear aS
    all_goals
     refine V9 ?_;refine sQ ?_;have an2:=I (ad.QN Ym PR);have an3:=I (ad.QN dY PR);have Sa:=I (ac.QH ad);have OT:=I (aL.trans (Mp.QH ad));have ajz:=I (amM.base (B':=w.heap.size) (by have:=ZB.size;have:=xI.out;have:=a2.out;omega));clear amM ad ajg yB jK ZB
     by_cases he:er=0
     rotate_left
     focus
      have d1:(er==(0:Int))=false:=atQ
      have d2:(er !=(0:Int))=true:=atQ
      rw[if_pos he]at HQ;have r2:=cR ((an2.cell 2).trans rfl);have ab:=an2.lt;go_wp2_with fail
      refine cu [([(0,true),(1,true),(2,true),(3,true)],4)] [] Pg Ph Pg ?_;refine dJ ?_
      repeat(refine Z4 ?_)
      obtain⟨p0,p1,y0,y1,hlt⟩:=af.two (an3.drewN 1);refine dm rfl (λK hK=>?_);go_wp2_with fail
      refine fH ?_;go_wp2_with fail
      have al:af _ (w.heap.size+1) 45 #[.int .i64 (t.from_:Int),.int .i64 6]:=((an3.drewN 1).put 0 (.int .i64 (t.from_:Int))).put 1 (.int .i64 6);have wO:=((OT.drewN 1).setCell (p:=⟨w.heap.size+1,0,none⟩) Vi (.int .i64 (t.from_:Int))).setCell (p:=⟨w.heap.size+1,1,none⟩) Vi (.int .i64 6);obtain⟨f0,f1,_⟩:=af.two al
      refine bodyPost_ret (v:=.tuple #[N_,aG t.from_ 6]) aeI rfl ?_;exact HQ _ _ ⟨by decide,none,0,0,rfl,wO⟩
     focus
      subst he;rw[if_neg (by decide)]at HQ;have aw:=Tr.bX (Nd.mk nk nt nc alu);have hcm:=anp.out rfl;have hpl:k1.p<=c.T.length:=Sa.le;have a5:=aJ.out;have aP:=wH.out;obtain⟨z,hz⟩:∃z:Int,z=((k.n+(Tr.count (Nd.mk nk nt nc alu)-1):Nat):Int):=⟨_,rfl⟩;obtain⟨y,hy⟩:∃y:Int,y=((Tr.count (Nd.mk nk nt nc alu)-1:Nat):Int):=⟨_,rfl⟩;obtain⟨x,hx⟩:∃x:Int,x=(Tr.count (Nd.mk nk nt nc alu):Int):=⟨_,rfl⟩;have aU:k.n<=1000*k1.p:=Zo
      have e1:IntKind.i64.wrap (x-1)=y:=amZ
      have e2:IntKind.i64.wrap ((k.n:Int)+y)=z:=amZ
      have Rm:=I (show∀W,aD W alu (.slice A7 alu.length c7)->C_ 162 #[.agg #[.int .i64 nk,.string ⟨nt.toArray⟩,.int .i64 nc,.slice A7 alu.length c7]] W λe w'=>e=.returned (.int .i64 x)/\ag W w' from λW hr=>by rw[hx];exact an0 (.mk nk nt nc alu) _ W Zo hr);have kI:=I e1;have aM:=I e2;have ba:=I hz;have bg:=I (show k.n+(Tr.count (Nd.mk nk nt nc alu)-1)<=1000*k1.p by omega);generalize k.n+(Tr.count (Nd.mk nk nt nc alu)-1)=NN at HQ ba bg;clear hz hy hx e1 e2 aw hcm anp aU aP;go_wp2_with fail
      obtain⟨p0,p1,p2,p3,_,_,_,_,aB⟩:=af.QM kW;obtain⟨_,b7,_,_,_,hg1⟩:=Sa.cells;have k7:=cT (S:=λ_=>False) (b7.trans rfl) PR;have q0:=cT (S:=λ_=>False) p0 PR;have q1:=cT (S:=λ_=>False) p1 PR;have q2:=cT (S:=λ_=>False) p2 PR;have q3:=cT (S:=λ_=>False) p3 PR;clear p0 p1 p2 p3 b7;refine CW (λW=>∃x:Turned (λ_=>False) w9,W=x.W) (gq.of [(0,true),(1,true),(2,true),(3,true),(4,true),(5,false),(6,true),(7,true),(8,true),(9,true)] .nil) [0,1,2,3,4,5,6,7,8,9] 10 (au4 10 true++au4 1 false) (λ_=>True) .nil [] (au4 11 true) Pg Ph Pg ⟨⟨_,(M _ _).drewN 1⟩,rfl⟩ ?_;unfold gq.of
      repeat(refine V9 ?_;first|done|unfold gq.of)
      clear k7 q0 q1 q2 q3;refine aW rfl (λK hK=>?_);go_wp2_with fail
      refine(Rm _ (ajz.rep.QH ((M _ w9).drewN 1))).mono ?_;rintro _ wc ⟨rfl,hf⟩;have OC:=I (show ag w9 wc from((M _ w9).drewN 1).trans hf);clear hf;go_wp2
      refine hK _ _ ⟨⟨_,OC⟩,rfl⟩ ?_;clear hK K;unfold gq.of;have e1:=kI.out;have e2:=aM.out
      repeat(refine V9 ?_;first|done|unfold gq.of)
      clear e1 e2 kI aM Rm;have ap4:=I (OC.QN an2 PR);have apz:=I (OC.QN an3 PR);have aoQ:=I (OC.QN kW PR);have aX:=I (Sa.QH OC);have bh:=I (OT.trans (Mp.QH OC));have apA:=I (ajz.QH OC);clear OC an2 an3 kW Sa OT ajz;obtain⟨_,b7,b8,z7,z8,hg1⟩:=aX.cells;have am:=aX.aoK NN (by show NN<=1000*k1.p;exact bg);rw[<-ba.out]at am;refine BU rfl (λK hK=>?_);go_wp2
      refine hK _ _ trivial ?_;clear hK K;refine sQ ?_;have ae:=I (show Ps c ⟨k1.p,NN,k.b⟩ op (wc.setCell ⟨c.g,7,none⟩ (.int .i64 z))from am.1);have a9:=I (bh.trans am.2);have aq:Touch (λb=>b=c.g) wc (wc.setCell ⟨c.g,7,none⟩ (.int .i64 z)):=(M (λb=>b=c.g) wc).setCell (p:=⟨c.g,7,none⟩) Wh _;have amd:=I (aq.QN apz Zo);have apB:=I (apA.mv aq (λb cs fr hb _ e=>PT.Sd aX (.inl hb) ⟨cs,fr,e⟩));have aoR:=I (aq.QN aoQ (λh=>PT.Sd aX (.inl h) ⟨_,_,aoQ⟩));clear am aq b7 b8 z7 z8 hg1 apz apA aoQ aX bh ap4;generalize wc.setCell ⟨c.g,7,none⟩ (.int .i64 z)=wd at ae a9 amd apB aoR|-;obtain⟨_,b7,b8,z7,z8,hg1⟩:=ae.cells;have b7z:wd.cell? ⟨c.g,7,none⟩=some (.int .i64 z):=by rw[b7,ba.out]
      clear b7
      by_cases hl:1000<NN
      .have d1:decide (z>(1000:Int))=true:=dT asq
       have d2:decide ((1000:Int)<z)=true:=d1;have hz1:(1000:Int)<z:=asq
       rw[if_pos hl]at HQ;have am:=ae.aoL true;have a6:=I (show Ps c ⟨k1.p,NN,true⟩ op (wd.setCell ⟨c.g,8,none⟩ (.bool true))from am.1);have HME:=I (a9.trans am.2);have aq:Touch (λb=>b=c.g) wd (wd.setCell ⟨c.g,8,none⟩ (.bool true)):=(M (λb=>b=c.g) wd).setCell (p:=⟨c.g,8,none⟩) Wh _;have aoS:=I (aq.QN amd Zo);obtain⟨p0,p1,y0,y1,hlt⟩:=af.two aoS;clear am aq;go_wp2_with fail
       have al:af _ (w.heap.size+1) 45 #[.int .i64 0,.int .i64 0]:=(aoS.put 0 (.int .i64 0)).put 1 (.int .i64 0);have wO:=(HME.setCell (p:=⟨w.heap.size+1,0,none⟩) Vi (.int .i64 0)).setCell (p:=⟨w.heap.size+1,1,none⟩) Vi (.int .i64 0);obtain⟨f0,f1,_⟩:=af.two al
       refine bodyPost_ret (v:=.tuple #[N_,aG 0 0]) aeI rfl ?_;exact HQ _ _ ⟨none,0,⟨k1.p,NN,true⟩,rfl,.nil _ _,rfl,aJ,a6.aH aoS Pf Zo ail (.int .i64 0) (.int .i64 0),wO⟩
      .have d1:decide (z>(1000:Int))=false:=dF asq
       have d2:decide ((1000:Int)<z)=false:=d1;have hz1:¬(1000:Int)<z:=asq
       rw[if_neg hl]at HQ;obtain⟨p0,p1,y0,y1,hlt⟩:=af.two amd;have q3:=aoR.cell 3;have q3':wd.cell? ⟨bz,3,none⟩=some (.slice A7 alu.length c7):=q3;have aqf:=aoR.lt;clear q3;go_wp2_with fail
       have al:af _ (w.heap.size+1) 45 #[.int .i64 0,.int .i64 0]:=(amd.put 0 (.int .i64 0)).put 1 (.int .i64 0);have wO:=(a9.setCell (p:=⟨w.heap.size+1,0,none⟩) Vi (.int .i64 0)).setCell (p:=⟨w.heap.size+1,1,none⟩) Vi (.int .i64 0);obtain⟨f0,f1,_⟩:=af.two al
       refine bodyPost_ret (v:=.tuple #[.slice A7 alu.length c7,aG 0 0]) aeI rfl ?_;refine HQ _ _ ⟨A7,c7,⟨k1.p,NN,k.b⟩,rfl,apB.mv (dS wd (w.heap.size+1) (.int .i64 0) (.int .i64 0)) (λb cs fr hb _ e=>?_),rfl,aJ,ae.aH amd Pf Zo ail (.int .i64 0) (.int .i64 0),wO⟩;subst hb;have h:=amd.out;unfold af at h;rw[h]at e;cases e
end
section
open Go.RowKit
open Tr (Nd)
open Lx (aB)
open D7 (R cZ kE eB eP dA bV fD di pArg aln)
theorem adJ(c:Cf):Nq c 0:=λk op w _ _ hne=>absurd (by rw[cZ]) hne
theorem VR(c:Cf):xM c 0:=λk op b w _ _ _ hne=>absurd (by rw[kE]) hne
theorem adK(c:Cf):xN c 0:=λk op w _ _ hne=>absurd (by rw[pArg]) hne
theorem U5(c:Cf):Jn c 0:=λk op b w _ _ hne=>absurd (by rw[eB]) hne
theorem aaX(c:Cf):PW c 0:=λk op w _ _ hne=>absurd (by rw[eP]) hne
theorem aaY(c:Cf):FE c 0:=λk op w _ _ hne=>absurd (by rw[dA]) hne
theorem aaZ(c:Cf):Jo c 0:=λk op t r w _ _ _ hne=>absurd (by rw[fD]) hne
theorem aoT(c:Cf):amz c 0:=λk op t m w _ _ _ _ _ hne=>absurd (by rw[aln]) hne
structure ajG(c:Cf)(f:Nat):Prop where
 row:Nq c f
 enc:xM c f
 arg:xN c f
 scr:Jn c f
 item:PW c f
 R3:FE c f
 name:Jo c f
 exp:amz c f
theorem SS(c:Cf)(hc:c.Good)(bm:Nat)(aI:c.Dn bm):∀F,F<=1000000->∀f,f<=F->ajG c f
 |0,_,f,hf=>by
  obtain rfl:f=0:=Zo
  exact⟨adJ c,VR c,adK c,U5 c,aaX c,aaY c,aaZ c,aoT c⟩
 |F+1,hF,f,hf=>by
  have ih:=SS c hc bm aI F Zo
  rcases Nat.lt_or_ge f (F+1)with h|h
  .exact ih f Zo
  .obtain rfl:f=F+1:=by omega
   have h0:=ih F PD;have IE:∀f',f'<F->xN c f':=λf' h=>(ih f' Zo).arg
   have w1:=II c hc F 1 Zo IE;have w2:=II c hc F 2 Zo IE;have hn:=aaS c hc bm aI F (Mx c hc F w2) (aaR c hc F w1 h0.enc) (SK c hc F Zo λf' h=>(ih f' Zo).row) (Sg c hc F w1) h0.exp
   exact⟨ahr c hc (F+1) hF λf' h=>(ih f' Zo).item,Yh c hc F h0.row,Yn c hc bm aI F h0.enc hn,ac7 c hc F h0.arg,agC c hc F h0.R3 h0.scr,aaT c hc F h0.name w1 h0.enc,
    hn,aoM c hc F IE⟩
theorem aa0(c:Cf)(hc:c.Good)(bm:Nat)(aI:c.Dn bm)(F:Nat)(hF:F<=1000000):Nq c F:=(SS c hc bm aI F hF F PD).row
def uq(g n:Nat):List MapEntry:=(rJ g).take n
theorem SV(w:W_)(o o':Obj):{w.alloc o with heap:=(w.alloc o).heap.setIfInBounds w.heap.size o'}=w.alloc o':=by
 simp only[World.alloc]
 congr 1
 apply Array.ext'
 rw[Array.toList_setIfInBounds,Array.toList_push,Array.toList_push,show w.heap.size=w.heap.toList.length from(Array.length_toList).symm,List.set_append_right _ _ (Nat.le_refl _),awi];rfl
theorem NB(w:W_)(es:List MapEntry)(n:Nat)(s:List UInt8)(v:Value)(hf:Instr.findNow .string (S_ s) es 0=some none):
  (Instr.mapUpdate 83 (.map (some w.heap.size)) (S_ s) v).run Tryz.prog (w.alloc (.map es.toArray n))=.ok () (w.alloc (.map (es++[(⟨S_ s,v,n⟩:MapEntry)]).toArray (n+1))):=by
 have hb:(w.alloc (.map es.toArray n)).heap[w.heap.size]?=some (.map es.toArray n):=heap_alloc_new w _;have hc:(Instr.checkKey false 10000 9 (S_ s)).run Tryz.prog (w.alloc (.map es.toArray n))=.ok () (w.alloc (.map es.toArray n)):=MapKept.run_checkKey (k:=S_ s) underlying9 (by simp[MapKept.IsKey]) false 9999;simp[Instr.mapUpdate,run_underlying underlying83,MapKept.run_getObj_map hb,hc,MapKept.run_findKey underlying9 hf,MapKept.run_setObj_map _ hb,Result.andThen]
 exact SV w _ _
theorem Bg(w:W_)(g:Nat)(n:Nat)(s:List UInt8)(F:FuncId)(hn:(Cv[n]?)=some (s,F))(hf:Instr.findNow .string (S_ s) (uq g n) 0=some none):
  (Instr.mapUpdate 83 (.map (some w.heap.size)) (S_ s) (.func (.func F) #[.pointer (A_ g 0)] #[])).run Tryz.prog (w.alloc (.map (uq g n).toArray n))=.ok () (w.alloc (.map (uq g (n+1)).toArray (n+1))):=by
 rw[NB w (uq g n) n s _ hf]
 have hg:(rJ g)[n]?=some ⟨S_ s,mM g F,n⟩:=by
  unfold rJ;rw[List.getElem?_map,List.getElem?_zipIdx,hn];simp
 have e:uq g n++[⟨S_ s,.func (.func F) #[.pointer (A_ g 0)] #[],n⟩]=uq g (n+1):=by
  unfold uq;rw[List.take_add_one,hg];rfl
 rw[e]
end
section
open Go.RowKit
open Tr (Nd)
open Lx (aB)
theorem aa1(A:Option Addr)(n cp en P:Nat)(q:Option Addr)(w:W_):C_ 26 #[.slice A n cp,V (en:Int),.pointer q,V (P:Int)] w λe w'=>
  e=.returned (.pointer (A_ w.heap.size 0))/\ag w w'/\af w' w.heap.size 85 #[.slice A n cp,V 0,V (en:Int),N_,.pointer q,V (P:Int),.map (some (w.heap.size+1)),V 0,.bool false]/\w'.heap[w.heap.size+1]?=some (.map (rJ w.heap.size).toArray 9):=by
 have ak:∀(fn:Fn) (first cap:Array Value) (w:W_),(Instr.makeFunc fn first cap).run Tryz.prog w=.ok (.func fn first cap) w:=λ_ _ _ _=>rfl
 have ap:∀W:W_,(Instr.makeMap 83 none).run Tryz.prog W=.ok (.map (some W.heap.size)) (W.alloc (.map #[] 0)):=λW=>run_makeMap_plain W 83
 have hsz:(w.alloc (.cells #[.slice A n cp,V 0,V (en:Int),N_,.pointer q,V (P:Int),.map none,V 0,.bool false] 85)).heap.size=w.heap.size+1:=P9
 have h0:(Instr.mapUpdate 83 (.map (some (w.heap.size+1))) (.string ⟨#[102,114,97,99]⟩) (.func (.func 45) #[.pointer (A_ w.heap.size 0)] #[])).run Tryz.prog ((w.alloc (.cells #[.slice A n cp,V 0,V (en:Int),N_,.pointer q,V (P:Int),.map none,V 0,.bool false] 85)).alloc (.map #[] 0))=.ok () ((w.alloc (.cells #[.slice A n cp,V 0,V (en:Int),N_,.pointer q,V (P:Int),.map none,V 0,.bool false] 85)).alloc (.map (uq w.heap.size 1).toArray 1)):=by
  have:=Bg (w.alloc (.cells #[.slice A n cp,V 0,V (en:Int),N_,.pointer q,V (P:Int),.map none,V 0,.bool false] 85)) w.heap.size 0 [102,114,97,99] 45 rfl rfl;exact aie
 have h1:(Instr.mapUpdate 83 (.map (some (w.heap.size+1))) (.string ⟨#[114,111,111,116]⟩) (.func (.func 46) #[.pointer (A_ w.heap.size 0)] #[])).run Tryz.prog ((w.alloc (.cells #[.slice A n cp,V 0,V (en:Int),N_,.pointer q,V (P:Int),.map none,V 0,.bool false] 85)).alloc (.map (uq w.heap.size 1).toArray 1))=.ok () ((w.alloc (.cells #[.slice A n cp,V 0,V (en:Int),N_,.pointer q,V (P:Int),.map none,V 0,.bool false] 85)).alloc (.map (uq w.heap.size 2).toArray 2)):=by
  have:=Bg (w.alloc (.cells #[.slice A n cp,V 0,V (en:Int),N_,.pointer q,V (P:Int),.map none,V 0,.bool false] 85)) w.heap.size 1 [114,111,111,116] 46 rfl rfl;exact aie
 have h2:(Instr.mapUpdate 83 (.map (some (w.heap.size+1))) (.string ⟨#[109,97,116,114,105,120]⟩) (.func (.func 47) #[.pointer (A_ w.heap.size 0)] #[])).run Tryz.prog ((w.alloc (.cells #[.slice A n cp,V 0,V (en:Int),N_,.pointer q,V (P:Int),.map none,V 0,.bool false] 85)).alloc (.map (uq w.heap.size 2).toArray 2))=.ok () ((w.alloc (.cells #[.slice A n cp,V 0,V (en:Int),N_,.pointer q,V (P:Int),.map none,V 0,.bool false] 85)).alloc (.map (uq w.heap.size 3).toArray 3)):=by
  have:=Bg (w.alloc (.cells #[.slice A n cp,V 0,V (en:Int),N_,.pointer q,V (P:Int),.map none,V 0,.bool false] 85)) w.heap.size 2 [109,97,116,114,105,120] 47 rfl rfl;exact aie
 have h3:(Instr.mapUpdate 83 (.map (some (w.heap.size+1))) (.string ⟨#[104,97,116]⟩) (.func (.func 48) #[.pointer (A_ w.heap.size 0)] #[])).run Tryz.prog ((w.alloc (.cells #[.slice A n cp,V 0,V (en:Int),N_,.pointer q,V (P:Int),.map none,V 0,.bool false] 85)).alloc (.map (uq w.heap.size 3).toArray 3))=.ok () ((w.alloc (.cells #[.slice A n cp,V 0,V (en:Int),N_,.pointer q,V (P:Int),.map none,V 0,.bool false] 85)).alloc (.map (uq w.heap.size 4).toArray 4)):=by
  have:=Bg (w.alloc (.cells #[.slice A n cp,V 0,V (en:Int),N_,.pointer q,V (P:Int),.map none,V 0,.bool false] 85)) w.heap.size 3 [104,97,116] 48 rfl rfl;exact aie
 have h4:(Instr.mapUpdate 83 (.map (some (w.heap.size+1))) (.string ⟨#[98,97,114]⟩) (.func (.func 48) #[.pointer (A_ w.heap.size 0)] #[])).run Tryz.prog ((w.alloc (.cells #[.slice A n cp,V 0,V (en:Int),N_,.pointer q,V (P:Int),.map none,V 0,.bool false] 85)).alloc (.map (uq w.heap.size 4).toArray 4))=.ok () ((w.alloc (.cells #[.slice A n cp,V 0,V (en:Int),N_,.pointer q,V (P:Int),.map none,V 0,.bool false] 85)).alloc (.map (uq w.heap.size 5).toArray 5)):=by
  have:=Bg (w.alloc (.cells #[.slice A n cp,V 0,V (en:Int),N_,.pointer q,V (P:Int),.map none,V 0,.bool false] 85)) w.heap.size 4 [98,97,114] 48 rfl rfl;exact aie
 have h5:(Instr.mapUpdate 83 (.map (some (w.heap.size+1))) (.string ⟨#[118,101,99]⟩) (.func (.func 48) #[.pointer (A_ w.heap.size 0)] #[])).run Tryz.prog ((w.alloc (.cells #[.slice A n cp,V 0,V (en:Int),N_,.pointer q,V (P:Int),.map none,V 0,.bool false] 85)).alloc (.map (uq w.heap.size 5).toArray 5))=.ok () ((w.alloc (.cells #[.slice A n cp,V 0,V (en:Int),N_,.pointer q,V (P:Int),.map none,V 0,.bool false] 85)).alloc (.map (uq w.heap.size 6).toArray 6)):=by
  have:=Bg (w.alloc (.cells #[.slice A n cp,V 0,V (en:Int),N_,.pointer q,V (P:Int),.map none,V 0,.bool false] 85)) w.heap.size 5 [118,101,99] 48 rfl rfl;exact aie
 have h6:(Instr.mapUpdate 83 (.map (some (w.heap.size+1))) (.string ⟨#[100,111,116]⟩) (.func (.func 48) #[.pointer (A_ w.heap.size 0)] #[])).run Tryz.prog ((w.alloc (.cells #[.slice A n cp,V 0,V (en:Int),N_,.pointer q,V (P:Int),.map none,V 0,.bool false] 85)).alloc (.map (uq w.heap.size 6).toArray 6))=.ok () ((w.alloc (.cells #[.slice A n cp,V 0,V (en:Int),N_,.pointer q,V (P:Int),.map none,V 0,.bool false] 85)).alloc (.map (uq w.heap.size 7).toArray 7)):=by
  have:=Bg (w.alloc (.cells #[.slice A n cp,V 0,V (en:Int),N_,.pointer q,V (P:Int),.map none,V 0,.bool false] 85)) w.heap.size 6 [100,111,116] 48 rfl rfl;exact aie
 have h7:(Instr.mapUpdate 83 (.map (some (w.heap.size+1))) (.string ⟨#[116,105,108,100,101]⟩) (.func (.func 48) #[.pointer (A_ w.heap.size 0)] #[])).run Tryz.prog ((w.alloc (.cells #[.slice A n cp,V 0,V (en:Int),N_,.pointer q,V (P:Int),.map none,V 0,.bool false] 85)).alloc (.map (uq w.heap.size 7).toArray 7))=.ok () ((w.alloc (.cells #[.slice A n cp,V 0,V (en:Int),N_,.pointer q,V (P:Int),.map none,V 0,.bool false] 85)).alloc (.map (uq w.heap.size 8).toArray 8)):=by
  have:=Bg (w.alloc (.cells #[.slice A n cp,V 0,V (en:Int),N_,.pointer q,V (P:Int),.map none,V 0,.bool false] 85)) w.heap.size 7 [116,105,108,100,101] 48 rfl rfl;exact aie
 have h8:(Instr.mapUpdate 83 (.map (some (w.heap.size+1))) (.string ⟨#[99,104,101,99,107]⟩) (.func (.func 48) #[.pointer (A_ w.heap.size 0)] #[])).run Tryz.prog ((w.alloc (.cells #[.slice A n cp,V 0,V (en:Int),N_,.pointer q,V (P:Int),.map none,V 0,.bool false] 85)).alloc (.map (uq w.heap.size 8).toArray 8))=.ok () ((w.alloc (.cells #[.slice A n cp,V 0,V (en:Int),N_,.pointer q,V (P:Int),.map none,V 0,.bool false] 85)).alloc (.map (uq w.heap.size 9).toArray 9)):=by
  have:=Bg (w.alloc (.cells #[.slice A n cp,V 0,V (en:Int),N_,.pointer q,V (P:Int),.map none,V 0,.bool false] 85)) w.heap.size 8 [99,104,101,99,107] 48 rfl rfl;exact aie
 clear hsz;go_enter func26,ntmps26;go_wp2
 go_ret;refine⟨rfl,((M _ w).alloc _).alloc _,(af.new w 85 #[.slice A n cp,V 0,V (en:Int),N_,.pointer q,V (P:Int),.map (some (w.heap.size+1)),V 0,.bool false]).alloc _,?_⟩;have:=heap_alloc_new (w.alloc (.cells #[.slice A n cp,V 0,V (en:Int),N_,.pointer q,V (P:Int),.map (some (w.heap.size+1)),V 0,.bool false] 85)) (.map (uq w.heap.size 9).toArray 9);rw[show(w.alloc (.cells #[.slice A n cp,V 0,V (en:Int),N_,.pointer q,V (P:Int),.map (some (w.heap.size+1)),V 0,.bool false] 85)).heap.size=w.heap.size+1 by simp]at this;exact this
end
end Go.Proofs.YtabjglnjjdcfmaaGreatDoor
