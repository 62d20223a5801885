/- Part 19 of 41 of a proof. No condition. -/
import Derived.Laws.StructEq
import Derived.Test.YtabjglnjjdcfmaaGreatDoorWe18
set_option maxRecDepth 100000
set_option maxHeartbeats 2000000
namespace Go.Proofs.YtabjglnjjdcfmaaGreatDoor
open _root_.Nat renaming zero_le->au1,add_assoc->awc,one_mul->awF
open _root_.List renaming length_append->auZ,take_zero->avB,getElem_mem->avS,length_take->avj,take_of_length_le->avv,take_length->avm,mem_cons->avi,not_mem_nil->avl,all_eq_true->avp,isEmpty_iff->avV,replicate->avT,length_map->avh,all_cons->au9
open _root_.Bool renaming and_eq_true->auY,or_eq_true->av3,and_true->avw,true_and->avK
open _root_.Go.Proofs.Tryz
section
open Go.RowKit
open Tr (Nd)
open U (E aJ fJ dX bN eG iN jL wT)
attribute [local go_sem] gD stillUpon
theorem UM(l:List E)(i:Nat)(h:i<l.length):jL (l.take (i+1))=jL (l.take i)++iN l[i].Qx:=by
 rw[U.Fh,U.Fh,List.take_add_one,List.getElem?_eq_getElem h,List.flatMap_append];simp
theorem aan(l:List E):(jL l).length<=U.az l:=by
 induction l with
 |nil=>exact au1 _
 |cons x l ih=>
  obtain⟨a,b,ks,c⟩:=x;rw[U.jL,auZ,vw,U.az,U.count];have:=U.jF ks;omega
theorem UN(a:aJ)(ks:List E)(t:List UInt8)(g o:Nat)(va vk:Value)(w:W_)(he:gZ w g o (.mk ([109,116,97,98,108,101]) a ks t) va vk)
  (hne:0<ks.length) (ar:∀x∈ks,∀y∈x.Qx,oz y/\(∀z∈y.Qx,U.oq z=true/\z.name∈nY)/\U.count y<=100000) (aM:U.az ks<=100000):C_ 79 #[.pointer (A_ g o)] w λx w'=>∃v,x=.returned v/\nW w w' (dX (.mk ([109,116,97,98,108,101]) a ks t)) v:=by
 obtain⟨A,ca,aa⟩:=he.2.2.2.2.2.1.slice;obtain⟨B,cb,ac⟩:=he.2.2.2.2.2.2.1.slice;replace aa:va=.slice A a.length ca:=aa;replace ac:vk=.slice B ks.length cb:=ac;subst aa;subst ac;have au:t.length<=maxLen:=he.2.2.2.2.2.2.2.2;have wL:=I au;have HE:=I he;obtain⟨hg0,a0,a1,a2,a3,_⟩:=he;replace a0:w.cell? (B_ g o)=some (.string ⟨#[109,116,97,98,108,101]⟩):=a0;replace a2:w.cell? (B_ g (o+2))=some (.slice B ks.length cb):=a2;replace a3:w.cell? (B_ g (o+3))=some (S_ t):=a3;have aL:=I (show dX (.mk ([109,116,97,98,108,101]) a ks t)=.mk 12 [] (wT ks) (jL ks)from by rw[U.zi];rfl);rw[aL.out];have Em:=I ar;have aC:=I aM;have aiW:=U.jF ks;have aU:ks.length<=100000:=Zo
 have aT:(0:Int)<(ks.length:Int):=Zo
 clear ar aM aiW;go_enter func79,ntmps79;go_wp2_with fail
 have jV:=I abR;have aj:=(M (λ_=>False) w).alloc (.cells ZN 31);have hg1:=jV.lt;have jQ:=I aj;have kI:=I anN;generalize w.alloc (.cells ZN 31)=W1 at*;clear aj hg0 a0 a1 a2 a3;obtain⟨hg0,a0,a1,a2,a3,_⟩:=kI.out;replace a0:W1.cell? (B_ g o)=some (.string ⟨#[109,116,97,98,108,101]⟩):=a0;replace a2:W1.cell? (B_ g (o+2))=some (.slice B ks.length cb):=a2;replace a3:W1.cell? (B_ g (o+3))=some (S_ t):=a3;refine(uG [109,116,97,98,108,101] 0 aob _).mono ?_;rintro _ w2 ⟨rfl,hw2⟩;replace hw2:=hw2.symm;subst hw2;obtain⟨gk,ok,xa,xk,rfl,jW⟩:=(show gK W1 ks _ from kI.out.2.2.2.2.2.2.1).yw 0 hne;obtain⟨B1,c1',an⟩:=jW.2.2.2.2.2.2.1.slice;have ab:=jW.2.2.2.1;have aK:=jW.1;rw[an]at ab;replace ab:W1.cell? (B_ gk (ok+2))=some (.slice B1 ks[0].Qx.length c1'):=by simpa using ab
 have af3:=I (show ks[0].Qx.length=wT ks by
  match ks,hne with
  |.mk _ _ js _::r,_=>rfl)
 clear jW an;rw[af3.out]at ab;go_wp2_with fail
 have hb:=af.new W1 31 #[V 12,E_,V (wT ks:Nat),N_];have hf2:=(M (λ_=>False) W1).alloc (.cells #[V 12,E_,V (wT ks:Nat),N_] 31);have gu:=I (show w.heap.size<W1.heap.size from hg1);have ae:=I (show(W1.alloc (.cells #[V 12,E_,V (wT ks:Nat),N_] 31)).heap.size=W1.heap.size+1 by simp);generalize W1.alloc (.cells #[V 12,E_,V (wT ks:Nat),N_] 31)=W2 at*;obtain⟨b,ap⟩:∃b,b=W1.heap.size:=⟨_,rfl⟩;rw[<-ap]at hb gu ae;have hbg:W1.heap.size=b:=ap.symm;have Di:=I hb;have OB:=I (hf2.QN jV.out λh=>h);have OC:=I (jQ.trans hf2);generalize aB:wT ks=cn at*;have aw:=I aB;have Da:=I (show ja (b+1) W2 (jL (ks.take 0)) (N_) by rw[avB,U.jL];exact ja.nil (by have:=ae.out;omega));rw[show W1.heap.size=b from hbg];clear hb hf2 ap hbg hg0 a0 a1 a2 a3 ab aK af3 aB hg1
 go_loopw [98] (λi wr=>∃(p m:Nat) (Ae:Option Addr) (ce:Nat),i=V p/\p<=ks.length/\Hd ((jL (ks.take p)).length=m)/\Hd (af wr w.heap.size 31 ZN)/\Hd (af wr b 31 #[V 12,E_,V (cn:Int),.slice Ae m ce])/\Hd (ja (b+1) wr (jL (ks.take p)) (.slice Ae m ce))/\Hd (ag w wr)) (λi _=>ks.length-(intOf i).toNat)
 case atStart=>exact⟨0,0,none,0,rfl,au1 _,by show(jL []).length=0;rw[U.jL];rfl,OB,Di,Da,OC⟩
 case round=>
  clear Di OB OC Da;obtain⟨p,m,Ae,ce,rfl,hp,HM,ow,oI,HG,HF⟩:=hrel;rename_i wr _
  by_cases cp:p<ks.length
  .have d1:decide ((p:Int)<(ks.length:Int))=true:=dT Zo
   have jo:decide (p<ks.length)=true:=dT cp;have aE:(p:Int)<(ks.length:Int):=Zo
   have RD:=I (HE.QH HF.out);obtain⟨gi,oi,ya,yk,ao,ai⟩:=(show gK w ks _ from HE.out.2.2.2.2.2.2.1).yw p cp;obtain⟨rfl,rfl⟩:gk=gi/\ok=oi:=by cases ao;exact⟨rfl,rfl⟩
   have hyl:ks[p].Qx.length<=100000:=by
    have h1:=U.cB (avS cp);have h2:=U.aN ks[p];have h3:=U.jF ks[p].Qx;have:=aC.out;omega
   have am:m<=100000:=by
    have h1:=aan (ks.take p);have h2:=U.qy ks p;have:=aC.out;rw[<-HM.out];omega
   have yf:=I (UM ks p cp);have HKX:=I (Em.out _ (avS cp));obtain⟨Bl,cl,ad⟩:=ai.2.2.2.2.2.2.1.slice;subst ad;have acF:=ai.QH HF.out;have aq:=acF.1;have al:=acF.2.2.2.1;clear acF;obtain⟨hgr,_,_,h2,_,_⟩:=RD.out;replace h2:wr.cell? (B_ g (o+2))=some (.slice (A_ gk ok) ks.length cb):=h2;have HPI:=I (λ(W:W_) (hW:ag w W)=>ai.QH hW);have HGI:=I (show∀W:W_,ag w W->gZ W g o (.mk [109,116,97,98,108,101] a ks t) (.slice A a.length ca) (.slice (A_ gk ok) ks.length cb)from λW hW=>HE.QH hW);clear ai ao;generalize ks[p]=y at*;go_wp2_with fail
   clear aq al hgr h2
   go_loopw [110] (λi wr=>∃(j:Nat) (Ae:Option Addr) (ce:Nat),i=V j/\j<=y.Qx.length/\Hd (af wr w.heap.size 31 ZN)/\Hd (af wr b 31 #[V 12,E_,V (cn:Int),.slice Ae (m+j) ce])/\Hd (ja (b+1) wr (jL (ks.take p)++(iN y.Qx).take j) (.slice Ae (m+j) ce))/\Hd (ag w wr)) (λi _=>y.Qx.length-(intOf i).toNat)
   case atStart=>exact⟨0,Ae,ce,rfl,au1 _,ow,oI,by rw[avB,List.append_nil];exact HG,HF⟩
   case round=>
    clear ow oI HG HF;obtain⟨j,Ae,ce,rfl,hj,ow,oI,HG,HF⟩:=hrel;rename_i wr _
    by_cases c1:j<y.Qx.length
    .have e1:decide ((j:Int)<(y.Qx.length:Int))=true:=dT Zo
     have e1n:decide (j<y.Qx.length)=true:=dT c1;have e1':(j:Int)<(y.Qx.length:Int):=Zo
     have ay:=I (HPI.out wr HF.out);obtain⟨gj,oj,za,zk,rfl,jW⟩:=(show gK wr y.Qx _ from ay.out.2.2.2.2.2.2.1).yw j c1;have AL:=I jW;have lg:=I (show(jL (ks.take p)++(iN y.Qx).take j).length=m+j by rw[auZ,HM.out,avj,vw];omega);have nK:=I (Mf y.Qx j c1);have Me:=I (HKX.out _ f_);obtain⟨hgr,_,_,h2,_,_⟩:=HE.QH HF.out;replace h2:wr.cell? (B_ g (o+2))=some (.slice (A_ gk ok) ks.length cb):=h2;obtain⟨aq,_,_,al,_,_⟩:=ay.out;obtain⟨q0,q1,q2,q3,_,_,_,_,hlt⟩:=af.QM oI.out;clear jW;generalize y.Qx[j]=x at*;go_wp2_with fail
     have k0:=cR h2;have k1:=cR al;have k3:=cR q3;clear h2 al q0 q1 q2 q3;refine cu [([(0,true),(1,true),(2,true),(3,true),(4,true),(5,true),(6,true),(7,true),(8,true),(9,true),(10,true),(11,true),(12,false),(13,false)],14),([(15,true)],16)] [] Pg Ph Pg ?_;refine dJ ?_
     repeat(refine Z4 ?_)
     clear k0 k1 k3;refine aS rfl (λK hK=>?_);go_wp2_with fail
     refine(Me.out.1 gj (oj+j*4) za zk _ (AL.QH ((M _ _).drewN 1)) Me.out.2.1 Me.out.2.2).mono ?_;rintro _ w6 ⟨v6,rfl,sl,rfl,dK,H7,dZ⟩;have fI:=I aq3;have nV:=I asU;have RF:=I H7;obtain⟨Ak,ck,rfl⟩:=dZ.now.slice;clear dK dZ H7;go_wp2
     refine hK _ _ (aA fI.out) ?_;clear hK K;refine aS rfl (λK hK=>?_);go_wp2
     refine hK _ _ an' ?_;clear hK K;have kW:=I aqz;have gW:=I (fI.alloc (.cells #[V (eG x).QI,.string ⟨(eG x).QG.toArray⟩,V (eG x).ah,.slice Ak (eG x).Qx.length ck] 31));have tq:=I (nV.QH ((M _ w6).alloc (.cells #[V (eG x).QI,.string ⟨(eG x).QG.toArray⟩,V (eG x).ah,.slice Ak (eG x).Qx.length ck] 31)));generalize (w6.alloc (.cells #[V (eG x).QI,.string ⟨(eG x).QG.toArray⟩,V (eG x).ah,.slice Ak (eG x).Qx.length ck] 31))=w7 at kW gW tq|-;have Ej:=I (HG.QH gW.out);have HOW:=I HG.pY;have tu:=I (gW.QN oI.out λh=>h);have qc:=I (gW.QN ow.out λh=>h);have eO:=I HG.out.1;refine dm rfl (λK hK=>?_)
     go_wp2_with (at_builtin;go_loud (refine qM rfl (.tmp 114) (.tmp 126) rfl Ej.out lg.out WH (eG x) kW.out WH wr.heap.size eO.out (λk hk=>(HOW.out k hk).2) RF.out tq.out Zo ?_);intro A8 c8 w9 jI bR _;refine jw.mk ?_)
     have wI:=I jI;have tC:=I (bR.QN tu.out λh=>by have:=(HOW.out _ h).1;omega);have wE:=I (bR.QN qc.out λh=>by have:=(HOW.out _ h).1;have:=gu.out;omega);have xJ:=I (show ag w w9 from(HF.trans gW.out).trans' bR λk hk=>.inr (by have:=(HOW.out _ hk).1;have:=gu.out;omega));clear jI bR;obtain⟨q0,q1,q2,q3,z0,z1,z2,z3,Rn⟩:=af.QM tC.out;refine jw.go ?_;go_wp2_with fail
     refine dJ ?_
     repeat(refine Z4 ?_)
     refine dm rfl (λK hK=>?_);go_wp2_with fail
     refine fH ?_;go_wp2_with fail
     have jA:=wI.mv ((M (λk=>k=b) w9).setCell (p:=B_ b 3) Wh (.slice A8 (m+j+1) c8)) (λk hk _=>by have hk:k=b:=hk;omega);rw[List.append_assoc,nK.out]at jA;exact abS
    .have e1:decide ((j:Int)<(y.Qx.length:Int))=false:=dF Zo
     have e1n:decide (j<y.Qx.length)=false:=dF c1;obtain rfl:j=y.Qx.length:=Zo
     have fU:=I (show(jL (ks.take (p+1))).length=m+y.Qx.length by rw[yf.out,auZ,HM.out,vw])
     have ax:=I (show ja (b+1) wr (jL (ks.take (p+1))) (.slice Ae (m+y.Qx.length) ce) by
      have:=HG.out;rw[show(iN y.Qx).take y.Qx.length=iN y.Qx from avv (by rw[vw];exact Nat.le_refl _)]at this;rw[yf.out];exact this)
     clear hyl am c1 hj;go_wp2
     go_roundw
     case rel=>exact⟨p+1,m+y.Qx.length,Ae,ce,by go_num,cp,fU,ow,oI,ax,HF⟩
     case measure=>simp[intOf];omega
  .have d1:decide ((p:Int)<(ks.length:Int))=false:=dF Zo
   have jo:decide (p<ks.length)=false:=dF cp;obtain rfl:p=ks.length:=Zo
   obtain⟨q0,q1,q2,q3,_,_,_,_,hlt⟩:=af.QM oI.out;obtain⟨p0,p1,p2,p3,y0,y1,y2,y3,av⟩:=af.QM ow.out;have jA:=HG.mv ((M (λk=>k=w.heap.size) wr).aO Wh (V 12) (E_) (V (cn:Int)) (.slice Ae m ce)) (λk hk _=>by have hk:k=w.heap.size:=hk;have:=gu.out;omega);rw[avm]at jA;have qL:=I jA;obtain⟨r0,r1,r2,r3,_,_,_,_,_⟩:=af.QM (ow.gH (V 12) (E_) (V (cn:Int)) (.slice Ae m ce));simp only[aO]at r0 r1 r2 r3;have xJ:=I (Touch.aO HF.out ET (V 12) (E_) (V (cn:Int)) (.slice Ae m ce));clear jA aU cp hp aT;go_wp2
   refine bodyPost_ret (v:=.agg #[V 12,E_,V (cn:Int),.slice Ae m ce]) EP rfl ?_;rw[aw.out];refine⟨_,rfl,.slice Ae m ce,rfl,xJ.out,au1 _,?_⟩;exact(qL.done.mono λi _ hi=>by have:=gu.out;omega)
end
section
open Go.RowKit
open Tr (Nd)
open U (E aJ fJ oq L9 Ff dX bN eG)
theorem Af{n:List UInt8}{a:aJ}{ks:List E}{t:List UInt8}(h:U.lD (.mk n a ks t)=true):(n=U.fV->ks.length=1)/\(n=U.fZ->ks.length=2)/\(n=U.bI->ks.length=1)/\(n=U.aV->ks.length=1/\(fJ a U.qH).length=1/\(fJ a U.nR).length=1)/\(n=U.bE->0<ks.length):=by
 refine⟨?_,?_,?_,?_,?_⟩
 all_goals
  rintro rfl;simp[U.lD,U.nO,U.L8,U.XG,U.nQ,U.yt,U.yu,U.CU,U.qG,U.gU,U.aj,U.bq,U.bE,U.dU,U.lq,U.fZ,U.mW,U.mX,U.gN,U.fV,U.bI,U.aV]at h
  omega
theorem acG(e:E)(h:U.lD e=true):e.name∈nY\/e.name=U.gU\/e.name=U.aj\/e.name=U.bq\/e.name=U.dU:=by
 obtain⟨n,a,ks,t⟩:=e;show n∈nY\/n=U.gU\/n=U.aj\/n=U.bq\/n=U.dU;have hn:=Hw h;simp only[Oy,avi,avl,or_false]at hn
 rcases hn with h0|h0|h0|h0|h0|h0|h0|h0|h0|h0|h0|h0|h0|h0|h0|h0|h0
 all_goals first
  |(refine .inl ?_;rw[h0];decide)
  |(exact .inr (.inl h0))
  |(exact .inr (.inr (.inl h0)))
  |(exact .inr (.inr (.inr (.inl h0))))
  |(exact .inr (.inr (.inr (.inr h0))))
theorem H9(x:E)(ab:oq x=true)(hn:x.name=U.gU\/x.name=U.aj\/x.name=U.bq):∀y∈x.Qx,oq y=true/\y.name∈nY:=by
 intro y hy;rw[U.uj,auY,U.vY,avp]at ab;have hxy:=ab.2 y hy;rw[auY]at hxy;refine⟨hxy.2,?_⟩;have aa:=hxy.2;rw[U.uj,auY]at aa;have ha:=hxy.1;obtain⟨n,a,ks,t⟩:=x;obtain⟨m,b,ls,s⟩:=y;replace ha:(if n=U.gU\/n=U.aj\/n=U.bq then !(decide (m=U.gU)||decide (m=U.aj)||decide (m=U.bq)||decide (m=U.dU))else _)=true:=ha;replace hn:n=U.gU\/n=U.aj\/n=U.bq:=hn;rw[if_pos hn]at ha;simp only[Bool.not_eq_true',Bool.or_eq_false_iff,decide_eq_false_iff_not]at ha
 rcases acG _ aa.1 with h|h|h|h|h
 .exact h
 .exact absurd h ha.1.1.1
 .exact absurd h ha.1.1.2
 .exact absurd h ha.1.2
 .exact absurd h ha.2
theorem acH(n:List UInt8)(a:aJ)(ks:List E)(t:List UInt8)(ab:oq (.mk n a ks t)=true)(h1:¬(n=U.gU\/n=U.aj\/n=U.bq))(h2:n≠U.bE)(h3:n≠U.dU):∀x∈ks,oq x=true/\x.name=U.aj:=by
 intro x hx;rw[U.uj,auY,U.vY,avp]at ab;have hxy:=ab.2 x hx;rw[auY]at hxy;refine⟨hxy.2,?_⟩;have ha:=hxy.1;obtain⟨m,b,ls,s⟩:=x;replace ha:(if n=U.gU\/n=U.aj\/n=U.bq then _ else if n=U.bE then _ else if n=U.dU then _ else decide (m=U.aj))=true:=ha;rw[if_neg h1,if_neg h2,if_neg h3]at ha;exact of_decide_eq_true ha
theorem XZ(a:aJ)(ks:List E)(t:List UInt8)(ab:oq (.mk U.bE a ks t)=true):∀x∈ks,oq x=true/\x.name=U.dU:=by
 intro x hx;rw[U.uj,auY,U.vY,avp]at ab;have hxy:=ab.2 x hx;rw[auY]at hxy;refine⟨hxy.2,?_⟩;have ha:=hxy.1;obtain⟨m,b,ls,s⟩:=x;replace ha:(decide (m=U.dU)&&_)=true:=ha;rw[auY]at ha;exact of_decide_eq_true ha.1
theorem acI(x:E)(ab:oq x=true)(hn:x.name=U.dU):∀y∈x.Qx,oq y=true/\y.name=U.bq:=by
 intro y hy;rw[U.uj,auY,U.vY,avp]at ab;have hxy:=ab.2 y hy;rw[auY]at hxy;refine⟨hxy.2,?_⟩;have ha:=hxy.1;obtain⟨n,a,ks,t⟩:=x;obtain⟨m,b,ls,s⟩:=y;replace hn:n=U.dU:=hn;subst hn;replace ha:decide (m=U.bq)=true:=ha;exact of_decide_eq_true ha
theorem RH{l:List E}(h:l.length=1):∃x,l=[x]:=by
 match l,h with
 |[x],_=>exact⟨x,rfl⟩
theorem af4{l:List E}(h:l.length=2):∃x y,l=[x,y]:=by
 match l,h with
 |[x,y],_=>exact⟨x,y,rfl⟩
theorem aao(e:E)(ab:oq e=true)(hn:e.name∈nY)(hI:∀x∈e.Qx,oz x)(hJ:∀x∈e.Qx,∀y∈x.Qx,oz y):∀(g o:Nat) (va vk:Value) (w:W_),gZ w g o e va vk->U.count e<=100000->
  C_ 79 #[.pointer (A_ g o)] w λx w'=>∃v,x=.returned v/\nW w w' (dX e) v:=by
 intro g o va vk w he hc;obtain⟨n,a,ks,t⟩:=e;have hown:U.lD (.mk n a ks t)=true:=by rw[U.uj,auY]at ab;exact ab.1
 replace hn:n∈nY:=hn;replace hI:∀x∈ks,oz x:=hI;replace hJ:∀x∈ks,∀y∈x.Qx,oz y:=hJ;have aa:U.az ks<=100000:=by rw[U.count]at hc;omega
 have af:∀x∈ks,U.count x<=100000:=λx hx=>by have:=U.cB hx;omega
 have aU:ks.length<=100000:=by have:=U.jF ks;omega
 have ac:∀m∈nY,¬(m=U.gU\/m=U.aj\/m=U.bq)/\m≠U.dU:=Pf
 have yF:n≠U.bE->∀x∈ks,∀y∈x.Qx,oq y=true/\y.name∈nY:=λht x hx=>by
  have:=acH n a ks t ab (ac n hn).1 ht (ac n hn).2 x hx;exact H9 x this.1 (.inr (.inl this.2))
 simp only[nY,avi,avl,or_false]at hn;have ae:∀nm,(fJ a nm).length<=maxLen:=Oz he.2.2.2.2.2.1
 rcases hn with rfl|rfl|rfl|rfl|rfl|rfl|rfl|rfl|rfl|rfl|rfl|rfl|rfl
 .exact aeV a ks t g o va vk w he
 .exact aeW a ks t g o va vk w he
 .exact aeX a ks t g o va vk w he
 .exact XQ a ks t g o va vk w he
 .exact Dh U.lq Pf aob Pf Pf Pf Pf Pf a ks t g o va vk w he (λx hx=>⟨hI x hx,yF Pf x hx,af x hx⟩) aU
 .have hown:=(Af hown).1 rfl
  obtain⟨x,rfl⟩:=RH auh;exact XR a [x] t x rfl (hI x P9) (yF Pf x P9) (af x P9) g o va vk w he
 .have hown:=(Af hown).2.1 rfl
  obtain⟨x,y,rfl⟩:=af4 (show ks.length=2 by omega);exact XW a [x,y] t x y rfl (hI x P9) (hI y P9) (yF Pf x P9) (yF Pf y P9) (af x P9) (af y P9) g o va vk w he
 .exact Dh U.mW Pf aob Pf Pf Pf Pf Pf a ks t g o va vk w he (λx hx=>⟨hI x hx,yF Pf x hx,af x hx⟩) aU
 .exact Dh U.mX Pf aob Pf Pf Pf Pf Pf a ks t g o va vk w he (λx hx=>⟨hI x hx,yF Pf x hx,af x hx⟩) aU
 .exact Dh U.gN Pf aob Pf Pf Pf Pf Pf a ks t g o va vk w he (λx hx=>⟨hI x hx,yF Pf x hx,af x hx⟩) aU
 .have hown:=(Af hown).2.2.1 rfl
  obtain⟨x,rfl⟩:=RH auh;exact XT a [x] t x rfl (hI x P9) (yF Pf x P9) (af x P9) _ rfl (ae _) g o va vk w he
 .have hown:=(Af hown).2.2.2.1 rfl
  obtain⟨x,rfl⟩:=RH auh;exact RG a [x] t x rfl (hI x P9) (yF Pf x P9) (af x P9) _ _ rfl rfl Zo Zo g o va vk w he
 .have hlen:0<ks.length:=by
   exact(Af hown).2.2.2.2 rfl
  refine UN a ks t g o va vk w he hlen (λx hx y hy=>⟨hJ x hx y hy,?_,?_⟩) aa
  .have h1:=XZ a ks t ab x hx
   have h2:=acI x h1.1 h1.2 y hy;exact H9 y h2.1 (.inr (.inr h2.2))
  .have h1:=U.cB hy
   have h2:=U.aN x;have:=af x hx;omega
theorem aap:∀(m:Nat) (e:E),U.count e<=m->aal e/\oz e:=by
 intro m
 induction m with
 |zero=>intro e h;have:=U.bX e;omega
 |succ m ih=>
  intro e hm;have hk:∀x∈e.Qx,U.count x<=m:=λx hx=>by have:=U.cB hx;have:=U.aN e;omega
  refine⟨λg o va vk w he ab hn hc=>aao e ab hn (λx hx=>(ih x (hk x hx)).2) (λx hx y hy=>(ih y (by have:=U.cB hy;have:=U.aN x;have:=hk x hx;omega)).2) g o va vk w he hc,?_⟩;exact XP e λx hx=>(ih x (hk x hx)).1
theorem aaq(e:E):oz e:=(aap _ e PD).2
end
section
open Go.RowKit
open U (E aJ)
end
section
open Go.RowKit
open U (E aJ oU sW)
def RI(d k c:Nat)(e:E)(w:W_)(x:Ending)(w':W_):Prop:=x=.returned (.bool (oU d k e))/\Touch (λb=>b=c) w w'/\∃k':Int,af w' c 3 #[V k']/\(oU d k e=true->k'=((k+U.count e:Nat):Int))
def Jg(e:E):Prop:=∀(g o c d k:Nat) (va vk:Value) (w:W_),gZ w g o e va vk->af w c 3 #[V (k:Int)]->k<=3000->d<=65->C_ 68 #[.pointer (A_ g o),V (d:Int),.pointer (A_ c 0)] w (RI d k c e w)
theorem Ba(l:List UInt8)(w:W_)(h:l.length<=9223372036854775807):C_ 106 #[S_ l] w λe w'=>e=.returned (.bool (U.jH l))/\ag w w':=
 (Od ⟨l.toArray⟩ w h).mono λe w' ⟨h1,h2⟩=>⟨h1,by rw[h2];exact M _ _⟩
theorem DL(l:List UInt8)(w:W_)(h:l.length<=9223372036854775807):C_ 107 #[S_ l] w λe w'=>e=.returned (.bool (U.fu l))/\ag w w':=
 (LF ⟨l.toArray⟩ w h).mono λe w' ⟨h1,h2⟩=>⟨h1,by rw[h2];exact M _ _⟩
theorem jE{d k c:Nat}{e:E}{w w':W_}{k':Int}(hv:oU d k e=false)(ht:Touch (λb=>b=c) w w')(hb:af w' c 3 #[V k']):RI d k c e w (.returned (.bool false)) w':=
 ⟨by rw[hv],ht,k',hb,λh=>by rw[hv]at h;cases h⟩
theorem UO(e:E)(ih:∀x∈e.Qx,Jg x):Jg e:=by
 intro g o c d k va vk w he hc hk hd;have HQ:=I (U.aeS d k e);obtain⟨n,Gg,ks,t⟩:=e;obtain⟨hg,h0,h1,h2,h3,ha,ar,aP,au⟩:=he;have HE:=I (show gZ w g o (.mk n Gg ks t) va vk from⟨hg,h0,h1,h2,h3,ha,ar,aP,au⟩);have hne:g≠c:=HE.ne (wS.int hc);have HA:=I (show gJ w Gg va from ha);have HK:=I (show gK w ks vk from ar);have q9:=I ih;have aiX:n.length<=maxLen:=aP;have aiY:t.length<=maxLen:=au;unfold maxLen at aiX aiY;have aQ:Gg.length<=maxLen:=by obtain⟨_,_,_,h,_⟩:=ha;exact h.1
 have hl2:ks.length<=maxLen:=ar.len;unfold maxLen at aQ hl2;obtain⟨A,ca,aa⟩:=ha.slice;obtain⟨B,cb,ac⟩:=ar.slice;replace aa:va=.slice A Gg.length ca:=aa;replace ac:vk=.slice B ks.length cb:=ac;subst aa;subst ac;replace h0:w.cell? (B_ g o)=some (S_ n):=h0;replace h3:w.cell? (B_ g (o+3))=some (S_ t):=h3;obtain⟨q0⟩:Nonempty (PLift (w.cell? (B_ c 0)=some (V (k:Int)))):=⟨⟨hc.cell 0⟩⟩;have q0:=q0.down;have qf:w.frozen? (B_ c 0)=false:=hc.frozen 0;have qg:c<w.heap.size:=hc.lt;have HC:=I hc;clear ih ha ar aP au hc;have Mc:=I (show af (w.setCell (B_ c 0) (V ((k:Int)+1))) c 3 #[V ((k:Int)+1)]from HC.put 0 (V ((k:Int)+1)));have ay:=I ((M (λb=>b=c) w).setCell (p:=B_ c 0) Wh (V ((k:Int)+1)));have kI:=I (HE.YU ay λb hb=>by rw[show b=c from hb];exact wS.int HC);have hkw:(k:Int)<=3000:=Zo
 have ai:(d:Int)<=65:=Zo
 by_cases hb1:k+1<=3000
 .by_cases hb2:d<=64
  .by_cases hb3:Gg.length<=8
   .have d1:decide ((3000:Int)<(k:Int)+1)=false:=dF Zo
    have d2:decide ((64:Int)<(d:Int))=false:=dF Zo;have d3:decide ((8:Int)<(Gg.length:Int))=false:=dF Zo;go_enter func68,ntmps68;go_wp2_with fail
    generalize hW1:w.setCell (B_ c 0) (V ((k:Int)+1))=W1 at*;clear hW1 h0 h1 h2 h3 q0 qf qg d1 d2 d3;have F7:=HE;have aV:=HC;clear HE HC;obtain⟨hgW,h0,h1,h2,h3,_⟩:=kI.out;replace h0:W1.cell? (B_ g o)=some (S_ n):=h0;replace h3:W1.cell? (B_ g (o+3))=some (S_ t):=h3;have ae:=I (show U.qF (.mk n Gg ks t)=(U.jH n&&U.fu t&&(t.isEmpty||ks.isEmpty)&&decide (Gg.length<=8)&&U.jY Gg)from rfl);refine(Od ⟨n.toArray⟩ _ (show n.length<=9223372036854775807 by omega)).mono ?_;rintro _ w2 ⟨rfl,hw⟩;replace hw:=hw.symm;subst hw;cases aI:U.jH n with
    |false=>
     have HV:=I (show oU d k (.mk n Gg ks t)=false by rw[HQ.out,ae.out,aI];simp);go_wp2
     exact ari
    |true=>
    go_wp2_with fail
    refine(LF ⟨t.toArray⟩ _ (show t.length<=9223372036854775807 by omega)).mono ?_;rintro _ w2 ⟨rfl,hw⟩;replace hw:=hw.symm;subst hw;cases ad:U.fu t with
    |false=>
     have HV:=I (show oU d k (.mk n Gg ks t)=false by rw[HQ.out,ae.out,ad];simp);go_wp2
     exact ari
    |true=>
    by_cases aA:0<ks.length/\t≠[]
    .obtain⟨aA,ah⟩:=aA
     have HV:=I (show oU d k (.mk n Gg ks t)=false by
      rw[HQ.out,ae.out,show t.isEmpty=false from List.isEmpty_eq_false_iff.2 ah,show ks.isEmpty=false from List.isEmpty_eq_false_iff.2 (List.ne_nil_of_length_pos aA)];simp)
     have e0:((⟨t.toArray⟩:Y_) !=⟨#[]⟩)=true:=by rw[bne,bS];simpa using ah
     have d5:decide ((0:Int)<(ks.length:Int))=true:=dT Zo;have et:(!t.isEmpty)=true:=auN
     go_wp2
     exact ari
    have nK:=I (show(t.isEmpty||ks.isEmpty)=true by
     rw[av3,avV,avV]
     by_cases ht:t=[]
     .exact .inl ht
     .exact .inr (List.eq_nil_of_length_eq_zero (by have:¬0<ks.length:=λh=>aA ⟨h,ht⟩;omega)))
    by_cases ah:t=[]
    focus
     have et:(!t.isEmpty)=false:=by rw[ah];rfl
     clear aA;go_wp2_with fail
    rotate_left
    focus
     have aD:ks.length=0:=by have:¬0<ks.length:=λh=>aA ⟨h,ah⟩;omega
     have hk2:¬0<ks.length:=Zo
     have e0:((⟨t.toArray⟩:Y_) !=⟨#[]⟩)=true:=by rw[bne,bS];simpa using ah
     have d5:decide ((0:Int)<(ks.length:Int))=false:=dF Zo;have et:(!t.isEmpty)=true:=auN
     clear aA aD;go_wp2_with fail
    all_goals
     clear et ah h0 h1 h2 h3
     try clear hk2 e0 d5
     go_loopw [65] (λi wr=>∃j:Nat,i=V j/\j<=Gg.length/\Hd (U.jY (Gg.take j)=true)/\Hd (Touch (λb=>b=c) w wr)/\Hd (ag W1 wr)/\Hd (af wr c 3 #[V ((k:Int)+1)])) (λi _=>Gg.length-(intOf i).toNat)
     case atStart=>exact⟨0,rfl,au1 _,U.UC,ay,M _ _,Mc⟩
     case round=>
      obtain⟨j,rfl,hj,jJ,HT,HF,HC⟩:=hrel
      by_cases c1:j<Gg.length
      .have d1:decide ((j:Int)<(Gg.length:Int))=true:=dT Zo
       have aE:(j:Int)<(Gg.length:Int):=Zo
       have ak:j<=ca:=by have:=HA.cap;omega
       have aO:=I (show gJ W1 Gg _ from kI.out.2.2.2.2.2.1);obtain⟨ga,oa,rfl,ap,m0,m1,hx1,hx2⟩:=aO.get j c1;have am:=I (aO.take j hj);have je:=I hx1;have p8:=I hx2;have e0:=HF.cell m0 PR;have f0:=HF.cell m1 PR;have OD:=(kI.QH HF).2.2.1;have HS:=I (U.Re Gg j c1);clear m0 m1 hx1 hx2;generalize Gg[j]=x at*;cases hA:U.jH x.1 with
       |false=>
        go_wp2_with fail
        refine bK (λW=>ag wr W/\af W wr.heap.size 142 #[S_ x.1,S_ x.2]) ⟨aF,bH⟩ ?_;rintro w4 ⟨jf,hb4⟩;have eZ:=I jf;have iB:=I hb4;have z0:=eZ.cell OD PR;have zg:=eZ.size;clear jf hb4 e0 f0 OD;have g0:=cR z0;have g1:=cR aeD;have g2:=cR aeE;have C0:=I (lJ (P:=Tryz.prog) w4 (λw hw=>(show Calls _ _ _ _ (λe w'=>e=.returned (.bool false)/\ag w w')from hA▸Ba x.1 w (by have:=je.out;unfold maxLen at this;omega))));refine wp_region_quiet_below Pg Pg ?_
        repeat(with_reducible refine wpQuiet_step (λK hK=>?_);go_simp;first|(refine hK _ ?_;clear hK K)|(apply Exists.intro;refine⟨λ_=>?_,hK _ ?_⟩;(first|with_reducible exact C0.out _ _);clear hK K))
        refine wpQuiet_nil ?_;rintro w5 ⟨⟨_,_⟩,vz⟩;have jO:ag w4 w5:=ag7
        clear vz g0 g1 g2 z0;have eY:=I (eZ.trans jO);clear jO;have HV:=I (show oU d k (.mk n Gg ks t)=false by rw[HQ.out,ae.out,U.E9 Gg (j+1) (by rw[HS.out,jJ.out,hA];simp)];simp);go_wp2
        exact al9
       |true=>
       cases hB:U.fu x.2 with
       |false=>
        go_wp2_with fail
        refine bK (λW=>ag wr W/\af W wr.heap.size 142 #[S_ x.1,S_ x.2]) ⟨aF,bH⟩ ?_;rintro w4 ⟨jf,hb4⟩;have eZ:=I jf;have iB:=I hb4;have z0:=eZ.cell OD PR;have zg:=eZ.size;clear jf hb4 e0 f0 OD;have g0:=cR z0;have g1:=cR aeD;have g2:=cR aeE;have C0:=I asN;have C1:=I (lJ (P:=Tryz.prog) w4 (λw hw=>(show Calls _ _ _ _ (λe w'=>e=.returned (.bool false)/\ag w w')from hB▸DL x.2 w (by have:=p8.out;unfold maxLen at this;omega))));refine wp_region_quiet_below Pg Pg ?_
        repeat(with_reducible refine wpQuiet_step (λK hK=>?_);go_simp;first|(refine hK _ ?_;clear hK K)|(apply Exists.intro;refine⟨λ_=>?_,hK _ ?_⟩;(first|with_reducible exact C0.out _ _|with_reducible exact C1.out _ _);clear hK K))
        refine wpQuiet_nil ?_;rintro w5 ⟨⟨_,_⟩,vz⟩;have jO:ag w4 w5:=ag7
        clear vz g0 g1 g2 z0;have eY:=I (eZ.trans jO);clear jO;have HV:=I (show oU d k (.mk n Gg ks t)=false by rw[HQ.out,ae.out,U.E9 Gg (j+1) (by rw[HS.out,jJ.out,hB];simp)];simp);go_wp2
        exact al9
       |true=>
       cases hC:(Gg.take j).any (λy=>y.1==x.1)with
       |true=>
        go_wp2_with fail
        refine bK (λW=>ag wr W/\af W wr.heap.size 142 #[S_ x.1,S_ x.2]) ⟨aF,bH⟩ ?_;rintro w4 ⟨jf,hb4⟩;have eZ:=I jf;have iB:=I hb4;have z0:=eZ.cell OD PR;have zg:=eZ.size;clear jf hb4 e0 f0 OD;have g0:=cR z0;have g1:=cR aeD;have g2:=cR aeE;have C0:=I asN;have C1:=I (lJ (P:=Tryz.prog) w4 (λw hw=>alL));have C2:=I (lJ (P:=Tryz.prog) w4 (λw hw=>(show Calls _ _ _ _ (λe w'=>e=.returned (.bool true)/\ag w w')from hC▸Kj (Gg.take j) x.1 (.slice (A_ ga oa) j ca) w ((am.QH (HF.trans eZ)).QH hw))));refine wp_region_quiet_below Pg Pg ?_
        repeat(with_reducible refine wpQuiet_step (λK hK=>?_);go_simp;first|(refine hK _ ?_;clear hK K)|(apply Exists.intro;refine⟨λ_=>?_,hK _ ?_⟩;(first|with_reducible exact C0.out _ _|with_reducible exact C1.out _ _|with_reducible exact C2.out _ _);clear hK K))
        refine wpQuiet_nil ?_;rintro w5 ⟨⟨_,_⟩,vz⟩;have jO:ag w4 w5:=ag7
        clear vz g0 g1 g2 z0;have eY:=I (eZ.trans jO);clear jO;have HV:=I (show oU d k (.mk n Gg ks t)=false by rw[HQ.out,ae.out,U.E9 Gg (j+1) (by rw[HS.out,jJ.out,hC];simp)];simp);go_wp2
        exact al9
       |false=>
        go_wp2_with fail
        refine bK (λW=>ag wr W/\af W wr.heap.size 142 #[S_ x.1,S_ x.2]) ⟨aF,bH⟩ ?_;rintro w4 ⟨jf,hb4⟩;have eZ:=I jf;have iB:=I hb4;have z0:=eZ.cell OD PR;have zg:=eZ.size;clear jf hb4 e0 f0 OD;have g0:=cR z0;have g1:=cR aeD;have g2:=cR aeE;have C0:=I asN;have C1:=I (lJ (P:=Tryz.prog) w4 (λw hw=>alL));have C2:=I (lJ (P:=Tryz.prog) w4 (λw hw=>(show Calls _ _ _ _ (λe w'=>e=.returned (.bool false)/\ag w w')from hC▸Kj (Gg.take j) x.1 (.slice (A_ ga oa) j ca) w ((am.QH (HF.trans eZ)).QH hw))));refine wp_region_quiet_below Pg Pg ?_
        repeat(with_reducible refine wpQuiet_step (λK hK=>?_);go_simp;first|(refine hK _ ?_;clear hK K)|(apply Exists.intro;refine⟨λ_=>?_,hK _ ?_⟩;(first|with_reducible exact C0.out _ _|with_reducible exact C1.out _ _|with_reducible exact C2.out _ _);clear hK K))
        refine wpQuiet_nil ?_;rintro w5 ⟨⟨_,_⟩,vz⟩;have jO:ag w4 w5:=ag7
        clear vz g0 g1 g2 z0;have eY:=I (eZ.trans jO);clear jO;have aq:=I (show U.jY (Gg.take (j+1))=true by rw[HS.out,jJ.out,hA,hB,hC];rfl);go_wp2
        go_roundw
        case rel=>exact⟨j+1,by go_num,c1,aq,I (HT.trans (eY.mono λ_ h=>h.elim)),I (HF.trans eY),I (eY.QN HC λh=>h)⟩
        case measure=>simp[intOf];omega
      .have d1:decide ((j:Int)<(Gg.length:Int))=false:=dF Zo
       obtain rfl:j=Gg.length:=Zo
       have an:=I (show U.jY Gg=true by have:=jJ.out;rwa [avm]at this)
       have ao:=I (show oU d k (.mk n Gg ks t)=sW (d+1) (k+1) ks by
        rw[HQ.out,ae.out,an.out,aI,ad,nK.out,show decide (Gg.length<=8)=true from dT hb3,show decide (k+1<=3000)=true from dT hb1,show decide (d<=64)=true from dT hb2];rfl)
       clear an jJ d1 hj;have aw:wr.cell? (B_ g (o+2))=some (.slice B ks.length cb):=(kI.QH HF).2.2.2.1;go_wp2_with fail
       clear aw
       go_loopw [97] (λi wr=>∃j:Nat,i=V j/\j<=ks.length/\Hd (sW (d+1) (k+1) (ks.take j)=true)/\Hd (Touch (λb=>b=c) w wr)/\Hd (af wr c 3 #[V ((k+1+U.az (ks.take j):Nat):Int)])) (λi _=>ks.length-(intOf i).toNat)
       case atStart=>
        refine⟨0,rfl,au1 _,?_,HT,?_⟩
        .show sW (d+1) (k+1) []=true
         unfold sW;rw[U.uE,U.aX,U.az,dT (by omega),dT (by omega)];rfl
        .have:=HC.out
         show af _ _ _ #[V ((k+1+U.az []:Nat):Int)];rw[U.az,Nat.add_zero];exact this
       case round=>
        clear HT HC HF;obtain⟨j,rfl,hj,HV,HT,HC⟩:=hrel;rename_i wr _;have aM:=I (F7.YU HT λb hb=>by rw[show b=c from hb];exact wS.int aV)
        by_cases c1:j<ks.length
        .have d1:decide ((j:Int)<(ks.length:Int))=true:=dT Zo
         have aE:(j:Int)<(ks.length:Int):=Zo
         have aw:wr.cell? (B_ g (o+2))=some (.slice B ks.length cb):=aM.out.2.2.2.1;have hgr:=aM.out.1;obtain⟨gk,ok,wa,wk,rfl,jW⟩:=(show gK wr ks _ from aM.out.2.2.2.2.2.2.1).yw j c1
         have hsm:k+1+U.az (ks.take j)<=3000:=by
          have:=HV.out;unfold sW at this;rw[auY,decide_eq_true_eq]at this;exact this.2
         have HS:=I (U.Xk (d+1) (k+1) ks j c1);have HN:=I (U.acd (d+1) (k+1) ks (j+1));have yf:=I (U.uA ks j c1);have ab:=q9.out ks[j] f_ gk (ok+j*4) c (d+1) _ wa wk wr jW HC hsm Zo;rw[show((d+1:Nat):Int)=(d:Int)+1 by omega]at ab;have X0:=I ab;clear jW ab;generalize ks[j]=x at*;go_wp2_with fail
         refine X0.mono ?_;rintro _ w5 ⟨rfl,jU,k5,al,aG⟩;have iW:=I (HT.trans jU);have eO:=I al;have av:=I aG;clear jU al aG;cases hv:oU (d+1) (k+1+U.az (ks.take j)) x with
         |false=>
          have HVF:=I (show oU d k (.mk n Gg ks t)=false by rw[ao.out];exact HN (by rw[HS.out,HV.out,hv];rfl));clear hv;go_wp2
          go_ret;exact jE HVF iW eO
         |true=>
          have aj:=I (show sW (d+1) (k+1) (ks.take (j+1))=true by rw[HS.out,HV.out,hv];rfl);have aJ:=I (av hv);clear hv;go_wp2
          go_roundw
          case rel=>exact⟨j+1,by go_num,c1,aj,iW,I (by rw[yf.out];have:=eO.out;rw[aJ.out]at this;rw[<-awc];exact this)⟩
          case measure=>simp[intOf];omega
        .have d1:decide ((j:Int)<(ks.length:Int))=false:=dF Zo
         obtain rfl:j=ks.length:=Zo
         have aj:=I (show oU d k (.mk n Gg ks t)=true by rw[ao.out];have:=HV.out;rwa [avm]at this);go_wp2
         go_ret;refine⟨by rw[aj.out];rfl,HT,_,HC,λ_=>?_⟩;rw[avm,U.count,awc]
   .have d1:decide ((3000:Int)<(k:Int)+1)=false:=dF Zo
    have d2:decide ((64:Int)<(d:Int))=false:=dF Zo;have d3:decide ((8:Int)<(Gg.length:Int))=true:=dT Zo;have HV:=I (show oU d k (.mk n Gg ks t)=false by rw[HQ.out];unfold U.qF;rw[show decide ((E.Zn (.mk n Gg ks t)).length<=8)=false from dF hb3];simp);go_enter func68,ntmps68;go_wp2
    exact ari
  .have d1:decide ((3000:Int)<(k:Int)+1)=false:=dF Zo
   have d2:decide ((64:Int)<(d:Int))=true:=dT Zo;have HV:=I (show oU d k (.mk n Gg ks t)=false by rw[HQ.out,show decide (d<=64)=false from dF hb2];simp);go_enter func68,ntmps68;go_wp2
   exact ari
 .have d1:decide ((3000:Int)<(k:Int)+1)=true:=dT Zo
  have HV:=I (show oU d k (.mk n Gg ks t)=false by rw[HQ.out,show decide (k+1<=3000)=false from dF hb1];simp);go_enter func68,ntmps68;go_wp2
  exact ari
theorem X3(e:E):Jg e:=U.E.ind (p:=Jg) UO e
end
section
open Go.RowKit
open U (E aJ oU)
theorem Mg(e:E)(va vk:Value)(w:W_)(hr:jd w e va vk):C_ 34 #[ev e va vk] w λx w'=>x=.returned (.bool (U.valid e))/\ag w w':=by
 obtain⟨A,ca,aa⟩:=hr.1.slice;obtain⟨B,cb,ac⟩:=hr.2.1.slice;have HR:=I hr;have HX:=I (X3 e);subst aa;subst ac;clear hr;obtain⟨n,Gg,ks,t⟩:=e;unfold ev;simp only[E.name,E.Zn,E.Qx,E.QG]at*;go_enter func34,ntmps34;go_wp2_with fail
 have hE:gZ ((w.alloc (.cells #[S_ n,.slice A Gg.length ca,.slice B ks.length cb,S_ t] 62)).alloc (.cells #[V 0] 3)) w.heap.size 0 (.mk n Gg ks t) (.slice A Gg.length ca) (.slice B ks.length cb):=by
  have hb:=(af.new w 62 #[S_ n,.slice A Gg.length ca,.slice B ks.length cb,S_ t]).alloc (.cells #[V 0] 3);obtain⟨q0,q1,q2,q3,_,_,_,_,hg⟩:=af.QM hb;exact⟨hg,q0,q1,q2,q3,HR.QH aui⟩
 refine(HX w.heap.size 0 (w.heap.size+1) 1 0 _ _ _ hE (af.new2 _ _ _ _) Zo Zo).mono ?_;rintro _ w1 ⟨rfl,ht,_,_,_⟩;have HF:=I (show ag w w1 from(((M (λ_=>False) w).alloc _).alloc _).trans' ht (λi hi=>by right;have hi:i=w.heap.size+1:=hi;omega));have aj:=I (U.ab' (.mk n Gg ks t));rw[aj.out];clear hE ht;go_wp2
 exact asY
end
namespace U
end U
namespace U
open Tr (Nd)
theorem OE(x:Nd)(hc:Tr.count x<=10)(hd:Tr.depth x<=10):Tr.valid (.mk 1 [] 0 [x])=((x.QI !=1)&&Tr.form x):=by
 unfold Tr.valid;have h1:decide (Tr.count (.mk 1 [] 0 [x])<=1000)=true:=by rw[Tr.count,Tr.az,Tr.az];exact decide_eq_true Zo
 have h2:decide (Tr.depth (.mk 1 [] 0 [x])<=24)=true:=by rw[Tr.depth,Tr.aX,Tr.aX];exact decide_eq_true Zo
 rw[h1,h2,avw,avw,Tr.form,Tr.iV,Tr.iV,avw];show(true&&(true&&((x.QI==1) !=true)&&Tr.form x))=_;rw[avK,avK];cases h:x.QI==1<;>simp[bne,h]
theorem Ag(k:Int)(t:QJ)(s:Nat)(hs:s<=1):nX k t s=((k !=1)&&(Tr.dR k t&&Tr.bM k 0 s)):=by
 have h:s=0\/s=1:=Zo
 unfold nX
 rcases h with rfl|rfl
 .rw[OE _ (by rw[Tr.count,avT,Tr.az];omega) (by rw[Tr.depth,avT,Tr.aX];omega),Tr.form,avT,Tr.iV,avw];rfl
 .rw[OE _ (by simp only[Tr.count,avT,Tr.az,kK];omega) (by simp only[Tr.depth,avT,Tr.aX,kK];decide),Tr.form]
  show((k !=1)&&(Tr.dR k t&&Tr.bM k 0 1&&Tr.iV (k==1) [kK]))=_;cases h:k==1 with
  |true=>simp[bne,h]
  |false=>
   rw[show Tr.iV false [kK]=true from by simp only[Tr.iV,kK,Tr.form];rfl,avw]
def sN:List QJ:=[yt,yu,CU,qG,lq,fV,fZ,mW,mX,gN,bI,aV,bE]
def vB:List QJ:=[gU,aj,bq]
theorem KD:∀n∈sN++vB++[dU],jH n=true:=Pf
def Ia(e:E):Prop:=oq e=true/\proper e=true/\e.name∈sN
theorem acJ(n:QJ)(hn:n∈vB)(a:aJ)(ks:List E)(t:QJ)(x:E)(hx:x.name∈sN):Ff (.mk n a ks t) x=true:=by
 obtain⟨m,b,ls,s⟩:=x;have h1:n=gU\/n=aj\/n=bq:=by simpa[vB]using hn
 have h2:∀m∈sN,!(decide (m=gU)||decide (m=aj)||decide (m=bq)||decide (m=dU)):=Pf
 show(if _ then _ else _)=true;rw[if_pos h1];exact h2 m hx
theorem acK(n:QJ)(hn:n∈vB)(l:List E):lD (.mk n [] l [])=true:=by
 have h1:n=gU\/n=aj\/n=bq:=by simpa[vB]using hn
 rcases h1 with rfl|rfl|rfl<;>rfl
theorem Fp(n:QJ)(hn:jH n=true)(l:List E):qF (.mk n [] l [])=true:=by
 show(jH n&&fu []&&(([]:QJ).isEmpty||l.isEmpty)&&decide (0<=8)&&jY [])=true;rw[hn];rfl
theorem zS(n:QJ)(hn:n∈vB)(l:List E)(h:∀x∈l,Ia x):oq (ax n l)=true/\proper (ax n l)=true:=by
 unfold ax;rw[uj,acK n hn,sD,Fp n (KD n (by simp[hn]))];refine⟨?_,?_⟩
 .rw[avK,vY,avp]
  intro x hx;rw[acJ n hn _ _ _ x (h x hx).2.2,(h x hx).1];rfl
 .rw[avK,o8,avp]
  exact λx hx=>(h x hx).2.1
theorem rows_ok(n:QJ)(hn:n∈sN)(h0:n≠bE)(a:aJ)(ls:List (List E))(h:∀l∈ls,∀x∈l,Ia x)(ho:lD (.mk n a (ls.map (ax aj)) [])=true)(ha:(decide (a.length<=8)&&jY a)=true):Ia (.mk n a (ls.map (ax aj)) []):=by
 have aa:∀m∈sN,m≠bE->¬(m=gU\/m=aj\/m=bq)/\m≠dU:=Pf
 have hr:∀x∈ls.map (ax aj),oq x=true/\proper x=true/\x.name=aj:=by
  intro x hx;obtain⟨l,hl,rfl⟩:=List.mem_map.1 hx;have:=zS aj (by simp[vB]) l (h l hl);exact⟨this.1,this.2,rfl⟩
 refine⟨?_,?_,hn⟩
 .rw[uj,ho,avK,vY,avp]
  intro x hx;obtain⟨h1,_,h3⟩:=hr x hx;obtain⟨m,b,js,s⟩:=x;rw[h1,avw];show(if _ then _ else _)=true;rw[if_neg (aa n hn h0).1,if_neg h0,if_neg (aa n hn h0).2];exact decide_eq_true h3
 .rw[sD,auY]
  refine⟨?_,?_⟩
  .show(jH n&&fu []&&(([]:QJ).isEmpty||(ls.map (ax aj)).isEmpty)&&decide (a.length<=8)&&jY a)=true
   rw[auY]at ha;rw[KD n (by simp[hn]),ha.1,ha.2];rfl
  .rw[o8,avp]
   exact λx hx=>(hr x hx).2.1
theorem Jh(n:QJ)(hn:n∈sN)(t:QJ)(ho:lD (.mk n [] [] t)=true)(ht:fu t=true):Ia (.mk n [] [] t):=by
 refine⟨?_,?_,hn⟩
 .rw[uj,ho];exact(by rw[E.Qx,L9];rfl)
 .rw[sD,auY]
  refine⟨?_,by rw[E.Qx,uE]⟩;show(jH n&&fu t&&(t.isEmpty||true)&&decide (0<=8)&&jY [])=true;rw[KD n (by simp[hn]),ht,Bool.or_true];rfl
theorem KE{α:Type}(c:Nat)(hc:0<c)(l:List α)(hd:l.length%c=0):∀r∈GL c l,r.length=c/\∀x∈r,x∈l:=by
 intro r hr;unfold GL at hr;obtain⟨i,hi,rfl⟩:=List.mem_map.1 hr;have hi:=List.mem_range.1 hi;have h1:l.length=l.length/c*c:=ass
 have h2:(l.length+c-1)/c=l.length/c:=by
  have:=Ki c (l.length/c) hc;rw[<-h1]at this;exact this
 rw[h2]at hi;have h3:(i+1)*c<=l.length/c*c:=Nat.mul_le_mul_right c hi;rw[Nat.add_mul,awF]at h3;refine⟨by rw[avj,List.length_drop];omega,λx hx=>List.mem_of_mem_drop asr⟩
theorem Fq{α:Type}(c:Nat)(hc:0<c)(l:List α)(hd:l.length%c=0):(GL c l).length=l.length/c/\(GL c l).flatten=l:=by
 have h1:l.length=l.length/c*c:=ass
 have h2:(l.length+c-1)/c=l.length/c:=by
  have:=Ki c (l.length/c) hc;rw[<-h1]at this;exact this
 refine⟨by unfold GL;rw[avh,List.length_range,h2],?_⟩;unfold GL;rw[h2]
 have:∀k,k*c<=l.length->((List.range k).map λr=>(l.drop (r*c)).take c).flatten=l.take (k*c):=by
  intro k
  induction k with
  |zero=>intro _;simp
  |succ k ih=>
   intro hk;rw[Nat.add_mul,awF]at hk|-;rw[List.range_succ,List.map_append,List.flatten_append,ih (by omega),List.map_singleton,List.flatten_singleton,List.take_add]
 rw[this _ (by omega),avv (by omega)]
theorem acL(gs:List (List (List E)))(c:Nat)(h0:0<gs.length)(hc:1<=c)(hc2:c<=16)(hl:∀r∈gs,r.length=c)(h:∀r∈gs,∀l∈r,∀x∈l,Ia x):Ia (.mk bE [] (gs.map λr=>ax dU (r.map (ax bq))) []):=by
 have hr:∀r∈gs,oq (ax dU (r.map (ax bq)))=true/\proper (ax dU (r.map (ax bq)))=true:=by
  intro r hr
  have hx:∀x∈r.map (ax bq),oq x=true/\proper x=true/\x.name=bq:=by
   intro x hx;obtain⟨l,hl,rfl⟩:=List.mem_map.1 hx;have:=zS bq (by simp[vB]) l (h r hr l hl);exact⟨this.1,this.2,rfl⟩
  have ho:lD (ax dU (r.map (ax bq)))=true:=by
   show(true&&(decide (1<=(r.map (ax bq)).length)&&decide ((r.map (ax bq)).length<=16))&&true&&decide (0=0))=true;rw[avh,hl r hr,decide_eq_true hc,decide_eq_true hc2];rfl
  refine⟨?_,?_⟩
  .rw[uj,ho,avK,vY,avp]
   intro x hx';obtain⟨h1,_,h3⟩:=hx x hx';obtain⟨m,b,js,s⟩:=x;rw[h1,avw];exact decide_eq_true h3
  .rw[sD,auY]
   refine⟨Fp dU Pf _,?_⟩;rw[o8,avp];exact λx hx'=>(hx x hx').2.1
 refine⟨?_,?_,(show bE∈sN by decide)⟩
 .have ho:lD (.mk bE [] (gs.map λr=>ax dU (r.map (ax bq))) [])=true:=by
   show(true&&decide (1<=(gs.map λr=>ax dU (r.map (ax bq))).length)&&true&&decide (0=0))=true;rw[avh,decide_eq_true (show 1<=gs.length from h0)];rfl
  rw[uj,ho,avK,vY,avp];intro x hx;obtain⟨r,hr',rfl⟩:=List.mem_map.1 hx;rw[(hr r hr').1,avw];have aT:=hl r hr'
  match gs,h0,hl with
  |g::gs',_,hl=>
   show(true&&decide ((r.map (ax bq)).length=(g.map (ax bq)).length))=true;rw[avh,avh,aT,hl g (List.mem_cons_self ..)];simp
 .rw[sD,auY]
  refine⟨Fp bE Pf _,?_⟩;rw[o8,avp];intro x hx;obtain⟨r,hr',rfl⟩:=List.mem_map.1 hx;exact(hr r hr').2
theorem UQ:∀n:Fin 256,Tr.character (UInt8.ofNat n.1)=true->aU (UInt8.ofNat n.1)=true:=I_
theorem Mh(b:UInt8)(h:Tr.character b=true):aU b=true:=by
 have:=UQ ⟨b.toNat,b.toNat_lt⟩;simp only[UInt8.ofNat_toNat]at this;exact this h
theorem RJ:∀n:Fin 256,Tr.digit (UInt8.ofNat n.1)=true->aU (UInt8.ofNat n.1)=true:=I_
theorem DN(b:UInt8)(h:Tr.digit b=true):aU b=true:=by
 have:=RJ ⟨b.toNat,b.toNat_lt⟩;simp only[UInt8.ofNat_toNat]at this;exact this h
theorem RL(b:UInt8)(h:Tr.D8 b=true):aU b=true:=Mh b (by unfold Tr.character;rw[h];rfl)
theorem Nb{p q:UInt8->Bool}(h:∀b,p b=true->q b=true)(s:QJ)(hs:s.all p=true):s.all q=true:=by
 rw[avp]at hs|-;exact λb hb=>h b (hs b hb)
theorem aar(s:QJ)(h1:(s.takeWhile (·≠46)).all Tr.digit=true)(h2:∀d b,s.dropWhile (·≠46)=d::b->b.all Tr.digit=true):s.all aU=true:=by
 induction s with
 |nil=>rfl
 |cons x r ih=>
  rw[au9,auY]
  by_cases hx:x=46
  .subst hx
   refine⟨by decide,Nb DN r (h2 46 r (by simp[List.dropWhile]))⟩
  .rw[List.takeWhile_cons_of_pos (by simpa using hx),au9,auY]at h1
   refine⟨DN x h1.1,ih h1.2 λd b hd=>h2 d b ?_⟩;rw[List.dropWhile_cons_of_pos (by simpa using hx),hd]
theorem tF(k:Int)(s:QJ)(h:Tr.dR k s=true):fu s=true:=by
 unfold fu;rw[auY,decide_eq_true_eq];unfold Tr.dR at h;split at h
 .unfold Tr.symbol at h
  split at h
  .exact⟨by rw[au9,Mh _ h];rfl,by simp⟩
  .simp only[auY,decide_eq_true_eq]at h
   exact⟨Nb RL s h.1.1.1.1,by omega⟩
 split at h
 .unfold Tr.isNum at h
  simp only[auY,decide_eq_true_eq,av3]at h;refine⟨?_,by omega⟩
  rcases h.2 with h2|h2
  .exact Nb DN s h2
  .split at h2
   .rename_i d b hd
    simp only[auY]at h2;refine aar s h2.1.1.2 λd' b' hd'=>?_
    rw[hd]at hd';cases hd';exact h2.2
   .cases h2
 split at h
 .simp only[auY,decide_eq_true_eq]at h
  exact⟨by have:=h.2;unfold Tr.aU at this;exact this,h.1⟩
 split at h
 .have hm:=List.contains_iff_mem.1 h
  have ha:∀t∈Tr.eu,t.all aU=true/\t.length<=200:=Pf
  exact ha s hm
 split at h
 .unfold Tr.fence at h
  split at h
  .rename_i a b
   rw[auY]at h;have hd:∀c∈Tr.rz,aU c=true:=Pf
   exact⟨by rw[au9,au9,hd a (List.contains_iff_mem.1 h.1),hd b (List.contains_iff_mem.1 h.2)];rfl,by simp⟩
  .cases h
 .rw[List.isEmpty_iff.1 h];exact⟨rfl,by simp⟩
end U
end Go.Proofs.YtabjglnjjdcfmaaGreatDoor
