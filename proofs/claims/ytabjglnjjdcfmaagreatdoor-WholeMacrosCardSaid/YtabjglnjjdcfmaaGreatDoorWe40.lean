/- Part 40 of 41 of a proof. No condition. -/
import Derived.Test.YtabjglnjjdcfmaaGreatDoorWe39
import Derived.Test.YtabjglnjjdcfmaaGreatDoorWe9
set_option maxRecDepth 100000
set_option maxHeartbeats 4000000
namespace Go.Proofs.YtabjglnjjdcfmaaGreatDoor
open _root_.Go.World renaming ownsRow_nil->avR,setCell->auX
open _root_.Go.Proofs.Tryz
section
open Go.RowKit
open Tr (Nd)
open Lx (aB)
open D7 (R cZ kE eB eP dA bV fD di pArg)
attribute [local go_sem] gD stillUpon
theorem amk{most:Nat}{t:Lx.Tok}{n i e:Nat}(h:Lx.lim most t n=.err i e):e≠0:=by
 unfold Lx.lim at h;split at h
 .cases h;decide
 .cases h
theorem aml:∀(q acc:Lx.QJ) (i a e:Nat),Lx.quo q acc i=.err a e->e≠0
 |[],acc,i,a,e,h=>by cases h;decide
 |c::q,acc,i,a,e,h=>by
  rw[Lx.quo.eq_def]at h;simp only at h;split at h
  .exact amk h
  .split at h
   .cases h;decide
   .split at h
    .split at h
     .cases h;decide
     .rename_i d q'
      split at h
      .exact aml q' _ _ a e h
      .cases h;decide
    .exact aml q _ _ a e h
theorem anG(r:Lx.QJ)(i e:Nat)(h:Lx.next r=.err i e):e≠0:=by
 cases r with
 |nil=>cases h;decide
 |cons c q=>
  rw[Lx.next]at h;split at h
  .exact amk h
  .split at h
   .cases h
   .split at h
    .exact aml q _ _ i e h
    .split at h
     .cases h
     .split at h
      .unfold Lx.name at h
       simp only at h;split at h
       .exact amk h
       .split at h
        .cases h
        .cases h;decide
      .split at h
       .cases h
       .split at h
        .cases h
        .cases h;decide
theorem amw(l:Lx.QJ):∀(f a p e:Nat),(Lx.lI l f a).2=some (p,e)->e≠0
 |0,a,p,e,h=>by cases h
 |f+1,a,p,e,h=>by
  rw[Lx.lI]at h;split at h
  .cases h
  .split at h
   .rename_i i e' hn
    simp only[Option.some.injEq,Prod.mk.injEq]at h;rw[<-h.2];exact anG _ _ _ hn
   .exact amw l f _ p e h
theorem ane(l:Lx.QJ)(p e:Nat)(h:(Lx.jr l).2=some (p,e)):e≠0:=amw l _ 0 p e h
theorem aa2(l:Lx.QJ):∀t∈(Lx.jr l).1,Lx.kR (Lx.tok t):=Lx.Qh l _ 0
theorem aa3{t:Lx.Tok}(h:Lx.kR t):t.QG.length<=maxLen:=by
 have:t.QG.length<=200:=by
  rcases h with⟨_,_,e,_⟩|⟨_,h,_⟩|⟨_,h,_⟩|⟨_,h,_⟩|⟨_,a,b,e,_⟩|⟨_,_,e,_⟩|⟨_,_,e,_⟩|⟨_,e⟩
  all_goals first|(rw[e];simp)|omega
 unfold maxLen;omega
theorem Yz{t:Lx.Tok}(h:Lx.kR t):t.QI≠0:=by
 rcases h with⟨h,_⟩|⟨h,_⟩|⟨h,_⟩|⟨h,_⟩|⟨h,_⟩|⟨h,_⟩|⟨h,_⟩|⟨h,_⟩<;>omega
theorem aa4{t:Lx.Tok}(h:Lx.kR t)(hk:t.QI=6):∃b:UInt8,t.QG=[b]/\49<=b/\b<=57:=by
 rcases h with⟨h,_⟩|⟨h,_⟩|⟨h,_⟩|⟨h,_⟩|⟨h,_⟩|⟨_,d,e,h1,h2⟩|⟨h,_⟩|⟨h,_⟩
 all_goals first|omega|skip
 refine⟨d,e,h1,?_⟩;rw[UInt8.le_iff_toNat_le]at h2|-;exact Nat.le_trans h2 Pf
def agW(w:W_)(X:R (List Nd×Bool))(e:Ending)(w':W_):Prop:=
 match X with
 |.ok x _=>∃A cp,e=.returned (.tuple #[.agg #[V 1,E_,V 0,.slice A x.1.length cp],.bool x.2,aG 0 0])/\aP w.heap.size w' x.1 (.slice A x.1.length cp)/\ag w w'
 |.err i er=>er≠0/\e=.returned (.tuple #[.agg yM,.bool false,aG i er])/\ag w w'
 |.out=>True
theorem alB.up{W:W_}{g g':Nat}{tb:D7.Table}{tp:Value}(h:alB W g tb tp)(hg:W.heap.size<=g'):alB W g' tb tp:=
 h.imp id λ⟨gt,bm,nv,NY,h1,h2⟩=>⟨gt,bm,nv,NY,h1,h2.QN,h2.map,h2.tree,h2.D9,λe=>by have:=h2.QN.lt;omega,λe=>by
  have:=h2.map;rw[Array.getElem?_eq_none (by omega)]at this;cases this⟩
theorem Mp.ae'{g B:Nat}{w a b:W_}(hf:ag w a)(hm:Mp g B a b)(hg:w.heap.size<=g)(hB:w.heap.size<=B):ag w b:=
 hf.trans' hm λi hi=>.inr (by rcases hi with rfl|⟨h,_⟩<;>omega)
theorem I4{w:W_}{g i:Nat}{t:TypeId}{cs:Array Value}{v:Value}(h:af w g t cs)(hv:cs[i]?=some v):w.setCell (B_ g i) v=w:=by
 have hh:(w.setCell (B_ g i) v).heap=w.heap:=by
  apply Array.ext_getElem?
  intro k
  by_cases hk:k=g
  .subst hk
   have h1:=h.put i v;unfold af at h h1;rw[h1,h]
   congr 2
   apply Array.ext_getElem?
   intro j;rw[Array.getElem?_setIfInBounds];split
   .rename_i e
    subst e;split
    .exact hv.symm
    .rename_i hl
     rw[Array.getElem?_eq_none (by omega)]at hv;cases hv
   .rfl
  .exact Below.heap_setCell w (B_ g i) v k hk
 have:w.setCell (B_ g i) v={w with heap:=(w.setCell (B_ g i) v).heap}:=rfl;rw[this,hh]
theorem OY{w:W_}{g:Nat}{t:TypeId}{x y:Value}(h:af w g t #[x,y]):(w.setCell (B_ g 0) x).setCell (B_ g 1) y=w:=by
 have h0:w.setCell (B_ g 0) x=w:=I4 h rfl;rw[h0];exact I4 h rfl
theorem U6(s:Y_):s.data.toList.length=s.size:=P9
theorem aa5(s:Y_)(P:Nat)(hP:P<=4)(tb:D7.Table)(tp:Option Addr)(w:W_)(hT:alB w w.heap.size tb (.pointer tp))(hm:s.size<=140737488355328)(hc:(Lx.jr s.data.toList).1.length<=8000):C_ 14 #[.string s,.pointer tp,V (P:Int)] w (agW w (D7.alv P tb s.data.toList)):=by
 have ab:=aa2 s.data.toList;have an4:=ane s.data.toList;have agf:=I hT;unfold D7.alv;clear hT;cases hl:Lx.jr s.data.toList with
 |mk ts o=>
 rw[hl]at hc ab an4;cases o with
 |some pe=>
  obtain⟨p,er⟩:=pe;have RD:=I (an4 p er rfl);have e0:=alr RD;have nK:=I (λ(w':W_)=>anM (s:=s) (w:=w') (p:=p) (er:=er) (by rw[hl]) hm (by rw[hl];exact hc));clear an4 ab hl hc;refine Calls.via λQ hQ=>?_
  have HQ:=I hQ;clear hQ;go_enter func14,ntmps14;go_wp2_with fail
  refine(nK _).mono ?_;rintro _ w1 ⟨hf,rfl⟩;have HF:=I (Touch.pre aic);have iY:=I (hf.QN ((af.new w 31 yM).alloc (.cells #[V 0,V 0] 45)) PR);have jg:=I adL;clear hf;obtain⟨p0,p1,p2,p3,y0,y1,y2,y3,lW⟩:=af.QM iY;obtain⟨q0,q1,z0,z1,ai⟩:=af.two jg;go_wp2_with fail
  have hne:w.heap.size≠w.heap.size+1:=Zo
  have n1:=(iY.gH (V 0) (E_) (V 0) (N_)).nJ hne (V (p:Int)) (V (er:Int));have n2:=(jg.uJ (Ne.symm hne) (V 0) (E_) (V 0) (N_)).fT (V (p:Int)) (V (er:Int));have jO:ag w _:=(HF.aO (g:=w.heap.size) ET (V 0) (E_) (V 0) (N_)).aH (g:=w.heap.size+1) Ls (V (p:Int)) (V (er:Int));obtain⟨g0,g1,g2,g3,_⟩:=af.QM n1;obtain⟨f0,f1,_⟩:=af.two n2;simp only[aH,aO]at g0 g1 g2 g3 f0 f1 jO
  refine bodyPost_ret (v:=.tuple #[.agg yM,.bool false,aG p er]) aeM rfl ?_;exact HQ _ _ ⟨RD,rfl,jO⟩
 |none=>
  have nK:=I (λ(w':W_)=>ZC (s:=s) (w:=w') hl hm hc);have jJ:=I ab;have HC:=I hc;clear an4 ab hl;simp only
  rw[U6];have HND:=I (D7.amD ⟨s.size,P,tb⟩ ts);refine Calls.via λQ hQ=>?_
  have HQ:=I hQ;clear hQ;go_enter func14,ntmps14;go_wp2_with fail
  refine(nK _).mono ?_;rintro _ w1 ⟨hf,v,rfl,hown⟩;have jK:=I (abw hown);obtain⟨At,ct,rfl⟩:=mK hown;have ae:=I hown;have aK:=I (Touch.pre aic);have lU:=I (hf.QN ((af.new w 31 yM).alloc (.cells #[V 0,V 0] 45)) PR);have tL:=I adL;have yc:=I (show w.heap.size+1<w1.heap.size from tL.lt);clear hf hown;go_wp2_with fail
  refine(aa1 At ts.length ct s.size P tp w1).mono ?_;rintro _ w3 ⟨rfl,hf3,hb3,aed⟩
  have ah:=I (show Cf.Good ⟨w1.heap.size,w3,.slice At ts.length ct,.map (some (w1.heap.size+1)),s.size,ts,P,tb,.pointer tp⟩from
   ⟨jK.QH hf3,hb3.lt,λgt o n cap e=>by
    simp only at e;exact Nat.ne_of_lt (ae.lt gt (by rw[e];rfl)).2,by have:=HC.out;show ts.length<=100000;omega,hm,λt ht=>aa3 (jJ t ht),λt ht=>Yz (jJ t ht),λt ht hk=>aa4 (jJ t ht) hk,hP,((agf.up (g':=w1.heap.size) aK.size).QH (aK.trans hf3)),⟨_,hb3⟩⟩)
  obtain⟨c,hcc⟩:∃c:Cf,c=⟨w1.heap.size,w3,.slice At ts.length ct,.map (some (w1.heap.size+1)),s.size,ts,P,tb,.pointer tp⟩:=⟨_,rfl⟩;rw[<-hcc]at ah;have HG:=I (show c.g=w1.heap.size from by rw[hcc]);have HW:=I (show c.W0=w3 from by rw[hcc]);have OJ:=I (show c.en=s.size from by rw[hcc]);have yf:=I (show c.T=ts from by rw[hcc]);have Zh:=I (show c.E=⟨s.size,P,tb⟩from by rw[hcc]);have HTP:=I (show c.tp=.pointer tp from by rw[hcc]);have aJ:=I (show c.P=P from by rw[hcc]);have HTV:=I (show c.tv=.slice At ts.length ct from by rw[hcc])
  have uf:=I (show c.Dn (w1.heap.size+1)from by
   rw[hcc];exact⟨rfl,aed,λe=>by have e':w1.heap.size+1=w1.heap.size:=e;omega⟩)
  have oL:=I (show Ps c ⟨0,0,false⟩ [] w3 from by
   rw[hcc];exact⟨M _ _,⟨N_,hb3,avR _ _ _ _⟩,Nat.zero_le _,Nat.zero_le _⟩)
  have bJ:=I (aK.trans hf3);have oF:=I (hf3.QN lU λh=>h);have dY:=I (hf3.QN tL λh=>h);have pI:=I (show w1.heap.size<w3.heap.size from hb3.lt);clear hcc hf3 hb3 aed;have hne:=HND.out;unfold D7.yI at hne HQ;have aY:=I hne
  have KL:=I (show cZ ⟨s.size,P,tb⟩ (8*ts.length+8) [] ⟨ts,0,false⟩≠.out->C_ 27 #[.pointer (A_ w1.heap.size 0)] w3 (oK c ⟨0,0,false⟩ [] (cZ ⟨s.size,P,tb⟩ (8*ts.length+8) [] ⟨ts,0,false⟩) w3)from λh=>by
   have h1:=aa0 c ah (w1.heap.size+1) uf (8*ts.length+8) auP ⟨0,0,false⟩ [] w3 oL PD;unfold lV Cf.at at h1;rw[HG.out,Zh.out,yf.out,List.drop_zero]at h1;exact h1 h)
  clear hne;go_wp2_with fail
  refine(KL (λh=>aY aiw)).mono ?_;intro e w4 hres;have ac:=hres.parts (λh=>aY aiw);clear hres;generalize cZ ⟨s.size,P,tb⟩ (8*ts.length+8) [] ⟨ts,0,false⟩=X at aY HQ ac;clear KL;obtain⟨A,n,cp,i,er,rfl,iU,hend⟩:=ac;have hd4:w.heap.size+1<c.g:=by rw[HG.out];exact yc
  have Es:=I iU;have Sz:=I (iU.QN oF Zo Pf);have Az:=I (iU.QN dY Zo Pf);have eZ:=I (iU.ae' bJ Zo (by rw[HW.out];have:=bJ.size;omega));clear iU;obtain⟨q0,q1,z0,z1,ai⟩:=af.two Az
  rcases hend with⟨QS,rest,k',rfl,rfl,rfl,rfl,aa,hdr,ad,hp⟩|⟨rfl,aj⟩
  case inr=>
   have F7:=I aj;have e0:=alr aj;have e0p:¬(er:Int)=0:=Zo
   clear aj;unfold aG;go_wp2_with fail
   have KN:=Az.fT (V (i:Int)) (V (er:Int));have amm:=Sz.nJ (L:=w.heap.size) (g:=w.heap.size+1) Zo (V (i:Int)) (V (er:Int));have jO:ag w _:=eZ.aH (g:=w.heap.size+1) Ls (V (i:Int)) (V (er:Int));have jU:=dS w4 (w.heap.size+1) (V (i:Int)) (V (er:Int));simp only[aH]at KN amm jO jU;generalize (auX (auX w4 (B_ (w.heap.size+1) 0) _) (B_ (w.heap.size+1) 1) _)=W5 at KN amm jO jU|-;have adi:=I KN;have Nf:=I amm;have eY:=I jO;have iW:=I jU;clear KN amm jO jU q0 q1 z0 z1 ai;have r0:W5.cell? (B_ (w.heap.size+1) 1)=some (V (er:Int)):=adi.cell 1;have aL:=adi.lt
   go_quiet (fail)
   clear r0 aL;have KO:=I (adi.drewN nq);have ic:=I (Nf.drewN nq);have fI:=I (eY.drewN nq);generalize W5.drewN nq=W6 at KO ic fI|-;obtain⟨q0,q1,z0,z1,ai⟩:=af.two KO;go_wp2_with fail
   clear q0 q1 z0 z1 ai;refine uV (λW=>af W (w.heap.size+1) 45 #[V (i:Int),V (er:Int)]/\af W w.heap.size 31 yM) [(0,true),(1,true),(2,false),(3,true),(4,false)] Pg Ph Pg ⟨KO.drewN 1,ic.drewN 1⟩ ?_;refine ak rfl (λK hK=>?_);rw[if_pos (by rfl)];refine⟨.agg yM,λW hW=>?_,hK _ ?_⟩
   .go_simp
   clear hK K;refine ak rfl (λK hK=>?_);rw[if_pos (by rfl)];refine⟨.agg #[V (i:Int),V (er:Int)],λW hW=>?_,hK _ ?_⟩
   .obtain⟨h1,_⟩:=hW
    obtain⟨p0,p1,_⟩:=af.two h1;go_simp
   clear hK K;obtain⟨p0,p1,p2,p3,y0,y1,y2,y3,lW⟩:=af.QM (ic.drewN 1);refine aS rfl (λK hK=>?_);go_wp2_with fail
   have hne:w.heap.size≠w.heap.size+1:=Zo
   have n1:=(ic.drewN 1).gH (V 0) (E_) (V 0) (N_);have n2:=(KO.drewN 1).uJ (Ne.symm hne) (V 0) (E_) (V 0) (N_);have Sn:ag w _:=(fI.drewN 1).aO (g:=w.heap.size) ET (V 0) (E_) (V 0) (N_);simp only[aO]at n1 n2 Sn;generalize (auX (auX (auX (auX (W6.drewN 1) (B_ w.heap.size 0) _) (B_ w.heap.size 1) _) (B_ w.heap.size 2) _) (B_ w.heap.size 3) _)=W7 at n1 n2 Sn|-;refine hK _ _ ⟨n2,n1⟩ ?_;clear hK K p0 p1 p2 p3 y0 y1 y2 y3 lW;have av:=I n1;have Sb:=I n2;have Cx:=I Sn;clear n1 n2 Sn;refine ak rfl (λK hK=>?_);rw[if_pos (by rfl)];refine⟨.bool false,λW hW=>?_,hK _ ?_⟩
   .go_simp
   clear hK K;obtain⟨q0,q1,z0,z1,ai⟩:=af.two Sb;refine aS rfl (λK hK=>?_);go_wp2_with fail
   have m1:=av.nJ hne (V (i:Int)) (V (er:Int));have m2:=Sb.fT (V (i:Int)) (V (er:Int));have xO:ag w _:=Cx.aH (g:=w.heap.size+1) Ls (V (i:Int)) (V (er:Int));simp only[aH]at m1 m2 xO;generalize (auX (auX W7 (B_ (w.heap.size+1) 0) _) (B_ (w.heap.size+1) 1) _)=W8 at m1 m2 xO|-;refine hK _ _ ⟨m2,m1⟩ ?_;clear hK K q0 q1 z0 z1 ai;refine sj ?_;go_wp2_with fail
   obtain⟨g0,g1,g2,g3,_⟩:=af.QM m1;obtain⟨f0,f1,_⟩:=af.two m2
   refine bodyPost_ret (v:=.tuple #[.agg yM,.bool false,aG i er]) aeM rfl ?_;exact HQ _ _ ⟨F7,rfl,xO⟩
  have ajH:=I aa;have AP:=I hp;have ao:=I hdr;clear aa hp hdr;unfold aG;go_wp2_with fail
  rw[OY Az.out];clear q0 q1 z0 z1 ai;obtain⟨ov,hb4,_⟩:=AP.box;rw[HG.out,HTV.out]at hb4;have aM:k'.p<=ts.length:=by have:=AP.le;rw[yf.out]at this;exact this
  have aC:=I aM;have iB:=I hb4;have r0:w4.cell? (B_ (w.heap.size+1) 1)=some (V 0):=Az.cell 1;have r1:w4.cell? (B_ w1.heap.size 0)=some (.slice At ts.length ct):=hb4.cell 0;have r2:w4.cell? (B_ w1.heap.size 1)=some (V (k'.p:Int)):=hb4.cell 1;have hl4:=Az.lt;have aL:=hb4.lt;clear hb4 aM
  by_cases am:k'.p<ts.length
  .have c1:(k'.p:Int)<(ts.length:Int):=by omega
   have c2:decide ((k'.p:Int)<(ts.length:Int))=true:=decide_eq_true Zo
   have HX:=I (show(if rest.l.isEmpty then R.ok (QS,!rest.b) rest else D7.refuse ⟨s.size,P,tb⟩ rest)=.err (Np.place c.en (c.at k').l) 3 from by
    rw[<-ao.out,if_neg (λh=>by have h2:=List.isEmpty_iff.1 h;rw[Cf.ama,yf.out,List.drop_eq_nil_iff]at h2;omega),OJ];rfl)
   go_quiet (fail)
   clear r0 r1 r2 hl4 aL c1 c2;have pg:=I (AP.QH ((M _ w4).drewN nq));have KO:=I (Az.drewN nq);have ic:=I (Sz.drewN nq);have fI:=I (eZ.drewN nq);generalize w4.drewN nq=w6 at pg KO ic fI|-;have al:=I (Cu c ah k' [] w6 pg);unfold lV at al;rw[HG.out]at al;go_wp2_with fail
   refine al.mono ?_;rintro _ w7 ⟨rfl,hf⟩;have Yo:=I (hf.QN KO λh=>h);have Av:=I (hf.QN ic λh=>h);have gW:=I (fI.trans hf);clear hf;simp only[D7.R.bind]at HQ;rw[HX.out]at HQ;generalize Np.place c.en (c.at k').l=pl at HQ|-;have Az:=Yo;have Sz:=Av;have eZ:=gW;obtain⟨q0,q1,z0,z1,ai⟩:=af.two Yo;unfold aG;go_wp2_with fail
   have KN:=Yo.fT (V (pl:Int)) (V 3);have amm:=Av.nJ (L:=w.heap.size) (g:=w.heap.size+1) Zo (V (pl:Int)) (V 3);have jO:ag w _:=gW.aH (g:=w.heap.size+1) Ls (V (pl:Int)) (V 3);simp only[aH]at KN amm jO;generalize (auX (auX w7 (B_ (w.heap.size+1) 0) _) (B_ (w.heap.size+1) 1) _)=W8 at KN amm jO|-;have an1:=I KN;have ai3:=I amm;have mZ:=I jO;clear KN amm jO q0 q1 z0 z1 ai;refine uV (λW=>af W (w.heap.size+1) 45 #[V (pl:Int),V 3]/\af W w.heap.size 31 yM) [(0,true),(1,true),(2,false),(3,true),(4,false)] Pg Ph Pg ⟨an1.drewN 1,ai3.drewN 1⟩ ?_;refine ak rfl (λK hK=>?_);rw[if_pos (by rfl)];refine⟨.agg yM,λW hW=>?_,hK _ ?_⟩
   .go_simp
   clear hK K;refine ak rfl (λK hK=>?_);rw[if_pos (by rfl)];refine⟨.agg #[V (pl:Int),V 3],λW hW=>?_,hK _ ?_⟩
   .obtain⟨h1,_⟩:=hW
    obtain⟨p0,p1,_⟩:=af.two h1;go_simp
   clear hK K;obtain⟨p0,p1,p2,p3,y0,y1,y2,y3,lW⟩:=af.QM (ai3.drewN 1);refine aS rfl (λK hK=>?_);go_wp2_with fail
   have hne:w.heap.size≠w.heap.size+1:=Zo
   have n1:=(ai3.drewN 1).gH (V 0) (E_) (V 0) (N_);have n2:=(an1.drewN 1).uJ (Ne.symm hne) (V 0) (E_) (V 0) (N_);have Sn:ag w _:=(mZ.drewN 1).aO (g:=w.heap.size) ET (V 0) (E_) (V 0) (N_);simp only[aO]at n1 n2 Sn;generalize (auX (auX (auX (auX (W8.drewN 1) (B_ w.heap.size 0) _) (B_ w.heap.size 1) _) (B_ w.heap.size 2) _) (B_ w.heap.size 3) _)=W7 at n1 n2 Sn|-;refine hK _ _ ⟨n2,n1⟩ ?_;clear hK K p0 p1 p2 p3 y0 y1 y2 y3 lW;have av:=I n1;have Sb:=I n2;have Cx:=I Sn;clear n1 n2 Sn;refine ak rfl (λK hK=>?_);rw[if_pos (by rfl)];refine⟨.bool false,λW hW=>?_,hK _ ?_⟩
   .go_simp
   clear hK K;obtain⟨q0,q1,z0,z1,ai⟩:=af.two Sb;refine aS rfl (λK hK=>?_);go_wp2_with fail
   have m1:=av.nJ hne (V (pl:Int)) (V 3);have m2:=Sb.fT (V (pl:Int)) (V 3);have xO:ag w _:=Cx.aH (g:=w.heap.size+1) Ls (V (pl:Int)) (V 3);simp only[aH]at m1 m2 xO;generalize (auX (auX W7 (B_ (w.heap.size+1) 0) _) (B_ (w.heap.size+1) 1) _)=W8 at m1 m2 xO|-;refine hK _ _ ⟨m2,m1⟩ ?_;clear hK K q0 q1 z0 z1 ai;refine sj ?_;go_wp2_with fail
   obtain⟨g0,g1,g2,g3,_⟩:=af.QM m1;obtain⟨f0,f1,_⟩:=af.two m2
   refine bodyPost_ret (v:=.tuple #[.agg yM,.bool false,aG pl 3]) aeM rfl ?_;exact HQ _ _ ⟨by decide,rfl,xO⟩
  .have c1:¬(k'.p:Int)<(ts.length:Int):=by omega
   have c2:decide ((k'.p:Int)<(ts.length:Int))=false:=decide_eq_false Zo
   have HX:=I (show(if rest.l.isEmpty then R.ok (QS,!rest.b) rest else D7.refuse ⟨s.size,P,tb⟩ rest)=.ok (QS,!k'.b) rest from by
    rw[<-ao.out,if_pos (by rw[Cf.ama,yf.out,List.drop_eq_nil_of_le (by omega)];rfl)];rfl)
   simp only[D7.R.bind]at HQ;rw[HX.out]at HQ
   go_quiet (fail)
   clear r0 r1 r2 hl4 aL c1 c2;have KO:=I (Az.drewN nq);have ic:=I (Sz.drewN nq);have gy:=I (iB.drewN nq);have fI:=I (eZ.drewN nq);have iC:=I (ajH.QH ((M _ w4).drewN nq));generalize w4.drewN nq=w6 at KO ic gy fI iC|-;obtain⟨q0,q1,z0,z1,ai⟩:=af.two KO;go_wp2_with fail
   clear q0 q1 z0 z1 ai;refine uV (λW=>af W w1.heap.size 85 #[.slice At ts.length ct,V (k'.p:Int),V (c.en:Int),ov,c.tp,V (c.P:Int),c.mv,V (k'.n:Int),.bool k'.b]) [(0,true),(2,true),(3,true),(4,true),(5,true),(6,true),(7,true),(1,false),(8,false),(9,true),(10,false)] Pg Ph Pg (gy.drewN 1) ?_;refine ak rfl (λK hK=>?_);rw[if_pos (by rfl)];refine⟨.slice A QS.length cp,λW hW=>?_,hK _ ?_⟩
   .have h8:=hW.cell 8
    have F6:=hW.lt;go_simp
   clear hK K;refine ak rfl (λK hK=>?_);rw[if_pos (by rfl)];refine⟨.pointer (A_ w1.heap.size 0),λW hW=>?_,hK _ ?_⟩
   .have h8:=hW.cell 8
    have F6:=hW.lt;go_simp
   clear hK K;refine ak rfl (λK hK=>?_);rw[if_pos (by rfl)];refine⟨.pointer (A_ w1.heap.size 0),λW hW=>?_,hK _ ?_⟩
   .have h8:=hW.cell 8
    have F6:=hW.lt;go_simp
   clear hK K;refine ak rfl (λK hK=>?_);rw[if_pos (by rfl)];refine⟨.pointer (A_ w1.heap.size 8),λW hW=>?_,hK _ ?_⟩
   .have h8:=hW.cell 8
    have F6:=hW.lt;go_simp
   clear hK K;refine ak rfl (λK hK=>?_);rw[if_pos (by rfl)];refine⟨.bool k'.b,λW hW=>?_,hK _ ?_⟩
   .have h8:=hW.cell 8
    have F6:=hW.lt;go_simp
   clear hK K;refine ak rfl (λK hK=>?_);rw[if_pos (by rfl)];refine⟨.bool (!k'.b),λW hW=>?_,hK _ ?_⟩
   .have h8:=hW.cell 8
    have F6:=hW.lt;go_simp
   clear hK K;refine ak rfl (λK hK=>?_);rw[if_pos (by rfl)];refine⟨.agg #[V 0,V 0],λW hW=>?_,hK _ ?_⟩
   .have h8:=hW.cell 8
    have F6:=hW.lt;go_simp
   clear hK K;refine aS rfl (λK hK=>?_);go_wp2_with fail
   refine(j6 A QS.length cp _).mono ?_;rintro _ w7 ⟨rfl,hf⟩;have hf':ag w6 w7:=Touch.BD hf;have Yo:=I (hf'.QN KO λh=>h);have Av:=I (hf'.QN ic λh=>h);have vv:=I (hf'.QN gy λh=>h);have gW:=I (fI.trans hf');have jy:=I (iC.QH hf');go_wp2
   refine hK _ _ vv ?_;clear hK K hf hf';obtain⟨p0,p1,p2,p3,y0,y1,y2,y3,lW⟩:=af.QM Av;refine aS rfl (λK hK=>?_);go_wp2_with fail
   have hne:w.heap.size≠w.heap.size+1:=Zo
   have n1:=Av.gH (V 1) (E_) (V 0) (.slice A QS.length cp);have n2:=Yo.uJ (Ne.symm hne) (V 1) (E_) (V 0) (.slice A QS.length cp);have n3:=vv.uJ (L:=w1.heap.size) (g:=w.heap.size) (by have:=yc.out;omega) (V 1) (E_) (V 0) (.slice A QS.length cp);have RU:ag w _:=gW.aO (g:=w.heap.size) ET (V 1) (E_) (V 0) (.slice A QS.length cp);have bR:=jy.far anj (by have:=yc.out;have:=pI.out;omega);simp only[aO]at n1 n2 n3 RU bR;generalize (auX (auX (auX (auX w7 (B_ w.heap.size 0) _) (B_ w.heap.size 1) _) (B_ w.heap.size 2) _) (B_ w.heap.size 3) _)=W8 at n1 n2 n3 RU bR|-;refine hK _ _ n3 ?_;clear hK K p0 p1 p2 p3 y0 y1 y2 y3 lW;have av:=I n1;have Sb:=I n2;have HN3:=I n3;have mZ:=I RU;have Cb:=I bR;clear n1 n2 n3 RU bR;refine ak rfl (λK hK=>?_);rw[if_pos (by rfl)];refine⟨.bool (!k'.b),λW hW=>?_,hK _ ?_⟩
   .go_simp
   clear hK K;obtain⟨q0,q1,z0,z1,ai⟩:=af.two Sb;refine aS rfl (λK hK=>?_);go_wp2_with fail
   rw[OY Sb.out];refine hK _ _ HN3 ?_;clear hK K q0 q1 z0 z1 ai;refine sj ?_;go_wp2_with fail
   obtain⟨g0,g1,g2,g3,_⟩:=af.QM av;obtain⟨f0,f1,_⟩:=af.two Sb
   refine bodyPost_ret (v:=.tuple #[.agg #[V 1,E_,V 0,.slice A QS.length cp],.bool (!k'.b),aG 0 0]) aeM rfl ?_;exact HQ _ _ ⟨A,cp,rfl,Cb.base (by have:=yc.out;have:=pI.out;omega),mZ⟩
end
section
open Go.RowKit
open Tr (Nd)
open Lx (aB)
open D7 (R)
attribute [local go_sem] gD stillUpon
def ao8(w:W_)(X:Nd×Nat×Nat)(e:Ending)(w':W_):Prop:=∃A cp,e=.returned (.tuple #[nv X.1 (.slice A X.1.Qx.length cp),V (X.2.1:Int),V (X.2.2:Int)])/\aP w.heap.size w' X.1.Qx (.slice A X.1.Qx.length cp)/\ag w w'
theorem YA(s:Y_)(tb:D7.Table)(tp:Option Addr)(w:W_)(hT:alB w w.heap.size tb (.pointer tp))(hm:s.size<=140737488355328)(hc:(Lx.jr s.data.toList).1.length<=8000):C_ 7 #[.string s,.pointer tp] w λe w'=>ao8 w (D7.alz tb s.data.toList) e w'/\∀i er,D7.alv 0 tb s.data.toList=.err i er->er≠0:=by
 have HP:=I (λw' (hf:ag w w')=>aa5 s 0 Zo tb tp w' ((hT.up hf.size).QH hf) hm hc);have HN:=I (D7.amf 0 tb s.data.toList);obtain⟨R9,ab⟩:∃R9,R9=D7.alz tb s.data.toList:=⟨_,rfl⟩;rw[<-ab];unfold D7.alz at ab;have ae:=I ab;clear ab;clear hm hc hT;refine Calls.via λQ hQ=>?_
 have HQ:=I hQ;clear hQ;go_enter func7,ntmps7;go_wp2_with fail
 refine(HP _ Q_).mono ?_;intro e w2 hres;rw[ae.out]at HQ;generalize D7.alv 0 tb s.data.toList=X at HQ HN hres;clear HP ae;cases X with
 |out=>exact absurd rfl HN
 |err i er=>
  obtain⟨aj,rfl,hf⟩:=hres;have F7:=I aj;have e0:=alr aj;have hb2:=hf.QN abR PR;have hf2:ag w w2:=Touch.pre hf;clear hf aj;unfold aG yM;go_wp2_with fail
  have hb3:=(hb2.alloc (.cells ZN 31)).alloc (.cells #[V (i:Int),V (er:Int)] 45);have hf3:=(hf2.alloc (.cells ZN 31)).alloc (.cells #[V (i:Int),V (er:Int)] 45);have ac:af ((w2.alloc (.cells ZN 31)).alloc (.cells #[V (i:Int),V (er:Int)] 45)) (w2.heap.size+1) 45 #[V (i:Int),V (er:Int)]:=af.new2 _ _ _ _;generalize ((w2.alloc (.cells ZN 31)).alloc (.cells #[V (i:Int),V (er:Int)] 45))=W3 at hb3 hf3 ac|-;have aq:=I (show w.heap.size<w2.heap.size from hb2.lt);have ai:=I hb3;have bJ:=I hf3;have ah:=I ac;clear hb2 hf2 hb3 hf3 ac;refine uV (λW=>af W (w2.heap.size+1) 45 #[V (i:Int),V (er:Int)]/\af W w.heap.size 31 ZN) [(0,true),(1,true),(2,true),(3,true),(4,true),(5,false),(6,true),(7,true)] Pg Ph Pg ⟨ah.drewN 1,ai.drewN 1⟩ ?_;refine ak rfl (λK hK=>?_);rw[if_pos (by rfl)];refine⟨.agg ZN,λW hW=>?_,hK _ ?_⟩
  .go_simp
  clear hK K;refine ak rfl (λK hK=>?_);rw[if_pos (by rfl)];refine⟨.pointer (A_ (w2.heap.size+1) 0),λW hW=>?_,hK _ ?_⟩
  .go_simp
  clear hK K;refine ak rfl (λK hK=>?_);rw[if_pos (by rfl)];refine⟨V (i:Int),λW hW=>?_,hK _ ?_⟩
  .obtain⟨h1,_⟩:=hW
   obtain⟨p0,p1,_⟩:=af.two h1;go_simp
  clear hK K;refine ak rfl (λK hK=>?_);rw[if_pos (by rfl)];refine⟨.pointer (A_ (w2.heap.size+1) 1),λW hW=>?_,hK _ ?_⟩
  .go_simp
  clear hK K;refine ak rfl (λK hK=>?_);rw[if_pos (by rfl)];refine⟨V (er:Int),λW hW=>?_,hK _ ?_⟩
  .obtain⟨h1,_⟩:=hW
   obtain⟨p0,p1,_⟩:=af.two h1;go_simp
  clear hK K;obtain⟨p0,p1,p2,p3,y0,y1,y2,y3,lW⟩:=af.QM (ai.drewN 1);refine aS rfl (λK hK=>?_);go_wp2_with fail
  have n1:=(ai.drewN 1).gH (V 0) (E_) (V 0) (N_);have n2:=(ah.drewN 1).uJ (L:=w2.heap.size+1) (g:=w.heap.size) R4 (V 0) (E_) (V 0) (N_);have Sn:ag w _:=(bJ.drewN 1).aO (g:=w.heap.size) ET (V 0) (E_) (V 0) (N_);simp only[aO]at n1 n2 Sn;generalize (auX (auX (auX (auX (W3.drewN 1) (B_ w.heap.size 0) _) (B_ w.heap.size 1) _) (B_ w.heap.size 2) _) (B_ w.heap.size 3) _)=W7 at n1 n2 Sn|-;refine hK _ _ ⟨n2,n1⟩ ?_;clear hK K p0 p1 p2 p3 y0 y1 y2 y3 lW;refine ak rfl (λK hK=>?_);rw[if_pos (by rfl)];refine⟨V (i:Int),λW hW=>?_,hK _ ?_⟩
  .go_simp
  clear hK K;refine ak rfl (λK hK=>?_);rw[if_pos (by rfl)];refine⟨V (er:Int),λW hW=>?_,hK _ ?_⟩
  .go_simp
  clear hK K;refine sj ?_;go_wp2_with fail
  obtain⟨g0,g1,g2,g3,_⟩:=af.QM n1
  refine bodyPost_ret (v:=.tuple #[.agg yM,V (i:Int),V (er:Int)]) aio rfl ?_;exact HQ _ _ ⟨⟨none,0,rfl,.nil _ _,Sn⟩,λi er h=>by cases h;exact F7⟩
 |ok x rest=>
  obtain⟨QS,fits⟩:=x;simp only at HQ;obtain⟨A,cp,rfl,aa,hf⟩:=hres;have hb2:=hf.QN abR PR;have hf2:ag w w2:=Touch.pre hf;have DV:aP (w.heap.size+1) w2 QS (.slice A QS.length cp):=aa.base P9;have aq:=I (show w.heap.size<w2.heap.size from hb2.lt);have hb3:=(hb2.alloc (.cells #[V 1,E_,V 0,.slice A QS.length cp] 31)).alloc (.cells #[V 0,V 0] 45);have hf3:=(hf2.alloc (.cells #[V 1,E_,V 0,.slice A QS.length cp] 31)).alloc (.cells #[V 0,V 0] 45);have al:af ((w2.alloc (.cells #[V 1,E_,V 0,.slice A QS.length cp] 31)).alloc (.cells #[V 0,V 0] 45)) w2.heap.size 31 #[V 1,E_,V 0,.slice A QS.length cp]:=(af.new _ _ _).alloc _;have ap:=DV.QH (((M _ w2).alloc (.cells #[V 1,E_,V 0,.slice A QS.length cp] 31)).alloc (.cells #[V 0,V 0] 45));have ai:=I hb3;have bJ:=I hf3;have am:=I al;have aw:=I ap;clear hf aa hb2 hf2 DV hb3 hf3 al ap;unfold aG;cases fits with
  |false=>
  obtain⟨p0,p1,p2,p3,y0,y1,y2,y3,lW⟩:=af.QM ai;rw[if_pos (.inl rfl)]at HQ;go_wp2_with fail
  have n1:=ai.gH (V 0) (E_) (V 0) (N_);have Sn:ag w _:=bJ.aO (g:=w.heap.size) ET (V 0) (E_) (V 0) (N_);obtain⟨g0,g1,g2,g3,_⟩:=af.QM n1;simp only[aO]at g0 g1 g2 g3 Sn
  refine bodyPost_ret (v:=.tuple #[.agg yM,V 0,V 6]) aio rfl ?_;exact HQ _ _ ⟨⟨none,0,rfl,.nil _ _,Sn⟩,λi er h=>by cases h⟩
  |true=>
  go_wp2_with fail
  generalize ((w2.alloc (.cells #[V 1,E_,V 0,.slice A QS.length cp] 31)).alloc (.cells #[V 0,V 0] 45))=W3 at ai bJ am aw|-;refine(CQ (Np.CG QS) (.slice A QS.length cp) W3 aw.rep JI).mono ?_;rintro _ w4 ⟨rfl,hf⟩;have iB:=I (hf.QN ai λh=>h);have eZ:=I aqJ;have H74:=I (hf.QN am λh=>h);have nU:=I (aw.QH hf);clear hf;obtain⟨p0,p1,p2,p3,y0,y1,y2,y3,lW⟩:=af.QM iB;cases hv:Tr.valid (Np.CG QS)with
  |false=>
   go_wp2_with fail
   have n1:=iB.gH (V 0) (E_) (V 0) (N_);have Sn:ag w _:=eZ.aO (g:=w.heap.size) ET (V 0) (E_) (V 0) (N_);obtain⟨g0,g1,g2,g3,_⟩:=af.QM n1;simp only[aO]at g0 g1 g2 g3 Sn
   refine bodyPost_ret (v:=.tuple #[.agg yM,V 0,V 6]) aio rfl ?_;rw[if_pos (.inr hv)]at HQ;exact HQ _ _ ⟨⟨none,0,rfl,.nil _ _,Sn⟩,λi er h=>by cases h⟩
  |true=>
   obtain⟨s0,s1,s2,s3,_,_,_,_,adp⟩:=af.QM H74;go_wp2_with fail
   have n1:=iB.gH (V 1) (E_) (V 0) (.slice A QS.length cp);have Sn:ag w _:=eZ.aO (g:=w.heap.size) ET (V 1) (E_) (V 0) (.slice A QS.length cp);have ad:=nU.far (yL w4 w.heap.size (V 1) (E_) (V 0) (.slice A QS.length cp)) Zo;obtain⟨g0,g1,g2,g3,_⟩:=af.QM n1;simp only[aO]at g0 g1 g2 g3 Sn ad
   refine bodyPost_ret (v:=.tuple #[.agg #[V 1,E_,V 0,.slice A QS.length cp],V 0,V 0]) aio rfl ?_;rw[if_neg (λh=>by rcases h with h|h;cases h;rw[hv]at h;cases h)]at HQ;exact HQ _ _ ⟨⟨A,cp,rfl,ad.base Zo,Sn⟩,λi er h=>by cases h⟩
end
section
open Go.RowKit
open Tr (Nd)
open Lx (aB)
attribute [local go_sem] gD stillUpon
theorem aoU:(Tryz.prog.info? 9).map (λi=>(i.zero,i.size,i.bytes))=some (some (E_),1,16):=Pg
def anu(tb:D7.Table):List Value:=tb.map λm=>S_ m.name
structure alX(W0 W:W_)(tb:D7.Table)(gt bm:Nat)(nv:Value)(NY:Nat->Value):Prop where
 tab:YB W (gt+bm+1) tb gt bm nv NY
 own:W.ownsRow W0.heap.size 9 1 nv tb.length (anu tb)
 fr:ag W0 W
 g0:W0.heap.size<=gt
 b0:W0.heap.size<=bm
theorem alX.QH{W0 W W':W_}{tb:D7.Table}{gt bm:Nat}{nv:Value}{NY:Nat->Value}(h:alX W0 W tb gt bm nv NY)(hf:ag W W'):alX W0 W' tb gt bm nv NY:=
 ⟨h.tab.QH hf,aQ h.own hf anI,h.fr.trans hf,h.g0,h.b0⟩
theorem alX.val{W0 W:W_}{tb:D7.Table}{gt bm:Nat}{nv:Value}{NY:Nat->Value}(h:alX W0 W tb gt bm nv NY):alB W W.heap.size tb (.pointer (A_ gt 0)):=
 .inr ⟨gt,bm,nv,NY,rfl,h.tab.QN,h.tab.map,h.tab.tree,h.tab.D9,Nat.ne_of_lt h.tab.QN.lt,Nat.ne_of_lt (Array.getElem?_eq_some_iff.1 h.tab.map).1⟩
theorem an5(w:W_):C_ 12 #[] w λe w'=>∃gt bm,e=.returned (.pointer (A_ gt 0))/\alX w w' [] gt bm (N_) (λ_=>N_):=by
 have ap:∀W:W_,(Instr.makeMap 70 none).run Tryz.prog W=.ok (.map (some W.heap.size)) (W.alloc (.map #[] 0)):=λW=>run_makeMap_plain W 70
 go_enter func12,ntmps12;go_wp2
 go_ret;refine⟨w.heap.size+1,w.heap.size,by simp,⟨af.new2 w (.map #[] 0) 73 #[N_,.map (some w.heap.size)],?_,λi hi=>absurd hi (Nat.not_lt_zero _),λm hm=>(by cases hm),by omega,by omega⟩,avR _ _ _ _,((M _ w).alloc _).alloc _,by omega,Nat.le_refl _⟩;rw[heap_alloc_old _ _ (by simp)];exact heap_alloc_new w _
theorem am4{w:W_}{bm:Nat}{tb:D7.Table}{NY:Nat->Value}(hb:w.heap[bm]?=some (.map (alC tb NY).toArray tb.length))(m:D7.Mac)(sl:Value)(hn:D7.alA tb m.name=none):
  (Instr.mapUpdate 70 (.map (some bm)) (S_ m.name) (alW m sl)).run Tryz.prog w=.ok () {w with heap:=w.heap.setIfInBounds bm (.map (alC (tb++[m]) λi=>if i<tb.length then NY i else sl).toArray (tb++[m]).length)}:=by
 have hc:(Instr.checkKey false 10000 9 (S_ m.name)).run Tryz.prog w=.ok () w:=MapKept.run_checkKey (k:=S_ m.name) underlying9 (by simp[MapKept.IsKey]) false 9999;obtain⟨j,hj⟩:=amH m.name tb NY;have hz:=amK m.name tb 0;rw[hn]at hz
 have hx:(tb.zipIdx.find? λx=>x.1.name==m.name)=none:=by
  cases h:tb.zipIdx.find? λx=>x.1.name==m.name with
  |none=>rfl
  |some x=>rw[h]at hz;cases hz
 rw[hx]at hj
 have he:alC tb NY++[(⟨S_ m.name,alW m sl,tb.length⟩:MapEntry)]=alC (tb++[m]) λi=>if i<tb.length then NY i else sl:=by
  unfold alC;rw[List.zipIdx_append,List.map_append];refine congr (congrArg HAppend.hAppend ?_) ?_
  .apply List.map_congr_left
   intro x hx;obtain⟨hi,_⟩:=anK hx;show _=(⟨_,alW x.1 (if x.2<tb.length then NY x.2 else sl),_⟩:MapEntry);rw[if_pos hi]
  .simp
 simp[Instr.mapUpdate,run_underlying underlying70,MapKept.run_getObj_map hb,hc,MapKept.run_findKey underlying9 hj,MapKept.run_setObj_map _ hb,Result.andThen]
 rw[<-he]
theorem anb(w:W_)(b:Nat)(o:Obj):Touch (λk=>k=b) w {w with heap:=w.heap.setIfInBounds b o}:=
 ⟨rfl,rfl,rfl,by simp,λk hk hn=>by
  show(w.heap.setIfInBounds b o)[k]?=_;rw[Array.getElem?_setIfInBounds_ne (λh=>hn h.symm)]⟩
theorem apC{w:W_}{b:Nat}(o:Obj)(hb:b<w.heap.size):({w with heap:=w.heap.setIfInBounds b o}:W_).heap[b]?=some o:=by
 show(w.heap.setIfInBounds b o)[b]?=_;rw[Array.getElem?_setIfInBounds_self,if_pos hb]
theorem YB.ne{W:W_}{g gt bm:Nat}{tb:D7.Table}{nv:Value}{NY:Nat->Value}(h:YB W g tb gt bm nv NY):bm≠gt:=λe=>by
 have h1:=h.map;have h2:=h.QN;unfold af at h2;rw[e,h2]at h1;cases h1
theorem amA{W:W_}{g gt bm B n:Nat}{tb:D7.Table}{nv v:Value}{xs:List Value}{NY:Nat->Value}(h:YB W g tb gt bm nv NY)(ho:W.ownsRow B 9 1 v n xs):∀b,v.ownBlock=some b->b≠gt/\b≠bm:=λb hb=>by
 obtain⟨_,cur,h2⟩:=fe ho hb;refine⟨λe=>?_,λe=>?_⟩
 .have h1:=h.QN
  unfold af at h1;rw[<-e,h2]at h1;cases h1
 .have h1:=h.map
  rw[<-e,h2]at h1;cases h1
theorem YB.grown{W W2:W_}{g gt bm B n:Nat}{tb:D7.Table}{nv v:Value}{xs:List Value}{NY:Nat->Value}(h:YB W g tb gt bm nv NY)(ho:W.ownsRow B 9 1 v n xs)(hg:W.grownBy W2 v.ownBlock):YB W2 g tb gt bm nv NY:=
 h.mv ((M (λb=>v.ownBlock=some b) _).grown hg λb hb=>.inl hb) (λhs=>(amA h ho _ hs).1 rfl) (λhs=>(amA h ho _ hs).2 rfl) (λk cs fr hk e=>by
  obtain⟨_,cur,h2⟩:=fe ho hk;rw[h2]at e;cases e) h.ng h.nm
theorem YB.ap5{W:W_}{g gt bm:Nat}{tb:D7.Table}{nv:Value}{NY:Nat->Value}(h:YB W g tb gt bm nv NY)(v:Value):YB (W.setCell (B_ gt 0) v) g tb gt bm v NY:=by
 have ht:Touch (λk=>k=gt) W (W.setCell (B_ gt 0) v):=(M (λk=>k=gt) W).setCell (p:=B_ gt 0) Wh _;refine⟨h.QN.put 0 v,(ht.block bm (Array.getElem?_eq_some_iff.1 h.map).1 h.ne).trans h.map,λi hi=>(h.tree i hi).mv ht λk cs fr hk _ e=>?_,h.D9,h.ng,h.nm⟩;have h2:=h.QN;unfold af at h2;rw[show k=gt from hk,h2]at e;cases e
theorem YB.insert{W:W_}{g gt bm:Nat}{tb:D7.Table}{nv:Value}{NY:Nat->Value}(h:YB W g tb gt bm nv NY)(m:D7.Mac)(sl:Value)(ht:aP 0 W m.tree.Qx sl)(hm:m.tree.QG.length<=maxLen/\m.params<=4/\Tr.count m.tree<=1000):
  YB {W with heap:=W.heap.setIfInBounds bm (.map (alC (tb++[m]) λi=>if i<tb.length then NY i else sl).toArray (tb++[m]).length)} g (tb++[m]) gt bm nv (λi=>if i<tb.length then NY i else sl):=by
 have hT:=anb W bm (.map (alC (tb++[m]) λi=>if i<tb.length then NY i else sl).toArray (tb++[m]).length)
 have hN:∀k cs fr,k=bm->0<=k->W.heap[k]?≠some (.cells cs 31 fr):=λk cs fr hk _ e=>by
  rw[hk,h.map]at e;cases e
 refine⟨hT.QN h.QN h.ne.symm,apC _ (Array.getElem?_eq_some_iff.1 h.map).1,λi hi=>?_,λx hx=>?_,h.ng,h.nm⟩
 .by_cases hl:i<tb.length
  .rw[List.getElem_append_left hl]
   show aP 0 _ _ (if i<tb.length then NY i else sl);rw[if_pos hl];exact(h.tree i hl).mv hT hN
  .rw[List.getElem_append_right (by omega)]
   show aP 0 _ _ (if i<tb.length then NY i else sl);rw[if_neg hl];simp only[List.getElem_singleton];exact ht.mv hT hN
 .rcases List.mem_append.1 hx with h1|h1
  .exact h.D9 x h1
  .rw[List.mem_singleton.1 h1];exact hm
end
section
open Go.RowKit
open Tr (Nd)
open Lx (aB)
open D7 (ald alV)
attribute [local go_sem] gD stillUpon
theorem ao9(bm:Nat)(W:W_):(binOp .eql 70 (.map (some bm)) (.map none)).run Tryz.prog W=.ok (.bool false) W:=by
 first|kernel_rfl|simp[binOp,run_underlying underlying70]
def ap6(W0:W_)(gt bm:Nat)(X:D7.Table×Nat)(e:Ending)(W':W_):Prop:=e=.returned (V (X.2:Int))/\∃nv NY,alX W0 W' X.1 gt bm nv NY
theorem aoV(W0 W:W_)(tb:D7.Table)(gt bm:Nat)(nr:Value)(NY:Nat->Value)(h:alX W0 W tb gt bm nr NY)(s:Y_)(P:Nat)(hP:P<=4)(n:Nd)(sl:Value)(hr:aP 0 W n.Qx sl)(ht:n.QG.length<=maxLen)(hs:s.size<=140737488355328):
  C_ 24 #[.pointer (A_ gt 0),.string s,V (P:Int),nv n sl] W (ap6 W0 gt bm (alV tb s.data.toList P n)):=by
 obtain⟨A,cap,rfl⟩:=hr.slice;obtain⟨An,cn,rfl⟩:=mK h.own;have hsz:s.data.toList.length=s.size:=P9
 have amn:=I (show alV tb s.data.toList P n=if s.data.toList.length<2\/Tr.symbol s.data.toList=false\/ald n P=false then(tb,1)else if(D7.alA tb s.data.toList).isSome then(tb,9)else if 64<=tb.length then(tb,6)else(tb++[⟨s.data.toList,P,n⟩],0)from rfl);have jQ:=I ((M (λ_=>False) W).alloc (.cells #[V n.QI,.string ⟨n.QG.toArray⟩,V n.ah,.slice A n.Qx.length cap] 31));have aB:=I (af.new W 31 #[V n.QI,.string ⟨n.QG.toArray⟩,V n.ah,.slice A n.Qx.length cap]);have yB:=I (h.QH jQ);have HR:=I (hr.QH jQ);have QL:=I (λW'=>Ww s W' Zo);have Oj:=I (λW' (hr:aD W' n.Qx (.slice A n.Qx.length cap))=>alU n _ P W' hr ht);have wL:=I ht;have xI:=I hs;have HPP:=I hP;have aF:=yB.tab.QN.lt;have av:=h.g0;have ay:=h.b0;rw[hsz]at amn;clear h hr ht;unfold nv;refine Calls.via λQ hQ=>?_
 have HQ:=I hQ;clear hQ
 by_cases c1:s.size<2
 .have d1:decide ((s.size:Int)<2)=true:=dT Zo
  have jo:decide (s.size<2)=true:=dT c1;have aE:(s.size:Int)<2:=Zo
  rw[amn.out,if_pos (.inl c1)]at HQ;go_enter func24,ntmps24;go_wp2_with fail
  exact HQ _ _ ⟨rfl,_,_,yB⟩
 have d1:decide ((s.size:Int)<2)=false:=dF Zo;have jo:decide (s.size<2)=false:=dF c1;have aE:¬(s.size:Int)<2:=Zo
 go_enter func24,ntmps24;go_wp2_with fail
 refine(QL _).mono ?_;rintro _ W1 ⟨rfl,rfl⟩;cases hy:Tr.symbol s.data.toList with
 |false=>
  rw[amn.out,if_pos (.inr (.inl hy))]at HQ;go_wp2_with fail
  exact HQ _ _ ⟨rfl,_,_,yB⟩
 |true=>
  obtain⟨p0,p1,p2,p3,_,_,_,_,hlt⟩:=af.QM aB;go_wp2_with fail
  refine(Oj _ HR.rep).mono ?_;rintro _ W1 ⟨rfl,ae⟩;have al4:=I (yB.QH ae);have aL:=I (HR.QH ae);have aC:=I (ae.QN aB λh=>h);clear ae yB HR aB p0 p1 p2 p3 hlt;cases ht:ald n P with
  |false=>
   rw[amn.out,if_pos (.inr (.inr ht))]at HQ;go_wp2_with fail
   exact HQ _ _ ⟨rfl,_,_,al4⟩
  |true=>
   have aw:=I (show Tr.count n<=1000 from D7.al6 ht);rw[if_neg (by rintro(h|h|h);exact c1 h;rw[hy]at h;cases h;rw[ht]at h;cases h)]at amn;have q0:=al4.tab.QN.cell 0;have q1:=al4.tab.QN.cell 1;have VL:=al4.tab.QN.lt
   rcases ams al4.tab s.data.toList with⟨m,i,e1,hi,e2,e3⟩|⟨e1,e3⟩
   .unfold S_ at e3;rw[show(⟨s.data.toList.toArray⟩:Y_)=s by simp]at e3
    have HX:=I (show alV tb s.data.toList P n=(tb,9)from by rw[amn.out,e1];rfl);rw[HX.out]at HQ;unfold alW at e3;have aa:=al4.tab.tree i hi;rw[e2]at aa;obtain⟨A6,c6,ab⟩:=aa.slice;rw[ab]at e3;clear e1 e2 aa ab;go_wp2_with fail
    exact HQ _ _ ⟨rfl,_,_,al4.QH Q_⟩
   .unfold S_ at e3;rw[show(⟨s.data.toList.toArray⟩:Y_)=s by simp]at e3
    rw[e1]at amn;have uN:=ao9 bm
    by_cases c2:64<=tb.length
    .have d2:decide ((64:Int)<=(tb.length:Int))=true:=dT Zo
     have d2n:decide (64<=tb.length)=true:=dT c2;have d2':(64:Int)<=(tb.length:Int):=Zo
     have HX:=I (show alV tb s.data.toList P n=(tb,6)from by rw[amn.out];exact if_pos c2);rw[HX.out]at HQ;go_wp2_with fail
     exact HQ _ _ ⟨rfl,_,_,al4.QH Q_⟩
    .have d2:decide ((64:Int)<=(tb.length:Int))=false:=dF Zo
     have d2n:decide (64<=tb.length)=false:=dF c2;have d2':¬(64:Int)<=(tb.length:Int):=Zo
     have HX:=I (show alV tb s.data.toList P n=(tb++[⟨s.data.toList,P,n⟩],0)from by rw[amn.out];exact if_neg c2);rw[HX.out]at HQ;have aq:=I e1;obtain⟨i,hi,hz0,hz1,hz2⟩:=info_parts aoU;have bW:=I (show ag W1 ((W1.alloc (.cells #[V 0,V 0,.string ⟨#[]⟩,V 0,N_] 119)).alloc (.cells #[.string s] 9))from((M _ W1).alloc _).alloc _);have al5:=I (al4.QH bW);have aG:=I (af.new2 W1 (.cells #[V 0,V 0,.string ⟨#[]⟩,V 0,N_] 119) 9 #[.string s]);have HL:=I (show tb.length<64 by omega)
     go_wp2_with (at_builtin;go_loud (refine iL _ rfl (.tmp 56) (.tmp 58) 71 rfl W0.heap.size 9 i _ 1 16 rfl hi hz0 hz1 hz2 rfl Pf (.slice An tb.length cn) tb.length (anu tb) WH al5.own (.slice (A_ (W1.heap.size+1) 0) 1 1) 1 [.string s] WH (Src.uT aG rfl) ar7 (by have:=HL.out;unfold maxLen;omega) (by have:=HL.out;omega) al5.fr.size ?_);intro v8 W8 ac jI ax;refine jw.mk ?_)
     have aj:=I (al5.tab.grown al5.own jI);have an:=I ac;have Cb:=I (show Touch (λb=>(Value.slice An tb.length cn).ownBlock=some b) W1 W8 from(bW.mono λ_ h=>h.elim).trans ((M (λb=>(Value.slice An tb.length cn).ownBlock=some b) _).grown jI λb hb=>.inl hb));have anZ:=I (show ag W0 W8 from al5.fr.grown jI λb hb=>.inr (al5.own.lt b hb).1)
     have al:=I (show∀b,(Value.slice An tb.length cn).ownBlock=some b->∀cs fr,W1.heap[b]?≠some (.cells cs 31 fr)from λb hb cs fr e=>by
      obtain⟨_,cur,h2⟩:=fe al4.own hb;rw[h2]at e;cases e)
     have lT:=I (Cb.QN aC λhb=>al _ hb _ _ aC);have ZU:=I (aL.mv Cb λb cs fr hb _ e=>al _ hb _ _ e);obtain⟨A8,c8,rfl⟩:=mK ac;clear ac jI ax Cb al aC aL al4 al5 bW aG q0 q1 VL;have q0:=aj.QN.cell 0;have q1:=aj.QN.cell 1;have z0:=aj.QN.frozen 0;have VL:=aj.QN.lt;refine jw.go ?_;go_wp2_with fail
     have sI:Touch (λk=>k=gt) W8 (W8.setCell (B_ gt 0) (.slice A8 (tb.length+1) c8)):=(M (λk=>k=gt) W8).setCell (p:=B_ gt 0) Wh _;have ap:=I (aj.ap5 (.slice A8 (tb.length+1) c8));have ar:=I (aQ an sI λb hb hs=>(amA aj an b hb).1 hs);have apD:=I (anZ.trans' sI λk hk=>.inr (by rw[show k=gt from hk];exact av))
     have al:=I (show∀k,k=gt->∀cs fr,W8.heap[k]?≠some (.cells cs 31 fr)from λk hk cs fr e=>by
      have h2:=aj.QN;unfold af at h2;rw[hk,h2]at e;cases e)
     have yz:=I (sI.QN lT λhk=>al _ hk _ _ lT);have Rk:=I (ZU.mv sI λb cs fr hb _ e=>al _ hb _ _ e);clear sI al q0 q1 z0 VL aj an anZ lT ZU;generalize W8.setCell (B_ gt 0) (.slice A8 (tb.length+1) c8)=W9 at ap ar apD yz Rk|-;obtain⟨p0,p1,p2,p3,_,_,_,_,hlt⟩:=af.QM yz;have q1:=ap.QN.cell 1;have VL:=ap.QN.lt;have r0:=cR (p0.trans rfl);have r1:=cR (p1.trans rfl);have r2:=cR (p2.trans rfl);have r3:=cR (p3.trans rfl);have r4:=cR (q1.trans rfl);clear p0 p1 p2 p3 q1;refine cu [([(0,true),(1,true),(2,true),(3,true),(4,true),(5,true),(6,true),(7,false),(8,true)],9)] [] Pg Ph Pg ?_;refine dJ ?_
     repeat(refine Z4 ?_)
     refine aS rfl (λK hK=>?_);go_wp2_with fail
     refine(amr n (.slice A n.Qx.length cap) (W9.drewN 1) (by have:=aw.out;omega) (Rk.rep.QH ((M _ W9).drewN 1))).mono ?_;rintro _ wa ⟨sl2,rfl,am,hf2⟩;have hf:=Touch.BD hf2;have au:=I (ap.QH hf);have aH:=I (aQ ar hf λ_ _ h=>h);have ap7:=I (apD.trans hf);have az:=I (am.base (B':=0) JI);obtain⟨A2,c2,rfl⟩:=am.slice;have ao:=aA hf;clear am hf2 hf;unfold nv;go_wp2
     refine hK _ _ ao ?_;clear hK K ao r0 r1 r2 r3 r4 hlt VL
     repeat(refine Z4 ?_)
     have ad:=am4 au.map ⟨s.data.toList,P,n⟩ (.slice A2 n.Qx.length c2) aq;unfold alW at ad;simp only at ad;unfold S_ at ad;rw[show(⟨s.data.toList.toArray⟩:Y_)=s by simp]at ad;have aI:=I (au.insert ⟨s.data.toList,P,n⟩ (.slice A2 n.Qx.length c2) az ⟨wL,HPP,aw⟩);have ai:=anb wa bm (.map (alC (tb++[⟨s.data.toList,P,n⟩]) λi=>if i<tb.length then NY i else .slice A2 n.Qx.length c2).toArray (tb++[(⟨s.data.toList,P,n⟩:D7.Mac)]).length);have aJ:=I (aQ aH ai λb hb hs=>(amA au aH b hb).2 hs);have apE:=I (ap7.trans' ai λk hk=>.inr (by rw[show k=bm from hk];exact ay));clear ai;generalize ({wa with heap:=wa.heap.setIfInBounds bm (.map (alC (tb++[⟨s.data.toList,P,n⟩]) λi=>if i<tb.length then NY i else .slice A2 n.Qx.length c2).toArray (tb++[(⟨s.data.toList,P,n⟩:D7.Mac)]).length)}:W_)=wb at ad aI aJ apE;refine dm rfl (λK hK=>?_);go_wp2_with fail
     refine fH ?_;go_wp2_with fail
     refine HQ _ _ ⟨rfl,_,_,aI,?_,apE,av,ay⟩;have h:=aJ.out;rw[show(tb++[(⟨s.data.toList,P,n⟩:D7.Mac)]).length=tb.length+1 by simp];unfold anu at h|-;rw[List.map_append];simp only[List.map_cons,List.map_nil];unfold S_;rw[show(⟨s.data.toList.toArray⟩:Y_)=s by simp];exact h
end
section
open Go.RowKit
open Tr (Nd)
open Lx (aB)
open D7 (ald alV R)
attribute [local go_sem] gD stillUpon
theorem af.three{w:W_}{g:Nat}{t:TypeId}{x0 x1 x2:Value}(h:af w g t #[x0,x1,x2]):
  w.cell? (B_ g 0)=some x0/\w.cell? (B_ g 1)=some x1/\w.cell? (B_ g 2)=some x2/\g<w.heap.size:=⟨h.cell 0,h.cell 1,h.cell 2,h.lt⟩
def ao'(W0:W_)(gt bm:Nat)(X:Option D7.Table)(e:Ending)(W':W_):Prop:=
 match X with
 |some tb=>e=.returned (.tuple #[V 0,V 0])/\∃nv NY,alX W0 W' tb gt bm nv NY
 |none=>∃i er:Int,er≠0/\e=.returned (.tuple #[V i,V er])/\ag W0 W'
theorem an6(W0 W:W_)(tb:D7.Table)(gt bm:Nat)(nr:Value)(NY:Nat->Value)(h:alX W0 W tb gt bm nr NY)(s:Y_)(p:Int)(b:Y_)(hs:s.size<=140737488355328)(hb:b.size<=140737488355328)(hc:(Lx.jr b.data.toList).1.length<=8000):
  C_ 13 #[.pointer (A_ gt 0),.agg #[.string s,V p,.string b]] W (ao' W0 gt bm (D7.ame tb ⟨s.data.toList,p,b.data.toList⟩)):=by
 have ab:=I (show D7.ame tb ⟨s.data.toList,p,b.data.toList⟩=if p<0\/4<p then none else match D7.alv p.toNat tb b.data.toList with
  |.ok (ks,fits) _=>if fits=false\/ald (Np.CG ks) p.toNat=false then none
   else if(alV tb s.data.toList p.toNat (Np.CG ks)).2=0 then some (alV tb s.data.toList p.toNat (Np.CG ks)).1 else none
  |_=>none from rfl)
 have jQ:=I ((M (λ_=>False) W).alloc (.cells #[.string s,V p,.string b] 40));have aB:=I (af.new W 40 #[.string s,V p,.string b]);have yB:=I (h.QH jQ);have xI:=I hs;have aF:=yB.tab.QN.lt;have ac:=I h.g0;clear h;refine Calls.via λQ hQ=>?_
 have HQ:=I hQ;clear hQ
 by_cases c1:p<0
 .have d1:decide (p<(0:Int))=true:=dT c1
  rw[ab.out,if_pos (.inl c1)]at HQ;go_enter func13,ntmps13;go_wp2_with fail
  exact HQ _ _ ⟨0,1,by decide,rfl,yB.fr⟩
 have d1:decide (p<(0:Int))=false:=dF c1
 by_cases c2:4<p
 .have d2:decide ((4:Int)<p)=true:=dT c2
  rw[ab.out,if_pos (.inr c2)]at HQ;go_enter func13,ntmps13;go_wp2_with fail
  exact HQ _ _ ⟨0,1,by decide,rfl,yB.fr⟩
 have d2:decide ((4:Int)<p)=false:=dF c2;obtain⟨P,rfl⟩:∃P:Nat,p=(P:Int):=⟨p.toNat,by omega⟩;have HP:=I (show P<=4 by omega);rw[if_neg (by omega),show(P:Int).toNat=P from rfl]at ab;have Cj:=I (aa5 b P HP tb (A_ gt 0) _ yB.val hb hc);have HN:=I (D7.amf P tb b.data.toList);clear hb hc hs;go_enter func13,ntmps13;obtain⟨p0,p1,p2,hlt⟩:=af.three aB;go_wp2_with fail
 refine Cj.mono ?_;intro e w2 hres;clear Cj;generalize D7.alv P tb b.data.toList=X at HN ab hres;cases X with
 |out=>exact absurd rfl HN
 |err i er=>
  obtain⟨aj,rfl,hf⟩:=hres;have e0:=alr aj;have F7:=I aj;rw[ab.out]at HQ;have aT:=I (yB.fr.trans hf);clear hf aj p0 p1 p2 hlt;unfold aG yM;go_wp2_with fail
  have ap:=af.new2 w2 (.cells ZN 31) 45 #[V (i:Int),V (er:Int)];have ae:=(aT.alloc (.cells ZN 31)).alloc (.cells #[V (i:Int),V (er:Int)] 45);generalize ((w2.alloc (.cells ZN 31)).alloc (.cells #[V (i:Int),V (er:Int)] 45))=W3 at ap ae|-;have ad:=I ae;obtain⟨q0,q1,_,_,hlt⟩:=af.two ap;have r0:=cR (q0.trans rfl);have r1:=cR (q1.trans rfl);clear q0 q1 ap ae;refine cu [] [(0,true),(1,true),(2,true),(3,true),(4,true),(5,true)] Pg Ph Pg ?_;refine EN ?_
  repeat(refine Z4 ?_)
  refine sj ?_;go_wp2_with fail
  exact HQ _ _ ⟨i,er,by have:=F7.out;omega,rfl,ad.drewN 1⟩
 |ok x rest=>
  obtain⟨QS,fits⟩:=x;obtain⟨A,cp,rfl,aa,hf⟩:=hres;simp only at ab aa;have al5:=I (yB.QH hf);have aq:=I (hf.QN aB λh=>h);have anU:=I (aa.base (B':=0) JI);clear aa hf p0 p1 p2 hlt;unfold aG;obtain⟨p0,p1,p2,hlt⟩:=af.three aq;cases fits with
  |false=>
   rw[if_pos (.inl rfl)]at ab;rw[ab.out]at HQ;go_wp2_with fail
   exact HQ _ _ ⟨0,6,by decide,rfl,(al5.fr.alloc _).alloc _⟩
  |true=>
   go_wp2_with fail
   have bJ:=I (((M (λ_=>False) w2).alloc (.cells #[V 1,E_,V 0,.slice A QS.length cp] 31)).alloc (.cells #[V 0,V 0] 45));have aoW:=I (al5.QH bJ);have ai:=I (bJ.QN aq λh=>h);have ajg:=I (anU.QH bJ);have oF:=I ((af.new w2 31 #[V 1,E_,V 0,.slice A QS.length cp]).alloc (.cells #[V 0,V 0] 45));clear p0 p1 p2 hlt al5 aq anU bJ;generalize ((w2.alloc (.cells #[V 1,E_,V 0,.slice A QS.length cp] 31)).alloc (.cells #[V 0,V 0] 45))=W3 at aoW ai ajg oF|-;refine(alU (Np.CG QS) (.slice A QS.length cp) P W3 ajg.rep JI).mono ?_;rintro _ W4 ⟨rfl,hf⟩;have apF:=I (aoW.QH hf);have iB:=I (hf.QN ai λh=>h);have ajh:=I (ajg.QH hf);have Sz:=I auD;clear hf aoW ai ajg oF;obtain⟨p0,p1,p2,hlt⟩:=af.three iB;obtain⟨g0,g1,g2,g3,_,_,_,_,VL⟩:=af.QM Sz;cases ht:ald (Np.CG QS) P with
   |false=>
    rw[if_pos (.inr ht)]at ab;rw[ab.out]at HQ;go_wp2_with fail
    exact HQ _ _ ⟨0,6,by decide,rfl,apF.fr⟩
   |true=>
    rw[if_neg (by rintro(h|h);cases h;rw[ht]at h;cases h)]at ab;have HAD:=I (aoV W0 W4 tb gt bm nr NY apF s P HP (Np.CG QS) (.slice A QS.length cp) ajh JI xI);rw[ab.out]at HQ;generalize alV tb s.data.toList P (Np.CG QS)=Y at HQ HAD;obtain⟨tb2,e2⟩:=Y;go_wp2_with fail
    refine HAD.mono ?_;rintro _ W5 ⟨rfl,nv5,ap8,h5⟩;go_wp2_with fail
    by_cases he:e2=0
    .subst he
     rw[if_pos rfl]at HQ;exact HQ _ _ ⟨rfl,nv5,ap8,h5⟩
    .rw[if_neg he]at HQ
     exact HQ _ _ ⟨0,e2,by omega,rfl,h5.fr⟩
end
end Go.Proofs.YtabjglnjjdcfmaaGreatDoor
