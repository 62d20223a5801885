/- Part 17 of 41 of a proof. No condition. -/
import Derived.Laws.EntriesVeiled
import Derived.Maps.RangeWalk
import Derived.WideMake
import Derived.Test.YtabjglnjjdcfmaaGreatDoorWe16
set_option maxRecDepth 100000
set_option maxHeartbeats 4000000
namespace Go.Proofs.YtabjglnjjdcfmaaGreatDoor
open _root_.Nat renaming zero_le->au1,lt_of_lt_of_le->avc,le_refl->au3
open _root_.List renaming length_map->avh,take_add_one->avq,getElem?_map->awm,getElem?_eq_getElem->ave,take_zero->avB,length_take->avj,take_of_length_le->avv
open _root_.Go.Proofs.Tryz
section
open Go.RowKit
open U (E aJ fJ oq L9 Ff)
attribute [local go_sem] gD stillUpon
theorem Oz{W:W_}{a:aJ}{v:Value}(h:gJ W a v)(nm:List UInt8):(fJ a nm).length<=maxLen:=by
 obtain⟨_,_,_,_,h3,_⟩:=h
 have:∀a:aJ,(∀x∈a,x.1.length<=maxLen/\x.2.length<=maxLen)->(fJ a nm).length<=maxLen:=by
  intro a
  induction a with
  |nil=>intro _;exact au1 _
  |cons x a ih=>
   intro h;rw[fJ];split
   .exact(h x alH).2
   .exact ih λy hy=>h y (List.mem_cons_of_mem _ hy)
 exact this a h3
theorem UK(p k:E)(g o gk ok:Nat)(va vk ua uk:Value)(w:W_)(hp:gZ w g o p va vk)(hk:gZ w gk ok k ua uk)(hne:0<p.Qx.length)(hn:p.name∈Oy)(had:Ff p k=true):
  C_ 78 #[.pointer (A_ g o),.pointer (A_ gk ok)] w λx w'=>x=.returned (.bool true)/\ag w w':=by
 obtain⟨n,a,ks,t⟩:=p;obtain⟨m,b,ls,s⟩:=k;obtain⟨B,cb,ac⟩:=hp.2.2.2.2.2.2.1.slice;obtain⟨Bl,cl,ad⟩:=hk.2.2.2.2.2.2.1.slice;replace ac:vk=.slice B ks.length cb:=ac;replace ad:uk=.slice Bl ls.length cl:=ad;subst ac;subst ad;obtain⟨i,e,xa,xk,hA,hx⟩:=(show gK w ks _ from hp.2.2.2.2.2.2.1).yw 0 hne;subst hA
 match ks,hne,hp,hx,had with
 |x::r,_,hp,hx,had=>
  obtain⟨xn,xt,xs,xx⟩:=x;obtain⟨Bj,cj,aa⟩:=hx.2.2.2.2.2.2.1.slice;replace aa:xk=.slice Bj xs.length cj:=aa;subst aa;have a0:=hp.2.1;have a2:=hp.2.2.2.1;have b0:=hk.2.1;have b2:=hk.2.2.2.1;have c2:w.cell? (B_ i (e+2))=some (.slice Bj xs.length cj):=by have:=hx.2.2.2.1;simpa using this
  simp only[E.name]at a0 b0 hn;have aM:(0:Int)<((E.mk xn xt xs xx::r).length:Int):=atb
  have hkl':0<(E.mk xn xt xs xx::r).length:=atb
  clear hp hk hx;simp only[Oy,List.mem_cons,List.not_mem_nil,or_false]at hn
  rcases hn with rfl|rfl|rfl|rfl|rfl|rfl|rfl|rfl|rfl|rfl|rfl|rfl|rfl|rfl|rfl|rfl|rfl
  all_goals simp[Ff,U.yt,U.yu,U.CU,U.qG,U.gU,U.aj,U.bq,U.bE,U.dU,U.lq,U.fZ,U.mW,U.mX,U.gN,U.fV,U.bI,U.aV]at had a0
  all_goals
   first
    |(have h0:=of_decide_eq_true had;subst h0)
    |(obtain⟨h0,h1⟩:=had;have h0:=of_decide_eq_true h0;subst h0;rw[(by first|exact h1|exact of_decide_eq_true h1:ls.length=xs.length)]at b2)
    |(obtain⟨⟨⟨h1,h2⟩,h3⟩,h4⟩:=had;replace h1:=beq_eq_false_iff_ne.2 (of_decide_eq_false h1);replace h2:=beq_eq_false_iff_ne.2 (of_decide_eq_false h2);replace h3:=beq_eq_false_iff_ne.2 (of_decide_eq_false h3);replace h4:=beq_eq_false_iff_ne.2 (of_decide_eq_false h4))
   go_enter func78,ntmps78;go_wp2_with fail
   first
    |(go_ret;exact⟨rfl,aF⟩)
    |(refine wp_region_quiet_lit Pg Pg ?_;(repeat(with_reducible refine wpQuiet_step (λK hK=>?_);go_simp;first|(refine hK _ ?_;clear hK K)|(apply Exists.intro;refine⟨λ_=>?_,hK _ ?_⟩;(fail);clear hK K)));refine wpQuiet_nil ?_;rintro _ ⟨nq,rfl⟩;go_wp2_with fail;go_ret;exact⟨rfl,aF⟩)
abbrev Rz(c f:Nat):Value:=.func (.func 76) #[] #[.pointer (A_ c 0),.pointer (A_ f 0)]
abbrev H6:TypeId:=147
def Ma(e:E):Prop:=∀(g o c f:Nat) (z:Int) (va vk:Value) (w:W_),gZ w g o e va vk->af w c 3 #[V z]->af w f H6 #[Rz c f]->c≠f->oq e=true->
 C_ 76 #[.pointer (A_ g o),.bool true,.pointer (A_ c 0),.pointer (A_ f 0)] w λx w'=>x=.returned (.bool true)/\Touch (λb=>b=c) w w'/\∃z,af w' c 3 #[V z]
theorem XK(e:E)(ih:∀x∈e.Qx,Ma x):Ma e:=by
 intro g o c f z va vk w he hc hf aq ab;rw[U.uj,Bool.and_eq_true,U.vY,List.all_eq_true]at ab;have HOW:=I ab.1;have jJ:=I (show∀x∈e.Qx,Ff e x=true/\oq x=true from λx hx=>by have:=ab.2 x hx;rwa [Bool.and_eq_true]at this);have HN:=I (show e.name∈Oy by cases e;exact Hw ab.1);have HE:=I he;have HC:=I hc;have HF:=I hf;have q9:=I ih;have hcc:c<w.heap.size:=hc.lt;have q0:=hc.cell 0;replace q0:w.cell? (B_ c 0)=some (V z):=q0;have qf:w.frozen? (B_ c 0)=false:=hc.frozen 0;clear he hc hf ih ab;go_enter func76,ntmps76;go_wp2_with fail
 generalize wrap64 (z+1)=z1;have Mc:=I (show af (w.setCell (B_ c 0) (V z1)) c 3 #[V z1]from HC.put 0 (V z1));have ay:=I ((M (λb=>b=c) w).setCell (p:=B_ c 0) Wh (V z1));have kI:=I (HE.YU ay λb hb=>by rw[show b=c from hb];exact wS.int HC);have aK:=I (ay.QN HF λh=>aq h.symm);refine(acB e g o va vk _ kI (Oz kI.out.2.2.2.2.2.1 _) HOW).mono ?_;rintro _ w2 ⟨rfl,hf2⟩;have ao:=I (ay.trans (hf2.mono λ_ h=>h.elim));have aM:=I (kI.QH hf2);have GI:=I (hf2.QN Mc λh=>h);clear hf2 q0 qf hcc;have hl2:=HE.out.2.2.2.2.2.2.1.len;obtain⟨B,cb,ac⟩:=HE.out.2.2.2.2.2.2.1.slice;subst ac;unfold maxLen at hl2;obtain⟨hg2,_,_,h2,_,_⟩:=aM.out;go_wp2_with fail
 clear hg2 h2
 go_loopw [22] (λi wr=>∃(j:Nat) (z:Int),i=V j/\j<=e.Qx.length/\Hd (Touch (λb=>b=c) w wr)/\Hd (af wr c 3 #[V z])) (λi _=>e.Qx.length-(intOf i).toNat)
 case atStart=>exact⟨0,_,rfl,au1 _,ao,GI⟩
 case round=>
  obtain⟨j,z2,rfl,hj,HT,Rm⟩:=hrel;rename_i wr _;have ae:=I (HE.YU HT λb hb=>by rw[show b=c from hb];exact wS.int HC);have bJ:=I (HT.QN HF λh=>aq h.symm)
  by_cases c1:j<e.Qx.length
  .have d1:decide ((j:Int)<(e.Qx.length:Int))=true:=dT Zo
   have aE:(j:Int)<(e.Qx.length:Int):=Zo
   obtain⟨gk,ok,wa,wk,rfl,jW⟩:=(show gK wr e.Qx _ from ae.out.2.2.2.2.2.2.1).yw j c1;have aiQ:=I (λ(w:W_) (hp:gZ w g o e va (.slice (A_ gk ok) e.Qx.length cb)) (hk:gZ w gk (ok+j*4) e.Qx[j] wa wk)=>UK e e.Qx[j] g o gk (ok+j*4) va _ wa wk w hp hk (show 0<e.Qx.length by omega) HN (jJ _ f_).1);have aI:=I (λz=>q9 e.Qx[j] f_ gk (ok+j*4) c f z wa wk);have aj:=I (jJ _ f_).2;have AL:=I jW;clear jW;generalize e.Qx[j]=x at*;obtain⟨hg2,_,_,h2,_,_⟩:=ae.out;go_wp2_with fail
   have k2:=cR h2;have kf:=cR (bJ.cell 0);refine cu [([(0,true),(1,true),(2,true),(3,true),(4,true),(5,true),(6,true),(7,true),(8,true),(9,true),(10,true),(11,true),(12,true),(13,true),(14,false)],15)] [(16,true)] Pg Ph Pg ?_;refine dJ ?_
   repeat(refine Z4 ?_)
   refine aS rfl (λK hK=>?_);go_wp2_with fail
   refine(aiQ _ (ae.QH aF) (AL.QH aF)).mono ?_;rintro _ w5 ⟨rfl,jO⟩;have eY:=I (show ag wr w5 from qV jO);clear jO k2 kf;go_wp2
   refine hK _ _ (aA eY) ?_;clear hK K;refine dm rfl (λK hK=>?_);go_wp2_with fail
   refine(aI _ w5 (AL.QH eY) (eY.QN Rm λh=>h) (eY.QN bJ λh=>h) aq aj).mono ?_;rintro _ w6 ⟨rfl,jq,z6,aw⟩;have iC:=I ((HT.trans (eY.mono λ_ h=>h.elim)).trans jq);have gy:=I aw;clear jq aw;go_wp2_with fail
   refine EN ?_
   repeat(refine Z4 ?_)
   refine sj ?_;go_wp2
   go_roundw
   case rel=>exact⟨j+1,_,by go_num,c1,iC,gy⟩
   case measure=>simp[intOf];omega
  .have d1:decide ((j:Int)<(e.Qx.length:Int))=false:=dF Zo
   obtain rfl:j=e.Qx.length:=Zo
   go_wp2
   go_ret;exact⟨rfl,HT,_,Rm⟩
theorem XL(e:E):Ma e:=U.E.ind (p:=Ma) XK e
theorem XM(e:E)(g o:Nat)(va vk:Value)(w:W_)(he:gZ w g o e va vk)(hn:e.name=U.gU)(ab:oq e=true):
  C_ 38 #[.pointer (A_ g o)] w λx w'=>x=.returned (.tuple #[V 0,.bool false])/\ag w w':=by
 have HE:=I he;have HV:=I (λg o c f z va vk w h1 h2 h3 h4=>XL e g o c f z va vk w h1 h2 h3 h4 ab);have HD:=I (show(e.name==[109,97,116,104])=true by rw[hn];rfl);clear he hn ab;go_enter func38,ntmps38;go_wp2_with fail
 have hb1:=af.new2 w (.cells #[V (-1)] 3) H6 #[Rz w.heap.size (w.heap.size+1)];have hb0:=(af.new w 3 #[V (-1)]).alloc (.cells #[Rz w.heap.size (w.heap.size+1)] H6);have aj:=((M (λ_=>False) w).alloc (.cells #[V (-1)] 3)).alloc (.cells #[Rz w.heap.size (w.heap.size+1)] H6);generalize ((w.alloc (.cells #[V (-1)] 3)).alloc (.cells #[Rz w.heap.size (w.heap.size+1)] H6))=W2 at*;have aC:=I hb1;have aB:=I hb0;have jQ:=I aj;have aM:=I anN;obtain⟨hg2,h0,_,_,_,_⟩:=aM.out;have k0:=cR h0;have kf:=cR (hb1.cell 0);clear hb1 hb0 aj;refine cu [([(0,true),(1,true),(2,true),(3,true),(4,true),(5,true),(6,true)],7)] [] Pg Ph Pg ?_;refine dJ ?_
 repeat(refine Z4 ?_)
 refine dm rfl (λK hK=>?_);go_wp2_with fail
 rw[HD.out];have hdr:=(M (λ_=>False) W2).drewN 1;refine(HV g o w.heap.size (w.heap.size+1) _ va vk _ (aM.QH hdr) (hdr.QN aB λh=>h) (hdr.QN aC λh=>h) Zo).mono ?_;rintro _ w3 ⟨rfl,ap,z3,hb3⟩;have bJ:=I (show ag w w3 from(jQ.trans hdr).trans' ap λi hi=>.inr (by have hi:i=w.heap.size:=hi;omega));clear ap hb3 kf k0 h0;go_wp2_with fail
 refine fH ?_;go_wp2
 go_ret2;exact⟨rfl,bJ⟩
end
section
open Go.RowKit Go.Maps
theorem strKeys:Keyed Tryz.prog 9:=string_keyed underlying9
section
variable {H:Type}
def sM:List (List UInt8×Int):=[(U.lq,5),(U.mW,7),(U.mX,8),(U.gN,9)]
def RA:DataW H:=sM.foldl (λD x=>D.put (.string x.1) (.lit (.int .i64 x.2))) (.map [])
theorem af1:(RA:DataW H)=.map [(.string U.lq,.lit (.int .i64 5)),(.string U.mW,.lit (.int .i64 7)),(.string U.gN,.lit (.int .i64 9)),(.string U.mX,.lit (.int .i64 8))]:=aob
theorem aaj(x:List UInt8)(zd:DataW H):(RA:DataW H).atKey (.string x) zd=match sM.find? (·.1==x)with|some y=>.lit (.int .i64 y.2)|none=>zd:=by
 rw[af1]
 by_cases h1:U.lq=x
 .subst h1;rfl
 by_cases h2:U.mW=x
 .subst h2;rfl
 by_cases h3:U.mX=x
 .subst h3;rfl
 by_cases h4:U.gN=x
 .subst h4;rfl
 have b1:(U.lq==x)=false:=beq_eq_false_iff_ne.2 h1;have b2:(U.mW==x)=false:=beq_eq_false_iff_ne.2 h2;have b3:(U.mX==x)=false:=beq_eq_false_iff_ne.2 h3;have b4:(U.gN==x)=false:=beq_eq_false_iff_ne.2 h4;simp only[DataW.atKey,Lit.sameKey,sM,List.find?_cons,List.find?_nil,b1,b2,b3,b4]
theorem aak(x:List UInt8)(c:Int)(h:∀zd,(RA:DataW H).atKey (.string x) zd=.lit (.int .i64 c)):sM.find? (·.1==x)=some (x,c):=by
 have h1:=h (.lit (.int .i64 (c+1)));rw[aaj]at h1;cases hf:sM.find? (·.1==x)with
 |none=>
  rw[hf]at h1;simp only[DataW.lit.injEq,Lit.int.injEq,true_and]at h1;omega
 |some y=>
  rw[hf]at h1;simp only[DataW.lit.injEq,Lit.int.injEq,true_and]at h1;have h2:=List.find?_some hf;simp only[beq_iff_eq]at h2;subst h1 h2;rfl
end
section
variable {w:World}
theorem yC(x:List UInt8)(h:x.length<=maxLen):keyOf Tryz.prog 9 (S_ x)=some (.string x):=by
 have hs:(⟨x.toArray⟩:Y_).size<=maxLen:=by show x.toArray.size<=_;simpa using h
 simp[keyOf,underlying9,mapKey,hs]
theorem Ch(H:Type)(w:W_):C_ 105 #[] w λe w'=>e=.returned (.map (some w.heap.size))/\w'.ownsMap (H:=H) Tryz.prog 9 (plainElem Tryz.prog 3) w.heap.size 4 RA/\ag w w':=by
 have ap:∀W:W_,(Instr.makeMap 168 none).run Tryz.prog W=.ok (.map (some W.heap.size)) (W.alloc (.map #[] 0)):=λW=>run_makeMap_plain W 168
 have hw:∀n:Int,(Lit.int .i64 n).wf=true->plainElem (H:=H) Tryz.prog 3 (.int .i64 n)=some (.lit (.int .i64 n),[]):=λn h=>plainElem_int underlying3 h
 obtain⟨w1,r1,o1,g1⟩:=(World.ownsMap_made (H:=H) w Tryz.prog 9 (plainElem Tryz.prog 3)).update strKeys underlying168 Pf (yC U.lq Pf) (hw 5 Pf);obtain⟨w2,r2,o2,g2⟩:=o1.update strKeys underlying168 Pf (yC U.mW Pf) (hw 7 Pf);obtain⟨w3,r3,o3,g3⟩:=o2.update strKeys underlying168 Pf (yC U.mX Pf) (hw 8 Pf);obtain⟨w4,r4,o4,g4⟩:=o3.update strKeys underlying168 Pf (yC U.gN Pf) (hw 9 Pf);have hf:ag w w4:=(((((M _ w).alloc (.map #[] 0)).grown g1 aif).grown g2 aif).grown g3 aif).grown g4 aif;have HF:=I hf;have HO:=I o4;simp only[U.lq,U.mW,U.mX,U.gN]at r1 r2 r3 r4;clear o1 o2 o3 o4 g1 g2 g3 g4 hf hw;go_enter func105,ntmps105;go_wp2
 go_ret;exact⟨rfl,HO,HF⟩
end
end
section
open Go.RowKit
open Tr (Nd)
open U (E iX eU ax)
attribute [local go_sem] gD stillUpon
def oH(w w':W_)(e:E)(v:Value):Prop:=∃va vk,v=ev e va vk/\ag w w'/\dz (λk=>k<w.heap.size) w' λW=>jd W e va vk
def RB(n:Nd):Prop:=∀(sl:Value) (w:W_),Tr.count n<=100000->aD w n.Qx sl->C_ 67 #[nv n sl] w λe w'=>∃v,e=.returned v/\oH w w' (iX n) v
def aC(nm:List UInt8)(ks:List Nd):List E:=ks.map λn=>ax nm (eU n.Qx)
def ahb(ks:List Nd):Prop:=∀(nm:List UInt8) (sl:Value) (w:W_),nm.length<=maxLen->Tr.az ks<=100000->aD w ks sl->C_ 103 #[S_ nm,sl] w λe w'=>∃v,e=.returned v/\oH w w' (ax nm (aC U.aj ks)) v
theorem Df(nm:List UInt8)(l:List Nd):(aC nm l).length=l.length:=avh _
theorem XO(nm:List UInt8)(l:List Nd)(j:Nat)(h:j<l.length):(aC nm l).take j++[ax nm (eU l[j].Qx)]=(aC nm l).take (j+1):=by
 unfold aC;rw[avq,awm,ave h];rfl
def Au(n:Nd):Prop:=∀(nm:List UInt8) (sl:Value) (w:W_),nm.length<=maxLen->Tr.count n<=100000->aD w n.Qx sl->C_ 33 #[S_ nm,nv n sl] w λe w'=>∃v,e=.returned v/\oH w w' (ax nm (eU n.Qx)) v
theorem fQ.base{B:Nat}{w:W_}{es:List E}{v:Value}(h:fQ B w es v):B<=w.heap.size:=h.1
theorem VF(l:List Nd):(eU l).length=l.length:=by rw[U.zb,avh]
theorem acC(l:List Nd)(j:Nat)(h:j<l.length):(eU l).take j++[iX l[j]]=(eU l).take (j+1):=by
 rw[U.zb,avq,awm,ave h];rfl
theorem OA(n:Nd)(ih:∀x∈n.Qx,RB x):Au n:=by
 intro nm sl w aI hc ab;have aa:Tr.az n.Qx<=100000:=by have:=Tr.aN n;omega
 obtain⟨A,cap,rfl⟩:=ab.slice;have yD:=I ab;have q9:=I ih;have uf:=I aI;have aM:=Tr.jF n.Qx;clear hc;generalize ar:n.Qx=ks at*;have Em:=I ar;clear ab ih aI ar;go_enter func33,ntmps33;go_wp2_with fail
 refine bK (λW=>ag w W/\W.heap.size=w.heap.size+3/\af W (w.heap.size+1) 62 Z/\af W (w.heap.size+1+1) 62 #[S_ nm,N_,N_,E_]) ⟨(((M _ _).alloc _).alloc _).alloc _,by simp,(af.new2 w _ 62 _).alloc _,af.Jc _ _ _ _ _⟩ ?_;rintro W1 ⟨ae,hs1,yx,Ci⟩;have aK:=I ae;have mP:=I yx;have KA:=I Ci;have yc:=I hs1;have Da:=I (show fQ (w.heap.size+3) W1 ((eU ks).take 0) (N_) by rw[avB];exact fQ.nil Zo);clear ae yx Ci hs1
 go_loopw [13] (λi wr=>∃(j:Nat) (Ae:Option Addr) (ce:Nat),i=V j/\j<=ks.length/\Hd (af wr (w.heap.size+1) 62 Z)/\Hd (af wr (w.heap.size+1+1) 62 #[S_ nm,N_,.slice Ae j ce,E_])/\Hd (fQ (w.heap.size+3) wr ((eU ks).take j) (.slice Ae j ce))/\Hd (ag w wr)) (λi _=>ks.length-(intOf i).toNat)
 case atStart=>exact⟨0,none,0,rfl,au1 _,mP,KA,Da,aK⟩
 case round=>
  obtain⟨j,Ae,ce,rfl,hj,ow,oI,HG,HF⟩:=hrel;rename_i wr _
  by_cases c1:j<ks.length
  .have d1:decide ((j:Int)<(ks.length:Int))=true:=dT Zo
   have jo:decide (j<ks.length)=true:=dT c1;have aE:(j:Int)<(ks.length:Int):=Zo
   obtain⟨g,o,sx,hA,hg,m0,m1,m2,m3,al⟩:=yD.get j c1;cases hA;obtain⟨Ax,cx,rfl⟩:=al.slice;have e0:=HF.cell m0 PR;have e1:=HF.cell m1 PR;have e2:=HF.cell m2 PR;have e3:=HF.cell m3 PR;have aF:g<wr.heap.size:=avc hg HF.size;have aw:=I (al.QH HF);have wZ:=I f_;have lg:=I (show((eU ks).take j).length=j by rw[avj,VF];omega);clear m0 m1 m2 m3 hg al;go_wp2_with fail
   have k0:=cR ((oI.alloc (.cells #[V ks[j].QI,S_ ks[j].QG,V ks[j].ah,.slice Ax ks[j].Qx.length cx] 31)).cell 2|>.trans rfl);have j0:=cR aqB;have j1:=cR aqC;have j2:=cR aqD;have j3:=cR aqE;have xG:=I (HG.QH ((M _ wr).alloc (.cells #[V ks[j].QI,S_ ks[j].QG,V ks[j].ah,.slice Ax ks[j].Qx.length cx] 31)));have DJ:=I (oI.alloc (.cells #[V ks[j].QI,S_ ks[j].QG,V ks[j].ah,.slice Ax ks[j].Qx.length cx] 31));have DK:=I (ow.alloc (.cells #[V ks[j].QI,S_ ks[j].QG,V ks[j].ah,.slice Ax ks[j].Qx.length cx] 31));have eY:=I (HF.alloc (.cells #[V ks[j].QI,S_ ks[j].QG,V ks[j].ah,.slice Ax ks[j].Qx.length cx] 31));have Na:=I (aw.QH ((M _ wr).alloc (.cells #[V ks[j].QI,S_ ks[j].QG,V ks[j].ah,.slice Ax ks[j].Qx.length cx] 31)));generalize (wr.alloc (.cells #[V ks[j].QI,S_ ks[j].QG,V ks[j].ah,.slice Ax ks[j].Qx.length cx] 31))=W5 at k0 j0 j1 j2 j3 xG DJ DK eY Na|-;obtain⟨bx,ap⟩:∃b,b=wr.heap.size:=⟨_,rfl⟩;rw[<-ap]at j0 j1 j2 j3|-;clear e0 e1 e2 e3 aF ap;refine cu [([(0,true),(1,true),(2,true),(3,false),(4,false)],5),([(6,true)],7)] [] Pg Ph Pg ?_;refine dJ ?_
   repeat(refine Z4 ?_)
   clear k0 j0 j1 j2 j3;refine aS rfl (λK hK=>?_);go_wp2_with fail
   refine(q9 ks[j] wZ _ _ (by have:=Tr.cB wZ;omega) (Na.QH ((M _ _).drewN 1))).mono ?_;rintro _ w6 ⟨v6,rfl,va,vk,rfl,dK,dZ⟩;have fI:=I (show ag W5 w6 from((M _ W5).drewN 1).trans dK);have nV:=I (show dz (λk=>k<W5.heap.size) w6 λW=>jd W (iX ks[j]) va vk from dZ);obtain⟨Aa,ca,rfl⟩:=dZ.now.1.slice;obtain⟨Ak,ck,rfl⟩:=dZ.now.2.1.slice;clear dK dZ;go_wp2
   refine hK _ _ (aA fI) ?_;clear hK K;refine aS rfl (λK hK=>?_);go_wp2
   refine hK _ _ an' ?_;clear hK K;have kW:=I (af.new w6 62 #[.string ⟨(iX ks[j]).name.toArray⟩,.slice Aa (iX ks[j]).Zn.length ca,.slice Ak (iX ks[j]).Qx.length ck,.string ⟨(iX ks[j]).QG.toArray⟩]);have gW:=I (fI.alloc (.cells #[.string ⟨(iX ks[j]).name.toArray⟩,.slice Aa (iX ks[j]).Zn.length ca,.slice Ak (iX ks[j]).Qx.length ck,.string ⟨(iX ks[j]).QG.toArray⟩] 62));have tq:=I (nV.QH ((M _ w6).alloc (.cells #[.string ⟨(iX ks[j]).name.toArray⟩,.slice Aa (iX ks[j]).Zn.length ca,.slice Ak (iX ks[j]).Qx.length ck,.string ⟨(iX ks[j]).QG.toArray⟩] 62)));generalize (w6.alloc (.cells #[.string ⟨(iX ks[j]).name.toArray⟩,.slice Aa (iX ks[j]).Zn.length ca,.slice Ak (iX ks[j]).Qx.length ck,.string ⟨(iX ks[j]).QG.toArray⟩] 62))=w7 at kW gW tq|-;have Ej:=I (xG.QH gW);have HOW:=I xG.pY;have tu:=I (gW.QN DJ λh=>h);have qc:=I (gW.QN DK λh=>h);have eO:=I xG.base;refine dm rfl (λK hK=>?_)
   go_wp2_with (at_builtin;go_loud (refine zY rfl (.tmp 18) (.tmp 21) rfl Ej lg WH (iX ks[j]) kW WH W5.heap.size eO (λk hk=>(HOW k hk).2) tq Zo ?_);intro A8 c8 w8 jI bR _;refine jw.mk ?_)
   have wI:=I jI;have tC:=I arw;have wE:=I arx;have mZ:=I atA;clear jI bR;obtain⟨q0,q1,q2,q3,z0,z1,z2,z3,hlt⟩:=af.QM tC;refine jw.go ?_;go_wp2_with fail
   refine dJ ?_
   repeat(refine Z4 ?_)
   refine dm rfl (λK hK=>?_);go_wp2_with fail
   refine fH ?_;go_wp2_with fail
   have jA:=wI.mv ((M (λk=>k=(w.heap.size+1+1)) w8).setCell (p:=B_ (w.heap.size+1+1) 2) Wh (.slice A8 (j+1) c8)) aeO;rw[acC ks j c1]at jA;exact⟨⟨j+1,A8,c8,by simp,by omega,wE.far (p:=B_ (w.heap.size+1+1) 2) P9 _,tC.put 2 _,jA,mZ.setCell (p:=B_ (w.heap.size+1+1) 2) (.inr auv) _⟩,by simp[intOf];omega⟩
  .have d1:decide ((j:Int)<(ks.length:Int))=false:=dF Zo
   have jo:decide (j<ks.length)=false:=dF c1;obtain rfl:j=ks.length:=Zo
   obtain⟨q0,q1,q2,q3,_,_,_,_,hlt⟩:=af.QM oI;obtain⟨p0,p1,p2,p3,y0,y1,y2,y3,av⟩:=af.QM ow;have jA:=HG.mv ((M (λk=>k=(w.heap.size+1)) wr).aO Wh (S_ nm) (N_) (.slice Ae ks.length ce) (E_)) aeO;rw[avv (by rw[VF];exact au3 _)]at jA;have qL:=I jA;obtain⟨r0,r1,r2,r3,_,_,_,_,_⟩:=af.QM (ow.gH (S_ nm) (N_) (.slice Ae ks.length ce) (E_));simp only[aO]at r0 r1 r2 r3;clear jA;go_wp2
   refine bodyPost_ret (v:=.agg #[S_ nm,N_,.slice Ae ks.length ce,E_]) (by simp[results,results33,go_sem,r0,r1,r2,r3]) rfl ?_;exact agJ
theorem yE(fC:List Nd)(ih:∀x∈fC,Au x):ahb fC:=by
 intro nm sl w aI aa ab;obtain⟨A,cap,rfl⟩:=ab.slice;have yD:=I ab;have q9:=I ih;have uf:=I aI;have aM:=Tr.jF fC;generalize ar:fC=ks at*;have Em:=I ar;clear ab ih aI ar;go_enter func103,ntmps103;go_wp2_with fail
 refine bK (λW=>ag w W/\W.heap.size=w.heap.size+2/\af W w.heap.size 62 Z/\af W (w.heap.size+1) 62 #[S_ nm,N_,N_,E_]) ⟨((M _ _).alloc _).alloc _,by simp,(af.new w 62 _).alloc _,af.new2 w _ 62 _⟩ ?_;rintro W1 ⟨ae,hs1,yx,Ci⟩;have aK:=I ae;have mP:=I yx;have KA:=I Ci;have yc:=I hs1;have Da:=I (show fQ (w.heap.size+2) W1 ((aC U.aj ks).take 0) (N_) by rw[avB];exact fQ.nil Zo);clear ae yx Ci hs1
 go_loopw [12] (λi wr=>∃(j:Nat) (Ae:Option Addr) (ce:Nat),i=V j/\j<=ks.length/\Hd (af wr w.heap.size 62 Z)/\Hd (af wr (w.heap.size+1) 62 #[S_ nm,N_,.slice Ae j ce,E_])/\Hd (fQ (w.heap.size+2) wr ((aC U.aj ks).take j) (.slice Ae j ce))/\Hd (ag w wr)) (λi _=>ks.length-(intOf i).toNat)
 case atStart=>exact⟨0,none,0,rfl,au1 _,mP,KA,Da,aK⟩
 case round=>
  obtain⟨j,Ae,ce,rfl,hj,ow,oI,HG,HF⟩:=hrel;rename_i wr _
  by_cases c1:j<ks.length
  .have d1:decide ((j:Int)<(ks.length:Int))=true:=dT Zo
   have jo:decide (j<ks.length)=true:=dT c1;have aE:(j:Int)<(ks.length:Int):=Zo
   obtain⟨g,o,sx,hA,hg,m0,m1,m2,m3,al⟩:=yD.get j c1;cases hA;obtain⟨Ax,cx,rfl⟩:=al.slice;have e0:=HF.cell m0 PR;have e1:=HF.cell m1 PR;have e2:=HF.cell m2 PR;have e3:=HF.cell m3 PR;have aF:g<wr.heap.size:=avc hg HF.size;have aw:=I (al.QH HF);have wZ:=I f_;have lg:=I (show((aC U.aj ks).take j).length=j by rw[avj,Df];omega);clear m0 m1 m2 m3 hg al;go_wp2_with fail
   have k0:=cR ((oI.alloc (.cells #[V ks[j].QI,S_ ks[j].QG,V ks[j].ah,.slice Ax ks[j].Qx.length cx] 31)).cell 2|>.trans rfl);have j0:=cR aqB;have j1:=cR aqC;have j2:=cR aqD;have j3:=cR aqE;have xG:=I (HG.QH ((M _ wr).alloc (.cells #[V ks[j].QI,S_ ks[j].QG,V ks[j].ah,.slice Ax ks[j].Qx.length cx] 31)));have DJ:=I (oI.alloc (.cells #[V ks[j].QI,S_ ks[j].QG,V ks[j].ah,.slice Ax ks[j].Qx.length cx] 31));have DK:=I (ow.alloc (.cells #[V ks[j].QI,S_ ks[j].QG,V ks[j].ah,.slice Ax ks[j].Qx.length cx] 31));have eY:=I (HF.alloc (.cells #[V ks[j].QI,S_ ks[j].QG,V ks[j].ah,.slice Ax ks[j].Qx.length cx] 31));have Na:=I (aw.QH ((M _ wr).alloc (.cells #[V ks[j].QI,S_ ks[j].QG,V ks[j].ah,.slice Ax ks[j].Qx.length cx] 31)));generalize (wr.alloc (.cells #[V ks[j].QI,S_ ks[j].QG,V ks[j].ah,.slice Ax ks[j].Qx.length cx] 31))=W5 at k0 j0 j1 j2 j3 xG DJ DK eY Na|-;obtain⟨bx,ap⟩:∃b,b=wr.heap.size:=⟨_,rfl⟩;rw[<-ap]at j0 j1 j2 j3|-;clear e0 e1 e2 e3 aF ap;refine cu [([(0,true),(1,true),(2,true),(3,false),(4,false)],5),([(6,true)],7)] [] Pg Ph Pg ?_;refine dJ ?_
   repeat(refine Z4 ?_)
   clear k0 j0 j1 j2 j3;refine aS rfl (λK hK=>?_);go_wp2_with fail
   refine(q9 ks[j] wZ U.aj _ _ Pf (by have:=Tr.cB wZ;omega) (Na.QH ((M _ _).drewN 1))).mono ?_;rintro _ w6 ⟨v6,rfl,va,vk,rfl,dK,dZ⟩;have fI:=I (show ag W5 w6 from((M _ W5).drewN 1).trans dK);have nV:=I (show dz (λk=>k<W5.heap.size) w6 λW=>jd W (ax U.aj (eU ks[j].Qx)) va vk from dZ);obtain⟨Aa,ca,rfl⟩:=dZ.now.1.slice;obtain⟨Ak,ck,rfl⟩:=dZ.now.2.1.slice;clear dK dZ;go_wp2
   refine hK _ _ (aA fI) ?_;clear hK K;refine aS rfl (λK hK=>?_);go_wp2
   refine hK _ _ an' ?_;clear hK K;have kW:=I (af.new w6 62 #[.string ⟨(ax U.aj (eU ks[j].Qx)).name.toArray⟩,.slice Aa (ax U.aj (eU ks[j].Qx)).Zn.length ca,.slice Ak (ax U.aj (eU ks[j].Qx)).Qx.length ck,.string ⟨(ax U.aj (eU ks[j].Qx)).QG.toArray⟩]);have gW:=I (fI.alloc (.cells #[.string ⟨(ax U.aj (eU ks[j].Qx)).name.toArray⟩,.slice Aa (ax U.aj (eU ks[j].Qx)).Zn.length ca,.slice Ak (ax U.aj (eU ks[j].Qx)).Qx.length ck,.string ⟨(ax U.aj (eU ks[j].Qx)).QG.toArray⟩] 62));have tq:=I (nV.QH ((M _ w6).alloc (.cells #[.string ⟨(ax U.aj (eU ks[j].Qx)).name.toArray⟩,.slice Aa (ax U.aj (eU ks[j].Qx)).Zn.length ca,.slice Ak (ax U.aj (eU ks[j].Qx)).Qx.length ck,.string ⟨(ax U.aj (eU ks[j].Qx)).QG.toArray⟩] 62)));generalize (w6.alloc (.cells #[.string ⟨(ax U.aj (eU ks[j].Qx)).name.toArray⟩,.slice Aa (ax U.aj (eU ks[j].Qx)).Zn.length ca,.slice Ak (ax U.aj (eU ks[j].Qx)).Qx.length ck,.string ⟨(ax U.aj (eU ks[j].Qx)).QG.toArray⟩] 62))=w7 at kW gW tq|-;have Ej:=I (xG.QH gW);have HOW:=I xG.pY;have tu:=I (gW.QN DJ λh=>h);have qc:=I (gW.QN DK λh=>h);have eO:=I xG.base;refine dm rfl (λK hK=>?_)
   go_wp2_with (at_builtin;go_loud (refine zY rfl (.tmp 17) (.tmp 20) rfl Ej lg WH (ax U.aj (eU ks[j].Qx)) kW WH W5.heap.size eO (λk hk=>(HOW k hk).2) tq Zo ?_);intro A8 c8 w8 jI bR _;refine jw.mk ?_)
   have wI:=I jI;have tC:=I arw;have wE:=I arx;have mZ:=I atA;clear jI bR;obtain⟨q0,q1,q2,q3,z0,z1,z2,z3,hlt⟩:=af.QM tC;refine jw.go ?_;go_wp2_with fail
   refine dJ ?_
   repeat(refine Z4 ?_)
   refine dm rfl (λK hK=>?_);go_wp2_with fail
   refine fH ?_;go_wp2_with fail
   have jA:=wI.mv ((M (λk=>k=(w.heap.size+1)) w8).setCell (p:=B_ (w.heap.size+1) 2) Wh (.slice A8 (j+1) c8)) aeO;rw[XO U.aj ks j c1]at jA;exact⟨⟨j+1,A8,c8,by simp,by omega,wE.far (p:=B_ (w.heap.size+1) 2) P9 _,tC.put 2 _,jA,mZ.setCell (p:=B_ (w.heap.size+1) 2) (.inr (by show w.heap.size<=(w.heap.size+1);omega)) _⟩,by simp[intOf];omega⟩
  .have d1:decide ((j:Int)<(ks.length:Int))=false:=dF Zo
   have jo:decide (j<ks.length)=false:=dF c1;obtain rfl:j=ks.length:=Zo
   obtain⟨q0,q1,q2,q3,_,_,_,_,hlt⟩:=af.QM oI;obtain⟨p0,p1,p2,p3,y0,y1,y2,y3,av⟩:=af.QM ow;have jA:=HG.mv ((M (λk=>k=w.heap.size) wr).aO Wh (S_ nm) (N_) (.slice Ae ks.length ce) (E_)) aeO;rw[avv (by rw[Df];exact au3 _)]at jA;have qL:=I jA;obtain⟨r0,r1,r2,r3,_,_,_,_,_⟩:=af.QM (ow.gH (S_ nm) (N_) (.slice Ae ks.length ce) (E_));simp only[aO]at r0 r1 r2 r3;clear jA;go_wp2
   refine bodyPost_ret (v:=.agg #[S_ nm,N_,.slice Ae ks.length ce,E_]) (by simp[results,results103,go_sem,r0,r1,r2,r3]) rfl ?_;exact agJ
end
section
open Go.RowKit
open Tr (Nd)
open U (E aJ dX bN eG)
attribute [local go_sem] gD stillUpon
def nY:List (List UInt8):=[U.yt,U.yu,U.CU,U.qG,U.lq,U.fV,U.fZ,U.mW,U.mX,U.gN,U.bI,U.aV,U.bE]
def aal(e:E):Prop:=∀(g o:Nat) (va vk:Value) (w:W_),gZ w g o e va vk->U.oq e=true->e.name∈nY->U.count e<=100000->C_ 79 #[.pointer (A_ g o)] w λx w'=>∃v,x=.returned v/\nW w w' (dX e) v
def oz(e:E):Prop:=∀(g o:Nat) (va vk:Value) (w:W_),gZ w g o e va vk->(∀x∈e.Qx,U.oq x=true/\x.name∈nY)->U.count e<=100000->C_ 39 #[.pointer (A_ g o)] w λx w'=>∃v,x=.returned v/\nW w w' (eG e) v
theorem Md(l:List E):(bN l).length=l.length:=by rw[U.Fg,avh]
theorem UL(l:List E)(j:Nat)(h:j<l.length):(bN l).take j++[dX l[j]]=(bN l).take (j+1):=by
 rw[U.Fg,avq,awm,ave h];rfl
theorem XP(e:E)(ih:∀x∈e.Qx,aal x):oz e:=by
 intro g0 o0 va vk w he ab ar;obtain⟨B,cb,ac⟩:=he.2.2.2.2.2.2.1.slice;have HE:=I he;have q9:=I ih;have jJ:=I ab;have aa:=U.jF e.Qx;have au:=U.aN e;have hl2:e.Qx.length<=100000:=Zo
 have aw:=I ar;obtain⟨hg0,_,_,h2,_,_⟩:=he;subst ac;clear ih ab aa au ar;have HRN:=I (show eG e=.mk 1 [] 0 (bN e.Qx)from rfl);go_enter func39,ntmps39;go_wp2_with fail
 refine bK (λW=>ag w W/\W.heap.size=w.heap.size+2/\af W w.heap.size 31 ZN/\af W (w.heap.size+1) 31 #[V 1,E_,V 0,N_]) ⟨((M _ _).alloc _).alloc _,by simp,(af.new w 31 _).alloc _,af.new2 w _ 31 _⟩ ?_;rintro W1 ⟨ae,hs1,yx,Ci⟩;have aK:=I ae;have mP:=I yx;have KA:=I Ci;have yc:=I hs1;have Da:=I (show ja (w.heap.size+2) W1 ((bN e.Qx).take 0) (N_) by rw[avB];exact ja.nil Zo);clear ae yx Ci hs1 hg0 h2
 go_loopw [11] (λi wr=>∃(j:Nat) (Ae:Option Addr) (ce:Nat),i=V j/\j<=e.Qx.length/\Hd (af wr w.heap.size 31 ZN)/\Hd (af wr (w.heap.size+1) 31 #[V 1,E_,V 0,.slice Ae j ce])/\Hd (ja (w.heap.size+2) wr ((bN e.Qx).take j) (.slice Ae j ce))/\Hd (ag w wr)) (λi _=>e.Qx.length-(intOf i).toNat)
 case atStart=>exact⟨0,none,0,rfl,au1 _,mP,KA,Da,aK⟩
 case round=>
  obtain⟨j,Ae,ce,rfl,hj,ow,oI,HG,HF⟩:=hrel;rename_i wr _
  by_cases c1:j<e.Qx.length
  .have d1:decide ((j:Int)<(e.Qx.length:Int))=true:=dT Zo
   have jo:decide (j<e.Qx.length)=true:=dT c1;have aE:(j:Int)<(e.Qx.length:Int):=Zo
   have RD:=I (HE.QH HF);obtain⟨g,o,xa,xk,rfl,jW⟩:=(show gK wr e.Qx _ from RD.out.2.2.2.2.2.2.1).yw j c1;have AL:=I jW;have wZ:=I f_;have lg:=I (show((bN e.Qx).take j).length=j by rw[avj,Md];omega);have nK:=I (UL e.Qx j c1);have al:=I (jJ _ wZ);have HC:=I (q9 _ wZ);have Me:=I (show U.count e.Qx[j]<=100000 by have:=U.cB wZ;have:=U.aN e;have:=aw.out;omega);obtain⟨hgr,_,_,h2,_,_⟩:=RD.out;obtain⟨q0,q1,q2,q3,_,_,_,_,hlt⟩:=af.QM oI;clear jW wZ;generalize e.Qx[j]=x at*;go_wp2_with fail
   have k0:=cR h2;have k3:=cR q3;clear h2 q0 q1 q2 q3;refine cu [([(0,true),(1,true),(2,true),(3,true),(4,true),(5,true),(6,true),(7,true),(8,false),(9,false)],10),([(11,true)],12)] [] Pg Ph Pg ?_;refine dJ ?_
   repeat(refine Z4 ?_)
   clear k0 k3;refine aS rfl (λK hK=>?_);go_wp2_with fail
   refine(HC g (o+j*4) xa xk _ (AL.QH ((M _ _).drewN 1)) al.out.1 al.out.2 Me).mono ?_;rintro _ w6 ⟨v6,rfl,sl,rfl,dK,H7,dZ⟩;have fI:=I aq3;have nV:=I (show dz (λk=>k<wr.heap.size) w6 λW=>aD W (dX x).Qx sl from dZ);have RF:=I H7;obtain⟨Ak,ck,rfl⟩:=dZ.now.slice;clear dK dZ H7;go_wp2
   refine hK _ _ (aA fI) ?_;clear hK K;refine aS rfl (λK hK=>?_);go_wp2
   refine hK _ _ an' ?_;clear hK K;have kW:=I (af.new w6 31 #[V (dX x).QI,.string ⟨(dX x).QG.toArray⟩,V (dX x).ah,.slice Ak (dX x).Qx.length ck]);have gW:=I (fI.alloc (.cells #[V (dX x).QI,.string ⟨(dX x).QG.toArray⟩,V (dX x).ah,.slice Ak (dX x).Qx.length ck] 31));have tq:=I (nV.QH ((M _ w6).alloc (.cells #[V (dX x).QI,.string ⟨(dX x).QG.toArray⟩,V (dX x).ah,.slice Ak (dX x).Qx.length ck] 31)));generalize (w6.alloc (.cells #[V (dX x).QI,.string ⟨(dX x).QG.toArray⟩,V (dX x).ah,.slice Ak (dX x).Qx.length ck] 31))=w7 at kW gW tq|-;have Ej:=I (HG.QH gW);have HOW:=I HG.pY;have tu:=I (gW.QN oI λh=>h);have qc:=I (gW.QN ow λh=>h);have eO:=I HG.out.1;refine dm rfl (λK hK=>?_)
   go_wp2_with (at_builtin;go_loud (refine qM rfl (.tmp 15) (.tmp 23) rfl Ej lg WH (dX x) kW WH wr.heap.size eO (λk hk=>(HOW k hk).2) RF tq Zo ?_);intro A8 c8 w8 jI bR _;refine jw.mk ?_)
   have wI:=I jI;have tC:=I arw;have wE:=I arx;have mZ:=I (show ag w w8 from(HF.trans gW).trans' bR λk hk=>.inr aey);clear jI bR;obtain⟨q0,q1,q2,q3,z0,z1,z2,z3,Rn⟩:=af.QM tC;refine jw.go ?_;go_wp2_with fail
   refine dJ ?_
   repeat(refine Z4 ?_)
   refine dm rfl (λK hK=>?_);go_wp2_with fail
   refine fH ?_;go_wp2_with fail
   have jA:=wI.mv ((M (λk=>k=w.heap.size+1) w8).setCell (p:=B_ (w.heap.size+1) 3) Wh (.slice A8 (j+1) c8)) aeO;rw[nK.out]at jA;exact⟨⟨j+1,A8,c8,by simp,by omega,wE.far (p:=B_ (w.heap.size+1) 3) P9 _,tC.put 3 _,jA,mZ.setCell (p:=B_ (w.heap.size+1) 3) Vi _⟩,by simp[intOf];omega⟩
  .have d1:decide ((j:Int)<(e.Qx.length:Int))=false:=dF Zo
   have jo:decide (j<e.Qx.length)=false:=dF c1;obtain rfl:j=e.Qx.length:=Zo
   obtain⟨q0,q1,q2,q3,_,_,_,_,hlt⟩:=af.QM oI;obtain⟨p0,p1,p2,p3,y0,y1,y2,y3,av⟩:=af.QM ow;have jA:=HG.mv ((M (λk=>k=w.heap.size) wr).aO Wh (V 1) (E_) (V 0) (.slice Ae e.Qx.length ce)) aeO;rw[avv (by rw[Md];exact au3 _)]at jA;have qL:=I jA;obtain⟨r0,r1,r2,r3,_,_,_,_,_⟩:=af.QM (ow.gH (V 1) (E_) (V 0) (.slice Ae e.Qx.length ce));simp only[aO]at r0 r1 r2 r3;have xJ:=I (Touch.aO HF ET (V 1) (E_) (V 0) (.slice Ae e.Qx.length ce));clear jA hl2;go_wp2
   refine bodyPost_ret (v:=.agg #[V 1,E_,V 0,.slice Ae e.Qx.length ce]) (by simp[results,results39,go_sem,r0,r1,r2,r3]) rfl ?_;refine⟨_,rfl,.slice Ae e.Qx.length ce,rfl,xJ,au1 _,?_⟩;exact(qL.done.mono λi _ hi=>by omega)
end
end Go.Proofs.YtabjglnjjdcfmaaGreatDoor
