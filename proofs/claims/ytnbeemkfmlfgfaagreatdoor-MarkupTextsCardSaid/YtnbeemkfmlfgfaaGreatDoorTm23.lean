/- Part 23 of 48 of a proof. No condition. -/
import Derived.Laws.EntriesVeiled
import Derived.Maps.RangeWalk
import Derived.WideMake
import Derived.Test.YtnbeemkfmlfgfaaGreatDoorTm22
set_option maxRecDepth 100000
set_option maxHeartbeats 2000000
namespace Go.Proofs.YtnbeemkfmlfgfaaGreatDoor
section
open Go.RowKit
open U (E aA aW vis gN)
attribute [local go_sem] jg stillUpon
theorem Lb{W:World}{a:aA}{v:Value}(h:dW W a v)(nm:List UInt8):(aW a nm).length≤maxLen:=by
 obtain⟨_,_,_,_,h3,_⟩:=h
 have:∀a:aA,(∀x∈a,x.1.length≤maxLen∧x.2.length≤maxLen)→(aW a nm).length≤maxLen:=by
  intro a
  induction a with
  |nil=>intro _;exact Nat.zero_le _
  |cons x a ih=>
   intro h;rw[aW];split
   ·exact(h x (List.mem_cons_self ..)).2
   ·exact ih fun y hy=>h y (List.mem_cons_of_mem _ hy)
 exact this a h3
theorem Wu(p k:E)(g o gk ok:Nat)(va vk ua uk:Value)(w:World)(hp:fC w g o p va vk)(hk:fC w gk ok k ua uk)(hne:0<p.kids.length):
  Calls Tryz.prog 74 #[.pointer (some ⟨g,o,none⟩),.pointer (some ⟨gk,ok,none⟩)] w fun x w'=>x=.returned (.bool (U.kD p k))∧ag w w':=by
 obtain⟨n,a,ks,t⟩:=p;obtain⟨m,b,ls,s⟩:=k;obtain⟨B,cb,hvb⟩:=hp.2.2.2.2.2.2.1.slice;obtain⟨Bl,cl,hvl⟩:=hk.2.2.2.2.2.2.1.slice;replace hvb:vk=.slice B ks.length cb:=hvb;replace hvl:uk=.slice Bl ls.length cl:=hvl;subst hvb;subst hvl;obtain⟨i,e,xa,xk,hA,hx⟩:=(show dL w ks _ from hp.2.2.2.2.2.2.1).ru 0 hne;subst hA
 match ks,hne,hp,hx with
 |x::r,_,hp,hx=>
  obtain⟨xn,xt,xs,xx⟩:=x;obtain⟨Bj,cj,hvj⟩:=hx.2.2.2.2.2.2.1.slice;replace hvj:xk=.slice Bj xs.length cj:=hvj;subst hvj;exact TB n m a b _ ls xs t s xn xt xx r rfl g o gk ok i e cb cl cj Bl Bj w hp.2.1 hp.2.2.2.1 hk.2.1 hk.2.2.2.1 (by have:=hx.2.2.2.1;simpa using this)
def adK(nL:Bool)(k c:Nat)(e:E)(w:World)(x:Ending)(w':World):Prop:=x=.returned (.bool (vis nL k e).1)∧Touch (fun b=>b=c) w w'∧O w' c 3 #[.int .i64 (((vis nL k e).2:Int)-1)]
abbrev Oo(c f:Nat):Value:=.func (.func 72) #[] #[.pointer (some ⟨c,0,none⟩),.pointer (some ⟨f,0,none⟩)]
abbrev EF:TypeId:=136
def Jd(e:E):Prop:=∀(nL:Bool) (g o c f k:Nat) (va vk:Value) (w:World),fC w g o e va vk→O w c 3 #[.int .i64 ((k:Int)-1)]→O w f EF #[Oo c f]→c≠f→k+U.count e≤100000→
 Calls Tryz.prog 72 #[.pointer (some ⟨g,o,none⟩),.bool nL,.pointer (some ⟨c,0,none⟩),.pointer (some ⟨f,0,none⟩)] w (adK nL k c e w)
theorem Wv(p:E)(l:List E):∀(k j:Nat) (h:j<l.length),(gN p k (l.take j)).1=true→gN p k (l.take (j+1))=vis (U.kD p l[j]) (gN p k (l.take j)).2 l[j]:=by
 induction l with
 |nil=>intro k j h;simp at h
 |cons x l ih=>
  intro k j h hv;cases j with
  |zero=>
   simp only[List.take_zero,List.take_succ_cons,List.getElem_cons_zero,U.gN]
   rcases hx:vis (U.kD p x) k x with⟨b,k'⟩
   cases b<;>rfl
  |succ j=>
   simp only[List.take_succ_cons,List.getElem_cons_succ,U.gN]at hv⊢
   rcases hx:vis (U.kD p x) k x with⟨b,k'⟩
   rw[hx]at hv;cases b with
   |false=>cases hv
   |true=>exact ih k' j (by simpa using h) hv
theorem Ww(p:E)(l:List E):∀(k j:Nat),(gN p k (l.take j)).1=false→gN p k l=gN p k (l.take j):=by
 induction l with
 |nil=>intro k j h;simp
 |cons x l ih=>
  intro k j h;cases j with
  |zero=>simp[U.gN]at h
  |succ j=>
   simp only[List.take_succ_cons,U.gN]at h⊢
   rcases hx:vis (U.kD p x) k x with⟨b,k'⟩
   rw[hx]at h;cases b with
   |false=>rfl
   |true=>exact ih k' j h
theorem acf(p:E)(l:List E)(k:Nat):(gN p k l).2≤k+U.aj l:=by
 induction l generalizing k with
 |nil=>rw[U.gN,U.aj];exact Nat.le_refl _
 |cons x l ih=>
  have hx:=U.EA x (U.kD p x) k;rw[U.gN,U.aj]
  rcases hv:vis (U.kD p x) k x with⟨b,k'⟩
  rw[hv]at hx;replace hx:k<k'∧k'≤k+U.count x:=hx;cases b with
  |true=>have:=ih k';show(gN p k' l).2≤_;omega
  |false=>show k'≤_;omega
theorem TC(e:E)(ih:∀x∈e.kids,Jd x):Jd e:=by
 intro nL g o c f k va vk w he hc hf hcf hcount;have HV:=I (U.zJ nL k e);have HE:=I he;have HC:=I hc;have HF:=I hf;have jw:=I ih;have hcl:k+1+U.aj e.kids≤100000:=by rw[U.aI]at hcount;omega
 have hcc:c<w.heap.size:=hc.lt;have q0:=hc.cell 0;replace q0:w.cell? ⟨c,0,none⟩=some (.int .i64 ((k:Int)-1)):=q0;have qf:w.frozen? ⟨c,0,none⟩=false:=hc.frozen 0;have hkb:(k:Int)≤100000:=by omega
 have Gj:=I (show O (w.setCell ⟨c,0,none⟩ (.int .i64 (k:Int))) c 3 #[.int .i64 (k:Int)]from HC.J.put 0 (.int .i64 (k:Int)));have HT1:=I ((M (fun b=>b=c) w).setCell (p:=⟨c,0,none⟩) (.inl rfl) (.int .i64 (k:Int)));have j6:=I (HE.J.turn HT1.J fun b hb=>by rw[show b=c from hb];exact uS.int HC.J);have aF:=I (HT1.J.blk HF.J fun h=>hcf h.symm);have hk1:(k:Int)-1+1=(k:Int):=by omega
 clear he hc hf ih hcount;cases nL with
 |false=>
  have Gl:=I (show vis false k e=(false,k+1) by rw[HV.J];rfl);go_enter Tryz.func72,Tryz.ntmps72;go_wp2
  go_ret;exact⟨by rw[Gl.J];rfl,HT1.J,by rw[Gl.J];have:=Gj.J;rw[show(((false,k+1):Bool×Nat).2:Int)-1=(k:Int) by show((k+1:Nat):Int)-1=_;omega];exact this⟩
 |true=>
  go_enter Tryz.func72,Tryz.ntmps72;go_wp2_with fail
  refine(ZQ e g o va vk _ j6.J (Lb j6.J.2.2.2.2.2.1 _)).mono ?_;rintro _ w2 ⟨rfl,hf2⟩;have HT2:=I (HT1.J.trans (hf2.mono fun _ h=>h.elim));have HE2:=I (j6.J.fresh hf2);have vJ:=I (hf2.blk Gj.J fun h=>h);have aY:=I (hf2.blk aF.J fun h=>h);clear hf2 q0 qf hcc;cases hown:U.bQ e with
  |false=>
   have Gl:=I (show vis true k e=(false,k+1) by rw[HV.J,hown];rfl);go_wp2
   go_ret;exact⟨by rw[Gl.J];rfl,HT2.J,by rw[Gl.J];have:=vJ.J;rw[show(((false,k+1):Bool×Nat).2:Int)-1=(k:Int) by show((k+1:Nat):Int)-1=_;omega];exact this⟩
  |true=>
   have Gl:=I (show vis true k e=gN e (k+1) e.kids by rw[HV.J,hown];rfl);have hl2:=HE.J.2.2.2.2.2.2.1.len;obtain⟨B,cb,hvb⟩:=HE.J.2.2.2.2.2.2.1.slice;subst hvb;unfold maxLen at hl2;obtain⟨hg2,_,_,h2,_,_⟩:=HE2.J;go_wp2_with fail
   clear hg2 h2
   go_loopw [22] (fun i wr=>∃j:Nat,i=.int .i64 j∧j≤e.kids.length∧Hd ((gN e (k+1) (e.kids.take j)).1=true)∧Hd (Touch (fun b=>b=c) w wr)∧Hd (O wr c 3 #[.int .i64 (((gN e (k+1) (e.kids.take j)).2:Int)-1)])) (fun i _=>e.kids.length-(intOf i).toNat)
   case atStart=>
    refine⟨0,rfl,Nat.zero_le _,by show(gN e (k+1) []).1=true;rw[U.gN],HT2,?_⟩;show O _ _ _ #[.int .i64 (((gN e (k+1) []).2:Int)-1)];rw[U.gN];have:=vJ.J;rw[show(((k+1:Nat):Int)-1)=(k:Int) by omega];exact this
   case round=>
    obtain⟨j,rfl,hj,yJ,HT,Gb⟩:=hrel;rename_i wr _;have Gm:=I (HE.J.turn HT.J fun b hb=>by rw[show b=c from hb];exact uS.int HC.J);have bC:=I (HT.J.blk HF.J fun h=>hcf h.symm)
    by_cases c1:j<e.kids.length
    ·have d1:decide ((j:Int)<(e.kids.length:Int))=true:=dT (by omega)
     have d1':(j:Int)<(e.kids.length:Int):=by omega
     obtain⟨gk,ok,wa,wk,rfl,eB⟩:=(show dL wr e.kids _ from Gm.J.2.2.2.2.2.2.1).ru j c1;have hle:=acf e (e.kids.take j) (k+1);have HS:=I (Wv e e.kids (k+1) j c1 yJ.J);have HN:=I (Ww e e.kids (k+1) (j+1));have hcm:=U.oo e.kids j c1;have hcm2:=U.kV e.kids (j+1);have af8:=I (fun(w:World) (hp:fC w g o e va (.slice (some ⟨gk,ok,none⟩) e.kids.length cb)) (hk:fC w gk (ok+j*4) e.kids[j] wa wk)=>Wu e e.kids[j] g o gk (ok+j*4) va _ wa wk w hp hk (show 0<e.kids.length by omega));have HC4:=I (jw.J e.kids[j] (List.getElem_mem c1) (U.kD e e.kids[j]) gk (ok+j*4) c f (gN e (k+1) (e.kids.take j)).2 wa wk);have qQ:=I eB;have hcv:(gN e (k+1) (e.kids.take j)).2+U.count e.kids[j]≤100000:=by omega
     clear eB hle hcm hcm2;generalize e.kids[j]=x at*;obtain⟨hg2,_,_,h2,_,_⟩:=Gm.J;go_wp2_with fail
     have k2:=cR h2;have kf:=cR (bC.J.cell 0);refine ic [([(0,true),(1,true),(2,true),(3,true),(4,true),(5,true),(6,true),(7,true),(8,true),(9,true),(10,true),(11,true),(12,true),(13,true),(14,false)],15)] [(16,true)] (by kernel_rfl) (fun _ _ d _ _ h=>by cases d<;>exact h) (by kernel_rfl) ?_;refine gT ?_
     repeat(refine bX rfl (fun K hK=>?_);go_simp;refine hK _ ?_;clear hK K)
     refine fF rfl (fun K hK=>?_);go_wp2_with fail
     refine(af8.J _ (Gm.J.fresh bf) (qQ.J.fresh bf)).mono ?_;rintro _ w5 ⟨rfl,iJ⟩;have dA:=I (show ag wr w5 from qW iJ);clear iJ k2 kf;go_wp2
     refine hK _ _ (aN dA.J) ?_;clear hK K;refine fP rfl (fun K hK=>?_);go_wp2_with fail
     refine(HC4.J w5 (qQ.J.fresh dA.J) (dA.J.blk Gb.J fun h=>h) (dA.J.blk bC.J fun h=>h) hcf hcv).mono ?_;rintro _ w6 ⟨rfl,jl,hb6⟩;have dB:=I ((HT.J.trans (dA.J.mono fun _ h=>h.elim)).trans jl);have iM:=I hb6;clear jl hb6;rw[←HS.J];rw[←HS.J]at iM;cases hv:(gN e (k+1) (e.kids.take (j+1))).1 with
     |false=>
      have Wx:=I (Gl.J.trans (HN.J hv));have Wy:=I hv;clear hv;go_wp2_with fail
      refine Im ?_
      repeat(refine bX rfl (fun K hK=>?_);go_simp;refine hK _ ?_;clear hK K)
      refine Ky ?_;go_wp2
      go_ret;exact⟨by rw[Wx.J,Wy.J];rfl,dB.J,by rw[Wx.J];exact iM.J⟩
     |true=>
      have Wy:=I hv;clear hv;go_wp2_with fail
      refine Im ?_
      repeat(refine bX rfl (fun K hK=>?_);go_simp;refine hK _ ?_;clear hK K)
      refine Ky ?_;go_wp2
      go_roundw
      case rel=>exact⟨j+1,by go_num,c1,Wy,dB,iM⟩
      case measure=>simp[intOf];omega
    ·have d1:decide ((j:Int)<(e.kids.length:Int))=false:=dF (by omega)
     obtain rfl:j=e.kids.length:=by omega
     have Wx:=I (show vis true k e=gN e (k+1) e.kids from Gl.J);have Wy:=I (show(gN e (k+1) e.kids).1=true by have:=yJ.J;rwa [List.take_length]at this);go_wp2
     go_ret;exact⟨by rw[Wx.J,Wy.J];rfl,HT.J,by rw[Wx.J];have:=Gb.J;rwa [List.take_length]at this⟩
theorem Wz(e:E):Jd e:=U.E.ind (p:=Jd) TC e
theorem Lc(e:E)(g o:Nat)(va vk:Value)(w:World)(he:fC w g o e va vk)(hc:U.count e≤90000):
  Calls Tryz.prog 44 #[.pointer (some ⟨g,o,none⟩)] w fun x w'=>x=.returned (.tuple #[.int .i64 (U.mF e).1,.bool (U.mF e).2])∧ag w w':=by
 have HE:=I he;have HV:=I (Wz e);have Ra:=I (show U.mF e=if(vis (decide (e.name=U.bJ)) 0 e).1 then(0,false)else(((vis (decide (e.name=U.bJ)) 0 e).2:Int)-1,true)from rfl);have hd:(e.name==[109,97,116,104])=decide (e.name=U.bJ):=(Q9 e.name U.bJ).symm;have HD:=I hd;clear he hd;go_enter Tryz.func44,Tryz.ntmps44;go_wp2_with fail
 have hb1:=O.new2 w (.cells #[.int .i64 (-1)] 3) EF #[Oo w.heap.size (w.heap.size+1)];have hb0:=(O.new w 3 #[.int .i64 (-1)]).alloc (.cells #[Oo w.heap.size (w.heap.size+1)] EF);have hf0:=((M (fun _=>False) w).alloc (.cells #[.int .i64 (-1)] 3)).alloc (.cells #[Oo w.heap.size (w.heap.size+1)] EF);generalize ((w.alloc (.cells #[.int .i64 (-1)] 3)).alloc (.cells #[Oo w.heap.size (w.heap.size+1)] EF))=W2 at*;have HB1:=I hb1;have HB0:=I hb0;have dh:=I hf0;have HE2:=I (HE.J.fresh hf0);obtain⟨hg2,h0,_,_,_,_⟩:=HE2.J;have k0:=cR h0;have kf:=cR (hb1.cell 0);clear hb1 hb0 hf0;refine ic [([(0,true),(1,true),(2,true),(3,true),(4,true),(5,true),(6,true)],7)] [] (by kernel_rfl) (fun _ _ d _ _ h=>by cases d<;>exact h) (by kernel_rfl) ?_;refine gT ?_
 repeat(refine bX rfl (fun K hK=>?_);go_simp;refine hK _ ?_;clear hK K)
 refine fP rfl (fun K hK=>?_);go_wp2_with fail
 rw[HD.J];generalize decide (e.name=U.bJ)=nL at*;have hdr:=(M (fun _=>False) W2).drewN 1;refine(HV.J nL g o w.heap.size (w.heap.size+1) 0 va vk _ (HE2.J.fresh hdr) (hdr.blk HB0.J fun h=>h) (hdr.blk HB1.J fun h=>h) (by omega) (by omega)).mono ?_;rintro _ w3 ⟨rfl,ht3,hb3⟩;have bC:=I (show ag w w3 from(dh.J.trans hdr).trans' ht3 fun i hi=>.inr (by have hi:i=w.heap.size:=hi;omega));have c0:=hb3.cell 0;replace c0:w3.cell? ⟨w.heap.size,0,none⟩=some (.int .i64 (((vis nL 0 e).2:Int)-1)):=c0;clear ht3 hb3 kf k0 h0;cases hv:(vis nL 0 e).1 with
 |false=>
  have HR:=I (show U.mF e=(((vis nL 0 e).2:Int)-1,true) by rw[Ra.J,hv];rfl);clear hv;go_wp2_with fail
  refine jk ?_;go_wp2
  go_ret2;exact⟨by rw[HR.J];rfl,bC.J⟩
 |true=>
  have HR:=I (show U.mF e=(0,false) by rw[Ra.J,hv];rfl);clear hv;go_wp2_with fail
  refine jk ?_;go_wp2
  go_ret2;exact⟨by rw[HR.J];rfl,bC.J⟩
end
section
open Go.RowKit Go.Maps
theorem strKeys:Keyed Tryz.prog 9:=string_keyed Tryz.underlying9
section
variable {H:Type}
def qR:List (List UInt8×Int):=[(U.iL,5),(U.jo,7),(U.jq,8),(U.eF,9)]
def Oq:DataW H:=qR.foldl (fun D x=>D.put (.string x.1) (.lit (.int .i64 x.2))) (.map [])
theorem adL:(Oq:DataW H)=.map [(.string U.iL,.lit (.int .i64 5)),(.string U.jo,.lit (.int .i64 7)),(.string U.eF,.lit (.int .i64 9)),(.string U.jq,.lit (.int .i64 8))]:=by rfl
theorem WA(x:List UInt8)(zd:DataW H):(Oq:DataW H).atKey (.string x) zd=match qR.find? (·.1==x)with|some y=>.lit (.int .i64 y.2)|none=>zd:=by
 rw[adL]
 by_cases h1:U.iL=x
 ·subst h1;rfl
 by_cases h2:U.jo=x
 ·subst h2;rfl
 by_cases h3:U.jq=x
 ·subst h3;rfl
 by_cases h4:U.eF=x
 ·subst h4;rfl
 have b1:(U.iL==x)=false:=beq_eq_false_iff_ne.2 h1;have b2:(U.jo==x)=false:=beq_eq_false_iff_ne.2 h2;have b3:(U.jq==x)=false:=beq_eq_false_iff_ne.2 h3;have b4:(U.eF==x)=false:=beq_eq_false_iff_ne.2 h4;simp only[DataW.atKey,Lit.sameKey,qR,List.find?_cons,List.find?_nil,b1,b2,b3,b4]
theorem WB(x:List UInt8)(c:Int)(h:∀zd,(Oq:DataW H).atKey (.string x) zd=.lit (.int .i64 c)):qR.find? (·.1==x)=some (x,c):=by
 have h1:=h (.lit (.int .i64 (c+1)));rw[WA]at h1;cases hf:qR.find? (·.1==x)with
 |none=>
  rw[hf]at h1;simp only[DataW.lit.injEq,Lit.int.injEq,true_and]at h1;omega
 |some y=>
  rw[hf]at h1;simp only[DataW.lit.injEq,Lit.int.injEq,true_and]at h1;have h2:=List.find?_some hf;simp only[beq_iff_eq]at h2;subst h1 h2;rfl
end
section
variable {w:World}
theorem wH(x:List UInt8)(h:x.length≤maxLen):keyOf Tryz.prog 9 (.string ⟨x.toArray⟩)=some (.string x):=by
 have hs:(⟨x.toArray⟩:ByteArray).size≤maxLen:=by show x.toArray.size≤_;simpa using h
 simp[keyOf,Tryz.underlying9,mapKey,hs]
theorem zM(H:Type)(w:World):Calls Tryz.prog 132 #[] w fun e w'=>e=.returned (.map (some w.heap.size))∧w'.ownsMap (H:=H) Tryz.prog 9 (plainElem Tryz.prog 3) w.heap.size 4 Oq∧ag w w':=by
 have hmm:∀W:World,(Instr.makeMap 177 none).run Tryz.prog W=.ok (.map (some W.heap.size)) (W.alloc (.map #[] 0)):=fun W=>run_makeMap_plain W 177
 have hw:∀n:Int,(Lit.int .i64 n).wf=true→plainElem (H:=H) Tryz.prog 3 (.int .i64 n)=some (.lit (.int .i64 n),[]):=fun n h=>plainElem_int Tryz.underlying3 h
 obtain⟨w1,r1,o1,g1⟩:=(World.ownsMap_made (H:=H) w Tryz.prog 9 (plainElem Tryz.prog 3)).update strKeys Tryz.underlying177 (by decide) (wH U.iL (by decide)) (hw 5 (by decide));obtain⟨w2,r2,o2,g2⟩:=o1.update strKeys Tryz.underlying177 (by decide) (wH U.jo (by decide)) (hw 7 (by decide));obtain⟨w3,r3,o3,g3⟩:=o2.update strKeys Tryz.underlying177 (by decide) (wH U.jq (by decide)) (hw 8 (by decide));obtain⟨w4,r4,o4,g4⟩:=o3.update strKeys Tryz.underlying177 (by decide) (wH U.eF (by decide)) (hw 9 (by decide));have hf:ag w w4:=(((((M _ w).alloc (.map #[] 0)).grown g1 (fun k hk=>.inr (by cases hk;exact Nat.le_refl _))).grown g2 (fun k hk=>.inr (by cases hk;exact Nat.le_refl _))).grown g3 (fun k hk=>.inr (by cases hk;exact Nat.le_refl _))).grown g4 (fun k hk=>.inr (by cases hk;exact Nat.le_refl _));have HF:=I hf;have HO:=I o4;simp only[U.iL,U.jo,U.jq,U.eF]at r1 r2 r3 r4;clear o1 o2 o3 o4 g1 g2 g3 g4 hf hw;go_enter Tryz.func132,Tryz.ntmps132;go_wp2
 go_ret;exact⟨rfl,HO.J,HF.J⟩
end
end
section
open Go.RowKit
open Tr (Nd)
open U (E dH cz az)
attribute [local go_sem] jg stillUpon
def iF(w w':World)(e:E)(v:Value):Prop:=∃va vk,v=ev e va vk∧ag w w'∧aZ (fun k=>k<w.heap.size) w' fun W=>bN W e va vk
def Ot(n:Nd):Prop:=∀(sl:Value) (w:World),Tr.count n≤100000→aO w n.kids sl→Calls Tryz.prog 70 #[nv n sl] w fun e w'=>∃v,e=.returned v∧iF w w' (dH n) v
def ay(nm:List UInt8)(ks:List Nd):List E:=ks.map fun n=>az nm (cz n.kids)
def aev(ks:List Nd):Prop:=∀(nm:List UInt8) (sl:Value) (w:World),nm.length≤maxLen→Tr.aj ks≤100000→aO w ks sl→Calls Tryz.prog 130 #[.string ⟨nm.toArray⟩,sl] w fun e w'=>∃v,e=.returned v∧iF w w' (az nm (ay U.ah ks)) v
theorem oG(nm:List UInt8)(l:List Nd):(ay nm l).length=l.length:=List.length_map _
theorem Je(nm:List UInt8)(l:List Nd)(j:Nat)(h:j<l.length):(ay nm l).take j++[az nm (cz l[j].kids)]=(ay nm l).take (j+1):=by
 unfold ay;rw[List.take_add_one,List.getElem?_map,List.getElem?_eq_getElem h];rfl
def yB(n:Nd):Prop:=∀(nm:List UInt8) (sl:Value) (w:World),nm.length≤maxLen→Tr.count n≤100000→aO w n.kids sl→Calls Tryz.prog 42 #[.string ⟨nm.toArray⟩,nv n sl] w fun e w'=>∃v,e=.returned v∧iF w w' (az nm (cz n.kids)) v
theorem dO.base{B:Nat}{w:World}{es:List E}{v:Value}(h:dO B w es v):B≤w.heap.size:=h.1
theorem FI(l:List Nd):(cz l).length=l.length:=by rw[U.ze,List.length_map]
theorem Ou(l:List Nd)(j:Nat)(h:j<l.length):(cz l).take j++[dH l[j]]=(cz l).take (j+1):=by
 rw[U.ze,List.take_add_one,List.getElem?_map,List.getElem?_eq_getElem h];rfl
theorem Ld(n:Nd)(ih:∀x∈n.kids,Ot x):yB n:=by
 intro nm sl w hnm hc hsl;have hcl:Tr.aj n.kids≤100000:=by have:=Tr.aI n;omega
 obtain⟨A,cap,rfl⟩:=hsl.slice;have jW:=I hsl;have jw:=I ih;have ng:=I hnm;have hkl:=Tr.gL n.kids;clear hc;generalize hks:n.kids=ks at*;have Rb:=I hks;clear hsl ih hnm hks;go_enter Tryz.func42,Tryz.ntmps42;go_wp2_with fail
 refine aV (fun W=>ag w W∧W.heap.size=w.heap.size+3∧O W (w.heap.size+1) 45 Z∧O W (w.heap.size+1+1) 45 #[.string ⟨nm.toArray⟩,.slice none 0 0,.slice none 0 0,.string ⟨#[]⟩]) ⟨(((M _ _).alloc _).alloc _).alloc _,by simp,(O.new2 w _ 45 _).alloc _,O.BR _ _ _ _ _⟩ ?_;rintro W1 ⟨hf1,hs1,mZ,oP⟩;have aF:=I hf1;have eX:=I mZ;have oQ:=I oP;have pq:=I hs1;have uq:=I (show dO (w.heap.size+3) W1 ((cz ks).take 0) (.slice none 0 0) by rw[List.take_zero];exact dO.nil (by omega));clear hf1 mZ oP hs1
 go_loopw [13] (fun i wr=>∃(j:Nat) (Ae:Option Addr) (ce:Nat),i=.int .i64 j∧j≤ks.length∧Hd (O wr (w.heap.size+1) 45 Z)∧Hd (O wr (w.heap.size+1+1) 45 #[.string ⟨nm.toArray⟩,.slice none 0 0,.slice Ae j ce,.string ⟨#[]⟩])∧Hd (dO (w.heap.size+3) wr ((cz ks).take j) (.slice Ae j ce))∧Hd (ag w wr)) (fun i _=>ks.length-(intOf i).toNat)
 case atStart=>exact⟨0,none,0,rfl,Nat.zero_le _,eX,oQ,uq,aF⟩
 case round=>
  obtain⟨j,Ae,ce,rfl,hj,jX,jO,HG,HF⟩:=hrel;rename_i wr _
  by_cases c1:j<ks.length
  ·have d1:decide ((j:Int)<(ks.length:Int))=true:=dT (by omega)
   have dG:decide (j<ks.length)=true:=dT c1;have d1':(j:Int)<(ks.length:Int):=by omega
   obtain⟨g,o,sx,hA,hg,m0,m1,m2,m3,hrx⟩:=jW.J.get j c1;cases hA;obtain⟨Ax,cx,rfl⟩:=hrx.slice;have e0:=HF.J.cell m0 (fun h=>h);have e1:=HF.J.cell m1 (fun h=>h);have e2:=HF.J.cell m2 (fun h=>h);have e3:=HF.J.cell m3 (fun h=>h);have hgl:g<wr.heap.size:=Nat.lt_of_lt_of_le hg HF.J.size;have Jf:=I (hrx.fresh HF.J);have jZ:=I (List.getElem_mem c1);have mK:=I (show((cz ks).take j).length=j by rw[List.length_take,FI];omega);clear m0 m1 m2 m3 hg hrx;go_wp2_with fail
   have k0:=cR ((jO.J.alloc (.cells #[.int .i64 ks[j].kind,.string ⟨ks[j].text.toArray⟩,.int .i64 ks[j].ai,.slice Ax ks[j].kids.length cx] 31)).cell 2|>.trans rfl);have j0:=cR ((O.new wr 31 #[.int .i64 ks[j].kind,.string ⟨ks[j].text.toArray⟩,.int .i64 ks[j].ai,.slice Ax ks[j].kids.length cx]).cell 0|>.trans rfl);have j1:=cR ((O.new wr 31 #[.int .i64 ks[j].kind,.string ⟨ks[j].text.toArray⟩,.int .i64 ks[j].ai,.slice Ax ks[j].kids.length cx]).cell 1|>.trans rfl);have j2:=cR ((O.new wr 31 #[.int .i64 ks[j].kind,.string ⟨ks[j].text.toArray⟩,.int .i64 ks[j].ai,.slice Ax ks[j].kids.length cx]).cell 2|>.trans rfl);have j3:=cR ((O.new wr 31 #[.int .i64 ks[j].kind,.string ⟨ks[j].text.toArray⟩,.int .i64 ks[j].ai,.slice Ax ks[j].kids.length cx]).cell 3|>.trans rfl);have oD:=I (HG.J.fresh ((M _ wr).alloc (.cells #[.int .i64 ks[j].kind,.string ⟨ks[j].text.toArray⟩,.int .i64 ks[j].ai,.slice Ax ks[j].kids.length cx] 31)));have Bi:=I (jO.J.alloc (.cells #[.int .i64 ks[j].kind,.string ⟨ks[j].text.toArray⟩,.int .i64 ks[j].ai,.slice Ax ks[j].kids.length cx] 31));have EG:=I (jX.J.alloc (.cells #[.int .i64 ks[j].kind,.string ⟨ks[j].text.toArray⟩,.int .i64 ks[j].ai,.slice Ax ks[j].kids.length cx] 31));have dA:=I (HF.J.alloc (.cells #[.int .i64 ks[j].kind,.string ⟨ks[j].text.toArray⟩,.int .i64 ks[j].ai,.slice Ax ks[j].kids.length cx] 31));have Kh:=I (Jf.J.fresh ((M _ wr).alloc (.cells #[.int .i64 ks[j].kind,.string ⟨ks[j].text.toArray⟩,.int .i64 ks[j].ai,.slice Ax ks[j].kids.length cx] 31)));generalize (wr.alloc (.cells #[.int .i64 ks[j].kind,.string ⟨ks[j].text.toArray⟩,.int .i64 ks[j].ai,.slice Ax ks[j].kids.length cx] 31))=W5 at k0 j0 j1 j2 j3 oD Bi EG dA Kh⊢;obtain⟨bx,hbx⟩:∃b,b=wr.heap.size:=⟨_,rfl⟩;rw[←hbx]at j0 j1 j2 j3⊢;clear e0 e1 e2 e3 hgl hbx;refine ic [([(0,true),(1,true),(2,true),(3,false),(4,false)],5),([(6,true)],7)] [] (by kernel_rfl) (fun _ _ d _ _ h=>by cases d<;>exact h) (by kernel_rfl) ?_;refine gT ?_
   repeat(refine bX rfl (fun K hK=>?_);go_simp;refine hK _ ?_;clear hK K)
   clear k0 j0 j1 j2 j3;refine fF rfl (fun K hK=>?_);go_wp2_with fail
   refine(jw.J ks[j] jZ.J _ _ (by have:=Tr.dm jZ.J;omega) (Kh.J.fresh ((M _ _).drewN 1))).mono ?_;rintro _ w6 ⟨v6,rfl,va,vk,rfl,bu,aQ⟩;have bT:=I (show ag W5 w6 from((M _ W5).drewN 1).trans bu);have fM:=I (show aZ (fun k=>k<W5.heap.size) w6 fun W=>bN W (dH ks[j]) va vk from aQ);obtain⟨Aa,ca,rfl⟩:=aQ.now.1.slice;obtain⟨Ak,ck,rfl⟩:=aQ.now.2.1.slice;clear bu aQ;go_wp2
   refine hK _ _ (aN bT.J) ?_;clear hK K;refine fF rfl (fun K hK=>?_);go_wp2
   refine hK _ _ (aN (bT.J.alloc _)) ?_;clear hK K;have dX:=I (O.new w6 45 #[.string ⟨(dH ks[j]).name.toArray⟩,.slice Aa (dH ks[j]).attrs.length ca,.slice Ak (dH ks[j]).kids.length ck,.string ⟨(dH ks[j]).text.toArray⟩]);have eZ:=I (bT.J.alloc (.cells #[.string ⟨(dH ks[j]).name.toArray⟩,.slice Aa (dH ks[j]).attrs.length ca,.slice Ak (dH ks[j]).kids.length ck,.string ⟨(dH ks[j]).text.toArray⟩] 45));have jR:=I (fM.J.fresh ((M _ w6).alloc (.cells #[.string ⟨(dH ks[j]).name.toArray⟩,.slice Aa (dH ks[j]).attrs.length ca,.slice Ak (dH ks[j]).kids.length ck,.string ⟨(dH ks[j]).text.toArray⟩] 45)));generalize (w6.alloc (.cells #[.string ⟨(dH ks[j]).name.toArray⟩,.slice Aa (dH ks[j]).attrs.length ca,.slice Ak (dH ks[j]).kids.length ck,.string ⟨(dH ks[j]).text.toArray⟩] 45))=w7 at dX eZ jR⊢;have uu:=I (oD.J.fresh eZ.J);have HOW:=I oD.J.jE;have oU:=I (eZ.J.blk Bi.J fun h=>h);have qc:=I (eZ.J.blk EG.J fun h=>h);have bV:=I oD.J.base;refine fP rfl (fun K hK=>?_)
   go_wp2_with (at_builtin;go_loud (refine mY rfl (.tmp 18) (.tmp 21) rfl uu.J mK.J (by simp[Act.eval]) (dH ks[j]) dX.J (by simp[Act.eval]) W5.heap.size bV.J (fun k hk=>(HOW.J k hk).2) jR.J (by omega) ?_);intro A8 c8 w8 gJ bW _;refine iC.mk ?_)
   have nT:=I gJ;have lq:=I (bW.blk oU.J fun h=>by have:=(HOW.J _ h).1;omega);have mJ:=I (bW.blk qc.J fun h=>by have:=(HOW.J _ h).1;omega);have eP:=I (show ag w w8 from(dA.J.trans eZ.J).trans' bW fun k hk=>.inr (by have:=(HOW.J _ hk).1;omega));clear gJ bW;obtain⟨q0,q1,q2,q3,z0,z1,z2,z3,hlt⟩:=O.four lq.J;refine iC.go ?_;go_wp2_with fail
   refine gT ?_
   repeat(refine bX rfl (fun K hK=>?_);go_simp;refine hK _ ?_;clear hK K)
   refine fP rfl (fun K hK=>?_);go_wp2_with fail
   refine jk ?_;go_wp2_with fail
   have fO:=nT.J.mv ((M (fun k=>k=(w.heap.size+1+1)) w8).setCell (p:=⟨(w.heap.size+1+1),2,none⟩) (.inl rfl) (.slice A8 (j+1) c8)) (fun k hk _=>by omega);rw[Ou ks j c1]at fO;exact⟨⟨j+1,A8,c8,by simp,by omega,mJ.J.far (p:=⟨(w.heap.size+1+1),2,none⟩) (by simp) _,lq.J.put 2 _,fO,eP.J.setCell (p:=⟨(w.heap.size+1+1),2,none⟩) (.inr (by show w.heap.size≤(w.heap.size+1+1);omega)) _⟩,by simp[intOf];omega⟩
  ·have d1:decide ((j:Int)<(ks.length:Int))=false:=dF (by omega)
   have dG:decide (j<ks.length)=false:=dF c1;obtain rfl:j=ks.length:=by omega
   obtain⟨q0,q1,q2,q3,_,_,_,_,hlt⟩:=O.four jO.J;obtain⟨p0,p1,p2,p3,y0,y1,y2,y3,hlp⟩:=O.four jX.J;have fO:=HG.J.mv ((M (fun k=>k=(w.heap.size+1)) wr).aH (.inl rfl) (.string ⟨nm.toArray⟩) (.slice none 0 0) (.slice Ae ks.length ce) (.string ⟨#[]⟩)) (fun k hk _=>by omega);rw[List.take_of_length_le (by rw[FI];exact Nat.le_refl _)]at fO;have iE:=I fO;obtain⟨r0,r1,r2,r3,_,_,_,_,_⟩:=O.four (jX.J.dJ (.string ⟨nm.toArray⟩) (.slice none 0 0) (.slice Ae ks.length ce) (.string ⟨#[]⟩));simp only[aH]at r0 r1 r2 r3;clear fO;go_wp2
   refine bodyPost_ret (v:=.agg #[.string ⟨nm.toArray⟩,.slice none 0 0,.slice Ae ks.length ce,.string ⟨#[]⟩]) (by simp[results,Tryz.results42,go_sem,r0,r1,r2,r3]) rfl ?_;refine⟨_,rfl,.slice none 0 0,.slice Ae ks.length ce,rfl,Touch.aH HF.J (.inr (by omega)) _ _ _ _,?_⟩;exact(iE.J.done.mono fun i _ hi=>by omega).imp fun W hW=>⟨dW.nil _ _ _,hW,ng.J,Nat.zero_le _⟩
theorem wI(ks0:List Nd)(ih:∀x∈ks0,yB x):aev ks0:=by
 intro nm sl w hnm hcl hsl;obtain⟨A,cap,rfl⟩:=hsl.slice;have jW:=I hsl;have jw:=I ih;have ng:=I hnm;have hkl:=Tr.gL ks0;generalize hks:ks0=ks at*;have Rb:=I hks;clear hsl ih hnm hks;go_enter Tryz.func130,Tryz.ntmps130;go_wp2_with fail
 refine aV (fun W=>ag w W∧W.heap.size=w.heap.size+2∧O W w.heap.size 45 Z∧O W (w.heap.size+1) 45 #[.string ⟨nm.toArray⟩,.slice none 0 0,.slice none 0 0,.string ⟨#[]⟩]) ⟨((M _ _).alloc _).alloc _,by simp,(O.new w 45 _).alloc _,O.new2 w _ 45 _⟩ ?_;rintro W1 ⟨hf1,hs1,mZ,oP⟩;have aF:=I hf1;have eX:=I mZ;have oQ:=I oP;have pq:=I hs1;have uq:=I (show dO (w.heap.size+2) W1 ((ay U.ah ks).take 0) (.slice none 0 0) by rw[List.take_zero];exact dO.nil (by omega));clear hf1 mZ oP hs1
 go_loopw [12] (fun i wr=>∃(j:Nat) (Ae:Option Addr) (ce:Nat),i=.int .i64 j∧j≤ks.length∧Hd (O wr w.heap.size 45 Z)∧Hd (O wr (w.heap.size+1) 45 #[.string ⟨nm.toArray⟩,.slice none 0 0,.slice Ae j ce,.string ⟨#[]⟩])∧Hd (dO (w.heap.size+2) wr ((ay U.ah ks).take j) (.slice Ae j ce))∧Hd (ag w wr)) (fun i _=>ks.length-(intOf i).toNat)
 case atStart=>exact⟨0,none,0,rfl,Nat.zero_le _,eX,oQ,uq,aF⟩
 case round=>
  obtain⟨j,Ae,ce,rfl,hj,jX,jO,HG,HF⟩:=hrel;rename_i wr _
  by_cases c1:j<ks.length
  ·have d1:decide ((j:Int)<(ks.length:Int))=true:=dT (by omega)
   have dG:decide (j<ks.length)=true:=dT c1;have d1':(j:Int)<(ks.length:Int):=by omega
   obtain⟨g,o,sx,hA,hg,m0,m1,m2,m3,hrx⟩:=jW.J.get j c1;cases hA;obtain⟨Ax,cx,rfl⟩:=hrx.slice;have e0:=HF.J.cell m0 (fun h=>h);have e1:=HF.J.cell m1 (fun h=>h);have e2:=HF.J.cell m2 (fun h=>h);have e3:=HF.J.cell m3 (fun h=>h);have hgl:g<wr.heap.size:=Nat.lt_of_lt_of_le hg HF.J.size;have Jf:=I (hrx.fresh HF.J);have jZ:=I (List.getElem_mem c1);have mK:=I (show((ay U.ah ks).take j).length=j by rw[List.length_take,oG];omega);clear m0 m1 m2 m3 hg hrx;go_wp2_with fail
   have k0:=cR ((jO.J.alloc (.cells #[.int .i64 ks[j].kind,.string ⟨ks[j].text.toArray⟩,.int .i64 ks[j].ai,.slice Ax ks[j].kids.length cx] 31)).cell 2|>.trans rfl);have j0:=cR ((O.new wr 31 #[.int .i64 ks[j].kind,.string ⟨ks[j].text.toArray⟩,.int .i64 ks[j].ai,.slice Ax ks[j].kids.length cx]).cell 0|>.trans rfl);have j1:=cR ((O.new wr 31 #[.int .i64 ks[j].kind,.string ⟨ks[j].text.toArray⟩,.int .i64 ks[j].ai,.slice Ax ks[j].kids.length cx]).cell 1|>.trans rfl);have j2:=cR ((O.new wr 31 #[.int .i64 ks[j].kind,.string ⟨ks[j].text.toArray⟩,.int .i64 ks[j].ai,.slice Ax ks[j].kids.length cx]).cell 2|>.trans rfl);have j3:=cR ((O.new wr 31 #[.int .i64 ks[j].kind,.string ⟨ks[j].text.toArray⟩,.int .i64 ks[j].ai,.slice Ax ks[j].kids.length cx]).cell 3|>.trans rfl);have oD:=I (HG.J.fresh ((M _ wr).alloc (.cells #[.int .i64 ks[j].kind,.string ⟨ks[j].text.toArray⟩,.int .i64 ks[j].ai,.slice Ax ks[j].kids.length cx] 31)));have Bi:=I (jO.J.alloc (.cells #[.int .i64 ks[j].kind,.string ⟨ks[j].text.toArray⟩,.int .i64 ks[j].ai,.slice Ax ks[j].kids.length cx] 31));have EG:=I (jX.J.alloc (.cells #[.int .i64 ks[j].kind,.string ⟨ks[j].text.toArray⟩,.int .i64 ks[j].ai,.slice Ax ks[j].kids.length cx] 31));have dA:=I (HF.J.alloc (.cells #[.int .i64 ks[j].kind,.string ⟨ks[j].text.toArray⟩,.int .i64 ks[j].ai,.slice Ax ks[j].kids.length cx] 31));have Kh:=I (Jf.J.fresh ((M _ wr).alloc (.cells #[.int .i64 ks[j].kind,.string ⟨ks[j].text.toArray⟩,.int .i64 ks[j].ai,.slice Ax ks[j].kids.length cx] 31)));generalize (wr.alloc (.cells #[.int .i64 ks[j].kind,.string ⟨ks[j].text.toArray⟩,.int .i64 ks[j].ai,.slice Ax ks[j].kids.length cx] 31))=W5 at k0 j0 j1 j2 j3 oD Bi EG dA Kh⊢;obtain⟨bx,hbx⟩:∃b,b=wr.heap.size:=⟨_,rfl⟩;rw[←hbx]at j0 j1 j2 j3⊢;clear e0 e1 e2 e3 hgl hbx;refine ic [([(0,true),(1,true),(2,true),(3,false),(4,false)],5),([(6,true)],7)] [] (by kernel_rfl) (fun _ _ d _ _ h=>by cases d<;>exact h) (by kernel_rfl) ?_;refine gT ?_
   repeat(refine bX rfl (fun K hK=>?_);go_simp;refine hK _ ?_;clear hK K)
   clear k0 j0 j1 j2 j3;refine fF rfl (fun K hK=>?_);go_wp2_with fail
   refine(jw.J ks[j] jZ.J U.ah _ _ (by decide) (by have:=Tr.dm jZ.J;omega) (Kh.J.fresh ((M _ _).drewN 1))).mono ?_;rintro _ w6 ⟨v6,rfl,va,vk,rfl,bu,aQ⟩;have bT:=I (show ag W5 w6 from((M _ W5).drewN 1).trans bu);have fM:=I (show aZ (fun k=>k<W5.heap.size) w6 fun W=>bN W (az U.ah (cz ks[j].kids)) va vk from aQ);obtain⟨Aa,ca,rfl⟩:=aQ.now.1.slice;obtain⟨Ak,ck,rfl⟩:=aQ.now.2.1.slice;clear bu aQ;go_wp2
   refine hK _ _ (aN bT.J) ?_;clear hK K;refine fF rfl (fun K hK=>?_);go_wp2
   refine hK _ _ (aN (bT.J.alloc _)) ?_;clear hK K;have dX:=I (O.new w6 45 #[.string ⟨(az U.ah (cz ks[j].kids)).name.toArray⟩,.slice Aa (az U.ah (cz ks[j].kids)).attrs.length ca,.slice Ak (az U.ah (cz ks[j].kids)).kids.length ck,.string ⟨(az U.ah (cz ks[j].kids)).text.toArray⟩]);have eZ:=I (bT.J.alloc (.cells #[.string ⟨(az U.ah (cz ks[j].kids)).name.toArray⟩,.slice Aa (az U.ah (cz ks[j].kids)).attrs.length ca,.slice Ak (az U.ah (cz ks[j].kids)).kids.length ck,.string ⟨(az U.ah (cz ks[j].kids)).text.toArray⟩] 45));have jR:=I (fM.J.fresh ((M _ w6).alloc (.cells #[.string ⟨(az U.ah (cz ks[j].kids)).name.toArray⟩,.slice Aa (az U.ah (cz ks[j].kids)).attrs.length ca,.slice Ak (az U.ah (cz ks[j].kids)).kids.length ck,.string ⟨(az U.ah (cz ks[j].kids)).text.toArray⟩] 45)));generalize (w6.alloc (.cells #[.string ⟨(az U.ah (cz ks[j].kids)).name.toArray⟩,.slice Aa (az U.ah (cz ks[j].kids)).attrs.length ca,.slice Ak (az U.ah (cz ks[j].kids)).kids.length ck,.string ⟨(az U.ah (cz ks[j].kids)).text.toArray⟩] 45))=w7 at dX eZ jR⊢;have uu:=I (oD.J.fresh eZ.J);have HOW:=I oD.J.jE;have oU:=I (eZ.J.blk Bi.J fun h=>h);have qc:=I (eZ.J.blk EG.J fun h=>h);have bV:=I oD.J.base;refine fP rfl (fun K hK=>?_)
   go_wp2_with (at_builtin;go_loud (refine mY rfl (.tmp 17) (.tmp 20) rfl uu.J mK.J (by simp[Act.eval]) (az U.ah (cz ks[j].kids)) dX.J (by simp[Act.eval]) W5.heap.size bV.J (fun k hk=>(HOW.J k hk).2) jR.J (by omega) ?_);intro A8 c8 w8 gJ bW _;refine iC.mk ?_)
   have nT:=I gJ;have lq:=I (bW.blk oU.J fun h=>by have:=(HOW.J _ h).1;omega);have mJ:=I (bW.blk qc.J fun h=>by have:=(HOW.J _ h).1;omega);have eP:=I (show ag w w8 from(dA.J.trans eZ.J).trans' bW fun k hk=>.inr (by have:=(HOW.J _ hk).1;omega));clear gJ bW;obtain⟨q0,q1,q2,q3,z0,z1,z2,z3,hlt⟩:=O.four lq.J;refine iC.go ?_;go_wp2_with fail
   refine gT ?_
   repeat(refine bX rfl (fun K hK=>?_);go_simp;refine hK _ ?_;clear hK K)
   refine fP rfl (fun K hK=>?_);go_wp2_with fail
   refine jk ?_;go_wp2_with fail
   have fO:=nT.J.mv ((M (fun k=>k=(w.heap.size+1)) w8).setCell (p:=⟨(w.heap.size+1),2,none⟩) (.inl rfl) (.slice A8 (j+1) c8)) (fun k hk _=>by omega);rw[Je U.ah ks j c1]at fO;exact⟨⟨j+1,A8,c8,by simp,by omega,mJ.J.far (p:=⟨(w.heap.size+1),2,none⟩) (by simp) _,lq.J.put 2 _,fO,eP.J.setCell (p:=⟨(w.heap.size+1),2,none⟩) (.inr (by show w.heap.size≤(w.heap.size+1);omega)) _⟩,by simp[intOf];omega⟩
  ·have d1:decide ((j:Int)<(ks.length:Int))=false:=dF (by omega)
   have dG:decide (j<ks.length)=false:=dF c1;obtain rfl:j=ks.length:=by omega
   obtain⟨q0,q1,q2,q3,_,_,_,_,hlt⟩:=O.four jO.J;obtain⟨p0,p1,p2,p3,y0,y1,y2,y3,hlp⟩:=O.four jX.J;have fO:=HG.J.mv ((M (fun k=>k=w.heap.size) wr).aH (.inl rfl) (.string ⟨nm.toArray⟩) (.slice none 0 0) (.slice Ae ks.length ce) (.string ⟨#[]⟩)) (fun k hk _=>by omega);rw[List.take_of_length_le (by rw[oG];exact Nat.le_refl _)]at fO;have iE:=I fO;obtain⟨r0,r1,r2,r3,_,_,_,_,_⟩:=O.four (jX.J.dJ (.string ⟨nm.toArray⟩) (.slice none 0 0) (.slice Ae ks.length ce) (.string ⟨#[]⟩));simp only[aH]at r0 r1 r2 r3;clear fO;go_wp2
   refine bodyPost_ret (v:=.agg #[.string ⟨nm.toArray⟩,.slice none 0 0,.slice Ae ks.length ce,.string ⟨#[]⟩]) (by simp[results,Tryz.results130,go_sem,r0,r1,r2,r3]) rfl ?_;refine⟨_,rfl,.slice none 0 0,.slice Ae ks.length ce,rfl,Touch.aH HF.J (.inr (by omega)) _ _ _ _,?_⟩;exact(iE.J.done.mono fun i _ hi=>by omega).imp fun W hW=>⟨dW.nil _ _ _,hW,ng.J,Nat.zero_le _⟩
end
end Go.Proofs.YtnbeemkfmlfgfaaGreatDoor
