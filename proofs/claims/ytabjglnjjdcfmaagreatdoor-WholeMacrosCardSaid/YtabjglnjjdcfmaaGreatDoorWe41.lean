/- Part 41 of 41 of a proof. No condition. -/
import Derived.Test.YtabjglnjjdcfmaaGreatDoorTie
import Derived.Test.YtabjglnjjdcfmaaGreatDoorCards
import Derived.OpenShut
import Derived.ChangeSlices
import Derived.LaidMore
import Derived.Lay
import Derived.SevenTiedAt
import Derived.Stop.Joined
import Derived.Test.YtabjglnjjdcfmaaGreatDoorWe40
set_option maxRecDepth 100000
set_option maxHeartbeats 4000000
namespace Go.Proofs.YtabjglnjjdcfmaaGreatDoor
open _root_.Nat renaming zero_le->au1
open _root_.List renaming drop_eq_getElem_cons->avt,drop_eq_nil_of_le->avU,getElem?_eq_getElem->ave,range->awj
open _root_.Go.Addr renaming add->avZ
open _root_.Bool renaming and_eq_true->auY
open _root_.Go.Proofs.Tryz
section
open Go.RowKit
open Tr (Nd)
open Lx (aB)
attribute [local go_sem] gD stillUpon
abbrev alY:=Y_×Int×Y_
def al8(m:alY):D7.Def:=⟨m.1.data.toList,m.2.1,m.2.2.data.toList⟩
def alG(W:W_)(A:Option Addr)(l:List alY):Prop:=∀i (hi:i<l.length),∃g f,A=A_ g f/\g<W.heap.size/\W.cell? (B_ g (f+i*3))=some (.string l[i].1)/\W.cell? (B_ g (f+i*3+1))=some (V l[i].2.1)/\W.cell? (B_ g (f+i*3+2))=some (.string l[i].2.2)
theorem alG.QH{W W':W_}{A:Option Addr}{l:List alY}(h:alG W A l)(hf:ag W W'):alG W' A l:=λi hi=>by
 obtain⟨g,f,h1,h2,h3,h4,h5⟩:=h i hi;exact⟨g,f,h1,Nat.lt_of_lt_of_le h2 hf.size,hf.cell h3 PR,hf.cell h4 PR,hf.cell h5 PR⟩
def an7(W:W_)(X:Option D7.Table)(e:Ending)(W':W_):Prop:=
 match X with
 |some tb=>∃gt bm nv NY,e=.returned (.tuple #[.pointer (A_ gt 0),V 0,V 0,V 0])/\alX W W' tb gt bm nv NY
 |none=>∃i k er:Int,er≠0/\e=.returned (.tuple #[.pointer none,V i,V k,V er])/\ag W W'
theorem aoX(l:List alY)(A:Option Addr)(cp:Nat)(w:W_)(h:alG w A l)(hl:l.length<=1000000)(hb:∀m∈l,m.1.size<=140737488355328/\m.2.2.size<=140737488355328/\(Lx.jr m.2.2.data.toList).1.length<=8000):
  C_ 6 #[.slice A l.length cp] w (an7 w (D7.amy [] (l.map al8))):=by
 have H:=I h;have HB:=I hb;have HL:=I hl;clear h hb hl;refine Calls.via λQ hQ=>?_
 have HQ:=I hQ;clear hQ;obtain⟨X,hX⟩:∃X,X=D7.amy [] (l.map al8):=⟨_,rfl⟩;rw[<-hX]at HQ;have HX:=I hX;clear hX;obtain⟨n,hn⟩:∃n,n=l.length:=⟨_,rfl⟩;have HN:=I hn;rw[<-hn];clear hn;go_enter func6,ntmps6;go_wp2_with fail
 refine(an5 w).mono ?_;rintro _ W1 ⟨gt,bm,rfl,h1⟩;have HT:=I h1;clear h1;go_wp2
 go_loopw [14] (λi av=>∃(wr:W_) (q:Nat) (tb:D7.Table) (nr:Value) (NY:Nat->Value),wr=av/\i=V q/\q<=n/\Hd (alX w wr tb gt bm nr NY)/\Hd (X=D7.amy tb ((l.drop q).map al8))) (λi _=>n-(intOf i).toNat)
 case atStart=>exact⟨_,0,[],_,_,rfl,rfl,au1 _,HT,HX⟩
 case round=>
  clear HT HX;obtain⟨wr,q,tb,nr,NY,rfl,rfl,hq,HT,HX⟩:=hrel
  by_cases c1:q<n
  .have d1:decide ((q:Int)<(n:Int))=true:=dT Zo
   have jo:decide (q<n)=true:=dT c1;have aE:(q:Int)<(n:Int):=Zo
   have aa:q<l.length:=asG
   have aP:n<=1000000:=by have:=HN.out;have:=HL.out;omega
   obtain⟨g,f,rfl,hg,q0,q1,q2⟩:=(H.QH HT.fr) q aa;have kX:=I (show X=D7.amy tb (al8 l[q]::(l.drop (q+1)).map al8)from by rw[HX.out,avt aa];rfl);have aL:=I (HB l[q] (List.getElem_mem aa));generalize l[q]=m at q0 q1 q2 kX aL;obtain⟨ms,mp,mb⟩:=m;simp only at q0 q1 q2;go_wp2_with fail
   have sJ:=I (HT.QH ((M (λ_=>False) wr).alloc (.cells #[.string ms,V mp,.string mb] 40)));have ac:=I (an6 w _ tb gt bm nr NY sJ ms mp mb aL.out.1 aL.out.2.1 aL.out.2.2);have ab:=I (show X=match D7.ame tb (al8 (ms,mp,mb))with|some tb'=>D7.amy tb' ((l.drop (q+1)).map al8)|none=>none from kX);unfold al8 at ab;simp only at ab;generalize D7.ame tb ⟨ms.data.toList,mp,mb.data.toList⟩=Y at ac ab;clear sJ HX kX q0 q1 q2 HT;refine ac.mono ?_;intro e w5 hres;cases Y with
   |none=>
    obtain⟨i,er,he,rfl,hf⟩:=hres;have e0:(er==(0:Int))=false:=atQ
    have aT:=I hf;have HE:=I he;clear hf he ac;go_wp2
    refine bodyPost_ret (v:=.tuple #[.pointer none,V q,V i,V er]) (by simp[results,results6,go_sem]) rfl ?_;rw[ab.out]at HQ;exact HQ _ _ ⟨_,_,_,HE,rfl,aT⟩
   |some tb2=>
    obtain⟨rfl,nv2,ap9,h2⟩:=hres;have ao:=I h2;clear h2 ac;go_wp2_with fail
    exact⟨⟨_,q+1,tb2,nv2,ap9,rfl,by simp,by omega,ao,ab⟩,by simp[intOf];omega⟩
  .have d1:decide ((q:Int)<(n:Int))=false:=dF Zo
   have jo:decide (q<n)=false:=dF c1;have aE:¬(q:Int)<(n:Int):=Zo
   obtain rfl:q=n:=Zo
   have aC:=I (show X=some tb from by rw[HX.out,avU (by have:=HN.out;omega)];rfl);rw[aC.out]at HQ;go_wp2
   refine bodyPost_ret (v:=.tuple #[.pointer (A_ gt 0),V 0,V 0,V 0]) (by simp[results,results6,go_sem]) rfl ?_;exact HQ _ _ ⟨gt,bm,nr,NY,rfl,HT⟩
end
section
open Go.RowKit
open Tr (Nd)
attribute [local go_sem] gD stillUpon
def amW(l:List alY):Bool:=(l.all λm=>decide (m.1.size<=40)&&decide (m.2.2.size<=200))&&decide (l.length<=70)
theorem aoY{α:Type}(p:α->Bool)(l:List α)(q:Nat)(hq:q<l.length):(l.drop q).all p=(p l[q]&&(l.drop (q+1)).all p):=by
 rw[avt hq,List.all_cons]
theorem aoj(l:List alY)(A:Option Addr)(cp:Nat)(w:W_)(h:alG w A l)(hl:l.length<=maxLen):C_ 5 #[.slice A l.length cp] w λe w'=>e=.returned (.bool (amW l))/\ag w w':=by
 have H:=I h;have HL:=I hl;clear h hl;refine Calls.via λQ hQ=>?_
 have HQ:=I hQ;clear hQ;obtain⟨X,hX⟩:∃X,X=amW l:=⟨_,rfl⟩;rw[<-hX]at HQ;have HX:=I (show X=((l.drop 0).all (λm=>decide (m.1.size<=40)&&decide (m.2.2.size<=200))&&decide (l.length<=70))from hX);clear hX;obtain⟨n,hn⟩:∃n,n=l.length:=⟨_,rfl⟩;have HN:=I hn;rw[<-hn]at HX|-;clear hn;go_enter func5,ntmps5;go_wp2
 go_loopw [3] (λi av=>∃(wr:W_) (q:Nat),wr=av/\i=V q/\q<=n/\Hd (ag w wr)/\Hd (X=((l.drop q).all (λm=>decide (m.1.size<=40)&&decide (m.2.2.size<=200))&&decide (n<=70)))) (λi _=>n-(intOf i).toNat)
 case atStart=>exact⟨_,0,rfl,rfl,au1 _,I afD,HX⟩
 case round=>
  clear HX;obtain⟨wr,q,rfl,rfl,hq,HF,HX⟩:=hrel
  by_cases c1:q<n
  .have d1:decide ((q:Int)<(n:Int))=true:=dT Zo
   have jo:decide (q<n)=true:=dT c1;have aE:(q:Int)<(n:Int):=Zo
   have aa:q<l.length:=asG
   have aP:n<=maxLen:=by have:=HN.out;have:=HL.out;omega
   unfold maxLen at aP;obtain⟨g,f,rfl,hg,q0,q1,q2⟩:=(H.QH HF) q aa;have kX:=I (show X=(((decide (l[q].1.size<=40)&&decide (l[q].2.2.size<=200))&&(l.drop (q+1)).all (λm=>decide (m.1.size<=40)&&decide (m.2.2.size<=200)))&&decide (n<=70))from by rw[HX.out,aoY _ l q aa]);generalize l[q]=m at q0 q1 q2 kX;obtain⟨ms,mp,mb⟩:=m;simp only at q0 q1 q2 kX
   by_cases c2:ms.size<=40
   .have d2:decide ((ms.size:Int)>40)=false:=dF Zo
    have d2n:decide ((40:Int)<(ms.size:Int))=false:=dF Zo;have d2':decide (40<ms.size)=false:=dF Zo;have ap':¬(40:Int)<(ms.size:Int):=Zo
    by_cases c3:mb.size<=200
    .have d3:decide ((mb.size:Int)>200)=false:=dF Zo
     have d3n:decide ((200:Int)<(mb.size:Int))=false:=dF Zo;have d3':decide (200<mb.size)=false:=dF Zo;have aqa:¬(200:Int)<(mb.size:Int):=Zo
     have aQ:=I (show X=((l.drop (q+1)).all (λm=>decide (m.1.size<=40)&&decide (m.2.2.size<=200))&&decide (n<=70))from by rw[kX.out,dT c2,dT c3];rfl);go_wp2_with fail
     exact⟨⟨_,q+1,rfl,by simp,by omega,HF,aQ⟩,by simp[intOf];omega⟩
    .have d3:decide ((mb.size:Int)>200)=true:=dT Zo
     have d3n:decide ((200:Int)<(mb.size:Int))=true:=dT Zo;have d3':decide (200<mb.size)=true:=dT Zo;have aqa:(200:Int)<(mb.size:Int):=Zo
     have aQ:=I (show X=false from by rw[kX.out,dT c2,dF c3];rfl);rw[aQ.out]at HQ;go_wp2_with fail
     exact HQ _ _ ⟨rfl,HF⟩
   .have d2:decide ((ms.size:Int)>40)=true:=dT Zo
    have d2n:decide ((40:Int)<(ms.size:Int))=true:=dT Zo;have d2':decide (40<ms.size)=true:=dT Zo;have ap':(40:Int)<(ms.size:Int):=Zo
    have aQ:=I (show X=false from by rw[kX.out,dF c2];rfl);rw[aQ.out]at HQ;go_wp2_with fail
    exact HQ _ _ ⟨rfl,HF⟩
  .have d1:decide ((q:Int)<(n:Int))=false:=dF Zo
   have jo:decide (q<n)=false:=dF c1;have aE:¬(q:Int)<(n:Int):=Zo
   obtain rfl:q=n:=Zo
   have aC:=I (show X=decide ((q:Int)<=70)from by
    rw[HX.out,avU (by have:=HN.out;omega)];show decide (q<=70)=_;rw[Bool.eq_iff_iff,decide_eq_true_iff,decide_eq_true_iff];omega)
   rw[aC.out]at HQ;go_wp2_with fail
   exact HQ _ _ ⟨rfl,HF⟩
end
section
open Go.ChangeShapes Go.WideShapes Go.ChangeAt Go.RowKit
open Go.ChangeMaps (open_string shut_string)
open Tr (Nd)
open U (E aJ fB XH Jf nT)
theorem cells3{W:W_}{base:Nat}{a:Addr}{cs:List Value}(h:W.cells? base a 3=some cs):∃c0 c1 c2,cs=[c0,c1,c2]/\a.spot=none/\a.block<W.heap.size/\
  W.cell? (B_ a.block a.off)=some c0/\W.cell? (B_ a.block (a.off+1))=some c1/\W.cell? (B_ a.block (a.off+2))=some c2:=by
 obtain⟨_,hl,hc⟩:=World.cells?_some h
 match cs,hl with
 |[c0,c1,c2],_=>
  have e0:=hc 0 Pf;have e1:=hc 1 Pf;have e2:=hc 2 Pf;obtain⟨g,o,s⟩:=a
  have hs:s=none:=by
   cases s with
   |none=>rfl
   |some x=>
    simp only[avZ,if_true,List.getElem?_cons_zero]at e0;unfold World.cell? at e0;split at e0
    .simp at e0
    .cases e0
  subst hs;have hlt:=bL (a:=B_ g o) (v:=c0) (by simpa[avZ]using e0);exact⟨c0,c1,c2,rfl,rfl,hlt,by simpa[avZ]using e0,by simpa[avZ]using e1,by simpa[avZ]using e2⟩
section
variable {H:Type} {enc:TypeId×Value→H}
theorem aok{w:W_}{base:Nat}{sp:Nat->Bool}{hd:Bool}{fuel:Nat}{c0 c1 c2:Value}{y:DataW H×List MemPlace}(h:DataW.trod enc Tryz.prog w base sp hd fuel 40 [c0,c1,c2]=some y):
  ∃m:alY,c0=.string m.1/\c1=V m.2.1/\c2=.string m.2.2:=by
 obtain⟨xs,n,aa,_,_,hlen,hf⟩:=DataW.trod_struct underlying40 h;have e0:=hf 0 _ rfl;have e1:=hf 1 _ rfl;have e2:=hf 2 _ rfl
 match xs,hlen with
 |[y0,y1,y2],_=>
  obtain⟨s,g0,_⟩:=DataW.trod_string underlying9 (by exact e0);obtain⟨k,g1,_⟩:=DataW.trod_int underlying3 (by exact e1);obtain⟨b,g2,_⟩:=DataW.trod_string underlying9 (by exact e2);have hC1:Tryz.prog.cellsOf 3=1:=Pg
  have ab:Tryz.prog.cellsOf 9=1:=Pg
  simp[ab]at g0
  simp[hC1]at g1
  simp[ab]at g2
  exact⟨(s,k,b),g0,g1,g2⟩
theorem aol{w:W_}{base:Nat}{sp:Nat->Bool}{hd:Bool}{fuel:Nat}{cs:List Value}{y:DataW H×List MemPlace}(h:DataW.trod enc Tryz.prog w base sp hd fuel 22 cs=some y):
  ∃(l:List alY) (A:Option Addr) (cap:Nat),cs=[.slice A l.length cap]/\alG w A l/\l.length<=maxLen/\l.length<=cap:=by
 rcases DataW.trod_slice underlying22 h with⟨rfl,_⟩|⟨a,len,cap,elems,rest,n,hn,rfl,_,hb,hl,hm,hlen,ac,_,_⟩
 .exact⟨[],_,_,rfl,λi hi=>absurd hi (Nat.not_lt_zero _),au1 _,au1 _⟩
 .have hC:Tryz.prog.cellsOf 40=3:=by kernel_rfl
  rw[hC]at ac
  have each:∀i,i<len->∃(t:alY),a.spot=none/\a.block<w.heap.size/\w.cell? (B_ a.block (a.off+i*3))=some (.string t.1)/\w.cell? (B_ a.block (a.off+i*3+1))=some (V t.2.1)/\
    w.cell? (B_ a.block (a.off+i*3+2))=some (.string t.2.2):=by
   intro i hi;have h0:=ac i hi;rw[ave (by omega),Option.bind_eq_some_iff]at h0;obtain⟨cs',hcs,hy⟩:=h0;obtain⟨c0,c1,c2,rfl,hs,hlt,e0,e1,e2⟩:=cells3 hcs;obtain⟨m,rfl,rfl,rfl⟩:=aok hy;have hblk:(a.add (i*3)).block=a.block:=by unfold avZ;split<;>rfl
   have ab:(a.add (i*3)).off=a.off+i*3:=by
    unfold avZ;split
    .omega
    .rfl
   rw[hblk,ab]at e0 e1 e2;rw[hblk]at hlt
   have hs0:a.spot=none:=by
    have ad:=ac 0 Zo;rw[ave (by omega),Option.bind_eq_some_iff]at ad;obtain⟨cs0,ahH,_⟩:=ad;obtain⟨_,_,_,_,hs',_⟩:=cells3 ahH;simpa[avZ]using hs'
   exact⟨m,hs0,hlt,e0,e1,e2⟩
  have he:∃f:Nat->alY,∀i,i<len->a.spot=none/\a.block<w.heap.size/\w.cell? (B_ a.block (a.off+i*3))=some (.string (f i).1)/\w.cell? (B_ a.block (a.off+i*3+1))=some (V (f i).2.1)/\
    w.cell? (B_ a.block (a.off+i*3+2))=some (.string (f i).2.2):=by
   refine⟨λi=>if h:i<len then Classical.choose (each i h)else(⟨#[]⟩,0,⟨#[]⟩),λi hi=>?_⟩;simp only[dif_pos hi];exact Classical.choose_spec (each i hi)
  obtain⟨f,hf⟩:=he;have aa:((awj len).map f).length=len:=P9
  refine⟨(awj len).map f,some a,cap,by rw[aa],λi hi=>?_,by rw[aa];omega,by rw[aa];omega⟩;rw[aa]at hi;obtain⟨g,o,s⟩:=a;obtain⟨rfl,h2,h3,h4,h5⟩:=hf i hi;exact⟨g,o,rfl,h2,by simpa using h3,by simpa using h4,by simpa using h5⟩
end
theorem MG(n:Nd)(h:Tr.valid n=true):xL n=fB (nT n)/\vD n=0:=by
 have h1:=U.Fv n h;unfold xL vD Ck xg;rw[if_pos h,if_pos h,if_pos h1,if_pos h1];exact ah5
def amX:Nd:=.mk 1 [] 0 [.mk 5 [] 0 [.mk 1 [] 0 [.mk 3 [49] 0 []],.mk 1 [] 0 [.mk 3 [50] 0 []]]]
def ao4:List UInt8:=[60,109,97,116,104,62,60,109,102,114,97,99,62,60,109,114,111,119,62,60,109,110,62,49,60,47,109,110,62,60,47,109,114,111,119,62,60,109,114,111,119,62,60,109,110,62,50,60,47,109,110,62,60,47,109,114,111,119,62,60,47,109,102,114,97,99,62,60,47,109,97,116,104,62]
theorem an8:D7.alz [] [92,102,114,97,99,49,32,50]=(amX,0,0):=Pg
theorem an7.weak{W W':W_}{X:Option D7.Table}{e:Ending}(h:an7 W X e W'):∃(pt:Option Addr) (i k er:Int),e=.returned (.tuple #[.pointer pt,V i,V k,V er])/\ag W W'/\∃T,alB W' W'.heap.size T (.pointer pt):=by
 cases X with
 |none=>
  obtain⟨i,k,er,_,rfl,hf⟩:=h;exact⟨none,i,k,er,rfl,hf,[],.inl ⟨rfl,rfl⟩⟩
 |some T=>
  obtain⟨gt,bm,nr,NY,rfl,ht⟩:=h;exact⟨(A_ gt 0),0,0,0,rfl,ht.fr,T,ht.val⟩
theorem amo(w:W_):C_ 4 #[] w λe w'=>e=.returned (.bool true)/\ag w w':=by
 have HP:=I (YA ⟨#[92,102,114,97,99,49,32,50]⟩ [] none w atX Pf (by show(Lx.jr [92,102,114,97,99,49,32,50]).1.length<=8000;decide+kernel));have e0:(⟨#[92,102,114,97,99,49,32,50]⟩:Y_).data.toList=[92,102,114,97,99,49,32,50]:=rfl;rw[e0,an8]at HP;clear e0;have HX:=I (show xL amX=ao4 by decide+kernel);have HE:=I (show vD amX=0 by decide+kernel);go_enter func4,ntmps4;go_wp2_with fail
 refine HP.mono ?_;rintro _ w1 ⟨⟨A,c,rfl,ht,hf⟩,_⟩;have HF:=I (hf.alloc (.cells #[V 1,E_,V 0,.slice A 1 c] 31));have HR:=I (ht.rep.QH ((M _ w1).alloc (.cells #[V 1,E_,V 0,.slice A 1 c] 31)));have hb:=af.new w1 31 #[V 1,E_,V 0,.slice A 1 c];clear ht hf;obtain⟨q0,q1,q2,q3,_⟩:=af.QM hb;unfold nv amX;simp only[Nd.QI,Nd.QG,Nd.ah,Nd.Qx,List.length_cons,List.length_nil]at*;go_wp2_with fail
 refine(Ih amX (.slice A 1 c) _ HR Pf I_ (λ_=>by decide+kernel)).mono ?_;rintro _ w2 ⟨rfl,hf2⟩;rw[HX.out,HE.out];have bW:=I (HF.trans hf2);clear hf2 q0 q1 q2 q3 hb;unfold ao4;go_wp2
 go_ret;exact⟨ai _ _ Pf,bW⟩
theorem amY(s:Y_)(l:List alY)(A0:Option Addr)(cp:Nat)(w:W_)(h:alG w A0 l)(hl:l.length<=maxLen):
  C_ 3 #[.string s,.slice A0 l.length cp] w λe w'=>e=.returned (.bool true)/\ag w w':=by
 have H:=I h;have HL:=I hl;clear h hl;have aoZ:=I (λ(W:W_) (hf:ag w W)=>aoj l A0 cp W (H.QH hf) HL);have ab:=I (λ(W:W_) (hf:ag w W) (hc:l.length<=1000000) (hb:∀m∈l,m.1.size<=140737488355328/\m.2.2.size<=140737488355328/\(Lx.jr m.2.2.data.toList).1.length<=8000)=>aoX l A0 cp W (H.QH hf) hc hb);obtain⟨nl,hn⟩:∃nl,nl=l.length:=⟨_,rfl⟩;have HN:=I hn;rw[<-hn]at aoZ ab|-;clear hn;go_enter func3,ntmps3;go_wp2_with fail
 refine(amo _).mono ?_;rintro _ w1 ⟨rfl,hf⟩;have HF:=I hf;clear hf
 by_cases c1:s.size<=400
 case neg=>
  have d1:decide ((s.size:Int)>400)=true:=dT Zo;have jo:decide ((400:Int)<(s.size:Int))=true:=dT Zo;have aE:decide (400<s.size)=true:=dT Zo;have apG:(400:Int)<(s.size:Int):=Zo
  go_wp2_with fail
  refine(amo _).mono ?_;rintro _ w2 ⟨rfl,hf⟩;have bW:=I aq8;clear hf;go_wp2
  go_ret;exact⟨rfl,bW⟩
 have d1:decide ((s.size:Int)>400)=false:=dF Zo;have jo:decide ((400:Int)<(s.size:Int))=false:=dF Zo;have aE:decide (400<s.size)=false:=dF Zo;have apG:¬(400:Int)<(s.size:Int):=Zo
 go_wp2_with fail
 refine(aoZ _ HF).mono ?_;rintro _ w2 ⟨rfl,hf⟩;replace HF:=I aq8;clear hf aoZ;cases ad:amW l with
 |false=>
  go_wp2_with fail
  refine(amo _).mono ?_;rintro _ w3 ⟨rfl,hf⟩;have bW:=I aq8;clear hf;go_wp2
  go_ret;exact⟨rfl,bW⟩
 |true=>
 have aqb:l.length<=70:=by
  unfold amW at ad;rw[auY,decide_eq_true_iff]at ad;exact ad.2
 have ai:=I (show∀m∈l,m.1.size<=140737488355328/\m.2.2.size<=140737488355328/\(Lx.jr m.2.2.data.toList).1.length<=8000 from λm hm=>by
  unfold amW at ad;rw[auY,List.all_eq_true]at ad;have h1:=ad.1 m hm;rw[auY,decide_eq_true_iff,decide_eq_true_iff]at h1;have h2:=Lx.amq m.2.2.data.toList;have h3:m.2.2.data.toList.length=m.2.2.size:=P9
  refine⟨by omega,by omega,by omega⟩)
 have xI:=I (show s.size<=140737488355328/\(Lx.jr s.data.toList).1.length<=8000 by
  have h2:=Lx.amq s.data.toList;have h3:s.data.toList.length=s.size:=P9
  exact⟨by omega,by omega⟩)
 have aj:=I (ab w2 HF asG ai);clear ad aqb ai ab d1 jo aE apG c1;go_wp2_with fail
 refine aj.mono ?_;intro e w3 hres;obtain⟨pt,i1,k1,ar,rfl,hf,tb,hT⟩:=hres.weak;replace HF:=I aq8;have ae:=I (YA s tb pt w3 hT xI.out.1 xI.out.2);clear hres hf hT aj xI;have aI:=I (λ(hne:∀i er,D7.alv 0 tb s.data.toList=.err i er->er≠0) (h0:(D7.alz tb s.data.toList).2.2=0)=>D7.anO hne h0);generalize D7.alz tb s.data.toList=X at ae aI;obtain⟨n,pi,pe⟩:=X;go_wp2_with fail
 refine ae.mono ?_;rintro _ w4 ⟨⟨A,cap,rfl,ht,hf⟩,hne⟩;replace HF:=I (HF.trans (hf.alloc (.cells #[V n.QI,S_ n.QG,V n.ah,.slice A n.Qx.length cap] 31)));have HR:=I (ht.rep.QH ((M _ w4).alloc (.cells #[V n.QI,S_ n.QG,V n.ah,.slice A n.Qx.length cap] 31)));have HB:=I (af.new w4 31 #[V n.QI,S_ n.QG,V n.ah,.slice A n.Qx.length cap])
 have HV:=I (show pe=0->Tr.valid n=true from λh0=>by
  obtain⟨ks,q,_,h1,h2⟩:=aI.out hne h0;cases h1;exact h2)
 clear ht hf hne aI ae;unfold nv;simp only at*
 by_cases c1:ar=0
 case neg=>
  have e0:(ar==(0:Int))=false:=r_
  go_wp2
  exact asY
 subst c1
 by_cases c2:pe=0
 case neg=>
  have c2':(pe:Int)≠0:=Zo
  have e0:((pe:Int)==(0:Int))=false:=by simpa using c2
  go_wp2
  exact asY
 subst c2;have hv:=HV.out rfl;have hc:=D7.anx hv
 have ht:n.QG.length<=maxLen:=by
  rw[Tr.wF n (Tr.NM n hv).1 (Tr.NM n hv).2];exact au1 _
 obtain⟨ac,ay,av⟩:=D7.printed n hv
 have F8:=I (λ(sl:Value) (W:W_) (h:aD W n.Qx sl)=>show C_ 8 #[nv n sl] W λe w'=>e=.returned (.tuple #[S_ (qR n),V 0])/\ag W w' by
  have h2:=abn n sl W h ht hc;rw[show CL n=0 by unfold CL;rw[if_pos hv]]at h2;exact h2)
 have Cj:=I (λ(W:W_)=>show C_ 7 #[S_ (qR n),.pointer none] W λe w'=>∃A c,e=.returned (.tuple #[nv n (.slice A n.Qx.length c),V 0,V 0])/\aD w' n.Qx (.slice A n.Qx.length c)/\ag W w' by
  have h2:=YA ⟨(qR n).toArray⟩ [] none W atX (by show(qR n).length<=_;omega) (by show(Lx.jr (qR n)).1.length<=8000;omega);rw[show(⟨(qR n).toArray⟩:Y_).data.toList=qR n by simp,ac]at h2;exact h2.mono λe w' ⟨⟨A,c,he,ht,hf⟩,_⟩=>⟨A,c,he,ht.rep,hf⟩)
 have CY:=I (λ(sl:Value) (W:W_) (h:aD W n.Qx sl)=>show C_ 9 #[nv n sl] W λx w'=>x=.returned (.tuple #[S_ (fB (nT n)),V 0])/\ag W w' by
  have h2:=Ih n sl W h ht hc (λhv=>U.Mk n hv);rw[(MG n hv).1,(MG n hv).2]at h2;exact h2)
 have HIM:=I (λ(W:W_)=>RO n hv W)
 have ug:=I (λ(s1 s2:Value) (W:W_) (h:aD W n.Qx s1) (h2:aD W n.Qx s2)=>show C_ 11 #[nv n s1,nv n s2] W λe w'=>e=.returned (.bool true)/\ag W w' by
  have h3:=YX _ n n s1 s2 W PD h h2;rw[(Tr.ael n n).2 rfl]at h3;exact h3)
 generalize fB (nT n)=T at*;generalize qR n=P at*;clear hv hc ht ac ay av HV;unfold nv at*;obtain⟨J2,q01,J3,J4,_⟩:=af.QM HB;go_wp2_with fail
 generalize w4.heap.size=gn at HB J2 q01 J3 J4|-;generalize (w4.alloc (.cells #[V n.QI,S_ n.QG,V n.ah,.slice A n.Qx.length cap] 31))=w5 at HB HF HR J2 q01 J3 J4|-;refine(F8 _ _ HR).mono ?_;rintro _ w1 ⟨rfl,hf⟩;replace HF:=I aq8;replace HB:=I (hf.QN HB λh=>h);replace HR:=I (HR.QH hf);clear hf;go_wp2_with fail
 refine(Cj _).mono ?_;rintro _ w1 ⟨A1,c1,rfl,hr1,hf⟩;have hf2:=hf.alloc (.cells #[V n.QI,S_ n.QG,V n.ah,.slice A1 n.Qx.length c1] 31);replace HF:=I (HF.trans hf2);replace HB:=I (hf2.QN HB λh=>h);replace HR:=I (HR.QH hf2);have HM:=I (af.new w1 31 #[V n.QI,S_ n.QG,V n.ah,.slice A1 n.Qx.length c1]);have aa:=I (hr1.QH ((M _ w1).alloc (.cells #[V n.QI,S_ n.QG,V n.ah,.slice A1 n.Qx.length c1] 31)));clear hf hf2 hr1
 (try unfold nv)
 obtain⟨J2,q01,J3,J4,_⟩:=af.QM HB;go_wp2_with fail
 generalize w1.heap.size=gm at HM J2 q01 J3 J4|-;generalize (w1.alloc (.cells #[V n.QI,S_ n.QG,V n.ah,.slice A1 n.Qx.length c1] 31))=w6 at HB HM HF HR aa J2 q01 J3 J4|-;refine(CY _ _ HR).mono ?_;rintro _ w1 ⟨rfl,hf⟩;replace HF:=I aq8;replace HB:=I (hf.QN HB λh=>h);replace HM:=I (hf.QN HM λh=>h);replace HR:=I (HR.QH hf);replace aa:=I (aa.QH hf);clear hf;go_wp2_with fail
 refine(HIM _).mono ?_;rintro _ w1 ⟨v5,rfl,s5,rfl,hf,_,hst⟩;obtain⟨A2,c2,rfl⟩:=hst.now.slice;have hf2:=hf.alloc (.cells #[V n.QI,S_ n.QG,V n.ah,.slice A2 n.Qx.length c2] 31);replace HF:=I (HF.trans hf2);replace HB:=I (hf2.QN HB λh=>h);replace HM:=I (hf2.QN HM λh=>h);replace HR:=I (HR.QH hf2);replace aa:=I (aa.QH hf2);have HI:=I (af.new w1 31 #[V n.QI,S_ n.QG,V n.ah,.slice A2 n.Qx.length c2]);have MH:=I (hst.now.QH ((M _ w1).alloc (.cells #[V n.QI,S_ n.QG,V n.ah,.slice A2 n.Qx.length c2] 31)));clear hf hf2 hst
 (try unfold nv)
 obtain⟨J2,q01,J3,J4,_⟩:=af.QM HB;obtain⟨q10,q11,q12,q13,_⟩:=af.QM HM;go_wp2_with fail
 generalize w1.heap.size=gi at HI J2 q01 J3 J4 q10 q11 q12 q13|-;generalize (w1.alloc (.cells #[V n.QI,S_ n.QG,V n.ah,.slice A2 n.Qx.length c2] 31))=w7 at HB HM HI HF HR aa MH J2 q01 J3 J4 q10 q11 q12 q13|-;refine(ug _ _ _ aa HR).mono ?_;rintro _ w1 ⟨rfl,hf⟩;replace HF:=I aq8;replace HB:=I (hf.QN HB λh=>h);replace HM:=I (hf.QN HM λh=>h);replace HI:=I (hf.QN HI λh=>h);replace HR:=I (HR.QH hf);replace aa:=I (aa.QH hf);replace MH:=I (MH.QH hf);clear hf;obtain⟨J2,q01,J3,J4,_⟩:=af.QM HB;obtain⟨q10,q11,q12,q13,_⟩:=af.QM HI;go_wp2_with fail
 refine(ug _ _ _ MH HR).mono ?_;rintro _ w1 ⟨rfl,hf⟩;replace HF:=I aq8;replace HR:=I (HR.QH hf);replace aa:=I (aa.QH hf);replace MH:=I (MH.QH hf);clear hf;go_wp2
 exact asY
theorem amx(os:Os)(started:os.Started)(H:Type)(enc:TypeId×Value->H):
  ReturnsInHanded {} Tryz.checked os 3 .any (λw args=>(Rows.wholeMacrosSpec.pre enc Tryz.prog Tryz.f3 Rows.wholeMacrosRow.domain false w args/\laidMetH Tryz.prog Rows.wholeMacrosRow.laid w)/\sizedMet enc Tryz.prog Tryz.f3 (OpenSpec.ofChange Rows.wholeMacrosSpec) false w args)
   (Rows.wholeMacrosSpec.post enc Tryz.prog Tryz.f3 false true false false):=by
 refine returnsInHanded_of_change_and (C:=Tryz.checked) (X:=λw _=>laidMetH Tryz.prog Rows.wholeMacrosRow.laid w) (λ_ _ _ hh h=>h.of_heap hh) Tryz.ownKnob started Pg func3
  (ChangeSpec.witness_shaped (enc:=enc) (C:=Tryz.checked) (os:=os) (X:=λw _=>laidMetH Tryz.prog Rows.wholeMacrosRow.laid w) false (World.laidAll Tryz.prog os Rows.wholeMacrosRow.laid) #[E_,N_] 8 (World.laidAll_os _ _ _)
   (World.shaped_of_ZipB Pg Pg) Pg Pg Pg
   (by rw[MakeChecks.laidMetH_plain _ _ _ (by kernel_rfl)];exact laidMet_laidAll _ Pg Pg)) ?_
 intro W base args ds gs before aa hW _ _ _ _;have hval:∀(j:Nat) t v,Tryz.f3.params[j]?=some t->args[j]?=some v->Value.okWide Tryz.prog W .any base t v:=aa;have hW':=hW;obtain⟨p,q,Mr,hV,rfl,an,hnd⟩:=hW;have hA:DataW.TrodAll enc Tryz.prog W 0 (λ_=>true) true Tryz.f3.params.toList args.toList ds p:=Mr;rw[params3]at hA hval;obtain⟨v0,v1,d0,d1,p0,p1,rfl,rfl,rfl,h0,h1⟩:=trodAll_two hA;obtain⟨rfl,rfl⟩:=trodVars_none hV;obtain⟨s0,rfl,_,_,_⟩:=open_string underlying9 (hval 0 9 v0 rfl rfl) h0;obtain⟨a1,n1,c1,rfl⟩:=okWide_slice underlying22 (hval 1 22 v1 rfl rfl);obtain⟨f1,ae⟩:=h1;obtain⟨l,A,cap,e1,hm,hl,_⟩:=aol ae;simp[Value.cells]at e1
 obtain⟨rfl,rfl,rfl⟩:=e1;refine(amY s0 l a1 c1 W hm hl).mono λe W' ⟨he,hw⟩=>?_
 exact⟨_,he,YP Tryz.laidOut underlying4 Pg Pg rfl rfl hW' hw⟩
theorem amB:Rows.WholeMacrosSaid:=
 OpenClaim.holds_of_wide 3 Tryz.f3 rfl rfl rfl rfl rfl rfl rfl ⟨rfl,rfl,rfl,rfl,rfl⟩ rfl rfl rfl rfl rfl Pg func3 Pg
  (of_decide_eq_true Pg) (by unfold Func.isWrapper;first|(rw[if_pos (by decide+kernel)];kernel_rfl)|(rw[if_neg (by decide+kernel)];exact⟨rfl,rfl⟩))
  (λos started H enc _=>amx os started H enc)
theorem WholeMacros_card:Rows.WholeMacrosCardSaid:=
 Claim7.holds_tied_plain_at .later [] [.data,.pinned] true _ true amB aub Pg aub wholeMacros_row_tie rfl ⟨rfl,rfl⟩ Pg Pg
  (λf fn hf hfn=>by
   obtain rfl:f=3:=Option.some.inj ((show Tryz.prog.funcNamed Rows.wholeMacrosRow.func=some 3 by kernel_rfl).symm.trans hf)|>.symm
   obtain rfl:fn=Tryz.f3:=(Option.some.inj (func3.symm.trans hfn)).symm
   exact⟨by kernel_rfl,λj t ht=>by
    have hm:=Array.mem_of_getElem? ht;have hall:(Tryz.f3.params.toList.all λu=>!Tryz.prog.wantsStandIn u)=true:=Pg
    exact(show Tryz.prog.wantsStandIn t=false by simpa using List.all_eq_true.1 hall t (by simpa using hm))⟩)
  Pg
end
end Go.Proofs.YtabjglnjjdcfmaaGreatDoor
