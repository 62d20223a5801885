/- Part 18 of 41 of a proof. No condition. -/
import Derived.Test.YtabjglnjjdcfmaaGreatDoorWe17
set_option maxRecDepth 100000
set_option maxHeartbeats 3000000
namespace Go.Proofs.YtabjglnjjdcfmaaGreatDoor
open _root_.Go.Proofs.Tryz
section
open Go.RowKit
open Tr (Nd)
open U (E aJ fJ dX bN eG)
attribute [local go_sem] gD stillUpon
theorem aam(w:W_)(g:Nat)(a b c d:Value):(aO w g a b c d).heap.size=w.heap.size:=by simp[aO,World.setCell]
theorem Fj{w w3:W_}(hF:ag w w3){z0 z1 z2 z3:Value}(hR:af w3 w.heap.size 31 #[z0,z1,z2,z3])(k c:Int)(t:List UInt8)(ms:List Nd)(cs:Array Value)(m:Nat)(ht:t.length<=maxLen)
  (ahc:∀W,Touch (λi=>i<=w.heap.size) w3 W->af W w3.heap.size 31 cs->aD W ms (.slice (A_ w3.heap.size 0) m m)):
  let W9:=(aO w3 w.heap.size (V k) (S_ t) (V c) (.slice (A_ w3.heap.size 0) m m)).alloc (.cells cs 31)
  nW w W9 (.mk k t c ms) (.agg #[V k,S_ t,V c,.slice (A_ w3.heap.size 0) m m])/\
   W9.cell? (B_ w.heap.size 0)=some (V k)/\W9.cell? (B_ w.heap.size 1)=some (S_ t)/\W9.cell? (B_ w.heap.size 2)=some (V c)/\W9.cell? (B_ w.heap.size 3)=some (.slice (A_ w3.heap.size 0) m m):=by
 intro W9;have hb:=(hR.gH (V k) (S_ t) (V c) (.slice (A_ w3.heap.size 0) m m)).alloc (.cells cs 31);obtain⟨r0,r1,r2,r3,_,_,_,_,_⟩:=af.QM hb;have hT:Touch (λi=>i=w.heap.size) w3 W9:=((M (λi=>i=w.heap.size) w3).aO (g:=w.heap.size) Wh _ _ _ _).alloc _
 have hn:af W9 w3.heap.size 31 cs:=by
  have:=af.new (aO w3 w.heap.size (V k) (S_ t) (V c) (.slice (A_ w3.heap.size 0) m m)) 31 cs;rw[aam]at this;exact this
 have hlt:=hR.lt;refine⟨⟨_,rfl,hF.trans' hT (λi hi=>.inr (by have hi:i=w.heap.size:=hi;omega)),ht,λW hW=>?_⟩,r0,r1,r2,r3⟩;refine ahc W (hT.join hW (λi _ hi=>by have hi:i=w.heap.size:=hi;omega) atZ) (hW.QN hn Zo)
theorem aeV(a:aJ)(ks:List E)(t:List UInt8)(g o:Nat)(va vk:Value)(w:W_)(he:gZ w g o (.mk ([109,105]) a ks t) va vk):C_ 79 #[.pointer (A_ g o)] w λx w'=>∃v,x=.returned v/\nW w w' (dX (.mk ([109,105]) a ks t)) v:=by
 obtain⟨A,ca,aa⟩:=he.2.2.2.2.2.1.slice;obtain⟨B,cb,ac⟩:=he.2.2.2.2.2.2.1.slice;replace aa:va=.slice A a.length ca:=aa;replace ac:vk=.slice B ks.length cb:=ac;subst aa;subst ac;have au:t.length<=maxLen:=he.2.2.2.2.2.2.2.2;have wL:=I au;have HE:=I he;obtain⟨hg0,a0,a1,a2,a3,_⟩:=he;replace a0:w.cell? (B_ g o)=some (.string ⟨#[109,105]⟩):=a0;replace a2:w.cell? (B_ g (o+2))=some (.slice B ks.length cb):=a2;replace a3:w.cell? (B_ g (o+3))=some (S_ t):=a3;go_enter func79,ntmps79;go_wp2_with fail
 have jV:=I abR;have aj:=(M (λ_=>False) w).alloc (.cells ZN 31);have hg1:=jV.lt;have jQ:=I aj;have kI:=I anN;generalize w.alloc (.cells ZN 31)=W1 at*;clear aj hg0 a0 a1 a2 a3;obtain⟨hg0,a0,a1,a2,a3,_⟩:=kI.out;replace a0:W1.cell? (B_ g o)=some (.string ⟨#[109,105]⟩):=a0;replace a2:W1.cell? (B_ g (o+2))=some (.slice B ks.length cb):=a2;replace a3:W1.cell? (B_ g (o+3))=some (S_ t):=a3;refine(uG [109,105] 2 aob _).mono ?_;rintro _ w2 ⟨rfl,hw2⟩;replace hw2:=hw2.symm;subst hw2;obtain⟨y0,y1,y2,y3,z0,z1,z2,z3,hgr⟩:=af.QM jV;go_wp2_with fail
 exact V_
theorem aeW(a:aJ)(ks:List E)(t:List UInt8)(g o:Nat)(va vk:Value)(w:W_)(he:gZ w g o (.mk ([109,111]) a ks t) va vk):C_ 79 #[.pointer (A_ g o)] w λx w'=>∃v,x=.returned v/\nW w w' (dX (.mk ([109,111]) a ks t)) v:=by
 obtain⟨A,ca,aa⟩:=he.2.2.2.2.2.1.slice;obtain⟨B,cb,ac⟩:=he.2.2.2.2.2.2.1.slice;replace aa:va=.slice A a.length ca:=aa;replace ac:vk=.slice B ks.length cb:=ac;subst aa;subst ac;have au:t.length<=maxLen:=he.2.2.2.2.2.2.2.2;have wL:=I au;have HE:=I he;obtain⟨hg0,a0,a1,a2,a3,_⟩:=he;replace a0:w.cell? (B_ g o)=some (.string ⟨#[109,111]⟩):=a0;replace a2:w.cell? (B_ g (o+2))=some (.slice B ks.length cb):=a2;replace a3:w.cell? (B_ g (o+3))=some (S_ t):=a3;go_enter func79,ntmps79;go_wp2_with fail
 have jV:=I abR;have aj:=(M (λ_=>False) w).alloc (.cells ZN 31);have hg1:=jV.lt;have jQ:=I aj;have kI:=I anN;generalize w.alloc (.cells ZN 31)=W1 at*;clear aj hg0 a0 a1 a2 a3;obtain⟨hg0,a0,a1,a2,a3,_⟩:=kI.out;replace a0:W1.cell? (B_ g o)=some (.string ⟨#[109,111]⟩):=a0;replace a2:W1.cell? (B_ g (o+2))=some (.slice B ks.length cb):=a2;replace a3:W1.cell? (B_ g (o+3))=some (S_ t):=a3;refine(uG [109,111] 2 aob _).mono ?_;rintro _ w2 ⟨rfl,hw2⟩;replace hw2:=hw2.symm;subst hw2;obtain⟨y0,y1,y2,y3,z0,z1,z2,z3,hgr⟩:=af.QM jV;go_wp2_with fail
 exact V_
theorem aeX(a:aJ)(ks:List E)(t:List UInt8)(g o:Nat)(va vk:Value)(w:W_)(he:gZ w g o (.mk ([109,110]) a ks t) va vk):C_ 79 #[.pointer (A_ g o)] w λx w'=>∃v,x=.returned v/\nW w w' (dX (.mk ([109,110]) a ks t)) v:=by
 obtain⟨A,ca,aa⟩:=he.2.2.2.2.2.1.slice;obtain⟨B,cb,ac⟩:=he.2.2.2.2.2.2.1.slice;replace aa:va=.slice A a.length ca:=aa;replace ac:vk=.slice B ks.length cb:=ac;subst aa;subst ac;have au:t.length<=maxLen:=he.2.2.2.2.2.2.2.2;have wL:=I au;have HE:=I he;obtain⟨hg0,a0,a1,a2,a3,_⟩:=he;replace a0:w.cell? (B_ g o)=some (.string ⟨#[109,110]⟩):=a0;replace a2:w.cell? (B_ g (o+2))=some (.slice B ks.length cb):=a2;replace a3:w.cell? (B_ g (o+3))=some (S_ t):=a3;go_enter func79,ntmps79;go_wp2_with fail
 have jV:=I abR;have aj:=(M (λ_=>False) w).alloc (.cells ZN 31);have hg1:=jV.lt;have jQ:=I aj;have kI:=I anN;generalize w.alloc (.cells ZN 31)=W1 at*;clear aj hg0 a0 a1 a2 a3;obtain⟨hg0,a0,a1,a2,a3,_⟩:=kI.out;replace a0:W1.cell? (B_ g o)=some (.string ⟨#[109,110]⟩):=a0;replace a2:W1.cell? (B_ g (o+2))=some (.slice B ks.length cb):=a2;replace a3:W1.cell? (B_ g (o+3))=some (S_ t):=a3;refine(uG [109,110] 3 aob _).mono ?_;rintro _ w2 ⟨rfl,hw2⟩;replace hw2:=hw2.symm;subst hw2;obtain⟨y0,y1,y2,y3,z0,z1,z2,z3,hgr⟩:=af.QM jV;go_wp2_with fail
 obtain⟨r0,r1,r2,r3,_,_,_,_,_⟩:=af.QM (jV.gH (V 3) (S_ t) (V 0) (N_));simp only[aO]at r0 r1 r2 r3;refine bodyPost_ret (v:=.agg #[V 3,S_ t,V 0,N_]) EP rfl ?_;exact atJ
theorem XQ(a:aJ)(ks:List E)(t:List UInt8)(g o:Nat)(va vk:Value)(w:W_)(he:gZ w g o (.mk ([109,116,101,120,116]) a ks t) va vk):C_ 79 #[.pointer (A_ g o)] w λx w'=>∃v,x=.returned v/\nW w w' (dX (.mk ([109,116,101,120,116]) a ks t)) v:=by
 obtain⟨A,ca,aa⟩:=he.2.2.2.2.2.1.slice;obtain⟨B,cb,ac⟩:=he.2.2.2.2.2.2.1.slice;replace aa:va=.slice A a.length ca:=aa;replace ac:vk=.slice B ks.length cb:=ac;subst aa;subst ac;have au:t.length<=maxLen:=he.2.2.2.2.2.2.2.2;have wL:=I au;have HE:=I he;obtain⟨hg0,a0,a1,a2,a3,_⟩:=he;replace a0:w.cell? (B_ g o)=some (.string ⟨#[109,116,101,120,116]⟩):=a0;replace a2:w.cell? (B_ g (o+2))=some (.slice B ks.length cb):=a2;replace a3:w.cell? (B_ g (o+3))=some (S_ t):=a3;go_enter func79,ntmps79;go_wp2_with fail
 have jV:=I abR;have aj:=(M (λ_=>False) w).alloc (.cells ZN 31);have hg1:=jV.lt;have jQ:=I aj;have kI:=I anN;generalize w.alloc (.cells ZN 31)=W1 at*;clear aj hg0 a0 a1 a2 a3;obtain⟨hg0,a0,a1,a2,a3,_⟩:=kI.out;replace a0:W1.cell? (B_ g o)=some (.string ⟨#[109,116,101,120,116]⟩):=a0;replace a2:W1.cell? (B_ g (o+2))=some (.slice B ks.length cb):=a2;replace a3:W1.cell? (B_ g (o+3))=some (S_ t):=a3;refine(uG [109,116,101,120,116] 4 aob _).mono ?_;rintro _ w2 ⟨rfl,hw2⟩;replace hw2:=hw2.symm;subst hw2;obtain⟨y0,y1,y2,y3,z0,z1,z2,z3,hgr⟩:=af.QM jV;go_wp2_with fail
 obtain⟨r0,r1,r2,r3,_,_,_,_,_⟩:=af.QM (jV.gH (V 4) (S_ t) (V 0) (N_));simp only[aO]at r0 r1 r2 r3;refine bodyPost_ret (v:=.agg #[V 4,S_ t,V 0,N_]) EP rfl ?_;exact atJ
theorem XR(a:aJ)(ks:List E)(t:List UInt8)(x:E)(hx:ks=[x])(hc:oz x)(ab:∀y∈x.Qx,U.oq y=true/\y.name∈nY)(aB:U.count x<=100000)(g o:Nat)(va vk:Value)(w:W_)(he:gZ w g o (.mk ([109,115,113,114,116]) a ks t) va vk):C_ 79 #[.pointer (A_ g o)] w λx w'=>∃v,x=.returned v/\nW w w' (dX (.mk ([109,115,113,114,116]) a ks t)) v:=by
 obtain⟨A,ca,aa⟩:=he.2.2.2.2.2.1.slice;obtain⟨B,cb,ac⟩:=he.2.2.2.2.2.2.1.slice;replace aa:va=.slice A a.length ca:=aa;replace ac:vk=.slice B ks.length cb:=ac;subst aa;subst ac;have au:t.length<=maxLen:=he.2.2.2.2.2.2.2.2;have wL:=I au;have HE:=I he;obtain⟨hg0,a0,a1,a2,a3,_⟩:=he;replace a0:w.cell? (B_ g o)=some (.string ⟨#[109,115,113,114,116]⟩):=a0;replace a2:w.cell? (B_ g (o+2))=some (.slice B ks.length cb):=a2;replace a3:w.cell? (B_ g (o+3))=some (S_ t):=a3;have hlk:ks.length=1:=aru
 have acD:(0:Int)<(ks.length:Int):=Zo
 have acE:0<ks.length:=Zo
 have HX:=I hx;have HC:=I hc;have jJ:=I ab;clear hx hc ab;have KC:=I (show dX (.mk ([109,115,113,114,116]) a ks t)=.mk 6 [] 0 [U.kK,eG x] by rw[HX.out,U.zi];show Nd.mk 6 [] 0 (U.kK::(U.iN [x]).take 1)=_;rw[U.sK];rfl);rw[KC.out];go_enter func79,ntmps79;go_wp2_with fail
 have jV:=I abR;have aj:=(M (λ_=>False) w).alloc (.cells ZN 31);have hg1:=jV.lt;have jQ:=I aj;have kI:=I anN;generalize w.alloc (.cells ZN 31)=W1 at*;clear aj hg0 a0 a1 a2 a3;obtain⟨hg0,a0,a1,a2,a3,_⟩:=kI.out;replace a0:W1.cell? (B_ g o)=some (.string ⟨#[109,115,113,114,116]⟩):=a0;replace a2:W1.cell? (B_ g (o+2))=some (.slice B ks.length cb):=a2;replace a3:W1.cell? (B_ g (o+3))=some (S_ t):=a3;refine(uG [109,115,113,114,116] 0 aob _).mono ?_;rintro _ w2 ⟨rfl,hw2⟩;replace hw2:=hw2.symm;subst hw2;obtain⟨gk,ok,xa,xk,rfl,jW⟩:=(show gK W1 ks _ from kI.out.2.2.2.2.2.2.1).yw 0 Zo;have AL:=I X_;clear jW hlk;go_wp2_with fail
 refine(HC gk ok xa xk _ AL jJ aB).mono ?_;rintro _ w3 ⟨v3,rfl,sl,rfl,hf3,_,qd⟩;obtain⟨Ar,cr,rfl⟩:=qd.now.slice;have bJ:=I (jQ.trans hf3);have an:=I (hf3.QN jV λh=>h);have zh:=I (show dz (λk=>k<W1.heap.size) w3 λW=>aD W (bN x.Qx) (.slice Ar (bN x.Qx).length cr)from qd);have hz3:=hf3.size;unfold nv;simp only[eG,Nd.QI,Nd.QG,Nd.ah,Nd.Qx]at*;clear qd hf3 a0 a1 a2 a3;obtain⟨y0,y1,y2,y3,z0,z1,z2,z3,hgr⟩:=af.QM an;go_wp2_with fail
 obtain⟨hM,r0,r1,r2,r3⟩:=Fj bJ an 6 0 [] [U.kK,.mk 1 [] 0 (bN x.Qx)] #[V 1,E_,V 0,N_,V 1,E_,V 0,.slice Ar (bN x.Qx).length cr] 2 JI
  λW hW hB=>aD.acA hB JI JI (aD.nil _ _) (zh W (hW.mono λi hi=>by omega))
 exact ah9
theorem XT(a:aJ)(ks:List E)(t:List UInt8)(x:E)(hx:ks=[x])(hc:oz x)(ab:∀y∈x.Qx,U.oq y=true/\y.name∈nY)(aB:U.count x<=100000)(av:List UInt8)(L6:fJ a U.ji=av)(ae:av.length<=maxLen)(g o:Nat)(va vk:Value)(w:W_)(he:gZ w g o (.mk ([109,111,118,101,114]) a ks t) va vk):C_ 79 #[.pointer (A_ g o)] w λx w'=>∃v,x=.returned v/\nW w w' (dX (.mk ([109,111,118,101,114]) a ks t)) v:=by
 obtain⟨A,ca,aa⟩:=he.2.2.2.2.2.1.slice;obtain⟨B,cb,ac⟩:=he.2.2.2.2.2.2.1.slice;replace aa:va=.slice A a.length ca:=aa;replace ac:vk=.slice B ks.length cb:=ac;subst aa;subst ac;have au:t.length<=maxLen:=he.2.2.2.2.2.2.2.2;have wL:=I au;have HE:=I he;obtain⟨hg0,a0,a1,a2,a3,_⟩:=he;replace a0:w.cell? (B_ g o)=some (.string ⟨#[109,111,118,101,114]⟩):=a0;replace a2:w.cell? (B_ g (o+2))=some (.slice B ks.length cb):=a2;replace a3:w.cell? (B_ g (o+3))=some (S_ t):=a3;have hlk:ks.length=1:=aru
 have acD:(0:Int)<(ks.length:Int):=Zo
 have acE:0<ks.length:=Zo
 have HX:=I hx;have HC:=I hc;have jJ:=I ab;clear hx hc ab;have Hz:=I L6;have Rt:=I ae;clear L6 ae;have KC:=I (show dX (.mk ([109,111,118,101,114]) a ks t)=.mk 10 av 0 [eG x] by rw[HX.out,U.zi];show Nd.mk 10 (fJ a U.ji) 0 ((U.iN [x]).take 1)=_;rw[U.sK,Hz.out];rfl);rw[KC.out];go_enter func79,ntmps79;go_wp2_with fail
 have jV:=I abR;have aj:=(M (λ_=>False) w).alloc (.cells ZN 31);have hg1:=jV.lt;have jQ:=I aj;have kI:=I anN;generalize w.alloc (.cells ZN 31)=W1 at*;clear aj hg0 a0 a1 a2 a3;obtain⟨hg0,a0,a1,a2,a3,_⟩:=kI.out;replace a0:W1.cell? (B_ g o)=some (.string ⟨#[109,111,118,101,114]⟩):=a0;replace a2:W1.cell? (B_ g (o+2))=some (.slice B ks.length cb):=a2;replace a3:W1.cell? (B_ g (o+3))=some (S_ t):=a3;refine(uG [109,111,118,101,114] 0 aob _).mono ?_;rintro _ w2 ⟨rfl,hw2⟩;replace hw2:=hw2.symm;subst hw2;obtain⟨gk,ok,xa,xk,rfl,jW⟩:=(show gK W1 ks _ from kI.out.2.2.2.2.2.2.1).yw 0 Zo;have AL:=I X_;clear jW hlk;go_wp2_with fail
 have k2:=cR a2;refine cu [([(0,true),(2,true),(3,true),(4,true),(5,true),(6,true),(1,false),(7,false),(8,false),(9,true)],10)] [] Pg Ph Pg ?_;refine dJ ?_
 repeat(refine Z4 ?_)
 refine aS rfl (λK hK=>?_);go_wp2_with fail
 refine(show Calls _ _ _ _ (λx w'=>x=.returned (S_ av)/\ag _ w')from Hz▸zl _ U.ji g o _ _ _ (kI.QH ((M _ _).drewN 1))).mono ?_;rintro _ w2 ⟨rfl,hf2⟩;have bW:=I auM;clear hf2;go_wp2
 refine hK _ _ (aA bW) ?_;clear hK K;refine aS rfl (λK hK=>?_);go_wp2_with fail
 refine(HC gk ok xa xk _ (AL.QH bW) jJ aB).mono ?_;rintro _ w3 ⟨v3,rfl,sl,rfl,hf3,_,qd⟩;obtain⟨Ar,cr,rfl⟩:=qd.now.slice;have bJ:=I aro;have hz2:=bW.size;have zh:=I abx;unfold nv;simp only[eG,Nd.QI,Nd.QG,Nd.ah,Nd.Qx]at*;clear qd hf3 k2 hz2;go_wp2
 refine hK _ _ (aA bJ) ?_;clear hK K;refine aS rfl (λK hK=>?_);go_wp2
 refine hK _ _ (aA (bJ.alloc _)) ?_;clear hK K
 repeat(refine Z4 ?_)
 have an:=I (bJ.QN jV λh=>h);have gL:=I (jQ.trans bJ);clear hg0 a0 a1 a2 a3 hg1;obtain⟨y0,y1,y2,y3,z0,z1,z2,z3,hgr⟩:=af.QM an;refine dm rfl (λK hK=>?_);go_wp2_with fail
 refine fH ?_;go_wp2_with fail
 obtain⟨hM,r0,r1,r2,r3⟩:=Fj gL an 10 0 av [.mk 1 [] 0 (bN x.Qx)] #[V 1,E_,V 0,.slice Ar (bN x.Qx).length cr] 1 Rt
  λW hW hB=>aD.acz (s:=[]) hB JI (zh W hW)
 have HM:=I hM;clear hM;simp only[aO]at r0 r1 r2 r3 HM;refine bodyPost_ret (v:=.agg #[V 10,S_ av,V 0,.slice (A_ w3.heap.size 0) 1 1]) EP rfl ?_;exact⟨_,rfl,HM⟩
theorem XW(a:aJ)(ks:List E)(t:List UInt8)(x y:E)(hx:ks=[x,y])(hc:oz x)(hd:oz y)(ab:∀z∈x.Qx,U.oq z=true/\z.name∈nY)(ad:∀z∈y.Qx,U.oq z=true/\z.name∈nY)(aB:U.count x<=100000)(aiR:U.count y<=100000)(g o:Nat)(va vk:Value)(w:W_)(he:gZ w g o (.mk ([109,114,111,111,116]) a ks t) va vk):C_ 79 #[.pointer (A_ g o)] w λx w'=>∃v,x=.returned v/\nW w w' (dX (.mk ([109,114,111,111,116]) a ks t)) v:=by
 obtain⟨A,ca,aa⟩:=he.2.2.2.2.2.1.slice;obtain⟨B,cb,ac⟩:=he.2.2.2.2.2.2.1.slice;replace aa:va=.slice A a.length ca:=aa;replace ac:vk=.slice B ks.length cb:=ac;subst aa;subst ac;have au:t.length<=maxLen:=he.2.2.2.2.2.2.2.2;have wL:=I au;have HE:=I he;obtain⟨hg0,a0,a1,a2,a3,_⟩:=he;replace a0:w.cell? (B_ g o)=some (.string ⟨#[109,114,111,111,116]⟩):=a0;replace a2:w.cell? (B_ g (o+2))=some (.slice B ks.length cb):=a2;replace a3:w.cell? (B_ g (o+3))=some (S_ t):=a3;have hlk:ks.length=2:=aru
 have acD:(0:Int)<(ks.length:Int):=Zo
 have hlk2:(1:Int)<(ks.length:Int):=Zo
 have acE:0<ks.length:=Zo
 have akJ:1<ks.length:=Zo
 have HX:=I hx;have HC:=I hc;have HD:=I hd;have jJ:=I ab;have aiS:=I ad;clear hx hc hd ab ad;have KC:=I (show dX (.mk ([109,114,111,111,116]) a ks t)=.mk 6 [] 0 [eG y,eG x] by rw[HX.out,U.zi];show Nd.mk 6 [] 0 (((U.iN [x,y]).drop 1).take 1++(U.iN [x,y]).take 1)=_;rw[U.sK];rfl);rw[KC.out];go_enter func79,ntmps79;go_wp2_with fail
 have jV:=I abR;have aj:=(M (λ_=>False) w).alloc (.cells ZN 31);have hg1:=jV.lt;have jQ:=I aj;have kI:=I anN;generalize w.alloc (.cells ZN 31)=W1 at*;clear aj hg0 a0 a1 a2 a3;obtain⟨hg0,a0,a1,a2,a3,_⟩:=kI.out;replace a0:W1.cell? (B_ g o)=some (.string ⟨#[109,114,111,111,116]⟩):=a0;replace a2:W1.cell? (B_ g (o+2))=some (.slice B ks.length cb):=a2;replace a3:W1.cell? (B_ g (o+3))=some (S_ t):=a3;refine(uG [109,114,111,111,116] 0 aob _).mono ?_;rintro _ w2 ⟨rfl,hw2⟩;replace hw2:=hw2.symm;subst hw2;obtain⟨gk,ok,xa,xk,aL,jW⟩:=(show gK W1 ks _ from kI.out.2.2.2.2.2.2.1).yw 0 Zo;obtain⟨gk',ok',ya,yk,ae,af2⟩:=(show gK W1 ks _ from kI.out.2.2.2.2.2.2.1).yw 1 Zo;rw[aL]at ae;obtain⟨rfl,rfl⟩:gk=gk'/\ok=ok':=by cases ae;exact⟨rfl,rfl⟩
 subst aL;have AL:=I X_;have aiT:=I (show gZ W1 gk (ok+4) y ya yk from by have hx:=HX.out;subst hx;simpa using af2);clear jW af2 hlk ae;go_wp2_with fail
 have k2:=cR a2;refine cu [([(0,true),(1,true),(2,true),(3,true),(4,true),(6,true),(7,true),(8,true),(9,true),(10,true),(5,false),(11,false),(12,false),(13,true)],14)] [] Pg Ph Pg ?_;refine dJ ?_
 repeat(refine Z4 ?_)
 refine aS rfl (λK hK=>?_);go_wp2_with fail
 refine(HD gk (ok+4) ya yk _ (aiT.QH ((M _ _).drewN 1)) aiS aiR).mono ?_;rintro _ w2 ⟨v2,rfl,sl2,rfl,hf2,_,Rj⟩;obtain⟨As,cs,rfl⟩:=Rj.now.slice;have bW:=I auM;have aiU:=I (show dz (λk=>k<=w.heap.size) w2 λW=>aD W (bN y.Qx) (.slice As (bN y.Qx).length cs)from(show dz (λk=>k<W1.heap.size) w2 λW=>aD W (bN y.Qx) (.slice As (bN y.Qx).length cs)from Rj).mono λk _ hk=>by omega);unfold nv;simp only[eG,Nd.QI,Nd.QG,Nd.ah,Nd.Qx]at*;clear hf2 Rj;go_wp2
 refine hK _ _ (aA bW) ?_;clear hK K;refine aS rfl (λK hK=>?_);go_wp2_with fail
 refine(HC gk ok xa xk _ (AL.QH bW) jJ aB).mono ?_;rintro _ w3 ⟨v3,rfl,sl,rfl,hf3,_,qd⟩;obtain⟨Ar,cr,rfl⟩:=qd.now.slice;have bJ:=I aro;have hz2:=bW.size;have zh:=I abx;have Kz:=I (aiU.QH hf3);unfold nv;simp only[eG,Nd.QI,Nd.QG,Nd.ah,Nd.Qx]at*;clear qd hf3 k2 hz2;go_wp2
 refine hK _ _ (aA bJ) ?_;clear hK K;refine aS rfl (λK hK=>?_);go_wp2
 refine hK _ _ (aA (bJ.alloc _)) ?_;clear hK K
 repeat(refine Z4 ?_)
 have an:=I (bJ.QN jV λh=>h);have gL:=I (jQ.trans bJ);clear hg0 a0 a1 a2 a3 hg1;obtain⟨y0,y1,y2,y3,z0,z1,z2,z3,hgr⟩:=af.QM an;refine dm rfl (λK hK=>?_);go_wp2_with fail
 refine fH ?_;go_wp2_with fail
 obtain⟨hM,r0,r1,r2,r3⟩:=Fj gL an 6 0 [] [.mk 1 [] 0 (bN y.Qx),.mk 1 [] 0 (bN x.Qx)] #[V 1,E_,V 0,.slice As (bN y.Qx).length cs,V 1,E_,V 0,.slice Ar (bN x.Qx).length cr] 2 JI
  λW hW hB=>aD.acA hB JI JI (Kz W hW) (zh W hW)
 exact ah9
theorem RG(a:aJ)(ks:List E)(t:List UInt8)(x:E)(hx:ks=[x])(hc:oz x)(ab:∀y∈x.Qx,U.oq y=true/\y.name∈nY)(aB:U.count x<=100000)(av bv:List UInt8)(L6:fJ a U.qH=av)(ar:fJ a U.nR=bv)(ae:av.length=1)(hbl:bv.length=1)(g o:Nat)(va vk:Value)(w:W_)(he:gZ w g o (.mk ([109,102,101,110,99,101,100]) a ks t) va vk):C_ 79 #[.pointer (A_ g o)] w λx w'=>∃v,x=.returned v/\nW w w' (dX (.mk ([109,102,101,110,99,101,100]) a ks t)) v:=by
 obtain⟨A,ca,aa⟩:=he.2.2.2.2.2.1.slice;obtain⟨B,cb,ac⟩:=he.2.2.2.2.2.2.1.slice;replace aa:va=.slice A a.length ca:=aa;replace ac:vk=.slice B ks.length cb:=ac;subst aa;subst ac;have au:t.length<=maxLen:=he.2.2.2.2.2.2.2.2;have wL:=I au;have HE:=I he;obtain⟨hg0,a0,a1,a2,a3,_⟩:=he;replace a0:w.cell? (B_ g o)=some (.string ⟨#[109,102,101,110,99,101,100]⟩):=a0;replace a2:w.cell? (B_ g (o+2))=some (.slice B ks.length cb):=a2;replace a3:w.cell? (B_ g (o+3))=some (S_ t):=a3;have hlk:ks.length=1:=aru
 have acD:(0:Int)<(ks.length:Int):=Zo
 have acE:0<ks.length:=Zo
 have HX:=I hx;have HC:=I hc;have jJ:=I ab;clear hx hc ab;have Hz:=I L6;have kW:=I ar;clear L6 ar;have KC:=I (show dX (.mk ([109,102,101,110,99,101,100]) a ks t)=.mk 11 (av++bv) 0 [eG x] by rw[HX.out,U.zi];show Nd.mk 11 (fJ a U.qH++fJ a U.nR) 0 ((U.iN [x]).take 1)=_;rw[U.sK,Hz.out,kW.out];rfl);rw[KC.out];go_enter func79,ntmps79;go_wp2_with fail
 have jV:=I abR;have aj:=(M (λ_=>False) w).alloc (.cells ZN 31);have hg1:=jV.lt;have jQ:=I aj;have kI:=I anN;generalize w.alloc (.cells ZN 31)=W1 at*;clear aj hg0 a0 a1 a2 a3;obtain⟨hg0,a0,a1,a2,a3,_⟩:=kI.out;replace a0:W1.cell? (B_ g o)=some (.string ⟨#[109,102,101,110,99,101,100]⟩):=a0;replace a2:W1.cell? (B_ g (o+2))=some (.slice B ks.length cb):=a2;replace a3:W1.cell? (B_ g (o+3))=some (S_ t):=a3;refine(uG [109,102,101,110,99,101,100] 0 aob _).mono ?_;rintro _ w2 ⟨rfl,hw2⟩;replace hw2:=hw2.symm;subst hw2;obtain⟨gk,ok,xa,xk,rfl,jW⟩:=(show gK W1 ks _ from kI.out.2.2.2.2.2.2.1).yw 0 Zo;have AL:=I X_;have am:=λW:W_=>run_string_add_lists (P:=Tryz.prog) W av bv Zo Zo
 have Rt:=I (show(av++bv).length<=maxLen by unfold maxLen;rw[List.length_append];omega);clear jW hlk ae hbl;go_wp2_with fail
 refine(show Calls _ _ _ _ (λx w'=>x=.returned (S_ av)/\ag _ w')from Hz▸zl _ U.qH g o _ _ _ kI).mono ?_;rintro _ w2 ⟨rfl,hf2⟩;have bW:=I hf2;clear hf2 hg0 a0 a1 a2 a3;go_wp2_with fail
 refine(show Calls _ _ _ _ (λx w'=>x=.returned (S_ bv)/\ag _ w')from kW▸zl _ U.nR g o _ _ _ (kI.QH bW)).mono ?_;rintro _ w4 ⟨rfl,jf⟩;have eZ:=I (bW.trans jf);clear jf;obtain⟨hg0,a0,a1,a2,a3,_⟩:=kI.QH eZ;replace a2:w4.cell? (B_ g (o+2))=some (.slice (A_ gk ok) ks.length cb):=a2;go_wp2_with fail
 refine(HC gk ok xa xk _ (AL.QH eZ) jJ aB).mono ?_;rintro _ w3 ⟨v3,rfl,sl,rfl,hf3,_,qd⟩;obtain⟨Ar,cr,rfl⟩:=qd.now.slice;have bJ:=I (jQ.trans (eZ.trans hf3));have an:=I ((eZ.trans hf3).QN jV λh=>h);have hz4:=eZ.size;have zh:=I (show dz (λk=>k<=w.heap.size) w3 λW=>aD W (bN x.Qx) (.slice Ar (bN x.Qx).length cr)from(show dz (λk=>k<w4.heap.size) w3 λW=>aD W (bN x.Qx) (.slice Ar (bN x.Qx).length cr)from qd).mono λk _ hk=>by omega);unfold nv;simp only[eG,Nd.QI,Nd.QG,Nd.ah,Nd.Qx]at*;clear qd hf3 hg0 a0 a1 a2 a3 hz4 am;obtain⟨y0,y1,y2,y3,z0,z1,z2,z3,hgr⟩:=af.QM an;go_wp2_with fail
 obtain⟨hM,r0,r1,r2,r3⟩:=Fj bJ an 11 0 (av++bv) [.mk 1 [] 0 (bN x.Qx)] #[V 1,E_,V 0,.slice Ar (bN x.Qx).length cr] 1 Rt
  λW hW hB=>aD.acz (s:=[]) hB JI (zh W hW)
 have HM:=I hM;clear hM;simp only[aO]at r0 r1 r2 r3 HM;refine bodyPost_ret (v:=.agg #[V 11,S_ (av++bv),V 0,.slice (A_ w3.heap.size 0) 1 1]) EP rfl ?_;exact⟨_,rfl,HM⟩
end
section
open Go.RowKit Go.Maps
open Tr (Nd)
open U (E aJ fJ dX bN eG iN nO Rw)
attribute [local go_sem] gD stillUpon
theorem XX{w w':W_}{b n:Nat}{D:DataW Unit}(h:w.ownsMap (H:=Unit) Tryz.prog 9 (plainElem Tryz.prog 3) b n D)(hf:ag w w'):w'.ownsMap (H:=Unit) Tryz.prog 9 (plainElem Tryz.prog 3) b n D:=
 h.kept (row:=none) ⟨hf.os,hf.tape,hf.output,hf.size,λi hi _=>hf.block i hi λh=>h⟩ P9
theorem VG(n:List UInt8)(hn:n.length<=maxLen)(c:Int)(hc:U.Rw n=c)(w:W_)(b:Nat)(h:w.ownsMap (H:=Unit) Tryz.prog 9 (plainElem Tryz.prog 3) b 4 RA):
  (Instr.lookup 168 (.map (some b)) (S_ n) false).run Tryz.prog w=.ok (V c) w:=by
 obtain⟨c',hrun,hat,_⟩:=h.lookup_int (q:=.i64) strKeys underlying168 underlying3 (by exact Tryz.zeroValue3 w) (yC n hn);rw[aaj]at hat
 have:c'=c:=by
  rw[<-hc];unfold U.Rw
  by_cases h1:n=U.lq
  .subst h1
   simp only[sM,List.find?_cons,beq_self_eq_true]at hat;cases hat;rw[if_pos rfl]
  .by_cases h2:n=U.mW
   .subst h2
    have e:sM.find? (·.1==U.mW)=some (U.mW,7):=Pf
    rw[e]at hat;cases hat;rw[if_neg h1,if_pos rfl]
   .by_cases h3:n=U.mX
    .subst h3
     have e:sM.find? (·.1==U.mX)=some (U.mX,8):=Pf
     rw[e]at hat;cases hat;rw[if_neg h1,if_neg h2,if_pos rfl]
    .by_cases h4:n=U.gN
     .subst h4
      have e:sM.find? (·.1==U.gN)=some (U.gN,9):=Pf
      rw[e]at hat;cases hat;rw[if_neg h1,if_neg h2,if_neg h3,if_pos rfl]
     .have e:sM.find? (·.1==n)=none:=by
       rw[List.find?_eq_none];intro x hx;simp only[sM,List.mem_cons,List.not_mem_nil,or_false]at hx
       rcases hx with rfl|rfl|rfl|rfl
       .simpa using λh=>h1 h.symm
       .simpa using λh=>h2 h.symm
       .simpa using λh=>h3 h.symm
       .simpa using λh=>h4 h.symm
      rw[e]at hat;cases hat;rw[if_neg h1,if_neg h2,if_neg h3,if_neg h4]
 rw[this]at hrun;exact hrun
theorem vw(l:List E):(iN l).length=l.length:=by rw[U.sK,List.length_map]
theorem Mf(l:List E)(j:Nat)(h:j<l.length):(iN l).take j++[eG l[j]]=(iN l).take (j+1):=by
 rw[U.sK,List.take_add_one,List.getElem?_map,List.getElem?_eq_getElem h];rfl
theorem Dh(n:List UInt8)(hn:n.length<=maxLen)(XY:nO n=0)(fV:n≠U.fV)(fZ:n≠U.fZ)(bI:n≠U.bI)(aV:n≠U.aV)(bE:n≠U.bE)(a:aJ)(ks:List E)(t:List UInt8)(g o:Nat)(va vk:Value)(w:W_)(he:gZ w g o (.mk n a ks t) va vk)
  (ar:∀x∈ks,oz x/\(∀y∈x.Qx,U.oq y=true/\y.name∈nY)/\U.count x<=100000) (aM:ks.length<=100000):
  C_ 79 #[.pointer (A_ g o)] w λx w'=>∃v,x=.returned v/\nW w w' (dX (.mk n a ks t)) v:=by
 obtain⟨B,cb,ac⟩:=he.2.2.2.2.2.2.1.slice;replace ac:vk=.slice B ks.length cb:=ac;subst ac;obtain⟨c,hc⟩:∃c,Rw n=c:=⟨_,rfl⟩
 have aL:=I (show dX (.mk n a ks t)=.mk c [] 0 (iN ks) by
  rw[U.zi];show U.mkN n a t _ _ _=_;unfold U.mkN;rw[if_neg (by rw[XY];simp),if_neg fV,if_neg fZ,if_neg bI,if_neg aV,if_neg bE,hc];rfl)
 rw[aL.out];have HC:=I hc;have Hy:=I XY;have wH:=I hn;have Em:=I ar;have HE:=I he;obtain⟨hg0,a0,_,a2,_,_⟩:=he;replace a0:w.cell? (B_ g o)=some (S_ n):=a0;replace a2:w.cell? (B_ g (o+2))=some (.slice B ks.length cb):=a2;have aj8:(n==[109,115,113,114,116])=false:=beq_eq_false_iff_ne.2 fV;have aj9:(n==[109,114,111,111,116])=false:=beq_eq_false_iff_ne.2 fZ;have aj':(n==[109,111,118,101,114])=false:=beq_eq_false_iff_ne.2 bI;have aiV:(n==[109,102,101,110,99,101,100])=false:=beq_eq_false_iff_ne.2 aV;have ajQ:(n==[109,116,97,98,108,101])=false:=beq_eq_false_iff_ne.2 bE;have aC:=I aM;clear hc XY hn ar aM fV fZ bI aV bE;go_enter func79,ntmps79;go_wp2_with fail
 have jV:=I abR;have aj:=(M (λ_=>False) w).alloc (.cells ZN 31);have hg1:=jV.lt;have jQ:=I aj;have kI:=I anN;generalize w.alloc (.cells ZN 31)=W1 at*;clear aj hg0 a0 a2;obtain⟨hg0,a0,_,a2,_,_⟩:=kI.out;replace a0:W1.cell? (B_ g o)=some (S_ n):=a0;replace a2:W1.cell? (B_ g (o+2))=some (.slice B ks.length cb):=a2;refine(uG n 0 Hy _).mono ?_;rintro _ w2 ⟨rfl,hw2⟩;replace hw2:=hw2.symm;subst hw2;go_wp2_with fail
 have k0:=cR a0;refine MS (gq.of [(1,true),(2,true),(3,true),(4,true)] (.fork 0 (.fork 5 (.plain 6 (.lone 7 .nil)) 7 (.lone 5 (.plain 6 .nil))) 7 (.lone 0 (.lone 5 (.plain 6 .nil))))) [0,1,2,3,4,5,6,7] 8 (Array.replicate 8 true++#[false]) [] [] Pg Ph Pg ?_;unfold gq.of
 repeat(refine V9 ?_;first|done|unfold gq.of)
 clear k0;have hdr:=(M (λ_=>False) W1).drewN 1;have ao:=I hdr;clear hdr;refine o6 ?_ ?_
 focus
  refine aW rfl (λK hK=>?_);go_wp2_with fail
  refine(Ch Unit _).mono ?_;rintro _ w2 ⟨rfl,hown,hf2⟩;have bW:=I (show ag W1 w2 from ao.trans hf2);have HL:=I (λ(W:W_) (hW:ag w2 W)=>show(Instr.lookup 168 (.map (some W1.heap.size)) (S_ n) false).run Tryz.prog W=.ok (V c) W from VG n wH c HC W _ (XX hown hW));clear hown hf2;go_wp2
  refine hK _ _ (aA bW) ?_;clear hK K;refine o6 ?_ ?_
  focus
   refine aW rfl (λK hK=>?_);have hl:=HL.out w2 afD;go_wp2
   refine hK _ _ (aA bW) ?_;clear hK K hl;refine eX rfl (λK hK=>?_);go_simp;refine hK _ ?_;clear hK K
   refine aW rfl (λK hK=>?_);go_wp2
   refine hK _ _ (aA (bW.alloc _)) ?_;clear hK K;have lT:=I (af.new w2 31 ZN);have mZ:=I (bW.alloc (.cells ZN 31));generalize w2.alloc (.cells ZN 31)=w8 at lT mZ|-;obtain⟨b,hb⟩:∃b,b=w2.heap.size:=⟨_,rfl⟩;have gu:=I (show W1.heap.size<=b by rw[hb];exact bW.size);rw[<-hb]at lT|-;clear hb HL bW ao
  rotate_left
  focus
   refine aW rfl (λK hK=>?_);go_wp2
   refine hK _ _ (aA (bW.alloc _)) ?_;clear hK K;have lT:=I (af.new w2 31 ZN);have mZ:=I (bW.alloc (.cells ZN 31));have hl:=HL.out _ ((M _ w2).alloc (.cells ZN 31));generalize w2.alloc (.cells ZN 31)=w8 at lT mZ hl|-;obtain⟨b,hb⟩:∃b,b=w2.heap.size:=⟨_,rfl⟩;have gu:=I (show W1.heap.size<=b by rw[hb];exact bW.size);rw[<-hb]at lT|-;clear hb HL bW ao;refine aW rfl (λK hK=>?_);go_wp2
   refine hK _ _ (aA mZ) ?_;clear hK K hl;refine eX rfl (λK hK=>?_);go_simp;refine hK _ ?_;clear hK K
 rotate_left
 rotate_left
 focus
  refine aW rfl (λK hK=>?_);go_wp2
  refine hK _ _ (aA (ao.alloc _)) ?_;clear hK K;have ai:=I (af.new (W1.drewN 1) 31 ZN);have bJ:=I (ao.alloc (.cells ZN 31));generalize (W1.drewN 1).alloc (.cells ZN 31)=w3 at ai bJ|-;obtain⟨b,hb⟩:∃b,b=(W1.drewN 1).heap.size:=⟨_,rfl⟩;have gu:=I (show W1.heap.size<=b by rw[hb];exact Nat.le_refl _);rw[show W1.heap.size=b from hb.symm];rw[<-hb]at ai;clear hb ao;refine aW rfl (λK hK=>?_);go_wp2_with fail
  refine(Ch Unit _).mono ?_;rintro _ w8 ⟨rfl,hown,hf2⟩;have mZ:=I (show ag W1 w8 from bJ.trans hf2);have lT:=I (hf2.QN ai λh=>h);have hl:=VG n wH c HC w8 _ hown;clear hown hf2;go_wp2
  refine hK _ _ (aA mZ) ?_;clear hK K;refine aW rfl (λK hK=>?_);go_wp2
  refine hK _ _ (aA mZ) ?_;clear hK K hl bJ ai;refine eX rfl (λK hK=>?_);go_simp;refine hK _ ?_;clear hK K
 all_goals
  clear hg0 a0 a2;have ZU:=I (mZ.QN jV λh=>h);have gL:=I (jQ.trans mZ);obtain⟨y0,y1,y2,y3,z0,z1,z2,z3,hgr⟩:=af.QM lT;obtain⟨r0,r1,r2,r3,_,_,_,_,_⟩:=af.QM (lT.gH (V c) (E_) (V 0) (N_));refine TW rfl (λK hK=>?_);go_wp2_with fail
  refine fH ?_;have Di:=I (lT.gH (V c) (E_) (V 0) (N_));have ab:w.heap.size≠b:=p_
  have OB:=I (ZU.uJ ab (V c) (E_) (V 0) (N_));have OC:=I (Touch.aO gL (.inr (show w.heap.size<=b by have:=gu.out;omega)) (V c) (E_) (V 0) (N_));clear r0 r1 r2 r3 y0 y1 y2 y3 z0 z1 z2 z3;simp only[aO]at Di OB OC;generalize (((w8.setCell (B_ b 0) (V c)).setCell (B_ b 1) (E_)).setCell (B_ b 2) (V 0)).setCell (B_ b 3) (N_)=W2 at Di OB OC|-;have ad:=Di.lt;obtain⟨hg0,_,_,a2,_,_⟩:=HE.QH OC;replace a2:W2.cell? (B_ g (o+2))=some (.slice B ks.length cb):=a2;have aM:=aC.out;go_wp2_with fail
  have Da:=I (show ja W2.heap.size W2 ((iN ks).take 0) (N_) by rw[List.take_zero];exact ja.nil PD);have aG:=I ad;have ae:=I OB.lt;clear hg0 a2 hgr ad
  go_loopw [144] (λi wr=>∃(j:Nat) (Ae:Option Addr) (ce:Nat),i=V j/\j<=ks.length/\Hd (af wr w.heap.size 31 ZN)/\Hd (af wr b 31 #[V c,E_,V 0,.slice Ae j ce])/\Hd (ja W2.heap.size wr ((iN ks).take j) (.slice Ae j ce))/\Hd (ag w wr)) (λi _=>ks.length-(intOf i).toNat)
  case atStart=>exact⟨0,none,0,rfl,Nat.zero_le _,OB,Di,Da,OC⟩
  case round=>
   clear Di OB OC Da;obtain⟨j,Ae,ce,rfl,hj,ow,oI,HG,HF⟩:=hrel;rename_i wr _
   by_cases c1:j<ks.length
   .have d1:decide ((j:Int)<(ks.length:Int))=true:=dT Zo
    have jo:decide (j<ks.length)=true:=dT c1;have aE:(j:Int)<(ks.length:Int):=Zo
    have RD:=I (HE.QH HF);obtain⟨gk,ok,xa,xk,rfl,jW⟩:=(show gK wr ks _ from RD.out.2.2.2.2.2.2.1).yw j c1;have AL:=I jW;have lg:=I (show((iN ks).take j).length=j by rw[List.length_take,vw];omega);have nK:=I (Mf ks j c1);have Me:=I (Em _ f_);obtain⟨hgr,_,_,h2,_,_⟩:=RD.out;replace h2:wr.cell? (B_ g (o+2))=some (.slice (A_ gk ok) ks.length cb):=h2;obtain⟨q0,q1,q2,q3,_,_,_,_,hlt⟩:=af.QM oI;clear jW;generalize ks[j]=x at*;go_wp2_with fail
    have k0:=cR h2;have k3:=cR q3;clear h2 q0 q1 q2 q3;refine cu [([(0,true),(1,true),(2,true),(3,true),(4,true),(5,true),(6,true),(7,true),(8,false),(9,false)],10),([(11,true)],12)] [] Pg Ph Pg ?_;refine dJ ?_
    repeat(refine Z4 ?_)
    clear k0 k3;refine aS rfl (λK hK=>?_);go_wp2_with fail
    refine(Me.out.1 gk (ok+j*4) xa xk _ (AL.QH ((M _ _).drewN 1)) Me.out.2.1 Me.out.2.2).mono ?_;rintro _ w6 ⟨v6,rfl,sl,rfl,dK,H7,dZ⟩;have fI:=I aq3;have nV:=I asU;have RF:=I H7;obtain⟨Ak,ck,rfl⟩:=dZ.now.slice;clear dK dZ H7;go_wp2
    refine hK _ _ (aA fI) ?_;clear hK K;refine aS rfl (λK hK=>?_);go_wp2
    refine hK _ _ an' ?_;clear hK K;have kW:=I aqz;have gW:=I (fI.alloc (.cells #[V (eG x).QI,.string ⟨(eG x).QG.toArray⟩,V (eG x).ah,.slice Ak (eG x).Qx.length ck] 31));have tq:=I (nV.QH ((M _ w6).alloc (.cells #[V (eG x).QI,.string ⟨(eG x).QG.toArray⟩,V (eG x).ah,.slice Ak (eG x).Qx.length ck] 31)));generalize (w6.alloc (.cells #[V (eG x).QI,.string ⟨(eG x).QG.toArray⟩,V (eG x).ah,.slice Ak (eG x).Qx.length ck] 31))=w7 at kW gW tq|-;have Ej:=I (HG.QH gW);have HOW:=I HG.pY;have tu:=I (gW.QN oI λh=>h);have qc:=I (gW.QN ow λh=>h);have eO:=I HG.out.1;refine dm rfl (λK hK=>?_)
    go_wp2_with (at_builtin;go_loud (refine qM rfl (.tmp 148) (.tmp 156) rfl Ej lg WH (eG x) kW WH wr.heap.size eO (λk hk=>(HOW k hk).2) RF tq Zo ?_);intro A8 c8 w9 jI bR _;refine jw.mk ?_)
    have wI:=I jI;have tC:=I (bR.QN tu λh=>by have:=(HOW _ h).1;have:=aG.out;omega);have wE:=I (bR.QN qc λh=>by have:=(HOW _ h).1;have:=ae.out;omega);have xJ:=I (show ag w w9 from(HF.trans gW).trans' bR λk hk=>.inr (by have:=(HOW _ hk).1;have:=ae.out;omega));clear jI bR;obtain⟨q0,q1,q2,q3,z0,z1,z2,z3,Rn⟩:=af.QM tC;refine jw.go ?_;go_wp2_with fail
    refine dJ ?_
    repeat(refine Z4 ?_)
    refine dm rfl (λK hK=>?_);go_wp2_with fail
    refine fH ?_;go_wp2_with fail
    have jA:=wI.mv ((M (λk=>k=b) w9).setCell (p:=B_ b 3) Wh (.slice A8 (j+1) c8)) (λk hk _=>by have hk:k=b:=hk;have:=aG.out;omega);rw[nK.out]at jA;exact abS
   .have d1:decide ((j:Int)<(ks.length:Int))=false:=dF Zo
    have jo:decide (j<ks.length)=false:=dF c1;obtain rfl:j=ks.length:=Zo
    obtain⟨q0,q1,q2,q3,_,_,_,_,hlt⟩:=af.QM oI;obtain⟨p0,p1,p2,p3,y0,y1,y2,y3,av⟩:=af.QM ow;have jA:=HG.mv ((M (λk=>k=w.heap.size) wr).aO Wh (V c) (E_) (V 0) (.slice Ae ks.length ce)) (λk hk _=>by have hk:k=w.heap.size:=hk;have:=ae.out;omega);rw[List.take_of_length_le (by rw[vw];exact Nat.le_refl _)]at jA;have qL:=I jA;obtain⟨r0,r1,r2,r3,_,_,_,_,_⟩:=af.QM (ow.gH (V c) (E_) (V 0) (.slice Ae ks.length ce));simp only[aO]at r0 r1 r2 r3;have xJ:=I (Touch.aO HF ET (V c) (E_) (V 0) (.slice Ae ks.length ce));clear jA aM c1 hj ab;go_wp2
    refine bodyPost_ret (v:=.agg #[V c,E_,V 0,.slice Ae ks.length ce]) EP rfl ?_;have aa:=vw ks;refine⟨_,rfl,.slice Ae ks.length ce,rfl,xJ,Nat.zero_le _,?_⟩;exact(qL.done.mono λi _ hi=>by have:=ae.out;omega)
end
end Go.Proofs.YtabjglnjjdcfmaaGreatDoor
