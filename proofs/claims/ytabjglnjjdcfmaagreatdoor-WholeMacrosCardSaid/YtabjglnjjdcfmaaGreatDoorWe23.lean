/- Part 23 of 41 of a proof. No condition. -/
import Derived.Test.YtabjglnjjdcfmaaGreatDoorWe22
import Derived.Test.YtabjglnjjdcfmaaGreatDoorWe20
import Derived.Test.YtabjglnjjdcfmaaGreatDoorWe10
set_option maxRecDepth 100000
set_option maxHeartbeats 1000000
namespace Go.Proofs.YtabjglnjjdcfmaaGreatDoor
open _root_.Bool renaming and_eq_true->auY
open _root_.Nat renaming le_trans->au2,zero_le->au1,lt_of_lt_of_le->avc,lt_succ_self->aww
open _root_.Array renaming getElem?_setIfInBounds_ne->avQ
open _root_.Go.Proofs.Tryz
section
open Go.RowKit
open Tr (Nd)
open U (E iX eU ax)
theorem ae7(k:Int)(s:List UInt8)(h:Tr.dR k s=true):s.length<=200:=by
 unfold Tr.dR at h;split at h
 .unfold Tr.symbol at h
  split at h
  .simp
  .exact aq0
 split at h
 .unfold Tr.isNum at h
  exact aq0
 split at h
 .exact aq0
 split at h
 .have hm:=List.contains_iff_mem.1 h
  simp only[Tr.eu,List.mem_cons,List.not_mem_nil,or_false]at hm
  rcases hm with rfl|rfl|rfl|rfl|rfl|rfl<;>decide
 split at h
 .unfold Tr.fence at h
  split at h
  .simp
  .cases h
 .rw[List.isEmpty_iff.1 h];simp
theorem Dl(r:Bool):∀(l:List Nd),Tr.iV r l=true->∀x∈l,((x.QI==1) !=r)=true/\Tr.form x=true
 |[],_,x,hx=>by cases hx
 |y::l,h,x,hx=>by
  rw[Tr.iV,auY,auY]at h
  rcases List.mem_cons.1 hx with rfl|hx
  .exact h.1
  .exact Dl r l h.2 x hx
theorem Fz(n:Nd)(k:Int)(nm:List UInt8)(hk:n.QI=k)(h:∀t c ss,U.FY k t c ss=.mk nm [] (ss.map (ax U.aj)) []):iX n=ax nm (aC U.aj n.Qx):=by
 rw[U.qI,hk,h,U.iM,List.map_map];rfl
theorem UY(m:Nat):∀n,Tr.count n<=m->Tr.form n=true->(n.QI==1)=false->RB n:=by
 induction m with
 |zero=>intro n h;have:=Tr.bX n;omega
 |succ m ih=>
  intro n hm hf aD;rw[Tr.kG,auY,auY,aD]at hf;obtain⟨⟨ht,ad⟩,hfl⟩:=hf;have an:n.QG.length<=maxLen:=au2 (ae7 _ _ ht) Pf
  have hrow:∀x∈n.Qx,Au x:=λx hx=>OA x λy hy=>by
   obtain⟨h1,h2⟩:=Dl _ _ hfl x hx;rw[Tr.kG,auY]at h2;have hx1:(x.QI==1)=true:=asb
   rw[hx1]at h2;obtain⟨h3,h4⟩:=Dl _ _ h2.2 y hy;have c1:=Tr.cB hx;have c2:=Tr.cB hy;have c3:=Tr.aN n;have c4:=Tr.aN x;exact ih y Zo h4 aeQ
  intro sl w hc ab;unfold Tr.bM at ad
  by_cases ac:n.QI=12
  .rw[if_pos ac]at ad
   simp only[auY,decide_eq_true_eq]at ad;exact aaC n ac an n.ah.toNat Zo Zo hrow sl w hc ab
  rw[if_neg ac]at ad;split at ad
  .cases ad
  split at ad
  .rename_i h1
   rw[h1]at aD;cases aD
  split at ad
  .rename_i h
   rcases h with h|h|h
   .cases hl:U.qX n.QG with
    |true=>exact UX n h an hl sl w hc ab
    |false=>exact RX n h an hl sl w hc ab
   .exact ahi n h an sl w hc ab
   .exact acQ n h an sl w hc ab
  split at ad
  .rename_i h
   have h2:n.Qx.length=2:=by simpa using ad
   rcases h with h|h|h|h
   .exact Jj n U.lq 5 (by simp[sM]) h (Fz n 5 _ h λ_ _ _=>rfl) hrow sl w hc ab
   .obtain⟨a,b,ar⟩:∃a b,n.Qx=[a,b]:=by
     match hh:n.Qx,h2 with
     |[a,b],_=>exact⟨a,b,rfl⟩
    by_cases ha:a.Qx=[]
    .exact ae4 n a b h ar an ha (hrow b arM) sl w hc ab
    .exact ae5 n a b h ar an ha (hrow a arM) (hrow b arM) sl w hc ab
   .exact Jj n U.mW 7 (by simp[sM]) h (Fz n 7 _ h λ_ _ _=>rfl) hrow sl w hc ab
   .exact Jj n U.mX 8 (by simp[sM]) h (Fz n 8 _ h λ_ _ _=>rfl) hrow sl w hc ab
  split at ad
  .rename_i h
   exact Jj n U.gN 9 (by simp[sM]) h (Fz n 9 _ h λ_ _ _=>rfl) hrow sl w hc ab
  split at ad
  .rename_i h
   have h1:n.Qx.length=1:=by simpa using ad
   obtain⟨a,ar⟩:=List.length_eq_one_iff.1 h1
   rcases h with h|h
   .exact aaB n a h ar an (hrow a arM) sl w hc ab
   .have h2:n.QG.length=2:=by
     rw[h]at ht;have ht':Tr.fence n.QG=true:=ht;unfold Tr.fence at ht';split at ht'
     .rename_i hx;rw[hx];rfl
     .cases ht'
    exact acR n a h ar an (hrow a arM) h2 _ _ rfl rfl sl w hc ab
  .cases ad
theorem aaD(n:Nd)(hf:Tr.form n=true)(hk:(n.QI==1)=true):Au n:=OA n λy hy=>by
 rw[Tr.kG,auY,hk]at hf;obtain⟨h3,h4⟩:=Dl _ _ hf.2 y hy;exact UY _ y PD h4 aeQ
end
section
open Go.RowKit
open Tr (Nd)
open U (E iX eU ax)
attribute [local go_sem] gD stillUpon
def PO:E:=.mk [] [] [] []
def Be(n:Nd):E:=if Tr.valid n then U.nT n else PO
def yH(n:Nd):Int:=if Tr.valid n then 0 else 1
theorem Ya(w w':W_)(hf:ag w w'):oH w w' PO (.agg Z):=
 ⟨_,_,rfl,hf,λ_ _=>⟨gJ.nil _ _ _,.nil _ _,au1 _,au1 _⟩⟩
theorem acX(n:Nd)(sl:Value)(w:W_)(hr:aD w n.Qx sl)(ht:n.QG.length<=maxLen)(hc:Tr.count n<=1000):
  C_ 18 #[nv n sl] w λe w'=>∃v,e=.returned (.tuple #[v,V (yH n)])/\oH w w' (Be n) v:=by
 obtain⟨A,cap,rfl⟩:=hr.slice;have HV:=I (λ(w:W_) (hr:aD w n.Qx (.slice A n.Qx.length cap))=>Lr n _ w hr ht Zo);have HR:=I hr;have HC:=I hc;clear hr hc;cases hv:Tr.valid n with
 |false=>
  have HS:=I (show Be n=PO from by unfold Be;rw[hv];rfl);have HE:=I (show yH n=1 from by unfold yH;rw[hv];rfl);rw[HS.out,HE.out];go_enter func18,ntmps18;go_wp2_with fail
  refine(HV _ (HR.QH aqI)).mono ?_;rintro _ w1 ⟨rfl,hf⟩;have HF:=I (Touch.pre aic);have hb1:=hf.QN (af.new2 _ _ _ _) PR;obtain⟨q0,q1,q2,q3,f0,f1,f2,f3,hg⟩:=af.QM hb1;have HB:=I hb1;clear hf hb1;go_wp2_with fail
  obtain⟨r0,r1,r2,r3,_,_,_,_,_⟩:=af.QM (HB.gH (E_) (N_) (N_) (E_));simp only[aO]at r0 r1 r2 r3;refine bodyPost_ret (v:=.tuple #[.agg Z,V 1]) aup rfl ?_;exact⟨_,rfl,Ya _ _ (Touch.aO HF Ls _ _ _ _)⟩
 |true=>
  have HS:=I (show Be n=U.nT n from by unfold Be;rw[hv];rfl);have HE:=I (show yH n=0 from by unfold yH;rw[hv];rfl);have hv':=hv;unfold Tr.valid at hv';simp only[auY]at hv';have KL:=I (aaD n (by simp_all) (by simp_all));clear hv';rw[HS.out,HE.out];go_enter func18,ntmps18;go_wp2_with fail
  refine(HV _ (HR.QH aqI)).mono ?_;rintro _ w1 ⟨rfl,hf⟩;have HF:=I (Touch.pre aic);have hb1:=hf.QN (af.new2 _ _ _ _) PR;have hb0:=hf.QN ((af.new _ _ _).alloc _) PR;obtain⟨p0,p1,p2,p3,_,_,_,_,_⟩:=af.QM hb0;have HB:=I hb1;clear hf hb1 hb0;go_wp2_with fail
  refine(KL U.gU (.slice A n.Qx.length cap) w1 Pf auP (HR.QH HF)).mono ?_;rintro _ w2 ⟨v,rfl,va,vk,ad,hf2,hst⟩;replace ad:v=.agg #[S_ U.gU,va,vk,E_]:=ad;subst ad;obtain⟨Aa,ca,aa⟩:=hst.now.1.slice;obtain⟨Ak,ck,ac⟩:=hst.now.2.1.slice;replace aa:va=.slice Aa 0 ca:=aa;replace ac:vk=.slice Ak (eU n.Qx).length ck:=ac;subst aa;subst ac;have bW:=I (HF.trans hf2);have aq:=I (hf2.QN HB λh=>h);have HST:=I hst;have HL:=I HB.lt;have yc:=I HF.size;clear hf2 hst p0 p1 p2 p3;obtain⟨q0,q1,q2,q3,f0,f1,f2,f3,hg⟩:=af.QM aq;go_wp2_with fail
  obtain⟨r0,r1,r2,r3,_,_,_,_,_⟩:=af.QM (aq.gH (S_ U.gU) (.slice Aa 0 ca) (.slice Ak (eU n.Qx).length ck) (E_));simp only[aO]at r0 r1 r2 r3;refine bodyPost_ret (v:=.tuple #[.agg #[S_ U.gU,.slice Aa 0 ca,.slice Ak (eU n.Qx).length ck,E_],V 0]) aup rfl ?_;have KI:=HST.step (S2:=λk=>k<w.heap.size) ((M (λk=>k=w.heap.size+1) w2).aO Wh (S_ U.gU) (.slice Aa 0 ca) (.slice Ak (eU n.Qx).length ck) (E_)) (λi _ hi=>by have:=HL.out;have hi:i=w.heap.size+1:=hi;omega) (λi _ hi=>by have:=yc.out;omega);exact⟨_,rfl,(.slice Aa 0 ca),(.slice Ak (eU n.Qx).length ck),rfl,Touch.aO bW Ls _ _ _ _,KI⟩
end
section
open Go.RowKit
open Tr (Nd)
open U (E aJ fB)
def xL(n:Nd):List UInt8:=if Tr.valid n then Ck (U.nT n)else []
def vD(n:Nd):Int:=if Tr.valid n then xg (U.nT n)else 1
theorem Ih(n:Nd)(sl:Value)(w:W_)(hr:aD w n.Qx sl)(ht:n.QG.length<=maxLen)(hc:Tr.count n<=1000)(hl:Tr.valid n=true->(fB (U.nT n)).length<=8000000):
  C_ 9 #[nv n sl] w λx w'=>x=.returned (.tuple #[S_ (xL n),V (vD n)])/\ag w w':=by
 obtain⟨A,cap,rfl⟩:=hr.slice;have HM:=I (λ(w:W_) (hr:aD w n.Qx (.slice A n.Qx.length cap))=>acX n _ w hr ht hc);have HR:=I hr;have HL:=I hl;clear hr hl;cases hv:Tr.valid n with
 |false=>
  have HS:=I (show Be n=PO from by unfold Be;rw[hv];rfl);have HE:=I (show yH n=1 from by unfold yH;rw[hv];rfl);have HX:=I (show xL n=[]from by unfold xL;rw[hv];rfl);have aC:=I (show vD n=1 from by unfold vD;rw[hv];rfl);rw[HX.out,aC.out];go_enter func9,ntmps9;go_wp2_with fail
  refine(HM _ (HR.QH aq4)).mono ?_;rintro _ w1 ⟨v,rfl,va,vk,ad,hf,hst⟩;rw[HE.out];rw[HS.out]at ad hst;replace ad:v=.agg #[E_,va,vk,E_]:=ad;obtain⟨Aa,ca,aa⟩:=hst.now.1.slice;obtain⟨Ak,ck,ac⟩:=hst.now.2.1.slice;subst ad aa ac;have HF:=I aic;clear hf hst;go_wp2
  go_ret2;exact⟨rfl,HF.alloc _⟩
 |true=>
  have HS:=I (show Be n=U.nT n from by unfold Be;rw[hv];rfl);have HE:=I (show yH n=0 from by unfold yH;rw[hv];rfl);have HX:=I (show xL n=Ck (U.nT n)from by unfold xL;rw[hv];rfl);have aC:=I (show vD n=xg (U.nT n)from by unfold vD;rw[hv];rfl);rw[HX.out,aC.out];have aE:=I (HL hv);go_enter func9,ntmps9;go_wp2_with fail
  refine(HM _ (HR.QH aq4)).mono ?_;rintro _ w1 ⟨v,rfl,va,vk,ad,hf,hst⟩;rw[HE.out];rw[HS.out]at ad hst;have F8:=I (λ(w:W_) (h:jd w (U.nT n) va vk)=>X7 (U.nT n) va vk w h (λ_=>aE));have HST:=I hst;obtain⟨Aa,ca,aa⟩:=hst.now.1.slice;obtain⟨Ak,ck,ac⟩:=hst.now.2.1.slice
  rcases ae:U.nT n with⟨en,ea,ek,et⟩
  have ab:=I ae;rw[ae]at F8 ad aa ac HST;clear ae;unfold ev at F8 ad;simp only[E.name,E.Zn,E.Qx,E.QG]at F8 ad aa ac;subst ad aa ac;have HF:=I aic;clear hf hst;go_wp2_with fail
  refine(F8 _ ((HST _ ((M _ w1).alloc _)))).mono ?_;rintro _ w2 ⟨rfl,hf2⟩;have bW:=I (HF.trans (Touch.pre hf2));clear hf2;go_wp2
  go_ret2;exact⟨by rw[ab.out];rfl,bW⟩
end
namespace D7
open Lx (aB)
open Tr (Nd oO mU bY)
open Np (place dx fO CG tH special j5 xh stops)
abbrev QJ:=List UInt8
def alh(n:Nd):Option Nat:=
 if n.QI=2/\n.ah=0/\n.Qx=[]then match n.QG with
  |[a,b]=>if a=35/\49<=b/\b<=52 then some (b.toNat-48)else none
  |_=>none
 else none
mutual
def ali(P:Int):Nat->Nd->Nat×Bool->Nd×(Nat×Bool)
 |d,.mk k t c ks,(m,z)=>
  if 1000<m+1\/24<d then(.mk 0 [] 0 [],(m+1,false))
  else
   let z1:=match alh (.mk k t c ks)with
    |some j=>z&&decide ((j:Int)<=P)
    |none=>z
   let t1:=if(alh (.mk k t c ks)).isSome then [120]else t
   let r:=ale P (d+1) ks (m+1,z1)
   (.mk k t1 c r.1,r.2)
def ale(P:Int):Nat->List Nd->Nat×Bool->List Nd×(Nat×Bool)
 |_,[],s=>([],s)
 |d,x::xs,(m,z)=>
  if z=false then([],(m,z))
  else
   let r:=ali P d x (m,z)
   let q:=ale P d xs r.2
   (r.1::q.1,q.2)
end
def ald(n:Nd)(P:Int):Bool:=if P<0\/4<P then false else(ali P 1 n (0,true)).2.2&&Tr.valid (ali P 1 n (0,true)).1
mutual
def alf(args:List Nd):List Nd->List Nd
 |[]=>[]
 |x::xs=>(match alh x with
  |some j=>(args.getD (j-1) (.mk 0 [] 0 [])).Qx
  |none=>[anf args x])++alf args xs
def anf(args:List Nd):Nd->Nd
 |.mk k t c ks=>.mk k t c (alp args ks)
def alp(args:List Nd):List Nd->List Nd
 |[]=>[]
 |.mk _ _ _ ks::xs=>CG (alf args ks)::alp args xs
end
def Jf:Nd:=.mk 0 [] 0 []
def alK(t:Nd)(args:List Nd):Nd×Int:=
 if ald t args.length=false then(Jf,1)
 else if args.all (λa=>ald a 4)=false then(Jf,1)
 else if ald (CG (alf args t.Qx)) 4=false then(Jf,6)
 else(CG (alf args t.Qx),0)
structure Mac where
 name:QJ
 params:Nat
 tree:Nd
abbrev Table:=List Mac
def alA(tb:Table)(s:QJ):Option Mac:=tb.find? (λm=>m.name==s)
def alm(tb:Table)(s:QJ)(args:List Nd):Nd×Int:=match alA tb s with
 |none=>(Jf,8)
 |some m=>if args.length≠m.params then(Jf,13)else alK m.tree args
structure St where
 l:List aB
 n:Nat
 b:Bool
inductive R(α:Type) where
 |ok (a:α) (s:St)
 |err (i e:Nat)
 |out
def R.bind{α β:Type}(x:R α)(k:α->St->R β):R β:=match x with
 |.ok a s=>k a s
 |.err i e=>.err i e
 |.out=>.out
def R.map{α β:Type}(x:R α)(k:α->β):R β:=x.bind λa s=>.ok (k a) s
structure En where
 en:Nat
 P:Nat
 tb:Table
def St.up(s:St):St:={s with l:=s.l.tail}
def refuse{α:Type}(E:En)(s:St):R α:=.err (place E.en s.l) 3
def alo(P:Nat)(t:aB):Option Nd:=match fO t with
 |some x=>some x
 |none=>if t.QI=6/\(t.QG.headD 0).toNat<=P+48 then some (.mk 2 (35::t.QG) 0 [])else none
def scripts(group:Bool)(E:En)(base:List Nd)(sub sup:Option Nd)(s:St):R (List Nd):=match sub,sup with
 |some a,some b=>.ok [.mk 9 [] 0 [CG base,a,b]] s
 |none,some b=>.ok [.mk 8 [] 0 [CG base,b]] s
 |some a,none=>.ok [.mk 7 [] 0 [CG base,a]] s
 |none,none=>if group then refuse E s else .ok base s
def alj(E:En)(t:aB)(n0:Nat)(b0:Bool)(fits:Bool)(args:List Nd)(s:St):R (List Nd):=
 if fits=false then .err t.from_ 6
 else if(alm E.tb t.QG args).2≠0 then .err t.from_ 6
 else if 1000<n0+(Tr.count (alm E.tb t.QG args).1-1)then .ok [] ⟨s.l,n0+(Tr.count (alm E.tb t.QG args).1-1),true⟩
 else .ok (alm E.tb t.QG args).1.Qx ⟨s.l,n0+(Tr.count (alm E.tb t.QG args).1-1),b0⟩
def plainName(t:aB)(s:St):R (List Nd):=if t.QG.length=1 then .err t.from_ 11 else .ok [.mk 2 t.QG 0 []] s
mutual
def cZ(E:En):Nat->List Nat->St->R (List Nd)
 |0,_,_=>.out
 |f+1,op,s=>
  if s.l.isEmpty/\op≠[]then .err (op.getLastD 0) 12
  else if s.l.isEmpty\/stops s.l=true then .ok [] s
  else(eP E f op s).bind λmore r=>(cZ E f op r).map λQS=>more++QS
def kE(E:En):Nat->UInt8->List Nat->St->R (List Nd)
 |0,_,_,_=>.out
 |f+1,b,op,s=>(cZ E f (op++[place E.en s.l]) s.up).bind λQS r=>if dx b r.l then .ok QS r.up else refuse E r
def eB(E:En):Nat->UInt8->List Nat->St->R (Option Nd)
 |0,_,_,_=>.out
 |f+1,b,op,s=>if dx b s.l then(pArg E f op s.up).map some else .ok none s
def eP(E:En):Nat->List Nat->St->R (List Nd)
 |0,_,_=>.out
 |f+1,op,s=>(dA E f op s).bind λbase r=>(eB E f 95 op r).bind λsub r=>(eB E f 94 op r).bind λsup r=>
  if sup.isSome&&sub.isNone then(eB E f 95 op r).bind λsub r=>scripts (dx 123 s.l) E base sub sup r
  else scripts (dx 123 s.l) E base sub sup r
def dA(E:En):Nat->List Nat->St->R (List Nd)
 |0,_,_=>.out
 |f+1,op,s=>
  match s.l with
  |[]=>refuse E s
  |t::_=>
   match alo E.P t with
   |some x=>.ok [x] s.up
   |none=>
    if t.QI=4 then fD E f op t s.up
    else if t.QI=5 then(bV E f 1 op s.up).map λks=>[.mk 11 t.QG 0 ks]
    else if dx 40 s.l then(kE E f 41 op s).map λQS=>[.mk 11 [40,41] 0 [CG QS]]
    else if dx 91 s.l then(kE E f 93 op s).map λQS=>[.mk 11 [91,93] 0 [CG QS]]
    else if dx 123 s.l then kE E f 125 op s
    else refuse E s
def bV(E:En):Nat->Nat->List Nat->St->R (List Nd)
 |0,_,_,_=>.out
 |_+1,0,_,s=>.ok [] s
 |f+1,n+1,op,s=>(pArg E f op s).bind λa r=>(bV E f n op r).map λks=>a::ks
def alk(E:En):Nat->Nat->List Nat->Bool->List Nd->St->R (Bool×List Nd)
 |0,_,_,_,_,_=>.out
 |_+1,0,_,z,aM,s=>.ok (z,aM) s
 |f+1,n+1,op,z,aM,s=>(pArg E f op ⟨s.l,0,false⟩).bind λa r=>alk E f n op (z&&!r.b) (aM++[a]) r
def aln(E:En):Nat->Nat->List Nat->aB->St->R (List Nd)
 |0,_,_,_,_=>.out
 |f+1,n,op,t,s=>(alk E f n op true [] s).bind λp r=>alj E t s.n s.b p.1 p.2 r
def fD(E:En):Nat->List Nat->aB->St->R (List Nd)
 |0,_,_,_=>.out
 |f+1,op,t,s=>
  if t.QG=oO then(bV E f 2 op s).map λks=>[.mk 5 [] 0 ks]
  else if t.QG=mU then
   if dx 91 s.l then(kE E f 93 op s).bind λd r'=>(bV E f 1 op r').map λks=>[.mk 6 [] 0 (CG d::ks)]
   else(bV E f 1 op s).map λks=>[.mk 6 [] 0 (CG []::ks)]
  else if t.QG=bY then
   if dx 123 s.l then(di E f (op++[place E.en s.l]) [] 0 0 s.up).map λp=>[.mk 12 [] p.2 p.1]else refuse E s
  else if tH t.QG then(bV E f 1 op s).map λks=>[.mk 10 t.QG 0 ks]
  else match alA E.tb t.QG with
   |some m=>aln E f m.params op t s
   |none=>plainName t s
def di(E:En):Nat->List Nat->List Nd->Nat->Nat->St->R (List Nd×Nat)
 |0,_,_,_,_,_=>.out
 |f+1,op,ks,b,c,s=>(cZ E f op s).bind λQS r=>
  if dx 38 r.l then di E f op (ks++[CG QS]) b c r.up
  else if j5 r.l=false/\dx 125 r.l=false then refuse E r
  else if ks.length+1-b≠(xh b c (ks.length+1))then .err (place E.en r.l) 3
  else if j5 r.l=false then .ok (ks++[CG QS],xh b c (ks.length+1)) r.up
  else di E f op (ks++[CG QS]) (ks.length+1) (xh b c (ks.length+1)) r.up
def pArg(E:En):Nat->List Nat->St->R Nd
 |0,_,_=>.out
 |f+1,op,s=>
  match s.l with
  |[]=>refuse E s
  |t::_=>
   match alo E.P t with
   |some x=>.ok (CG [x]) s.up
   |none=>
    if dx 123 s.l then(kE E f 125 op s).map CG
    else if t.QI=4/\special t.QG=false then
     match alA E.tb t.QG with
     |some m=>if 0<m.params then refuse E s else(aln E f 0 op t s.up).map CG
     |none=>(plainName t s.up).map CG
    else refuse E s
end
def yI(E:En)(l:List aB):R (List Nd×Bool):=
 (cZ E (8*l.length+8) [] ⟨l,0,false⟩).bind λQS r=>if r.l.isEmpty then .ok (QS,!r.b) r else refuse E r
end D7
namespace D7
open Lx (aB)
open Tr (Nd)
open Np (place dx fO CG tH special j5 xh stops Al)
def Sm{α:Type}(n:Nat)(b:Bool)(x:Np.R α)(y:R α):Prop:=∀a r,x=.ok a r->∃r',y=.ok a ⟨r',n,b⟩/\Al r r'
theorem Sm.bind{α β:Type}{n:Nat}{b:Bool}{x:Np.R α}{y:R α}{k:α->List aB->Np.R β}{k':α->St->R β}(h:Sm n b x y)(hk:∀a r r',Al r r'->Sm n b (k a r) (k' a ⟨r',n,b⟩)):Sm n b (x.bind k) (y.bind k'):=by
 cases x with
 |ok a r=>
  obtain⟨r',rfl,hr⟩:=h a r rfl;exact hk a r r' hr
 |err i e=>intro a r h;cases h
 |out=>intro a r h;cases h
theorem Sm.ok{α:Type}{n:Nat}{b:Bool}{a:α}{r r':List aB}(h:Al r r'):Sm n b (.ok a r) (.ok a ⟨r',n,b⟩):=λ_ _ e=>by cases e;exact⟨_,rfl,h⟩
theorem Sm.map{α β:Type}{n:Nat}{b:Bool}{x:Np.R α}{y:R α}{k:α->β}(h:Sm n b x y):Sm n b (x.map k) (y.map k):=h.bind λ_ _ _ hr=>.ok hr
theorem Sm.err{α:Type}{n:Nat}{b:Bool}{i e:Nat}{y:R α}:Sm n b (.err i e) y:=λ_ _ h=>by cases h
theorem Sm.out{α:Type}{n:Nat}{b:Bool}{y:R α}:Sm n b .out y:=λ_ _ h=>by cases h
theorem ao0(t:aB)(x:Nd)(h:fO t=some x):alo 0 t=some x:=by unfold alo;rw[h]
theorem ao1(t:aB)(h:fO t=none)(h6:t.QI≠6):alo 0 t=none:=by unfold alo;rw[h];exact if_neg λh=>h6 h.1
theorem Sm.scripts{n:Nat}{z:Bool}(g:Bool)(en:Nat)(E:En)(b:List Nd)(x y:Option Nd){l l':List aB}(h:Al l l'):Sm n z (Np.scripts g en b x y l) (scripts g E b x y ⟨l',n,z⟩):=by
 unfold Np.scripts D7.scripts;split
 .exact .ok h
 .exact .ok h
 .exact .ok h
 .cases g
  .exact .ok h
  .exact .err
theorem Sm.plainName{n:Nat}{b:Bool}{t t':aB}{r r':List aB}(h2:t.QG=t'.QG)(h:Al r r'):Sm n b (Np.plainName t r) (plainName t' ⟨r',n,b⟩):=by
 unfold Np.plainName D7.plainName;rw[h2];split
 .exact .err
 .exact .ok h
structure apJ(en:Nat)(E:En)(n:Nat)(z:Bool)(f f':Nat):Prop where
 row:∀op op' l l',Al l l'->(op=[]↔op'=[])->Sm n z (Np.cZ en f op l) (cZ E f' op' ⟨l',n,z⟩)
 within:∀b op op' l l',Al l l'->Sm n z (Np.kE en f b op l) (kE E f' b op' ⟨l',n,z⟩)
 arg:∀op op' l l',Al l l'->Sm n z (Np.pArg en f op l) (pArg E f' op' ⟨l',n,z⟩)
 args:∀m op op' l l',Al l l'->Sm n z (Np.bV en f m op l) (bV E f' m op' ⟨l',n,z⟩)
 script:∀b op op' l l',Al l l'->Sm n z (Np.eB en f b op l) (eB E f' b op' ⟨l',n,z⟩)
 item:∀op op' l l',Al l l'->Sm n z (Np.eP en f op l) (eP E f' op' ⟨l',n,z⟩)
 R3:∀op op' l l',Al l l'->Sm n z (Np.dA en f op l) (dA E f' op' ⟨l',n,z⟩)
 name:∀op op' t t' r r',t.QG=t'.QG->Al r r'->Sm n z (Np.fD en f op t r) (fD E f' op' t' ⟨r',n,z⟩)
 cells:∀op op' ks b c l l',Al l l'->(op=[]↔op'=[])->Sm n z (Np.di en f op ks b c l) (di E f' op' ks b c ⟨l',n,z⟩)
theorem apa(en:Nat)(E:En)(hP:E.P=0)(ht:E.tb=[])(n:Nat)(z:Bool):∀f f',f<=f'->apJ en E n z f f'
 |0,_,_=>by constructor<;>(intros;exact .out)
 |f+1,0,h=>by omega
 |f+1,f'+1,hf=>by
  have ih:=apa en E hP ht n z f f' Zo;constructor
  .intro op op' l l' h ho
   rw[Np.cZ,cZ];show Sm n z _ (if l'.isEmpty/\op'≠[]then _ else if l'.isEmpty\/stops l'=true then _ else _);rw[h.isEmpty,h.stops];have hc:(l'.isEmpty=true/\op≠[])↔(l'.isEmpty=true/\op'≠[]):=by rw[ne_eq,ne_eq,ho]
   by_cases c1:l'.isEmpty=true/\op'≠[]
   .rw[if_pos c1,if_pos (hc.2 c1)];exact .err
   .rw[if_neg c1,if_neg (λx=>c1 (hc.1 x))]
    split
    .exact .ok h
    .exact(ih.item op op' l l' h).bind λa r r' hr=>(ih.row op op' r r' hr ho).map
  .intro b op op' l l' h
   rw[Np.kE,kE];refine(ih.row _ _ _ _ h.tail P9).bind λa r r' hr=>?_
   show Sm n z _ (if dx b r' then _ else _);rw[hr.dx];split
   .exact .ok hr.tail
   .exact .err
  .intro op op' l l' h
   cases l with
   |nil=>rw[Np.pArg];exact .err
   |cons t r=>
    obtain⟨t',r',rfl,h1,h2,hr⟩:=h.cons;rw[Np.pArg,Np.OL h1 h2,pArg,hP];simp only[h.dx,h1,h2];cases hl:fO t' with
    |some x=>rw[ao0 t' x hl];exact .ok hr
    |none=>
     by_cases h6:t'.QI=6
     .have hb:dx 125 (t'::r')=false:=by simp[dx,h6]
      have hb:dx 123 (t'::r')=false:=by simp[dx,h6]
      simp only[hb,h6];exact .err
     .rw[ao1 t' hl h6]
      simp only
      split
      .exact(ih.within 125 op op' _ _ h).map
      .split
       .rw[ht]
        exact(Sm.plainName h2 hr).map
       .exact .err
  .intro m op op' l l' h
   cases m with
   |zero=>rw[Np.bV,bV];exact .ok h
   |succ m=>
    rw[Np.bV,bV];exact(ih.arg op op' l l' h).bind λa r r' hr=>(ih.args m op op' r r' hr).map
  .intro b op op' l l' h
   rw[Np.eB,eB];show Sm n z _ (if dx b l' then _ else _);rw[h.dx];split
   .exact(ih.arg op op' _ _ h.tail).map
   .exact .ok h
  .intro op op' l l' h
   rw[Np.eP,eP,h.dx];refine(ih.R3 op op' l l' h).bind λa r r' hr=>(ih.script 95 op op' r r' hr).bind λsub r r' hr=>(ih.script 94 op op' r r' hr).bind λsup r r' hr=>?_
   split
   .exact(ih.script 95 op op' r r' hr).bind λsub r r' hr=>Sm.scripts _ _ _ _ _ _ hr
   .exact Sm.scripts _ _ _ _ _ _ hr
  .intro op op' l l' h
   cases l with
   |nil=>rw[Np.dA];exact .err
   |cons t r=>
    obtain⟨t',r',rfl,h1,h2,hr⟩:=h.cons;rw[Np.dA,Np.OL h1 h2,dA,hP];simp only[h.dx,h1,h2];cases hl:fO t' with
    |some x=>rw[ao0 t' x hl];exact .ok hr
    |none=>
     by_cases h6:t'.QI=6
     .have hb:∀b,dx b (t'::r')=false:=λb=>by simp[dx,h6]
      simp only[hb,h6];exact .err
     .rw[ao1 t' hl h6]
      simp only
      split
      .exact ih.name op op' t t' r r' h2 hr
      .split
       .exact(ih.args 1 op op' r r' hr).map
       .split
        .exact(ih.within 41 op op' _ _ h).map
        .split
         .exact(ih.within 93 op op' _ _ h).map
         .split
          .exact ih.within 125 op op' _ _ h
          .exact .err
  .intro op op' t t' r r' h2 h
   rw[Np.fD,fD,ht];simp only[h2,h.dx];split
   .exact(ih.args 2 op op' r r' h).map
   .split
    .split
     .exact(ih.within 93 op op' r r' h).bind λd r r' hr=>(ih.args 1 op op' r r' hr).map
     .exact(ih.args 1 op op' r r' h).map
    .split
     .split
      .exact(ih.cells _ _ _ _ _ _ _ h.tail P9).map
      .exact .err
     .split
      .exact(ih.args 1 op op' r r' h).map
      .exact Sm.plainName h2 h
  .intro op op' ks b c l l' h ho
   rw[Np.di,di];refine(ih.row op op' l l' h ho).bind λQS r r' hr=>?_
   simp only[hr.dx,hr.j5];split
   .exact ih.cells _ _ _ _ _ _ _ hr.tail ho
   .split
    .exact .err
    .split
     .exact .err
     .split
      .exact .ok hr.tail
      .exact ih.cells _ _ _ _ _ _ _ hr.tail ho
end D7
namespace D7
open Lx (aB)
open Tr (Nd)
open Np (dx j5)
def jR{α:Type}(x:R α)(n:Nat):Prop:=
 match x with
 |.ok _ r=>r.l.length<n
 |.err _ _=>True
 |.out=>False
theorem jR.bind{α β:Type}{x:R α}{k:α->St->R β}{n m:Nat}(h:jR x n)(hk:∀a r,r.l.length<n->jR (k a r) m):jR (x.bind k) m:=by
 cases x with
 |ok a r=>exact hk a r h
 |err i e=>trivial
 |out=>exact h.elim
theorem jR.map{α β:Type}{x:R α}{k:α->β}{n m:Nat}(h:jR x n)(hm:n<=m):jR (x.map k) m:=h.bind λ_ _ hr=>avc hr hm
theorem jR.mono{α:Type}{x:R α}{n m:Nat}(h:jR x n)(hm:n<=m):jR x m:=by
 cases x with
 |ok a r=>exact avc h hm
 |err i e=>trivial
 |out=>exact h.elim
theorem Jk{b:UInt8}{l:List aB}(h:dx b l=true):l.tail.length<l.length:=by
 cases l with
 |nil=>cases h
 |cons t r=>simp
theorem jR.scripts(g:Bool)(E:En)(b:List Nd)(x y:Option Nd)(s:St)(n:Nat)(h:s.l.length<n):jR (scripts g E b x y s) n:=by
 unfold D7.scripts;split
 .exact h
 .exact h
 .exact h
 .split
  .trivial
  .exact h
theorem jR.plainName(t:aB)(r:St)(n:Nat)(h:r.l.length<n):jR (plainName t r) n:=by
 unfold D7.plainName;split
 .trivial
 .exact h
theorem jR.alj(E:En)(t:aB)(n0:Nat)(b0 z:Bool)(aM:List Nd)(s:St)(n:Nat)(h:s.l.length<n):jR (alj E t n0 b0 z aM s) n:=by
 unfold D7.alj;split
 .trivial
 .split
  .trivial
  .split
   .exact h
   .exact h
structure Good(E:En)(f:Nat):Prop where
 row:∀op s,8*s.l.length+5<=f->jR (cZ E f op s) (s.l.length+1)
 within:∀b op s,s.l.tail.length<s.l.length->8*s.l.length+2<=f->jR (kE E f b op s) s.l.length
 arg:∀op s,8*s.l.length+3<=f->jR (pArg E f op s) s.l.length
 args:∀n op s,8*s.l.length+4+n<=f->jR (bV E f n op s) (s.l.length+1)
 fill:∀n op z aM s,8*s.l.length+4<=f->jR (alk E f n op z aM s) (s.l.length+1)
 mac:∀n op t s,8*s.l.length+5<=f->jR (aln E f n op t s) (s.l.length+1)
 script:∀b op s,8*s.l.length+4<=f->jR (eB E f b op s) (s.l.length+1)
 item:∀op s,8*s.l.length+4<=f->jR (eP E f op s) s.l.length
 R3:∀op s,8*s.l.length+3<=f->jR (dA E f op s) s.l.length
 name:∀op t s,8*s.l.length+7<=f->jR (fD E f op t s) (s.l.length+1)
 cells:∀op ks b c s,8*s.l.length+6<=f->jR (di E f op ks b c s) (s.l.length+1)
theorem good(E:En):∀f,Good E f
 |0=>by constructor<;>(intros;exfalso;omega)
 |f+1=>by
  have ih:=good E f;constructor
  .intro op s h
   rw[cZ];split
   .trivial
   .split
    .exact aww _
    .exact(ih.item op s Zo).bind λa r hr=>(ih.row op r Zo).map Zo
  .intro b op s hl h
   rw[kE];have e:s.up.l=s.l.tail:=rfl;refine(ih.row _ s.up aqg).bind λa r hr=>?_
   rw[e]at hr;split
   .show r.l.tail.length<s.l.length
    rw[List.length_tail];omega
   .trivial
  .intro op s h
   rw[pArg.eq_def];obtain⟨l,n,b⟩:=s;cases l with
   |nil=>trivial
   |cons t r=>
    simp only at h|-;have hl:(t::r).length=r.length+1:=rfl;split
    .show r.length<_;omega
    .split
     .exact(ih.within 125 op ⟨t::r,n,b⟩ P9 (by show 8*(t::r).length+2<=f;omega)).map PD
     .split
      .split
       .split
        .trivial
        .exact(ih.mac 0 op t ⟨r,n,b⟩ (by show 8*r.length+5<=f;omega)).map PD
       .exact(jR.plainName t ⟨r,n,b⟩ (t::r).length (by show r.length<_;omega)).map PD
      .trivial
  .intro n op s h
   cases n with
   |zero=>rw[bV];exact aww _
   |succ n=>
    rw[bV];exact(ih.arg op s Zo).bind λa r hr=>(ih.args n op r Zo).map Zo
  .intro n op z aM s h
   cases n with
   |zero=>rw[alk];exact aww _
   |succ n=>
    rw[alk];exact(ih.arg op ⟨s.l,0,false⟩ (by show 8*s.l.length+3<=f;omega)).bind λa r hr=>(ih.fill n op _ _ r auI).mono auI
  .intro n op t s h
   rw[aln];exact(ih.fill n op true [] s Zo).bind λp r hr=>jR.alj _ _ _ _ _ _ _ _ hr
  .intro b op s h
   rw[eB];split
   .rename_i hm
    have:=Jk hm;have e:s.up.l=s.l.tail:=rfl;exact(ih.arg op s.up aqg).map aqg
   .exact aww _
  .intro op s h
   rw[eP];refine(ih.R3 op s Zo).bind λa r hr=>(ih.script 95 op r Zo).bind λsub r hr=>(ih.script 94 op r Zo).bind λsup r hr=>?_
   split
   .exact(ih.script 95 op r Zo).bind λsub r hr=>jR.scripts _ _ _ _ _ _ _ Zo
   .exact jR.scripts _ _ _ _ _ _ _ Zo
  .intro op s h
   rw[dA.eq_def];obtain⟨l,n,b⟩:=s;cases l with
   |nil=>trivial
   |cons t r=>
    simp only at h|-;have hl:(t::r).length=r.length+1:=rfl;have ht:(St.mk (t::r) n b).l.tail.length<(St.mk (t::r) n b).l.length:=P9
    have hs:8*(St.mk (t::r) n b).l.length+2<=f:=by show 8*(t::r).length+2<=f;omega
    have hu:8*(St.mk (t::r) n b).up.l.length+7<=f:=by show 8*r.length+7<=f;omega
    split
    .show r.length<_;omega
    .split
     .exact(ih.name op t (St.mk (t::r) n b).up hu).mono (by show r.length+1<=_;omega)
     .split
      .exact(ih.args 1 op (St.mk (t::r) n b).up Zo).map (by show r.length+1<=_;omega)
      .split
       .exact(ih.within 41 op _ ht hs).map PD
       .split
        .exact(ih.within 93 op _ ht hs).map PD
        .split
         .exact ih.within 125 op _ ht hs
         .trivial
  .intro op t s h
   rw[fD];split
   .exact(ih.args 2 op s Zo).map PD
   .split
    .split
     .rename_i hm
      exact(ih.within 93 op s (Jk hm) Zo).bind λd r' hr=>(ih.args 1 op r' Zo).map Zo
     .exact(ih.args 1 op s Zo).map PD
    .split
     .split
      .rename_i hm
       have:=Jk hm;have e:s.up.l=s.l.tail:=rfl;exact(ih.cells _ _ _ _ s.up aqg).map aqg
      .trivial
     .split
      .exact(ih.args 1 op s Zo).map PD
      .split
       .exact ih.mac _ op t s Zo
       .exact jR.plainName _ _ _ (aww _)
  .intro op ks b c s h
   rw[di];refine(ih.row op s Zo).bind λQS r hr=>?_
   have e:r.up.l=r.l.tail:=rfl;have ht:r.l.tail.length<=r.l.length:=by rw[List.length_tail];omega
   split
   .rename_i hm
    have:=Jk hm;exact(ih.cells _ _ _ _ r.up aqg).mono aqg
   .split
    .trivial
    .split
     .trivial
     .split
      .show r.l.tail.length<_;omega
      .rename_i hb
       have:r.l.tail.length<r.l.length:=by
        cases hc:r.l with
        |nil=>rw[hc]at hb;exact absurd rfl hb
        |cons x y=>simp
       exact(ih.cells _ _ _ _ r.up aqg).mono aqg
theorem amD(E:En)(l:List aB):yI E l≠.out:=by
 have h:=(good E (8*l.length+8)).row [] ⟨l,0,false⟩ (by show 8*l.length+5<=_;omega);unfold yI;cases hx:cZ E (8*l.length+8) [] ⟨l,0,false⟩with
 |ok a r=>
  show(if r.l.isEmpty then R.ok (a,!r.b) r else refuse E r)≠_;split<;>(intro h;cases h)
 |err i e=>intro h;cases h
 |out=>rw[hx]at h;exact h.elim
end D7
namespace D7
open Tr (Nd)
open Np (dx j5 CG)
mutual
theorem alZ(P:Int):∀(n:Nd) (d m:Nat) (z:Bool),(ali P d n (m,z)).2.2=true->z=true/\(ali P d n (m,z)).2.1=m+Tr.count n/\(ali P d n (m,z)).2.1<=1000
 |.mk k t c ks,d,m,z,h=>by
  rw[ali]at h|-
  by_cases c1:1000<m+1\/24<d
  .rw[if_pos c1]at h;cases h
  .rw[if_neg c1]at h|-
   simp only at h|-;rw[Tr.count];cases hp:alh (.mk k t c ks)with
   |none=>
    rw[hp]at h;simp only at h|-;obtain⟨h1,h2,h3⟩:=al0 P ks (d+1) (m+1) z h Zo;exact⟨h1,by omega,h3⟩
   |some j=>
    rw[hp]at h;simp only at h|-;obtain⟨h1,h2,h3⟩:=al0 P ks (d+1) (m+1) _ h Zo;rw[auY]at h1;exact⟨h1.1,by omega,h3⟩
theorem al0(P:Int):∀(ks:List Nd) (d m:Nat) (z:Bool),(ale P d ks (m,z)).2.2=true->m<=1000->z=true/\(ale P d ks (m,z)).2.1=m+Tr.az ks/\(ale P d ks (m,z)).2.1<=1000
 |[],d,m,z,h,hm=>by
  rw[ale]at h|-;exact⟨h,by simp[Tr.az],hm⟩
 |x::xs,d,m,z,h,hm=>by
  rw[ale]at h|-
  by_cases c1:z=false
  .rw[if_pos c1]at h;rw[c1]at h;cases h
  .rw[if_neg c1]at h|-
   simp only at h|-;cases hr:(ali P d x (m,z)).2 with
   |mk m1 z1=>
    rw[hr]at h
    have hz1:z1=true:=by
     cases z1 with
     |true=>rfl
     |false=>
      have:ale P d xs (m1,false)=([],(m1,false)):=by
       cases xs with
       |nil=>rw[ale]
       |cons y ys=>rw[ale,if_pos rfl]
      rw[this]at h;cases h
    have h1:=alZ P x d m z (by rw[hr];exact hz1);rw[hr]at h1;obtain⟨_,h3,h4⟩:=h1;have h5:=al0 P xs d m1 z1 h h4;rw[Tr.az];refine⟨by simpa using c1,?_,h5.2.2⟩;have:=h5.2.1;have h6:m1=m+Tr.count x:=h3;omega
end
theorem al6{n:Nd}{P:Int}(h:ald n P=true):Tr.count n<=1000:=by
 unfold ald at h;split at h
 .cases h
 .rw[auY]at h
  obtain⟨_,h2,h3⟩:=alZ P n 1 0 true h.1;omega
theorem anh{t:Nd}{args:List Nd}(h:(alK t args).2=0):(alK t args).1=CG (alf args t.Qx)/\ald (CG (alf args t.Qx)) 4=true/\ald t args.length=true/\args.all (λa=>ald a 4)=true:=by
 unfold alK at h|-;split at h
 .cases h
 .rename_i c1
  split at h
  .cases h
  .rename_i c2
   split at h
   .cases h
   .rename_i c3
    rw[if_neg c1,if_neg c2,if_neg c3];exact⟨rfl,by simpa using c3,by simpa using c1,by simpa using c2⟩
theorem an9{t:Nd}{args:List Nd}(h:(alK t args).2=0):Tr.count (alK t args).1<=1000:=by
 rw[(anh h).1];exact al6 (anh h).2.1
theorem amE{tb:Table}{s:QJ}{args:List Nd}(h:(alm tb s args).2=0):Tr.count (alm tb s args).1<=1000:=by
 unfold alm at h|-;split
 .rename_i hg;rw[hg]at h;cases h
 .rename_i m hg
  rw[hg]at h;simp only at h;split
  .rename_i c;rw[if_pos c]at h;cases h
  .rename_i c;rw[if_neg c]at h;exact an9 h
def Few(x:R (List Nd)):Prop:=∀ks r,x=.ok ks r->ks.length<=1000
theorem Few.map{α:Type}{x:R α}{g:α->List Nd}(hg:∀a,(g a).length<=1000):Few (x.map g):=λks r h=>by
 cases x with
 |ok a s=>cases h;exact hg a
 |err i e=>cases h
 |out=>cases h
theorem Few.bind{α:Type}{x:R α}{g:α->St->R (List Nd)}(hg:∀a s,Few (g a s)):Few (x.bind g):=λks r h=>by
 cases x with
 |ok a s=>exact hg a s ks r h
 |err i e=>cases h
 |out=>cases h
theorem Few.err(i e:Nat):Few (.err i e):=λks r h=>by cases h
theorem Few.out:Few .out:=λks r h=>by cases h
theorem Few.ok{ks:List Nd}{s:St}(h:ks.length<=1000):Few (.ok ks s):=λms r e=>by cases e;exact h
theorem anv(E:En)(t:Lx.aB)(n0:Nat)(b0 z:Bool)(aM:List Nd)(s:St):Few (alj E t n0 b0 z aM s):=by
 unfold alj;split
 .exact Few.err _ _
 .split
  .exact Few.err _ _
  .rename_i h
   split
   .exact Few.ok P9
   .refine Few.ok ?_
    have h1:=amE (tb:=E.tb) (s:=t.QG) (args:=aM) aiu;have h2:=Tr.jF (alm E.tb t.QG aM).1.Qx;rw[Tr.aN]at h1;omega
theorem anc(t:Lx.aB)(s:St):Few (plainName t s):=by
 unfold plainName;split
 .exact Few.err _ _
 .exact Few.ok P9
theorem ao5(E:En)(f n:Nat)(op:List Nat)(t:Lx.aB)(s:St):Few (aln E f n op t s):=by
 cases f with
 |zero=>rw[aln];exact Few.out
 |succ f=>rw[aln];exact Few.bind λ_ _=>anv _ _ _ _ _ _ _
theorem aom(E:En)(f:Nat)(op:List Nat)(t:Lx.aB)(s:St):Few (fD E f op t s):=by
 cases f with
 |zero=>rw[fD];exact Few.out
 |succ f=>
  rw[fD];split
  .exact aqu
  .split
   .split
    .exact Few.bind λ_ _=>Few.map λ_=>by simp
    .exact aqu
   .split
    .split
     .exact aqu
     .exact Few.err _ _
    .split
     .exact aqu
     .split
      .exact ao5 _ _ _ _ _ _
      .exact anc _ _
theorem aon(E:En)(f:Nat)(op:List Nat)(s:St)(hg:dx 123 s.l=false):Few (dA E f op s):=by
 cases f with
 |zero=>rw[dA];exact Few.out
 |succ f=>
  rw[dA.eq_def];obtain⟨l,n,b⟩:=s;cases l with
  |nil=>exact Few.err _ _
  |cons t l=>
   simp only
   split
   .exact Few.ok P9
   .split
    .exact aom _ _ _ _ _
    .split
     .exact aqu
     .split
      .exact aqu
      .split
       .exact aqu
       .rw[if_neg (by simp at hg|-;exact hg)]
        exact Few.err _ _
theorem amF{g:Bool}{E:En}{base:List Nd}{x y:Option Nd}{s:St}(hb:g=false->base.length<=1000):Few (scripts g E base x y s):=by
 unfold scripts;split
 .exact Few.ok P9
 .exact Few.ok P9
 .exact Few.ok P9
 .cases g with
  |true=>exact Few.err _ _
  |false=>exact Few.ok (hb rfl)
theorem aoo(E:En)(f:Nat)(op:List Nat)(s:St):Few (eP E f op s):=by
 cases f with
 |zero=>rw[eP];exact Few.out
 |succ f=>
  rw[eP];cases hp:dA E f op s with
  |err i e=>exact Few.err _ _
  |out=>exact Few.out
  |ok base r1=>
   have hb:dx 123 s.l=false->base.length<=1000:=λhg=>aon E f op s hg base r1 hp
   show Few ((eB E f 95 op r1).bind _);refine Few.bind λsub r=>Few.bind λsup r=>?_
   split
   .exact Few.bind λ_ _=>amF hb
   .exact amF hb
end D7
namespace D7
open Lx (aB)
open Tr (Nd oO mU bY)
open Np (place dx fO CG tH special j5 xh stops)
end D7
namespace D7
open Lx (aB)
open Tr (Nd oO mU bY)
open Np (place dx fO CG tH special j5 xh stops Al)
end D7
namespace D7
open Lx (aB)
open Tr (Nd oO mU bY)
open Np (place dx fO CG tH special j5 xh stops Al)
end D7
namespace D7
open Lx (aB)
open Tr (Nd oO mU bY)
open Np (place dx fO CG tH special j5 xh stops Al)
end D7
namespace D7
open Tr (Nd)
open Np (CG)
def alv(P:Nat)(tb:Table)(l:QJ):R (List Nd×Bool):=match Lx.jr l with
 |(ts,none)=>yI ⟨l.length,P,tb⟩ ts
 |(_,some (p,e))=>.err p e
theorem amf(P:Nat)(tb:Table)(l:QJ):alv P tb l≠.out:=by
 unfold alv;split
 .exact amD _ _
 .intro h;cases h
def alz(tb:Table)(l:QJ):Nd×Nat×Nat:=match alv 0 tb l with
 |.ok (ks,fits) _=>if fits=false\/Tr.valid (CG ks)=false then(Jf,0,6)else(CG ks,0,0)
 |.err i e=>(Jf,i,e)
 |.out=>(Jf,0,0)
def alV(tb:Table)(name:QJ)(P:Nat)(tree:Nd):Table×Nat:=
 if name.length<2\/Tr.symbol name=false\/ald tree P=false then(tb,1)
 else if(alA tb name).isSome then(tb,9)
 else if 64<=tb.length then(tb,6)
 else(tb++[⟨name,P,tree⟩],0)
structure Def where
 name:QJ
 params:Int
 body:QJ
def ame(tb:Table)(d:Def):Option Table:=
 if d.params<0\/4<d.params then none
 else match alv d.params.toNat tb d.body with
  |.ok (ks,fits) _=>if fits=false\/ald (CG ks) d.params.toNat=false then none
   else if(alV tb d.name d.params.toNat (CG ks)).2=0 then some (alV tb d.name d.params.toNat (CG ks)).1 else none
  |_=>none
def amy:Table->List Def->Option Table
 |tb,[]=>some tb
 |tb,d::ds=>match ame tb d with
  |some tb'=>amy tb' ds
  |none=>none
end D7
namespace D7
open Lx (aB)
open Tr (Nd oO mU bY)
open Np (place dx fO CG tH special j5 xh stops Al)
theorem R.bind_mono{α β:Type}{x x':R α}{k k':α->St->R β}(hx:x≠.out->x'=x)(hk:∀a r,k a r≠.out->k' a r=k a r)(h:x.bind k≠.out):x'.bind k'=x.bind k:=by
 have hx':x≠.out:=λe=>h (by rw[e];rfl)
 rw[hx hx'];cases x with
 |ok a r=>exact hk a r h
 |err i e=>rfl
 |out=>exact absurd rfl hx'
theorem R.map_mono{α β:Type}{x x':R α}{k:α->β}(hx:x≠.out->x'=x)(h:x.map k≠.out):x'.map k=x.map k:=R.bind_mono hx (λ_ _ _=>rfl) h
theorem alg{α:Type}{c:Prop}[Decidable c]{a a' b b':R α}(ha:a≠.out->a'=a)(hb:b≠.out->b'=b)(h:(if c then a else b)≠.out):(if c then a' else b')=if c then a else b:=by
 by_cases hc:c
 .rw[if_pos hc]at h|-;rw[if_pos hc];exact ha h
 .rw[if_neg hc]at h|-;rw[if_neg hc];exact hb h
structure apK(E:En)(f:Nat):Prop where
 row:∀op s,cZ E f op s≠.out->cZ E (f+1) op s=cZ E f op s
 within:∀b op s,kE E f b op s≠.out->kE E (f+1) b op s=kE E f b op s
 arg:∀op s,pArg E f op s≠.out->pArg E (f+1) op s=pArg E f op s
 args:∀n op s,bV E f n op s≠.out->bV E (f+1) n op s=bV E f n op s
 fill:∀n op z aM s,alk E f n op z aM s≠.out->alk E (f+1) n op z aM s=alk E f n op z aM s
 mac:∀n op t s,aln E f n op t s≠.out->aln E (f+1) n op t s=aln E f n op t s
 script:∀b op s,eB E f b op s≠.out->eB E (f+1) b op s=eB E f b op s
 item:∀op s,eP E f op s≠.out->eP E (f+1) op s=eP E f op s
 R3:∀op s,dA E f op s≠.out->dA E (f+1) op s=dA E f op s
 name:∀op t s,fD E f op t s≠.out->fD E (f+1) op t s=fD E f op t s
 cells:∀op ks b c s,di E f op ks b c s≠.out->di E (f+1) op ks b c s=di E f op ks b c s
theorem mono(E:En):∀f,apK E f
 |0=>by
  constructor
  .intro op l h;exact absurd (by rw[cZ]) h
  .intro b op l h;exact absurd (by rw[kE]) h
  .intro op l h;exact absurd (by rw[pArg]) h
  .intro n op l h;exact absurd (by rw[bV]) h
  .intro n op z aM l h;exact absurd (by rw[alk]) h
  .intro n op t l h;exact absurd (by rw[aln]) h
  .intro b op l h;exact absurd (by rw[eB]) h
  .intro op l h;exact absurd (by rw[eP]) h
  .intro op l h;exact absurd (by rw[dA]) h
  .intro op t r h;exact absurd (by rw[fD]) h
  .intro op ks b c l h;exact absurd (by rw[di]) h
 |f+1=>by
  have ih:=mono E f;constructor
  .intro op l h
   rw[cZ]at h;rw[cZ,cZ];exact alg arH (λh=>alg arH (λh=>R.bind_mono (ih.item op l) (λa r h=>R.map_mono (ih.row op r) h) h) h) h
  .intro b op l h
   rw[kE]at h;rw[kE,kE];exact R.bind_mono (ih.row _ _) (λ_ _ _=>rfl) h
  .intro op s h
   rw[pArg.eq_def]at h;rw[pArg.eq_def,pArg.eq_def];cases hl:s.l with
   |nil=>simp only[hl]
   |cons t r=>
    simp only[hl]at h|-;cases hf:alo E.P t with
    |some x=>rfl
    |none=>
     simp only[hf]at h|-;refine alg asi (λh=>alg (λh=>?_) arH h) h;cases hg:alA E.tb t.QG with
     |none=>rfl
     |some m=>
      simp only[hg]at h|-;exact alg arH (λh=>R.map_mono (ih.mac 0 op t s.up) h) h
  .intro n op l h
   cases n with
   |zero=>rw[bV,bV]
   |succ n=>
    rw[bV]at h;rw[bV,bV];exact R.bind_mono (ih.arg op l) (λa r h=>R.map_mono (ih.args n op r) h) h
  .intro n op z aM l h
   cases n with
   |zero=>rw[alk,alk]
   |succ n=>
    rw[alk]at h;rw[alk,alk];exact R.bind_mono (ih.arg op _) (λa r h=>ih.fill n op _ _ r h) h
  .intro n op t l h
   rw[aln]at h;rw[aln,aln];exact R.bind_mono (ih.fill n op true [] l) (λ_ _ _=>rfl) h
  .intro b op l h
   rw[eB]at h;rw[eB,eB];exact alg (λh=>R.map_mono (ih.arg op _) h) arH h
  .intro op l h
   rw[eP]at h;rw[eP,eP];exact R.bind_mono (ih.R3 op l) (λa r h=>R.bind_mono (ih.script 95 op r) (λsub r h=>R.bind_mono (ih.script 94 op r) (λsup r h=>alg (λh=>R.bind_mono (ih.script 95 op r) (λ_ _ _=>rfl) h) arH h) h) h) h
  .intro op s h
   rw[dA.eq_def]at h;rw[dA.eq_def,dA.eq_def];cases hl:s.l with
   |nil=>simp only[hl]
   |cons t r=>
    simp only[hl]at h|-;cases hf:alo E.P t with
    |some x=>rfl
    |none=>
     simp only[hf]at h|-;exact alg (ih.name op t s.up) (λh=>alg (λh=>R.map_mono (ih.args 1 op s.up) h) (λh=>alg asi (λh=>alg asi (λh=>alg (ih.within _ _ _) arH h) h) h) h) h
  .intro op t r h
   rw[fD]at h;rw[fD,fD]
   refine alg (λh=>R.map_mono (ih.args 2 op r) h) (λh=>alg (λh=>alg (λh=>R.bind_mono (ih.within _ _ _) (λd r h=>R.map_mono (ih.args 1 op r) h) h) (λh=>R.map_mono (ih.args 1 op r) h) h)
    (λh=>alg (λh=>alg (λh=>R.map_mono (ih.cells _ _ _ _ _) h) arH h) (λh=>alg (λh=>R.map_mono (ih.args 1 op r) h) (λh=>?_) h) h) h) h
   cases hg:alA E.tb t.QG with
   |none=>rfl
   |some m=>
    simp only[hg]at h|-;exact ih.mac _ op t r h
  .intro op ks b c l h
   rw[di]at h;rw[di,di];exact R.bind_mono (ih.row op l) (λQS r h=>alg (ih.cells _ _ _ _ _) (λh=>alg arH (λh=>alg arH (λh=>alg arH (ih.cells _ _ _ _ _) h) h) h) h) h
theorem amI(E:En)(op:List Nat)(s:St)(f:Nat)(h:cZ E f op s≠.out):∀n,cZ E (f+n) op s=cZ E f op s
 |0=>rfl
 |n+1=>by
  rw[<-Nat.add_assoc,(mono E (f+n)).row op s (by rw[amI E op s f h n];exact h),amI E op s f h n]
theorem aaG(E:En)(l:List aB)(ks:List Nd)(h:∃N,∀F,N<=F->∃q,cZ E F [] ⟨l,0,false⟩=.ok ks q/\(q.l=[]/\q.b=false)):∃q,yI E l=.ok (ks,true) q:=by
 obtain⟨N,h⟩:=h;have hg:=(good E (8*l.length+8)).row [] ⟨l,0,false⟩ (by show 8*l.length+5<=_;omega);have hne:cZ E (8*l.length+8) [] ⟨l,0,false⟩≠.out:=λe=>by rw[e]at hg;exact hg
 have h1:=amI E [] ⟨l,0,false⟩ _ hne N;obtain⟨q,h2,h3,h4⟩:=h (8*l.length+8+N) Zo;rw[h2]at h1;refine⟨q,?_⟩;unfold yI;rw[<-h1];show(if q.l.isEmpty=true then R.ok (ks,!q.b) q else refuse E q)=_;rw[h3,h4];rfl
end D7
namespace Lx
end Lx
namespace Np
open Lx (Tok kR aB dG xu spell flat lexFrom)
end Np
namespace Lx
end Lx
namespace Lx
def tkN(nm:QJ):Tok:=⟨4,nm⟩
def tkM(b:UInt8):Tok:=⟨7,[b]⟩
def brT(args:List QJ):QJ:=args.flatMap λa=>123::(a++[125])
def brK(args:List QJ):List Tok:=args.flatMap λa=>tkM 123::((jr a).1.map tok++[tkM 125])
end Lx
namespace D7
open Lx (aB brT brK tkN tkM)
open Tr (Nd oO mU bY)
open Np (place dx fO CG tH special j5 xh stops Al)
theorem anO{T:Table}{l:QJ}(hne:∀i e,alv 0 T l=.err i e->e≠0)(h:(alz T l).2.2=0):∃ks q,alv 0 T l=.ok (ks,true) q/\alz T l=(CG ks,0,0)/\Tr.valid (CG ks)=true:=by
 unfold alz at h|-;cases hx:alv 0 T l with
 |ok x q=>
  obtain⟨ks,fits⟩:=x;rw[hx]at h;simp only at h|-
  by_cases hc:fits=false\/Tr.valid (CG ks)=false
  .rw[if_pos hc]at h;cases h
  .rw[if_neg hc]
   have h1:fits=true:=by cases fits with|true=>rfl|false=>exact absurd Wh hc
   have h2:Tr.valid (CG ks)=true:=by cases hv:Tr.valid (CG ks)with|true=>rfl|false=>exact absurd (.inr hv) hc
   subst h1;exact⟨ks,q,rfl,rfl,h2⟩
 |err i e=>
  rw[hx]at h;exact absurd h (hne i e hx)
 |out=>exact absurd hx (amf 0 T l)
theorem aor{T:Table}{l:QJ}{ks:List Nd}(ht:∀L,(Lx.jr l)=(L,none)->∃q,yI ⟨l.length,0,T⟩ L=.ok (ks,true) q)(hl:(Lx.jr l).2=none)(hv:Tr.valid (CG ks)=true):alz T l=(CG ks,0,0):=by
 unfold alz alv;generalize hx:Lx.jr l=X at ht hl;obtain⟨L,o⟩:=X;simp only at hl;subst hl;obtain⟨q,h⟩:=ht L rfl;simp only[h,hv];rfl
theorem anx{n:Nd}(h:Tr.valid n=true):Tr.count n<=1000:=by
 exact ase
end D7
section
open Go.RowKit
def iO(x:Lx.aB):List Value:=[V x.QI,S_ x.QG,V x.from_,V x.eF]
structure Pr(w:W_)(p B:Nat)(vt vb:Value)(cs:Array Value)(QT:List Lx.aB)(D9:List UInt8):Prop where
 lt:p<B
 dW:uU w B p 1 56 cs vb D9
 size:cs.size=3
 tok:cs[0]?=some vt
 own:w.ownsRow B 131 4 vt QT.length (QT.flatMap iO)
def PS(p B:Nat)(w:W_)(k:Nat):Prop:=k=p\/(B<=k/\∃cur e fr,w.heap[k]?=some (.cells cur e fr)/\(e=131\/e=5))
theorem PS.trans{p B:Nat}{a b c:W_}(h:Touch (PS p B a) a b)(k:Touch (PS p B b) b c):Touch (PS p B a) a c:=by
 refine⟨k.os.trans h.os,k.tape.trans h.tape,k.output.trans h.output,au2 h.size k.size,λi hi hn=>?_⟩;have h1:=h.block i hi hn;refine(k.block i atH λhs=>hn ?_).trans h1
 rcases hs with hs|⟨h2,cur,e,fr,h3,h4⟩
 .exact .inl hs
 .exact .inr ⟨h2,cur,e,fr,by rw[<-h1];exact h3,h4⟩
theorem PS.QH{p B:Nat}{a b:W_}(h:ag a b):Touch (PS p B a) a b:=h.mono λ_ h=>h.elim
theorem PS.bG{p B:Nat}{a b c:W_}(h:ag a b)(k:Touch (PS p B b) b c):Touch (PS p B a) a c:=PS.trans (PS.QH h) k
theorem PS.Am{p B:Nat}{a b c:W_}(h:Touch (PS p B a) a b)(k:ag b c):Touch (PS p B a) a c:=PS.trans h (PS.QH k)
theorem PS.QN{p B g:Nat}{t:TypeId}{cs:Array Value}{a b:W_}(h:Touch (PS p B a) a b)(hb:af a g t cs)(hp:g≠p)(h1:t≠131)(h2:t≠5):af b g t cs:=by
 refine h.QN hb ?_;rintro(hs|⟨_,cur,e,fr,h3,h4⟩)
 .exact hp hs
 .unfold af at hb
  rw[hb]at h3;cases h3
  rcases h4 with h4|h4
  .exact h1 h4
  .exact h2 h4
theorem Pr.QH{w w':W_}{p B:Nat}{vt vb:Value}{cs:Array Value}{QT:List Lx.aB}{D9:List UInt8}(h:Pr w p B vt vb cs QT D9)(hf:ag w w'):Pr w' p B vt vb cs QT D9:=
 ⟨h.lt,⟨hf.QN h.dW.QN PR,h.dW.addr,h.dW.buf,aQ h.dW.own hf anI,h.dW.ne,h.dW.J7⟩,h.size,h.tok,aQ h.own hf anI⟩
theorem Pr.Ke{S:Nat->Prop}{w w':W_}{p B:Nat}{vt vb:Value}{cs:Array Value}{QT:List Lx.aB}{D9:List UInt8}(h:Pr w p B vt vb cs QT D9)(ht:Touch S w w')(h1:¬S p)(h2:∀k,vt.ownBlock=some k->¬S k)(h3:∀k,vb.ownBlock=some k->¬S k):Pr w' p B vt vb cs QT D9:=
 ⟨h.lt,⟨ht.QN h.dW.QN h1,h.dW.addr,h.dW.buf,aQ h.dW.own ht h3,h.dW.ne,h.dW.J7⟩,h.size,h.tok,aQ h.own ht h2⟩
theorem Pr.ahn{w:W_}{p B:Nat}{vt vb:Value}{cs:Array Value}{QT:List Lx.aB}{D9:List UInt8}(h:Pr w p B vt vb cs QT D9):∀k,vt.ownBlock=some k->k<w.heap.size:=λk hk=>by
 obtain⟨_,cur,h2⟩:=fe h.own hk;exact(Array.getElem?_eq_some_iff.1 h2).1
theorem Pr.Bf{w:W_}{p B g:Nat}{vt vb:Value}{cs:Array Value}{QT:List Lx.aB}{D9:List UInt8}(h:Pr w p B vt vb cs QT D9){t:TypeId}{xs:Array Value}(hb:af w g t xs)(ht:t≠5):vb.ownBlock≠some g:=λhk=>by
 obtain⟨_,cur,h2⟩:=fe h.dW.own hk;unfold af at hb;rw[hb]at h2;cases h2;exact ht rfl
theorem PS.dW{w w':W_}{p B:Nat}{vt vb:Value}{cs:Array Value}{QT:List Lx.aB}{D9:List UInt8}(h:Pr w p B vt vb cs QT D9)(ht:Touch (λk=>k=p\/vb.ownBlock=some k) w w'):Touch (PS p B w) w w':=
 ht.mono λk hk=>hk.elim .inl λhk=>by
  obtain⟨h1,cur,h2⟩:=fe h.dW.own hk;exact .inr ⟨h1,cur,_,_,h2,.inr rfl⟩
theorem Pr.wrote{w w':W_}{p B:Nat}{vt vb F9:Value}{cs:Array Value}{QT:List Lx.aB}{D9 agk:List UInt8}(h:Pr w p B vt vb cs QT D9)
  (hb:uU w' B p 1 56 ((cs.setIfInBounds 1 (.pointer (A_ p 1))).setIfInBounds (1+1) F9) F9 agk) (ht:Touch (λk=>k=p\/vb.ownBlock=some k) w w'):
  Pr w' p B vt F9 ((cs.setIfInBounds 1 (.pointer (A_ p 1))).setIfInBounds (1+1) F9) QT agk:=by
 refine⟨h.lt,hb,by simp[h.size],?_,aQ h.own ht ?_⟩
 .rw[avQ (by decide),avQ (by decide)];exact h.tok
 .intro k hk hs
  obtain⟨h1,cur,h2⟩:=fe h.own hk
  rcases hs with hs|hs
  .have:=h.lt;omega
  .obtain⟨_,cur',h3⟩:=fe h.dW.own hs
   rw[h2]at h3;simp at h3
end
end Go.Proofs.YtabjglnjjdcfmaaGreatDoor
