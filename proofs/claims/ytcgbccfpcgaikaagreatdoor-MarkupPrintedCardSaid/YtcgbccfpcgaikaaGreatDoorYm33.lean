/- Part 33 of 46 of a proof. No condition. -/
import Derived.Test.YtcgbccfpcgaikaaGreatDoorYm32
import Derived.Test.YtcgbccfpcgaikaaGreatDoorYm2
set_option maxRecDepth 100000
set_option maxHeartbeats 1000000
namespace Go.Proofs.YtcgbccfpcgaikaaGreatDoor
section
open Go.RowKit
open Tr (Nd)
open U (E iX eU ax)
theorem ae7(k:Int)(s:List UInt8)(h:Tr.dR k s=true):s.length≤200:=by
 unfold Tr.dR at h;split at h
 ·unfold Tr.symbol at h
  split at h
  ·simp
  ·simp only[Bool.and_eq_true,decide_eq_true_eq]at h;omega
 split at h
 ·unfold Tr.isNum at h
  simp only[Bool.and_eq_true,decide_eq_true_eq]at h;omega
 split at h
 ·simp only[Bool.and_eq_true,decide_eq_true_eq]at h;omega
 split at h
 ·have hm:=List.contains_iff_mem.1 h
  simp only[Tr.eu,List.mem_cons,List.not_mem_nil,or_false]at hm
  rcases hm with rfl|rfl|rfl|rfl|rfl|rfl<;>decide
 split at h
 ·unfold Tr.fence at h
  split at h
  ·simp
  ·cases h
 ·rw[List.isEmpty_iff.1 h];simp
theorem Dl(r:Bool):∀(l:List Nd),Tr.iV r l=true→∀x∈l,((x.kind==1) !=r)=true∧Tr.form x=true
 |[],_,x,hx=>by cases hx
 |y::l,h,x,hx=>by
  rw[Tr.iV,Bool.and_eq_true,Bool.and_eq_true]at h
  rcases List.mem_cons.1 hx with rfl|hx
  ·exact h.1
  ·exact Dl r l h.2 x hx
theorem Fz(n:Nd)(k:Int)(nm:List UInt8)(hk:n.kind=k)(h:∀t c ss,U.FY k t c ss=.mk nm [] (ss.map (ax U.aj)) []):iX n=ax nm (aC U.aj n.kids):=by
 rw[U.qI,hk,h,U.iM,List.map_map];rfl
theorem UY(m:Nat):∀n,Tr.count n≤m→Tr.form n=true→(n.kind==1)=false→RB n:=by
 induction m with
 |zero=>intro n h;have:=Tr.bX n;omega
 |succ m ih=>
  intro n hm hf hk1;rw[Tr.kG,Bool.and_eq_true,Bool.and_eq_true,hk1]at hf;obtain⟨⟨ht,hkk⟩,hfl⟩:=hf;have htx:n.text.length≤maxLen:=Nat.le_trans (ae7 _ _ ht) (by decide)
  have hrow:∀x∈n.kids,Au x:=fun x hx=>OA x fun y hy=>by
   obtain⟨h1,h2⟩:=Dl _ _ hfl x hx;rw[Tr.kG,Bool.and_eq_true]at h2;have hx1:(x.kind==1)=true:=by simpa using h1
   rw[hx1]at h2;obtain⟨h3,h4⟩:=Dl _ _ h2.2 y hy;have c1:=Tr.cB hx;have c2:=Tr.cB hy;have c3:=Tr.aN n;have c4:=Tr.aN x;exact ih y (by omega) h4 (by simpa using h3)
  intro sl w hc hsl;unfold Tr.bM at hkk
  by_cases h12:n.kind=12
  ·rw[if_pos h12]at hkk
   simp only[Bool.and_eq_true,decide_eq_true_eq]at hkk;exact aaC n h12 htx n.ah.toNat (by omega) (by omega) hrow sl w hc hsl
  rw[if_neg h12]at hkk;split at hkk
  ·cases hkk
  split at hkk
  ·rename_i h1
   rw[h1]at hk1;cases hk1
  split at hkk
  ·rename_i h
   rcases h with h|h|h
   ·cases hl:U.qX n.text with
    |true=>exact UX n h htx hl sl w hc hsl
    |false=>exact RX n h htx hl sl w hc hsl
   ·exact ahi n h htx sl w hc hsl
   ·exact acQ n h htx sl w hc hsl
  split at hkk
  ·rename_i h
   have h2:n.kids.length=2:=by simpa using hkk
   rcases h with h|h|h|h
   ·exact Jj n U.lq 5 (by simp[sM]) h (Fz n 5 _ h fun _ _ _=>rfl) hrow sl w hc hsl
   ·obtain⟨a,b,hks⟩:∃a b,n.kids=[a,b]:=by
     match hh:n.kids,h2 with
     |[a,b],_=>exact⟨a,b,rfl⟩
    by_cases ha:a.kids=[]
    ·exact ae4 n a b h hks htx ha (hrow b (by rw[hks];simp)) sl w hc hsl
    ·exact ae5 n a b h hks htx ha (hrow a (by rw[hks];simp)) (hrow b (by rw[hks];simp)) sl w hc hsl
   ·exact Jj n U.mW 7 (by simp[sM]) h (Fz n 7 _ h fun _ _ _=>rfl) hrow sl w hc hsl
   ·exact Jj n U.mX 8 (by simp[sM]) h (Fz n 8 _ h fun _ _ _=>rfl) hrow sl w hc hsl
  split at hkk
  ·rename_i h
   exact Jj n U.gN 9 (by simp[sM]) h (Fz n 9 _ h fun _ _ _=>rfl) hrow sl w hc hsl
  split at hkk
  ·rename_i h
   have h1:n.kids.length=1:=by simpa using hkk
   obtain⟨a,hks⟩:=List.length_eq_one_iff.1 h1
   rcases h with h|h
   ·exact aaB n a h hks htx (hrow a (by rw[hks];simp)) sl w hc hsl
   ·have h2:n.text.length=2:=by
     rw[h]at ht;have ht':Tr.fence n.text=true:=ht;unfold Tr.fence at ht';split at ht'
     ·rename_i hx;rw[hx];rfl
     ·cases ht'
    exact acR n a h hks htx (hrow a (by rw[hks];simp)) h2 _ _ rfl rfl sl w hc hsl
  ·cases hkk
theorem aaD(n:Nd)(hf:Tr.form n=true)(hk:(n.kind==1)=true):Au n:=OA n fun y hy=>by
 rw[Tr.kG,Bool.and_eq_true,hk]at hf;obtain⟨h3,h4⟩:=Dl _ _ hf.2 y hy;exact UY _ y (Nat.le_refl _) h4 (by simpa using h3)
end
section
open Go.RowKit
open Tr (Nd)
open U (E iX eU ax)
attribute [local go_sem] gD stillUpon
def PO:E:=.mk [] [] [] []
def Be(n:Nd):E:=if Tr.valid n then U.nT n else PO
def yH(n:Nd):Int:=if Tr.valid n then 0 else 1
theorem Ya(w w':World)(hf:ag w w'):oH w w' PO (.agg Z):=
 ⟨_,_,rfl,hf,fun _ _=>⟨gJ.nil _ _ _,.nil _ _,Nat.zero_le _,Nat.zero_le _⟩⟩
theorem acX(n:Nd)(sl:Value)(w:World)(hr:aD w n.kids sl)(ht:n.text.length≤maxLen)(hc:Tr.count n≤1000):
  Calls Tryz.prog 20 #[nv n sl] w fun e w'=>∃v,e=.returned (.tuple #[v,.int .i64 (yH n)])∧oH w w' (Be n) v:=by
 obtain⟨A,cap,rfl⟩:=hr.slice;have HV:=hid (fun(w:World) (hr:aD w n.kids (.slice A n.kids.length cap))=>Lr n _ w hr ht (by omega));have HR:=hid hr;have HC:=hid hc;clear hr hc;cases hv:Tr.valid n with
 |false=>
  have HS:=hid (show Be n=PO from by unfold Be;rw[hv];rfl);have HE:=hid (show yH n=1 from by unfold yH;rw[hv];rfl);rw[HS.out,HE.out];go_enter Tryz.func20,Tryz.ntmps20;go_wp2_with fail
  refine(HV.out _ (HR.out.fresh (((M _ _).alloc _).alloc _))).mono ?_;rintro _ w1 ⟨rfl,hf⟩;have HF:=hid (Touch.pre (Touch.pre hf));have hb1:=hf.blk (af.new2 _ _ _ _) (fun h=>h);obtain⟨q0,q1,q2,q3,f0,f1,f2,f3,hg⟩:=af.four hb1;have HB:=hid hb1;clear hf hb1;go_wp2_with fail
  obtain⟨r0,r1,r2,r3,_,_,_,_,_⟩:=af.four (HB.out.gH (.string ⟨#[]⟩) (.slice none 0 0) (.slice none 0 0) (.string ⟨#[]⟩));simp only[aO]at r0 r1 r2 r3;refine bodyPost_ret (v:=.tuple #[.agg Z,.int .i64 1]) (by simp[results,Tryz.results20,go_sem,r0,r1,r2,r3]) rfl ?_;exact⟨_,rfl,Ya _ _ (Touch.aO HF.out (.inr (by omega)) _ _ _ _)⟩
 |true=>
  have HS:=hid (show Be n=U.nT n from by unfold Be;rw[hv];rfl);have HE:=hid (show yH n=0 from by unfold yH;rw[hv];rfl);have hv':=hv;unfold Tr.valid at hv';simp only[Bool.and_eq_true]at hv';have KL:=hid (aaD n (by simp_all) (by simp_all));clear hv';rw[HS.out,HE.out];go_enter Tryz.func20,Tryz.ntmps20;go_wp2_with fail
  refine(HV.out _ (HR.out.fresh (((M _ _).alloc _).alloc _))).mono ?_;rintro _ w1 ⟨rfl,hf⟩;have HF:=hid (Touch.pre (Touch.pre hf));have hb1:=hf.blk (af.new2 _ _ _ _) (fun h=>h);have hb0:=hf.blk ((af.new _ _ _).alloc _) (fun h=>h);obtain⟨p0,p1,p2,p3,_,_,_,_,_⟩:=af.four hb0;have HB:=hid hb1;clear hf hb1 hb0;go_wp2_with fail
  refine(KL.out U.gU (.slice A n.kids.length cap) w1 (by decide) (by have:=HC.out;omega) (HR.out.fresh HF.out)).mono ?_;rintro _ w2 ⟨v,rfl,va,vk,hev,hf2,hst⟩;replace hev:v=.agg #[.string ⟨U.gU.toArray⟩,va,vk,.string ⟨#[]⟩]:=hev;subst hev;obtain⟨Aa,ca,hva⟩:=hst.now.1.slice;obtain⟨Ak,ck,hvk⟩:=hst.now.2.1.slice;replace hva:va=.slice Aa 0 ca:=hva;replace hvk:vk=.slice Ak (eU n.kids).length ck:=hvk;subst hva;subst hvk;have bW:=hid (HF.out.trans hf2);have HB2:=hid (hf2.blk HB.out fun h=>h);have HST:=hid hst;have HL:=hid HB.out.lt;have yc:=hid HF.out.size;clear hf2 hst p0 p1 p2 p3;obtain⟨q0,q1,q2,q3,f0,f1,f2,f3,hg⟩:=af.four HB2.out;go_wp2_with fail
  obtain⟨r0,r1,r2,r3,_,_,_,_,_⟩:=af.four (HB2.out.gH (.string ⟨U.gU.toArray⟩) (.slice Aa 0 ca) (.slice Ak (eU n.kids).length ck) (.string ⟨#[]⟩));simp only[aO]at r0 r1 r2 r3;refine bodyPost_ret (v:=.tuple #[.agg #[.string ⟨U.gU.toArray⟩,.slice Aa 0 ca,.slice Ak (eU n.kids).length ck,.string ⟨#[]⟩],.int .i64 0]) (by simp[results,Tryz.results20,go_sem,r0,r1,r2,r3]) rfl ?_;have KI:=HST.out.step (S2:=fun k=>k<w.heap.size) ((M (fun k=>k=w.heap.size+1) w2).aO (.inl rfl) (.string ⟨U.gU.toArray⟩) (.slice Aa 0 ca) (.slice Ak (eU n.kids).length ck) (.string ⟨#[]⟩)) (fun i _ hi=>by have:=HL.out;have hi:i=w.heap.size+1:=hi;omega) (fun i _ hi=>by have:=yc.out;omega);exact⟨_,rfl,(.slice Aa 0 ca),(.slice Ak (eU n.kids).length ck),rfl,Touch.aO bW.out (.inr (by omega)) _ _ _ _,KI⟩
end
section
open Go.RowKit
open Tr (Nd)
open U (E aJ fB)
def xL(n:Nd):List UInt8:=if Tr.valid n then Ck (U.nT n)else []
def vD(n:Nd):Int:=if Tr.valid n then xg (U.nT n)else 1
theorem Ih(n:Nd)(sl:Value)(w:World)(hr:aD w n.kids sl)(ht:n.text.length≤maxLen)(hc:Tr.count n≤1000)(hl:Tr.valid n=true→(fB (U.nT n)).length≤8000000):
  Calls Tryz.prog 9 #[nv n sl] w fun x w'=>x=.returned (.tuple #[.string ⟨(xL n).toArray⟩,.int .i64 (vD n)])∧ag w w':=by
 obtain⟨A,cap,rfl⟩:=hr.slice;have HM:=hid (fun(w:World) (hr:aD w n.kids (.slice A n.kids.length cap))=>acX n _ w hr ht hc);have HR:=hid hr;have HL:=hid hl;clear hr hl;cases hv:Tr.valid n with
 |false=>
  have HS:=hid (show Be n=PO from by unfold Be;rw[hv];rfl);have HE:=hid (show yH n=1 from by unfold yH;rw[hv];rfl);have HX:=hid (show xL n=[]from by unfold xL;rw[hv];rfl);have HXE:=hid (show vD n=1 from by unfold vD;rw[hv];rfl);rw[HX.out,HXE.out];go_enter Tryz.func9,Tryz.ntmps9;go_wp2_with fail
  refine(HM.out _ (HR.out.fresh ((M _ w).alloc _))).mono ?_;rintro _ w1 ⟨v,rfl,va,vk,hev,hf,hst⟩;rw[HE.out];rw[HS.out]at hev hst;replace hev:v=.agg #[.string ⟨#[]⟩,va,vk,.string ⟨#[]⟩]:=hev;obtain⟨Aa,ca,hva⟩:=hst.now.1.slice;obtain⟨Ak,ck,hvk⟩:=hst.now.2.1.slice;subst hev hva hvk;have HF:=hid (Touch.pre hf);clear hf hst;go_wp2
  go_ret2;exact⟨rfl,HF.out.alloc _⟩
 |true=>
  have HS:=hid (show Be n=U.nT n from by unfold Be;rw[hv];rfl);have HE:=hid (show yH n=0 from by unfold yH;rw[hv];rfl);have HX:=hid (show xL n=Ck (U.nT n)from by unfold xL;rw[hv];rfl);have HXE:=hid (show vD n=xg (U.nT n)from by unfold vD;rw[hv];rfl);rw[HX.out,HXE.out];have HL2:=hid (HL.out hv);go_enter Tryz.func9,Tryz.ntmps9;go_wp2_with fail
  refine(HM.out _ (HR.out.fresh ((M _ w).alloc _))).mono ?_;rintro _ w1 ⟨v,rfl,va,vk,hev,hf,hst⟩;rw[HE.out];rw[HS.out]at hev hst;have F8:=hid (fun(w:World) (h:jd w (U.nT n) va vk)=>X7 (U.nT n) va vk w h (fun _=>HL2.out));have HST:=hid hst;obtain⟨Aa,ca,hva⟩:=hst.now.1.slice;obtain⟨Ak,ck,hvk⟩:=hst.now.2.1.slice
  rcases hem:U.nT n with⟨en,ea,ek,et⟩
  have HEM:=hid hem;rw[hem]at F8 hev hva hvk HST;clear hem;unfold ev at F8 hev;simp only[E.name,E.attrs,E.kids,E.text]at F8 hev hva hvk;subst hev hva hvk;have HF:=hid (Touch.pre hf);clear hf hst;go_wp2_with fail
  refine(F8.out _ ((HST.out _ ((M _ w1).alloc _)))).mono ?_;rintro _ w2 ⟨rfl,hf2⟩;have bW:=hid (HF.out.trans (Touch.pre hf2));clear hf2;go_wp2
  go_ret2;exact⟨by rw[HEM.out];rfl,bW.out⟩
def PR:Nd:=.mk 1 [] 0 [.mk 2 [120] 0 [],.mk 2 [43] 0 []]
def aaE:List UInt8:=[60,109,97,116,104,62,60,109,105,62,120,60,47,109,105,62,60,109,111,62,43,60,47,109,111,62,60,47,109,97,116,104,62]
theorem UZ(w:World):Calls Tryz.prog 4 #[] w fun e w'=>e=.returned (.bool true)∧ag w w':=by
 have HS:=hid (show xL PR=aaE by decide+kernel);have HE:=hid (show vD PR=0 by decide+kernel);go_enter Tryz.func4,Tryz.ntmps4;go_wp2_with fail
 have hp:aD (w.alloc (.cells #[.int .i64 2,.string ⟨#[120]⟩,.int .i64 0,.slice none 0 0,.int .i64 2,.string ⟨#[43]⟩,.int .i64 0,.slice none 0 0] 24)) PR.kids (.slice (some ⟨w.heap.size,0,none⟩) 2 2):=aD.acA (k:=2) (s:=[120]) (c:=0) (ks:=[]) (k':=2) (s':=[43]) (c':=0) (ks':=[]) (af.new w 24 _) (by decide) (by decide) (.nil _ _) (.nil _ _);refine(Ih PR _ _ hp (by decide) (by decide+kernel) (fun _=>by decide+kernel)).mono ?_;rintro _ w1 ⟨rfl,hf⟩;rw[HS.out,HE.out];have HF:=hid (Touch.pre hf);clear hp hf;unfold aaE;go_wp2
 go_ret;exact⟨ai _ _ (by decide),HF.out⟩
end
namespace Np
open Lx (aB)
open Tr (Nd oO mU bY)
inductive R(α:Type) where
 |ok (a:α) (r:List aB)
 |out
def R.bind{α β:Type}(x:R α)(k:α→List aB→R β):R β:=
 match x with
 |.ok a r=>k a r
 |.out=>.out
def R.map{α β:Type}(x:R α)(k:α→β):R β:=x.bind fun a r=>.ok (k a) r
def place(en:Nat):List aB→Nat
 |[]=>en
 |t::_=>t.from_
def dx(b:UInt8):List aB→Bool
 |[]=>false
 |t::_=>(t.kind==7)&&(t.text==[b])
def refuse{α:Type}(_:Nat)(_:List aB):R α:=.out
def fO(t:aB):Option Nd:=
 if t.kind=1 then some (.mk 2 t.text 0 [])
 else if t.kind=2 then some (.mk 3 t.text 0 [])
 else if t.kind=3 then some (.mk 4 t.text 0 [])
 else none
def slot(l:List Nd):Nd:=.mk 1 [] 0 l
def tH(t:List UInt8):Bool:=Tr.eu.contains t
def special(t:List UInt8):Bool:=(t==oO)||(t==mU)||(t==bY)||tH t
def j5:List aB→Bool
 |[]=>false
 |t::_=>t.kind==8
def xh(b c n:Nat):Nat:=if b=0 then n else c
def stops(l:List aB):Bool:=j5 l||dx 41 l||dx 93 l||dx 125 l||dx 38 l
def scripts(group:Bool)(en:Nat)(base:List Nd)(sub sup:Option Nd)(l:List aB):R (List Nd):=
 match sub,sup with
 |some a,some b=>.ok [.mk 9 [] 0 [slot base,a,b]] l
 |none,some b=>.ok [.mk 8 [] 0 [slot base,b]] l
 |some a,none=>.ok [.mk 7 [] 0 [slot base,a]] l
 |none,none=>if group then refuse en l else .ok base l
def plainName(t:aB)(r:List aB):R (List Nd):=if t.text.length=1 then .out else .ok [.mk 2 t.text 0 []] r
mutual
def cZ(en:Nat):Nat→List Nat→List aB→R (List Nd)
 |0,_,_=>.out
 |f+1,op,l=>
  if l.isEmpty∧op≠[]then .out
  else if l.isEmpty∨stops l=true then .ok [] l
  else(eP en f op l).bind fun more r=>(cZ en f op r).map fun items=>more++items
def kE(en:Nat):Nat→UInt8→List Nat→List aB→R (List Nd)
 |0,_,_,_=>.out
 |f+1,b,op,l=>(cZ en f (op++[place en l]) l.tail).bind fun items r=>if dx b r then .ok items r.tail else refuse en r
def eB(en:Nat):Nat→UInt8→List Nat→List aB→R (Option Nd)
 |0,_,_,_=>.out
 |f+1,b,op,l=>if dx b l then(pArg en f op l.tail).map some else .ok none l
def eP(en:Nat):Nat→List Nat→List aB→R (List Nd)
 |0,_,_=>.out
 |f+1,op,l=>(dA en f op l).bind fun base r=>(eB en f 95 op r).bind fun sub r=>(eB en f 94 op r).bind fun sup r=>
  if sup.isSome&&sub.isNone then(eB en f 95 op r).bind fun sub r=>scripts (dx 123 l) en base sub sup r
  else scripts (dx 123 l) en base sub sup r
def dA(en:Nat):Nat→List Nat→List aB→R (List Nd)
 |0,_,_=>.out
 |f+1,op,l=>
  match l with
  |[]=>refuse en l
  |t::r=>
   match fO t with
   |some x=>.ok [x] r
   |none=>
    if t.kind=4 then fD en f op t r
    else if t.kind=5 then(bV en f 1 op r).map fun ks=>[.mk 11 t.text 0 ks]
    else if dx 40 l then(kE en f 41 op l).map fun items=>[.mk 11 [40,41] 0 [slot items]]
    else if dx 91 l then(kE en f 93 op l).map fun items=>[.mk 11 [91,93] 0 [slot items]]
    else if dx 123 l then kE en f 125 op l
    else refuse en l
def bV(en:Nat):Nat→Nat→List Nat→List aB→R (List Nd)
 |0,_,_,_=>.out
 |_+1,0,_,l=>.ok [] l
 |f+1,n+1,op,l=>(pArg en f op l).bind fun a r=>(bV en f n op r).map fun ks=>a::ks
def fD(en:Nat):Nat→List Nat→aB→List aB→R (List Nd)
 |0,_,_,_=>.out
 |f+1,op,t,r=>
  if t.text=oO then(bV en f 2 op r).map fun ks=>[.mk 5 [] 0 ks]
  else if t.text=mU then
   if dx 91 r then(kE en f 93 op r).bind fun d r'=>(bV en f 1 op r').map fun ks=>[.mk 6 [] 0 (slot d::ks)]
   else(bV en f 1 op r).map fun ks=>[.mk 6 [] 0 (slot []::ks)]
  else if t.text=bY then
   if dx 123 r then(di en f (op++[place en r]) [] 0 0 r.tail).map fun p=>[.mk 12 [] p.2 p.1]else refuse en r
  else if tH t.text then(bV en f 1 op r).map fun ks=>[.mk 10 t.text 0 ks]
  else plainName t r
def di(en:Nat):Nat→List Nat→List Nd→Nat→Nat→List aB→R (List Nd×Nat)
 |0,_,_,_,_,_=>.out
 |f+1,op,ks,b,c,l=>(cZ en f op l).bind fun items r=>
  if dx 38 r then di en f op (ks++[slot items]) b c r.tail
  else if j5 r=false∧dx 125 r=false then refuse en r
  else if ks.length+1-b≠(xh b c (ks.length+1))then .out
  else if j5 r=false then .ok (ks++[slot items],xh b c (ks.length+1)) r.tail
  else di en f op (ks++[slot items]) (ks.length+1) (xh b c (ks.length+1)) r.tail
def pArg(en:Nat):Nat→List Nat→List aB→R Nd
 |0,_,_=>.out
 |f+1,op,l=>
  match l with
  |[]=>refuse en l
  |t::r=>
   match fO t with
   |some x=>.ok (slot [x]) r
   |none=>
    if dx 123 l then(kE en f 125 op l).map slot
    else if t.kind=4∧special t.text=false then(plainName t r).map slot
    else refuse en l
end
def yI(en:Nat)(l:List aB):R (List Nd):=
 (cZ en (8*l.length+8) [] l).bind fun items r=>if r.isEmpty then .ok items r else refuse en r
end Np
namespace Np
open Lx (aB Tok)
open Tr (Nd Ev aI expect oO mU bY)
def bare(ts:List Tok):List aB:=ts.map fun t=>⟨t.kind,t.text,0,0⟩
theorem dL(t:Tok)(r:List Tok):bare (t::r)=⟨t.kind,t.text,0,0⟩::bare r:=rfl
theorem kL{t:Tok}{ts r:List Tok}(h:expect t ts=some r):ts=t::r:=by
 cases ts with
 |nil=>cases h
 |cons x l=>
  simp only[expect]at h
  by_cases hx:x=t
  ·rw[if_pos hx]at h;cases h;rw[hx]
  ·rw[if_neg hx]at h;cases h
theorem wh(b:UInt8)(ts:List Tok):dx b (bare ts)=(expect (aI b) ts).isSome:=by
 cases ts with
 |nil=>rfl
 |cons x l=>
  simp only[expect]
  by_cases hx:x=aI b
  ·rw[if_pos hx];subst hx;simp[dL,dx,aI]
  ·rw[if_neg hx]
   simp only[dL,dx]
   by_cases hk:x.kind=7
   ·have:x.text≠[b]:=fun ht=>hx (by obtain⟨k,t⟩:=x;simp at hk ht;rw[hk,ht];rfl)
    simp[this]
   ·simp[hk]
theorem Pv{t:List UInt8}(h:Tr.Gm t=true):t.length≠1∧special t=false:=by
 unfold Tr.Gm at h;simp only[Bool.and_eq_true,Bool.not_eq_true',beq_eq_false_iff_ne]at h;obtain⟨⟨⟨⟨h1,h2⟩,h3⟩,h4⟩,h5⟩:=h;refine⟨h1,?_⟩;unfold special tH;rw[h5];simp[h2,h3,h4]
def PV(op:List Nat)(r:List Tok):Prop:=(r=[]∧op=[])∨stops (bare r)=true
structure Reads(f:Nat):Prop where
 arg:∀ts a r,Tr.pArg f ts=some (a,r)→∀op,Ev fun F=>pArg 0 F op (bare ts)=.ok a (bare r)
 row:∀ts ks r,Tr.cZ f ts=some (ks,r)→∀op,PV op r→Ev fun F=>cZ 0 F op (bare ts)=.ok ks (bare r)
 base:∀ts ks r,Tr.jX f ts=some (ks,r)→∀op,Ev fun F=>dA 0 F op (bare ts)=.ok ks (bare r)
 item:∀ts u r,Tr.eP f ts=some (u,r)→dx 95 (bare r)=false→∀op,Ev fun F=>eP 0 F op (bare ts)=.ok [u] (bare r)
theorem Ai{b o:UInt8}{ts r:List Tok}{ks:List Nd}(hb:stops (bare (aI b::r))=true)(h:∀op,PV op (aI b::r)→Ev fun F=>cZ 0 F op (bare ts)=.ok ks (bare (aI b::r)))(op:List Nat):
  Ev fun F=>kE 0 F b op (bare (aI o::ts))=.ok ks (bare r):=by
 refine Ev.succ ((h (op++[0]) (.inr hb)).mono fun F h1=>?_);rw[kE];show R.bind (cZ 0 F (op++[0]) (bare ts)) _=_;rw[h1];show(if dx b (bare (aI b::r))then _ else _)=_;rw[wh,Tr.jC];rfl
theorem Reads.ajc{f:Nat}(ih:Reads f)(ts:List Tok)(a:Nd)(r:List Tok)(h:Tr.pArg (f+1) ts=some (a,r))(op:List Nat):Ev fun F=>pArg 0 F op (bare ts)=.ok a (bare r):=by
 cases ts with
 |nil=>simp[Tr.pArg]at h
 |cons x l=>
  rw[Tr.pArg]at h;split at h
  ·rename_i hk
   cases h;refine Ev.succ (Ev.of fun F=>?_)
   rcases hk with hk|⟨hk,hp⟩
   ·simp[dL,pArg,fO,hk,slot,Tr.row]
   ·obtain⟨p1,p2⟩:=Pv hp
    simp[dL,pArg,fO,hk,slot,Tr.row,dx,p1,p2,plainName,R.map,R.bind]
  ·split at h
   ·rename_i hk
    cases h;exact Ev.succ (Ev.of fun F=>by simp[dL,pArg,fO,hk,slot,Tr.row])
   ·split at h
    ·rename_i hk
     cases h;exact Ev.succ (Ev.of fun F=>by simp[dL,pArg,fO,hk,slot,Tr.row])
    ·split at h
     ·rename_i hk
      subst hk;simp only[Option.bind_eq_some_iff,Option.map_eq_some_iff]at h;obtain⟨⟨ks,r1⟩,h1,r2,h2,h3⟩:=h;cases h3;have e:=kL h2;simp only at e;subst e;refine Ev.succ ((Ai (o:=123) (by rfl) (fun op ho=>ih.row _ _ _ h1 op ho) op).mono fun F h4=>?_);rw[dL,pArg];simp only[fO,aI];rw[dL]at h4;simp[dx,aI,R.map,R.bind,slot,Tr.row]at h4⊢
      rw[h4]
     ·cases h
theorem U0{x:Tok}(h:Tr.pF x=true):x.kind≠8∧(x.kind=7→x.text=[40]∨x.text=[91]∨x.text=[123]):=by
 unfold Tr.pF at h;simp only[Bool.or_eq_true,Bool.and_eq_true,beq_iff_eq]at h
 rcases h with((((h|h)|h)|h)|h)|⟨h,h2⟩
 all_goals (refine⟨by omega,fun hk=>?_⟩)
 all_goals first|omega|(rcases h2 with(h2|h2)|h2<;>simp[h2])
theorem Ii{ts:List Tok}(h:Tr.starts ts=true):(bare ts).isEmpty=false∧stops (bare ts)=false∧dx 95 (bare ts)=false:=by
 cases ts with
 |nil=>cases h
 |cons x l=>
  obtain⟨h1,h2⟩:=U0 (x:=x) h;refine⟨rfl,?_,?_⟩
  ·simp only[stops,j5,dx,dL]
   by_cases hk:x.kind=7
   ·rcases h2 hk with ht|ht|ht<;>simp[hk,ht]
   ·simp[hk,h1]
  ·simp only[dx,dL]
   by_cases hk:x.kind=7
   ·rcases h2 hk with ht|ht|ht<;>simp[hk,ht]
   ·simp[hk]
theorem acY{op:List Nat}{r:List Tok}(h:PV op r):dx 95 (bare r)=false:=by
 rcases h with⟨rfl,_⟩|h
 ·rfl
 ·cases r with
  |nil=>cases h
  |cons x l=>
   simp only[stops,j5,dx,dL,Bool.or_eq_true,Bool.and_eq_true,beq_iff_eq]at h⊢
   rcases h with(((h|⟨h,h'⟩)|⟨h,h'⟩)|⟨h,h'⟩)|⟨h,h'⟩
   all_goals simp[h]
   all_goals simp[h']
theorem Reads.ajd{f:Nat}(ih:Reads f)(ts:List Tok)(ks:List Nd)(r:List Tok)(h:Tr.cZ (f+1) ts=some (ks,r))(op:List Nat)(ho:PV op r):Ev fun F=>cZ 0 F op (bare ts)=.ok ks (bare r):=by
 rw[Tr.cZ]at h;split at h
 ·rename_i hs
  simp only[Option.bind_eq_some_iff,Option.map_eq_some_iff]at h;obtain⟨⟨u,r1⟩,h1,⟨q,r2⟩,h2,h3⟩:=h;cases h3;obtain⟨e1,e2,_⟩:=Ii hs
  have hn:dx 95 (bare r1)=false:=by
   cases f with
   |zero=>rw[Tr.cZ]at h2;cases h2
   |succ f=>
    rw[Tr.cZ]at h2;split at h2
    ·rename_i hs2;exact(Ii hs2).2.2
    ·cases h2;exact acY ho
  refine Ev.succ (((ih.item _ _ _ h1 hn op).and (ih.row _ _ _ h2 op ho)).mono fun F ⟨h4,h5⟩=>?_);rw[cZ,if_neg (by simp[e1]),if_neg (by simp[e1,e2]),h4];show R.map (cZ 0 F op (bare r1)) _=_;rw[h5];rfl
 ·cases h
  refine Ev.succ (Ev.of fun F=>?_);rw[cZ]
  rcases ho with⟨rfl,rfl⟩|ho
  ·rfl
  ·have hne:(bare ts).isEmpty=false:=by
    cases ts with
    |nil=>cases ho
    |cons x l=>rfl
   rw[if_neg (by simp[hne]),if_pos (.inr ho)]
theorem Reads.Nj{f:Nat}(ih:Reads f){b:UInt8}{ts r1:List Tok}{a:Nd}{r:List Tok}(he:expect (aI b) ts=some r1)(h:Tr.pArg f r1=some (a,r))(op:List Nat):Ev fun F=>eB 0 F b op (bare ts)=.ok (some a) (bare r):=by
 have e:=kL he;subst e;refine Ev.succ ((ih.arg _ _ _ h op).mono fun F h1=>?_);rw[eB,wh,he];show R.map (pArg 0 F op (bare r1)) some=_;rw[h1];rfl
theorem wM{b:UInt8}{ts:List Tok}(h:dx b (bare ts)=false)(op:List Nat):Ev fun F=>eB 0 F b op (bare ts)=.ok none (bare ts):=
 Ev.succ (Ev.of fun F=>by rw[eB,if_neg (by simp[h])])
theorem Aj{b:UInt8}{ts:List Tok}(h:expect (aI b) ts=none):dx b (bare ts)=false:=by rw[wh,h];rfl
theorem aaF(ts:List Tok):dx 123 (bare ts)=Tr.pE ts:=by
 cases ts with
 |nil=>rfl
 |cons x l=>
  rw[wh];simp only[expect,Tr.pE]
  by_cases h:x=aI 123<;>simp[h]
theorem Reads.ahk{f:Nat}(ih:Reads f)(ts:List Tok)(u:Nd)(r:List Tok)(h:Tr.eP (f+1) ts=some (u,r))(h95:dx 95 (bare r)=false)(op:List Nat):Ev fun F=>eP 0 F op (bare ts)=.ok [u] (bare r):=by
 rw[Tr.eP]at h;simp only[Option.bind_eq_some_iff]at h;obtain⟨⟨base,p⟩,h1,h⟩:=h;simp only at h;have HB:=ih.base _ _ _ h1 op;split at h
 ·rename_i r1 he
  simp only[Option.bind_eq_some_iff]at h;obtain⟨⟨q,q2⟩,h2,h⟩:=h;simp only at h;have HS:=ih.Nj he h2 op;split at h
  ·rename_i r2 he2
   simp only[Option.map_eq_some_iff]at h;obtain⟨⟨s,s2⟩,h3,h⟩:=h;cases h;refine Ev.succ ((HB.and (HS.and (ih.Nj he2 h3 op))).mono fun F ⟨k1,k2,k3⟩=>?_);rw[eP,k1];simp only[R.bind,k2,k3];rfl
  ·rename_i he2
   cases h;refine Ev.succ ((HB.and (HS.and (wM (Aj he2) op))).mono fun F ⟨k1,k2,k3⟩=>?_);rw[eP,k1];simp only[R.bind,k2,k3];rfl
 ·rename_i he
  split at h
  ·rename_i r1 he2
   simp only[Option.map_eq_some_iff]at h;obtain⟨⟨q,q2⟩,h2,h⟩:=h;cases h;refine Ev.succ ((HB.and ((wM (Aj he) op).and ((ih.Nj he2 h2 op).and (wM h95 op)))).mono fun F ⟨k1,k2,k3,k4⟩=>?_);rw[eP,k1];simp only[R.bind,k2,k3,k4];rfl
  ·rename_i he2
   split at h
   ·split at h
    ·cases h
    ·rename_i hg
     cases h;refine Ev.succ ((HB.and ((wM (Aj he) op).and (wM (Aj he2) op))).mono fun F ⟨k1,k2,k3⟩=>?_);rw[eP,k1];simp only[R.bind,k2,k3,aaF];rw[Bool.not_eq_true]at hg;rw[hg];rfl
   ·cases h
theorem Reads.Ij{f:Nat}(ih:Reads f){ts r:List Tok}{a:Nd}(h:Tr.pArg f ts=some (a,r))(op:List Nat):Ev fun F=>bV 0 F 1 op (bare ts)=.ok [a] (bare r):=by
 refine Ev.succ (Ev.mono ((ih.arg _ _ _ h op).and (⟨1,fun F hF=>by obtain⟨g,rfl⟩:∃g,F=g+1:=⟨F-1,by omega⟩;rw[bV]⟩:Ev fun F=>bV 0 F 0 op (bare r)=.ok [] (bare r))) fun F ⟨h1,h2⟩=>?_);rw[bV,h1];show R.map (bV 0 F 0 op (bare r)) _=_;rw[h2];rfl
theorem Reads.agi{f:Nat}(ih:Reads f){ts r r':List Tok}{a b:Nd}(h:Tr.pArg f ts=some (a,r))(h':Tr.pArg f r=some (b,r'))(op:List Nat):Ev fun F=>bV 0 F 2 op (bare ts)=.ok [a,b] (bare r'):=by
 refine Ev.succ (Ev.mono ((ih.arg _ _ _ h op).and (ih.Ij h' op)) fun F ⟨h1,h2⟩=>?_);rw[bV,h1];show R.map (bV 0 F 1 op (bare r)) _=_;rw[h2];rfl
theorem Aw:∀cs:List (Nd×Bool),0≤Tr.rA cs
 |[]=>Int.le_refl _
 |(_,b)::l=>by
  have:=Aw l;rw[Tr.rA];split<;>omega
def Ik(f:Nat):Prop:=∀(ts:List Tok) (cs:List (Nd×Bool)) (r1 r2:List Tok),Tr.di f ts=some (cs,r1)→expect (aI 125) r1=some r2→cs.map (·.2)=Tr.ends (Tr.rA cs) cs.length→
 ∀op,Ev fun F=>di 0 F op [] 0 0 (bare ts)=.ok (cs.map (·.1),(Tr.rA cs).toNat) (bare r2)
theorem Reads.ahl{f:Nat}(ih:Reads f)(hm:Ik f)(x:Tok)(ts:List Tok)(ks:List Nd)(r:List Tok)(hk:x.kind=4)(h:Tr.jX (f+1) (x::ts)=some (ks,r))(op:List Nat):
  Ev fun F=>fD 0 F op ⟨x.kind,x.text,0,0⟩ (bare ts)=.ok ks (bare r):=by
 rw[Tr.jX,if_neg (by omega),if_neg (by omega),if_neg (by omega),if_neg (by omega),if_pos hk]at h;split at h
 ·rename_i ht
  simp only[Option.bind_eq_some_iff,Option.map_eq_some_iff]at h;obtain⟨⟨a,r1⟩,h1,⟨b,r2⟩,h2,h3⟩:=h;cases h3;refine Ev.succ ((ih.agi h1 h2 op).mono fun F k1=>?_);rw[fD,if_pos ht,k1];rfl
 ·rename_i n1
  split at h
  ·rename_i ht
   split at h
   ·rename_i r1 he
    simp only[Option.bind_eq_some_iff,Option.map_eq_some_iff]at h;obtain⟨⟨d,r2⟩,h1,r3,h2,⟨a,r4⟩,h3,h4⟩:=h;cases h4;have e1:=kL he;have e2:=kL h2;simp only at e2;subst e1 e2;refine Ev.succ (((Ai (o:=91) (by rfl) (fun op ho=>ih.row _ _ _ h1 op ho) op).and (ih.Ij h3 op)).mono fun F ⟨k1,k2⟩=>?_);rw[fD,if_neg n1,if_pos ht,wh,he,Option.isSome_some,if_pos rfl,k1];show R.map (bV 0 F 1 op (bare r3)) _=_;rw[k2];rfl
   ·rename_i he
    simp only[Option.map_eq_some_iff]at h;obtain⟨⟨a,r1⟩,h1,h2⟩:=h;cases h2;refine Ev.succ ((ih.Ij h1 op).mono fun F k1=>?_);rw[fD,if_neg n1,if_pos ht,Aj he,if_neg (by decide),k1];rfl
  ·rename_i n2
   split at h
   ·rename_i ht
    simp only[Option.bind_eq_some_iff]at h;obtain⟨r1,h1,⟨cs,r2⟩,h2,r3,h3,h4⟩:=h;simp only at h3 h4;split at h4
    ·rename_i hE
     cases h4;have e:=kL h1;subst e;refine Ev.succ ((hm _ _ _ _ h2 h3 hE (op++[0])).mono fun F k1=>?_);rw[fD,if_neg n1,if_neg n2,if_pos ht,wh,h1,Option.isSome_some,if_pos rfl];show R.map (di 0 F (op++[0]) [] 0 0 (bare r1)) _=_;rw[k1];have:=Aw cs;simp only[R.map,R.bind,Int.toNat_of_nonneg this]
    ·cases h4
   ·rename_i n3
    split at h
    ·rename_i ht
     simp only[Option.map_eq_some_iff]at h;obtain⟨⟨a,r1⟩,h1,h2⟩:=h;cases h2;refine Ev.succ ((ih.Ij h1 op).mono fun F k1=>?_);rw[fD,if_neg n1,if_neg n2,if_neg n3,if_pos (show tH x.text=true from ht),k1];rfl
    ·rename_i n4
     split at h
     ·cases h
     ·rename_i n5
      cases h;refine Ev.succ (Ev.of fun F=>?_);rw[fD,if_neg n1,if_neg n2,if_neg n3,if_neg (show¬tH x.text=true from n4),plainName,if_neg n5]
theorem Reads.ahm{f:Nat}(ih:Reads f)(hm:Ik f)(ts:List Tok)(ks:List Nd)(r:List Tok)(h:Tr.jX (f+1) ts=some (ks,r))(op:List Nat):Ev fun F=>dA 0 F op (bare ts)=.ok ks (bare r):=by
 cases ts with
 |nil=>simp[Tr.jX]at h
 |cons x l=>
  by_cases hk4:x.kind=4
  ·refine Ev.succ ((ih.ahl hm x l ks r hk4 h op).mono fun F k1=>?_)
   rw[dL,dA];simp[fO,hk4]at k1⊢
   exact k1
  ·rw[Tr.jX]at h
   split at h
   ·rename_i hk;cases h
    exact Ev.succ (Ev.of fun F=>by simp[dL,dA,fO,hk])
   ·split at h
    ·rename_i hk;cases h
     exact Ev.succ (Ev.of fun F=>by simp[dL,dA,fO,hk])
    ·split at h
     ·rename_i hk;cases h
      exact Ev.succ (Ev.of fun F=>by simp[dL,dA,fO,hk])
     ·split at h
      ·rename_i hk
       simp only[Option.map_eq_some_iff]at h;obtain⟨⟨a,r1⟩,h1,h2⟩:=h;cases h2;refine Ev.succ ((ih.Ij h1 op).mono fun F k1=>?_);simp[dL,dA,fO,hk,k1,R.map,R.bind]
      ·split at h
       ·
        rename_i hx;subst hx;simp only[Option.bind_eq_some_iff,Option.map_eq_some_iff]at h;obtain⟨⟨d,r2⟩,h1,r3,h2,h4⟩:=h;cases h4;have e2:=kL h2;simp only at e2;subst e2;refine Ev.succ ((Ai (o:=40) (by rfl) (fun op ho=>ih.row _ _ _ h1 op ho) op).mono fun F k1=>?_);rw[dL]at k1⊢;simp[dA,fO,aI,dx,R.map,R.bind]at k1⊢
        rw[k1];rfl
       ·split at h
        ·
         rename_i hx;subst hx;simp only[Option.bind_eq_some_iff,Option.map_eq_some_iff]at h;obtain⟨⟨d,r2⟩,h1,r3,h2,h4⟩:=h;cases h4;have e2:=kL h2;simp only at e2;subst e2;refine Ev.succ ((Ai (o:=91) (by rfl) (fun op ho=>ih.row _ _ _ h1 op ho) op).mono fun F k1=>?_);rw[dL]at k1⊢;simp[dA,fO,aI,dx,R.map,R.bind]at k1⊢
         rw[k1];rfl
        ·split at h
         ·
          rename_i hx;subst hx;simp only[Option.bind_eq_some_iff,Option.map_eq_some_iff]at h;obtain⟨⟨d,r2⟩,h1,r3,h2,h4⟩:=h;cases h4;have e2:=kL h2;simp only at e2;subst e2;refine Ev.succ ((Ai (o:=123) (by rfl) (fun op ho=>ih.row _ _ _ h1 op ho) op).mono fun F k1=>?_);rw[dL]at k1⊢;simp[dA,fO,aI,dx]at k1⊢
          rw[k1]
         ·cases h
end Np
namespace Np
open Lx (aB Tok)
open Tr (Nd Ev aI expect oO mU bY)
theorem RZ{C q n:Nat}(h1:C*q≤n)(h2:n<C*q+C)(h:(n+1)%C=0):n+1=C*q+C:=by
 obtain⟨r,hr⟩:∃r,n+1=C*q+r:=⟨n+1-C*q,by omega⟩;rw[hr,Nat.mul_add_mod]at h
 by_cases hc:r<C
 ·rw[Nat.mod_eq_of_lt hc]at h;omega
 ·omega
theorem acZ{C q n:Nat}(h2:n<C*q+C)(h:(n+1)%C≠0):n+1<C*q+C:=by
 rcases Nat.lt_or_ge (n+1) (C*q+C)with h3|h3
 ·exact h3
 ·exfalso
  have:n+1=C*q+C:=by omega
  rw[this,Nat.mul_add_mod,Nat.mod_self]at h;exact h rfl
theorem cellsS(C:Nat)(hC:1≤C):∀f,(∀g,g<f→Reads g)→∀ts cs r1 r2,Tr.di f ts=some (cs,r1)→expect (aI 125) r1=some r2→∀(ks:List Nd) (q c:Nat),C*q≤ks.length→ks.length<C*q+C→(C*q=0∨c=C)→
  (∀i (h:i<cs.length),cs[i].2=decide ((ks.length+i+1)%C=0))→∀op,Ev fun F=>di 0 F op ks (C*q) c (bare ts)=.ok (ks++cs.map (·.1),C) (bare r2)
 |0,_,_,_,_,_,h,_,_,_,_,_,_,_,_,_=>by rw[Tr.di]at h;cases h
 |f+1,ih,ts,cs,r1,r2,h,he,ks,q,c,h1,h2,hc,hf,op=>by
  have e1:=kL he;subst e1;rw[Tr.di]at h;simp only[Option.bind_eq_some_iff]at h;obtain⟨⟨items,p⟩,hr,h⟩:=h;simp only at h;have hrow:=(ih f (Nat.lt_succ_self _)).row _ _ _ hr;split at h
  ·rename_i r hx
   simp only[Option.map_eq_some_iff]at h;obtain⟨⟨qq,q2⟩,h3,h4⟩:=h;cases h4;have e2:=kL hx;subst e2;have hf0:=hf 0 (by simp);simp only[List.getElem_cons_zero,Nat.add_zero]at hf0;have hn:(ks.length+1)%C≠0:=by simpa using hf0.symm
   have hrec:=cellsS C hC f (fun g hg=>ih g (by omega)) _ _ _ _ h3 he (ks++[slot items]) q c (by simp;omega) (by have:=acZ h2 hn;simp;omega) hc (fun i hi=>by
    have:=hf (i+1) (by simpa using hi);simp only[List.getElem_cons_succ]at this;rw[this,List.length_append,List.length_singleton,show ks.length+(i+1)+1=ks.length+1+i+1 by omega]) op
   refine Ev.succ (((hrow op (.inr (by rfl))).and hrec).mono fun F ⟨k1,k2⟩=>?_);rw[di,k1];simp only[R.bind];rw[if_pos (by simp[dL,dx,aI]),dL,List.tail_cons,k2];simp[slot,Tr.row]
  ·rename_i hx
   have agj:ks.length+1=C*q+C→xh (C*q) c (ks.length+1)=C:=fun hl=>by
    unfold xh;split
    ·omega
    ·rcases hc with hc|hc
     ·contradiction
     ·exact hc
   split at h
   ·rename_i r hx2
    simp only[Option.map_eq_some_iff]at h;obtain⟨⟨qq,q2⟩,h3,h4⟩:=h;cases h4;have e2:=kL hx2;subst e2;have hf0:=hf 0 (by simp);simp only[List.getElem_cons_zero,Nat.add_zero]at hf0;have hn:(ks.length+1)%C=0:=by simpa using hf0.symm
    have hl:=RZ h1 h2 hn;have hq:ks.length+1=C*(q+1):=by rw[hl,Nat.mul_succ]
    have hrec:=cellsS C hC f (fun g hg=>ih g (by omega)) _ _ _ _ h3 he (ks++[slot items]) (q+1) C (by simp;omega) (by simp;omega) (.inr rfl) (fun i hi=>by
     have:=hf (i+1) (by simpa using hi);simp only[List.getElem_cons_succ]at this;rw[this,List.length_append,List.length_singleton,show ks.length+(i+1)+1=ks.length+1+i+1 by omega]) op
    refine Ev.succ (((hrow op (.inr (by rfl))).and hrec).mono fun F ⟨k1,k2⟩=>?_);rw[di,k1];simp only[R.bind];rw[agj hl,if_neg (by simp[dL,dx]),if_neg (by simp[dL,j5]),if_neg (by omega),if_neg (by simp[dL,j5]),hq,dL,List.tail_cons,k2];simp[slot,Tr.row]
   ·rename_i hx2
    cases h;have hf0:=hf 0 (by simp);simp only[List.getElem_cons_zero,Nat.add_zero]at hf0;have hn:(ks.length+1)%C=0:=by simpa using hf0.symm
    have hl:=RZ h1 h2 hn;refine Ev.succ ((hrow op (.inr (by rfl))).mono fun F k1=>?_);rw[di,k1];simp only[R.bind];rw[agj hl,if_neg (by simp[dL,dx,aI]),if_neg (by simp[dL,j5,dx,aI]),if_neg (by omega),if_pos (by simp[dL,j5,aI]),dL,List.tail_cons];simp[slot,Tr.row]
theorem ac0:∀f ts cs r,Tr.di f ts=some (cs,r)→cs≠[]
 |0,_,_,_,h=>by rw[Tr.di]at h;cases h
 |f+1,ts,cs,r,h=>by
  rw[Tr.di]at h;simp only[Option.bind_eq_some_iff]at h;obtain⟨⟨items,p⟩,hr,h⟩:=h;simp only at h;split at h
  ·simp only[Option.map_eq_some_iff]at h
   obtain⟨_,_,h4⟩:=h;cases h4;exact List.cons_ne_nil _ _
  ·split at h
   ·simp only[Option.map_eq_some_iff]at h
    obtain⟨_,_,h4⟩:=h;cases h4;exact List.cons_ne_nil _ _
   ·cases h;exact List.cons_ne_nil _ _
theorem cellsRead(f:Nat)(ih:∀g,g<f→Reads g):Ik f:=fun ts cs r1 r2 h he hE op=>by
 have hne:=ac0 f ts cs r1 h
 have hpos:1≤Tr.rA cs:=by
  cases cs with
  |nil=>exact absurd rfl hne
  |cons x l=>
   obtain⟨n,b⟩:=x;have:=Aw l;rw[Tr.rA];split<;>omega
 obtain⟨C,hC⟩:∃C:Nat,Tr.rA cs=(C:Int):=⟨(Tr.rA cs).toNat,by omega⟩;rw[hC]at hE hpos⊢
 have:=cellsS C (by omega) f ih ts cs r1 r2 h he [] 0 0 (by simp) (by simp;omega) (.inl (by simp)) (fun i hi=>by
  have h1:(cs.map (·.2))[i]?=(Tr.ends (C:Int) cs.length)[i]?:=by rw[hE]
  simp only[Tr.ends,List.getElem?_map,List.getElem?_range hi,List.getElem?_eq_getElem hi,Option.map_some,Option.some.injEq]at h1;rw[h1,List.length_nil,Nat.zero_add,decide_eq_decide,show((i:Int)+1)%(C:Int)=(((i+1)%C:Nat):Int) by rw[Int.natCast_emod];rfl];omega) op
 simpa using this
theorem reads:∀f,∀g,g≤f→Reads g
 |0=>fun g hg=>by
  obtain rfl:g=0:=by omega
  constructor<;>intro ts a r h<;>first|(rw[Tr.pArg]at h;cases h)|(rw[Tr.cZ]at h;cases h)|(rw[Tr.jX]at h;cases h)|(rw[Tr.eP]at h;cases h)|skip
  all_goals (first|(simp[Tr.pArg]at h)|(simp[Tr.jX]at h))
 |f+1=>fun g hg=>by
  rcases Nat.lt_or_ge g (f+1)with h|h
  ·exact reads f g (by omega)
  ·obtain rfl:g=f+1:=by omega
   have ih:=reads f f (Nat.le_refl _);have hm:=cellsRead f fun g hg=>reads f g (by omega)
   exact⟨ih.ajc,ih.ajd,ih.ahm hm,ih.ahk⟩
end Np
namespace Np
open Lx (aB)
open Tr (Nd)
def jR{α:Type}(y x:R α)(n:Nat):Prop:=y=x∧∀a r,x=.ok a r→r.length<n
theorem jR.bind{α β:Type}{y x:R α}{k' k:α→List aB→R β}{n m:Nat}(h:jR y x n)(hk:∀a r,r.length<n→jR (k' a r) (k a r) m):jR (y.bind k') (x.bind k) m:=by
 obtain⟨rfl,h⟩:=h;cases y with
 |ok a r=>exact hk a r (h a r rfl)
 |out=>exact⟨rfl,fun _ _ h=>by cases h⟩
theorem jR.map{α β:Type}{y x:R α}{k:α→β}{n m:Nat}(h:jR y x n)(hm:n≤m):jR (y.map k) (x.map k) m:=h.bind fun _ _ hr=>⟨rfl,fun _ _ e=>by cases e;omega⟩
theorem jR.mono{α:Type}{y x:R α}{n m:Nat}(h:jR y x n)(hm:n≤m):jR y x m:=⟨h.1,fun a r e=>Nat.lt_of_lt_of_le (h.2 a r e) hm⟩
theorem jR.out{α:Type}{n:Nat}:jR (.out:R α) .out n:=⟨rfl,fun _ _ h=>by cases h⟩
theorem jR.ok{α:Type}{n:Nat}{a:α}{r:List aB}(h:r.length<n):jR (.ok a r) (.ok a r) n:=⟨rfl,fun _ _ e=>by cases e;exact h⟩
theorem jR.ite{α:Type}{c:Prop}[Decidable c]{y x y' x':R α}{n:Nat}(h:c→jR y x n)(h':¬c→jR y' x' n):jR (if c then y else y') (if c then x else x') n:=by
 by_cases hc:c
 ·rw[if_pos hc,if_pos hc];exact h hc
 ·rw[if_neg hc,if_neg hc];exact h' hc
theorem Jk{b:UInt8}{l:List aB}(h:dx b l=true):l.tail.length<l.length:=by
 cases l with
 |nil=>cases h
 |cons t r=>simp
theorem jR.scripts(g:Bool)(en:Nat)(b:List Nd)(x y:Option Nd)(l:List aB)(n:Nat)(h:l.length<n):jR (scripts g en b x y l) (scripts g en b x y l) n:=by
 unfold Np.scripts;split
 ·exact .ok h
 ·exact .ok h
 ·exact .ok h
 ·exact .ite (fun _=>.out) fun _=>.ok h
theorem jR.plainName(t:aB)(r:List aB)(n:Nat)(h:r.length<n):jR (plainName t r) (plainName t r) n:=.ite (fun _=>.out) fun _=>.ok h
structure Good(en f:Nat):Prop where
 row:∀op l,8*l.length+5≤f→jR (cZ en (f+1) op l) (cZ en f op l) (l.length+1)
 within:∀b op l,l.tail.length<l.length→8*l.length+2≤f→jR (kE en (f+1) b op l) (kE en f b op l) l.length
 arg:∀op l,8*l.length+3≤f→jR (pArg en (f+1) op l) (pArg en f op l) l.length
 args:∀n op l,8*l.length+4+n≤f→jR (bV en (f+1) n op l) (bV en f n op l) (l.length+1)
 script:∀b op l,8*l.length+4≤f→jR (eB en (f+1) b op l) (eB en f b op l) (l.length+1)
 item:∀op l,8*l.length+4≤f→jR (eP en (f+1) op l) (eP en f op l) l.length
 R3:∀op l,8*l.length+3≤f→jR (dA en (f+1) op l) (dA en f op l) l.length
 name:∀op t r,8*r.length+7≤f→jR (fD en (f+1) op t r) (fD en f op t r) (r.length+1)
 cells:∀op ks b c l,8*l.length+6≤f→jR (di en (f+1) op ks b c l) (di en f op ks b c l) (l.length+1)
theorem good(en:Nat):∀f,Good en f
 |0=>by constructor<;>(intros;exfalso;omega)
 |f+1=>by
  have ih:=good en f;constructor
  ·intro op l h
   rw[cZ,cZ];exact .ite (fun _=>.out) fun _=>.ite (fun _=>.ok (Nat.lt_succ_self _)) fun _=>(ih.item op l (by omega)).bind fun a r hr=>(ih.row op r (by omega)).map (by omega)
  ·intro b op l hl h
   rw[kE,kE];exact(ih.row _ l.tail (by omega)).bind fun a r hr=>.ite (fun _=>.ok (by rw[List.length_tail];omega)) fun _=>.out
  ·intro op l h
   cases l with
   |nil=>rw[pArg,pArg];exact .out
   |cons t r=>
    rw[pArg,pArg];cases fO t with
    |some x=>exact .ok (by simp)
    |none=>exact .ite (fun _=>(ih.within 125 op (t::r) (by simp) (by omega)).map (Nat.le_refl _)) fun _=>.ite (fun _=>(jR.plainName t r (t::r).length (by simp)).map (Nat.le_refl _)) fun _=>.out
  ·intro n op l h
   cases n with
   |zero=>rw[bV,bV];exact .ok (Nat.lt_succ_self _)
   |succ n=>
    rw[bV,bV];exact(ih.arg op l (by omega)).bind fun a r hr=>(ih.args n op r (by omega)).map (by omega)
  ·intro b op l h
   rw[eB,eB];exact .ite (fun hm=>by have:=Jk hm;exact(ih.arg op l.tail (by omega)).map (by omega)) fun _=>.ok (Nat.lt_succ_self _)
  ·intro op l h
   rw[eP,eP]
   exact(ih.R3 op l (by omega)).bind fun a r hr=>(ih.script 95 op r (by omega)).bind fun sub r hr=>(ih.script 94 op r (by omega)).bind fun sup r hr=>
    .ite (fun _=>(ih.script 95 op r (by omega)).bind fun sub r hr=>jR.scripts _ _ _ _ _ _ _ (by omega)) fun _=>jR.scripts _ _ _ _ _ _ _ (by omega)
  ·intro op l h
   cases l with
   |nil=>rw[dA,dA];exact .out
   |cons t r=>
    rw[dA,dA];have hl:(t::r).length=r.length+1:=rfl;have ht:(t::r).tail.length<(t::r).length:=by simp
    cases fO t with
    |some x=>exact .ok (by simp)
    |none=>
     exact .ite (fun _=>(ih.name op t r (by omega)).mono (by omega)) fun _=>.ite (fun _=>(ih.args 1 op r (by omega)).map (by omega)) fun _=>.ite (fun _=>(ih.within 41 op (t::r) ht (by omega)).map (Nat.le_refl _)) fun _=>
      .ite (fun _=>(ih.within 93 op (t::r) ht (by omega)).map (Nat.le_refl _)) fun _=>.ite (fun _=>ih.within 125 op (t::r) ht (by omega)) fun _=>.out
  ·intro op t r h
   rw[fD,fD]
   exact .ite (fun _=>(ih.args 2 op r (by omega)).map (Nat.le_refl _)) fun _=>
    .ite (fun _=>.ite (fun hm=>(ih.within 93 op r (Jk hm) (by omega)).bind fun d r' hr=>(ih.args 1 op r' (by omega)).map (by omega)) fun _=>(ih.args 1 op r (by omega)).map (Nat.le_refl _)) fun _=>
     .ite (fun _=>.ite (fun hm=>by have:=Jk hm;exact(ih.cells _ _ _ _ r.tail (by omega)).map (by omega)) fun _=>.out) fun _=>
      .ite (fun _=>(ih.args 1 op r (by omega)).map (Nat.le_refl _)) fun _=>jR.plainName _ _ _ (Nat.lt_succ_self _)
  ·intro op ks b c l h
   rw[di,di];refine(ih.row op l (by omega)).bind fun items r hr=>?_
   have ht:r.tail.length≤r.length:=by rw[List.length_tail];omega
   refine .ite (fun hm=>by have:=Jk hm;exact(ih.cells _ _ _ _ r.tail (by omega)).mono (by omega)) fun _=>.ite (fun _=>.out) fun _=>.ite (fun _=>.out) fun _=>.ite (fun _=>.ok (by omega)) fun h2=>?_
   cases r with
   |nil=>exact absurd rfl h2
   |cons x r=>
    have hx:(x::r).length=r.length+1:=rfl;exact(ih.cells _ _ _ _ r (by omega)).mono (by omega)
theorem aaG(en:Nat)(l:List aB)(ks:List Nd)(h:Tr.Ev fun F=>cZ en F [] l=.ok ks []):yI en l=.ok ks []:=by
 obtain⟨F,h⟩:=h
 have hs:∀n,cZ en (8*l.length+8+n) [] l=cZ en (8*l.length+8) [] l:=by
  intro n
  induction n with
  |zero=>rfl
  |succ n ih=>rw[←ih];exact((good en (8*l.length+8+n)).row [] l (by omega)).1
 have h1:=hs F;rw[h _ (by omega)]at h1;unfold yI;rw[←h1];rfl
end Np
end Go.Proofs.YtcgbccfpcgaikaaGreatDoor
