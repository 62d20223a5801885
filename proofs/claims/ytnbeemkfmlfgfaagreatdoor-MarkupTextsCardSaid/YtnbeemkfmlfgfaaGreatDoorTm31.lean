/- Part 31 of 48 of a proof. No condition. -/
import Derived.OwnWalk
import Derived.Test.YtnbeemkfmlfgfaaGreatDoorTm30
set_option maxRecDepth 100000
set_option maxHeartbeats 1000000
namespace Go.Proofs.YtnbeemkfmlfgfaaGreatDoor
section
open Go.RowKit
open Tr (Nd)
open U (E dH cz az)
theorem Ro(k:Int)(s:List UInt8)(h:Tr.gI k s=true):s.length≤200:=by
 unfold Tr.gI at h;split at h
 ·unfold Tr.symbol at h
  split at h
  ·simp
  ·simp only[Bool.and_eq_true,decide_eq_true_eq]at h;omega
 split at h
 ·unfold Tr.isNum at h
  simp only[Bool.and_eq_true,decide_eq_true_eq]at h;omega
 split at h
 ·simp only[Bool.and_eq_true,decide_eq_true_eq]at h;omega
 split at h
 ·have hm:=List.contains_iff_mem.1 h
  simp only[Tr.fJ,List.mem_cons,List.not_mem_nil,or_false]at hm
  rcases hm with rfl|rfl|rfl|rfl|rfl|rfl<;>decide
 split at h
 ·unfold Tr.fence at h
  split at h
  ·simp
  ·cases h
 ·rw[List.isEmpty_iff.1 h];simp
theorem sU(r:Bool):∀(l:List Nd),Tr.ku r l=true→∀x∈l,((x.kind==1) !=r)=true∧Tr.form x=true
 |[],_,x,hx=>by cases hx
 |y::l,h,x,hx=>by
  rw[Tr.ku,Bool.and_eq_true,Bool.and_eq_true]at h
  rcases List.mem_cons.1 hx with rfl|hx
  ·exact h.1
  ·exact sU r l h.2 x hx
theorem Dc(n:Nd)(k:Int)(nm:List UInt8)(hk:n.kind=k)(h:∀t c ss,U.BG k t c ss=.mk nm [] (ss.map (az U.ah)) []):dH n=az nm (ay U.ah n.kids):=by
 rw[U.jD,hk,h,U.fQ,List.map_map];rfl
theorem Qj(m:Nat):∀n,Tr.count n≤m→Tr.form n=true→(n.kind==1)=false→Ot n:=by
 induction m with
 |zero=>intro n h;have:=Tr.gQ n;omega
 |succ m ih=>
  intro n hm hf hk1;rw[Tr.mg,Bool.and_eq_true,Bool.and_eq_true,hk1]at hf;obtain⟨⟨ht,hkk⟩,hfl⟩:=hf;have htx:n.text.length≤maxLen:=Nat.le_trans (Ro _ _ ht) (by decide)
  have hrow:∀x∈n.kids,yB x:=fun x hx=>Ld x fun y hy=>by
   obtain⟨h1,h2⟩:=sU _ _ hfl x hx;rw[Tr.mg,Bool.and_eq_true]at h2;have hx1:(x.kind==1)=true:=by simpa using h1
   rw[hx1]at h2;obtain⟨h3,h4⟩:=sU _ _ h2.2 y hy;have c1:=Tr.dm hx;have c2:=Tr.dm hy;have c3:=Tr.aI n;have c4:=Tr.aI x;exact ih y (by omega) h4 (by simpa using h3)
  intro sl w hc hsl;unfold Tr.cZ at hkk
  by_cases h12:n.kind=12
  ·rw[if_pos h12]at hkk
   simp only[Bool.and_eq_true,decide_eq_true_eq]at hkk;exact Xe n h12 htx n.ai.toNat (by omega) (by omega) hrow sl w hc hsl
  rw[if_neg h12]at hkk;split at hkk
  ·cases hkk
  split at hkk
  ·rename_i h1
   rw[h1]at hk1;cases hk1
  split at hkk
  ·rename_i h
   rcases h with h|h|h
   ·cases hl:U.iR n.text with
    |true=>exact Qi n h htx hl sl w hc hsl
    |false=>exact OH n h htx hl sl w hc hsl
   ·exact aeC n h htx sl w hc hsl
   ·exact aad n h htx sl w hc hsl
  split at hkk
  ·rename_i h
   have h2:n.kids.length=2:=by simpa using hkk
   rcases h with h|h|h|h
   ·exact FM n U.iL 5 (by simp[qR]) h (Dc n 5 _ h fun _ _ _=>rfl) hrow sl w hc hsl
   ·obtain⟨a,b,hks⟩:∃a b,n.kids=[a,b]:=by
     match hh:n.kids,h2 with
     |[a,b],_=>exact⟨a,b,rfl⟩
    by_cases ha:a.kids=[]
    ·exact acr n a b h hks htx ha (hrow b (by rw[hks];simp)) sl w hc hsl
    ·exact acs n a b h hks htx ha (hrow a (by rw[hks];simp)) (hrow b (by rw[hks];simp)) sl w hc hsl
   ·exact FM n U.jo 7 (by simp[qR]) h (Dc n 7 _ h fun _ _ _=>rfl) hrow sl w hc hsl
   ·exact FM n U.jq 8 (by simp[qR]) h (Dc n 8 _ h fun _ _ _=>rfl) hrow sl w hc hsl
  split at hkk
  ·rename_i h
   exact FM n U.eF 9 (by simp[qR]) h (Dc n 9 _ h fun _ _ _=>rfl) hrow sl w hc hsl
  split at hkk
  ·rename_i h
   have h1:n.kids.length=1:=by simpa using hkk
   obtain⟨a,hks⟩:=List.length_eq_one_iff.1 h1
   rcases h with h|h
   ·exact Xc n a h hks htx (hrow a (by rw[hks];simp)) sl w hc hsl
   ·have h2:n.text.length=2:=by
     rw[h]at ht;have ht':Tr.fence n.text=true:=ht;unfold Tr.fence at ht';split at ht'
     ·rename_i hx;rw[hx];rfl
     ·cases ht'
    exact aae n a h hks htx (hrow a (by rw[hks];simp)) h2 _ _ rfl rfl sl w hc hsl
  ·cases hkk
theorem Xg(n:Nd)(hf:Tr.form n=true)(hk:(n.kind==1)=true):yB n:=Ld n fun y hy=>by
 rw[Tr.mg,Bool.and_eq_true,hk]at hf;obtain⟨h3,h4⟩:=sU _ _ hf.2 y hy;exact Qj _ y (Nat.le_refl _) h4 (by simpa using h3)
end
section
open Go.RowKit
open Tr (Nd)
open U (E dH cz az)
attribute [local go_sem] jg stillUpon
def Mx:E:=.mk [] [] [] []
def yY(n:Nd):E:=if Tr.valid n then U.nJ n else Mx
def wO(n:Nd):Int:=if Tr.valid n then 0 else 1
theorem TW(w w':World)(hf:ag w w'):iF w w' Mx (.agg Z):=
 ⟨_,_,rfl,hf,fun _ _=>⟨dW.nil _ _ _,.nil _ _,Nat.zero_le _,Nat.zero_le _⟩⟩
theorem aaj(n:Nd)(sl:Value)(w:World)(hr:aO w n.kids sl)(ht:n.text.length≤maxLen)(hc:Tr.count n≤1000):
  Calls Tryz.prog 22 #[nv n sl] w fun e w'=>∃v,e=.returned (.tuple #[v,.int .i64 (wO n)])∧iF w w' (yY n) v:=by
 obtain⟨A,cap,rfl⟩:=hr.slice;have HV:=I (fun(w:World) (hr:aO w n.kids (.slice A n.kids.length cap))=>Sk n _ w hr ht (by omega));have HR:=I hr;have HC:=I hc;clear hr hc;cases hv:Tr.valid n with
 |false=>
  have HS:=I (show yY n=Mx from by unfold yY;rw[hv];rfl);have HE:=I (show wO n=1 from by unfold wO;rw[hv];rfl);rw[HS.J,HE.J];go_enter Tryz.func22,Tryz.ntmps22;go_wp2_with fail
  refine(HV.J _ (HR.J.fresh (((M _ _).alloc _).alloc _))).mono ?_;rintro _ w1 ⟨rfl,hf⟩;have HF:=I (Touch.pre (Touch.pre hf));have hb1:=hf.blk (O.new2 _ _ _ _) (fun h=>h);obtain⟨q0,q1,q2,q3,f0,f1,f2,f3,hg⟩:=O.four hb1;have HB:=I hb1;clear hf hb1;go_wp2_with fail
  obtain⟨r0,r1,r2,r3,_,_,_,_,_⟩:=O.four (HB.J.dJ (.string ⟨#[]⟩) (.slice none 0 0) (.slice none 0 0) (.string ⟨#[]⟩));simp only[aH]at r0 r1 r2 r3;refine bodyPost_ret (v:=.tuple #[.agg Z,.int .i64 1]) (by simp[results,Tryz.results22,go_sem,r0,r1,r2,r3]) rfl ?_;exact⟨_,rfl,TW _ _ (Touch.aH HF.J (.inr (by omega)) _ _ _ _)⟩
 |true=>
  have HS:=I (show yY n=U.nJ n from by unfold yY;rw[hv];rfl);have HE:=I (show wO n=0 from by unfold wO;rw[hv];rfl);have hv':=hv;unfold Tr.valid at hv';simp only[Bool.and_eq_true]at hv';have ags:=I (Xg n (by simp_all) (by simp_all));clear hv';rw[HS.J,HE.J];go_enter Tryz.func22,Tryz.ntmps22;go_wp2_with fail
  refine(HV.J _ (HR.J.fresh (((M _ _).alloc _).alloc _))).mono ?_;rintro _ w1 ⟨rfl,hf⟩;have HF:=I (Touch.pre (Touch.pre hf));have hb1:=hf.blk (O.new2 _ _ _ _) (fun h=>h);have hb0:=hf.blk ((O.new _ _ _).alloc _) (fun h=>h);obtain⟨p0,p1,p2,p3,_,_,_,_,_⟩:=O.four hb0;have HB:=I hb1;clear hf hb1 hb0;go_wp2_with fail
  refine(ags.J U.bJ (.slice A n.kids.length cap) w1 (by decide) (by have:=HC.J;omega) (HR.J.fresh HF.J)).mono ?_;rintro _ w2 ⟨v,rfl,va,vk,hev,hf2,hst⟩;replace hev:v=.agg #[.string ⟨U.bJ.toArray⟩,va,vk,.string ⟨#[]⟩]:=hev;subst hev;obtain⟨Aa,ca,hva⟩:=hst.now.1.slice;obtain⟨Ak,ck,hvk⟩:=hst.now.2.1.slice;replace hva:va=.slice Aa 0 ca:=hva;replace hvk:vk=.slice Ak (cz n.kids).length ck:=hvk;subst hva;subst hvk;have aY:=I (HF.J.trans hf2);have HB2:=I (hf2.blk HB.J fun h=>h);have HST:=I hst;have HL:=I HB.J.lt;have pq:=I HF.J.size;clear hf2 hst p0 p1 p2 p3;obtain⟨q0,q1,q2,q3,f0,f1,f2,f3,hg⟩:=O.four HB2.J;go_wp2_with fail
  obtain⟨r0,r1,r2,r3,_,_,_,_,_⟩:=O.four (HB2.J.dJ (.string ⟨U.bJ.toArray⟩) (.slice Aa 0 ca) (.slice Ak (cz n.kids).length ck) (.string ⟨#[]⟩));simp only[aH]at r0 r1 r2 r3;refine bodyPost_ret (v:=.tuple #[.agg #[.string ⟨U.bJ.toArray⟩,.slice Aa 0 ca,.slice Ak (cz n.kids).length ck,.string ⟨#[]⟩],.int .i64 0]) (by simp[results,Tryz.results22,go_sem,r0,r1,r2,r3]) rfl ?_;have lY:=HST.J.step (S2:=fun k=>k<w.heap.size) ((M (fun k=>k=w.heap.size+1) w2).aH (.inl rfl) (.string ⟨U.bJ.toArray⟩) (.slice Aa 0 ca) (.slice Ak (cz n.kids).length ck) (.string ⟨#[]⟩)) (fun i _ hi=>by have:=HL.J;have hi:i=w.heap.size+1:=hi;omega) (fun i _ hi=>by have:=pq.J;omega);exact⟨_,rfl,(.slice Aa 0 ca),(.slice Ak (cz n.kids).length ck),rfl,Touch.aH aY.J (.inr (by omega)) _ _ _ _,lY⟩
end
section
open Go.RowKit
open Tr (Nd)
open U (E aA eO)
def nN(n:Nd):List UInt8:=if Tr.valid n then zO (U.nJ n)else []
def lZ(n:Nd):Int:=if Tr.valid n then vz (U.nJ n)else 1
theorem zQ(n:Nd)(sl:Value)(w:World)(hr:aO w n.kids sl)(ht:n.text.length≤maxLen)(hc:Tr.count n≤1000)(hl:Tr.valid n=true→(eO (U.nJ n)).length≤8000000):
  Calls Tryz.prog 13 #[nv n sl] w fun x w'=>x=.returned (.tuple #[.string ⟨(nN n).toArray⟩,.int .i64 (lZ n)])∧ag w w':=by
 obtain⟨A,cap,rfl⟩:=hr.slice;have HM:=I (fun(w:World) (hr:aO w n.kids (.slice A n.kids.length cap))=>aaj n _ w hr ht hc);have HR:=I hr;have HL:=I hl;clear hr hl;cases hv:Tr.valid n with
 |false=>
  have HS:=I (show yY n=Mx from by unfold yY;rw[hv];rfl);have HE:=I (show wO n=1 from by unfold wO;rw[hv];rfl);have HX:=I (show nN n=[]from by unfold nN;rw[hv];rfl);have Xh:=I (show lZ n=1 from by unfold lZ;rw[hv];rfl);rw[HX.J,Xh.J];go_enter Tryz.func13,Tryz.ntmps13;go_wp2_with fail
  refine(HM.J _ (HR.J.fresh ((M _ w).alloc _))).mono ?_;rintro _ w1 ⟨v,rfl,va,vk,hev,hf,hst⟩;rw[HE.J];rw[HS.J]at hev hst;replace hev:v=.agg #[.string ⟨#[]⟩,va,vk,.string ⟨#[]⟩]:=hev;obtain⟨Aa,ca,hva⟩:=hst.now.1.slice;obtain⟨Ak,ck,hvk⟩:=hst.now.2.1.slice;subst hev hva hvk;have HF:=I (Touch.pre hf);clear hf hst;go_wp2
  go_ret2;exact⟨rfl,HF.J.alloc _⟩
 |true=>
  have HS:=I (show yY n=U.nJ n from by unfold yY;rw[hv];rfl);have HE:=I (show wO n=0 from by unfold wO;rw[hv];rfl);have HX:=I (show nN n=zO (U.nJ n)from by unfold nN;rw[hv];rfl);have Xh:=I (show lZ n=vz (U.nJ n)from by unfold lZ;rw[hv];rfl);rw[HX.J,Xh.J];have HL2:=I (HL.J hv);go_enter Tryz.func13,Tryz.ntmps13;go_wp2_with fail
  refine(HM.J _ (HR.J.fresh ((M _ w).alloc _))).mono ?_;rintro _ w1 ⟨v,rfl,va,vk,hev,hf,hst⟩;rw[HE.J];rw[HS.J]at hev hst;have qo:=I (fun(w:World) (h:bN w (U.nJ n) va vk)=>TS (U.nJ n) va vk w h (fun _=>HL2.J));have HST:=I hst;obtain⟨Aa,ca,hva⟩:=hst.now.1.slice;obtain⟨Ak,ck,hvk⟩:=hst.now.2.1.slice
  rcases hem:U.nJ n with⟨en,ea,ek,et⟩
  have HEM:=I hem;rw[hem]at qo hev hva hvk HST;clear hem;unfold ev at qo hev;simp only[E.name,E.attrs,E.kids,E.text]at qo hev hva hvk;subst hev hva hvk;have HF:=I (Touch.pre hf);clear hf hst;go_wp2_with fail
  refine(qo.J _ ((HST.J _ ((M _ w1).alloc _)))).mono ?_;rintro _ w2 ⟨rfl,hf2⟩;have aY:=I (HF.J.trans (Touch.pre hf2));clear hf2;go_wp2
  go_ret2;exact⟨by rw[HEM.J];rfl,aY.J⟩
def MB:Nd:=.mk 1 [] 0 [.mk 2 [120] 0 [],.mk 2 [43] 0 []]
def Xi:List UInt8:=[60,109,97,116,104,62,60,109,105,62,120,60,47,109,105,62,60,109,111,62,43,60,47,109,111,62,60,47,109,97,116,104,62]
theorem Gp(w:World):Calls Tryz.prog 16 #[] w fun e w'=>e=.returned (.bool true)∧ag w w':=by
 have HS:=I (show nN MB=Xi by decide+kernel);have HE:=I (show lZ MB=0 by decide+kernel);go_enter Tryz.func16,Tryz.ntmps16;go_wp2_with fail
 have hp:aO (w.alloc (.cells #[.int .i64 2,.string ⟨#[120]⟩,.int .i64 0,.slice none 0 0,.int .i64 2,.string ⟨#[43]⟩,.int .i64 0,.slice none 0 0] 31)) MB.kids (.slice (some ⟨w.heap.size,0,none⟩) 2 2):=aO.Zv (k:=2) (s:=[120]) (c:=0) (ks:=[]) (k':=2) (s':=[43]) (c':=0) (ks':=[]) (O.new w 31 _) (by decide) (by decide) (.nil _ _) (.nil _ _);refine(zQ MB _ _ hp (by decide) (by decide+kernel) (fun _=>by decide+kernel)).mono ?_;rintro _ w1 ⟨rfl,hf⟩;rw[HS.J,HE.J];have HF:=I (Touch.pre hf);clear hp hf;unfold Xi;go_wp2
 go_ret;exact⟨af _ _ (by decide),HF.J⟩
end
section
open Go.RowKit
theorem TY:∀n:Fin 256,U.letter (UInt8.ofNat n.1)=((decide ((97:Int)≤(n.1:Int))&&decide ((n.1:Int)≤(122:Int)))||(decide ((65:Int)≤(n.1:Int))&&decide ((n.1:Int)≤(90:Int)))):=by decide+kernel
theorem sV(b:UInt8):U.letter b=((decide ((97:Int)≤(b.toNat:Int))&&decide ((b.toNat:Int)≤(122:Int)))||(decide ((65:Int)≤(b.toNat:Int))&&decide ((b.toNat:Int)≤(90:Int)))):=by
 have:=TY ⟨b.toNat,b.toNat_lt⟩;simpa using this
theorem TZ:∀n:Fin 256,U.aK (UInt8.ofNat n.1)=(!decide ((n.1:Int)<(32:Int))&&!decide ((126:Int)<(n.1:Int))):=by decide+kernel
theorem EU(b:UInt8):U.aK b=(!decide ((b.toNat:Int)<(32:Int))&&!decide ((126:Int)<(b.toNat:Int))):=by
 have:=TZ ⟨b.toNat,b.toNat_lt⟩;simpa using this
theorem oL(b:UInt8)(w:World):Calls Tryz.prog 123 #[.int .u8 (b.toNat:Int)] w fun e w'=>e=.returned (.bool (U.letter b))∧w'=w:=by
 go_enter Tryz.func123,Tryz.ntmps123;cases h1:decide ((97:Int)≤(b.toNat:Int))with
 |false=>
  have Nf:decide (97≤b.toNat)=false:=by have hx:=h1;simp only[decide_eq_false_iff_not]at hx⊢;omega
  cases h2:decide ((65:Int)≤(b.toNat:Int))with
  |false=>
   have BF:decide (65≤b.toNat)=false:=by have hx:=h2;simp only[decide_eq_false_iff_not]at hx⊢;omega
   go_wp2
   go_ret;exact⟨af _ _ (by rw[sV];simp only[*]<;>rfl),rfl⟩
  |true=>
   have BF:decide (65≤b.toNat)=true:=by have hx:=h2;simp only[decide_eq_true_eq]at hx⊢;omega
   cases h3:decide ((b.toNat:Int)≤(90:Int))with
   |false=>
    have M0:decide (b.toNat≤90)=false:=by have hx:=h3;simp only[decide_eq_false_iff_not]at hx⊢;omega
    go_wp2
    go_ret;exact⟨af _ _ (by rw[sV];simp only[*]<;>rfl),rfl⟩
   |true=>
    have M0:decide (b.toNat≤90)=true:=by have hx:=h3;simp only[decide_eq_true_eq]at hx⊢;omega
    go_wp2
    go_ret;exact⟨af _ _ (by rw[sV];simp only[*]<;>rfl),rfl⟩
 |true=>
  have Nf:decide (97≤b.toNat)=true:=by have hx:=h1;simp only[decide_eq_true_eq]at hx⊢;omega
  cases h4:decide ((b.toNat:Int)≤(122:Int))with
  |false=>
   have UL:decide (b.toNat≤122)=false:=by have hx:=h4;simp only[decide_eq_false_iff_not]at hx⊢;omega
   cases h5:decide ((65:Int)≤(b.toNat:Int))with
   |false=>
    have U9:decide (65≤b.toNat)=false:=by have hx:=h5;simp only[decide_eq_false_iff_not]at hx⊢;omega
    go_wp2
    go_ret;exact⟨af _ _ (by rw[sV];simp only[*]<;>rfl),rfl⟩
   |true=>
    have U9:decide (65≤b.toNat)=true:=by have hx:=h5;simp only[decide_eq_true_eq]at hx⊢;omega
    cases h6:decide ((b.toNat:Int)≤(90:Int))with
    |false=>
     have h6n:decide (b.toNat≤90)=false:=by have hx:=h6;simp only[decide_eq_false_iff_not]at hx⊢;omega
     go_wp2
     go_ret;exact⟨af _ _ (by rw[sV];simp only[*]<;>rfl),rfl⟩
    |true=>
     have h6n:decide (b.toNat≤90)=true:=by have hx:=h6;simp only[decide_eq_true_eq]at hx⊢;omega
     go_wp2
     go_ret;exact⟨af _ _ (by rw[sV];simp only[*]<;>rfl),rfl⟩
  |true=>
   have UL:decide (b.toNat≤122)=true:=by have hx:=h4;simp only[decide_eq_true_eq]at hx⊢;omega
   go_wp2
   go_ret;exact⟨af _ _ (by rw[sV];simp only[*]<;>rfl),rfl⟩
theorem DC(b:UInt8)(w:World):Calls Tryz.prog 139 #[.int .u8 (b.toNat:Int)] w fun e w'=>e=.returned (.bool (U.inner b))∧w'=w:=by
 go_enter Tryz.func139,Tryz.ntmps139;go_wp2_with fail
 refine Calls.mono (oL b _) ?_;rintro _ KH ⟨rfl,kz⟩;replace kz:=kz.symm;subst kz;cases h7:(U.letter b)with
 |false=>
  cases h8:decide ((48:Int)≤(b.toNat:Int))with
  |false=>
   have QK:decide (48≤b.toNat)=false:=by have hx:=h8;simp only[decide_eq_false_iff_not]at hx⊢;omega
   cases h9:((b.toNat:Int)==(45:Int))with
   |false=>
    have Nq:((b.toNat:Int) !=(45:Int))=true:=by rw[bne,h9];rfl
    go_wp2
    go_ret;exact⟨af _ _ (by rw[nP];simp only[*]<;>rfl),rfl⟩
   |true=>
    have Nq:((b.toNat:Int) !=(45:Int))=false:=by rw[bne,h9];rfl
    go_wp2
    go_ret;exact⟨af _ _ (by rw[nP];simp only[*]<;>rfl),rfl⟩
  |true=>
   have QK:decide (48≤b.toNat)=true:=by have hx:=h8;simp only[decide_eq_true_eq]at hx⊢;omega
   cases h10:decide ((b.toNat:Int)≤(57:Int))with
   |false=>
    have YP:decide (b.toNat≤57)=false:=by have hx:=h10;simp only[decide_eq_false_iff_not]at hx⊢;omega
    cases h11:((b.toNat:Int)==(45:Int))with
    |false=>
     have Ce:((b.toNat:Int) !=(45:Int))=true:=by rw[bne,h11];rfl
     go_wp2
     go_ret;exact⟨af _ _ (by rw[nP];simp only[*]<;>rfl),rfl⟩
    |true=>
     have Ce:((b.toNat:Int) !=(45:Int))=false:=by rw[bne,h11];rfl
     go_wp2
     go_ret;exact⟨af _ _ (by rw[nP];simp only[*]<;>rfl),rfl⟩
   |true=>
    have YP:decide (b.toNat≤57)=true:=by have hx:=h10;simp only[decide_eq_true_eq]at hx⊢;omega
    go_wp2
    go_ret;exact⟨af _ _ (by rw[nP];simp only[*]<;>rfl),rfl⟩
 |true=>
  go_wp2
  go_ret;exact⟨af _ _ (by rw[nP];simp only[*]<;>rfl),rfl⟩
theorem T9(s:ByteArray)(w:World)(hm:s.size≤9223372036854775807):Calls Tryz.prog 77 #[.string s] w fun e w'=>e=.returned (.bool (U.bG s.data.toList))∧w'=w:=by
 go_enter Tryz.func77,Tryz.ntmps77;go_wp2
 go_loopw [3] (fun i wr=>∃j:Nat,i=.int .i64 j∧j≤s.size∧Hd ((s.data.toList.take j).all U.aK=true)∧wr=w) (fun i _=>s.size-(intOf i).toNat)
 case atStart=>exact⟨0,rfl,Nat.zero_le _,by simp[Hd],rfl⟩
 case round=>
  obtain⟨j,rfl,hj,HA,rfl⟩:=hrel
  by_cases c1:j<s.size
  ·have d1:decide ((j:Int)<(s.size:Int))=true:=by simp;omega
   have d1':(j:Int)<(s.size:Int):=by omega
   obtain⟨b,hb⟩:∃b,s[j]'c1=b:=⟨_,rfl⟩;have hst:=oq s.data.toList j (by simpa using c1) U.aK;have hno:=uG s.data.toList j (by simpa using c1) U.aK;have hbl:s.data.toList[j]'(by simpa using c1)=b:=hb;rw[hbl]at hst hno;have HS:=I hst;have HN:=I hno;clear hst hno hbl;cases h12:decide ((b.toNat:Int)<(32:Int))with
   |false=>
    have YJ:decide (b.toNat<32)=false:=by have hx:=h12;simp only[decide_eq_false_iff_not]at hx⊢;omega
    cases rH:decide ((126:Int)<(b.toNat:Int))with
    |false=>
     have agt:decide (126<b.toNat)=false:=by have hx:=rH;simp only[decide_eq_false_iff_not]at hx⊢;omega
     go_wp2
     go_roundw
     case rel=>exact⟨j+1,by go_num,c1,by unfold Hd;rw[HS.J,HA.J];rw[EU];simp only[*]<;>rfl,trivial⟩
     case measure=>simp[intOf];omega
    |true=>
     have agt:decide (126<b.toNat)=true:=by have hx:=rH;simp only[decide_eq_true_eq]at hx⊢;omega
     go_wp2
     go_ret;exact⟨af _ _ (by unfold U.bG;rw[HN.J (by rw[EU];simp only[*]<;>rfl)];rfl),rfl⟩
   |true=>
    have YJ:decide (b.toNat<32)=true:=by have hx:=h12;simp only[decide_eq_true_eq]at hx⊢;omega
    go_wp2
    go_ret;exact⟨af _ _ (by unfold U.bG;rw[HN.J (by rw[EU];simp only[*]<;>rfl)];rfl),rfl⟩
  ·have d1:decide ((j:Int)<(s.size:Int))=false:=by simp;omega
   go_wp2
   go_ret;exact⟨af _ _ (by unfold U.bG;rw[lD s U.aK j hj c1 HA.J];rw[show s.data.toList.length=s.size by simp,Bool.eq_iff_iff];simp;omega),rfl⟩
theorem Gq(l:List UInt8)(w:World)(h:l.length≤9223372036854775807):Calls Tryz.prog 77 #[.string ⟨l.toArray⟩] w fun e w'=>e=.returned (.bool (U.bG l))∧ag w w':=
 (T9 ⟨l.toArray⟩ w h).mono fun e w' ⟨h1,h2⟩=>⟨h1,by rw[h2];exact M _ _⟩
theorem OL(s:List UInt8)(b:UInt8)(h:0<s.length)(hb:s[0]=b)(hl:U.letter b=false):U.eG s=false:=by
 cases s with
 |nil=>cases h
 |cons c s=>
  have:c=b:=hb;show(U.letter c&&s.all U.inner)=false;rw[this,hl];rfl
theorem Ua(s:List UInt8)(b:UInt8)(h:0<s.length)(hb:s[0]=b)(hl:U.letter b=true):U.iR s=true:=by
 cases s with
 |nil=>cases h
 |cons c s=>
  have:c=b:=hb;show U.letter c=true;rw[this,hl]
theorem aak(s:List UInt8)(h:s.length=0):U.iR s=false:=by
 cases s with
 |nil=>rfl
 |cons c s=>cases h
theorem Qk(s:ByteArray)(w:World)(hm:s.size≤9223372036854775807):Calls Tryz.prog 76 #[.string s] w fun e w'=>e=.returned (.bool (U.eG s.data.toList))∧w'=w:=by
 go_enter Tryz.func76,Tryz.ntmps76;go_wp2
 go_loopw [3] (fun i wr=>∃j:Nat,i=.int .i64 j∧j≤s.size∧Hd ((s.data.toList.take j).all U.inner=true∧(0<j→U.iR s.data.toList=true))∧wr=w) (fun i _=>s.size-(intOf i).toNat)
 case atStart=>exact⟨0,rfl,Nat.zero_le _,⟨by simp,fun h=>absurd h (by decide)⟩,rfl⟩
 case round=>
  obtain⟨j,rfl,hj,HA,rfl⟩:=hrel
  by_cases c1:j<s.size
  ·have d1:decide ((j:Int)<(s.size:Int))=true:=by simp;omega
   have d1':(j:Int)<(s.size:Int):=by omega
   obtain⟨b,hb⟩:∃b,s[j]'c1=b:=⟨_,rfl⟩;have hst:=oq s.data.toList j (by simpa using c1) U.inner;have hno:=uG s.data.toList j (by simpa using c1) U.inner;have hbl:s.data.toList[j]'(by simpa using c1)=b:=hb;rw[hbl]at hst hno;have HS:=I hst;have HN:=I hno;clear hst hno
   have iV:(((j:Int)==(0:Int))=true∧U.letter b=false∧U.eG s.data.toList=false)∨((((j:Int)==(0:Int))=true∧U.letter b=true∨((j:Int)==(0:Int))=false)∧U.iR s.data.toList=true):=by
    by_cases h0:j=0
    ·subst h0
     cases hl:U.letter b with
     |false=>exact .inl ⟨rfl,rfl,OL _ b (by simpa using c1) hbl hl⟩
     |true=>exact .inr ⟨.inl ⟨rfl,rfl⟩,Ua _ b (by simpa using c1) hbl hl⟩
    ·exact .inr ⟨.inr (by rw[beq_eq_false_iff_ne];omega),HA.J.2 (by omega)⟩
   clear hbl
   rcases iV with⟨h0,hl,hno⟩|⟨⟨h0,hl⟩|h0,hlt⟩
   focus
    have Lv:=I hno;clear hno;have Rm:(j==0)=true:=by rw[beq_iff_eq]at h0⊢;omega
    go_wp2_with fail
    refine Calls.mono (oL b _) ?_;rintro _ w3q ⟨rfl,q8⟩;replace q8:=q8.symm;subst q8;go_wp2
    go_ret;exact⟨af _ _ (by rw[Lv.J]),rfl⟩
   focus
    have yH:=I hlt;clear hlt;have Rm:(j==0)=true:=by rw[beq_iff_eq]at h0⊢;omega
    go_wp2_with fail
    refine Calls.mono (oL b _) ?_;rintro _ w3q ⟨rfl,q8⟩;replace q8:=q8.symm;subst q8;go_wp2_with fail
   rotate_left
   focus
    have yH:=I hlt;clear hlt;have Rm:(j==0)=false:=by rw[beq_eq_false_iff_ne]at h0⊢;omega
    go_wp2_with fail
   all_goals
    refine Calls.mono (DC b _) ?_;rintro _ w4q ⟨rfl,aal⟩;replace aal:=aal.symm;subst aal;cases h9:(U.inner b)with
    |false=>
     go_wp2
     go_ret;exact⟨af _ _ (by rw[KO _ (HN.J (by assumption))]),rfl⟩
    |true=>
     go_wp2
     go_roundw
     case rel=>exact⟨j+1,by go_num,c1,⟨by rw[HS.J,HA.J.1];simp_all,fun _=>yH.J⟩,trivial⟩
     case measure=>simp[intOf];omega
  ·have d1:decide ((j:Int)<(s.size:Int))=false:=by simp;omega
   have GZ:=I (KP _ (lD s U.inner j hj c1 HA.J.1))
   have HV:=I (show U.eG s.data.toList=decide ((1:Int)≤(s.size:Int)) by
    rw[GZ.J]
    rcases Nat.eq_zero_or_pos j with h|h
    ·have h0:s.size=0:=by omega
     rw[aak _ (by simpa using h0),h0];rfl
    ·rw[HA.J.2 h];exact(decide_eq_true (by omega)).symm)
   go_wp2
   go_ret;exact⟨af _ _ HV.J.symm,rfl⟩
theorem EW(l:List UInt8)(w:World)(h:l.length≤9223372036854775807):Calls Tryz.prog 76 #[.string ⟨l.toArray⟩] w fun e w'=>e=.returned (.bool (U.eG l))∧ag w w':=
 (Qk ⟨l.toArray⟩ w h).mono fun e w' ⟨h1,h2⟩=>⟨h1,by rw[h2];exact M _ _⟩
end
section
open Go.RowKit
open U (E aA)
def FN(e:E):Prop:=∀(va vk:Value) (w:World),bN w e va vk→U.count e≤1000000→Calls Tryz.prog 47 #[ev e va vk] w fun x w'=>x=.returned (.int .i64 (U.count e:Nat))∧ag w w'
theorem Ql(e:E)(ih:∀x∈e.kids,FN x):FN e:=by
 intro va vk w hr hc;obtain⟨A,ca,hva⟩:=hr.1.slice;obtain⟨B,cb,hvk⟩:=hr.2.1.slice;have HR:=I hr;have jw:=I ih;obtain⟨n,ats,ks,t⟩:=e;have hl2:ks.length≤maxLen:=hr.2.1.len;unfold maxLen at hl2;have F3:=I (show U.count (.mk n ats ks t)=1+U.aj ks from by rw[U.count]);rw[F3.J]at hc;rw[F3.J];replace hva:va=.slice A ats.length ca:=hva;replace hvk:vk=.slice B ks.length cb:=hvk;subst hva;subst hvk;unfold ev;simp only[E.name,E.kids,E.text]at jw⊢;clear hr ih;have HK:=I (show dL w ks _ from HR.J.2.1);go_enter Tryz.func47,Tryz.ntmps47;go_wp2_with fail
 have HB0:=I (O.new w 45 #[.string ⟨n.toArray⟩,.slice A ats.length ca,.slice B ks.length cb,.string ⟨t.toArray⟩]);have dh:=I ((M (fun _=>False) w).alloc (.cells #[.string ⟨n.toArray⟩,.slice A ats.length ca,.slice B ks.length cb,.string ⟨t.toArray⟩] 45))
 go_loopw [4,3] (fun i s wr=>∃j:Nat,i=.int .i64 j∧s=.int .i64 ((1+U.aj (ks.take j):Nat):Int)∧j≤ks.length∧Hd (O wr w.heap.size 45 #[.string ⟨n.toArray⟩,.slice A ats.length ca,.slice B ks.length cb,.string ⟨t.toArray⟩])∧Hd (ag w wr)) (fun i _ _=>ks.length-(intOf i).toNat)
 case atStart=>exact⟨0,rfl,by show _=Value.int .i64 ((1+U.aj []:Nat):Int);rw[U.aj];rfl,Nat.zero_le _,HB0,dh⟩
 case round=>
  obtain⟨j,rfl,rfl,hj,HB,HF⟩:=hrel;obtain⟨q0,q1,q2,q3,_,_,_,_,_⟩:=O.four HB.J
  by_cases c1:j<ks.length
  ·have d1:decide ((j:Int)<(ks.length:Int))=true:=dT (by omega)
   have d1':(j:Int)<(ks.length:Int):=by omega
   have dG:decide (j<ks.length)=true:=dT c1;obtain⟨g,o,va,vk,rfl,hg,m0,m1,m2,m3,hrx⟩:=HK.J.get j c1;obtain⟨e0,e1,e2,e3⟩:=yD HF.J m0 m1 m2 m3;obtain⟨Aa,aa,hva⟩:=hrx.1.slice;obtain⟨Ak,ak,hvk⟩:=hrx.2.1.slice;have HS:=I (U.oo ks j c1);have hle:=U.kV ks (j+1);rw[HS.J]at hle;have HC:=I (fun(W:World) (hw:bN W ks[j] va vk)=>jw.J ks[j] (List.getElem_mem c1) va vk W hw (by omega));have HX:=I (hrx.fresh HF.J);clear m0 m1 m2 m3 hrx;generalize ks[j]=x at*;obtain⟨xn,xa,xk,xt⟩:=x;unfold ev at HC;simp only[E.name,E.attrs,E.kids,E.text]at hva hvk e0 e1 e2 e3 HC;subst hva hvk;go_wp2_with fail
   refine(HC.J _ HX.J).mono ?_;rintro _ w2 ⟨rfl,hf2⟩;have aY:=I (HF.J.trans hf2);have HB2:=I (hf2.blk HB.J fun h=>h);clear hf2;go_wp2
   go_roundw
   case rel=>exact⟨j+1,by go_num,by rw[HS.J];go_num,c1,HB2,aY⟩
   case measure=>simp[intOf];omega
  ·have d1:decide ((j:Int)<(ks.length:Int))=false:=dF (by omega)
   have dG:decide (j<ks.length)=false:=dF c1;obtain rfl:j=ks.length:=by omega
   go_wp2
   go_ret;exact⟨by rw[List.take_length];rfl,HF.J⟩
theorem Ub(e:E):FN e:=U.E.ind (p:=FN) Ql e
namespace U
end U
def FO(e:E):Prop:=∀(va vk:Value) (w:World),bN w e va vk→U.count e≤1000000→Calls Tryz.prog 48 #[ev e va vk] w fun x w'=>x=.returned (.int .i64 (U.depth e:Nat))∧ag w w'
theorem AA(l:List E):U.aP l≤U.aj l:=by
 have:∀(k:Nat) (l:List E),U.aj l≤k→U.aP l≤U.aj l:=by
  intro k
  induction k with
  |zero=>
   intro l h;cases l with
   |nil=>exact Nat.le_refl _
   |cons x l=>rw[U.aj]at h;have:=U.gQ x;omega
  |succ k ih=>
   intro l
   induction l with
   |nil=>intro _;exact Nat.le_refl _
   |cons x l ihl=>
    intro h;rw[U.aj]at h⊢;rw[U.aP,U.mP];have h1:=U.aI x;have h2:=ihl (by omega);have h3:=ih x.kids (by omega);omega
 exact this _ l (Nat.le_refl _)
theorem Qm(e:E)(ih:∀x∈e.kids,FO x):FO e:=by
 intro va vk w hr hc;obtain⟨A,ca,hva⟩:=hr.1.slice;obtain⟨B,cb,hvk⟩:=hr.2.1.slice;have HR:=I hr;have jw:=I ih;obtain⟨n,ats,ks,t⟩:=e;have hl2:ks.length≤maxLen:=hr.2.1.len;unfold maxLen at hl2;have hcl:1+U.aj ks≤1000000:=by rw[U.count]at hc;exact hc
 have F3:=I (show U.depth (.mk n ats ks t)=U.aP ks+1 from by rw[U.depth]);rw[F3.J];replace hva:va=.slice A ats.length ca:=hva;replace hvk:vk=.slice B ks.length cb:=hvk;subst hva;subst hvk;unfold ev;simp only[E.name,E.kids,E.text]at jw⊢;clear hr ih hc;have HK:=I (show dL w ks _ from HR.J.2.1);go_enter Tryz.func48,Tryz.ntmps48;go_wp2_with fail
 have HB0:=I (O.new w 45 #[.string ⟨n.toArray⟩,.slice A ats.length ca,.slice B ks.length cb,.string ⟨t.toArray⟩]);have dh:=I ((M (fun _=>False) w).alloc (.cells #[.string ⟨n.toArray⟩,.slice A ats.length ca,.slice B ks.length cb,.string ⟨t.toArray⟩] 45))
 go_loopw [4,3] (fun i s wr=>∃j d:Nat,i=.int .i64 j∧s=.int .i64 d∧Hd (d=U.aP (ks.take j))∧j≤ks.length∧d≤1000000∧Hd (O wr w.heap.size 45 #[.string ⟨n.toArray⟩,.slice A ats.length ca,.slice B ks.length cb,.string ⟨t.toArray⟩])∧Hd (ag w wr)) (fun i _ _=>ks.length-(intOf i).toNat)
 case atStart=>exact⟨0,0,rfl,rfl,I (by rw[List.take_zero,U.aP]),Nat.zero_le _,Nat.zero_le _,HB0,dh⟩
 case round=>
  obtain⟨j,d,rfl,rfl,HD,hj,hdl,HB,HF⟩:=hrel;obtain⟨q0,q1,q2,q3,_,_,_,_,_⟩:=O.four HB.J
  by_cases c1:j<ks.length
  ·have d1:decide ((j:Int)<(ks.length:Int))=true:=dT (by omega)
   have d1':(j:Int)<(ks.length:Int):=by omega
   have dG:decide (j<ks.length)=true:=dT c1;obtain⟨g,o,va,vk,rfl,hg,m0,m1,m2,m3,hrx⟩:=HK.J.get j c1;obtain⟨e0,e1,e2,e3⟩:=yD HF.J m0 m1 m2 m3;obtain⟨Aa,aa,hva⟩:=hrx.1.slice;obtain⟨Ak,ak,hvk⟩:=hrx.2.1.slice;have HS:=I (U.xJ ks j c1)
   have HDL:=I (show U.depth ks[j]≤1000000 by
    have h1:=U.Vh (List.getElem_mem c1);have h2:=AA ks;omega)
   have HC:=I (fun(W:World) (hw:bN W ks[j] va vk)=>jw.J ks[j] (List.getElem_mem c1) va vk W hw (by have:=U.dm (List.getElem_mem c1);omega));have HX:=I (hrx.fresh HF.J);clear m0 m1 m2 m3 hrx;generalize ks[j]=x at*;generalize U.depth x=dx at*;obtain⟨xn,xa,xk,xt⟩:=x;unfold ev at HC;simp only[E.name,E.attrs,E.kids,E.text]at hva hvk e0 e1 e2 e3 HC;subst hva hvk;go_wp2_with fail
   refine(HC.J _ HX.J).mono ?_;rintro _ w2 ⟨rfl,hf2⟩;have aY:=I (HF.J.trans hf2);have HB2:=I (hf2.blk HB.J fun h=>h);have hdx:=HDL.J;clear hf2;go_wp2
   go_roundw
   case rel=>exact⟨j+1,max d dx,by go_num,by first|rfl|(congr 1;omega),I (by rw[HS.J,HD.J]),c1,by omega,HB2,aY⟩
   case measure=>simp[intOf];omega
  ·have d1:decide ((j:Int)<(ks.length:Int))=false:=dF (by omega)
   have dG:decide (j<ks.length)=false:=dF c1;obtain rfl:j=ks.length:=by omega
   have HD2:=I (show d=U.aP ks by rw[HD.J,List.take_length]);clear HD;go_wp2
   go_ret;exact⟨by rw[←HD2.J];rfl,HF.J⟩
theorem Uc(e:E):FO e:=U.E.ind (p:=FO) Qm e
end
end Go.Proofs.YtnbeemkfmlfgfaaGreatDoor
