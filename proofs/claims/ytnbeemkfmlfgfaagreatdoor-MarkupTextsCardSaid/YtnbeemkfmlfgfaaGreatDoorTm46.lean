/- Part 46 of 48 of a proof. No condition. -/
import Derived.Lib.TrimByte
import Derived.Test.YtnbeemkfmlfgfaaGreatDoorTm45
set_option maxRecDepth 100000
set_option maxHeartbeats 4000000
namespace Go.Proofs.YtnbeemkfmlfgfaaGreatDoor
section
open Go.RowKit
open Tr (Nd)
open U (E dH cz az grid BG lQ bM aJ aU)
attribute [local go_sem] jg stillUpon
theorem Uy(ks:List Nd)(i c:Nat):Tr.aj ((ks.drop i).take c)≤Tr.aj ks:=by
 have h1:=Tr.kV (ks.drop i) c
 have h2:Tr.aj (ks.drop i)≤Tr.aj ks:=by
  induction ks generalizing i with
  |nil=>simp
  |cons x l ih=>
   cases i with
   |zero=>simp
   |succ i=>rw[List.drop_succ_cons,Tr.aj];have:=ih i (Tr.kV _ _);omega
 omega
theorem Ya{α:Type}(c:Nat)(hc:0<c)(l:List α)(r:Nat)(h:r*c≤l.length):(grid c (l.take (r*c))).length=r:=by
 unfold U.grid;rw[List.length_map,List.length_range,List.length_take,Nat.min_eq_left h,U.zw c r hc]
theorem Uz(n:Nd)(hk:n.kind=12)(ht:n.text.length≤maxLen)(c:Nat)(hc0:0<c)(hc16:c≤16)(hcc:n.ai=(c:Int))(hdv:n.kids.length%c=0)(ih:∀x∈n.kids,pY x.kids)(sl:Value)(w:World)(hc:Tr.count n≤100000)(hsl:gB w n.kids sl):Calls Tryz.prog 65 #[nv n sl] w fun e w'=>∃v,e=.returned v∧iF w w' (dH n) v:=by
 obtain⟨A,cap,rfl⟩:=hsl.slice;have jW:=I hsl;have jM:=I ht;have mO:=I (show Tr.aj n.kids≤100000 by have:=Tr.aI n;omega)
 have hE:dH n=E.mk U.aU [] (pW c n.kids) []:=by
  rw[U.jD,hk];rw[U.fQ,hcc];show E.mk U.aU [] ((grid (c:Int).toNat ((n.kids.map fun n=>cz n.kids).map (az U.aJ))).map (az U.bM)) []=_;rw[Int.toNat_natCast,List.map_map];rfl
 rw[hE];show Calls _ _ #[.agg #[.int .i64 n.kind,.string ⟨n.text.toArray⟩,.int .i64 n.ai,.slice A n.kids.length cap]] _ _;rw[hk];have hkl:=Tr.gL n.kids;have jw:=I ih;rw[hcc];generalize hks:n.kids=ks at*;clear hsl hc hE hks ih hcc;go_enter Tryz.func65,Tryz.ntmps65;go_wp2_with fail
 refine aV (fun W=>ag w W∧W.heap.size=w.heap.size+3∧O W w.heap.size 31 #[.int .i64 12,.string ⟨n.text.toArray⟩,.int .i64 (c:Int),.slice A ks.length cap]∧O W (w.heap.size+1) 45 Z∧O W (w.heap.size+1+1) 45 #[.string ⟨aU.toArray⟩,.slice none 0 0,.slice none 0 0,.string ⟨#[]⟩]) ⟨(((M _ _).alloc _).alloc _).alloc _,by simp,((O.new w 31 _).alloc _).alloc _,(O.new2 w _ 45 _).alloc _,O.BR _ _ _ _ _⟩ ?_;rintro W1 ⟨hf1,hs1,OE,mZ,oP⟩;have aF:=I hf1;have je:=I OE;have eX:=I mZ;have oQ:=I oP;have uq:=I (show dO (w.heap.size+3) W1 ((grid c ((ay aJ ks).take 0)).map (az bM)) (.slice none 0 0) by rw[List.take_zero,U.GY c hc0];exact dO.nil (by omega));clear hf1 mZ oP hs1 OE
 go_loopw [4] (fun x wr=>∃(i r:Nat) (Ao:Option Addr) (co:Nat),x=.int .i64 i∧i=r*c∧i≤ks.length∧Hd (O wr w.heap.size 31 #[.int .i64 12,.string ⟨n.text.toArray⟩,.int .i64 (c:Int),.slice A ks.length cap])∧Hd (O wr (w.heap.size+1) 45 Z)∧Hd (O wr (w.heap.size+1+1) 45 #[.string ⟨aU.toArray⟩,.slice none 0 0,.slice Ao r co,.string ⟨#[]⟩])∧Hd (dO (w.heap.size+3) wr ((grid c ((ay aJ ks).take i)).map (az bM)) (.slice Ao r co))∧Hd (ag w wr)) (fun x _=>ks.length-(intOf x).toNat)
 case atStart=>exact⟨0,0,none,0,rfl,by simp,Nat.zero_le _,je,eX,oQ,uq,aF⟩
 case round=>
  obtain⟨i,r,Ao,co,rfl,hir,hil,mo,jX,jO,HG,HF⟩:=hrel;rename_i wr _;have L6:=I hir;clear hir;obtain⟨q0,q1,q2,q3,_,_,_,_,hlq⟩:=O.four mo.J
  by_cases c1:i+c≤ks.length
  ·have d1:decide ((i:Int)+(c:Int)≤(ks.length:Int))=true:=dT (by omega)
   have dG:decide (i+c≤ks.length)=true:=dT c1;have hkne:0<ks.length:=by omega
   obtain⟨hcap,hcm⟩:=jW.J.cap hkne;unfold maxLen at hcm;obtain⟨g,o,sx,hA,hg,_⟩:=jW.J.get 0 hkne;cases hA;go_wp2_with fail
   obtain⟨_,_,k0',_,_,_,_,_,_⟩:=O.four jO.J;have k0:=cR k0';have hw:IntKind.i64.wrap ((i:Int)+(c:Int))=(i:Int)+(c:Int):=IntWalk.i64_in _ (by omega);have hic:(i:Int)+(c:Int)≤(cap:Int):=by omega
   have ahb:0≤(i:Int)+(c:Int):=by omega
   have ahc:((i:Int)+(c:Int)).toNat=i+c:=by omega
   have ahd:i+c-i=c:=by omega
   have hci:¬cap=i:=by omega
   have Jq:=cR q2;have Jr:=cR q3;clear q0 q1 q2 q3 k0';refine ic [([(0,true),(1,true),(2,true),(3,true),(4,true),(5,true),(6,true),(7,true),(8,true),(9,true),(10,false),(11,true),(12,false)],13),([(14,true)],15)] [] (by kernel_rfl) (fun _ _ d _ _ h=>by cases d<;>exact h) (by kernel_rfl) ?_;refine gT ?_
   repeat(refine bX rfl (fun K hK=>?_);go_simp;refine hK _ ?_;clear hK K)
   clear k0 Jq Jr;refine fF rfl (fun K hK=>?_);go_wp2_with fail
   have Gn:=I (gB.sub jW.J i c (cap-i) c1 (by omega) (by unfold maxLen;omega));have hcs:Tr.aj ((ks.drop i).take c)≤100000:=Nat.le_trans (Uy ks i c) mO.J;refine((om ((ks.drop i).take c) (fun x hx=>jw.J x (List.mem_of_mem_drop (List.mem_of_mem_take hx)))) aJ _ _ (by decide) hcs (Gn.J.fresh (HF.J.drewN 1))).mono ?_;rintro _ w6 ⟨vk,rfl,bu,aQ⟩;obtain⟨Ak,ck,rfl⟩:=aQ.now.slice;have bT:=I (show ag wr w6 from((M _ wr).drewN 1).trans bu);have fM:=I (show aZ (fun k=>k<wr.heap.size) w6 fun W=>bN W (az bM (ay aJ ((ks.drop i).take c))) (.slice none 0 0) (.slice Ak (ay aJ ((ks.drop i).take c)).length ck)from aQ.imp fun W h=>⟨dW.nil _ _ _,h,show bM.length≤maxLen by decide,Nat.zero_le _⟩);clear bu aQ hw hic ahb ahc ahd hci;go_wp2
   refine hK _ _ (aN bT.J) ?_;clear hK K
   repeat(refine bX rfl (fun K hK=>?_);go_simp;refine hK _ ?_;clear hK K)
   refine fF rfl (fun K hK=>?_);go_wp2
   refine hK _ _ (aN (bT.J.alloc _)) ?_;clear hK K;have dX:=I (show O (w6.alloc (.cells #[.string ⟨#[109,116,114]⟩,.slice none 0 0,.slice Ak (ay aJ ((ks.drop i).take c)).length ck,.string ⟨#[]⟩] 45)) w6.heap.size 45 #[.string ⟨bM.toArray⟩,.slice none 0 0,.slice Ak (ay aJ ((ks.drop i).take c)).length ck,.string ⟨#[]⟩]from O.new w6 45 _);have eZ:=I (show ag wr (w6.alloc (.cells #[.string ⟨#[109,116,114]⟩,.slice none 0 0,.slice Ak (ay aJ ((ks.drop i).take c)).length ck,.string ⟨#[]⟩] 45))from bT.J.alloc _);have jR:=I (fM.J.fresh ((M _ w6).alloc (.cells #[.string ⟨#[109,116,114]⟩,.slice none 0 0,.slice Ak (ay aJ ((ks.drop i).take c)).length ck,.string ⟨#[]⟩] 45)));generalize (w6.alloc (.cells #[.string ⟨#[109,116,114]⟩,.slice none 0 0,.slice Ak (ay aJ ((ks.drop i).take c)).length ck,.string ⟨#[]⟩] 45))=w7 at dX eZ jR⊢;have uu:=I (HG.J.fresh eZ.J);have HOW:=I HG.J.jE;have oU:=I (eZ.J.blk jO.J fun h=>h);have qc:=I (eZ.J.blk jX.J fun h=>h);have Da:=I (eZ.J.blk mo.J fun h=>h);have bV:=I HG.J.base;have mK:=I (show(((grid c ((ay aJ ks).take i)).map (az bM))).length=r by rw[List.length_map,L6.J];exact Ya c hc0 _ r (by rw[oG,←L6.J];exact hil))
   have hr5:r≤100000:=by
    have h1:=Bq c hc0 ((ay aJ ks).take i);have h2:=mK.J;rw[List.length_map]at h2;rw[List.length_take,oG]at h1;have:=mO.J;omega
   refine fP rfl (fun K hK=>?_)
   go_wp2_with (at_builtin;go_loud (refine mY rfl (.tmp 116) (.tmp 127) rfl uu.J mK.J (by simp[Act.eval]) (az bM (ay aJ ((ks.drop i).take c))) dX.J (by simp[Act.eval]) wr.heap.size bV.J (fun k hk=>(HOW.J k hk).2) jR.J (by omega) ?_);intro A8 c8 w8 gJ bW _;refine iC.mk ?_)
   have nT:=I gJ;have lq:=I (bW.blk oU.J fun h=>by have:=(HOW.J _ h).1;omega);have mJ:=I (bW.blk qc.J fun h=>by have:=(HOW.J _ h).1;omega);have TU:=I (bW.blk Da.J fun h=>by have:=(HOW.J _ h).1;omega);have eP:=I (show ag w w8 from(HF.J.trans eZ.J).trans' bW fun k hk=>.inr (by have:=(HOW.J _ hk).1;omega));clear gJ bW;obtain⟨q0,q1,q2,q3,z0,z1,z2,z3,hlt⟩:=O.four lq.J;obtain⟨p0,p1,p2,p3,_,_,_,_,hlp⟩:=O.four TU.J;have hw:IntKind.i64.wrap ((i:Int)+(c:Int))=(i:Int)+(c:Int):=IntWalk.i64_in _ (by have:=mO.J;omega);refine iC.go ?_;go_wp2_with fail
   refine gT ?_
   repeat(refine bX rfl (fun K hK=>?_);go_simp;refine hK _ ?_;clear hK K)
   refine fP rfl (fun K hK=>?_);go_wp2_with fail
   refine jk ?_;go_wp2_with fail
   have fO:=nT.J.mv ((M (fun k=>k=(w.heap.size+1+1)) w8).setCell (p:=⟨(w.heap.size+1+1),2,none⟩) (.inl rfl) (.slice A8 (r+1) c8)) (fun k hk _=>by omega);have hgr:=U.Y3 c hc0 (ay aJ ks) r (by rw[oG,←L6.J];exact c1);rw[←L6.J,show((ay aJ ks).drop i).take c=ay aJ ((ks.drop i).take c) by unfold ay;rw[List.map_take,List.map_drop]]at hgr;rw[←List.map_singleton (f:=az bM),←List.map_append,←hgr]at fO;exact⟨⟨i+c,r+1,A8,c8,by simp,by rw[L6.J,Nat.add_mul,Nat.one_mul],c1,TU.J.far (p:=⟨(w.heap.size+1+1),2,none⟩) (by simp;omega) _,mJ.J.far (p:=⟨(w.heap.size+1+1),2,none⟩) (by simp) _,lq.J.put 2 _,fO,eP.J.setCell (p:=⟨(w.heap.size+1+1),2,none⟩) (.inr (by show w.heap.size≤(w.heap.size+1+1);omega)) _⟩,by simp[intOf];omega⟩
  ·have d1:decide ((i:Int)+(c:Int)≤(ks.length:Int))=false:=dF (by omega)
   have dG:decide (i+c≤ks.length)=false:=dF c1
   have hiL:i=ks.length:=by
    have h1:ks.length/c=r:=Nat.div_eq_of_lt_le (by rw[←L6.J];exact hil) (by rw[Nat.add_mul,Nat.one_mul,←L6.J];omega);have h2:=Nat.div_mul_cancel (Nat.dvd_of_mod_eq_zero hdv);rw[h1,←L6.J]at h2;exact h2
   have HIL:=I hiL;have hib:i≤100000:=by have:=mO.J;omega
   have hlt':(ks.length:Int)<(i:Int)+(c:Int):=by omega
   clear hiL hil;obtain⟨s0,s1,s2,s3,_,_,_,_,hlt⟩:=O.four jO.J;obtain⟨p0,p1,p2,p3,y0,y1,y2,y3,hlp⟩:=O.four jX.J;have fO:=HG.J.mv ((M (fun k=>k=(w.heap.size+1)) wr).aH (.inl rfl) (.string ⟨aU.toArray⟩) (.slice none 0 0) (.slice Ao r co) (.string ⟨#[]⟩)) (fun k hk _=>by omega);rw[HIL.J,List.take_of_length_le (by rw[oG];exact Nat.le_refl _)]at fO;have iE:=I fO;obtain⟨r0,r1,r2,r3,_,_,_,_,_⟩:=O.four (jX.J.dJ (.string ⟨aU.toArray⟩) (.slice none 0 0) (.slice Ao r co) (.string ⟨#[]⟩));simp only[aH]at r0 r1 r2 r3;clear fO;go_wp2
   refine bodyPost_ret (v:=.agg #[.string ⟨aU.toArray⟩,.slice none 0 0,.slice Ao r co,.string ⟨#[]⟩]) (by simp[results,Tryz.results65,go_sem,r0,r1,r2,r3]) rfl ?_;refine⟨_,rfl,.slice none 0 0,.slice Ao r co,rfl,Touch.aH HF.J (.inr (by omega)) _ _ _ _,?_⟩;exact(iE.J.done.mono fun i _ hi=>by omega).imp fun W hW=>⟨dW.nil _ _ _,hW,show aU.length≤maxLen by decide,Nat.zero_le _⟩
theorem UA(m:Nat):∀n,Tr.count n≤m→Tr.form n=true→(n.kind==1)=false→RL n:=by
 induction m with
 |zero=>intro n h;have:=Tr.gQ n;omega
 |succ m ih=>
  intro n hm hf hk1;rw[Tr.mg,Bool.and_eq_true,Bool.and_eq_true,hk1]at hf;obtain⟨⟨ht,hkk⟩,hfl⟩:=hf;have htx:n.text.length≤maxLen:=Nat.le_trans (Ro _ _ ht) (by decide)
  have hrow:∀x∈n.kids,pY x.kids:=fun x hx=>LZ x.kids fun y hy=>by
   obtain⟨h1,h2⟩:=sU _ _ hfl x hx;rw[Tr.mg,Bool.and_eq_true]at h2;have hx1:(x.kind==1)=true:=by simpa using h1
   rw[hx1]at h2;obtain⟨h3,h4⟩:=sU _ _ h2.2 y hy;have c1:=Tr.dm hx;have c2:=Tr.dm hy;have c3:=Tr.aI n;have c4:=Tr.aI x;exact ih y (by omega) h4 (by simpa using h3)
  intro sl w hc hsl;unfold Tr.cZ at hkk
  by_cases h12:n.kind=12
  ·rw[if_pos h12]at hkk
   simp only[Bool.and_eq_true,decide_eq_true_eq]at hkk;obtain⟨⟨⟨⟨k1,k2⟩,k3⟩,k4⟩,k5⟩:=hkk;refine Uz n h12 htx n.ai.toNat (by omega) (by omega) (by omega) ?_ hrow sl w hc hsl;have h:((n.kids.length%n.ai.toNat:Nat):Int)=0:=by rw[Int.natCast_emod,Int.toNat_of_nonneg (by omega)];exact k5
   omega
  rw[if_neg h12]at hkk;split at hkk
  ·cases hkk
  split at hkk
  ·rename_i h1
   rw[h1]at hk1;cases hk1
  split at hkk
  ·rename_i h
   rcases h with h|h|h
   ·rw[h]at ht
    have hls:=X8 n.text ht;cases hl:U.iR n.text with
    |true=>exact Qt n h htx hl (by rw[hls,hl]) sl w hc hsl
    |false=>exact Pn n h htx hl (by rw[hls,hl]) sl w hc hsl
   ·exact aeO n h htx sl w hc hsl
   ·exact aa' n h htx sl w hc hsl
  split at hkk
  ·rename_i h
   have h2:n.kids.length=2:=by simpa using hkk
   rcases h with h|h|h|h
   ·exact abb n h htx hrow sl w hc hsl
   ·obtain⟨a,b,hks⟩:∃a b,n.kids=[a,b]:=by
     match hh:n.kids,h2 with
     |[a,b],_=>exact⟨a,b,rfl⟩
    by_cases ha:a.kids=[]
    ·exact acT n a b h hks htx ha (hrow b (by rw[hks];simp)) sl w hc hsl
    ·exact acU n a b h hks htx ha (hrow a (by rw[hks];simp)) (hrow b (by rw[hks];simp)) sl w hc hsl
   ·exact abd n h htx hrow sl w hc hsl
   ·exact abe n h htx hrow sl w hc hsl
  split at hkk
  ·rename_i h
   exact abf n h htx hrow sl w hc hsl
  split at hkk
  ·rename_i h
   have h1:n.kids.length=1:=by simpa using hkk
   obtain⟨a,hks⟩:=List.length_eq_one_iff.1 h1
   rcases h with h|h
   ·exact X9 n a h hks htx (hrow a (by rw[hks];simp)) sl w hc hsl
   ·have h2:n.text.length=2:=by
     rw[h]at ht;have ht':Tr.fence n.text=true:=ht;unfold Tr.fence at ht';split at ht'
     ·rename_i hx;rw[hx];rfl
     ·cases ht'
    exact abg n a h hks htx (hrow a (by rw[hks];simp)) h2 _ _ rfl rfl sl w hc hsl
  ·cases hkk
theorem DK(n:Nd)(hf:Tr.form n=true)(hk:(n.kind==1)=true)(sl:Value)(w:World)(hc:Tr.count n≤100000)(hsl:gB w n.kids sl):Calls Tryz.prog 20 #[nv n sl] w fun e w'=>∃v,e=.returned v∧iF w w' (U.nJ n) v:=by
 obtain⟨A,cap,rfl⟩:=hsl.slice
 have hels:pY n.kids:=LZ n.kids fun y hy=>by
  rw[Tr.mg,Bool.and_eq_true,hk]at hf;obtain⟨h3,h4⟩:=sU _ _ hf.2 y hy;exact UA _ y (Nat.le_refl _) h4 (by simpa using h3)
 have ahe:=I hels;have jW:=I hsl;have mO:=I (show Tr.aj n.kids≤100000 by have:=Tr.aI n;omega);clear hels hsl hc;have bC:=I (show ag w ((w.alloc (.cells #[.int .i64 n.kind,.string ⟨n.text.toArray⟩,.int .i64 n.ai,.slice A n.kids.length cap] 31)).alloc (.cells Z 45))from((M _ _).alloc _).alloc _);have jL:=I (O.new2 w (.cells #[.int .i64 n.kind,.string ⟨n.text.toArray⟩,.int .i64 n.ai,.slice A n.kids.length cap] 31) 45 Z);have kL:=I (show w.heap.size+2≤((w.alloc (.cells #[.int .i64 n.kind,.string ⟨n.text.toArray⟩,.int .i64 n.ai,.slice A n.kids.length cap] 31)).alloc (.cells Z 45)).heap.size by simp);go_enter Tryz.func20,Tryz.ntmps20;go_wp2_with fail
 generalize ((w.alloc (.cells #[.int .i64 n.kind,.string ⟨n.text.toArray⟩,.int .i64 n.ai,.slice A n.kids.length cap] 31)).alloc (.cells Z 45))=W3 at bC jL kL⊢;refine(ahe.J _ _ mO.J (jW.J.fresh bC.J)).mono ?_;rintro _ w6 ⟨vk,rfl,bu,aQ⟩;obtain⟨Ak,ck,rfl⟩:=aQ.now.slice;have bT:=I (bC.J.trans bu);have jC:=I (bu.blk jL.J fun h=>h);have fM:=I (show aZ (fun k=>k<W3.heap.size) w6 fun W=>dL W (cz n.kids) (.slice Ak (cz n.kids).length ck)from aQ);clear bu aQ;obtain⟨p0,p1,p2,p3,y0,y1,y2,y3,hlp⟩:=O.four jC.J;obtain⟨r0,r1,r2,r3,_,_,_,_,_⟩:=O.four (jC.J.dJ (.string ⟨U.bJ.toArray⟩) (.slice none 0 0) (.slice Ak (cz n.kids).length ck) (.string ⟨#[]⟩));simp only[aH,U.bJ]at r0 r1 r2 r3;go_wp2
 refine bodyPost_ret (v:=.agg #[.string ⟨U.bJ.toArray⟩,.slice none 0 0,.slice Ak (cz n.kids).length ck,.string ⟨#[]⟩]) (by simp[results,Tryz.results20,go_sem,U.bJ,r0,r1,r2,r3]) rfl ?_;have lY:=fM.J.step (S2:=fun k=>k<w.heap.size) ((M (fun k=>k=w.heap.size+1) w6).aH (.inl rfl) (.string ⟨U.bJ.toArray⟩) (.slice none 0 0) (.slice Ak (cz n.kids).length ck) (.string ⟨#[]⟩)) (fun i _ hi=>by have:=kL.J;have hi:i=w.heap.size+1:=hi;omega) (fun i _ hi=>by have:=kL.J;omega);exact⟨_,rfl,.slice none 0 0,.slice Ak (cz n.kids).length ck,rfl,Touch.aH bT.J (.inr (by omega)) _ _ _ _,lY.imp fun W h=>⟨dW.nil _ _ _,h,show U.bJ.length≤maxLen by decide,Nat.zero_le _⟩⟩
end
section
open Go.RowKit
open U (E aA jB cB rz eH eO dY)
theorem acV(a b:UInt8):((a.toNat:Int)==(b.toNat:Int))=(a==b):=by
 rw[Bool.eq_iff_iff,beq_iff_eq,beq_iff_eq,←UInt8.toNat_inj];omega
theorem kJ{P:Program}(W:World){x y z:List UInt8}(hz:z=x++y)(hx:x.length≤8388608)(hy:y.length≤8388608):(Op.stringOp .add ⟨x.toArray⟩ ⟨y.toArray⟩).run P W=.ok (.string ⟨z.toArray⟩) W:=by
 subst hz;exact run_string_add_lists W x y (by omega) (by omega)
def FR(b:UInt8):List UInt8:=if b=38 then [38,97,109,112,59]else if b=60 then [38,108,116,59]else if b=62 then [38,103,116,59]else if b=34 then [38,113,117,111,116,59]else []
theorem Yb(b:UInt8):jB b=if(FR b).isEmpty then [b]else FR b:=by
 unfold jB FR;split
 ·rfl
 ·split
  ·rfl
  ·split
   ·rfl
   ·split<;>rfl
theorem abh(b:UInt8):(jB b).length≤6:=by
 unfold jB;split
 ·decide
 ·split
  ·decide
  ·split
   ·decide
   ·split<;>simp
theorem acW(l:List UInt8):l.length≤(cB l).length:=by
 induction l with
 |nil=>exact Nat.le_refl _
 |cons b l ih=>
  show _≤(jB b++cB l).length;rw[List.length_append,List.length_cons]
  have:0<(jB b).length:=by
   unfold jB;split
   ·decide
   ·split
    ·decide
    ·split
     ·decide
     ·split<;>simp
  omega
theorem Yc(l:List UInt8)(j:Nat):(cB (l.take j)).length≤(cB l).length:=by
 have:cB l=cB (l.take j)++cB (l.drop j):=by unfold cB;rw[←List.flatMap_append,List.take_append_drop]
 rw[this,List.length_append];omega
theorem Yd(l:List UInt8)(j:Nat)(h:j<l.length):cB (l.take (j+1))=cB (l.take j)++jB l[j]:=by
 rw[List.take_add_one,List.getElem?_eq_getElem h];exact U.K4 _ _
theorem UB(b:UInt8)(w:World):Calls Tryz.prog 64 #[.int .u8 (b.toNat:Int)] w fun e w'=>e=.returned (.string ⟨(FR b).toArray⟩)∧w'=w:=by
 have hb:∀c:UInt8,b≠c→((b.toNat:Int)==(c.toNat:Int))=false:=fun c h=>by rw[show((b.toNat:Int)==(c.toNat:Int))=(b==c)from acV b c,beq_eq_false_iff_ne];exact h
 unfold FR
 by_cases h1:b=38
 ·subst h1
  go_enter Tryz.func64,Tryz.ntmps64;go_wp2
  go_ret;exact⟨rfl,rfl⟩
 have e1:((b.toNat:Int)==(38:Int))=false:=hb 38 h1;rw[if_neg h1]
 by_cases h2:b=60
 ·subst h2
  go_enter Tryz.func64,Tryz.ntmps64;go_wp2
  go_ret;exact⟨rfl,rfl⟩
 have e2:((b.toNat:Int)==(60:Int))=false:=hb 60 h2;rw[if_neg h2]
 by_cases h3:b=62
 ·subst h3
  go_enter Tryz.func64,Tryz.ntmps64;go_wp2
  go_ret;exact⟨rfl,rfl⟩
 have e3:((b.toNat:Int)==(62:Int))=false:=hb 62 h3;rw[if_neg h3]
 by_cases h4:b=34
 ·subst h4
  go_enter Tryz.func64,Tryz.ntmps64;go_wp2
  go_ret;exact⟨rfl,rfl⟩
 have e4:((b.toNat:Int)==(34:Int))=false:=hb 34 h4;rw[if_neg h4];clear hb h1 h2 h3 h4;go_enter Tryz.func64,Tryz.ntmps64;go_wp2
 go_ret;exact⟨rfl,rfl⟩
theorem Po(l:List UInt8)(w:World)(hl:(cB l).length≤8000000):Calls Tryz.prog 38 #[.string ⟨l.toArray⟩] w fun e w'=>e=.returned (.string ⟨(cB l).toArray⟩)∧w'=w:=by
 have HL:=I hl;obtain⟨s,hs⟩:∃s:ByteArray,s=⟨l.toArray⟩:=⟨_,rfl⟩;have hsz:s.size=l.length:=by rw[hs];rfl
 have uO:=I hsz;have HS:=I hs;rw[←hs];clear hs hl;obtain⟨N,hN⟩:∃N,N=l.length:=⟨_,rfl⟩;have HN:=I hN;rw[←hN]at hsz;clear hN;go_enter Tryz.func38,Tryz.ntmps38;go_wp2
 go_loopw [3,4] (fun o i wr=>∃(p:List UInt8) (j:Nat),o=.string ⟨p.toArray⟩∧i=.int .i64 j∧j≤N∧Hd (p=cB (l.take j))∧wr=w) (fun _ i _=>N-(intOf i).toNat)
 case atStart=>exact⟨[],0,rfl,rfl,Nat.zero_le _,I rfl,rfl⟩
 case round=>
  obtain⟨p,j,rfl,rfl,hj,HP,rfl⟩:=hrel;have hjN:N≤8000000:=by rw[HN.J];exact Nat.le_trans (acW l) HL.J
  have hpl:p.length≤8000000:=by
   rw[HP.J];exact Nat.le_trans (Yc l j) HL.J
  by_cases c1:j<N
  ·have d1:decide ((j:Int)<(N:Int))=true:=dT (by omega)
   have dG:decide (j<N)=true:=dT c1;have c2:j<s.size:=by rw[hsz];exact c1
   have c3:j<l.length:=by rw[←HN.J];exact c1
   obtain⟨b,hb⟩:∃b,s[j]'c2=b:=⟨_,rfl⟩
   have hbl:l[j]'c3=b:=by
    have h1:=MN s j c2;rw[hb]at h1;rw[←h1];have h2:s.data.toList=l:=by rw[HS.J]
    simp only[h2]
   have qE:=I (show s.extract j (j+1)=⟨#[b]⟩ by
    rw[HS.J,Lib.extract_mk,show j+1-j=1 by omega,List.drop_eq_getElem_cons c3,hbl];rfl)
   have HT:=I (Yd l j c3);rw[hbl]at HT;clear hbl c3;go_wp2_with fail
   refine(UB b _).mono ?_;rintro _ w2 ⟨rfl,hw⟩;replace hw:=hw.symm;subst hw;have Xf:=I (Yb b);generalize FR b=r at Xf⊢;cases hre:r.isEmpty with
   |false=>
    obtain⟨f1,f2,f3,f4,f5⟩:=mR r false hre;have HR:=I (show jB b=r by rw[Xf.J,hre];rfl);have hrl:r.length≤6:=by rw[←HR.J];exact abh b
    clear hre;obtain⟨p1,hp1⟩:∃q,q=p++r:=⟨_,rfl⟩;have Pp:p1.length=p.length+(r:List UInt8).length:=by rw[hp1,List.length_append]
    have ap1:∀W:World,(Op.stringOp .add ⟨p.toArray⟩ ⟨r.toArray⟩).run Tryz.prog W=.ok (.string ⟨p1.toArray⟩) W:=fun W=>kJ W hp1 (by omega) (by omega)
    have Ye:=I hp1;clear hp1;have si:=I (show p1=cB (l.take (j+1)) by rw[Ye.J,HT.J,HP.J,HR.J]);clear Pp;go_wp2
    go_roundw
    case rel=>exact⟨p1,j+1,rfl,by go_num,c1,si,trivial⟩
    case measure=>simp[intOf];omega
   |true=>
    obtain⟨f1,f2,f3,f4,f5⟩:=mR r true hre;have HR:=I (show jB b=[b] by rw[Xf.J,hre];rfl);obtain rfl:r=[]:=List.isEmpty_iff.1 hre;clear hre;obtain⟨p1,hp1⟩:∃q,q=p++[b]:=⟨_,rfl⟩;have Pp:p1.length=p.length+([b]:List UInt8).length:=by rw[hp1,List.length_append]
    simp only[List.length_cons,List.length_nil]at Pp;have ap1:∀W:World,(Op.stringOp .add ⟨p.toArray⟩ ⟨#[b]⟩).run Tryz.prog W=.ok (.string ⟨p1.toArray⟩) W:=fun W=>kJ W hp1 (by omega) (by simp only[List.length_cons,List.length_nil];omega)
    have Ye:=I hp1;clear hp1;have si:=I (show p1=cB (l.take (j+1)) by rw[Ye.J,HT.J,HP.J,HR.J]);have w1:IntKind.i64.wrap ((j:Int)+1)=(j:Int)+1:=IntWalk.i64_in _ (by omega);have hx:=qE.J;have k1:(j:Int)≤(j:Int)+1:=by omega
    have k2:(j:Int)+1≤(s.size:Int):=by omega
    have k3:(0:Int)≤(j:Int):=by omega
    clear Pp;go_wp2
    go_roundw
    case rel=>exact⟨p1,j+1,rfl,by go_num,c1,si,trivial⟩
    case measure=>simp[intOf];omega
  ·have d1:decide ((j:Int)<(N:Int))=false:=dF (by omega)
   have dG:decide (j<N)=false:=dF c1;have aG:=I (show p=cB l by rw[HP.J,List.take_of_length_le (by rw[←HN.J];omega)]);go_wp2
   go_ret;exact⟨by rw[aG.J];rfl,rfl⟩
theorem abj(n:List UInt8)(a:aA)(ks:List E)(t:List UInt8):eO (.mk n a ks t)=60::n++eH a++(if t.isEmpty&&ks.isEmpty then [47,62]else 62::cB t++dY ks++([60,47]++n++[62])):=by rw[eO]
def FT(e:E):Prop:=∀(va vk:Value) (w:World),bN w e va vk→(eO e).length≤8000000→Calls Tryz.prog 19 #[ev e va vk] w fun x w'=>x=.returned (.string ⟨(eO e).toArray⟩)∧ag w w'
theorem Qu(e:E)(ih:∀x∈e.kids,FT x):FT e:=by
 intro va vk w hr hlen;obtain⟨A,ca,hva⟩:=hr.1.slice;obtain⟨B,cb,hvk⟩:=hr.2.1.slice;have HR:=I hr;have jw:=I ih;obtain⟨n,ats,ks,t⟩:=e;have hl1:ats.length≤maxLen:=by obtain⟨_,_,_,h,_⟩:=hr.1;exact h.1
 have hl2:ks.length≤maxLen:=hr.2.1.len;unfold maxLen at hl1 hl2;replace hva:va=.slice A ats.length ca:=hva;replace hvk:vk=.slice B ks.length cb:=hvk;subst hva;subst hvk;have HW:=I (abj n ats ks t);have hln:(60::n++eH ats).length≤8000000:=by rw[HW.J,List.length_append]at hlen;omega
 have aen:(t.isEmpty&&ks.isEmpty)=false→(60::n++eH ats).length+(62::cB t++dY ks++([60,47]++n++[62])).length≤8000000:=by
  intro h;rw[HW.J,h,List.length_append]at hlen;exact hlen
 have Lu:=I hln;have HL2:=I aen;unfold ev;simp only[E.name,E.kids,E.text]at jw⊢;generalize eO (.mk n ats ks t)=RES at HW⊢;clear hr ih hlen hln aen;have HK:=I (show dL w ks _ from HR.J.2.1);have HA:=I (show dW w ats _ from HR.J.1);have HB0:=I (O.new w 45 #[.string ⟨n.toArray⟩,.slice A ats.length ca,.slice B ks.length cb,.string ⟨t.toArray⟩]);have dh:=I ((M (fun _=>False) w).alloc (.cells #[.string ⟨n.toArray⟩,.slice A ats.length ca,.slice B ks.length cb,.string ⟨t.toArray⟩] 45));have hn1:n.length≤8000000:=by have h:=Lu.J;simp only[List.length_append,List.length_cons]at h;omega
 obtain⟨z1,hz1⟩:∃z,z=60::n:=⟨_,rfl⟩;have HZ1:=I hz1;have ahf:∀W:World,(Op.stringOp .add ⟨#[60]⟩ ⟨n.toArray⟩).run Tryz.prog W=.ok (.string ⟨z1.toArray⟩) W:=fun W=>kJ W (x:=[60]) hz1 (by simp) (by omega)
 clear hz1;go_enter Tryz.func19,Tryz.ntmps19;go_wp2_with fail
 clear ahf;refine aV (fun W=>ag w W∧O W w.heap.size 45 #[.string ⟨n.toArray⟩,.slice A ats.length ca,.slice B ks.length cb,.string ⟨t.toArray⟩]) ⟨dh.J,HB0.J⟩ ?_;clear dh HB0;rintro W1 ⟨hf1,hb1⟩;have aF:=I hf1;have HB1:=I hb1;clear hf1 hb1
 go_loopw [3,4] (fun o i wQ=>∃(wr:World) (p:List UInt8) (j:Nat),wr=wQ∧o=.string ⟨p.toArray⟩∧i=.int .i64 j∧j≤ats.length∧Hd (p=60::n++eH (ats.take j))∧Hd (ag w wr)∧Hd (O wr w.heap.size 45 #[.string ⟨n.toArray⟩,.slice A ats.length ca,.slice B ks.length cb,.string ⟨t.toArray⟩])) (fun _ i _=>ats.length-(intOf i).toNat)
 case atStart=>exact⟨_,z1,0,rfl,rfl,rfl,Nat.zero_le _,I (by rw[HZ1.J];simp[eH]),aF,HB1⟩
 case round=>
  clear aF HB1;obtain⟨wr,p,j,rfl,rfl,rfl,hj,HP,HF,HB⟩:=hrel;obtain⟨q0,q1,q2,q3,_,_,_,_,hqg⟩:=O.four HB.J
  have hpl:p.length≤8000000:=by
   have h:=Lu.J;have h2:=U.Ej ats j;rw[HP.J];simp only[List.length_append,List.length_cons]at h⊢;omega
  by_cases c1:j<ats.length
  ·have d1:decide ((j:Int)<(ats.length:Int))=true:=dT (by omega)
   have d1':(j:Int)<(ats.length:Int):=by omega
   have dG:decide (j<ats.length)=true:=dT c1;obtain⟨g,o,rfl,hg2,m0,m1,hx1,hx2⟩:=HA.J.get j c1;have e0:=HF.J.cell m0 (fun h=>h);have e1:=HF.J.cell m1 (fun h=>h)
   have hjb:j≤8000000:=by
    have h1:∀l:aA,l.length≤(eH l).length:=fun l=>by
     induction l with
     |nil=>exact Nat.le_refl _
     |cons x l ih=>
      have h0:1≤(rz x).length:=by(unfold rz;simp)
      unfold eH at ih⊢;rw[List.flatMap_cons,List.length_append,List.length_cons];omega
    have h2:=h1 ats;have h:=Lu.J;simp only[List.length_append,List.length_cons]at h;omega
   have HS:=I (U.Gc ats j c1)
   have hsl:p.length+(1+ats[j].1.length+2+(cB ats[j].2).length+1)≤8000000:=by
    have h:=Lu.J;have h2:=U.Ej ats (j+1);rw[HS.J]at h2;rw[HP.J];unfold rz at h2;simp only[List.length_append,List.length_cons,List.length_nil]at h h2⊢;omega
   clear m0 m1 hx1 hx2;generalize ats[j]=x at*;obtain⟨x1,x2⟩:=x;simp only at*;have RN:=I (fun W:World=>Po x2 W (by omega));obtain⟨ex,hex⟩:∃ex,ex=cB x2:=⟨_,rfl⟩;have qE:=I hex;rw[←hex]at RN hsl;clear hex;obtain⟨p1,hp1⟩:∃q,q=p++[32]:=⟨_,rfl⟩;have Pp:p1.length=p.length+([32]:List UInt8).length:=by rw[hp1,List.length_append]
   simp only[List.length_cons,List.length_nil]at Pp;have ap1:∀W:World,(Op.stringOp .add ⟨p.toArray⟩ ⟨#[32]⟩).run Tryz.prog W=.ok (.string ⟨p1.toArray⟩) W:=fun W=>kJ W hp1 (by omega) (by simp only[List.length_cons,List.length_nil];omega)
   obtain⟨p2,hp2⟩:∃q,q=p1++x1:=⟨_,rfl⟩;have lp2:p2.length=p1.length+(x1:List UInt8).length:=by rw[hp2,List.length_append]
   have ap2:∀W:World,(Op.stringOp .add ⟨p1.toArray⟩ ⟨x1.toArray⟩).run Tryz.prog W=.ok (.string ⟨p2.toArray⟩) W:=fun W=>kJ W hp2 (by omega) (by omega)
   obtain⟨p3,hp3⟩:∃q,q=p2++[61,34]:=⟨_,rfl⟩;have lp3:p3.length=p2.length+([61,34]:List UInt8).length:=by rw[hp3,List.length_append]
   simp only[List.length_cons,List.length_nil]at lp3;have ap3:∀W:World,(Op.stringOp .add ⟨p2.toArray⟩ ⟨#[61,34]⟩).run Tryz.prog W=.ok (.string ⟨p3.toArray⟩) W:=fun W=>kJ W hp3 (by omega) (by simp only[List.length_cons,List.length_nil];omega)
   obtain⟨p4,hp4⟩:∃q,q=p3++ex:=⟨_,rfl⟩;have lp4:p4.length=p3.length+(ex:List UInt8).length:=by rw[hp4,List.length_append]
   have ap4:∀W:World,(Op.stringOp .add ⟨p3.toArray⟩ ⟨ex.toArray⟩).run Tryz.prog W=.ok (.string ⟨p4.toArray⟩) W:=fun W=>kJ W hp4 (by omega) (by omega)
   obtain⟨p5,hp5⟩:∃q,q=p4++[34]:=⟨_,rfl⟩;have lp5:p5.length=p4.length+([34]:List UInt8).length:=by rw[hp5,List.length_append]
   simp only[List.length_cons,List.length_nil]at lp5;have ap5:∀W:World,(Op.stringOp .add ⟨p4.toArray⟩ ⟨#[34]⟩).run Tryz.prog W=.ok (.string ⟨p5.toArray⟩) W:=fun W=>kJ W hp5 (by omega) (by simp only[List.length_cons,List.length_nil];omega)
   have Ye:=I hp1;clear hp1;have Hp2:=I hp2;clear hp2;have Hp3:=I hp3;clear hp3;have Hp4:=I hp4;clear hp4;have Hp5:=I hp5;clear hp5;have C0:=I (iN (P:=Tryz.prog) wr (fun w hw=>(RN.J w).mono fun _ _ h=>⟨h.1,by rw[h.2];exact M _ _⟩));go_wp2_with fail
   have r1:=cell_regrown q1;have r2:=cell_regrown e0;have r3:=cell_regrown e1;refine wp_region_quiet_below (by kernel_rfl) (by kernel_rfl) ?_
   repeat(with_reducible refine wpQuiet_step (fun K hK=>?_);go_simp;first|(refine hK _ ?_;clear hK K)|(apply Exists.intro;refine⟨fun _=>?_,hK _ ?_⟩;(first|with_reducible exact C0.J _ _);clear hK K))
   refine wpQuiet_nil ?_;rintro w8 ⟨⟨_,_⟩,hW8⟩;have Ri:ag wr w8:=by rw[hW8];exact bE (below_regrown _ _ _)
   have eP:=I (HF.J.trans Ri);have mE:=I (Ri.blk HB.J fun h=>h);have HP8:=I (show p5=60::n++eH (ats.take (j+1)) by rw[HS.J,Hp5.J,Hp4.J,Hp3.J,Hp2.J,Ye.J,HP.J,qE.J];unfold rz;simp);clear hW8 r1 r2 r3 q0 q1 q2 q3 hqg Ri e0 e1 Pp lp2 lp3 lp4 lp5 ap1 ap2 ap3 ap4 ap5;go_wp2
   go_roundw
   case rel=>exact⟨_,p5,j+1,rfl,rfl,by go_num,c1,HP8,eP,mE⟩
   case measure=>simp[intOf];omega
  ·have d1:decide ((j:Int)<(ats.length:Int))=false:=dF (by omega)
   have dG:decide (j<ats.length)=false:=dF c1;have si:=I (show p=60::n++eH ats by rw[HP.J,List.take_of_length_le (by omega)]);clear hj
   have iV:(t.isEmpty=true∧ks.length=0)∨(t.isEmpty=false)∨(t.isEmpty=true∧ks.length≠0):=by
    cases t.isEmpty<;>by_cases h:ks.length=0<;>simp[h]
   rcases iV with⟨he,hk0⟩|hne
   focus
    obtain⟨f1,f2,f3,f4,f5⟩:=mR t true he;have d0:((ks.length:Int)==(0:Int))=true:=by rw[hk0];rfl
    obtain⟨c1',hc1'⟩:∃q,q=p++[47,62]:=⟨_,rfl⟩;have aeo:c1'.length=p.length+([47,62]:List UInt8).length:=by rw[hc1',List.length_append]
    simp only[List.length_cons,List.length_nil]at aeo;have ajp:∀W:World,(Op.stringOp .add ⟨p.toArray⟩ ⟨#[47,62]⟩).run Tryz.prog W=.ok (.string ⟨c1'.toArray⟩) W:=fun W=>kJ W hc1' (by omega) (by simp only[List.length_cons,List.length_nil];omega)
    have ahg:=I hc1';clear hc1';have aG:=I (show c1'=RES by rw[ahg.J,HW.J,si.J,he,List.length_eq_zero_iff.1 hk0];rfl);clear aeo;go_wp2
    go_ret;exact⟨by rw[aG.J];rfl,HF.J⟩
   have Ef:=I (show(t.isEmpty&&ks.isEmpty)=false by
    rcases hne with h|⟨_,h⟩
    ·rw[h];rfl
    ·cases hks:ks with
     |nil=>rw[hks]at h;exact absurd rfl h
     |cons x l=>rw[List.isEmpty_cons,Bool.and_false])
   have hl3:p.length+(1+(cB t).length+(dY ks).length+(2+n.length+1))≤8000000:=by
    have h:=HL2.J Ef.J;rw[si.J];simp only[List.length_append,List.length_cons,List.length_nil]at h⊢;omega
   have HWR:=I (show RES=p++(62::cB t++dY ks++([60,47]++n++[62])) by rw[HW.J,Ef.J,si.J];rfl);have RN:=I (fun W:World=>Po t W (by omega));obtain⟨et,het⟩:∃et,et=cB t:=⟨_,rfl⟩;have HET:=I het;rw[←het]at RN hl3;clear het;obtain⟨wl,hwl⟩:∃wl,wl=(dY ks).length:=⟨_,rfl⟩;have NU:=I hwl;rw[←hwl]at hl3;clear hwl;obtain⟨b1,hb1⟩:∃q,q=p++[62]:=⟨_,rfl⟩;have lb1:b1.length=p.length+([62]:List UInt8).length:=by rw[hb1,List.length_append]
   simp only[List.length_cons,List.length_nil]at lb1;have ab1:∀W:World,(Op.stringOp .add ⟨p.toArray⟩ ⟨#[62]⟩).run Tryz.prog W=.ok (.string ⟨b1.toArray⟩) W:=fun W=>kJ W hb1 (by omega) (by simp only[List.length_cons,List.length_nil];omega)
   obtain⟨b2,hb2⟩:∃q,q=b1++et:=⟨_,rfl⟩;have lb2:b2.length=b1.length+(et:List UInt8).length:=by rw[hb2,List.length_append]
   have ab2:∀W:World,(Op.stringOp .add ⟨b1.toArray⟩ ⟨et.toArray⟩).run Tryz.prog W=.ok (.string ⟨b2.toArray⟩) W:=fun W=>kJ W hb2 (by omega) (by omega)
   have Hb1:=I hb1;clear hb1;have Hb2:=I hb2;clear hb2;have HP3:=I (show b2=p++62::cB t by rw[Hb2.J,Hb1.J,HET.J];simp);have hbl:b2.length+wl+(2+n.length+1)≤8000000:=by omega
   clear lb1 lb2 hl3 si HP
   have wW:(t.isEmpty=false)∨(t.isEmpty=true∧((ks.length:Int)==(0:Int))=false):=by
    rcases hne with h|⟨h,h0⟩
    ·exact .inl h
    ·exact .inr ⟨h,by rw[beq_eq_false_iff_ne];omega⟩
   clear hne
   rcases wW with h|⟨h,h0⟩
   focus
    obtain⟨f1,f2,f3,f4,f5⟩:=mR t false h;go_wp2_with fail
    refine(RN.J _).mono ?_
   rotate_left
   focus
    obtain⟨f1,f2,f3,f4,f5⟩:=mR t true h;go_wp2_with fail
    refine(RN.J _).mono ?_
   all_goals
    rintro _ w3 ⟨rfl,hw⟩;replace hw:=hw.symm;subst hw;clear f1 f2 f3 f4 f5 h d1 dG;go_wp2_with fail
    clear ab1 ab2 q0 q1 q2 q3
    go_loopw [3,5] (fun o i wQ=>∃(wr:World) (p:List UInt8) (j:Nat),wr=wQ∧o=.string ⟨p.toArray⟩∧i=.int .i64 j∧j≤ks.length∧Hd (p=b2++dY (ks.take j))∧Hd (ag w wr)∧Hd (O wr w.heap.size 45 #[.string ⟨n.toArray⟩,.slice A ats.length ca,.slice B ks.length cb,.string ⟨t.toArray⟩])) (fun _ i _=>ks.length-(intOf i).toNat)
    case atStart=>exact⟨_,b2,0,rfl,rfl,rfl,Nat.zero_le _,I (by rw[List.take_zero,dY,List.append_nil]),HF,HB⟩
    case round=>
     clear HF HB;obtain⟨wr3,p,j,rfl,rfl,rfl,hj,HP,HF,HB⟩:=hrel;obtain⟨q0,q1,q2,q3,_,_,_,_,ajq⟩:=O.four HB.J
     by_cases c2:j<ks.length
     ·have d1:decide ((j:Int)<(ks.length:Int))=true:=dT (by omega)
      have d1':(j:Int)<(ks.length:Int):=by omega
      have dG:decide (j<ks.length)=true:=dT c2;obtain⟨g,o,xa,xk,rfl,hg,m0,m1,m2,m3,hrx⟩:=HK.J.get j c2;obtain⟨e0,e1,e2,e3⟩:=yD HF.J m0 m1 m2 m3;obtain⟨Aa,aa,hxa⟩:=hrx.1.slice;obtain⟨Ak,ak,hxk⟩:=hrx.2.1.slice;have HS:=I (U.Gd ks j c2)
      have hpl:p.length+(eO ks[j]).length+(2+n.length+1)≤8000000:=by
       have h1:=U.K5 ks (j+1);rw[HS.J,List.length_append,←NU.J]at h1;rw[HP.J,List.length_append];omega
      have hjb:j≤8000000:=by
       have h1:∀l:List E,l.length≤(dY l).length:=fun l=>by
        induction l with
        |nil=>exact Nat.zero_le _
        |cons x l ih=>
         rw[dY,List.length_append,List.length_cons];have:1≤(eO x).length:=by cases x;rw[eO];simp only[List.cons_append,List.length_cons];omega
         omega
       have h2:=h1 ks;have h3:=NU.J;omega
      have HC:=I (fun(W:World) (hw:bN W ks[j] xa xk)=>jw.J ks[j] (List.getElem_mem c2) xa xk W hw (by omega));have HX:=I (hrx.fresh HF.J);clear m0 m1 m2 m3 hrx;generalize ks[j]=x at*;obtain⟨wx,hwx⟩:∃wx,wx=eO x:=⟨_,rfl⟩;have HWX:=I hwx;rw[←hwx]at hpl HC;clear hwx;obtain⟨xn,xat,xks,xt⟩:=x;unfold ev at HC;simp only[E.name,E.attrs,E.kids,E.text]at hxa hxk e0 e1 e2 e3 HC;subst hxa hxk;obtain⟨d1_,UC⟩:∃q,q=p++wx:=⟨_,rfl⟩;have ahh:d1_.length=p.length+(wx:List UInt8).length:=by rw[UC,List.length_append]
      have ajr:∀W:World,(Op.stringOp .add ⟨p.toArray⟩ ⟨wx.toArray⟩).run Tryz.prog W=.ok (.string ⟨d1_.toArray⟩) W:=fun W=>kJ W UC (by omega) (by omega)
      have ahi:=I UC;clear UC;go_wp2_with fail
      refine(HC.J _ HX.J).mono ?_;rintro _ w5 ⟨rfl,iJ⟩;have dA:=I (HF.J.trans iJ);have bV:=I (iJ.blk HB.J fun h=>h);have HP5:=I (show d1_=b2++dY (ks.take (j+1)) by rw[ahi.J,HP.J,HS.J,HWX.J,List.append_assoc]);clear iJ ahh;go_wp2
      go_roundw
      case rel=>exact⟨_,d1_,j+1,rfl,rfl,by go_num,c2,HP5,dA,bV⟩
      case measure=>simp[intOf];omega
     ·have d1:decide ((j:Int)<(ks.length:Int))=false:=dF (by omega)
      have dG:decide (j<ks.length)=false:=dF c2;have HPF:=I (show p=b2++dY ks by rw[HP.J,List.take_of_length_le (by omega)]);have hpl:p.length+(2+n.length+1)≤8000000:=by rw[HPF.J,List.length_append,←NU.J];omega
      obtain⟨f1,hf1⟩:∃q,q=p++[60,47]:=⟨_,rfl⟩;have lf1:f1.length=p.length+([60,47]:List UInt8).length:=by rw[hf1,List.length_append]
      simp only[List.length_cons,List.length_nil]at lf1;have af1:∀W:World,(Op.stringOp .add ⟨p.toArray⟩ ⟨#[60,47]⟩).run Tryz.prog W=.ok (.string ⟨f1.toArray⟩) W:=fun W=>kJ W hf1 (by omega) (by simp only[List.length_cons,List.length_nil];omega)
      obtain⟨f2,hf2⟩:∃q,q=f1++n:=⟨_,rfl⟩;have lf2:f2.length=f1.length+(n:List UInt8).length:=by rw[hf2,List.length_append]
      have af2:∀W:World,(Op.stringOp .add ⟨f1.toArray⟩ ⟨n.toArray⟩).run Tryz.prog W=.ok (.string ⟨f2.toArray⟩) W:=fun W=>kJ W hf2 (by omega) (by omega)
      obtain⟨f3,hf3⟩:∃q,q=f2++[62]:=⟨_,rfl⟩;have lf3:f3.length=f2.length+([62]:List UInt8).length:=by rw[hf3,List.length_append]
      simp only[List.length_cons,List.length_nil]at lf3;have af3:∀W:World,(Op.stringOp .add ⟨f2.toArray⟩ ⟨#[62]⟩).run Tryz.prog W=.ok (.string ⟨f3.toArray⟩) W:=fun W=>kJ W hf3 (by omega) (by simp only[List.length_cons,List.length_nil];omega)
      have Hf1:=I hf1;clear hf1;have Hf2:=I hf2;clear hf2;have Hf3:=I hf3;clear hf3;have aG:=I (show f3=RES by rw[Hf3.J,Hf2.J,Hf1.J,HPF.J,HWR.J,HP3.J];simp);clear lf1 lf2 lf3;go_wp2
      go_ret;exact⟨by rw[aG.J];rfl,HF.J⟩
theorem JK(e:E):FT e:=U.E.ind (p:=FT) Qu e
end
end Go.Proofs.YtnbeemkfmlfgfaaGreatDoor
