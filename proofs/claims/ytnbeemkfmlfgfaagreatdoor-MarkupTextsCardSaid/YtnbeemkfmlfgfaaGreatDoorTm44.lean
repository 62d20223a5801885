/- Part 44 of 48 of a proof. No condition. -/
import Derived.Test.YtnbeemkfmlfgfaaGreatDoorTm43
set_option maxRecDepth 100000
set_option maxHeartbeats 2000000
namespace Go.Proofs.YtnbeemkfmlfgfaaGreatDoor
section
open Go.RowKit
open Tr (Nd)
open U (E dH cz az)
attribute [local go_sem] jg stillUpon
def X7(w w':World)(es:List E)(v:Value):Prop:=ag w w'∧aZ (fun k=>k<w.heap.size) w' fun W=>dL W es v
def RL(n:Nd):Prop:=∀(sl:Value) (w:World),Tr.count n≤100000→gB w n.kids sl→Calls Tryz.prog 65 #[nv n sl] w fun e w'=>∃v,e=.returned v∧iF w w' (dH n) v
def pY(ks:List Nd):Prop:=∀(sl:Value) (w:World),Tr.aj ks≤100000→gB w ks sl→Calls Tryz.prog 39 #[sl] w fun e w'=>∃v,e=.returned v∧X7 w w' (cz ks) v
def acS(ks:List Nd):Prop:=∀(nm:List UInt8) (sl:Value) (w:World),nm.length≤maxLen→Tr.aj ks≤100000→gB w ks sl→Calls Tryz.prog 119 #[.string ⟨nm.toArray⟩,sl] w fun e w'=>∃v,e=.returned v∧X7 w w' (ay nm ks) v
theorem LZ(ks:List Nd)(ih:∀x∈ks,RL x):pY ks:=by
 intro sl w hcl hsl;obtain⟨A,cap,rfl⟩:=hsl.slice;have hkl:=Tr.gL ks;have jW:=I hsl;have jw:=I ih;have I4:=I (show dO w.heap.size w ((cz ks).take 0) (.slice none 0 0) by rw[List.take_zero];exact dO.nil (Nat.le_refl _));clear hsl ih;go_enter Tryz.func39,Tryz.ntmps39;go_wp2
 go_loopw [3,4] (fun x i wr=>∃(j:Nat) (Ao:Option Addr) (co:Nat),i=.int .i64 j∧x=.slice Ao j co∧j≤ks.length∧Hd (dO w.heap.size wr ((cz ks).take j) (.slice Ao j co))∧Hd (ag w wr)) (fun _ i _=>ks.length-(intOf i).toNat)
 case atStart=>exact⟨0,none,0,rfl,rfl,Nat.zero_le _,I4,M _ _⟩
 case round=>
  obtain⟨j,Ao,co,rfl,rfl,hj,HG,HF⟩:=hrel;rename_i wr _
  by_cases c1:j<ks.length
  ·have d1:decide ((j:Int)<(ks.length:Int))=true:=dT (by omega)
   have dG:decide (j<ks.length)=true:=dT c1;have d1':(j:Int)<(ks.length:Int):=by omega
   obtain⟨g,o,sx,hA,hg,m0,m1,m2,m3,hrx⟩:=jW.J.get j c1;cases hA;obtain⟨Ax,cx,rfl⟩:=hrx.slice;have e0:=HF.J.cell m0 (fun h=>h);have e1:=HF.J.cell m1 (fun h=>h);have e2:=HF.J.cell m2 (fun h=>h);have e3:=HF.J.cell m3 (fun h=>h);have hgl:g<wr.heap.size:=Nat.lt_of_lt_of_le hg HF.J.size;have Jf:=I (hrx.fresh HF.J);have jZ:=I (List.getElem_mem c1);have mK:=I (show((cz ks).take j).length=j by rw[List.length_take,FI];omega);have HOW:=I HG.J.jE;have HB:=I HG.J.base;have BM:=I (show Tr.count ks[j]≤100000 by have:=Tr.dm jZ.J;omega);clear m0 m1 m2 m3 hg hrx;go_wp2_with fail
   refine(jw.J ks[j] jZ.J _ _ BM.J Jf.J).mono ?_;rintro _ w6 ⟨v6,rfl,va,vk,rfl,bu,aQ⟩;obtain⟨Aa,ca,rfl⟩:=aQ.now.1.slice;obtain⟨Ak,ck,rfl⟩:=aQ.now.2.1.slice;have bT:=I bu;have fM:=I aQ;clear bu aQ;have dX:=I (show O (w6.alloc (.cells #[.string ⟨(dH ks[j]).name.toArray⟩,.slice Aa (dH ks[j]).attrs.length ca,.slice Ak (dH ks[j]).kids.length ck,.string ⟨(dH ks[j]).text.toArray⟩] 45)) w6.heap.size 45 #[.string ⟨(dH ks[j]).name.toArray⟩,.slice Aa (dH ks[j]).attrs.length ca,.slice Ak (dH ks[j]).kids.length ck,.string ⟨(dH ks[j]).text.toArray⟩]from O.new w6 45 _);have eZ:=I (bT.J.alloc (.cells #[.string ⟨(dH ks[j]).name.toArray⟩,.slice Aa (dH ks[j]).attrs.length ca,.slice Ak (dH ks[j]).kids.length ck,.string ⟨(dH ks[j]).text.toArray⟩] 45));have jR:=I (fM.J.fresh ((M _ w6).alloc (.cells #[.string ⟨(dH ks[j]).name.toArray⟩,.slice Aa (dH ks[j]).attrs.length ca,.slice Ak (dH ks[j]).kids.length ck,.string ⟨(dH ks[j]).text.toArray⟩] 45)))
   go_wp2_with (at_builtin;go_loud (refine mY rfl (.tmp 11) (.tmp 17) rfl (HG.J.fresh eZ.J) mK.J (by simp[Act.eval]) (dH ks[j]) dX.J (by simp[Act.eval]) wr.heap.size HB.J (fun k hk=>(HOW.J k hk).2) jR.J (by omega) ?_);intro A8 c8 w8 gJ bW _;refine iC.mk ?_)
   have nT:=I gJ;have eP:=I (show ag w w8 from(HF.J.trans eZ.J).trans' bW fun k hk=>.inr (HOW.J _ hk).1);clear gJ bW;refine iC.go ?_;go_wp2_with fail
   have fO:=nT.J;rw[Ou ks j c1]at fO;exact⟨⟨j+1,A8,c8,by simp,rfl,by omega,fO,eP⟩,by simp[intOf];omega⟩
  ·have d1:decide ((j:Int)<(ks.length:Int))=false:=dF (by omega)
   have dG:decide (j<ks.length)=false:=dF c1;obtain rfl:j=ks.length:=by omega
   have fO:=HG.J;rw[List.take_of_length_le (by rw[FI];exact Nat.le_refl _)]at fO;have iE:=I fO;clear fO;go_wp2
   go_ret;exact⟨_,rfl,HF.J,iE.J.done⟩
theorem om(ks:List Nd)(ih:∀x∈ks,pY x.kids):acS ks:=by
 intro nm sl w hnm hcl hsl;obtain⟨A,cap,rfl⟩:=hsl.slice;have hkl:=Tr.gL ks;have jW:=I hsl;have jw:=I ih;have I4:=I (show dO w.heap.size w ((ay nm ks).take 0) (.slice none 0 0) by rw[List.take_zero];exact dO.nil (Nat.le_refl _));clear hsl ih;go_enter Tryz.func119,Tryz.ntmps119;go_wp2
 go_loopw [5,6] (fun x i wr=>∃(j:Nat) (Ao:Option Addr) (co:Nat),i=.int .i64 j∧x=.slice Ao j co∧j≤ks.length∧Hd (dO w.heap.size wr ((ay nm ks).take j) (.slice Ao j co))∧Hd (ag w wr)) (fun _ i _=>ks.length-(intOf i).toNat)
 case atStart=>exact⟨0,none,0,rfl,rfl,Nat.zero_le _,I4,M _ _⟩
 case round=>
  obtain⟨j,Ao,co,rfl,rfl,hj,HG,HF⟩:=hrel;rename_i wr _
  by_cases c1:j<ks.length
  ·have d1:decide ((j:Int)<(ks.length:Int))=true:=dT (by omega)
   have dG:decide (j<ks.length)=true:=dT c1;have d1':(j:Int)<(ks.length:Int):=by omega
   obtain⟨g,o,sx,hA,hg,m0,m1,m2,m3,hrx⟩:=jW.J.get j c1;cases hA;obtain⟨Ax,cx,rfl⟩:=hrx.slice;have e0:=HF.J.cell m0 (fun h=>h);have e1:=HF.J.cell m1 (fun h=>h);have e2:=HF.J.cell m2 (fun h=>h);have e3:=HF.J.cell m3 (fun h=>h);have hgl:g<wr.heap.size:=Nat.lt_of_lt_of_le hg HF.J.size;have Jf:=I (hrx.fresh HF.J);have jZ:=I (List.getElem_mem c1);have mK:=I (show((ay nm ks).take j).length=j by rw[List.length_take,oG];omega);have HOW:=I HG.J.jE;have HB:=I HG.J.base;have BM:=I (show Tr.count ks[j]≤100000 by have:=Tr.dm jZ.J;omega);clear m0 m1 m2 m3 hg hrx;go_wp2_with fail
   refine(jw.J ks[j] jZ.J _ _ (by have:=BM.J;have:=Tr.aI ks[j];omega) Jf.J).mono ?_;rintro _ w6 ⟨vk,rfl,bu,aQ⟩;obtain⟨Ak,ck,rfl⟩:=aQ.now.slice;have bT:=I bu;have fM:=I (show aZ (fun k=>k<wr.heap.size) w6 fun W=>bN W (az nm (cz ks[j].kids)) (.slice none 0 0) (.slice Ak (cz ks[j].kids).length ck)from aQ.imp fun W h=>⟨dW.nil _ _ _,h,hnm,Nat.zero_le _⟩);clear bu aQ;have dX:=I (show O (w6.alloc (.cells #[.string ⟨nm.toArray⟩,.slice none 0 0,.slice Ak (cz ks[j].kids).length ck,.string ⟨#[]⟩] 45)) w6.heap.size 45 #[.string ⟨(az nm (cz ks[j].kids)).name.toArray⟩,.slice none 0 0,.slice Ak (cz ks[j].kids).length ck,.string ⟨(az nm (cz ks[j].kids)).text.toArray⟩]from O.new w6 45 _);have eZ:=I (bT.J.alloc (.cells #[.string ⟨nm.toArray⟩,.slice none 0 0,.slice Ak (cz ks[j].kids).length ck,.string ⟨#[]⟩] 45));have jR:=I (fM.J.fresh ((M _ w6).alloc (.cells #[.string ⟨nm.toArray⟩,.slice none 0 0,.slice Ak (cz ks[j].kids).length ck,.string ⟨#[]⟩] 45)))
   go_wp2_with (at_builtin;go_loud (refine mY rfl (.tmp 13) (.tmp 22) rfl (HG.J.fresh eZ.J) mK.J (by simp[Act.eval]) (az nm (cz ks[j].kids)) dX.J (by simp[Act.eval]) wr.heap.size HB.J (fun k hk=>(HOW.J k hk).2) jR.J (by omega) ?_);intro A8 c8 w8 gJ bW _;refine iC.mk ?_)
   have nT:=I gJ;have eP:=I (show ag w w8 from(HF.J.trans eZ.J).trans' bW fun k hk=>.inr (HOW.J _ hk).1);clear gJ bW;refine iC.go ?_;go_wp2_with fail
   have fO:=nT.J;rw[Je nm ks j c1]at fO;exact⟨⟨j+1,A8,c8,by simp,rfl,by omega,fO,eP⟩,by simp[intOf];omega⟩
  ·have d1:decide ((j:Int)<(ks.length:Int))=false:=dF (by omega)
   have dG:decide (j<ks.length)=false:=dF c1;obtain rfl:j=ks.length:=by omega
   have fO:=HG.J;rw[List.take_of_length_le (by rw[oG];exact Nat.le_refl _)]at fO;have iE:=I fO;clear fO;go_wp2
   go_ret;exact⟨_,rfl,HF.J,iE.J.done⟩
end
end Go.Proofs.YtnbeemkfmlfgfaaGreatDoor
