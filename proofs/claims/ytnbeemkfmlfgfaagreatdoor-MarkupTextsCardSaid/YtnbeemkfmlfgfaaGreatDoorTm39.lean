/- Part 39 of 48 of a proof. No condition. -/
import Derived.Test.YtnbeemkfmlfgfaaGreatDoorTm38
set_option maxRecDepth 100000
set_option maxHeartbeats 2000000
namespace Go.Proofs.YtnbeemkfmlfgfaaGreatDoor
section
open Go.RowKit
open Tr (Nd)
open U (E aA aW nG dN)
theorem aax(n:Nd)(A:Option Addr)(cap:Nat)(w:World)(hr:aO w [n] (.slice A 1 cap))(hc:Tr.count n≤100000):
  Calls Tryz.prog 219 #[.slice A 1 cap] w fun e w'=>e=.returned (.bool (Tr.valid (.mk 1 [] 0 [n])))∧ag w w':=by
 have HR:=I hr;have HC:=I (show Tr.count (.mk 1 [] 0 [n])≤1000000 by rw[Tr.count,Tr.aj,Tr.aj];omega);clear hr hc;go_enter Tryz.func219,Tryz.ntmps219;go_wp2_with fail
 have htr:Calls Tryz.prog 231 #[.slice A 1 cap] w fun e w'=>e=.returned (.agg #[.int .i64 1,.string ⟨#[]⟩,.int .i64 0,.slice A 1 cap])∧ag w w':=by
  go_enter Tryz.func231,Tryz.ntmps231;go_wp2_with fail
  exact bodyPost_ret (v:=.agg #[.int .i64 1,.string ⟨#[]⟩,.int .i64 0,.slice A 1 cap]) (by simp[results,Tryz.results231,go_sem]) rfl ⟨rfl,(M _ _).alloc _⟩
 refine htr.mono ?_;rintro _ w1 ⟨rfl,hf1⟩;have aF:=I hf1;clear hf1 htr;go_wp2_with fail
 refine(yM (.mk 1 [] 0 [n]) _ _ (HR.J.fresh aF.J) (Nat.zero_le _) HC.J).mono ?_;rintro _ w2 ⟨rfl,hf2⟩;have aY:=I (aF.J.trans hf2);clear hf2;go_wp2
 go_ret;exact⟨rfl,aY.J⟩
theorem XJ(n:Nd)(sl:Value)(w:World)(hr:aO w n.kids sl)(ht:n.text.length≤maxLen)(hc:Tr.count n≤100000):
  Calls Tryz.prog 203 #[nv n sl] w fun e w'=>e=.returned (.bool (Tr.valid (.mk 1 [] 0 [n])))∧ag w w':=by
 have HR:=I hr;have HC:=I hc;have HT:=I ht;clear hr hc ht;obtain⟨k,t,c,ks⟩:=n;unfold nv;simp only[Nd.kind,Nd.text,Nd.ai,Nd.kids]at*;go_enter Tryz.func203,Tryz.ntmps203;go_wp2_with fail
 have hb:=O.new2 w (.cells #[.int .i64 k,.string ⟨t.toArray⟩,.int .i64 c,sl] 31) 31 #[.int .i64 k,.string ⟨t.toArray⟩,.int .i64 c,sl];have hf:=((M (fun _=>False) w).alloc (.cells #[.int .i64 k,.string ⟨t.toArray⟩,.int .i64 c,sl] 31)).alloc (.cells #[.int .i64 k,.string ⟨t.toArray⟩,.int .i64 c,sl] 31);have HK:=I (aO.Od hb HT.J (HR.J.fresh hf));have HF:=I hf;clear hb hf;refine(aax _ _ _ _ HK.J HC.J).mono ?_;rintro _ w2 ⟨rfl,hf2⟩;have aY:=I (HF.J.trans hf2);clear hf2;go_wp2
 go_ret;exact⟨rfl,aY.J⟩
theorem RD(k:Int)(t:List UInt8)(w:World)(ht:t.length≤maxLen):Calls Tryz.prog 203 #[.agg #[.int .i64 k,.string ⟨t.toArray⟩,.int .i64 0,.slice none 0 0]] w fun e w'=>e=.returned (.bool (Tr.valid (.mk 1 [] 0 [.mk k t 0 []])))∧ag w w':=
 XJ (.mk k t 0 []) (.slice none 0 0) w (.nil _ _) ht (by show Tr.count (.mk k t 0 [])≤100000;rw[Tr.count,Tr.aj];omega)
theorem ad6(k:Int)(t:List UInt8)(g:Nat)(w:World)(ht:t.length≤maxLen)(hb:O w g 31 #[.int .i64 1,.string ⟨#[]⟩,.int .i64 0,.slice none 0 0]):
  Calls Tryz.prog 203 #[.agg #[.int .i64 k,.string ⟨t.toArray⟩,.int .i64 0,.slice (some ⟨g,0,none⟩) 1 1]] w fun e w'=>e=.returned (.bool (Tr.valid (.mk 1 [] 0 [.mk k t 0 [dN]])))∧ag w w':=
 XJ (.mk k t 0 [dN]) (.slice (some ⟨g,0,none⟩) 1 1) w (aO.Od hb (Nat.zero_le _) (.nil _ _)) ht (by show Tr.count (.mk k t 0 [.mk 1 [] 0 []])≤100000;rw[Tr.count,Tr.aj,Tr.aj,Tr.count,Tr.aj];omega)
theorem tC(t:List UInt8)(w:World)(h:t.length≤maxLen):Calls Tryz.prog 112 #[.string ⟨t.toArray⟩] w fun e w'=>e=.returned (.bool (Tr.symbol t))∧ag w w':=F6 ⟨t.toArray⟩ w (by unfold maxLen at h;exact h)
theorem Mm(t:List UInt8)(w:World):Calls Tryz.prog 118 #[.string ⟨t.toArray⟩] w fun e w'=>e=.returned (.bool (U.uP t))∧w'=w:=zx ⟨t.toArray⟩ w
theorem um(t:List UInt8)(w:World):Calls Tryz.prog 118 #[.string ⟨t.toArray⟩] w fun e w'=>e=.returned (.bool (U.uP t))∧ag w w':=(Mm t w).mono fun _ _ h=>⟨h.1,by rw[h.2];exact M _ _⟩
theorem aay(t:List UInt8)(g:Nat)(w:World)(h:O w g 9 (sF Tr.fJ)):Calls Tryz.prog 115 #[.slice (some ⟨g,0,none⟩) 6 6,.string ⟨t.toArray⟩] w fun e w'=>e=.returned (.bool (Tr.fJ.contains t))∧w'=w:=Iz Tr.fJ ⟨t.toArray⟩ g w h (by decide)
theorem Ia(n:List UInt8)(a:aA)(ks:List E)(t nm av:List UInt8)(hb:Bool)(h1:aW a nm=av)(h2:nG a nm=hb)(va vk:Value)(w:World)(hr:bN w (.mk n a ks t) va vk):
  Calls Tryz.prog 204 #[.agg #[.string ⟨n.toArray⟩,va,vk,.string ⟨t.toArray⟩],.string ⟨nm.toArray⟩] w fun x w'=>x=.returned (.tuple #[.string ⟨av.toArray⟩,.bool hb])∧ag w w':=by
 subst h1;subst h2;exact XI (.mk n a ks t) nm va vk w hr
theorem XK(n:List UInt8)(a:aA)(ks:List E)(t:List UInt8)(A:Option Addr)(ca:Nat)(vk:Value)(w:World)(hr:bN w (.mk n a ks t) (.slice A a.length ca) vk):Calls Tryz.prog 176 #[.agg #[.string ⟨n.toArray⟩,.slice A a.length ca,vk,.string ⟨t.toArray⟩],.int .i64 2] w fun x w'=>x=.returned (.tuple #[.string ⟨(t:List UInt8).toArray⟩,.bool (((a.length:Int)==(0:Int))&&Tr.symbol t&&(U.uP t==(n==([109,105]:List UInt8))))])∧ag w w':=by
 have htl:t.length≤maxLen:=hr.2.2.2;have hl1:a.length≤maxLen:=by obtain⟨_,_,_,h,_⟩:=hr.1;exact h.1
 have gX:=I htl;unfold maxLen at hl1 htl;have HE:=I hr;clear hr;go_enter Tryz.func176,Tryz.ntmps176;cases h1:((a.length:Int)==(0:Int))with
 |false=>
  have xS:((a.length:Int) !=(0:Int))=true:=by rw[bne,h1];rfl
  go_wp2_with fail
  refine wp_region_quiet_lit (by kernel_rfl) (by kernel_rfl) ?_
  repeat(with_reducible refine wpQuiet_step (fun K hK=>?_);go_simp;first|(refine hK _ ?_;clear hK K)|(apply Exists.intro;refine⟨fun _=>?_,hK _ ?_⟩;(fail);clear hK K))
  refine wpQuiet_nil ?_;rintro _ ⟨nq,rfl⟩;go_wp2
  refine bodyPost_ret (results_tmp2 rfl _ _ _) rfl ?_;exact⟨congrArg Ending.returned (show Value.tuple #[_,_]=Value.tuple #[_,_] by first|rfl|(congr 2<;>first|rfl|(simp only[*]<;>rfl))),bf⟩
 |true=>
  have xS:((a.length:Int) !=(0:Int))=false:=by rw[bne,h1];rfl
  cases h2:(Tr.symbol t)with
  |false=>
   go_wp2_with fail
   refine aV (fun W=>ag w W∧O W (w.heap.size) 45 #[.string (⟨n.toArray⟩:ByteArray),.slice A a.length ca,vk,.string (⟨t.toArray⟩:ByteArray)]) ⟨bf,(by first|exact O.new _ _ _|exact(O.new _ _ _).alloc _|exact O.new2 _ _ _ _|exact((O.new _ _ _).alloc _).alloc _|exact(O.new2 _ _ _ _).alloc _|exact O.p8 _ _ _ _ _|assumption|exact O.alloc (by assumption) _|exact(O.alloc (O.alloc (by assumption) _) _))⟩ ?_;rintro w1 ⟨nO,E9⟩;have aF:=I nO;clear nO;have acB:=cell_regrown (show World.cell? w1 ⟨w.heap.size,0,none⟩=some (.string (⟨n.toArray⟩:ByteArray))from O.cell E9 0);have acC:=cell_regrown (show World.cell? w1 ⟨w.heap.size,1,none⟩=some (.slice A a.length ca)from O.cell E9 1);have acD:=cell_regrown (show World.cell? w1 ⟨w.heap.size,2,none⟩=some (vk)from O.cell E9 2);have acE:=cell_regrown (show World.cell? w1 ⟨w.heap.size,3,none⟩=some (.string (⟨t.toArray⟩:ByteArray))from O.cell E9 3);have Si:=I (iN (P:=Tryz.prog) w1 (fun w hw=>tC t _ gX.J));refine wp_region_quiet_below (by kernel_rfl) (by kernel_rfl) ?_
   repeat(with_reducible refine wpQuiet_step (fun K hK=>?_);go_simp;first|(refine hK _ ?_;clear hK K)|(apply Exists.intro;refine⟨fun _=>?_,hK _ ?_⟩;(first|with_reducible exact Si.J _ _);clear hK K))
   refine wpQuiet_nil ?_;rintro w2 ⟨⟨_,_⟩,M9⟩;have hfw2:ag w1 w2:=by rw[M9];exact bE (below_regrown _ _ _)
   clear M9 acB acC acD acE;have aY:=I (show ag w1 w2 from by first|exact hfw2|exact Touch.pre hfw2|exact Touch.pre (Touch.pre hfw2)|exact Touch.pI hfw2|exact Touch.mH hfw2|exact Touch.pre (Touch.pre (Touch.pre hfw2)));have xK:O w2 (w.heap.size) 45 #[.string (⟨n.toArray⟩:ByteArray),.slice A a.length ca,vk,.string (⟨t.toArray⟩:ByteArray)]:=Touch.blk hfw2 (by first|exact O.new _ _ _|exact(O.new _ _ _).alloc _|exact O.new2 _ _ _ _|exact((O.new _ _ _).alloc _).alloc _|exact(O.new2 _ _ _ _).alloc _|exact O.p8 _ _ _ _ _|assumption|exact O.alloc (by assumption) _|exact(O.alloc (O.alloc (by assumption) _) _)) (fun h=>h);clear E9;have JS:World.cell? w2 ⟨w.heap.size,0,none⟩=some (.string (⟨n.toArray⟩:ByteArray)):=O.cell xK 0;have JU:World.cell? w2 ⟨w.heap.size,1,none⟩=some (.slice A a.length ca):=O.cell xK 1;have JV:World.cell? w2 ⟨w.heap.size,2,none⟩=some (vk):=O.cell xK 2;have JW:World.cell? w2 ⟨w.heap.size,3,none⟩=some (.string (⟨t.toArray⟩:ByteArray)):=O.cell xK 3;clear hfw2;go_wp2
   refine bodyPost_ret (results_tmp2 rfl _ _ _) rfl ?_;exact⟨congrArg Ending.returned (show Value.tuple #[_,_]=Value.tuple #[_,_] by first|rfl|(congr 2<;>first|rfl|(simp only[*]<;>rfl))),(by first|exact(aF.J.trans aY.J)|exact(aF.J.trans aY.J).alloc _|exact((aF.J.trans aY.J).alloc _).alloc _|exact(((aF.J.trans aY.J).alloc _).alloc _).alloc _|exact(aF.J.trans aY.J).drewN _|exact((aF.J.trans aY.J).alloc _).drewN _|exact(((aF.J.trans aY.J).alloc _).alloc _).drewN _)⟩
  |true=>
   cases h3:(U.uP t)with
   |false=>
    cases h4:(n==([109,105]:List UInt8))with
    |false=>
     have zq:((⟨n.toArray⟩:ByteArray)==(⟨#[109,105]⟩:ByteArray))=false:=by rw[aC];exact h4
     have Nl:((⟨n.toArray⟩:ByteArray) !=(⟨#[109,105]⟩:ByteArray))=true:=by rw[bne,zq];rfl
     have VK:(ByteArray.toList (⟨n.toArray⟩:ByteArray)==[109,105])=false:=by rw[ByteArray.toList_eq];exact h4
     go_wp2_with fail
     refine aV (fun W=>ag w W∧O W (w.heap.size) 45 #[.string (⟨n.toArray⟩:ByteArray),.slice A a.length ca,vk,.string (⟨t.toArray⟩:ByteArray)]) ⟨bf,(by first|exact O.new _ _ _|exact(O.new _ _ _).alloc _|exact O.new2 _ _ _ _|exact((O.new _ _ _).alloc _).alloc _|exact(O.new2 _ _ _ _).alloc _|exact O.p8 _ _ _ _ _|assumption|exact O.alloc (by assumption) _|exact(O.alloc (O.alloc (by assumption) _) _))⟩ ?_;rintro w3 ⟨hfw3,rJ⟩;have bC:=I hfw3;clear hfw3;have JX:=cell_regrown (show World.cell? w3 ⟨w.heap.size,0,none⟩=some (.string (⟨n.toArray⟩:ByteArray))from O.cell rJ 0);have JY:=cell_regrown (show World.cell? w3 ⟨w.heap.size,1,none⟩=some (.slice A a.length ca)from O.cell rJ 1);have JZ:=cell_regrown (show World.cell? w3 ⟨w.heap.size,2,none⟩=some (vk)from O.cell rJ 2);have J2:=cell_regrown (show World.cell? w3 ⟨w.heap.size,3,none⟩=some (.string (⟨t.toArray⟩:ByteArray))from O.cell rJ 3);have Su:=I (iN (P:=Tryz.prog) w3 (fun w hw=>tC t _ gX.J));have aeG:=I (iN (P:=Tryz.prog) w3 (fun w hw=>um t _));refine wp_region_quiet_below (by kernel_rfl) (by kernel_rfl) ?_
     repeat(with_reducible refine wpQuiet_step (fun K hK=>?_);go_simp;first|(refine hK _ ?_;clear hK K)|(apply Exists.intro;refine⟨fun _=>?_,hK _ ?_⟩;(first|with_reducible exact Su.J _ _|with_reducible exact aeG.J _ _);clear hK K))
     refine wpQuiet_nil ?_;rintro w4 ⟨⟨_,_⟩,Nz⟩;have p9:ag w3 w4:=by rw[Nz];exact bE (below_regrown _ _ _)
     clear Nz JX JY JZ J2;have dw:=I (show ag w3 w4 from by first|exact p9|exact Touch.pre p9|exact Touch.pre (Touch.pre p9)|exact Touch.pI p9|exact Touch.mH p9|exact Touch.pre (Touch.pre (Touch.pre p9)));have Ch:O w4 (w.heap.size) 45 #[.string (⟨n.toArray⟩:ByteArray),.slice A a.length ca,vk,.string (⟨t.toArray⟩:ByteArray)]:=Touch.blk p9 (by first|exact O.new _ _ _|exact(O.new _ _ _).alloc _|exact O.new2 _ _ _ _|exact((O.new _ _ _).alloc _).alloc _|exact(O.new2 _ _ _ _).alloc _|exact O.p8 _ _ _ _ _|assumption|exact O.alloc (by assumption) _|exact(O.alloc (O.alloc (by assumption) _) _)) (fun h=>h);clear rJ;have abN:World.cell? w4 ⟨w.heap.size,0,none⟩=some (.string (⟨n.toArray⟩:ByteArray)):=O.cell Ch 0;have abO:World.cell? w4 ⟨w.heap.size,1,none⟩=some (.slice A a.length ca):=O.cell Ch 1;have abP:World.cell? w4 ⟨w.heap.size,2,none⟩=some (vk):=O.cell Ch 2;have abQ:World.cell? w4 ⟨w.heap.size,3,none⟩=some (.string (⟨t.toArray⟩:ByteArray)):=O.cell Ch 3;clear p9;go_wp2
     refine bodyPost_ret (results_tmp2 rfl _ _ _) rfl ?_;exact⟨congrArg Ending.returned (show Value.tuple #[_,_]=Value.tuple #[_,_] by first|rfl|(congr 2<;>first|rfl|(simp only[*]<;>rfl))),(by first|exact(bC.J.trans dw.J)|exact(bC.J.trans dw.J).alloc _|exact((bC.J.trans dw.J).alloc _).alloc _|exact(((bC.J.trans dw.J).alloc _).alloc _).alloc _|exact(bC.J.trans dw.J).drewN _|exact((bC.J.trans dw.J).alloc _).drewN _|exact(((bC.J.trans dw.J).alloc _).alloc _).drewN _)⟩
    |true=>
     have zq:((⟨n.toArray⟩:ByteArray)==(⟨#[109,105]⟩:ByteArray))=true:=by rw[aC];exact h4
     have Nl:((⟨n.toArray⟩:ByteArray) !=(⟨#[109,105]⟩:ByteArray))=false:=by rw[bne,zq];rfl
     have VK:(ByteArray.toList (⟨n.toArray⟩:ByteArray)==[109,105])=true:=by rw[ByteArray.toList_eq];exact h4
     go_wp2_with fail
     refine aV (fun W=>ag w W∧O W (w.heap.size) 45 #[.string (⟨n.toArray⟩:ByteArray),.slice A a.length ca,vk,.string (⟨t.toArray⟩:ByteArray)]) ⟨bf,(by first|exact O.new _ _ _|exact(O.new _ _ _).alloc _|exact O.new2 _ _ _ _|exact((O.new _ _ _).alloc _).alloc _|exact(O.new2 _ _ _ _).alloc _|exact O.p8 _ _ _ _ _|assumption|exact O.alloc (by assumption) _|exact(O.alloc (O.alloc (by assumption) _) _))⟩ ?_;rintro w5 ⟨uA,rM⟩;have dA:=I uA;clear uA;have J3:=cell_regrown (show World.cell? w5 ⟨w.heap.size,0,none⟩=some (.string (⟨n.toArray⟩:ByteArray))from O.cell rM 0);have J4:=cell_regrown (show World.cell? w5 ⟨w.heap.size,1,none⟩=some (.slice A a.length ca)from O.cell rM 1);have J5:=cell_regrown (show World.cell? w5 ⟨w.heap.size,2,none⟩=some (vk)from O.cell rM 2);have J6:=cell_regrown (show World.cell? w5 ⟨w.heap.size,3,none⟩=some (.string (⟨t.toArray⟩:ByteArray))from O.cell rM 3);have Sv:=I (iN (P:=Tryz.prog) w5 (fun w hw=>tC t _ gX.J));have aeH:=I (iN (P:=Tryz.prog) w5 (fun w hw=>um t _));refine wp_region_quiet_below (by kernel_rfl) (by kernel_rfl) ?_
     repeat(with_reducible refine wpQuiet_step (fun K hK=>?_);go_simp;first|(refine hK _ ?_;clear hK K)|(apply Exists.intro;refine⟨fun _=>?_,hK _ ?_⟩;(first|with_reducible exact Sv.J _ _|with_reducible exact aeH.J _ _);clear hK K))
     refine wpQuiet_nil ?_;rintro w6 ⟨⟨_,_⟩,NF⟩;have qB:ag w5 w6:=by rw[NF];exact bE (below_regrown _ _ _)
     clear NF J3 J4 J5 J6;have bT:=I (show ag w5 w6 from by first|exact qB|exact Touch.pre qB|exact Touch.pre (Touch.pre qB)|exact Touch.pI qB|exact Touch.mH qB|exact Touch.pre (Touch.pre (Touch.pre qB)));have Ci:O w6 (w.heap.size) 45 #[.string (⟨n.toArray⟩:ByteArray),.slice A a.length ca,vk,.string (⟨t.toArray⟩:ByteArray)]:=Touch.blk qB (by first|exact O.new _ _ _|exact(O.new _ _ _).alloc _|exact O.new2 _ _ _ _|exact((O.new _ _ _).alloc _).alloc _|exact(O.new2 _ _ _ _).alloc _|exact O.p8 _ _ _ _ _|assumption|exact O.alloc (by assumption) _|exact(O.alloc (O.alloc (by assumption) _) _)) (fun h=>h);clear rM;have abV:World.cell? w6 ⟨w.heap.size,0,none⟩=some (.string (⟨n.toArray⟩:ByteArray)):=O.cell Ci 0;have abW:World.cell? w6 ⟨w.heap.size,1,none⟩=some (.slice A a.length ca):=O.cell Ci 1;have abX:World.cell? w6 ⟨w.heap.size,2,none⟩=some (vk):=O.cell Ci 2;have abY:World.cell? w6 ⟨w.heap.size,3,none⟩=some (.string (⟨t.toArray⟩:ByteArray)):=O.cell Ci 3;clear qB;go_wp2
     refine bodyPost_ret (results_tmp2 rfl _ _ _) rfl ?_;exact⟨congrArg Ending.returned (show Value.tuple #[_,_]=Value.tuple #[_,_] by first|rfl|(congr 2<;>first|rfl|(simp only[*]<;>rfl))),(by first|exact(dA.J.trans bT.J)|exact(dA.J.trans bT.J).alloc _|exact((dA.J.trans bT.J).alloc _).alloc _|exact(((dA.J.trans bT.J).alloc _).alloc _).alloc _|exact(dA.J.trans bT.J).drewN _|exact((dA.J.trans bT.J).alloc _).drewN _|exact(((dA.J.trans bT.J).alloc _).alloc _).drewN _)⟩
   |true=>
    cases h5:(n==([109,105]:List UInt8))with
    |false=>
     have DZ:((⟨n.toArray⟩:ByteArray)==(⟨#[109,105]⟩:ByteArray))=false:=by rw[aC];exact h5
     have UM:((⟨n.toArray⟩:ByteArray) !=(⟨#[109,105]⟩:ByteArray))=true:=by rw[bne,DZ];rfl
     have h5l:(ByteArray.toList (⟨n.toArray⟩:ByteArray)==[109,105])=false:=by rw[ByteArray.toList_eq];exact h5
     go_wp2_with fail
     refine aV (fun W=>ag w W∧O W (w.heap.size) 45 #[.string (⟨n.toArray⟩:ByteArray),.slice A a.length ca,vk,.string (⟨t.toArray⟩:ByteArray)]) ⟨bf,(by first|exact O.new _ _ _|exact(O.new _ _ _).alloc _|exact O.new2 _ _ _ _|exact((O.new _ _ _).alloc _).alloc _|exact(O.new2 _ _ _ _).alloc _|exact O.p8 _ _ _ _ _|assumption|exact O.alloc (by assumption) _|exact(O.alloc (O.alloc (by assumption) _) _))⟩ ?_;rintro w7 ⟨ad7,Fa⟩;have eZ:=I ad7;clear ad7;have acF:=cell_regrown (show World.cell? w7 ⟨w.heap.size,0,none⟩=some (.string (⟨n.toArray⟩:ByteArray))from O.cell Fa 0);have acG:=cell_regrown (show World.cell? w7 ⟨w.heap.size,1,none⟩=some (.slice A a.length ca)from O.cell Fa 1);have acH:=cell_regrown (show World.cell? w7 ⟨w.heap.size,2,none⟩=some (vk)from O.cell Fa 2);have acI:=cell_regrown (show World.cell? w7 ⟨w.heap.size,3,none⟩=some (.string (⟨t.toArray⟩:ByteArray))from O.cell Fa 3);have aeI:=I (iN (P:=Tryz.prog) w7 (fun w hw=>tC t _ gX.J));have aeJ:=I (iN (P:=Tryz.prog) w7 (fun w hw=>um t _));refine wp_region_quiet_below (by kernel_rfl) (by kernel_rfl) ?_
     repeat(with_reducible refine wpQuiet_step (fun K hK=>?_);go_simp;first|(refine hK _ ?_;clear hK K)|(apply Exists.intro;refine⟨fun _=>?_,hK _ ?_⟩;(first|with_reducible exact aeI.J _ _|with_reducible exact aeJ.J _ _);clear hK K))
     refine wpQuiet_nil ?_;rintro w8 ⟨⟨_,_⟩,ad8⟩;have vW:ag w7 w8:=by rw[ad8];exact bE (below_regrown _ _ _)
     clear ad8 acF acG acH acI;have eP:=I (show ag w7 w8 from by first|exact vW|exact Touch.pre vW|exact Touch.pre (Touch.pre vW)|exact Touch.pI vW|exact Touch.mH vW|exact Touch.pre (Touch.pre (Touch.pre vW)));have MF:O w8 (w.heap.size) 45 #[.string (⟨n.toArray⟩:ByteArray),.slice A a.length ca,vk,.string (⟨t.toArray⟩:ByteArray)]:=Touch.blk vW (by first|exact O.new _ _ _|exact(O.new _ _ _).alloc _|exact O.new2 _ _ _ _|exact((O.new _ _ _).alloc _).alloc _|exact(O.new2 _ _ _ _).alloc _|exact O.p8 _ _ _ _ _|assumption|exact O.alloc (by assumption) _|exact(O.alloc (O.alloc (by assumption) _) _)) (fun h=>h);clear Fa;have ahz:World.cell? w8 ⟨w.heap.size,0,none⟩=some (.string (⟨n.toArray⟩:ByteArray)):=O.cell MF 0;have ahA:World.cell? w8 ⟨w.heap.size,1,none⟩=some (.slice A a.length ca):=O.cell MF 1;have ahB:World.cell? w8 ⟨w.heap.size,2,none⟩=some (vk):=O.cell MF 2;have ahC:World.cell? w8 ⟨w.heap.size,3,none⟩=some (.string (⟨t.toArray⟩:ByteArray)):=O.cell MF 3;clear vW;go_wp2
     refine bodyPost_ret (results_tmp2 rfl _ _ _) rfl ?_;exact⟨congrArg Ending.returned (show Value.tuple #[_,_]=Value.tuple #[_,_] by first|rfl|(congr 2<;>first|rfl|(simp only[*]<;>rfl))),(by first|exact(eZ.J.trans eP.J)|exact(eZ.J.trans eP.J).alloc _|exact((eZ.J.trans eP.J).alloc _).alloc _|exact(((eZ.J.trans eP.J).alloc _).alloc _).alloc _|exact(eZ.J.trans eP.J).drewN _|exact((eZ.J.trans eP.J).alloc _).drewN _|exact(((eZ.J.trans eP.J).alloc _).alloc _).drewN _)⟩
    |true=>
     have DZ:((⟨n.toArray⟩:ByteArray)==(⟨#[109,105]⟩:ByteArray))=true:=by rw[aC];exact h5
     have UM:((⟨n.toArray⟩:ByteArray) !=(⟨#[109,105]⟩:ByteArray))=false:=by rw[bne,DZ];rfl
     have h5l:(ByteArray.toList (⟨n.toArray⟩:ByteArray)==[109,105])=true:=by rw[ByteArray.toList_eq];exact h5
     go_wp2_with fail
     refine aV (fun W=>ag w W∧O W (w.heap.size) 45 #[.string (⟨n.toArray⟩:ByteArray),.slice A a.length ca,vk,.string (⟨t.toArray⟩:ByteArray)]) ⟨bf,(by first|exact O.new _ _ _|exact(O.new _ _ _).alloc _|exact O.new2 _ _ _ _|exact((O.new _ _ _).alloc _).alloc _|exact(O.new2 _ _ _ _).alloc _|exact O.p8 _ _ _ _ _|assumption|exact O.alloc (by assumption) _|exact(O.alloc (O.alloc (by assumption) _) _))⟩ ?_;rintro w9 ⟨Bh,Fb⟩;have jd:=I Bh;clear Bh;have acJ:=cell_regrown (show World.cell? w9 ⟨w.heap.size,0,none⟩=some (.string (⟨n.toArray⟩:ByteArray))from O.cell Fb 0);have acK:=cell_regrown (show World.cell? w9 ⟨w.heap.size,1,none⟩=some (.slice A a.length ca)from O.cell Fb 1);have acL:=cell_regrown (show World.cell? w9 ⟨w.heap.size,2,none⟩=some (vk)from O.cell Fb 2);have acM:=cell_regrown (show World.cell? w9 ⟨w.heap.size,3,none⟩=some (.string (⟨t.toArray⟩:ByteArray))from O.cell Fb 3);have aeK:=I (iN (P:=Tryz.prog) w9 (fun w hw=>tC t _ gX.J));have aeL:=I (iN (P:=Tryz.prog) w9 (fun w hw=>um t _));refine wp_region_quiet_below (by kernel_rfl) (by kernel_rfl) ?_
     repeat(with_reducible refine wpQuiet_step (fun K hK=>?_);go_simp;first|(refine hK _ ?_;clear hK K)|(apply Exists.intro;refine⟨fun _=>?_,hK _ ?_⟩;(first|with_reducible exact aeK.J _ _|with_reducible exact aeL.J _ _);clear hK K))
     refine wpQuiet_nil ?_;rintro qm ⟨⟨_,_⟩,abx⟩;have qp:ag w9 qm:=by rw[abx];exact bE (below_regrown _ _ _)
     clear abx acJ acK acL acM;have lJ:=I (show ag w9 qm from by first|exact qp|exact Touch.pre qp|exact Touch.pre (Touch.pre qp)|exact Touch.pI qp|exact Touch.mH qp|exact Touch.pre (Touch.pre (Touch.pre qp)));have JA:O qm (w.heap.size) 45 #[.string (⟨n.toArray⟩:ByteArray),.slice A a.length ca,vk,.string (⟨t.toArray⟩:ByteArray)]:=Touch.blk qp (by first|exact O.new _ _ _|exact(O.new _ _ _).alloc _|exact O.new2 _ _ _ _|exact((O.new _ _ _).alloc _).alloc _|exact(O.new2 _ _ _ _).alloc _|exact O.p8 _ _ _ _ _|assumption|exact O.alloc (by assumption) _|exact(O.alloc (O.alloc (by assumption) _) _)) (fun h=>h);clear Fb;have agz:World.cell? qm ⟨w.heap.size,0,none⟩=some (.string (⟨n.toArray⟩:ByteArray)):=O.cell JA 0;have agA:World.cell? qm ⟨w.heap.size,1,none⟩=some (.slice A a.length ca):=O.cell JA 1;have agB:World.cell? qm ⟨w.heap.size,2,none⟩=some (vk):=O.cell JA 2;have agC:World.cell? qm ⟨w.heap.size,3,none⟩=some (.string (⟨t.toArray⟩:ByteArray)):=O.cell JA 3;clear qp;go_wp2
     refine bodyPost_ret (results_tmp2 rfl _ _ _) rfl ?_;exact⟨congrArg Ending.returned (show Value.tuple #[_,_]=Value.tuple #[_,_] by first|rfl|(congr 2<;>first|rfl|(simp only[*]<;>rfl))),(by first|exact(jd.J.trans lJ.J)|exact(jd.J.trans lJ.J).alloc _|exact((jd.J.trans lJ.J).alloc _).alloc _|exact(((jd.J.trans lJ.J).alloc _).alloc _).alloc _|exact(jd.J.trans lJ.J).drewN _|exact((jd.J.trans lJ.J).alloc _).drewN _|exact(((jd.J.trans lJ.J).alloc _).alloc _).drewN _)⟩
theorem XL(n:List UInt8)(a:aA)(ks:List E)(t:List UInt8)(A:Option Addr)(ca:Nat)(vk:Value)(w:World)(hr:bN w (.mk n a ks t) (.slice A a.length ca) vk):Calls Tryz.prog 176 #[.agg #[.string ⟨n.toArray⟩,.slice A a.length ca,vk,.string ⟨t.toArray⟩],.int .i64 3] w fun x w'=>x=.returned (.tuple #[.string ⟨(t:List UInt8).toArray⟩,.bool (((a.length:Int)==(0:Int))&&Tr.valid (.mk 1 [] 0 [.mk 3 t 0 []]))])∧ag w w':=by
 have htl:t.length≤maxLen:=hr.2.2.2;have hl1:a.length≤maxLen:=by obtain⟨_,_,_,h,_⟩:=hr.1;exact h.1
 have gX:=I htl;unfold maxLen at hl1 htl;have HE:=I hr;clear hr;go_enter Tryz.func176,Tryz.ntmps176;cases h6:((a.length:Int)==(0:Int))with
 |false=>
  have Np:((a.length:Int) !=(0:Int))=true:=by rw[bne,h6];rfl
  go_wp2_with fail
  refine wp_region_quiet_lit (by kernel_rfl) (by kernel_rfl) ?_
  repeat(with_reducible refine wpQuiet_step (fun K hK=>?_);go_simp;first|(refine hK _ ?_;clear hK K)|(apply Exists.intro;refine⟨fun _=>?_,hK _ ?_⟩;(fail);clear hK K))
  refine wpQuiet_nil ?_;rintro _ ⟨nq,rfl⟩;go_wp2
  refine bodyPost_ret (results_tmp2 rfl _ _ _) rfl ?_;exact⟨congrArg Ending.returned (show Value.tuple #[_,_]=Value.tuple #[_,_] by first|rfl|(congr 2<;>first|rfl|(simp only[*]<;>rfl))),bf⟩
 |true=>
  have Np:((a.length:Int) !=(0:Int))=false:=by rw[bne,h6];rfl
  go_wp2_with fail
  refine aV (fun W=>ag w W∧O W (w.heap.size) 45 #[.string (⟨n.toArray⟩:ByteArray),.slice A a.length ca,vk,.string (⟨t.toArray⟩:ByteArray)]) ⟨bf,(by first|exact O.new _ _ _|exact(O.new _ _ _).alloc _|exact O.new2 _ _ _ _|exact((O.new _ _ _).alloc _).alloc _|exact(O.new2 _ _ _ _).alloc _|exact O.p8 _ _ _ _ _|assumption|exact O.alloc (by assumption) _|exact(O.alloc (O.alloc (by assumption) _) _))⟩ ?_;rintro rO ⟨Ja,BP⟩;have nC:=I Ja;clear Ja;have aaz:=cell_regrown (show World.cell? rO ⟨w.heap.size,0,none⟩=some (.string (⟨n.toArray⟩:ByteArray))from O.cell BP 0);have aaA:=cell_regrown (show World.cell? rO ⟨w.heap.size,1,none⟩=some (.slice A a.length ca)from O.cell BP 1);have aaB:=cell_regrown (show World.cell? rO ⟨w.heap.size,2,none⟩=some (vk)from O.cell BP 2);have aaC:=cell_regrown (show World.cell? rO ⟨w.heap.size,3,none⟩=some (.string (⟨t.toArray⟩:ByteArray))from O.cell BP 3);have Ol:=I (iN (P:=Tryz.prog) rO (fun w hw=>RD (3:Int) t _ gX.J));refine wp_region_quiet_below (by kernel_rfl) (by kernel_rfl) ?_
  repeat(with_reducible refine wpQuiet_step (fun K hK=>?_);go_simp;first|(refine hK _ ?_;clear hK K)|(apply Exists.intro;refine⟨fun _=>?_,hK _ ?_⟩;(first|with_reducible exact Ol.J _ _);clear hK K))
  refine wpQuiet_nil ?_;rintro xh ⟨⟨_,_⟩,Jb⟩;have qw:ag rO xh:=by rw[Jb];exact bE (below_regrown _ _ _)
  clear Jb aaz aaA aaB aaC;have nD:=I (show ag rO xh from by first|exact qw|exact Touch.pre qw|exact Touch.pre (Touch.pre qw)|exact Touch.pI qw|exact Touch.mH qw|exact Touch.pre (Touch.pre (Touch.pre qw)));have JB:O xh (w.heap.size) 45 #[.string (⟨n.toArray⟩:ByteArray),.slice A a.length ca,vk,.string (⟨t.toArray⟩:ByteArray)]:=Touch.blk qw (by first|exact O.new _ _ _|exact(O.new _ _ _).alloc _|exact O.new2 _ _ _ _|exact((O.new _ _ _).alloc _).alloc _|exact(O.new2 _ _ _ _).alloc _|exact O.p8 _ _ _ _ _|assumption|exact O.alloc (by assumption) _|exact(O.alloc (O.alloc (by assumption) _) _)) (fun h=>h);clear BP;have agD:World.cell? xh ⟨w.heap.size,0,none⟩=some (.string (⟨n.toArray⟩:ByteArray)):=O.cell JB 0;have agE:World.cell? xh ⟨w.heap.size,1,none⟩=some (.slice A a.length ca):=O.cell JB 1;have agF:World.cell? xh ⟨w.heap.size,2,none⟩=some (vk):=O.cell JB 2;have agG:World.cell? xh ⟨w.heap.size,3,none⟩=some (.string (⟨t.toArray⟩:ByteArray)):=O.cell JB 3;clear qw;cases h7:(Tr.valid (.mk 1 [] 0 [.mk (3:Int) t 0 []]))with
  |false=>
   go_wp2
   refine bodyPost_ret (results_tmp2 rfl _ _ _) rfl ?_;exact⟨congrArg Ending.returned (show Value.tuple #[_,_]=Value.tuple #[_,_] by first|rfl|(congr 2<;>first|rfl|(simp only[*]<;>rfl))),(by first|exact(nC.J.trans nD.J)|exact(nC.J.trans nD.J).alloc _|exact((nC.J.trans nD.J).alloc _).alloc _|exact(((nC.J.trans nD.J).alloc _).alloc _).alloc _|exact(nC.J.trans nD.J).drewN _|exact((nC.J.trans nD.J).alloc _).drewN _|exact(((nC.J.trans nD.J).alloc _).alloc _).drewN _)⟩
  |true=>
   go_wp2
   refine bodyPost_ret (results_tmp2 rfl _ _ _) rfl ?_;exact⟨congrArg Ending.returned (show Value.tuple #[_,_]=Value.tuple #[_,_] by first|rfl|(congr 2<;>first|rfl|(simp only[*]<;>rfl))),(by first|exact(nC.J.trans nD.J)|exact(nC.J.trans nD.J).alloc _|exact((nC.J.trans nD.J).alloc _).alloc _|exact(((nC.J.trans nD.J).alloc _).alloc _).alloc _|exact(nC.J.trans nD.J).drewN _|exact((nC.J.trans nD.J).alloc _).drewN _|exact(((nC.J.trans nD.J).alloc _).alloc _).drewN _)⟩
theorem XM(n:List UInt8)(a:aA)(ks:List E)(t:List UInt8)(A:Option Addr)(ca:Nat)(vk:Value)(w:World)(hr:bN w (.mk n a ks t) (.slice A a.length ca) vk):Calls Tryz.prog 176 #[.agg #[.string ⟨n.toArray⟩,.slice A a.length ca,vk,.string ⟨t.toArray⟩],.int .i64 4] w fun x w'=>x=.returned (.tuple #[.string ⟨(t:List UInt8).toArray⟩,.bool (((a.length:Int)==(0:Int))&&Tr.valid (.mk 1 [] 0 [.mk 4 t 0 []]))])∧ag w w':=by
 have htl:t.length≤maxLen:=hr.2.2.2;have hl1:a.length≤maxLen:=by obtain⟨_,_,_,h,_⟩:=hr.1;exact h.1
 have gX:=I htl;unfold maxLen at hl1 htl;have HE:=I hr;clear hr;go_enter Tryz.func176,Tryz.ntmps176;cases h8:((a.length:Int)==(0:Int))with
 |false=>
  have h8m:((a.length:Int) !=(0:Int))=true:=by rw[bne,h8];rfl
  go_wp2_with fail
  refine wp_region_quiet_lit (by kernel_rfl) (by kernel_rfl) ?_
  repeat(with_reducible refine wpQuiet_step (fun K hK=>?_);go_simp;first|(refine hK _ ?_;clear hK K)|(apply Exists.intro;refine⟨fun _=>?_,hK _ ?_⟩;(fail);clear hK K))
  refine wpQuiet_nil ?_;rintro _ ⟨nq,rfl⟩;go_wp2
  refine bodyPost_ret (results_tmp2 rfl _ _ _) rfl ?_;exact⟨congrArg Ending.returned (show Value.tuple #[_,_]=Value.tuple #[_,_] by first|rfl|(congr 2<;>first|rfl|(simp only[*]<;>rfl))),bf⟩
 |true=>
  have h8m:((a.length:Int) !=(0:Int))=false:=by rw[bne,h8];rfl
  go_wp2_with fail
  refine aV (fun W=>ag w W∧O W (w.heap.size) 45 #[.string (⟨n.toArray⟩:ByteArray),.slice A a.length ca,vk,.string (⟨t.toArray⟩:ByteArray)]) ⟨bf,(by first|exact O.new _ _ _|exact(O.new _ _ _).alloc _|exact O.new2 _ _ _ _|exact((O.new _ _ _).alloc _).alloc _|exact(O.new2 _ _ _ _).alloc _|exact O.p8 _ _ _ _ _|assumption|exact O.alloc (by assumption) _|exact(O.alloc (O.alloc (by assumption) _) _))⟩ ?_;rintro O0 ⟨aby,BQ⟩;have wR:=I aby;clear aby;have aaD:=cell_regrown (show World.cell? O0 ⟨w.heap.size,0,none⟩=some (.string (⟨n.toArray⟩:ByteArray))from O.cell BQ 0);have aaE:=cell_regrown (show World.cell? O0 ⟨w.heap.size,1,none⟩=some (.slice A a.length ca)from O.cell BQ 1);have aaF:=cell_regrown (show World.cell? O0 ⟨w.heap.size,2,none⟩=some (vk)from O.cell BQ 2);have aaG:=cell_regrown (show World.cell? O0 ⟨w.heap.size,3,none⟩=some (.string (⟨t.toArray⟩:ByteArray))from O.cell BQ 3);have ad9:=I (iN (P:=Tryz.prog) O0 (fun w hw=>RD (4:Int) t _ gX.J));refine wp_region_quiet_below (by kernel_rfl) (by kernel_rfl) ?_
  repeat(with_reducible refine wpQuiet_step (fun K hK=>?_);go_simp;first|(refine hK _ ?_;clear hK K)|(apply Exists.intro;refine⟨fun _=>?_,hK _ ?_⟩;(first|with_reducible exact ad9.J _ _);clear hK K))
  refine wpQuiet_nil ?_;rintro BL ⟨⟨_,_⟩,abz⟩;have qx:ag O0 BL:=by rw[abz];exact bE (below_regrown _ _ _)
  clear abz aaD aaE aaF aaG;have kT:=I (show ag O0 BL from by first|exact qx|exact Touch.pre qx|exact Touch.pre (Touch.pre qx)|exact Touch.pI qx|exact Touch.mH qx|exact Touch.pre (Touch.pre (Touch.pre qx)));have JC:O BL (w.heap.size) 45 #[.string (⟨n.toArray⟩:ByteArray),.slice A a.length ca,vk,.string (⟨t.toArray⟩:ByteArray)]:=Touch.blk qx (by first|exact O.new _ _ _|exact(O.new _ _ _).alloc _|exact O.new2 _ _ _ _|exact((O.new _ _ _).alloc _).alloc _|exact(O.new2 _ _ _ _).alloc _|exact O.p8 _ _ _ _ _|assumption|exact O.alloc (by assumption) _|exact(O.alloc (O.alloc (by assumption) _) _)) (fun h=>h);clear BQ;have agH:World.cell? BL ⟨w.heap.size,0,none⟩=some (.string (⟨n.toArray⟩:ByteArray)):=O.cell JC 0;have agI:World.cell? BL ⟨w.heap.size,1,none⟩=some (.slice A a.length ca):=O.cell JC 1;have agJ:World.cell? BL ⟨w.heap.size,2,none⟩=some (vk):=O.cell JC 2;have agK:World.cell? BL ⟨w.heap.size,3,none⟩=some (.string (⟨t.toArray⟩:ByteArray)):=O.cell JC 3;clear qx;cases h9:(Tr.valid (.mk 1 [] 0 [.mk (4:Int) t 0 []]))with
  |false=>
   go_wp2
   refine bodyPost_ret (results_tmp2 rfl _ _ _) rfl ?_;exact⟨congrArg Ending.returned (show Value.tuple #[_,_]=Value.tuple #[_,_] by first|rfl|(congr 2<;>first|rfl|(simp only[*]<;>rfl))),(by first|exact(wR.J.trans kT.J)|exact(wR.J.trans kT.J).alloc _|exact((wR.J.trans kT.J).alloc _).alloc _|exact(((wR.J.trans kT.J).alloc _).alloc _).alloc _|exact(wR.J.trans kT.J).drewN _|exact((wR.J.trans kT.J).alloc _).drewN _|exact(((wR.J.trans kT.J).alloc _).alloc _).drewN _)⟩
  |true=>
   go_wp2
   refine bodyPost_ret (results_tmp2 rfl _ _ _) rfl ?_;exact⟨congrArg Ending.returned (show Value.tuple #[_,_]=Value.tuple #[_,_] by first|rfl|(congr 2<;>first|rfl|(simp only[*]<;>rfl))),(by first|exact(wR.J.trans kT.J)|exact(wR.J.trans kT.J).alloc _|exact((wR.J.trans kT.J).alloc _).alloc _|exact(((wR.J.trans kT.J).alloc _).alloc _).alloc _|exact(wR.J.trans kT.J).drewN _|exact((wR.J.trans kT.J).alloc _).drewN _|exact(((wR.J.trans kT.J).alloc _).alloc _).drewN _)⟩
theorem XO(n:List UInt8)(a:aA)(ks:List E)(t:List UInt8)(av:List UInt8)(ab:Bool)(wG:aW a U.cK=av)(hab:nG a U.cK=ab)(A:Option Addr)(ca:Nat)(vk:Value)(w:World)(hr:bN w (.mk n a ks t) (.slice A a.length ca) vk):Calls Tryz.prog 176 #[.agg #[.string ⟨n.toArray⟩,.slice A a.length ca,vk,.string ⟨t.toArray⟩],.int .i64 10] w fun x w'=>x=.returned (.tuple #[.string ⟨(av:List UInt8).toArray⟩,.bool (ab&&((a.length:Int)==(1:Int))&&(t==([]:List UInt8))&&Tr.fJ.contains av)])∧ag w w':=by
 have htl:t.length≤maxLen:=hr.2.2.2;have hl1:a.length≤maxLen:=by obtain⟨_,_,_,h,_⟩:=hr.1;exact h.1
 have gX:=I htl;unfold maxLen at hl1 htl;have HE:=I hr;clear hr;have Au:=I wG;have Gz:=I hab;clear wG hab;go_enter Tryz.func176,Tryz.ntmps176;go_wp2_with fail
 refine Calls.mono (Ia n a ks t U.cK av ab Au.J Gz.J _ _ _ (HE.J.fresh bf)) ?_;rintro _ O1 ⟨rfl,AP⟩;have kI:=I (show ag w O1 from by first|exact AP|exact Touch.pre AP|exact Touch.pre (Touch.pre AP)|exact Touch.pI AP|exact Touch.mH AP|exact Touch.pre (Touch.pre (Touch.pre AP)));have Fe:O O1 (w.heap.size) 45 #[.string (⟨n.toArray⟩:ByteArray),.slice A a.length ca,vk,.string (⟨t.toArray⟩:ByteArray)]:=Touch.blk AP (by first|exact O.new _ _ _|exact(O.new _ _ _).alloc _|exact O.new2 _ _ _ _|exact((O.new _ _ _).alloc _).alloc _|exact(O.new2 _ _ _ _).alloc _|exact O.p8 _ _ _ _ _|assumption|exact O.alloc (by assumption) _|exact(O.alloc (O.alloc (by assumption) _) _)) (fun h=>h);have aaH:World.cell? O1 ⟨w.heap.size,0,none⟩=some (.string (⟨n.toArray⟩:ByteArray)):=O.cell Fe 0;have aaI:World.cell? O1 ⟨w.heap.size,1,none⟩=some (.slice A a.length ca):=O.cell Fe 1;have aaJ:World.cell? O1 ⟨w.heap.size,2,none⟩=some (vk):=O.cell Fe 2;have aaK:World.cell? O1 ⟨w.heap.size,3,none⟩=some (.string (⟨t.toArray⟩:ByteArray)):=O.cell Fe 3;clear AP;cases h10:ab with
 |false=>
  go_wp2
  refine bodyPost_ret (results_tmp2 rfl _ _ _) rfl ?_;exact⟨congrArg Ending.returned (show Value.tuple #[_,_]=Value.tuple #[_,_] by first|rfl|(congr 2<;>first|rfl|(simp only[*]<;>rfl))),(by first|exact kI.J|exact kI.J.alloc _|exact(kI.J.alloc _).alloc _|exact((kI.J.alloc _).alloc _).alloc _|exact kI.J.drewN _|exact(kI.J.alloc _).drewN _|exact((kI.J.alloc _).alloc _).drewN _)⟩
 |true=>
  cases h11:((a.length:Int)==(1:Int))with
  |false=>
   have Ce:((a.length:Int) !=(1:Int))=true:=by rw[bne,h11];rfl
   go_wp2
   refine bodyPost_ret (results_tmp2 rfl _ _ _) rfl ?_;exact⟨congrArg Ending.returned (show Value.tuple #[_,_]=Value.tuple #[_,_] by first|rfl|(congr 2<;>first|rfl|(simp only[*]<;>rfl))),(by first|exact kI.J|exact kI.J.alloc _|exact(kI.J.alloc _).alloc _|exact((kI.J.alloc _).alloc _).alloc _|exact kI.J.drewN _|exact(kI.J.alloc _).drewN _|exact((kI.J.alloc _).alloc _).drewN _)⟩
  |true=>
   have Ce:((a.length:Int) !=(1:Int))=false:=by rw[bne,h11];rfl
   cases h12:(t==([]:List UInt8))with
   |false=>
    have zl:((⟨t.toArray⟩:ByteArray)==(⟨#[]⟩:ByteArray))=false:=by rw[aC];exact h12
    have MW:((⟨t.toArray⟩:ByteArray) !=(⟨#[]⟩:ByteArray))=true:=by rw[bne,zl];rfl
    have agL:(ByteArray.toList (⟨t.toArray⟩:ByteArray)).isEmpty=false:=by rw[bD];exact h12
    go_wp2
    refine bodyPost_ret (results_tmp2 rfl _ _ _) rfl ?_;exact⟨congrArg Ending.returned (show Value.tuple #[_,_]=Value.tuple #[_,_] by first|rfl|(congr 2<;>first|rfl|(simp only[*]<;>rfl))),(by first|exact kI.J|exact kI.J.alloc _|exact(kI.J.alloc _).alloc _|exact((kI.J.alloc _).alloc _).alloc _|exact kI.J.drewN _|exact(kI.J.alloc _).drewN _|exact((kI.J.alloc _).alloc _).drewN _)⟩
   |true=>
    have zl:((⟨t.toArray⟩:ByteArray)==(⟨#[]⟩:ByteArray))=true:=by rw[aC];exact h12
    have MW:((⟨t.toArray⟩:ByteArray) !=(⟨#[]⟩:ByteArray))=false:=by rw[bne,zl];rfl
    have agL:(ByteArray.toList (⟨t.toArray⟩:ByteArray)).isEmpty=true:=by rw[bD];exact h12
    go_wp2_with fail
    refine Calls.mono (AY _) ?_;rintro _ w16 ⟨rfl,qy,abA⟩;have aeM:=I abA;clear abA;have kU:=I (show ag O1 w16 from by first|exact qy|exact Touch.pre qy|exact Touch.pre (Touch.pre qy)|exact Touch.pI qy|exact Touch.mH qy|exact Touch.pre (Touch.pre (Touch.pre qy)));have JD:O w16 (w.heap.size) 45 #[.string (⟨n.toArray⟩:ByteArray),.slice A a.length ca,vk,.string (⟨t.toArray⟩:ByteArray)]:=Touch.blk qy (by first|exact O.new _ _ _|exact(O.new _ _ _).alloc _|exact O.new2 _ _ _ _|exact((O.new _ _ _).alloc _).alloc _|exact(O.new2 _ _ _ _).alloc _|exact O.p8 _ _ _ _ _|assumption|exact O.alloc (by assumption) _|exact(O.alloc (O.alloc (by assumption) _) _)) (fun h=>h);clear aaH aaI aaJ aaK Fe;have agM:World.cell? w16 ⟨w.heap.size,0,none⟩=some (.string (⟨n.toArray⟩:ByteArray)):=O.cell JD 0;have agN:World.cell? w16 ⟨w.heap.size,1,none⟩=some (.slice A a.length ca):=O.cell JD 1;have agO:World.cell? w16 ⟨w.heap.size,2,none⟩=some (vk):=O.cell JD 2;have agP:World.cell? w16 ⟨w.heap.size,3,none⟩=some (.string (⟨t.toArray⟩:ByteArray)):=O.cell JD 3;clear qy;go_wp2_with fail
    refine Calls.mono (aay av _ _ aeM.J) ?_;rintro _ afm ⟨rfl,CF⟩;replace CF:=CF.symm;subst CF;cases rH:(Tr.fJ.contains av)with
    |false=>
     go_wp2
     refine bodyPost_ret (results_tmp2 rfl _ _ _) rfl ?_;exact⟨congrArg Ending.returned (show Value.tuple #[_,_]=Value.tuple #[_,_] by first|rfl|(congr 2<;>first|rfl|(simp only[*]<;>rfl))),(by first|exact(kI.J.trans kU.J)|exact(kI.J.trans kU.J).alloc _|exact((kI.J.trans kU.J).alloc _).alloc _|exact(((kI.J.trans kU.J).alloc _).alloc _).alloc _|exact(kI.J.trans kU.J).drewN _|exact((kI.J.trans kU.J).alloc _).drewN _|exact(((kI.J.trans kU.J).alloc _).alloc _).drewN _)⟩
    |true=>
     go_wp2
     refine bodyPost_ret (results_tmp2 rfl _ _ _) rfl ?_;exact⟨congrArg Ending.returned (show Value.tuple #[_,_]=Value.tuple #[_,_] by first|rfl|(congr 2<;>first|rfl|(simp only[*]<;>rfl))),(by first|exact(kI.J.trans kU.J)|exact(kI.J.trans kU.J).alloc _|exact((kI.J.trans kU.J).alloc _).alloc _|exact(((kI.J.trans kU.J).alloc _).alloc _).alloc _|exact(kI.J.trans kU.J).drewN _|exact((kI.J.trans kU.J).alloc _).drewN _|exact(((kI.J.trans kU.J).alloc _).alloc _).drewN _)⟩
theorem XP(n:List UInt8)(a:aA)(ks:List E)(t:List UInt8)(av bv:List UInt8)(ab bb:Bool)(wG:aW a U.fK=av)(hbv:aW a U.dM=bv)(hab:nG a U.fK=ab)(hbb:nG a U.dM=bb)(hla:av.length≤1000)(hlb:bv.length≤1000)(A:Option Addr)(ca:Nat)(vk:Value)(w:World)(hr:bN w (.mk n a ks t) (.slice A a.length ca) vk):Calls Tryz.prog 176 #[.agg #[.string ⟨n.toArray⟩,.slice A a.length ca,vk,.string ⟨t.toArray⟩],.int .i64 11] w fun x w'=>x=.returned (.tuple #[.string ⟨(av++bv:List UInt8).toArray⟩,.bool (ab&&bb&&((a.length:Int)==(2:Int))&&(t==([]:List UInt8))&&((av.length:Int)==(1:Int))&&((bv.length:Int)==(1:Int))&&Tr.valid (.mk 1 [] 0 [.mk 11 (av++bv) 0 [dN]]))])∧ag w w':=by
 have htl:t.length≤maxLen:=hr.2.2.2;have hl1:a.length≤maxLen:=by obtain⟨_,_,_,h,_⟩:=hr.1;exact h.1
 have gX:=I htl;unfold maxLen at hl1 htl;have HE:=I hr;clear hr;have Au:=I wG;have dX:=I hbv;have Gz:=I hab;have fT:=I hbb;have agQ:=I (show(av++bv).length≤maxLen by rw[List.length_append];unfold maxLen;omega);have hadd:=fun W:World=>run_string_add_lists (P:=Tryz.prog) W av bv (by omega) (by omega)
 clear wG hbv hab hbb hla hlb;go_enter Tryz.func176,Tryz.ntmps176;go_wp2_with fail
 refine Calls.mono (Ia n a ks t U.fK av ab Au.J Gz.J _ _ _ (HE.J.fresh bf)) ?_;rintro _ O3 ⟨rfl,AQ⟩;have fq:=I (show ag w O3 from by first|exact AQ|exact Touch.pre AQ|exact Touch.pre (Touch.pre AQ)|exact Touch.pI AQ|exact Touch.mH AQ|exact Touch.pre (Touch.pre (Touch.pre AQ)));have Ff:O O3 (w.heap.size) 45 #[.string (⟨n.toArray⟩:ByteArray),.slice A a.length ca,vk,.string (⟨t.toArray⟩:ByteArray)]:=Touch.blk AQ (by first|exact O.new _ _ _|exact(O.new _ _ _).alloc _|exact O.new2 _ _ _ _|exact((O.new _ _ _).alloc _).alloc _|exact(O.new2 _ _ _ _).alloc _|exact O.p8 _ _ _ _ _|assumption|exact O.alloc (by assumption) _|exact(O.alloc (O.alloc (by assumption) _) _)) (fun h=>h);have aaL:World.cell? O3 ⟨w.heap.size,0,none⟩=some (.string (⟨n.toArray⟩:ByteArray)):=O.cell Ff 0;have aaM:World.cell? O3 ⟨w.heap.size,1,none⟩=some (.slice A a.length ca):=O.cell Ff 1;have aaN:World.cell? O3 ⟨w.heap.size,2,none⟩=some (vk):=O.cell Ff 2;have aaO:World.cell? O3 ⟨w.heap.size,3,none⟩=some (.string (⟨t.toArray⟩:ByteArray)):=O.cell Ff 3;clear AQ;go_wp2_with fail
 refine Calls.mono (Ia n a ks t U.dM bv bb dX.J fT.J _ _ _ (HE.J.fresh (by first|exact fq.J|exact fq.J.alloc _|exact(fq.J.alloc _).alloc _|exact((fq.J.alloc _).alloc _).alloc _|exact fq.J.drewN _|exact(fq.J.alloc _).drewN _|exact((fq.J.alloc _).alloc _).drewN _))) ?_;rintro _ DI ⟨rfl,AR⟩;have gG:=I (show ag O3 DI from by first|exact AR|exact Touch.pre AR|exact Touch.pre (Touch.pre AR)|exact Touch.pI AR|exact Touch.mH AR|exact Touch.pre (Touch.pre (Touch.pre AR)));have Fg:O DI (w.heap.size) 45 #[.string (⟨n.toArray⟩:ByteArray),.slice A a.length ca,vk,.string (⟨t.toArray⟩:ByteArray)]:=Touch.blk AR (by first|exact O.new _ _ _|exact(O.new _ _ _).alloc _|exact O.new2 _ _ _ _|exact((O.new _ _ _).alloc _).alloc _|exact(O.new2 _ _ _ _).alloc _|exact O.p8 _ _ _ _ _|assumption|exact O.alloc (by assumption) _|exact(O.alloc (O.alloc (by assumption) _) _)) (fun h=>h);clear aaL aaM aaN aaO Ff;have aaP:World.cell? DI ⟨w.heap.size,0,none⟩=some (.string (⟨n.toArray⟩:ByteArray)):=O.cell Fg 0;have aaQ:World.cell? DI ⟨w.heap.size,1,none⟩=some (.slice A a.length ca):=O.cell Fg 1;have aaR:World.cell? DI ⟨w.heap.size,2,none⟩=some (vk):=O.cell Fg 2;have aaS:World.cell? DI ⟨w.heap.size,3,none⟩=some (.string (⟨t.toArray⟩:ByteArray)):=O.cell Fg 3;clear AR;cases yF:ab with
 |false=>
  go_wp2
  refine bodyPost_ret (results_tmp2 rfl _ _ _) rfl ?_;exact⟨congrArg Ending.returned (show Value.tuple #[_,_]=Value.tuple #[_,_] by first|rfl|(congr 2<;>first|rfl|(simp only[*]<;>rfl))),(by first|exact(fq.J.trans gG.J)|exact(fq.J.trans gG.J).alloc _|exact((fq.J.trans gG.J).alloc _).alloc _|exact(((fq.J.trans gG.J).alloc _).alloc _).alloc _|exact(fq.J.trans gG.J).drewN _|exact((fq.J.trans gG.J).alloc _).drewN _|exact(((fq.J.trans gG.J).alloc _).alloc _).drewN _)⟩
 |true=>
  cases vI:bb with
  |false=>
   go_wp2
   refine bodyPost_ret (results_tmp2 rfl _ _ _) rfl ?_;exact⟨congrArg Ending.returned (show Value.tuple #[_,_]=Value.tuple #[_,_] by first|rfl|(congr 2<;>first|rfl|(simp only[*]<;>rfl))),(by first|exact(fq.J.trans gG.J)|exact(fq.J.trans gG.J).alloc _|exact((fq.J.trans gG.J).alloc _).alloc _|exact(((fq.J.trans gG.J).alloc _).alloc _).alloc _|exact(fq.J.trans gG.J).drewN _|exact((fq.J.trans gG.J).alloc _).drewN _|exact(((fq.J.trans gG.J).alloc _).alloc _).drewN _)⟩
  |true=>
   cases h16:((a.length:Int)==(2:Int))with
   |false=>
    have Nr:((a.length:Int) !=(2:Int))=true:=by rw[bne,h16];rfl
    go_wp2
    refine bodyPost_ret (results_tmp2 rfl _ _ _) rfl ?_;exact⟨congrArg Ending.returned (show Value.tuple #[_,_]=Value.tuple #[_,_] by first|rfl|(congr 2<;>first|rfl|(simp only[*]<;>rfl))),(by first|exact(fq.J.trans gG.J)|exact(fq.J.trans gG.J).alloc _|exact((fq.J.trans gG.J).alloc _).alloc _|exact(((fq.J.trans gG.J).alloc _).alloc _).alloc _|exact(fq.J.trans gG.J).drewN _|exact((fq.J.trans gG.J).alloc _).drewN _|exact(((fq.J.trans gG.J).alloc _).alloc _).drewN _)⟩
   |true=>
    have Nr:((a.length:Int) !=(2:Int))=false:=by rw[bne,h16];rfl
    cases rY:(t==([]:List UInt8))with
    |false=>
     have uX:((⟨t.toArray⟩:ByteArray)==(⟨#[]⟩:ByteArray))=false:=by rw[aC];exact rY
     have GU:((⟨t.toArray⟩:ByteArray) !=(⟨#[]⟩:ByteArray))=true:=by rw[bne,uX];rfl
     have ZB:(ByteArray.toList (⟨t.toArray⟩:ByteArray)).isEmpty=false:=by rw[bD];exact rY
     go_wp2
     refine bodyPost_ret (results_tmp2 rfl _ _ _) rfl ?_;exact⟨congrArg Ending.returned (show Value.tuple #[_,_]=Value.tuple #[_,_] by first|rfl|(congr 2<;>first|rfl|(simp only[*]<;>rfl))),(by first|exact(fq.J.trans gG.J)|exact(fq.J.trans gG.J).alloc _|exact((fq.J.trans gG.J).alloc _).alloc _|exact(((fq.J.trans gG.J).alloc _).alloc _).alloc _|exact(fq.J.trans gG.J).drewN _|exact((fq.J.trans gG.J).alloc _).drewN _|exact(((fq.J.trans gG.J).alloc _).alloc _).drewN _)⟩
    |true=>
     have uX:((⟨t.toArray⟩:ByteArray)==(⟨#[]⟩:ByteArray))=true:=by rw[aC];exact rY
     have GU:((⟨t.toArray⟩:ByteArray) !=(⟨#[]⟩:ByteArray))=false:=by rw[bne,uX];rfl
     have ZB:(ByteArray.toList (⟨t.toArray⟩:ByteArray)).isEmpty=true:=by rw[bD];exact rY
     cases h18:((av.length:Int)==(1:Int))with
     |false=>
      have Ns:((av.length:Int) !=(1:Int))=true:=by rw[bne,h18];rfl
      go_wp2
      refine bodyPost_ret (results_tmp2 rfl _ _ _) rfl ?_;exact⟨congrArg Ending.returned (show Value.tuple #[_,_]=Value.tuple #[_,_] by first|rfl|(congr 2<;>first|rfl|(simp only[*]<;>rfl))),(by first|exact(fq.J.trans gG.J)|exact(fq.J.trans gG.J).alloc _|exact((fq.J.trans gG.J).alloc _).alloc _|exact(((fq.J.trans gG.J).alloc _).alloc _).alloc _|exact(fq.J.trans gG.J).drewN _|exact((fq.J.trans gG.J).alloc _).drewN _|exact(((fq.J.trans gG.J).alloc _).alloc _).drewN _)⟩
     |true=>
      have Ns:((av.length:Int) !=(1:Int))=false:=by rw[bne,h18];rfl
      cases h19:((bv.length:Int)==(1:Int))with
      |false=>
       have YX:((bv.length:Int) !=(1:Int))=true:=by rw[bne,h19];rfl
       go_wp2
       refine bodyPost_ret (results_tmp2 rfl _ _ _) rfl ?_;exact⟨congrArg Ending.returned (show Value.tuple #[_,_]=Value.tuple #[_,_] by first|rfl|(congr 2<;>first|rfl|(simp only[*]<;>rfl))),(by first|exact(fq.J.trans gG.J)|exact(fq.J.trans gG.J).alloc _|exact((fq.J.trans gG.J).alloc _).alloc _|exact(((fq.J.trans gG.J).alloc _).alloc _).alloc _|exact(fq.J.trans gG.J).drewN _|exact((fq.J.trans gG.J).alloc _).drewN _|exact(((fq.J.trans gG.J).alloc _).alloc _).drewN _)⟩
      |true=>
       have YX:((bv.length:Int) !=(1:Int))=false:=by rw[bne,h19];rfl
       go_wp2_with fail
       refine Calls.mono (ad6 (11:Int) (av++bv) _ _ agQ.J (by first|exact O.new _ _ _|exact(O.new _ _ _).alloc _|exact O.new2 _ _ _ _|exact((O.new _ _ _).alloc _).alloc _|exact(O.new2 _ _ _ _).alloc _|exact O.p8 _ _ _ _ _|assumption|exact O.alloc (by assumption) _|exact(O.alloc (O.alloc (by assumption) _) _))) ?_;rintro _ Fh ⟨rfl,y5⟩;have wS:=I (show ag DI Fh from by first|exact y5|exact Touch.pre y5|exact Touch.pre (Touch.pre y5)|exact Touch.pI y5|exact Touch.mH y5|exact Touch.pre (Touch.pre (Touch.pre y5)));have JE:O Fh (w.heap.size) 45 #[.string (⟨n.toArray⟩:ByteArray),.slice A a.length ca,vk,.string (⟨t.toArray⟩:ByteArray)]:=Touch.blk y5 (by first|exact O.new _ _ _|exact(O.new _ _ _).alloc _|exact O.new2 _ _ _ _|exact((O.new _ _ _).alloc _).alloc _|exact(O.new2 _ _ _ _).alloc _|exact O.p8 _ _ _ _ _|assumption|exact O.alloc (by assumption) _|exact(O.alloc (O.alloc (by assumption) _) _)) (fun h=>h);have JF:O Fh (DI.heap.size) 31 #[.int .i64 (1:Int),.string (⟨#[]⟩:ByteArray),.int .i64 (0:Int),.slice none 0 0]:=Touch.blk y5 (by first|exact O.new _ _ _|exact(O.new _ _ _).alloc _|exact O.new2 _ _ _ _|exact((O.new _ _ _).alloc _).alloc _|exact(O.new2 _ _ _ _).alloc _|exact O.p8 _ _ _ _ _|assumption|exact O.alloc (by assumption) _|exact(O.alloc (O.alloc (by assumption) _) _)) (fun h=>h);clear aaP aaQ aaR aaS Fg;have agR:World.cell? Fh ⟨w.heap.size,0,none⟩=some (.string (⟨n.toArray⟩:ByteArray)):=O.cell JE 0;have agS:World.cell? Fh ⟨w.heap.size,1,none⟩=some (.slice A a.length ca):=O.cell JE 1;have agT:World.cell? Fh ⟨w.heap.size,2,none⟩=some (vk):=O.cell JE 2;have agU:World.cell? Fh ⟨w.heap.size,3,none⟩=some (.string (⟨t.toArray⟩:ByteArray)):=O.cell JE 3;have agV:World.cell? Fh ⟨DI.heap.size,0,none⟩=some (.int .i64 (1:Int)):=O.cell JF 0;have agW:World.cell? Fh ⟨DI.heap.size,1,none⟩=some (.string (⟨#[]⟩:ByteArray)):=O.cell JF 1;have agX:World.cell? Fh ⟨DI.heap.size,2,none⟩=some (.int .i64 (0:Int)):=O.cell JF 2;have agY:World.cell? Fh ⟨DI.heap.size,3,none⟩=some (.slice none 0 0):=O.cell JF 3;clear y5;cases h20:(Tr.valid (.mk 1 [] 0 [.mk (11:Int) (av++bv) 0 [dN]]))with
       |false=>
        go_wp2
        refine bodyPost_ret (results_tmp2 rfl _ _ _) rfl ?_;exact⟨congrArg Ending.returned (show Value.tuple #[_,_]=Value.tuple #[_,_] by first|rfl|(congr 2<;>first|rfl|(simp only[*]<;>rfl))),(by first|exact(fq.J.trans (gG.J.trans wS.J))|exact(fq.J.trans (gG.J.trans wS.J)).alloc _|exact((fq.J.trans (gG.J.trans wS.J)).alloc _).alloc _|exact(((fq.J.trans (gG.J.trans wS.J)).alloc _).alloc _).alloc _|exact(fq.J.trans (gG.J.trans wS.J)).drewN _|exact((fq.J.trans (gG.J.trans wS.J)).alloc _).drewN _|exact(((fq.J.trans (gG.J.trans wS.J)).alloc _).alloc _).drewN _)⟩
       |true=>
        go_wp2
        refine bodyPost_ret (results_tmp2 rfl _ _ _) rfl ?_;exact⟨congrArg Ending.returned (show Value.tuple #[_,_]=Value.tuple #[_,_] by first|rfl|(congr 2<;>first|rfl|(simp only[*]<;>rfl))),(by first|exact(fq.J.trans (gG.J.trans wS.J))|exact(fq.J.trans (gG.J.trans wS.J)).alloc _|exact((fq.J.trans (gG.J.trans wS.J)).alloc _).alloc _|exact(((fq.J.trans (gG.J.trans wS.J)).alloc _).alloc _).alloc _|exact(fq.J.trans (gG.J.trans wS.J)).drewN _|exact((fq.J.trans (gG.J.trans wS.J)).alloc _).drewN _|exact(((fq.J.trans (gG.J.trans wS.J)).alloc _).alloc _).drewN _)⟩
end
end Go.Proofs.YtnbeemkfmlfgfaaGreatDoor
