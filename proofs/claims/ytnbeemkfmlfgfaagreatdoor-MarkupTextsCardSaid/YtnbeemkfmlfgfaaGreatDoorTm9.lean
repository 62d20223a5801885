/- Part 9 of 48 of a proof. No condition. -/
import Derived.Deep.RegionWith
import Derived.Test.YtnbeemkfmlfgfaaGreatDoorTm8
set_option maxRecDepth 100000
set_option maxHeartbeats 2000000
namespace Go.Proofs.YtnbeemkfmlfgfaaGreatDoor
section
open Go.RowKit
theorem byteSize(t:List UInt8):(ByteArray.mk t.toArray).size=t.length:=by show t.toArray.size=_;simp
theorem pK(t:List UInt8):t.all mW=Tr.aK t:=by
 unfold Tr.aK
 congr 1
theorem Sq(k:Int)(t:List UInt8)(cv sl:Value)(w:World)(h10:(k==10)=false)(h11:(k==11)=false)(hm:t.length≤9223372036854775807):
  Calls Tryz.prog 62 #[.agg #[.int .i64 k,.string ⟨t.toArray⟩,cv,sl]] w fun e w'=>e=.returned (.bool (Tr.gI k t))∧ag w w':=by
 have hz:(ByteArray.mk t.toArray).size≤9223372036854775807:=by rw[byteSize];exact hm
 have HZ:=I hz;clear hz;go_enter Tryz.func62,Tryz.ntmps62;cases h1:(k==(2:Int))with
 |false=>
  have xS:(k !=(2:Int))=true:=by rw[bne,h1];rfl
  cases h2:(k==(3:Int))with
  |false=>
   have D5:(k !=(3:Int))=true:=by rw[bne,h2];rfl
   cases h3:(k==(4:Int))with
   |false=>
    have xU:(k !=(4:Int))=true:=by rw[bne,h3];rfl
    cases h4:(t==([]:List UInt8))with
    |false=>
     have zq:((⟨t.toArray⟩:ByteArray)==(⟨#[]⟩:ByteArray))=false:=by rw[aC];exact h4
     have Nl:((⟨t.toArray⟩:ByteArray) !=(⟨#[]⟩:ByteArray))=true:=by rw[bne,zq];rfl
     have h4e:(ByteArray.toList (⟨t.toArray⟩:ByteArray)).isEmpty=false:=by rw[bD];exact h4
     go_wp2
     go_ret;exact⟨af _ _ (by unfold Tr.gI;simp only[←pK];simp_all<;>omega),bf⟩
    |true=>
     have zq:((⟨t.toArray⟩:ByteArray)==(⟨#[]⟩:ByteArray))=true:=by rw[aC];exact h4
     have Nl:((⟨t.toArray⟩:ByteArray) !=(⟨#[]⟩:ByteArray))=false:=by rw[bne,zq];rfl
     have h4e:(ByteArray.toList (⟨t.toArray⟩:ByteArray)).isEmpty=true:=by rw[bD];exact h4
     go_wp2
     go_ret;exact⟨af _ _ (by unfold Tr.gI;simp only[←pK];simp_all<;>omega),bf⟩
   |true=>
    have xU:(k !=(4:Int))=false:=by rw[bne,h3];rfl
    cases h5:decide ((t.length:Int)≤(200:Int))with
    |false=>
     have U9:decide (t.length≤200)=false:=by have hx:=h5;simp only[decide_eq_false_iff_not]at hx⊢;omega
     go_wp2
     go_ret;exact⟨af _ _ (by unfold Tr.gI;simp only[←pK];simp_all<;>omega),bf⟩
    |true=>
     have U9:decide (t.length≤200)=true:=by have hx:=h5;simp only[decide_eq_true_eq]at hx⊢;omega
     go_wp2_with fail
     refine Calls.mono (Mh ⟨t.toArray⟩ _ HZ.J) ?_;rintro _ KH ⟨rfl,kz⟩;replace kz:=kz.symm;subst kz;cases h6:(t.all mW)with
     |false=>
      go_wp2
      go_ret;exact⟨af _ _ (by unfold Tr.gI;simp only[←pK];simp_all<;>omega),bf⟩
     |true=>
      go_wp2
      go_ret;exact⟨af _ _ (by unfold Tr.gI;simp only[←pK];simp_all<;>omega),bf⟩
  |true=>
   have D5:(k !=(3:Int))=false:=by rw[bne,h2];rfl
   go_wp2_with fail
   refine Calls.mono (PW ⟨t.toArray⟩ _ HZ.J) ?_;rintro _ Va ⟨rfl,oN⟩;replace oN:=oN.symm;subst oN;cases h7:(Tr.isNum t)with
   |false=>
    go_wp2
    go_ret;exact⟨af _ _ (by unfold Tr.gI;simp only[←pK];simp_all<;>omega),bf⟩
   |true=>
    go_wp2
    go_ret;exact⟨af _ _ (by unfold Tr.gI;simp only[←pK];simp_all<;>omega),bf⟩
 |true=>
  have xS:(k !=(2:Int))=false:=by rw[bne,h1];rfl
  go_wp2_with fail
  refine Calls.mono (F6 ⟨t.toArray⟩ _ HZ.J) ?_;rintro _ w3 ⟨rfl,hfw3⟩;have bC:=I (show ag w w3 from qW hfw3);have Ir:O w3 (w.heap.size) 31 #[.int .i64 k,.string (⟨t.toArray⟩:ByteArray),cv,sl]:=Touch.blk hfw3 (by first|exact yz|assumption|exact uW (by assumption)) (fun h=>h);obtain⟨QB,QC,QD,QE,_⟩:=O.four Ir;clear hfw3;cases h8:(Tr.symbol t)with
  |false=>
   go_wp2
   go_ret;exact⟨af _ _ (by unfold Tr.gI;simp only[←pK];simp_all<;>omega),(lK bC.J)⟩
  |true=>
   go_wp2
   go_ret;exact⟨af _ _ (by unfold Tr.gI;simp only[←pK];simp_all<;>omega),(lK bC.J)⟩
theorem Sr(k:Int)(hk:k=11)(a b:UInt8)(cv sl:Value)(w:World):
  Calls Tryz.prog 62 #[.agg #[.int .i64 k,.string ⟨#[a,b]⟩,cv,sl]] w fun e w'=>e=.returned (.bool (Tr.gI k [a,b]))∧ag w w':=by
 have hk0:(k==10)=false:=by subst hk;rfl
 have hk1:(k==11)=true:=by subst hk;rfl
 have hk2:(k==2)=false:=by subst hk;rfl
 have hk3:(k==3)=false:=by subst hk;rfl
 have hk4:(k==4)=false:=by subst hk;rfl
 have HT:=I (show Tr.gI k [a,b]=(Tr.su.contains a&&Tr.su.contains b) by subst hk;rfl);have e0:(ByteArray.mk #[a,b])[0]'(show 0<2 by decide)=a:=rfl;have e1:(ByteArray.mk #[a,b])[1]'(show 1<2 by decide)=b:=rfl;have e2:(ByteArray.mk #[a,b]).size=2:=rfl;clear hk;go_enter Tryz.func62,Tryz.ntmps62;go_wp2_with fail
 refine Calls.mono (JP ⟨(Tr.su).toArray⟩ a _ (by decide)) ?_;rintro _ KH ⟨rfl,kz⟩;replace kz:=kz.symm;subst kz;cases h1:(Tr.su.contains a)with
 |false=>
  go_wp2
  go_ret;exact⟨af _ _ (by rw[HT.J];simp_all),bf⟩
 |true=>
  go_wp2_with fail
  refine Calls.mono (JP ⟨(Tr.su).toArray⟩ b _ (by decide)) ?_;rintro _ Va ⟨rfl,oN⟩;replace oN:=oN.symm;subst oN;cases h2:(Tr.su.contains b)with
  |false=>
   go_wp2
   go_ret;exact⟨af _ _ (by rw[HT.J];simp_all),bf⟩
  |true=>
   go_wp2
   go_ret;exact⟨af _ _ (by rw[HT.J];simp_all),bf⟩
theorem Nn(k:Int)(hk:k=11)(t:List UInt8)(ht:t.length≠2)(cv sl:Value)(w:World):
  Calls Tryz.prog 62 #[.agg #[.int .i64 k,.string ⟨t.toArray⟩,cv,sl]] w fun e w'=>e=.returned (.bool (Tr.gI k t))∧ag w w':=by
 have hk0:(k==10)=false:=by subst hk;rfl
 have hk1:(k==11)=true:=by subst hk;rfl
 have hk2:(k==2)=false:=by subst hk;rfl
 have hk3:(k==3)=false:=by subst hk;rfl
 have hk4:(k==4)=false:=by subst hk;rfl
 have HT:=I (show Tr.gI k t=false by
  subst hk;show Tr.fence t=false
  match t,ht with
  |[],_=>rfl
  |[_],_=>rfl
  |[_,_],h=>exact absurd rfl h
  |_::_::_::_,_=>rfl)
 have f1:((t.length:Int)==2)=false:=by rw[beq_eq_false_iff_ne];omega
 have f2:(t.length==2)=false:=by rw[beq_eq_false_iff_ne];exact ht
 have f3:¬(t.length:Int)=2:=by omega
 clear hk ht;go_enter Tryz.func62,Tryz.ntmps62;go_wp2
 go_ret;exact⟨af _ _ (by rw[HT.J]),bf⟩
theorem PX(k:Int)(hk:k=10)(t:List UInt8)(cv sl:Value)(w:World):
  Calls Tryz.prog 62 #[.agg #[.int .i64 k,.string ⟨t.toArray⟩,cv,sl]] w fun e w'=>e=.returned (.bool (Tr.gI k t))∧ag w w':=by
 have hk0:(k==10)=true:=by subst hk;rfl
 have hk2:(k==2)=false:=by subst hk;rfl
 have hk3:(k==3)=false:=by subst hk;rfl
 have hk4:(k==4)=false:=by subst hk;rfl
 have HT:=I (show Tr.gI k t=Tr.fJ.contains t by subst hk;rfl);clear hk;go_enter Tryz.func62,Tryz.ntmps62;go_wp2_with fail
 go_region_with (first
  |(go_at_call 116;refine(AY _).mono ?_;rintro _ w1 ⟨rfl,hf1,hb1⟩;have q1:=O.cell (Touch.blk hf1 (O.new _ _ _) (fun h=>h)) 1;have hb2:O w1 (w.heap.size+1) 9 (sF Tr.fJ):=(by simpa using hb1);have aF:=I (Touch.trans (((M _ w).alloc _).drew) hf1);clear hf1 hb1)
  |(go_at_call 115;refine(Iz Tr.fJ ⟨t.toArray⟩ _ _ (by assumption) (by decide)).mono ?_;rintro _ _ ⟨rfl,rfl⟩))
 all_goals (go_wp2_with fail)
 all_goals go_ret
 all_goals exact⟨af _ _ (by rw[HT.J];simp),aF.J⟩
theorem YT(k:Int)(t:List UInt8)(cv sl:Value)(w:World)(hm:t.length≤9223372036854775807):
  Calls Tryz.prog 62 #[.agg #[.int .i64 k,.string ⟨t.toArray⟩,cv,sl]] w fun e w'=>e=.returned (.bool (Tr.gI k t))∧ag w w':=by
 by_cases h10:k=10
 ·exact PX k h10 t cv sl w
 ·by_cases h11:k=11
  ·by_cases h2:t.length=2
   ·match t,h2 with
    |[a,b],_=>exact Sr k h11 a b cv sl w
   ·exact Nn k h11 t h2 cv sl w
  ·exact Sq k t cv sl w (by simpa using h10) (by simpa using h11) hm
theorem YU(k c:Int)(n:Nat)(A:Option Addr)(cap:Nat)(tx:Value)(w:World)(hn:n≤9223372036854775807):
  Calls Tryz.prog 63 #[.agg #[.int .i64 k,tx,.int .i64 c,.slice A n cap]] w fun e w'=>e=.returned (.bool (Tr.cZ k c n))∧ag w w':=by
 go_enter Tryz.func63,Tryz.ntmps63;cases h1:(k==(12:Int))with
 |false=>
  have xS:(k !=(12:Int))=true:=by rw[bne,h1];rfl
  cases h2:(c==(0:Int))with
  |false=>
   have D5:(c !=(0:Int))=true:=by rw[bne,h2];rfl
   go_wp2
   go_ret;exact⟨af _ _ (by unfold Tr.cZ;simp_all<;>omega),bf⟩
  |true=>
   have D5:(c !=(0:Int))=false:=by rw[bne,h2];rfl
   cases h3:(k==(1:Int))with
   |false=>
    have xU:(k !=(1:Int))=true:=by rw[bne,h3];rfl
    cases h4:(k==(2:Int))with
    |false=>
     have Iw:(k !=(2:Int))=true:=by rw[bne,h4];rfl
     cases h5:(k==(3:Int))with
     |false=>
      have U4:(k !=(3:Int))=true:=by rw[bne,h5];rfl
      cases h6:(k==(4:Int))with
      |false=>
       have Np:(k !=(4:Int))=true:=by rw[bne,h6];rfl
       cases h7:(k==(5:Int))with
       |false=>
        have h7m:(k !=(5:Int))=true:=by rw[bne,h7];rfl
        cases h8:(k==(6:Int))with
        |false=>
         have h8m:(k !=(6:Int))=true:=by rw[bne,h8];rfl
         cases h9:(k==(7:Int))with
         |false=>
          have Nq:(k !=(7:Int))=true:=by rw[bne,h9];rfl
          cases h10:(k==(8:Int))with
          |false=>
           have Na:(k !=(8:Int))=true:=by rw[bne,h10];rfl
           cases h11:(k==(9:Int))with
           |false=>
            have Ce:(k !=(9:Int))=true:=by rw[bne,h11];rfl
            cases h12:(k==(10:Int))with
            |false=>
             have YV:(k !=(10:Int))=true:=by rw[bne,h12];rfl
             cases rH:(k==(11:Int))with
             |false=>
              have YW:(k !=(11:Int))=true:=by rw[bne,rH];rfl
              go_wp2
              go_ret;exact⟨af _ _ (by unfold Tr.cZ;simp_all<;>omega),bf⟩
             |true=>
              have YW:(k !=(11:Int))=false:=by rw[bne,rH];rfl
              cases yF:((n:Int)==(1:Int))with
              |false=>
               have aeZ:((n:Int) !=(1:Int))=true:=by rw[bne,yF];rfl
               have ae0:(n==1)=false:=by have hx:=yF;simp only[beq_eq_false_iff_ne,ne_eq]at hx⊢;omega
               go_wp2
               go_ret;exact⟨af _ _ (by unfold Tr.cZ;simp_all<;>omega),bf⟩
              |true=>
               have aeZ:((n:Int) !=(1:Int))=false:=by rw[bne,yF];rfl
               have ae0:(n==1)=true:=by have hx:=yF;simp only[beq_iff_eq]at hx⊢;omega
               go_wp2
               go_ret;exact⟨af _ _ (by unfold Tr.cZ;simp_all<;>omega),bf⟩
            |true=>
             have YV:(k !=(10:Int))=false:=by rw[bne,h12];rfl
             cases vI:((n:Int)==(1:Int))with
             |false=>
              have ae1:((n:Int) !=(1:Int))=true:=by rw[bne,vI];rfl
              have ae2:(n==1)=false:=by have hx:=vI;simp only[beq_eq_false_iff_ne,ne_eq]at hx⊢;omega
              go_wp2
              go_ret;exact⟨af _ _ (by unfold Tr.cZ;simp_all<;>omega),bf⟩
             |true=>
              have ae1:((n:Int) !=(1:Int))=false:=by rw[bne,vI];rfl
              have ae2:(n==1)=true:=by have hx:=vI;simp only[beq_iff_eq]at hx⊢;omega
              go_wp2
              go_ret;exact⟨af _ _ (by unfold Tr.cZ;simp_all<;>omega),bf⟩
           |true=>
            have Ce:(k !=(9:Int))=false:=by rw[bne,h11];rfl
            cases h16:((n:Int)==(3:Int))with
            |false=>
             have Nr:((n:Int) !=(3:Int))=true:=by rw[bne,h16];rfl
             have ae3:(n==3)=false:=by have hx:=h16;simp only[beq_eq_false_iff_ne,ne_eq]at hx⊢;omega
             go_wp2
             go_ret;exact⟨af _ _ (by unfold Tr.cZ;simp_all<;>omega),bf⟩
            |true=>
             have Nr:((n:Int) !=(3:Int))=false:=by rw[bne,h16];rfl
             have ae3:(n==3)=true:=by have hx:=h16;simp only[beq_iff_eq]at hx⊢;omega
             go_wp2
             go_ret;exact⟨af _ _ (by unfold Tr.cZ;simp_all<;>omega),bf⟩
          |true=>
           have Na:(k !=(8:Int))=false:=by rw[bne,h10];rfl
           cases rY:((n:Int)==(2:Int))with
           |false=>
            have ae4:((n:Int) !=(2:Int))=true:=by rw[bne,rY];rfl
            have ae5:(n==2)=false:=by have hx:=rY;simp only[beq_eq_false_iff_ne,ne_eq]at hx⊢;omega
            go_wp2
            go_ret;exact⟨af _ _ (by unfold Tr.cZ;simp_all<;>omega),bf⟩
           |true=>
            have ae4:((n:Int) !=(2:Int))=false:=by rw[bne,rY];rfl
            have ae5:(n==2)=true:=by have hx:=rY;simp only[beq_iff_eq]at hx⊢;omega
            go_wp2
            go_ret;exact⟨af _ _ (by unfold Tr.cZ;simp_all<;>omega),bf⟩
         |true=>
          have Nq:(k !=(7:Int))=false:=by rw[bne,h9];rfl
          cases h18:((n:Int)==(2:Int))with
          |false=>
           have Ns:((n:Int) !=(2:Int))=true:=by rw[bne,h18];rfl
           have ae6:(n==2)=false:=by have hx:=h18;simp only[beq_eq_false_iff_ne,ne_eq]at hx⊢;omega
           go_wp2
           go_ret;exact⟨af _ _ (by unfold Tr.cZ;simp_all<;>omega),bf⟩
          |true=>
           have Ns:((n:Int) !=(2:Int))=false:=by rw[bne,h18];rfl
           have ae6:(n==2)=true:=by have hx:=h18;simp only[beq_iff_eq]at hx⊢;omega
           go_wp2
           go_ret;exact⟨af _ _ (by unfold Tr.cZ;simp_all<;>omega),bf⟩
        |true=>
         have h8m:(k !=(6:Int))=false:=by rw[bne,h8];rfl
         cases h19:((n:Int)==(2:Int))with
         |false=>
          have YX:((n:Int) !=(2:Int))=true:=by rw[bne,h19];rfl
          have ae7:(n==2)=false:=by have hx:=h19;simp only[beq_eq_false_iff_ne,ne_eq]at hx⊢;omega
          go_wp2
          go_ret;exact⟨af _ _ (by unfold Tr.cZ;simp_all<;>omega),bf⟩
         |true=>
          have YX:((n:Int) !=(2:Int))=false:=by rw[bne,h19];rfl
          have ae7:(n==2)=true:=by have hx:=h19;simp only[beq_iff_eq]at hx⊢;omega
          go_wp2
          go_ret;exact⟨af _ _ (by unfold Tr.cZ;simp_all<;>omega),bf⟩
       |true=>
        have h7m:(k !=(5:Int))=false:=by rw[bne,h7];rfl
        cases h20:((n:Int)==(2:Int))with
        |false=>
         have YY:((n:Int) !=(2:Int))=true:=by rw[bne,h20];rfl
         have ae8:(n==2)=false:=by have hx:=h20;simp only[beq_eq_false_iff_ne,ne_eq]at hx⊢;omega
         go_wp2
         go_ret;exact⟨af _ _ (by unfold Tr.cZ;simp_all<;>omega),bf⟩
        |true=>
         have YY:((n:Int) !=(2:Int))=false:=by rw[bne,h20];rfl
         have ae8:(n==2)=true:=by have hx:=h20;simp only[beq_iff_eq]at hx⊢;omega
         go_wp2
         go_ret;exact⟨af _ _ (by unfold Tr.cZ;simp_all<;>omega),bf⟩
      |true=>
       have Np:(k !=(4:Int))=false:=by rw[bne,h6];rfl
       cases h21:((n:Int)==(0:Int))with
       |false=>
        have ae9:((n:Int) !=(0:Int))=true:=by rw[bne,h21];rfl
        have ae':(n==0)=false:=by have hx:=h21;simp only[beq_eq_false_iff_ne,ne_eq]at hx⊢;omega
        go_wp2
        go_ret;exact⟨af _ _ (by unfold Tr.cZ;simp_all<;>omega),bf⟩
       |true=>
        have ae9:((n:Int) !=(0:Int))=false:=by rw[bne,h21];rfl
        have ae':(n==0)=true:=by have hx:=h21;simp only[beq_iff_eq]at hx⊢;omega
        go_wp2
        go_ret;exact⟨af _ _ (by unfold Tr.cZ;simp_all<;>omega),bf⟩
     |true=>
      have U4:(k !=(3:Int))=false:=by rw[bne,h5];rfl
      cases h22:((n:Int)==(0:Int))with
      |false=>
       have afa:((n:Int) !=(0:Int))=true:=by rw[bne,h22];rfl
       have YZ:(n==0)=false:=by have hx:=h22;simp only[beq_eq_false_iff_ne,ne_eq]at hx⊢;omega
       go_wp2
       go_ret;exact⟨af _ _ (by unfold Tr.cZ;simp_all<;>omega),bf⟩
      |true=>
       have afa:((n:Int) !=(0:Int))=false:=by rw[bne,h22];rfl
       have YZ:(n==0)=true:=by have hx:=h22;simp only[beq_iff_eq]at hx⊢;omega
       go_wp2
       go_ret;exact⟨af _ _ (by unfold Tr.cZ;simp_all<;>omega),bf⟩
    |true=>
     have Iw:(k !=(2:Int))=false:=by rw[bne,h4];rfl
     cases h23:((n:Int)==(0:Int))with
     |false=>
      have Y0:((n:Int) !=(0:Int))=true:=by rw[bne,h23];rfl
      have afb:(n==0)=false:=by have hx:=h23;simp only[beq_eq_false_iff_ne,ne_eq]at hx⊢;omega
      go_wp2
      go_ret;exact⟨af _ _ (by unfold Tr.cZ;simp_all<;>omega),bf⟩
     |true=>
      have Y0:((n:Int) !=(0:Int))=false:=by rw[bne,h23];rfl
      have afb:(n==0)=true:=by have hx:=h23;simp only[beq_iff_eq]at hx⊢;omega
      go_wp2
      go_ret;exact⟨af _ _ (by unfold Tr.cZ;simp_all<;>omega),bf⟩
   |true=>
    have xU:(k !=(1:Int))=false:=by rw[bne,h3];rfl
    cases KI:decide ((n:Int)≤(200:Int))with
    |false=>
     have afc:decide (n≤200)=false:=by have hx:=KI;simp only[decide_eq_false_iff_not]at hx⊢;omega
     go_wp2
     go_ret;exact⟨af _ _ (by unfold Tr.cZ;simp_all<;>omega),bf⟩
    |true=>
     have aiQ:=of_decide_eq_true KI;have afc:decide (n≤200)=true:=by have hx:=KI;simp only[decide_eq_true_eq]at hx⊢;omega
     go_wp2
     go_ret;exact⟨af _ _ (by unfold Tr.cZ;simp_all<;>omega),bf⟩
 |true=>
  have xS:(k !=(12:Int))=false:=by rw[bne,h1];rfl
  cases h25:decide ((1:Int)≤c)with
  |false=>
   go_wp2
   go_ret;exact⟨af _ _ (by unfold Tr.cZ;simp_all<;>omega),bf⟩
  |true=>
   have aiR:=of_decide_eq_true h25;cases h26:decide (c≤(16:Int))with
   |false=>
    go_wp2
    go_ret;exact⟨af _ _ (by unfold Tr.cZ;simp_all<;>omega),bf⟩
   |true=>
    have aiS:=of_decide_eq_true h26;cases h27:decide ((1:Int)≤(n:Int))with
    |false=>
     have afd:decide (1≤n)=false:=by have hx:=h27;simp only[decide_eq_false_iff_not]at hx⊢;omega
     go_wp2
     go_ret;exact⟨af _ _ (by unfold Tr.cZ;simp_all<;>omega),bf⟩
    |true=>
     have aiT:=of_decide_eq_true h27;have afd:decide (1≤n)=true:=by have hx:=h27;simp only[decide_eq_true_eq]at hx⊢;omega
     cases KJ:decide ((n:Int)≤(256:Int))with
     |false=>
      have afe:decide (n≤256)=false:=by have hx:=KJ;simp only[decide_eq_false_iff_not]at hx⊢;omega
      go_wp2
      go_ret;exact⟨af _ _ (by unfold Tr.cZ;simp_all<;>omega),bf⟩
     |true=>
      have aiU:=of_decide_eq_true KJ;have afe:decide (n≤256)=true:=by have hx:=KJ;simp only[decide_eq_true_eq]at hx⊢;omega
      cases Ve:(((n:Int)%c)==(0:Int))with
      |false=>
       have Y1:(((n:Int)%c) !=(0:Int))=true:=by rw[bne,Ve];rfl
       go_wp2
       go_ret;exact⟨af _ _ (by unfold Tr.cZ;simp_all<;>omega),bf⟩
      |true=>
       have Y1:(((n:Int)%c) !=(0:Int))=false:=by rw[bne,Ve];rfl
       go_wp2
       go_ret;exact⟨af _ _ (by unfold Tr.cZ;simp_all<;>omega),bf⟩
theorem xJ(l:List Tr.Nd)(i:Nat)(h:i<l.length):Tr.aP (l.take (i+1))=max (Tr.aP (l.take i)) (Tr.depth l[i]):=by
 induction l generalizing i with
 |nil=>simp at h
 |cons x l ih=>
  cases i with
  |zero=>simp[Tr.aP]
  |succ i=>
   simp only[List.take_succ_cons,Tr.aP,List.getElem_cons_succ];rw[ih i (by simpa using h)];omega
theorem Nt(n:Tr.Nd):Tr.depth n≤Tr.count n:=by
 induction n using Tr.Nd.ind with
 |h n ih=>
  have hL:∀l:List Tr.Nd,(∀x∈l,Tr.depth x≤Tr.count x)→Tr.aP l≤Tr.aj l:=by
   intro l
   induction l with
   |nil=>intro _;simp[Tr.aP]
   |cons x l ihl=>
    intro h;rw[Tr.aP,Tr.aj];have h1:=h x (by simp);have h2:=ihl fun y hy=>h y (by simp[hy])
    omega
  rw[Tr.mP,Tr.aI];have:=hL n.kids ih;omega
theorem KL(l:List Tr.Nd):Tr.aP l≤Tr.aj l:=by
 induction l with
 |nil=>simp[Tr.aP]
 |cons x l ihl=>
  rw[Tr.aP,Tr.aj];have h1:=Nt x;omega
theorem JR(l:List Tr.Nd)(j:Nat):Tr.aP (l.take j)≤Tr.aj l:=Nat.le_trans (KL _) (Tr.kV l j)
theorem Y2(m:Nat):∀(n:Tr.Nd) (sl:Value) (w:World),Tr.count n≤m→m≤1000000→aO w n.kids sl→n.text.length≤maxLen→
  Calls Tryz.prog 35 #[.agg #[.int .i64 n.kind,.string ⟨n.text.toArray⟩,.int .i64 n.ai,sl]] w fun e w'=>e=.returned (.bool (Tr.form n))∧ag w w':=by
 induction m with
 |zero=>intro n _ _ h;have:=Tr.gQ n;omega
 |succ m ih=>
  intro n sl w hc hm hr ht;obtain⟨A,cap,rfl⟩:=hr.slice;have hlen:=hr.len;unfold maxLen at hlen ht;have jw:=I ih;have HR:=I hr;have D9:=I (Tr.mg n);have hkc:Tr.aj n.kids≤m:=by have:=Tr.aI n;omega
  have hkl:=Tr.gL n.kids;clear ih hr;generalize n.kids=ks at*;go_enter Tryz.func35,Tryz.ntmps35;go_wp2_with fail
  refine Calls.mono (YT _ n.text _ _ _ (by omega)) ?_;rintro _ w1 ⟨rfl,nO⟩;have aF:=I (show ag w w1 from qW nO);have qY:O w1 (w.heap.size) 31 #[.int .i64 n.kind,.string (⟨n.text.toArray⟩:ByteArray),.int .i64 n.ai,.slice A ks.length cap]:=Touch.blk nO (by first|exact yz|assumption|exact uW (by assumption)) (fun h=>h);obtain⟨y7,y8,y9,zb,_⟩:=O.four qY;clear nO;cases h1:(Tr.gI n.kind n.text)with
  |false=>
   go_wp2
   go_ret;exact⟨af _ _ (by rw[D9.J,show(Tr.gI n.kind n.text)=false from by assumption];rfl),(lK aF.J)⟩
  |true=>
   go_wp2_with fail
   refine Calls.mono (YU _ _ ks.length _ _ _ _ (by omega)) ?_;rintro _ w2 ⟨rfl,hfw2⟩;have aY:=I (show ag w1 w2 from qW hfw2);have xK:=Touch.blk hfw2 (uW qY) (fun h=>h);clear y7 y8 y9 zb qY;obtain⟨JS,JU,JV,JW,_⟩:=O.four xK;clear hfw2;cases h2:(Tr.cZ n.kind n.ai ks.length)with
   |false=>
    go_wp2
    go_ret;exact⟨af _ _ (by rw[D9.J,show(Tr.gI n.kind n.text)=true from by assumption,show(Tr.cZ n.kind n.ai ks.length)=false from by assumption];rfl),(lK (aF.J.trans aY.J))⟩
   |true=>
    go_wp2
    go_loopw [3] (fun i wr=>∃j:Nat,i=.int .i64 j∧j≤ks.length∧Hd (Tr.ku (n.kind==1) (ks.take j)=true)∧Hd (O wr w.heap.size 31 #[.int .i64 n.kind,.string ⟨n.text.toArray⟩,.int .i64 n.ai,.slice A ks.length cap])∧Hd (ag w wr)) (fun i _=>ks.length-(intOf i).toNat)
    case atStart=>exact⟨0,rfl,Nat.zero_le _,by simp[Tr.ku,Hd],by assumption,aF.J.trans aY.J⟩
    case round=>
     obtain⟨j,rfl,hj,HA,HB,HF⟩:=hrel
     by_cases c1:j<ks.length
     ·have d1:decide ((j:Int)<(ks.length:Int))=true:=dT (by omega)
      have dG:decide (j<ks.length)=true:=dT (by omega);have d1':(j:Int)<(ks.length:Int):=by omega
      obtain⟨g,o,sx,rfl,hg,m0,m1,m2,m3,wZ⟩:=HR.J.get j c1;have htx:=HR.J.texts j c1;have hcm:=Tr.dm (List.getElem_mem (l:=ks) (n:=j) c1);have HS:=I (Tr.Ij (n.kind==1) ks j c1);have HN:=I (Tr.MG (n.kind==1) ks j c1);have qA:=Touch.cell HF.J m0 (fun h=>h);have uH:=Touch.cell HF.J m1 (fun h=>h);have uI:=Touch.cell HF.J m2 (fun h=>h);have uJ:=Touch.cell HF.J m3 (fun h=>h);have hgr:g<wr.heap.size:=bL qA;have FX:=I wZ;clear m0 m1 m2 m3 wZ hg HR;generalize ks[j]=x at*;obtain⟨tL,tN,tO,tQ,_⟩:=O.four HB.J;have vY:O wr w.heap.size 31 #[.int .i64 n.kind,.string (⟨n.text.toArray⟩:ByteArray),.int .i64 n.ai,.slice (some ⟨g,o,none⟩) ks.length cap]:=HB.J;have zu:w.heap.size<wr.heap.size:=O.lt HB.J;cases h3:(x.kind==(1:Int))with
      |false=>
       have xU:(x.kind !=(1:Int))=true:=by rw[bne,h3];rfl
       cases h4:(n.kind==(1:Int))with
       |false=>
        have Iw:(n.kind !=(1:Int))=true:=by rw[bne,h4];rfl
        go_wp2
        go_quiet (fail)
        go_wp2
        go_ret;exact⟨af _ _ (by rw[D9.J,HN.J (by rw[show(x.kind==1)=false from by assumption,show(n.kind==1)=false from by assumption];rfl),Bool.and_false]),(lK HF.J)⟩
       |true=>
        have Iw:(n.kind !=(1:Int))=false:=by rw[bne,h4];rfl
        go_wp2_with fail
        refine aV (fun W=>ag wr W∧O W (w.heap.size) 31 #[.int .i64 n.kind,.string (⟨n.text.toArray⟩:ByteArray),.int .i64 n.ai,.slice (some ⟨g,o,none⟩) ks.length cap]) ⟨bf,(by first|exact yz|assumption|exact uW (by assumption))⟩ ?_;rintro w3 ⟨hfw3,rJ⟩;have bC:=I hfw3;clear hfw3 tL tN tO tQ vY;have JX:=cR (show World.cell? w3 ⟨w.heap.size,0,none⟩=some (.int .i64 n.kind)from O.cell rJ 0);have JY:=cR (show World.cell? w3 ⟨w.heap.size,1,none⟩=some (.string (⟨n.text.toArray⟩:ByteArray))from O.cell rJ 1);have JZ:=cR (show World.cell? w3 ⟨w.heap.size,2,none⟩=some (.int .i64 n.ai)from O.cell rJ 2);have J2:=cR (show World.cell? w3 ⟨w.heap.size,3,none⟩=some (.slice (some ⟨g,o,none⟩) ks.length cap)from O.cell rJ 3);obtain⟨Nu,Nv,Nw,Ny⟩:=yD bC.J qA uH uI uJ;clear qA uH uI uJ;have abJ:=cR Nu;have abK:=cR Nv;have abL:=cR Nw;have abM:=cR Ny;have Su:=I (iN (P:=Tryz.prog) w3 (fun w hw=>jw.J x sx _ (by omega) (by omega) (FX.J.fresh (Touch.trans (HF.J.trans bC.J) hw)) htx));refine wp_region_quiet_below (by kernel_rfl) (by kernel_rfl) ?_
        repeat(quiet_step (first|with_reducible exact Su.J _ _))
        refine wpQuiet_nil ?_;rintro w4 ⟨⟨_,_⟩,Nz⟩;have p9:ag w3 w4:=by rw[Nz];exact bE (below_regrown _ _ _)
        clear Nz JX JY JZ J2 abJ abK abL abM;have dw:=I (show ag w3 w4 from qW p9);have Ch:=Touch.blk p9 (uW rJ) (fun h=>h);clear rJ;obtain⟨abN,abO,abP,abQ,_⟩:=O.four Ch;obtain⟨ahI,ahJ,ahK,ahL⟩:=yD dw.J Nu Nv Nw Ny;clear Nu Nv Nw Ny;clear p9;cases h5:(Tr.form x)with
        |false=>
         go_wp2
         go_ret;exact⟨af _ _ (by rw[D9.J,HN.J (by rw[show(x.kind==1)=false from by assumption,show(n.kind==1)=true from by assumption,show(Tr.form x)=false from by assumption];rfl),Bool.and_false]),(lK (HF.J.trans (bC.J.trans dw.J)))⟩
        |true=>
         go_wp2
         go_roundw
         case rel=>exact⟨j+1,by go_num,c1,by have h:Tr.ku (n.kind==1) (ks.take (j+1))=true:=(by rw[HS.J,HA.J,show(x.kind==1)=false from by assumption,show(n.kind==1)=true from by assumption,show(Tr.form x)=true from by assumption];rfl);rw[show(n.kind==1)=true from by assumption]at h;exact h,Ch,(HF.J.trans (bC.J.trans dw.J))⟩
         case measure=>simp[intOf];omega
      |true=>
       have xU:(x.kind !=(1:Int))=false:=by rw[bne,h3];rfl
       cases h6:(n.kind==(1:Int))with
       |false=>
        have Np:(n.kind !=(1:Int))=true:=by rw[bne,h6];rfl
        go_wp2_with fail
        refine aV (fun W=>ag wr W∧O W (w.heap.size) 31 #[.int .i64 n.kind,.string (⟨n.text.toArray⟩:ByteArray),.int .i64 n.ai,.slice (some ⟨g,o,none⟩) ks.length cap]) ⟨bf,(by first|exact yz|assumption|exact uW (by assumption))⟩ ?_;rintro w5 ⟨uA,rM⟩;have dA:=I uA;clear uA tL tN tO tQ vY;have J3:=cR (show World.cell? w5 ⟨w.heap.size,0,none⟩=some (.int .i64 n.kind)from O.cell rM 0);have J4:=cR (show World.cell? w5 ⟨w.heap.size,1,none⟩=some (.string (⟨n.text.toArray⟩:ByteArray))from O.cell rM 1);have J5:=cR (show World.cell? w5 ⟨w.heap.size,2,none⟩=some (.int .i64 n.ai)from O.cell rM 2);have J6:=cR (show World.cell? w5 ⟨w.heap.size,3,none⟩=some (.slice (some ⟨g,o,none⟩) ks.length cap)from O.cell rM 3);obtain⟨NA,NB,NC,ND⟩:=yD dA.J qA uH uI uJ;clear qA uH uI uJ;have abR:=cR NA;have abS:=cR NB;have abT:=cR NC;have abU:=cR ND;have Sv:=I (iN (P:=Tryz.prog) w5 (fun w hw=>jw.J x sx _ (by omega) (by omega) (FX.J.fresh (Touch.trans (HF.J.trans dA.J) hw)) htx));refine wp_region_quiet_below (by kernel_rfl) (by kernel_rfl) ?_
        repeat(quiet_step (first|with_reducible exact Sv.J _ _))
        refine wpQuiet_nil ?_;rintro w6 ⟨⟨_,_⟩,NF⟩;have qB:ag w5 w6:=by rw[NF];exact bE (below_regrown _ _ _)
        clear NF J3 J4 J5 J6 abR abS abT abU;have bT:=I (show ag w5 w6 from qW qB);have Ci:=Touch.blk qB (uW rM) (fun h=>h);clear rM;obtain⟨abV,abW,abX,abY,_⟩:=O.four Ci;obtain⟨ahM,ahN,ahO,ahP⟩:=yD bT.J NA NB NC ND;clear NA NB NC ND;clear qB;cases h7:(Tr.form x)with
        |false=>
         go_wp2
         go_ret;exact⟨af _ _ (by rw[D9.J,HN.J (by rw[show(x.kind==1)=true from by assumption,show(n.kind==1)=false from by assumption,show(Tr.form x)=false from by assumption];rfl),Bool.and_false]),(lK (HF.J.trans (dA.J.trans bT.J)))⟩
        |true=>
         go_wp2
         go_roundw
         case rel=>exact⟨j+1,by go_num,c1,by have h:Tr.ku (n.kind==1) (ks.take (j+1))=true:=(by rw[HS.J,HA.J,show(x.kind==1)=true from by assumption,show(n.kind==1)=false from by assumption,show(Tr.form x)=true from by assumption];rfl);rw[show(n.kind==1)=false from by assumption]at h;exact h,Ci,(HF.J.trans (dA.J.trans bT.J))⟩
         case measure=>simp[intOf];omega
       |true=>
        have Np:(n.kind !=(1:Int))=false:=by rw[bne,h6];rfl
        go_wp2
        go_quiet (fail)
        go_wp2
        go_ret;exact⟨af _ _ (by rw[D9.J,HN.J (by rw[show(x.kind==1)=true from by assumption,show(n.kind==1)=true from by assumption];rfl),Bool.and_false]),(lK HF.J)⟩
     ·have d1:decide ((j:Int)<(ks.length:Int))=false:=dF (by omega)
      have dG:decide (j<ks.length)=false:=dF (by omega);obtain rfl:j=ks.length:=by omega
      obtain⟨tL,tN,tO,tQ,_⟩:=O.four HB.J;have vY:O wr w.heap.size 31 #[.int .i64 n.kind,.string (⟨n.text.toArray⟩:ByteArray),.int .i64 n.ai,.slice A ks.length cap]:=HB.J;have zu:w.heap.size<wr.heap.size:=O.lt HB.J;go_wp2
      go_ret;exact⟨af _ _ (by have:=HA.J;rw[List.take_length]at this;rw[D9.J,this,show(Tr.gI n.kind n.text)=true from by assumption,show(Tr.cZ n.kind n.ai ks.length)=true from by assumption];rfl),(lK HF.J)⟩
theorem Vf(m:Nat):∀(n:Tr.Nd) (sl:Value) (w:World),Tr.count n≤m→m≤1000000→aO w n.kids sl→n.text.length≤maxLen→
  Calls Tryz.prog 36 #[.agg #[.int .i64 n.kind,.string ⟨n.text.toArray⟩,.int .i64 n.ai,sl]] w fun e w'=>e=.returned (.int .i64 (Tr.count n))∧ag w w':=by
 induction m with
 |zero=>intro n _ _ h;have:=Tr.gQ n;omega
 |succ m ih=>
  intro n sl w hc hm hr ht;obtain⟨A,cap,rfl⟩:=hr.slice;have hlen:=hr.len;unfold maxLen at hlen ht;have jw:=I ih;have HR:=I hr;have D9:=I (Tr.aI n);have hkc:Tr.aj n.kids≤m:=by have:=Tr.aI n;omega
  have hkl:=Tr.gL n.kids;clear ih hr;generalize n.kids=ks at*;go_enter Tryz.func36,Tryz.ntmps36;go_wp2
  go_loopw [3,4] (fun c i wr=>∃j:Nat,c=.int .i64 ((1+Tr.aj (ks.take j):Nat):Int)∧i=.int .i64 j∧j≤ks.length∧Hd (O wr w.heap.size 31 #[.int .i64 n.kind,.string ⟨n.text.toArray⟩,.int .i64 n.ai,.slice A ks.length cap])∧Hd (ag w wr)) (fun _ i _=>ks.length-(intOf i).toNat)
  case atStart=>exact⟨0,by simp[Tr.aj],rfl,Nat.zero_le _,O.new _ _ _,(M _ _).alloc _⟩
  case round=>
   obtain⟨j,rfl,rfl,hj,HB,HF⟩:=hrel
   by_cases c1:j<ks.length
   ·have d1:decide ((j:Int)<(ks.length:Int))=true:=dT (by omega)
    have dG:decide (j<ks.length)=true:=dT (by omega);have d1':(j:Int)<(ks.length:Int):=by omega
    obtain⟨g,o,sx,rfl,hg,m0,m1,m2,m3,wZ⟩:=HR.J.get j c1;have htx:=HR.J.texts j c1;have hcm:=Tr.dm (List.getElem_mem (l:=ks) (n:=j) c1);have HS:=I (Tr.oo ks j c1);have hct:=Tr.kV ks j;have hcs:Tr.aj (ks.take j)+Tr.count ks[j]≤Tr.aj ks:=by rw[←HS.J];exact Tr.kV ks (j+1)
    have qA:=Touch.cell HF.J m0 (fun h=>h);have uH:=Touch.cell HF.J m1 (fun h=>h);have uI:=Touch.cell HF.J m2 (fun h=>h);have uJ:=Touch.cell HF.J m3 (fun h=>h);have hgr:g<wr.heap.size:=bL qA;have FX:=I wZ;clear m0 m1 m2 m3 wZ hg HR;generalize ks[j]=x at*;obtain⟨tL,tN,tO,tQ,_⟩:=O.four HB.J;have vY:O wr w.heap.size 31 #[.int .i64 n.kind,.string (⟨n.text.toArray⟩:ByteArray),.int .i64 n.ai,.slice (some ⟨g,o,none⟩) ks.length cap]:=HB.J;have zu:w.heap.size<wr.heap.size:=O.lt HB.J;go_wp2_with fail
    refine Calls.mono (jw.J x sx _ (by omega) (by omega) (FX.J.fresh (lK HF.J)) htx) ?_;rintro _ w1 ⟨rfl,nO⟩;have aF:=I (show ag wr w1 from qW nO);have qY:=Touch.blk nO (uW vY) (fun h=>h);clear tL tN tO tQ vY;obtain⟨y7,y8,y9,zb,_⟩:=O.four qY;obtain⟨adg,adh,adi,adj⟩:=yD aF.J qA uH uI uJ;clear qA uH uI uJ;clear nO;go_wp2
    go_roundw
    case rel=>exact⟨j+1,by rw[HS.J];go_num,by go_num,c1,qY,(HF.J.trans aF.J)⟩
    case measure=>simp[intOf];omega
   ·have d1:decide ((j:Int)<(ks.length:Int))=false:=dF (by omega)
    have dG:decide (j<ks.length)=false:=dF (by omega);obtain rfl:j=ks.length:=by omega
    obtain⟨tL,tN,tO,tQ,_⟩:=O.four HB.J;have vY:O wr w.heap.size 31 #[.int .i64 n.kind,.string (⟨n.text.toArray⟩:ByteArray),.int .i64 n.ai,.slice A ks.length cap]:=HB.J;have zu:w.heap.size<wr.heap.size:=O.lt HB.J;go_wp2
    go_ret;exact⟨by rw[D9.J];first|(have:=List.take_length (l:=ks);simp_all)|rfl,(lK HF.J)⟩
theorem Vg(m:Nat):∀(n:Tr.Nd) (sl:Value) (w:World),Tr.count n≤m→m≤1000000→aO w n.kids sl→n.text.length≤maxLen→
  Calls Tryz.prog 37 #[.agg #[.int .i64 n.kind,.string ⟨n.text.toArray⟩,.int .i64 n.ai,sl]] w fun e w'=>e=.returned (.int .i64 (Tr.depth n))∧ag w w':=by
 induction m with
 |zero=>intro n _ _ h;have:=Tr.gQ n;omega
 |succ m ih=>
  intro n sl w hc hm hr ht;obtain⟨A,cap,rfl⟩:=hr.slice;have hlen:=hr.len;unfold maxLen at hlen ht;have jw:=I ih;have HR:=I hr;have D9:=I (Tr.mP n);have hkc:Tr.aj n.kids≤m:=by have:=Tr.aI n;omega
  have hkl:=Tr.gL n.kids;have hdl:=KL n.kids;clear ih hr;generalize n.kids=ks at*;go_enter Tryz.func37,Tryz.ntmps37;go_wp2
  go_loopw [3,4] (fun c i wr=>∃j:Nat,c=.int .i64 ((Tr.aP (ks.take j):Nat):Int)∧i=.int .i64 j∧j≤ks.length∧Hd (O wr w.heap.size 31 #[.int .i64 n.kind,.string ⟨n.text.toArray⟩,.int .i64 n.ai,.slice A ks.length cap])∧Hd (ag w wr)) (fun _ i _=>ks.length-(intOf i).toNat)
  case atStart=>exact⟨0,by simp[Tr.aP],rfl,Nat.zero_le _,O.new _ _ _,(M _ _).alloc _⟩
  case round=>
   obtain⟨j,rfl,rfl,hj,HB,HF⟩:=hrel
   by_cases c1:j<ks.length
   ·have d1:decide ((j:Int)<(ks.length:Int))=true:=dT (by omega)
    have dG:decide (j<ks.length)=true:=dT (by omega);have d1':(j:Int)<(ks.length:Int):=by omega
    obtain⟨g,o,sx,rfl,hg,m0,m1,m2,m3,wZ⟩:=HR.J.get j c1;have htx:=HR.J.texts j c1;have hcm:=Tr.dm (List.getElem_mem (l:=ks) (n:=j) c1);have HS:=I (xJ ks j c1);have hdj:=JR ks j;have hdx:=Nt ks[j];have qA:=Touch.cell HF.J m0 (fun h=>h);have uH:=Touch.cell HF.J m1 (fun h=>h);have uI:=Touch.cell HF.J m2 (fun h=>h);have uJ:=Touch.cell HF.J m3 (fun h=>h);have hgr:g<wr.heap.size:=bL qA;have FX:=I wZ;clear m0 m1 m2 m3 wZ hg HR;generalize ks[j]=x at*;obtain⟨tL,tN,tO,tQ,_⟩:=O.four HB.J;have vY:O wr w.heap.size 31 #[.int .i64 n.kind,.string (⟨n.text.toArray⟩:ByteArray),.int .i64 n.ai,.slice (some ⟨g,o,none⟩) ks.length cap]:=HB.J;have zu:w.heap.size<wr.heap.size:=O.lt HB.J;go_wp2_with fail
    refine Calls.mono (jw.J x sx _ (by omega) (by omega) (FX.J.fresh (lK HF.J)) htx) ?_;rintro _ w1 ⟨rfl,nO⟩;have aF:=I (show ag wr w1 from qW nO);have qY:=Touch.blk nO (uW vY) (fun h=>h);clear tL tN tO tQ vY;obtain⟨y7,y8,y9,zb,_⟩:=O.four qY;obtain⟨adg,adh,adi,adj⟩:=yD aF.J qA uH uI uJ;clear qA uH uI uJ;clear nO;go_wp2
    go_roundw
    case rel=>exact⟨j+1,by rw[HS.J];go_num,by go_num,c1,qY,(HF.J.trans aF.J)⟩
    case measure=>simp[intOf];omega
   ·have d1:decide ((j:Int)<(ks.length:Int))=false:=dF (by omega)
    have dG:decide (j<ks.length)=false:=dF (by omega);obtain rfl:j=ks.length:=by omega
    obtain⟨tL,tN,tO,tQ,_⟩:=O.four HB.J;have vY:O wr w.heap.size 31 #[.int .i64 n.kind,.string (⟨n.text.toArray⟩:ByteArray),.int .i64 n.ai,.slice A ks.length cap]:=HB.J;have zu:w.heap.size<wr.heap.size:=O.lt HB.J;go_wp2
    go_ret;exact⟨by rw[D9.J];first|(have:=List.take_length (l:=ks);simp_all)|rfl,(lK HF.J)⟩
end
end Go.Proofs.YtnbeemkfmlfgfaaGreatDoor
