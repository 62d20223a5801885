/- Part 32 of 48 of a proof. No condition. -/
import Derived.Test.YtnbeemkfmlfgfaaGreatDoorTie
import Derived.Test.YtnbeemkfmlfgfaaGreatDoorCards
import Derived.OpenShut
import Derived.ChangeSlices
import Derived.LaidMore
import Derived.Lay
import Derived.SevenTiedAt
import Derived.Stop.Joined
import Derived.Test.YtnbeemkfmlfgfaaGreatDoorTm31
import Derived.Test.YtnbeemkfmlfgfaaGreatDoorTm27
import Derived.Test.YtnbeemkfmlfgfaaGreatDoorTm10
set_option maxRecDepth 100000
set_option maxHeartbeats 4000000
namespace Go.Proofs.YtnbeemkfmlfgfaaGreatDoor
section
open Go.RowKit
open U (E aA)
theorem Xj(l:List E)(j:Nat)(h:j<l.length)(p:E→Bool):(l.take (j+1)).all p=((l.take j).all p&&p l[j]):=by
 rw[List.take_add_one,List.getElem?_eq_getElem h,List.all_append];simp
theorem acv(l:List E)(j:Nat)(h:j<l.length)(p:E→Bool)(hn:p l[j]=false):l.all p=false:=by
 rw[List.all_eq_false];exact⟨l[j],List.getElem_mem h,by rw[hn];decide⟩
theorem mR(t:List UInt8)(b:Bool)(h:t.isEmpty=b):(t==([]:List UInt8))=b∧(t !=([]:List UInt8))=(!b)∧((⟨t.toArray⟩:ByteArray)==(⟨#[]⟩:ByteArray))=b∧((⟨t.toArray⟩:ByteArray) !=(⟨#[]⟩:ByteArray))=(!b)∧(⟨t.toArray⟩:ByteArray).toList.isEmpty=b:=by
 have h1:(t==([]:List UInt8))=b:=by rw[←h];cases t<;>rfl
 have h2:((⟨t.toArray⟩:ByteArray)==(⟨#[]⟩:ByteArray))=b:=kC t [] b h1;exact⟨h1,by rw[bne,h1],h2,by rw[bne,h2],by rw[ByteArray.toList_eq];exact h⟩
def Hw(e:E):Prop:=∀(va vk:Value) (w:World),bN w e va vk→Calls Tryz.prog 46 #[ev e va vk] w fun x w'=>x=.returned (.bool (U.proper e))∧ag w w'
theorem OM(e:E)(ih:∀x∈e.kids,Hw x):Hw e:=by
 intro va vk w hr;obtain⟨A,ca,hva⟩:=hr.1.slice;obtain⟨B,cb,hvk⟩:=hr.2.1.slice;have HR:=I hr;have jw:=I ih;obtain⟨n,ats,ks,t⟩:=e;have hl1:ats.length≤maxLen:=by obtain⟨_,_,_,h,_⟩:=hr.1;exact h.1
 have hl2:ks.length≤maxLen:=hr.2.1.len;have hnl:n.length≤maxLen:=hr.2.2.1;have htl:t.length≤maxLen:=hr.2.2.2;unfold maxLen at hl1 hl2 hnl htl;have EM:=I (show U.proper (.mk n ats ks t)=(U.eG n&&U.bG t&&(t.isEmpty||ks.isEmpty)&&decide (ats.length≤8)&&U.dQ ats&&ks.all U.proper) by rw[U.mX,U.kZ];rfl);replace hva:va=.slice A ats.length ca:=hva;replace hvk:vk=.slice B ks.length cb:=hvk;subst hva;subst hvk;unfold ev;simp only[E.name,E.kids,E.text]at jw⊢;clear hr ih;generalize U.proper (.mk n ats ks t)=PR at EM⊢;have HK:=I (show dL w ks _ from HR.J.2.1);have HA:=I (show dW w ats _ from HR.J.1);have ng:=I (fun W:World=>EW n W hnl);have yJ:=I (fun W:World=>Gq t W htl);have HB0:=I (O.new w 45 #[.string ⟨n.toArray⟩,.slice A ats.length ca,.slice B ks.length cb,.string ⟨t.toArray⟩]);have dh:=I ((M (fun _=>False) w).alloc (.cells #[.string ⟨n.toArray⟩,.slice A ats.length ca,.slice B ks.length cb,.string ⟨t.toArray⟩] 45));cases hn:U.eG n with
 |false=>
  have qo:=I (show PR=false by rw[EM.J,hn];rfl);go_enter Tryz.func46,Tryz.ntmps46;go_wp2_with fail
  refine(ng.J _).mono ?_;rintro _ w1 ⟨rfl,hf1⟩;have aF:=I (dh.J.trans hf1);clear hf1;rw[hn];go_wp2
  go_ret;exact⟨af _ _ qo.J.symm,aF.J⟩
 |true=>
 cases c1:decide ((8:Int)<(ats.length:Int))with
 |true=>
  have qo:=I (show PR=false by rw[EM.J,show decide (ats.length≤8)=false from dF (by have:=of_decide_eq_true c1;omega)];simp);go_enter Tryz.func46,Tryz.ntmps46;go_wp2_with fail
  refine(ng.J _).mono ?_;rintro _ w1 ⟨rfl,hf1⟩;have aF:=I (dh.J.trans hf1);obtain⟨q0,q1,q2,q3,_⟩:=O.four (hf1.blk HB0.J fun h=>h);clear hf1;rw[hn];go_wp2
  go_ret;exact⟨af _ _ qo.J.symm,aF.J⟩
 |false=>
 have Ev:=I (show decide (ats.length≤8)=true from dT (by have:=of_decide_eq_false c1;omega));cases hv:U.bG t with
 |false=>
  have qo:=I (show PR=false by rw[EM.J,hv];simp);go_enter Tryz.func46,Tryz.ntmps46;go_wp2_with fail
  refine(ng.J _).mono ?_;rintro _ w1 ⟨rfl,hf1⟩;have aF:=I (dh.J.trans hf1);obtain⟨q0,q1,q2,q3,_⟩:=O.four (hf1.blk HB0.J fun h=>h);clear hf1;rw[hn];go_wp2_with fail
  refine(yJ.J _).mono ?_;rintro _ w2 ⟨rfl,hf2⟩;have aY:=I (aF.J.trans hf2);clear hf2;rw[hv];go_wp2
  go_ret;exact⟨af _ _ qo.J.symm,aY.J⟩
 |true=>
 have iV:(t.isEmpty=false∧(decide ((0:Int)<(ks.length:Int))=true∧decide (0<ks.length)=true)∧PR=false)∨((t.isEmpty=true∨(t.isEmpty=false∧decide ((0:Int)<(ks.length:Int))=false∧decide (0<ks.length)=false))∧PR=(U.dQ ats&&ks.all U.proper)):=by
  have h:=EM.J;rw[hn,hv,Ev.J]at h;cases ht:t.isEmpty with
  |true=>exact .inr ⟨.inl rfl,by rw[h,ht];simp⟩
  |false=>
   cases hk:ks with
   |nil=>exact .inr ⟨.inr ⟨rfl,rfl,rfl⟩,by rw[h,ht,hk];simp⟩
   |cons x xs=>exact .inl ⟨rfl,⟨by rw[List.length_cons];exact dT (by omega),by rw[List.length_cons];exact dT (by omega)⟩,by rw[h,ht,hk];simp⟩
 clear EM Ev
 rcases iV with⟨hte,⟨c2,c2n⟩,hpr⟩|⟨hte|⟨hte,c2,c2n⟩,hpr⟩
 focus
  obtain⟨z1,z2,z3,z4,z5⟩:=mR t _ hte;simp only[Bool.not_false]at z2 z4;have qo:=I hpr;clear hpr;go_enter Tryz.func46,Tryz.ntmps46;go_wp2_with fail
  refine(ng.J _).mono ?_;rintro _ w1 ⟨rfl,hf1⟩;have aF:=I (dh.J.trans hf1);have HB1:=I (hf1.blk HB0.J fun h=>h);obtain⟨q0,q1,q2,q3,_⟩:=O.four HB1.J;clear hf1;rw[hn];go_wp2_with fail
  refine(yJ.J _).mono ?_;rintro _ w2 ⟨rfl,hf2⟩;have aY:=I (aF.J.trans hf2);clear q0 q1 q2 q3;obtain⟨q0,q1,q2,q3,_⟩:=O.four (hf2.blk HB1.J fun h=>h);clear hf2;rw[hv];go_wp2
  go_ret;exact⟨af _ _ qo.J.symm,aY.J⟩
 all_goals
  obtain⟨z1,z2,z3,z4,z5⟩:=mR t _ hte;simp only[Bool.not_false,Bool.not_true]at z2 z4;have qo:=I hpr;clear hpr;go_enter Tryz.func46,Tryz.ntmps46;go_wp2_with fail
  refine(ng.J _).mono ?_;rintro _ w1 ⟨rfl,hf1⟩;have aF:=I (dh.J.trans hf1);have HB1:=I (hf1.blk HB0.J fun h=>h);obtain⟨q0,q1,q2,q3,_⟩:=O.four HB1.J;clear hf1;rw[hn];go_wp2_with fail
  refine(yJ.J _).mono ?_;rintro _ w2 ⟨rfl,hf2⟩;have aY:=I (aF.J.trans hf2);have HB2:=I (hf2.blk HB1.J fun h=>h);clear q0 q1 q2 q3;obtain⟨q0,q1,q2,q3,_⟩:=O.four HB2.J;clear hf2 aF HB1;rw[hv];go_wp2_with fail
  clear z1 z2 z3 z4 z5 q0 q1 q2 q3 hte hn hv c1 ng yJ dh HB0
  go_loopw [3] (fun i wr=>∃j:Nat,i=.int .i64 j∧j≤ats.length∧Hd (U.dQ (ats.take j)=true)∧Hd (O wr w.heap.size 45 #[.string ⟨n.toArray⟩,.slice A ats.length ca,.slice B ks.length cb,.string ⟨t.toArray⟩])∧Hd (ag w wr)) (fun i _=>ats.length-(intOf i).toNat)
  case atStart=>exact⟨0,rfl,Nat.zero_le _,I rfl,HB2,aY⟩
  case round=>
   obtain⟨j,rfl,hj,qU,HB,HF⟩:=hrel;obtain⟨q0,q1,q2,q3,_,_,_,_,hgl⟩:=O.four HB.J
   by_cases c1:j<ats.length
   ·have d1:decide ((j:Int)<(ats.length:Int))=true:=dT (by omega)
    have d1':(j:Int)<(ats.length:Int):=by omega
    have dG:decide (j<ats.length)=true:=dT c1;obtain⟨g,o,rfl,hg2,m0,m1,hx1,hx2⟩:=HA.J.get j c1;have m0:=HF.J.cell m0 (fun h=>h);have m1:=HF.J.cell m1 (fun h=>h);have OO:=I (U.Eb ats j c1);have Lv:=I (U.yN ats (j+1));have Vt:=I (HA.J.fresh HF.J);unfold maxLen at hx1 hx2;generalize ats[j]=x at*;have HN1:=I (fun W:World=>EW x.1 W hx1);have HV1:=I (fun W:World=>Gq x.2 W hx2);clear hx1 hx2;go_wp2_with fail
    refine(HN1.J _).mono ?_;rintro _ w3 ⟨rfl,hf3⟩;have bC:=I (HF.J.trans hf3);have HB3:=I (hf3.blk HB.J fun h=>h);have HA3:=I (Vt.J.fresh hf3);have m0:=hf3.cell m0 (fun h=>h);have m1:=hf3.cell m1 (fun h=>h);clear hf3 q0 q1 q2 q3 hgl;obtain⟨q0,q1,q2,q3,_,_,_,_,hgl⟩:=O.four HB3.J;cases hxn:U.eG x.1 with
    |false=>
     have si:=I (show PR=false by rw[qo.J,Lv.J (by rw[OO.J,hxn];simp)];rfl);go_wp2
     go_ret;exact⟨af _ _ si.J.symm,bC.J⟩
    |true=>
    go_wp2_with fail
    refine(HV1.J _).mono ?_;rintro _ w4 ⟨rfl,jh⟩;have dw:=I (bC.J.trans jh);have iI:=I (jh.blk HB3.J fun h=>h);have HA4:=I (HA3.J.fresh jh);have m0:=jh.cell m0 (fun h=>h);clear jh q0 q1 q2 q3 hgl m1;obtain⟨q0,q1,q2,q3,_,_,_,_,hgl⟩:=O.four iI.J;cases hxv:U.bG x.2 with
    |false=>
     have si:=I (show PR=false by rw[qo.J,Lv.J (by rw[OO.J,hxv];simp)];rfl);go_wp2
     go_ret;exact⟨af _ _ si.J.symm,dw.J⟩
    |true=>
    have ad1:=I (show U.dQ (ats.take (j+1))=!(ats.take j).any (fun y=>y.1==x.1) by rw[OO.J,hxn,hxv,qU.J];simp);clear OO hxn hxv HN1 HV1;go_wp2_with fail
    clear q0 q1 q2 q3 d1 dG
    go_loopw [4] (fun i wr=>∃k:Nat,i=.int .i64 k∧k≤j∧Hd ((ats.take k).any (fun y=>y.1==x.1)=false)∧Hd (O wr w.heap.size 45 #[.string ⟨n.toArray⟩,.slice (some ⟨g,o,none⟩) ats.length ca,.slice B ks.length cb,.string ⟨t.toArray⟩])∧Hd (ag w wr)∧wr.cell? ⟨g,o+j*2,none⟩=some (.string ⟨x.1.toArray⟩)) (fun i _=>j-(intOf i).toNat)
    case atStart=>exact⟨0,rfl,Nat.zero_le _,I rfl,iI,dw,m0⟩
    case round=>
     obtain⟨k,rfl,hk,qO,bV,dA,m5⟩:=hrel;obtain⟨q0,q1,q2,q3,_⟩:=O.four bV.J
     by_cases c2:k<j
     ·have d2:decide ((k:Int)<(j:Int))=true:=dT (by omega)
      have Ea:decide (k<j)=true:=dT c2;have d2':(k:Int)<(ats.length:Int):=by omega
      obtain⟨g',o',hA',ajl,n0,n1,_,_⟩:=(HA.J.fresh dA.J).get k (by omega);cases hA';have HSK:=I (Cq ats k (by omega) (fun y=>y.1==x.1))
      have HJK:=I (show ats[k]'(by omega)∈ats.take j by
       rw[List.mem_take_iff_getElem];exact⟨k,by omega,rfl⟩)
      generalize hy:ats[k]'(by omega)=y at*;clear hy;cases hxy:(y.1==x.1)with
      |true=>
       have si:=I (show PR=false by
        rw[qo.J,Lv.J (by
         rw[ad1.J,show(ats.take j).any (fun y=>y.1==x.1)=true from List.any_eq_true.2 ⟨y,HJK.J,hxy⟩];rfl)];rfl)
       clear n1;go_wp2
       go_quiet (fail)
       go_wp2
       go_ret;exact⟨af _ _ si.J.symm,dA.J.drewN _⟩
      |false=>
       have Cz:=I (show(ats.take (k+1)).any (fun y=>y.1==x.1)=false by rw[HSK.J,qO.J,hxy];rfl);clear n1;go_wp2
       go_quiet (fail)
       go_wp2_with fail
       exact⟨⟨k+1,by go_num,c2,Cz,I (bV.J.drewN _),I (dA.J.drewN _),(M (fun _=>False) _).drewN _|>.cell m5 (fun h=>h)⟩,by simp[intOf];omega⟩
     ·have d2:decide ((k:Int)<(j:Int))=false:=dF (by omega)
      have Ea:decide (k<j)=false:=dF c2;obtain rfl:k=j:=by omega
      have ZW:=I (show U.dQ (ats.take (k+1))=true by rw[ad1.J,qO.J];rfl);go_wp2_with fail
      exact⟨⟨k+1,by go_num,c1,ZW,bV,dA⟩,by simp[intOf];omega⟩
   ·have d1:decide ((j:Int)<(ats.length:Int))=false:=dF (by omega)
    have dG:decide (j<ats.length)=false:=dF c1;obtain rfl:j=ats.length:=by omega
    have qi:=I (show PR=ks.all U.proper by
     have h:=qU.J;rw[List.take_length]at h;rw[qo.J,h,Bool.true_and])
    go_wp2_with fail
    clear d1 dG q0 q1 q2 q3 hgl qU qo
    go_loopw [5] (fun i wr=>∃k:Nat,i=.int .i64 k∧k≤ks.length∧Hd ((ks.take k).all U.proper=true)∧Hd (O wr w.heap.size 45 #[.string ⟨n.toArray⟩,.slice A ats.length ca,.slice B ks.length cb,.string ⟨t.toArray⟩])∧Hd (ag w wr)) (fun i _=>ks.length-(intOf i).toNat)
    case atStart=>exact⟨0,rfl,Nat.zero_le _,I rfl,HB,HF⟩
    case round=>
     obtain⟨k,rfl,hk,Gh,HB,HF⟩:=hrel;obtain⟨q0,q1,q2,q3,_,_,_,_,hgl⟩:=O.four HB.J
     by_cases c2:k<ks.length
     ·have d2:decide ((k:Int)<(ks.length:Int))=true:=dT (by omega)
      have d2':(k:Int)<(ks.length:Int):=by omega
      have Ea:decide (k<ks.length)=true:=dT c2;obtain⟨g,o,va,vk,rfl,hg,m0,m1,m2,m3,hrx⟩:=HK.J.get k c2;obtain⟨e0,e1,e2,e3⟩:=yD HF.J m0 m1 m2 m3;obtain⟨Aa,aa,hva⟩:=hrx.1.slice;obtain⟨Ak,ak,hvk⟩:=hrx.2.1.slice;have HS:=I (Xj ks k c2 U.proper);have HN:=I (acv ks k c2 U.proper);have HC:=I (fun(W:World) (hw:bN W ks[k] va vk)=>jw.J ks[k] (List.getElem_mem c2) va vk W hw);have HX:=I (hrx.fresh HF.J);clear m0 m1 m2 m3 hrx;generalize ks[k]=x at*;generalize U.proper x=px at*;obtain⟨xn,xa,xk,xt⟩:=x;unfold ev at HC;simp only[E.name,E.attrs,E.kids,E.text]at hva hvk e0 e1 e2 e3 HC;subst hva hvk;go_wp2_with fail
      refine(HC.J _ HX.J).mono ?_;rintro _ w5 ⟨rfl,iJ⟩;have dA:=I (HF.J.trans iJ);have bV:=I (iJ.blk HB.J fun h=>h);clear iJ;cases px with
      |false=>
       have si:=I (show PR=false by rw[qi.J,HN.J rfl]);go_wp2
       go_ret;exact⟨af _ _ si.J.symm,dA.J⟩
      |true=>
       go_wp2
       go_roundw
       case rel=>exact⟨k+1,by go_num,c2,I (by rw[HS.J,Gh.J];rfl),bV,dA⟩
       case measure=>simp[intOf];omega
     ·have d2:decide ((k:Int)<(ks.length:Int))=false:=dF (by omega)
      have Ea:decide (k<ks.length)=false:=dF c2;obtain rfl:k=ks.length:=by omega
      have si:=I (show PR=true by rw[qi.J];have:=Gh.J;rwa [List.take_length]at this);go_wp2
      go_ret;exact⟨af _ _ si.J.symm,HF.J⟩
theorem OP(e:E)(va vk:Value)(w:World)(hr:bN w e va vk)(hc:U.count e≤1000000):
  Calls Tryz.prog 24 #[ev e va vk] w fun x w'=>x=.returned (.bool (U.valid e))∧ag w w':=by
 have qo:=I (fun(W:World) (h:bN W e va vk)=>U.E.ind (p:=Hw) OM e va vk W h);have HCO:=I (fun(W:World) (h:bN W e va vk)=>Ub e va vk W h hc);have HDE:=I (fun(W:World) (h:bN W e va vk)=>Uc e va vk W h hc);have HV:=I (show U.valid e=(U.proper e&&decide (U.count e≤3000)&&decide (U.depth e≤64))from rfl);have hdl:U.depth e≤1000000:=by have h1:=AA e.kids;have h2:=U.mP e;have h3:=U.aI e;omega
 have HR:=I hr;obtain⟨A,ca,hva⟩:=hr.1.slice;obtain⟨B,cb,hvk⟩:=hr.2.1.slice;clear hr;generalize U.valid e=V at*;generalize U.proper e=P at*;generalize U.count e=c at*;generalize U.depth e=d at*;obtain⟨n,ats,ks,t⟩:=e;replace hva:va=.slice A ats.length ca:=hva;replace hvk:vk=.slice B ks.length cb:=hvk;subst hva;subst hvk;unfold ev at*;simp only[E.name,E.text]at*;have HB0:=I (O.new w 45 #[.string ⟨n.toArray⟩,.slice A ats.length ca,.slice B ks.length cb,.string ⟨t.toArray⟩]);have dh:=I ((M (fun _=>False) w).alloc (.cells #[.string ⟨n.toArray⟩,.slice A ats.length ca,.slice B ks.length cb,.string ⟨t.toArray⟩] 45));go_enter Tryz.func24,Tryz.ntmps24;go_wp2_with fail
 refine(qo.J _ (HR.J.fresh dh.J)).mono ?_;rintro _ w1 ⟨rfl,hf1⟩;have aF:=I (dh.J.trans hf1);have HB1:=I (hf1.blk HB0.J fun h=>h);clear hf1 dh HB0;cases P with
 |false=>
  have HZ:=I (show V=false by rw[HV.J];rfl);go_wp2
  go_ret;exact⟨af _ _ HZ.J.symm,aF.J⟩
 |true=>
 obtain⟨q0,q1,q2,q3,_⟩:=O.four HB1.J;go_wp2_with fail
 refine(HCO.J _ (HR.J.fresh aF.J)).mono ?_;rintro _ w2 ⟨rfl,hf2⟩;have aY:=I (aF.J.trans hf2);have HB2:=I (hf2.blk HB1.J fun h=>h);clear hf2 aF HB1 q0 q1 q2 q3;obtain⟨q0,q1,q2,q3,_⟩:=O.four HB2.J
 by_cases c1:c≤3000
 ·have d1:decide ((c:Int)≤(3000:Int))=true:=dT (by omega)
  have dG:decide (c≤3000)=true:=dT c1;go_wp2_with fail
  refine(HDE.J _ (HR.J.fresh aY.J)).mono ?_;rintro _ w3 ⟨rfl,hf3⟩;have bC:=I (aY.J.trans hf3)
  have HZ:=I (show V=decide ((d:Int)≤(64:Int)) by
   rw[HV.J,dG,Bool.true_and,Bool.true_and,decide_eq_decide];omega)
  clear hf3;go_wp2
  go_ret;exact⟨af _ _ HZ.J.symm,bC.J⟩
 ·have d1:decide ((c:Int)≤(3000:Int))=false:=dF (by omega)
  have dG:decide (c≤3000)=false:=dF c1;have HZ:=I (show V=false by rw[HV.J,dG];rfl);go_wp2
  go_ret;exact⟨af _ _ HZ.J.symm,aY.J⟩
end
section
open Go.ChangeShapes Go.WideShapes Go.ChangeAt Go.RowKit
open Tr (Nd)
open U (E aA eO kX jr nJ)
theorem LA(n:Nd)(h:Tr.valid n=true):nN n=eO (nJ n)∧lZ n=0:=by
 have h1:=U.TP n h;unfold nN lZ zO vz;rw[if_pos h,if_pos h,if_pos h1,if_pos h1];exact⟨rfl,rfl⟩
end
namespace Xp
open U (E aA Bytes letter inner aK)
structure Q where
 l:Bytes
 k:Int
 b:Bool
def Hy(k:Int):Int:=Go.IntKind.i64.wrap k
def aR(q:Q):UInt8:=if q.b then 0 else q.l.headD 0
def dD(q:Q):Q:={q with b:=true}
def aM(c:UInt8)(q:Q):Q:=if aR q=c then {q with l:=q.l.drop 1} else dD q
def bA:Bytes→Q→Q
 |[],q=>q
 |c::s,q=>bA s (aM c q)
def j4(q:Q):Bytes:=if q.b then []else q.l.takeWhile white
def bB(q:Q):Q:=if q.b then q else {q with l:=q.l.dropWhile white}
def kY(q:Q):Bytes:=if letter (aR q)then q.l.takeWhile inner else []
def dz(q:Q):Q:=if letter (aR q)then {q with l:=q.l.dropWhile inner} else dD q
def kN(n:Nat)(c:UInt8):Bool:=decide (c<32)||decide (126<c)||c==60||n==200
def iA(n:Nat)(q:Q):Bytes×Q:=
 if kN n (aR q)then([],dD q)
 else if aR q≠38 then([aR q],{q with l:=q.l.drop 1})
 else if aR {q with l:=q.l.drop 1}=97 then([38],bA [97,109,112,59] {q with l:=q.l.drop 1})
 else if aR {q with l:=q.l.drop 1}=108 then([60],bA [108,116,59] {q with l:=q.l.drop 1})
 else if aR {q with l:=q.l.drop 1}=103 then([62],bA [103,116,59] {q with l:=q.l.drop 1})
 else([34],bA [113,117,111,116,59] {q with l:=q.l.drop 1})
def iO(s:UInt8):Nat→Bytes→Q→Bytes×Q
 |0,acc,q=>(acc,q)
 |f+1,acc,q=>if q.b=false∧aR q≠s then iO s f (acc++(iA acc.length q).1) (iA acc.length q).2 else(acc,q)
def iB(aB:aA)(q0:Q):(Bytes×Bytes)×Q:=
 let q1:=if aB.length=8 then dD q0 else q0
 let q2:=if aB.any (fun x=>x.1==kY q1)then dD (dz q1)else dz q1
 let r:=iO 34 (q2.l.length+2) [] (aM 34 (aM 61 q2))
 ((kY q1,r.1),aM 34 r.2)
def kG:Nat→aA→Bool→Q→aA×Q
 |0,aB,_,q=>(aB,q)
 |f+1,aB,z,q=>if z=true∧letter (aR q)=true then kG f (aB++[(iB aB q).1]) (!(j4 (iB aB q).2).isEmpty) (bB (iB aB q).2)else(aB,q)
def mD(el:Q→E×Q):Nat→List E→Q→List E×Q
 |0,ks,q=>(ks,q)
 |f+1,ks,q=>if q.b then(ks,q)else if aR (aM 60 q)=47 then(ks,aM 60 q)
  else mD el f (ks++[(el (aM 60 q)).1]) (bB (el (aM 60 q)).2)
def bR(el:Q→E×Q)(q:Q):(List E×Bytes)×Q:=
 if aR (bB q)≠60 then
  let q2:=if bH (j4 q)then bB q else dD (bB q)
  let r:=iO 60 (q2.l.length+2) (j4 q) q2
  (([],r.1),bA [60,47] r.2)
 else
  let r:=mD el ((bB q).l.length+2) [] (bB q)
  ((r.1,if r.1.isEmpty&&bH (j4 q)then j4 q else []),aM 47 r.2)
def mU(con:Q→(List E×Bytes)×Q)(q1:Q):E×Q:=
 let r:=kG 10 [] (!(j4 (dz q1)).isEmpty) (bB (dz q1))
 if aR r.2=47 then(.mk (kY q1) r.1 [] [],bA [47,62] r.2)
 else(.mk (kY q1) r.1 (con (aM 62 r.2)).1.1 (con (aM 62 r.2)).1.2,aM 62 (bB (bA (kY q1) (con (aM 62 r.2)).2)))
def kS(deep:Bool)(q:Q):Q:={l:=q.l,k:=Hy (q.k+1),b:=q.b||deep||decide (3000<Hy (q.k+1))}
def gy:Nat→Q→E×Q
 |0,q=>mU (bR fun q=>(uB,q)) (kS true q)
 |n+1,q=>mU (bR (gy n)) (kS false q)
def OQ(T:Bytes):E×Int×Int:=
 let r:=gy 64 (aM 60 (bB ⟨T,0,false⟩))
 if(bB r.2).b=true∨(bB r.2).l≠[]then(uB,((T.length-(bB r.2).l.length:Nat):Int),3)else(r.1,0,0)
end Xp
namespace Xp
open U (E aA Bytes letter inner aK)
def G(l:Bytes)(c:Nat):Q:=⟨l,(c:Int),false⟩
def bP(l:Bytes)(q:Q):Prop:=q.l=l∧q.b=true
theorem og{q:Q}(h:q.b=true):aR q=0:=by unfold aR;rw[h];rfl
theorem zR{q:Q}(h:q.b=true):dD q=q:=by obtain⟨l,k,b⟩:=q;cases h;rfl
theorem fH{q:Q}(h:q.b=true){c:UInt8}(hc:c≠0):aM c q=q:=by
 unfold aM;rw[og h,if_neg (fun h=>hc h.symm),zR h]
theorem oH{q:Q}(h:q.b=true):∀s:Bytes,(∀c∈s,c≠0)→bA s q=q
 |[],_=>rfl
 |c::s,hs=>by
  rw[bA,fH h (hs c (List.mem_cons_self ..))];exact oH h s fun x hx=>hs x (List.mem_cons_of_mem _ hx)
theorem gF{q:Q}(h:q.b=true):bB q=q∧j4 q=[]:=by
 unfold bB j4;rw[h];exact⟨rfl,rfl⟩
theorem wP{q:Q}(h:q.b=true):dz q=q∧kY q=[]:=by
 unfold dz kY;rw[og h];exact⟨(if_neg (by decide)).trans (zR h),if_neg (by decide)⟩
theorem l6{q:Q}(h:q.b=true)(s:UInt8)(f:Nat)(acc:Bytes):iO s f acc q=(acc,q):=by
 cases f with
 |zero=>rfl
 |succ f=>rw[iO,if_neg (by rw[h];rintro⟨h,_⟩;cases h)]
theorem Ud{q:Q}(h:q.b=true)(aB:aA):(iB aB q).2=q:=by
 have h1:(if aB.length=8 then dD q else q)=q:=by split;exact zR h;rfl
 unfold iB;simp only[h1,(wP h).1,(wP h).2];have h2:(if aB.any (fun x=>x.1==[])then dD q else q)=q:=by split;exact zR h;rfl
 simp only[h2];rw[fH (q:=q) h (by decide),fH (q:=q) h (by decide),l6 h,fH (q:=q) h (by decide)]
theorem rV{q:Q}(h:q.b=true)(f:Nat)(aB:aA)(z:Bool):kG f aB z q=(aB,q):=by
 cases f with
 |zero=>rfl
 |succ f=>rw[kG,og h,if_neg (fun h=>by have:=h.2;revert this;decide)]
theorem uU{q:Q}(h:q.b=true)(el:Q→E×Q):bR el q=(([],[]),q):=by
 unfold bR;rw[(gF h).1,(gF h).2,og h,if_pos (by decide)];simp only[show bH []=true from rfl,if_pos];rw[l6 h,oH h _ (by decide)]
theorem yZ{q:Q}(h:q.b=true)(el:Q→E×Q):(mU (bR el) q).2=q:=by
 unfold mU;rw[(wP h).1,(wP h).2,(gF h).1,(gF h).2,rV h];simp only
 rw[og h,if_neg (by decide),fH h (by decide),uU h];simp only
 rw[show bA ([]:Bytes) q=q from rfl,(gF h).1,fH h (by decide)]
theorem Rp(d:Bool)(q:Q):(kS d q).l=q.l:=rfl
theorem AB(d:Bool)(q:Q)(h:q.b=true):(kS d q).b=true:=by unfold kS;rw[h];rfl
theorem rR{q:Q}(h:q.b=true)(n:Nat):bP q.l (gy n q).2:=by
 cases n with
 |zero=>rw[gy,yZ (AB _ q h)];exact⟨Rp _ q,AB _ q h⟩
 |succ m=>rw[gy,yZ (AB _ q h)];exact⟨Rp _ q,AB _ q h⟩
theorem sW(c:Nat):aR (G [] c)=0:=rfl
theorem kH(b:UInt8)(l:Bytes)(c:Nat):aR (G (b::l) c)=b:=rfl
theorem vC(b:UInt8)(l:Bytes)(c:Nat):aM b (G (b::l) c)=G l c:=if_pos rfl
theorem EX{b x:UInt8}(h:¬x=b)(l:Bytes)(c:Nat):aM b (G (x::l) c)=dD (G (x::l) c):=if_neg h
theorem take_nil{b:UInt8}(h:b≠0)(c:Nat):aM b (G [] c)=dD (G [] c):=if_neg (fun e=>h e.symm)
theorem vD(b:UInt8)(hb:b≠0)(l:Bytes)(c:Nat):match aL b c l with
  |.ok _ l1 c1=>aM b (G l c)=G l1 c∧c1=c
  |.bad l1=>bP l1 (aM b (G l c)):=by
 cases l with
 |nil=>show bP [] _;rw[take_nil hb];exact⟨rfl,rfl⟩
 |cons x l=>
  by_cases h:x=b
  ·subst h
   rw[show aL x c (x::l)=.ok () l c from if_pos rfl];exact⟨vC _ _ _,rfl⟩
  ·rw[show aL b c (x::l)=.bad (x::l)from if_neg h]
   show bP _ _;rw[EX h];exact⟨rfl,rfl⟩
theorem EY:∀(s:Bytes),(∀b∈s,b≠0)→∀(l:Bytes) (c:Nat),match iX c s l with
  |.ok _ l1 c1=>bA s (G l c)=G l1 c∧c1=c
  |.bad l1=>bP l1 (bA s (G l c))
 |[],_,l,c=>⟨rfl,rfl⟩
 |b::s,hs,l,c=>by
  have h1:=vD b (hs b (List.mem_cons_self ..)) l c;have hs2:∀x∈s,x≠0:=fun x hx=>hs x (List.mem_cons_of_mem _ hx)
  rw[iX,bA];cases he:aL b c l with
  |bad l1=>
   rw[he]at h1;show bP l1 _;have h1:bP l1 (aM b (G l c)):=h1;rw[oH h1.2 s hs2];exact h1
  |ok u l1 c1=>
   rw[he]at h1;have h1:aM b (G l c)=G l1 c∧c1=c:=h1;rw[h1.1];exact EY s hs2 l1 c
theorem tZ(l:Bytes)(c:Nat):bB (G l c)=G (l.dropWhile white) c∧j4 (G l c)=l.takeWhile white:=⟨rfl,rfl⟩
theorem De(l:Bytes)(c:Nat):match jy c l with
  |.ok x l1 c1=>dz (G l c)=G l1 c∧kY (G l c)=x∧c1=c
  |.bad l1=>bP l1 (dz (G l c)):=by
 cases l with
 |nil=>exact⟨rfl,rfl⟩
 |cons x l=>
  have hQ:dz (G (x::l) c)=if letter x then G ((x::l).dropWhile inner) c else dD (G (x::l) c):=rfl
  have hN:kY (G (x::l) c)=if letter x then(x::l).takeWhile inner else []:=rfl
  have hR:jy c (x::l)=if letter x then .ok ((x::l).takeWhile inner) ((x::l).dropWhile inner) c else .bad (x::l):=rfl
  rw[hQ,hN,hR];cases hx:letter x with
  |true=>exact⟨rfl,rfl,rfl⟩
  |false=>exact⟨rfl,rfl⟩
def lift(c:Nat)(x:UInt8):Rs Unit→Rs UInt8
 |.ok _ l _=>.ok x l c
 |.bad l=>.bad l
def goes(p:Bytes)(a:UInt8):Bool:=(bI.find? (fun x=>x.1==p++[a])).isNone&&bI.any (fun x=>pre (p++[a]) x.1)
def stops(p:Bytes)(b:UInt8):Bool:=(bI.find? (fun x=>x.1==p++[b])).isNone&&!bI.any (fun x=>pre (p++[b]) x.1)
theorem vU{c:Nat}{p:Bytes}{a:UInt8}{l:Bytes}(h:goes p a=true):bn c p (a::l)=bn c (p++[a]) l:=by
 unfold goes at h;rw[Bool.and_eq_true,Option.isNone_iff_eq_none]at h;rw[bn,h.1];exact if_pos h.2
theorem Df{c:Nat}{p:Bytes}{b:UInt8}{l:Bytes}(h:stops p b=true):bn c p (b::l)=.bad (b::l):=by
 unfold stops at h;rw[Bool.and_eq_true,Option.isNone_iff_eq_none,Bool.not_eq_true']at h;rw[bn,h.1];exact if_neg (by rw[h.2];decide)
theorem Xk{c:Nat}{p:Bytes}{a x:UInt8}{w l:Bytes}(h:bI.find? (fun x=>x.1==p++[a])=some (w,x)):bn c p (a::l)=.ok x l c:=by rw[bn,h]
theorem OT(p:Bytes)(a:UInt8)(h:∀n:Fin 256,(UInt8.ofNat n.1==a||stops p (UInt8.ofNat n.1))=true)(b:UInt8)(hb:¬b=a):stops p b=true:=by
 have:=xB (fun b=>b==a||stops p b) h b;simpa[hb]using this
theorem vE{c:Nat}{p:Bytes}{a x:UInt8}{s:Bytes}(h1:goes p a=true)(h2:∀n:Fin 256,(UInt8.ofNat n.1==a||stops p (UInt8.ofNat n.1))=true)(h:∀l,bn c (p++[a]) l=lift c x (iX c s l))(l:Bytes):bn c p l=lift c x (iX c (a::s) l):=by
 cases l with
 |nil=>rw[bn,iX];rfl
 |cons b l=>
  rw[iX]
  by_cases hb:b=a
  ·subst hb
   rw[vU h1,h,show aL b c (b::l)=.ok () l c from if_pos rfl]
  ·rw[Df (OT p a h2 b hb),show aL a c (b::l)=.bad (b::l)from if_neg hb]
   rfl
theorem AJ{c:Nat}{p:Bytes}{a x:UInt8}{w:Bytes}(h1:bI.find? (fun x=>x.1==p++[a])=some (w,x))(h2:∀n:Fin 256,(UInt8.ofNat n.1==a||stops p (UInt8.ofNat n.1))=true)(l:Bytes):bn c p l=lift c x (iX c [a] l):=by
 cases l with
 |nil=>rw[bn,iX];rfl
 |cons b l=>
  rw[iX]
  by_cases hb:b=a
  ·subst hb
   rw[Xk h1,show aL b c (b::l)=.ok () l c from if_pos rfl];rfl
  ·rw[Df (OT p a h2 b hb),show aL a c (b::l)=.bad (b::l)from if_neg hb]
   rfl
theorem aam(c:Nat)(l:Bytes):bn c [38,97] l=lift c 38 (iX c [109,112,59] l):=
 vE (by decide) (by decide+kernel) (fun l=>vE (by decide) (by decide+kernel) (fun l=>AJ (w:=[38,97,109,112,59]) (by decide) (by decide+kernel) l) l) l
theorem acw(c:Nat)(l:Bytes):bn c [38,108] l=lift c 60 (iX c [116,59] l):=
 vE (by decide) (by decide+kernel) (fun l=>AJ (w:=[38,108,116,59]) (by decide) (by decide+kernel) l) l
theorem acy(c:Nat)(l:Bytes):bn c [38,103] l=lift c 62 (iX c [116,59] l):=
 vE (by decide) (by decide+kernel) (fun l=>AJ (w:=[38,103,116,59]) (by decide) (by decide+kernel) l) l
theorem Xl(c:Nat)(l:Bytes):bn c [38,113] l=lift c 34 (iX c [117,111,116,59] l):=
 vE (by decide) (by decide+kernel) (fun l=>vE (by decide) (by decide+kernel) (fun l=>vE (by decide) (by decide+kernel) (fun l=>AJ (w:=[38,113,117,111,116,59]) (by decide) (by decide+kernel) l) l) l) l
theorem FP(c:Nat)(a:UInt8)(s l:Bytes):iX c (a::s) (a::l)=iX c s l:=by rw[iX,show aL a c (a::l)=.ok () l c from if_pos rfl]
theorem aan{c:Nat}{a b:UInt8}(s l:Bytes)(h:¬b=a):iX c (a::s) (b::l)=.bad (b::l):=by rw[iX,show aL a c (b::l)=.bad (b::l)from if_neg h]
theorem Ue(c:Nat)(b:UInt8)(l:Bytes):bn c [38] (b::l)=if b=97 then lift c 38 (iX c [97,109,112,59] (b::l))else if b=108 then lift c 60 (iX c [108,116,59] (b::l))else if b=103 then lift c 62 (iX c [103,116,59] (b::l))else lift c 34 (iX c [113,117,111,116,59] (b::l)):=by
 by_cases h1:b=97
 ·subst h1
  rw[if_pos rfl,FP,vU (by decide)];exact aam c l
 rw[if_neg h1]
 by_cases h2:b=108
 ·subst h2
  rw[if_pos rfl,FP,vU (by decide)];exact acw c l
 rw[if_neg h2]
 by_cases h3:b=103
 ·subst h3
  rw[if_pos rfl,FP,vU (by decide)];exact acy c l
 rw[if_neg h3]
 by_cases h4:b=113
 ·subst h4
  rw[FP,vU (by decide)];exact Xl c l
 rw[aan _ _ h4];have:=xB (fun b=>b==97||b==108||b==103||b==113||stops [38] b) (by decide+kernel) b;refine Df ?_;simpa[h1,h2,h3,h4]using this
theorem ad2(n:Nat)(hn:n≤200)(b:UInt8):kN n b=decide (200≤n∨b=60∨aK b=false):=by
 have h1:=xB (fun b=>(decide (b<32)||decide (126<b))==!aK b) (by decide+kernel) b;simp only[beq_iff_eq]at h1;have h2:(n==200)=decide (200≤n):=by rw[Bool.eq_iff_iff,beq_iff_eq,decide_eq_true_eq];omega
 unfold kN;rw[h1,h2,Bool.eq_iff_iff];simp only[Bool.or_eq_true,Bool.not_eq_true',decide_eq_true_eq,beq_iff_eq];constructor
 ·rintro((h|h)|h)
  ·exact .inr (.inr h)
  ·exact .inr (.inl h)
  ·exact .inl h
 ·rintro(h|h|h)
  ·exact .inr h
  ·exact .inl (.inr h)
  ·exact .inl (.inl h)
theorem AL{n c:Nat}{l:Bytes}{x:UInt8}{s:Bytes}(hs:∀b∈s,b≠0)(h:iA n (G (38::l) c)=([x],bA s (G l c))):match lift c x (iX c s l)with
  |.ok y l2 c2=>iA n (G (38::l) c)=([y],G l2 c)∧c2=c
  |.bad l2=>bP l2 (iA n (G (38::l) c)).2:=by
 have h1:=EY s hs l c;rw[h];cases hl:iX c s l with
 |ok u l2 c2=>
  rw[hl]at h1;exact⟨by rw[h1.1],rfl⟩
 |bad l2=>
  rw[hl]at h1;exact h1
theorem Hz(n:Nat)(hn:n≤200)(l:Bytes)(c:Nat):match gZ n c l with
  |.ok x l2 c2=>iA n (G l c)=([x],G l2 c)∧c2=c
  |.bad l2=>bP l2 (iA n (G l c)).2:=by
 cases l with
 |nil=>
  show bP [] _;have:iA n (G [] c)=([],dD (G [] c)):=if_pos rfl;rw[this];exact⟨rfl,rfl⟩
 |cons b l=>
  have hR:gZ n c (b::l)=if 200≤n∨b=60∨aK b=false then .bad (b::l)else if b=38 then bn c [] (b::l)else .ok b l c:=rfl
  have hb:=ad2 n hn b;rw[hR]
  by_cases h0:200≤n∨b=60∨aK b=false
  ·rw[if_pos h0]
   have:iA n (G (b::l) c)=([],dD (G (b::l) c)):=if_pos (by rw[kH,hb];exact decide_eq_true h0);show bP _ _;rw[this];exact⟨rfl,rfl⟩
  ·rw[if_neg h0]
   have hc:kN n b=false:=by rw[hb];exact decide_eq_false h0
   have hQ:iA n (G (b::l) c)=if b≠38 then([b],G l c)else if aR (G l c)=97 then([38],bA [97,109,112,59] (G l c))
     else if aR (G l c)=108 then([60],bA [108,116,59] (G l c))else if aR (G l c)=103 then([62],bA [103,116,59] (G l c))else([34],bA [113,117,111,116,59] (G l c)):=
    if_neg (by rw[kH,hc];decide)
   by_cases h1:b=38
   ·subst h1
    rw[if_neg (by decide)]at hQ;rw[if_pos rfl,vU (by decide)]
    show match bn c [38] l with
     |.ok x l2 c2=>_
     |.bad l2=>_
    cases l with
    |nil=>
     rw[bn];rw[sW,if_neg (by decide),if_neg (by decide),if_neg (by decide)]at hQ;show bP [] _;rw[hQ];exact⟨rfl,rfl⟩
    |cons x l=>
     rw[Ue];rw[kH]at hQ
     by_cases g1:x=97
     ·rw[if_pos g1]at hQ⊢;exact AL (by decide) hQ
     rw[if_neg g1]at hQ⊢
     by_cases g2:x=108
     ·rw[if_pos g2]at hQ⊢;exact AL (by decide) hQ
     rw[if_neg g2]at hQ⊢
     by_cases g3:x=103
     ·rw[if_pos g3]at hQ⊢;exact AL (by decide) hQ
     rw[if_neg g3]at hQ⊢;exact AL (by decide) hQ
   ·rw[if_neg h1]
    rw[if_pos h1]at hQ;exact⟨hQ,rfl⟩
end Xp
end Go.Proofs.YtnbeemkfmlfgfaaGreatDoor
