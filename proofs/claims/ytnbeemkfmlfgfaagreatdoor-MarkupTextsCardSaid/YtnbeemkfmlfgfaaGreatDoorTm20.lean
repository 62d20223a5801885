/- Part 20 of 48 of a proof. No condition. -/
import Derived.Test.YtnbeemkfmlfgfaaGreatDoorTm19
set_option maxRecDepth 100000
set_option maxHeartbeats 1000000
namespace Go.Proofs.YtnbeemkfmlfgfaaGreatDoor
section
open Go.RowKit
open Tr (Nd)
open U (E aA lW aW)
theorem vP(n:List UInt8):lW n=if(n==([109,105]:List UInt8))=true then 2 else if(n==([109,111]:List UInt8))=true then 2 else if(n==([109,110]:List UInt8))=true then 3 else if(n==([109,116,101,120,116]:List UInt8))=true then 4 else 0:=by
 unfold lW;simp only[beq_iff_eq,U.pO,U.qC,U.vL,U.lF];rfl
theorem Zu(n:List UInt8)(w:World):Calls Tryz.prog 136 #[.string ⟨n.toArray⟩] w fun e w'=>e=.returned (.int .i64 (lW n))∧w'=w:=by
 go_enter Tryz.func136,Tryz.ntmps136;cases h1:(n==([109,105]:List UInt8))with
 |false=>
  have D8:((⟨n.toArray⟩:ByteArray)==(⟨#[109,105]⟩:ByteArray))=false:=by rw[aC];exact h1
  have Vb:((⟨n.toArray⟩:ByteArray) !=(⟨#[109,105]⟩:ByteArray))=true:=by rw[bne,D8];rfl
  have h1l:(ByteArray.toList (⟨n.toArray⟩:ByteArray)==[109,105])=false:=by rw[ByteArray.toList_eq];exact h1
  cases h2:(n==([109,111]:List UInt8))with
  |false=>
   have DX:((⟨n.toArray⟩:ByteArray)==(⟨#[109,111]⟩:ByteArray))=false:=by rw[aC];exact h2
   have UG:((⟨n.toArray⟩:ByteArray) !=(⟨#[109,111]⟩:ByteArray))=true:=by rw[bne,DX];rfl
   have h2l:(ByteArray.toList (⟨n.toArray⟩:ByteArray)==[109,111])=false:=by rw[ByteArray.toList_eq];exact h2
   cases h3:(n==([109,110]:List UInt8))with
   |false=>
    have Ob:((⟨n.toArray⟩:ByteArray)==(⟨#[109,110]⟩:ByteArray))=false:=by rw[aC];exact h3
    have h3t:((⟨n.toArray⟩:ByteArray) !=(⟨#[109,110]⟩:ByteArray))=true:=by rw[bne,Ob];rfl
    have h3l:(ByteArray.toList (⟨n.toArray⟩:ByteArray)==[109,110])=false:=by rw[ByteArray.toList_eq];exact h3
    cases h4:(n==([109,116,101,120,116]:List UInt8))with
    |false=>
     have zq:((⟨n.toArray⟩:ByteArray)==(⟨#[109,116,101,120,116]⟩:ByteArray))=false:=by rw[aC];exact h4
     have Nl:((⟨n.toArray⟩:ByteArray) !=(⟨#[109,116,101,120,116]⟩:ByteArray))=true:=by rw[bne,zq];rfl
     have VK:(ByteArray.toList (⟨n.toArray⟩:ByteArray)==[109,116,101,120,116])=false:=by rw[ByteArray.toList_eq];exact h4
     go_wp2
     go_ret;exact⟨show _=Ending.returned (.int .i64 (lW n))from by rw[vP];simp only[*]<;>rfl,rfl⟩
    |true=>
     have zq:((⟨n.toArray⟩:ByteArray)==(⟨#[109,116,101,120,116]⟩:ByteArray))=true:=by rw[aC];exact h4
     have Nl:((⟨n.toArray⟩:ByteArray) !=(⟨#[109,116,101,120,116]⟩:ByteArray))=false:=by rw[bne,zq];rfl
     have VK:(ByteArray.toList (⟨n.toArray⟩:ByteArray)==[109,116,101,120,116])=true:=by rw[ByteArray.toList_eq];exact h4
     go_wp2
     go_ret;exact⟨show _=Ending.returned (.int .i64 (lW n))from by rw[vP];simp only[*]<;>rfl,rfl⟩
   |true=>
    have Ob:((⟨n.toArray⟩:ByteArray)==(⟨#[109,110]⟩:ByteArray))=true:=by rw[aC];exact h3
    have h3t:((⟨n.toArray⟩:ByteArray) !=(⟨#[109,110]⟩:ByteArray))=false:=by rw[bne,Ob];rfl
    have h3l:(ByteArray.toList (⟨n.toArray⟩:ByteArray)==[109,110])=true:=by rw[ByteArray.toList_eq];exact h3
    go_wp2
    go_ret;exact⟨show _=Ending.returned (.int .i64 (lW n))from by rw[vP];simp only[*]<;>rfl,rfl⟩
  |true=>
   have DX:((⟨n.toArray⟩:ByteArray)==(⟨#[109,111]⟩:ByteArray))=true:=by rw[aC];exact h2
   have UG:((⟨n.toArray⟩:ByteArray) !=(⟨#[109,111]⟩:ByteArray))=false:=by rw[bne,DX];rfl
   have h2l:(ByteArray.toList (⟨n.toArray⟩:ByteArray)==[109,111])=true:=by rw[ByteArray.toList_eq];exact h2
   go_wp2
   go_ret;exact⟨show _=Ending.returned (.int .i64 (lW n))from by rw[vP];simp only[*]<;>rfl,rfl⟩
 |true=>
  have D8:((⟨n.toArray⟩:ByteArray)==(⟨#[109,105]⟩:ByteArray))=true:=by rw[aC];exact h1
  have Vb:((⟨n.toArray⟩:ByteArray) !=(⟨#[109,105]⟩:ByteArray))=false:=by rw[bne,D8];rfl
  have h1l:(ByteArray.toList (⟨n.toArray⟩:ByteArray)==[109,105])=true:=by rw[ByteArray.toList_eq];exact h1
  go_wp2
  go_ret;exact⟨show _=Ending.returned (.int .i64 (lW n))from by rw[vP];simp only[*]<;>rfl,rfl⟩
theorem gP(n:List UInt8)(k:Int)(h:lW n=k)(w:World):Calls Tryz.prog 136 #[.string ⟨n.toArray⟩] w fun e w'=>e=.returned (.int .i64 k)∧w'=w:=h▸Zu n w
theorem Oc(t:List UInt8)(w:World):Calls Tryz.prog 129 #[.string ⟨t.toArray⟩] w fun e w'=>e=.returned (.bool (U.iR t))∧w'=w:=AZ ⟨t.toArray⟩ w
theorem uT(t:List UInt8)(w:World):Calls Tryz.prog 129 #[.string ⟨t.toArray⟩] w fun e w'=>e=.returned (.bool (U.iR t))∧ag w w':=
 (Oc t w).mono fun _ _ h=>⟨h.1,by rw[h.2];exact M _ _⟩
theorem I5(a:aA)(nm:List UInt8)(j:Nat)(h:j<a.length)(hn:(a.take j).any (fun x=>x.1==nm)=false):(a[j].1=nm→aW a nm=a[j].2)∧(a[j].1≠nm→(a.take (j+1)).any (fun x=>x.1==nm)=false):=by
 induction a generalizing j with
 |nil=>simp at h
 |cons x a ih=>
  cases j with
  |zero=>
   refine⟨fun hx=>?_,fun hx=>?_⟩
   ·rw[aW,if_pos (by simpa using hx)];rfl
   ·simpa using hx
  |succ j=>
   simp only[List.take_succ_cons,List.any_cons,Bool.or_eq_false_iff,List.getElem_cons_succ]at hn⊢;have:=ih j (by simpa using h) hn.2;refine⟨fun hx=>?_,fun hx=>⟨hn.1,this.2 hx⟩⟩;rw[aW,if_neg (by simpa using hn.1)];exact this.1 hx
theorem I6(a:aA)(nm:List UInt8)(hn:a.any (fun x=>x.1==nm)=false):aW a nm=[]:=by
 induction a with
 |nil=>rfl
 |cons x a ih=>
  simp only[List.any_cons,Bool.or_eq_false_iff]at hn;rw[aW,if_neg (by simpa using hn.1)];exact ih hn.2
theorem sP(e:E)(nm:List UInt8)(g o:Nat)(va vk:Value)(w:World)(he:fC w g o e va vk):Calls Tryz.prog 138 #[.pointer (some ⟨g,o,none⟩),.string ⟨nm.toArray⟩] w fun x w'=>x=.returned (.string ⟨(aW e.attrs nm).toArray⟩)∧ag w w':=by
 obtain⟨n,ats,ks,t⟩:=e;obtain⟨A,ca,hva⟩:=he.2.2.2.2.2.1.slice;replace hva:va=.slice A ats.length ca:=hva;subst hva;have hl1:ats.length≤maxLen:=by obtain⟨_,_,_,h,_⟩:=he.2.2.2.2.2.1;exact h.1
 unfold maxLen at hl1;have HA:=I (show dW w ats _ from he.2.2.2.2.2.1);obtain⟨hg,_,h1,_⟩:=he;show Calls _ _ _ _ (fun x w'=>x=.returned (.string ⟨(aW ats nm).toArray⟩)∧ag w w');go_enter Tryz.func138,Tryz.ntmps138;go_wp2_with fail
 clear hg h1
 go_loopw [12] (fun i wr=>∃j:Nat,i=.int .i64 j∧j≤ats.length∧Hd ((ats.take j).any (fun x=>x.1==nm)=false)∧Hd (ag w wr)) (fun i _=>ats.length-(intOf i).toNat)
 case atStart=>exact⟨0,rfl,Nat.zero_le _,by simp[Hd],M _ _⟩
 case round=>
  obtain⟨j,rfl,hj,HT,HF⟩:=hrel
  by_cases c1:j<ats.length
  ·have d1:decide ((j:Int)<(ats.length:Int))=true:=dT (by omega)
   have d1':(j:Int)<(ats.length:Int):=by omega
   obtain⟨g,o,rfl,hg,m0,m1,_,_⟩:=HA.J.get j c1;have e0:=HF.J.cell m0 (fun h=>h);have f0:=HF.J.cell m1 (fun h=>h);clear m0 m1;have HS:=I (I5 ats nm j c1 HT.J);generalize ats[j]=x at*;cases h4:decide (x.1=nm)with
   |true=>
    have e1:(x.1==nm)=true:=by simpa using h4
    have HV:=I (HS.J.1 (of_decide_eq_true h4));clear h4;go_wp2
    refine bodyPost_ret (results_tmp rfl _ _ _) rfl ?_;exact⟨by rw[HV.J];rfl,lK HF.J⟩
   |false=>
    have e1:(x.1==nm)=false:=by simpa using h4
    have HV:=I (HS.J.2 (of_decide_eq_false h4));clear h4;go_wp2
    go_roundw
    case rel=>exact⟨j+1,by go_num,c1,HV,lK HF.J⟩
    case measure=>simp[intOf];omega
  ·have d1:decide ((j:Int)<(ats.length:Int))=false:=dF (by omega)
   obtain rfl:j=ats.length:=by omega
   have HV:=I (I6 ats nm (by have:=HT.J;rwa [List.take_length]at this));go_wp2
   go_ret;exact⟨by rw[HV.J];rfl,HF.J⟩
theorem EB(ks:List Nd)(A:Option Addr)(cap:Nat)(w:World)(hr:aO w ks (.slice A ks.length cap)):
  Calls Tryz.prog 183 #[.slice A ks.length cap] w fun e w'=>e=.returned (.bool (Tr.valid (.mk 1 [] 0 ks)))∧ag w w':=by
 have HR:=I hr;clear hr;go_enter Tryz.func183,Tryz.ntmps183;go_wp2_with fail
 refine(D6 (.mk 1 [] 0 ks) _ _ HR.J (Nat.zero_le _)).mono ?_;rintro _ w2 ⟨rfl,hf2⟩;have aY:=I hf2;clear hf2;go_wp2
 go_ret;exact⟨rfl,aY.J⟩
end
section
open Go.RowKit
open Tr (Nd)
theorem aO.Od{W:World}{g:Nat}{k c:Int}{s:List UInt8}{ks:List Nd}{v:Value}(h:O W g 31 #[.int .i64 k,.string ⟨s.toArray⟩,.int .i64 c,v])(hs:s.length≤maxLen)(hk:aO W ks v):aO W [.mk k s c ks] (.slice (some ⟨g,0,none⟩) 1 1):=by
 refine aO.row g 0 1 [.mk k s c ks] (fun _=>v) h.lt (show 1≤maxLen by decide) ?_ ?_ ?_ ?_ ?_ ?_
 all_goals (intro i hi;obtain rfl:i=0:=by simpa using hi)
 ·exact hs
 ·exact h.cell 0
 ·exact h.cell 1
 ·exact h.cell 2
 ·exact h.cell 3
 ·exact hk
theorem aO.Zv{W:World}{g:Nat}{k c k' c':Int}{s s':List UInt8}{ks ks':List Nd}{v v':Value}(h:O W g 31 #[.int .i64 k,.string ⟨s.toArray⟩,.int .i64 c,v,.int .i64 k',.string ⟨s'.toArray⟩,.int .i64 c',v'])(hs:s.length≤maxLen)(hs':s'.length≤maxLen)
  (hk:aO W ks v) (hk':aO W ks' v'):aO W [.mk k s c ks,.mk k' s' c' ks'] (.slice (some ⟨g,0,none⟩) 2 2):=by
 refine aO.row g 0 2 [.mk k s c ks,.mk k' s' c' ks'] (fun i=>if i=0 then v else v') h.lt (show 2≤maxLen by decide) ?_ ?_ ?_ ?_ ?_ ?_
 all_goals (intro i hi;have hi2:i<2:=(by simpa using hi);obtain rfl|rfl:i=0∨i=1:=by omega)
 ·exact hs
 ·exact hs'
 ·exact h.cell 0
 ·exact h.cell 4
 ·exact h.cell 1
 ·exact h.cell 5
 ·exact h.cell 2
 ·exact h.cell 6
 ·exact h.cell 3
 ·exact h.cell 7
 ·exact hk
 ·exact hk'
end
section
open Go.RowKit
open Tr (Nd)
open U (E aA lW aW dN eU)
theorem VL(j:Nat):List.replicate j dN++[dN]=List.replicate (j+1) dN:=by
 rw[List.replicate_succ']
theorem tX(k:Int)(t:List UInt8)(s:Nat)(hs:s≤8)(ht:t.length≤maxLen)(w:World):Calls Tryz.prog 137 #[.int .i64 k,.string ⟨t.toArray⟩,.int .i64 (s:Int)] w fun e w'=>e=.returned (.bool (eU k t s))∧ag w w':=by
 have HT:=I ht;clear ht;go_enter Tryz.func137,Tryz.ntmps137;go_wp2_with fail
 have HB0:=I (O.new w 31 #[.int .i64 k,.string ⟨t.toArray⟩,.int .i64 0,.slice none 0 0]);have dh:=I ((M (fun _=>False) w).alloc (.cells #[.int .i64 k,.string ⟨t.toArray⟩,.int .i64 0,.slice none 0 0] 31));have I4:=I (dU.nil (B:=w.heap.size+1) (w:=w.alloc (.cells #[.int .i64 k,.string ⟨t.toArray⟩,.int .i64 0,.slice none 0 0] 31)) (by simp));generalize (w.alloc (.cells #[.int .i64 k,.string ⟨t.toArray⟩,.int .i64 0,.slice none 0 0] 31))=W1 at*
 go_loopw [12] (fun i wr=>∃(j:Nat) (A:Option Addr) (c:Nat),i=.int .i64 j∧j≤s∧Hd (O wr w.heap.size 31 #[.int .i64 k,.string ⟨t.toArray⟩,.int .i64 0,.slice A j c])∧Hd (dU (w.heap.size+1) wr (List.replicate j dN) (.slice A j c))∧Hd (ag w wr)) (fun i _=>s-(intOf i).toNat)
 case atStart=>exact⟨0,none,0,rfl,Nat.zero_le _,HB0,I4,dh⟩
 case round=>
  obtain⟨j,A,c,rfl,hj,HB,HG,HF⟩:=hrel;rename_i wr _
  by_cases c1:j<s
  ·have d1:decide ((j:Int)<(s:Int))=true:=dT (by omega)
   have dG:decide (j<s)=true:=dT c1;have d1':(j:Int)<(s:Int):=by omega
   obtain⟨q0,q1,q2,q3,z0,z1,z2,z3,hlt⟩:=O.four HB.J;have HOW:=I HG.J.jE;have mK:=I (show(List.replicate j dN).length=j from List.length_replicate);have dX:=I (O.new wr 31 #[.int .i64 1,.string ⟨#[]⟩,.int .i64 0,.slice none 0 0]);have dA:=I ((M (fun _=>False) wr).alloc (.cells #[.int .i64 1,.string ⟨#[]⟩,.int .i64 0,.slice none 0 0] 31));have uO:=I HG.J.1
   go_wp2_with (at_builtin;go_loud (refine nA rfl (.tmp 15) (.tmp 17) rfl (HG.J.fresh dA.J) mK.J (by simp[Act.eval]) dN dX.J (by simp[Act.eval]) wr.heap.size uO.J (fun k hk=>(HOW.J k hk).2) (Nat.zero_le _) (fun W _=>aO.nil _ _) (by omega) ?_);intro A8 c8 w8 gJ bW _;refine iC.mk ?_)
   have nT:=I (show dU (w.heap.size+1) w8 (List.replicate (j+1) dN) (.slice A8 (j+1) c8) by rw[←VL];exact gJ);have mE:=I (bW.blk (dA.J.blk HB.J fun h=>h) fun h=>by have:=(HOW.J _ h).1;omega);have eP:=I (show ag w w8 from(HF.J.trans dA.J).trans' bW fun k hk=>.inr (by have:=(HOW.J _ hk).1;omega));clear gJ bW q0 q1 q2 q3 z0 z1 z2 z3 hlt;obtain⟨q0,q1,q2,q3,z0,z1,z2,z3,hlt⟩:=O.four mE.J;refine iC.go ?_;go_wp2
   go_roundw
   case rel=>exact⟨j+1,A8,c8,by go_num,c1,I (mE.J.put 3 _),I (nT.J.mv ((M (fun k=>k=w.heap.size) w8).setCell (p:=⟨w.heap.size,3,none⟩) (.inl rfl) (.slice A8 (j+1) c8)) (fun k hk _=>by omega)),I (eP.J.setCell (p:=⟨w.heap.size,3,none⟩) (.inr (Nat.le_refl _)) _)⟩
   case measure=>simp[intOf];omega
  ·have d1:decide ((j:Int)<(s:Int))=false:=dF (by omega)
   have dG:decide (j<s)=false:=dF c1;obtain rfl:j=s:=by omega
   obtain⟨q0,q1,q2,q3,z0,z1,z2,z3,hlt⟩:=O.four HB.J;go_wp2_with fail
   have hr:=aO.Od (k:=k) (c:=0) (s:=t) (ks:=List.replicate j dN) (O.new wr 31 #[.int .i64 k,.string ⟨t.toArray⟩,.int .i64 0,.slice A j c]) HT.J (HG.J.rep.fresh ((M _ wr).alloc _));refine(EB [.mk k t 0 (List.replicate j dN)] _ _ _ hr).mono ?_;rintro _ w3 ⟨rfl,hf3⟩;have bC:=I (HF.J.trans (Touch.pre hf3));clear hf3 hr;go_wp2
   go_ret;exact⟨rfl,bC.J⟩
end
end Go.Proofs.YtnbeemkfmlfgfaaGreatDoor
