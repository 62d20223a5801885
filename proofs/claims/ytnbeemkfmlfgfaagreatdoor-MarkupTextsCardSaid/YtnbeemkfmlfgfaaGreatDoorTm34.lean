/- Part 34 of 48 of a proof. No condition. -/
import Derived.Test.YtnbeemkfmlfgfaaGreatDoorTm33
set_option maxRecDepth 100000
set_option maxHeartbeats 4000000
namespace Go.Proofs.YtnbeemkfmlfgfaaGreatDoor
section
open Go.RowKit
open Xp (aX Q aR dD aM bA white bB j4 dz kY bH)
theorem rG(S N:ByteArray)(g:Nat)(q:Q)(w:World)(hS:S.size≤1099511627776)(hN:N.size≤9223372036854775807)(hz:∀b∈N.data.toList,b≠0)(h:Xq S g q w):Calls Tryz.prog 125 #[.pointer (some ⟨g,0,none⟩),.string N] w fun e w'=>e=.returned (.tuple #[])∧Touch (fun b=>b=g) w w'∧Xq S g (bA N.data.toList q) w':=by
 have HX:=I h;have HZ:=I hz;clear h hz;go_enter Tryz.func125,Tryz.ntmps125;go_wp2
 go_loopw [4] (fun i wQ=>∃(wr:World) (j:Nat) (q1:Q),wr=wQ∧i=.int .i64 j∧j≤N.size∧Hd (bA (N.data.toList.drop j) q1=bA N.data.toList q)∧Hd (Touch (fun b=>b=g) w wr)∧Hd (Xq S g q1 wr)) (fun i _=>N.size-(intOf i).toNat)
 case atStart=>exact⟨_,0,q,rfl,rfl,Nat.zero_le _,I rfl,I (M _ _),HX⟩
 case round=>
  obtain⟨wr,j,q1,rfl,rfl,hj,HR,HT,HX⟩:=hrel
  by_cases c2:j<N.size
  ·have d1:decide ((j:Int)<(N.size:Int))=true:=dT (by omega)
   have dG:decide (j<N.size)=true:=dT c2;have d1':(j:Int)<(N.size:Int):=by omega
   obtain⟨b,hb⟩:∃b,N[j]'c2=b:=⟨_,rfl⟩
   have HD:=I (show N.data.toList.drop j=b::N.data.toList.drop (j+1) by
    rw[List.drop_eq_getElem_cons (by simpa using c2)]
    congr 1)
   have HB0:=I (show b≠0 from HZ.J b (List.mem_of_mem_drop (i:=j) (by rw[HD.J];exact List.mem_cons_self ..)));have HR2:=I (show bA (N.data.toList.drop (j+1)) (aM b q1)=bA N.data.toList q by rw[←HR.J,HD.J];rfl);go_wp2_with fail
   refine(oI S g b q1 _ hS HB0.J HX.J).mono ?_;rintro _ w3 ⟨rfl,ht,hx⟩;have HT3:=I (HT.J.trans ht);have iP:=I hx;clear ht hx;go_wp2
   go_roundw
   case rel=>exact⟨_,j+1,aM b q1,rfl,by go_num,c2,HR2,HT3,iP⟩
   case measure=>simp[intOf];omega
  ·have d1:decide ((j:Int)<(N.size:Int))=false:=dF (by omega)
   have dG:decide (j<N.size)=false:=dF c2
   have HF:=I (show q1=bA N.data.toList q by
    have hl:N.data.toList.length=N.size:=by simp
    rw[←HR.J,List.drop_of_length_le (by omega)];rfl)
   go_wp2
   refine bodyPost_end (v:=.tuple #[]) (results_none rfl _ _ _) rfl ?_;rw[←HF.J];exact⟨rfl,HT.J,HX.J⟩
theorem Qo(b:UInt8)(w:World):Calls Tryz.prog 120 #[.int .u8 (b.toNat:Int)] w fun e w'=>e=.returned (.bool (white b))∧w'=w:=by
 go_enter Tryz.func120,Tryz.ntmps120;cases h1:((b.toNat:Int)==(32:Int))with
 |false=>
  have xS:((b.toNat:Int) !=(32:Int))=true:=by rw[bne,h1];rfl
  cases h2:((b.toNat:Int)==(9:Int))with
  |false=>
   have D5:((b.toNat:Int) !=(9:Int))=true:=by rw[bne,h2];rfl
   cases h3:((b.toNat:Int)==(10:Int))with
   |false=>
    have xU:((b.toNat:Int) !=(10:Int))=true:=by rw[bne,h3];rfl
    cases h4:((b.toNat:Int)==(13:Int))with
    |false=>
     have Iw:((b.toNat:Int) !=(13:Int))=true:=by rw[bne,h4];rfl
     go_wp2
     go_ret;exact⟨af _ _ (by rw[qa];simp only[*]<;>rfl),rfl⟩
    |true=>
     have Iw:((b.toNat:Int) !=(13:Int))=false:=by rw[bne,h4];rfl
     go_wp2
     go_ret;exact⟨af _ _ (by rw[qa];simp only[*]<;>rfl),rfl⟩
   |true=>
    have xU:((b.toNat:Int) !=(10:Int))=false:=by rw[bne,h3];rfl
    go_wp2
    go_ret;exact⟨af _ _ (by rw[qa];simp only[*]<;>rfl),rfl⟩
  |true=>
   have D5:((b.toNat:Int) !=(9:Int))=false:=by rw[bne,h2];rfl
   go_wp2
   go_ret;exact⟨af _ _ (by rw[qa];simp only[*]<;>rfl),rfl⟩
 |true=>
  have xS:((b.toNat:Int) !=(32:Int))=false:=by rw[bne,h1];rfl
  go_wp2
  go_ret;exact⟨af _ _ (by rw[qa];simp only[*]<;>rfl),rfl⟩
theorem BN{S:ByteArray}{g:Nat}{q:Q}{w:World}(h:Xq S g q w):posOf g w=S.size-q.l.length:=by
 unfold posOf;rw[(O.four h.blk).2.1];show Int.toNat _=_;omega
theorem Xt{q:Q}(h:white (aR q)=false):bB q=q:=by
 obtain⟨l,k,z⟩:=q;cases z with
 |true=>rfl
 |false=>
  cases l with
  |nil=>rfl
  |cons x l=>
   show(Q.mk ((x::l).dropWhile white) k false)=_;rw[Ac white x l h]
theorem Xu{q:Q}(h:white (aR q)=true):∃x l,q=⟨x::l,q.k,false⟩∧white x=true:=by
 obtain⟨l,k,z⟩:=q;cases z with
 |true=>exact absurd h (by show¬white 0=true;decide)
 |false=>
  cases l with
  |nil=>exact absurd h (by show¬white 0=true;decide)
  |cons x l=>exact⟨x,l,rfl,h⟩
theorem aas(S:ByteArray)(k:Nat):S.extract k k=⟨#[]⟩:=by
 apply ByteArray.ext
 rw[ByteArray.data_extract];apply Array.toList_inj.1
 rw[Array.toList_extract];simp
theorem Qp{S:ByteArray}{q:Q}(h:aX q.l S.data.toList):S.extract (S.size-q.l.length) (S.size-(bB q).l.length)=⟨(j4 q).toArray⟩:=by
 obtain⟨l,k,z⟩:=q;cases z with
 |true=>exact aas _ _
 |false=>
  have h2:=oz (S:=S) (p:=l.takeWhile white) (r:=l.dropWhile white) (by rw[List.takeWhile_append_dropWhile];exact h);rw[List.takeWhile_append_dropWhile]at h2;exact h2
theorem sZ(q:Q):aX (bB q).l q.l:=by
 unfold bB;split
 ·exact aX.refl _
 ·exact aX.dropWhile _ _
theorem pX(S:ByteArray)(g:Nat)(q:Q)(w:World)(hS:S.size≤1099511627776)(h:Xq S g q w):Calls Tryz.prog 66 #[.pointer (some ⟨g,0,none⟩)] w fun e w'=>e=.returned (.string ⟨(j4 q).toArray⟩)∧Touch (fun b=>b=g) w w'∧Xq S g (bB q) w':=by
 have HX:=I h;obtain⟨q0,q1,q2,q3,_,_,_,_,hg⟩:=O.four h.blk;have zZ:=I h.len;have Ru:=I (Qp h.nK);clear h;obtain⟨k0,hk0⟩:∃k,k=S.size-q.l.length:=⟨_,rfl⟩;have qD:=I hk0;rw[←hk0]at q1 Ru;clear hk0;go_enter Tryz.func66,Tryz.ntmps66;go_wp2_with fail
 clear q0 q1 q2 q3 hg
 go_loopw [] (fun wQ=>∃(wr:World) (q4:Q),wr=wQ∧Hd (bB q4=bB q)∧Hd (aX q4.l q.l)∧Hd (Touch (fun b=>b=g) w wr)∧Hd (Xq S g q4 wr)) (fun wr=>S.size-posOf g wr)
 case atStart=>exact⟨_,q,rfl,I rfl,I (aX.refl _),I (M _ _),HX⟩
 case round=>
  clear HX;obtain⟨wr,q4,rfl,HD,HS,HT,HX⟩:=hrel;have HP:=I (BN HX.J);go_wp2_with fail
  refine(jb S g q4 _ HX.J).mono ?_;rintro _ w2 ⟨rfl,hf2⟩;have eT:=I (HX.J.fresh hf2);have HT2:=I (HT.J.trans (hf2.mono fun _ h=>h.elim));clear hf2 HX HT;go_wp2_with fail
  refine(Qo (aR q4) _).mono ?_;rintro _ w3 ⟨rfl,hw⟩;replace hw:=hw.symm;subst hw;obtain⟨q0,q1,q2,q3,f0,f1,f2,f3,hg⟩:=O.four eT.J.blk;cases hp:white (aR q4)with
  |false=>
   have Gt:=I (Xt hp);rw[←HD.J,Gt.J]at Ru;have hle:=eT.J.len;have hl2:=HS.J.len;have hl3:=zZ.J;have hk1:(k0:Int)≤((S.size-q4.l.length:Nat):Int):=by have:=qD.J;omega
   have hk2:((S.size-q4.l.length:Nat):Int)≤(S.size:Int):=by omega
   have hk3:(0:Int)≤(k0:Int):=by omega
   have HE:=I Ru.J;generalize S.size-q4.l.length=k1 at q1 hk1 hk2 HE;clear hle hl2 hl3 hp;go_wp2
   go_quiet (fail)
   go_wp2
   go_ret;refine⟨congrArg (fun s=>Ending.returned (Value.string s)) HE.J,HT2.J.drewN _,?_⟩;rw[←HD.J,Gt.J];exact eT.J.fresh ((M _ _).drewN _)
  |true=>
   obtain⟨x,l,hq,hx⟩:=Xu hp;obtain⟨k,hk⟩:∃k,k=q4.k:=⟨_,rfl⟩;rw[←hk]at hq;clear hk hp;subst hq;have iP:=I eT.J.qh;have HM:=I (BN iP.J)
   have HD2:=I (show bB ⟨l,k,false⟩=bB q by
    rw[←HD.J];show Q.mk (l.dropWhile white) k false=Q.mk ((x::l).dropWhile white) k false;rw[xV white x l hx])
   have HS2:=I (show aX l q.l from(aX.cons x).trans HS.J);have hle:=eT.J.len;simp only at q0 q1 q2 q3 hle HP;have uw:=I hle;have hw:IntKind.i64.wrap (((S.size-(x::l).length:Nat):Int)+1)=((S.size-(x::l).length:Nat):Int)+1:=IntWalk.i64_in _ (by omega);have HT3:=I (HT2.J.setCell (p:=⟨g,1,none⟩) (.inl rfl) (.int .i64 (((S.size-(x::l).length:Nat):Int)+1)));clear hle hx;generalize S.size-(x::l).length=j at q1 hw iP HM HT3;go_wp2
   go_roundw
   case rel=>exact⟨_,⟨l,k,false⟩,rfl,HD2,HS2,HT3,iP⟩
   case measure=>
    rw[HM.J,HP.J];have h1:=uw.J;rw[List.length_cons]at*;show S.size-(S.size-l.length)<_;omega
theorem Dj{q:Q}(h:U.letter (aR q)=true):∃x l,q=⟨x::l,q.k,false⟩∧U.letter x=true:=by
 obtain⟨l,k,z⟩:=q;cases z with
 |true=>exact absurd h (by show¬U.letter 0=true;decide)
 |false=>
  cases l with
  |nil=>exact absurd h (by show¬U.letter 0=true;decide)
  |cons x l=>exact⟨x,l,rfl,h⟩
theorem Xv{l:List UInt8}{k:Int}(h:U.inner (aR ⟨l,k,false⟩)=false):l.dropWhile U.inner=l:=by
 cases l with
 |nil=>rfl
 |cons x l=>exact Ac U.inner x l h
theorem Xw{l:List UInt8}{k:Int}(h:U.inner (aR ⟨l,k,false⟩)=true):∃x l',l=x::l'∧U.inner x=true:=by
 cases l with
 |nil=>exact absurd h (by show¬U.inner 0=true;decide)
 |cons x l=>exact⟨x,l,rfl,h⟩
theorem OW(q:Q):aX (dz q).l q.l:=by
 unfold dz;split
 ·exact aX.dropWhile _ _
 ·exact aX.refl _
theorem LC(S:ByteArray)(g:Nat)(q:Q)(w:World)(hS:S.size≤1099511627776)(h:Xq S g q w):Calls Tryz.prog 122 #[.pointer (some ⟨g,0,none⟩)] w fun e w'=>e=.returned (.string ⟨(kY q).toArray⟩)∧Touch (fun b=>b=g) w w'∧Xq S g (dz q) w':=by
 have HX:=I h;obtain⟨q0,q1,q2,q3,_,_,_,_,hg⟩:=O.four h.blk;have zZ:=I h.len;have Dv:=I h.nK;clear h;obtain⟨k0,hk0⟩:∃k,k=S.size-q.l.length:=⟨_,rfl⟩;have qD:=I hk0;rw[←hk0]at q1;clear hk0;go_enter Tryz.func122,Tryz.ntmps122;go_wp2_with fail
 clear q0 q1 q2 q3 hg;refine(jb S g q _ HX.J).mono ?_;rintro _ w1 ⟨rfl,hf1⟩;have bS:=I (HX.J.fresh hf1);have HT1:=I (show Touch (fun b=>b=g) w w1 from hf1.mono fun _ h=>h.elim);clear hf1 HX;go_wp2_with fail
 refine(oL (aR q) _).mono ?_;rintro _ w2 ⟨rfl,hw⟩;replace hw:=hw.symm;subst hw;cases hp:U.letter (aR q)with
 |false=>
  have HN:=I (show dz q=dD q by unfold dz;rw[hp];rfl);have HM:=I (show kY q=[] by unfold kY;rw[hp];rfl);obtain⟨q0,q1,q2,q3,f0,f1,f2,f3,hg⟩:=O.four bS.J.blk;have eT:=I bS.J.stop;have HT2:=I (HT1.J.setCell (p:=⟨g,3,none⟩) (.inl rfl) (.bool true));clear q0 q1 q2 hp;obtain⟨p0,p1,p2,p3,_,_,_,_,_⟩:=O.four eT.J.blk;rw[show(dD q).b=true from rfl]at p3;rw[show(dD q).l=q.l from rfl,←qD.J]at p1;have HXX:=eT;have HTT:=HT2;have hle:=zZ.J;have hk1:(k0:Int)≤(k0:Int):=by omega
  have hk2:(k0:Int)≤(S.size:Int):=by have:=qD.J;omega
  have hk3:(0:Int)≤(k0:Int):=by omega
  clear hle;go_wp2_with fail
  generalize (w1.setCell ⟨g,3,none⟩ (.bool true))=w3 at HXX HTT eT HT2 p0 p1 p2 p3⊢
  go_loopw [] (fun wr=>wr=w3) (fun _=>0)
  case atStart=>rfl
  case round=>
   subst hrel;go_wp2
   go_quiet (fail)
   go_wp2
   go_ret;refine⟨congrArg (fun s=>Ending.returned (Value.string s)) (by rw[HM.J];rfl),HTT.J.drewN _,?_⟩;rw[HN.J];exact HXX.J.fresh ((M _ _).drewN _)
 |true=>
  obtain⟨x0,l0,hq,hx0⟩:=Dj hp;have HN:=I (show dz q={q with l:=q.l.dropWhile U.inner} by unfold dz;rw[hp];rfl);have HM:=I (show kY q=q.l.takeWhile U.inner by unfold kY;rw[hp];rfl)
  have Ru:=I (show S.extract k0 (S.size-(q.l.dropWhile U.inner).length)=⟨(q.l.takeWhile U.inner).toArray⟩ by
   have h2:=oz (S:=S) (p:=q.l.takeWhile U.inner) (r:=q.l.dropWhile U.inner) (by rw[List.takeWhile_append_dropWhile];exact Dv.J);rw[List.takeWhile_append_dropWhile,←qD.J]at h2;exact h2)
  have HQB:=I (show q=⟨q.l,q.k,false⟩ by rw[hq]);clear hq hx0 hp;go_wp2
  go_loopw [] (fun wQ=>∃(wr:World) (l1:List UInt8),wr=wQ∧Hd (l1.dropWhile U.inner=q.l.dropWhile U.inner)∧Hd (aX l1 q.l)∧Hd (Touch (fun b=>b=g) w wr)∧Hd (Xq S g ⟨l1,q.k,false⟩ wr)) (fun wr=>S.size-posOf g wr)
  case atStart=>exact⟨_,q.l,rfl,I rfl,I (aX.refl _),HT1,I (by rw[←HQB.J];exact bS.J)⟩
  case round=>
   clear bS HT1;obtain⟨wr,l1,rfl,HD,HS,HT,HX⟩:=hrel;have HP:=I (BN HX.J);obtain⟨q0,q1,q2,q3,_,_,_,_,hg⟩:=O.four HX.J.blk;clear q0 q1 q2 hg;go_wp2_with fail
   refine(jb S g ⟨l1,q.k,false⟩ _ HX.J).mono ?_;rintro _ w3 ⟨rfl,hf3⟩;have iP:=I (HX.J.fresh hf3);have HT3:=I (HT.J.trans (hf3.mono fun _ h=>h.elim));clear hf3 HX HT q3;go_wp2_with fail
   refine(DC (aR ⟨l1,q.k,false⟩) _).mono ?_;rintro _ w4 ⟨rfl,hw⟩;replace hw:=hw.symm;subst hw;obtain⟨q0,q1,q2,q3,f0,f1,f2,f3,hg⟩:=O.four iP.J.blk;simp only at q0 q1 q2 q3;cases hp:U.inner (aR ⟨l1,q.k,false⟩)with
   |false=>
    have Gt:=I (Xv hp);rw[←HD.J,Gt.J]at Ru;have hle:=iP.J.len;simp only at hle;have hl2:=HS.J.len;have hl3:=zZ.J;have hk1:(k0:Int)≤((S.size-l1.length:Nat):Int):=by have:=qD.J;omega
    have hk2:((S.size-l1.length:Nat):Int)≤(S.size:Int):=by omega
    have hk3:(0:Int)≤(k0:Int):=by omega
    have HE:=I Ru.J;generalize S.size-l1.length=k1 at q1 hk1 hk2 HE;clear hle hl2 hl3 hp;go_wp2
    go_quiet (fail)
    go_wp2
    go_ret;refine⟨congrArg (fun s=>Ending.returned (Value.string s)) (by rw[HM.J];rw[←HD.J,Gt.J]at*;exact HE.J),HT3.J.drewN _,?_⟩;rw[HN.J,←HD.J,Gt.J]
    have hq:({q with l:=l1}:Q)=⟨l1,q.k,false⟩:=by
     show Q.mk l1 q.k q.b=_;rw[show q.b=false from congrArg Q.b HQB.J]
    rw[hq];exact iP.J.fresh ((M _ _).drewN _)
   |true=>
    obtain⟨x,l,hq,hx⟩:=Xw hp;clear hp;subst hq;have gD:=I iP.J.qh;have HM4:=I (BN gD.J);have HD2:=I (show l.dropWhile U.inner=q.l.dropWhile U.inner by rw[←HD.J];exact(xV U.inner x l hx).symm);have HS2:=I (show aX l q.l from(aX.cons x).trans HS.J);have hle:=iP.J.len;simp only at hle HP;have uw:=I hle;have hw:IntKind.i64.wrap (((S.size-(x::l).length:Nat):Int)+1)=((S.size-(x::l).length:Nat):Int)+1:=IntWalk.i64_in _ (by omega);have iU:=I (HT3.J.setCell (p:=⟨g,1,none⟩) (.inl rfl) (.int .i64 (((S.size-(x::l).length:Nat):Int)+1)));clear hle hx;generalize S.size-(x::l).length=j at q1 hw gD HM4 iU;go_wp2
    go_roundw
    case rel=>exact⟨_,l,rfl,HD2,HS2,iU,gD⟩
    case measure=>
     rw[HM4.J,HP.J];have h1:=uw.J;rw[List.length_cons]at*;show S.size-(S.size-l.length)<_;omega
theorem Gu(N:ByteArray)(w:World)(hN:N.size≤9223372036854775807):Calls Tryz.prog 174 #[.string N] w fun e w'=>e=.returned (.bool (bH N.data.toList))∧w'=w:=by
 have HL:=I (show N.data.toList.length=N.size by simp);go_enter Tryz.func174,Tryz.ntmps174;go_wp2
 go_loopw [3] (fun i wr=>∃(j:Nat),i=.int .i64 j∧j≤N.size∧Hd ((N.data.toList.take j).all (fun b=>b==32)=true)∧wr=w) (fun i _=>N.size-(intOf i).toNat)
 case atStart=>exact⟨0,rfl,Nat.zero_le _,I (by rw[List.take_zero];rfl),rfl⟩
 case round=>
  obtain⟨j,rfl,hj,HA,hw⟩:=hrel;subst hw
  by_cases c2:j<N.size
  ·have d1:decide ((j:Int)<(N.size:Int))=true:=dT (by omega)
   have dG:decide (j<N.size)=true:=dT c2;have d1':(j:Int)<(N.size:Int):=by omega
   obtain⟨b,hb⟩:∃b,N[j]'c2=b:=⟨_,rfl⟩
   have HG:=I (show N.data.toList.take (j+1)=N.data.toList.take j++[b] by
    rw[List.take_add_one,List.getElem?_eq_getElem (by rw[HL.J];exact c2)]
    congr 1
    rw[Option.toList_some]
    congr 1)
   by_cases h32:b=32
   ·have hne:=jm b 32 h32
    replace hne:((b.toNat:Int) !=(32:Int))=false:=hne;have HA2:=I (show(N.data.toList.take (j+1)).all (fun b=>b==32)=true by rw[HG.J,List.all_append,HA.J,h32];rfl);clear h32;go_wp2
    go_roundw
    case rel=>exact⟨j+1,by go_num,c2,HA2,trivial⟩
    case measure=>simp[intOf];omega
   ·have hne:=jU b 32 h32
    replace hne:((b.toNat:Int) !=(32:Int))=true:=hne
    have HF:=I (show bH N.data.toList=false by
     unfold bH
     have:N.data.toList.all (fun b=>b==32)=false:=by
      rw[←List.take_append_drop (j+1) N.data.toList,List.all_append,HG.J,List.all_append,HA.J];simp[h32]
     rw[this];rfl)
    clear h32;go_wp2
    go_ret;exact⟨af _ _ HF.J.symm,rfl⟩
  ·have d1:decide ((j:Int)<(N.size:Int))=false:=dF (by omega)
   have dG:decide (j<N.size)=false:=dF c2
   have HF:=I (show bH N.data.toList=decide (N.size≤200) by
    have h:=HA.J;rw[List.take_of_length_le (by rw[HL.J];omega)]at h;unfold bH;rw[h,HL.J];rfl)
   go_wp2
   go_ret;exact⟨af _ _ (by rw[HF.J,decide_eq_decide];omega),rfl⟩
end
section
open Go.RowKit
open Xp (aX Q aR dD aM bA iA kN)
theorem Qq:∀n:Fin 256,kN 0 (UInt8.ofNat n.1)=(decide ((n.1:Int)<(32:Int))||decide ((126:Int)<(n.1:Int))||((n.1:Int)==(60:Int))):=by decide+kernel
theorem Uf(n:Nat)(b:UInt8):kN n b=(decide ((b.toNat:Int)<(32:Int))||decide ((126:Int)<(b.toNat:Int))||((b.toNat:Int)==(60:Int))||((n:Int)==(200:Int))):=by
 have h:=Qq ⟨b.toNat,b.toNat_lt⟩;have h2:kN 0 b=(decide ((b.toNat:Int)<(32:Int))||decide ((126:Int)<(b.toNat:Int))||((b.toNat:Int)==(60:Int))):=by simpa using h
 have h3:kN n b=(kN 0 b||(n==200)):=by unfold kN;simp
 have h4:(n==200)=((n:Int)==(200:Int)):=by rw[Bool.eq_iff_iff,beq_iff_eq,beq_iff_eq];omega
 rw[h3,h2,h4]
theorem H6(n:Nat)(q:Q):(iA n q).1.length≤1:=by
 unfold iA
 repeat' split
 all_goals simp
theorem ym:∀(s:List UInt8) (q:Q),aX (bA s q).l q.l
 |[],q=>aX.refl _
 |c::s,q=>by
  rw[bA];refine(ym s _).trans ?_;unfold aM;split
  ·exact aX.drop 1 _
  ·exact aX.refl _
theorem aat(n:Nat)(q:Q):aX (iA n q).2.l q.l:=by
 unfold iA
 repeat' split
 ·exact aX.refl _
 ·exact aX.drop 1 _
 all_goals exact(ym _ _).trans (aX.drop 1 _)
theorem LD(S:ByteArray)(g n:Nat)(q:Q)(w:World)(hS:S.size≤1099511627776)(h:Xq S g q w):Calls Tryz.prog 173 #[.pointer (some ⟨g,0,none⟩),.int .i64 (n:Int)] w fun e w'=>e=.returned (.string ⟨(iA n q).1.toArray⟩)∧Touch (fun b=>b=g) w w'∧Xq S g (iA n q).2 w':=by
 have HX:=I h
 have Rv:=I (show iA n q=if kN n (aR q)then([],dD q)
  else if aR q≠38 then([aR q],{q with l:=q.l.drop 1})
  else if aR {q with l:=q.l.drop 1}=97 then([38],bA [97,109,112,59] {q with l:=q.l.drop 1})
  else if aR {q with l:=q.l.drop 1}=108 then([60],bA [108,116,59] {q with l:=q.l.drop 1})
  else if aR {q with l:=q.l.drop 1}=103 then([62],bA [103,116,59] {q with l:=q.l.drop 1})
  else([34],bA [113,117,111,116,59] {q with l:=q.l.drop 1})from rfl)
 have hcb:=Uf n (aR q);clear h;obtain⟨r,hr⟩:∃r,r=iA n q:=⟨_,rfl⟩;rw[←hr]at Rv⊢;clear hr;cases hb:kN n (aR q)with
 |true=>
  have HR:=I (show r=([],dD q) by rw[Rv.J,hb];rfl);rw[hb]at hcb;clear Rv hb;generalize hd1:decide (((aR q).toNat:Int)<(32:Int))=d1 at hcb;generalize hd2:decide ((126:Int)<((aR q).toNat:Int))=d2 at hcb;generalize hd3:(((aR q).toNat:Int)==(60:Int))=d3 at hcb;generalize hd4:((n:Int)==(200:Int))=d4 at hcb
  have iV:d1=true∨(d1=false∧d2=true)∨(d1=false∧d2=false∧d3=true)∨(d1=false∧d2=false∧d3=false∧d4=true):=by
   revert hcb
   cases d1<;>cases d2<;>cases d3<;>cases d4<;>decide
  clear hcb
  rcases iV with h1|⟨h1,h2⟩|⟨h1,h2,h3⟩|⟨h1,h2,h3,h4⟩
  all_goals
   subst h1
   try subst h2
   try subst h3
   try subst h4
   go_enter Tryz.func173,Tryz.ntmps173;go_wp2_with fail
   refine(jb S g q _ HX.J).mono ?_;rintro _ w1 ⟨rfl,hf1⟩;have bS:=I (HX.J.fresh hf1);have HT1:=I (show Touch (fun b=>b=g) w w1 from hf1.mono fun _ h=>h.elim);clear hf1;obtain⟨q0,q1,q2,q3,f0,f1,f2,f3,hg⟩:=O.four bS.J.blk;have eT:=I bS.J.stop;have HT2:=I (HT1.J.setCell (p:=⟨g,3,none⟩) (.inl rfl) (.bool true));go_wp2
   go_ret;rw[HR.J];exact⟨rfl,HT2.J,eT.J⟩
 |false=>
  rw[hb]at hcb;obtain⟨pk,hpk⟩:∃pk,pk=aR q:=⟨_,rfl⟩
  have hpz:pk≠0:=by
   rintro rfl;rw[←hpk]at hb
   revert hb
   unfold kN;simp
  obtain⟨l,hq⟩:=zS hpz hpk.symm;obtain⟨k,hk⟩:∃k,k=q.k:=⟨_,rfl⟩;rw[←hk]at hq;clear hk;rw[←hpk]at hb hcb Rv;have qi:=I hpk;clear hpk hpz;subst hq
  have iV:decide ((pk.toNat:Int)<(32:Int))=false∧decide ((126:Int)<(pk.toNat:Int))=false∧((pk.toNat:Int)==(60:Int))=false∧((n:Int)==(200:Int))=false:=by
   have h:=hcb.symm;simp only[Bool.or_eq_false_iff]at h;exact⟨h.1.1.1,h.1.1.2,h.1.2,h.2⟩
  have HCB:=I hb;clear hcb hb;obtain⟨d1,d2,d3,d4⟩:=iV
  have Ug:=I (show r=if pk≠38 then([pk],Q.mk l k false)
   else if aR (Q.mk l k false)=97 then([38],bA [97,109,112,59] (Q.mk l k false))
   else if aR (Q.mk l k false)=108 then([60],bA [108,116,59] (Q.mk l k false))
   else if aR (Q.mk l k false)=103 then([62],bA [103,116,59] (Q.mk l k false))
   else([34],bA [113,117,111,116,59] (Q.mk l k false)) by rw[Rv.J,HCB.J];rfl)
  clear Rv HCB qi;have EM:=I (show Calls Tryz.prog 121 #[.pointer (some ⟨g,0,none⟩)] w fun e w'=>e=.returned (.int .u8 (pk.toNat:Int))∧ag w w' from jb S g ⟨pk::l,k,false⟩ w HX.J);have Vp:=I (fun(W:World) (h:Xq S g ⟨l,k,false⟩ W)=>jb S g ⟨l,k,false⟩ W h);generalize aR (Q.mk l k false)=p2 at*;go_enter Tryz.func173,Tryz.ntmps173;go_wp2_with fail
  refine EM.J.mono ?_;rintro _ w1 ⟨rfl,hf1⟩;have bS:=I (HX.J.fresh hf1);have HT1:=I (show Touch (fun b=>b=g) w w1 from hf1.mono fun _ h=>h.elim);clear hf1;obtain⟨q0,q1,q2,q3,f0,f1,f2,f3,hg⟩:=O.four bS.J.blk;have eT:=I bS.J.qh;have hle:=bS.J.len;simp only at q0 q1 q2 q3 hle;have hw:IntKind.i64.wrap (((S.size-(pk::l).length:Nat):Int)+1)=((S.size-(pk::l).length:Nat):Int)+1:=IntWalk.i64_in _ (by omega);have HT2:=I (HT1.J.setCell (p:=⟨g,1,none⟩) (.inl rfl) (.int .i64 (((S.size-(pk::l).length:Nat):Int)+1)));clear hle;generalize S.size-(pk::l).length=j at q1 hw eT HT2
  by_cases Ed:pk=38
  ·have hne:=jm pk 38 Ed
   replace hne:((pk.toNat:Int) !=(38:Int))=false:=hne
   have HR:=I (show r=if p2=97 then([38],bA [97,109,112,59] (Q.mk l k false))
    else if p2=108 then([60],bA [108,116,59] (Q.mk l k false))
    else if p2=103 then([62],bA [103,116,59] (Q.mk l k false))
    else([34],bA [113,117,111,116,59] (Q.mk l k false)) by rw[Ug.J,if_neg (fun h=>h Ed)])
   clear Ug Ed;go_wp2_with fail
   generalize (w1.setCell ⟨g,1,none⟩ (.int .i64 ((j:Int)+1)))=w2 at eT HT2⊢;refine(Vp.J _ eT.J).mono ?_;rintro _ w3 ⟨rfl,hf3⟩;have iP:=I (eT.J.fresh hf3);have HT3:=I (HT2.J.trans (hf3.mono fun _ h=>h.elim));clear hf3 bS HT1 eT HT2 q0 q1 q2 q3 f0 f1 f2 f3 hw hne
   by_cases g1:p2=97
   ·have HR2:=I (show r=([38],bA [97,109,112,59] (Q.mk l k false)) by rw[HR.J,if_pos g1])
    subst g1;go_wp2_with fail
    refine(rG S ⟨#[97,109,112,59]⟩ g ⟨l,k,false⟩ _ hS (by decide) (by decide) iP.J).mono ?_;rintro _ w4 ⟨rfl,ht,hx⟩;have iU:=I (HT3.J.trans ht);have gD:=I hx;clear ht hx;go_wp2
    go_ret;rw[HR2.J];exact⟨rfl,iU.J,gD.J⟩
   have e1:=qX p2 97 g1
   by_cases g2:p2=108
   ·have HR2:=I (show r=([60],bA [108,116,59] (Q.mk l k false)) by rw[HR.J,if_neg g1,if_pos g2])
    subst g2;clear e1 g1;go_wp2_with fail
    refine(rG S ⟨#[108,116,59]⟩ g ⟨l,k,false⟩ _ hS (by decide) (by decide) iP.J).mono ?_;rintro _ w4 ⟨rfl,ht,hx⟩;have iU:=I (HT3.J.trans ht);have gD:=I hx;clear ht hx;go_wp2
    go_ret;rw[HR2.J];exact⟨rfl,iU.J,gD.J⟩
   have e2:=qX p2 108 g2
   by_cases g3:p2=103
   ·have HR2:=I (show r=([62],bA [103,116,59] (Q.mk l k false)) by rw[HR.J,if_neg g1,if_neg g2,if_pos g3])
    subst g3;clear e1 g1 e2 g2;go_wp2_with fail
    refine(rG S ⟨#[103,116,59]⟩ g ⟨l,k,false⟩ _ hS (by decide) (by decide) iP.J).mono ?_;rintro _ w4 ⟨rfl,ht,hx⟩;have iU:=I (HT3.J.trans ht);have gD:=I hx;clear ht hx;go_wp2
    go_ret;rw[HR2.J];exact⟨rfl,iU.J,gD.J⟩
   have e3:=qX p2 103 g3;have HR2:=I (show r=([34],bA [113,117,111,116,59] (Q.mk l k false)) by rw[HR.J,if_neg g1,if_neg g2,if_neg g3]);replace e1:((p2.toNat:Int)==(97:Int))=false:=e1;replace e2:((p2.toNat:Int)==(108:Int))=false:=e2;replace e3:((p2.toNat:Int)==(103:Int))=false:=e3;clear g1 g2 g3;go_wp2_with fail
   refine(rG S ⟨#[113,117,111,116,59]⟩ g ⟨l,k,false⟩ _ hS (by decide) (by decide) iP.J).mono ?_;rintro _ w4 ⟨rfl,ht,hx⟩;have iU:=I (HT3.J.trans ht);have gD:=I hx;clear ht hx;go_wp2
   go_ret;rw[HR2.J];exact⟨rfl,iU.J,gD.J⟩
  ·have hne:=jU pk 38 Ed
   replace hne:((pk.toNat:Int) !=(38:Int))=true:=hne;have HR:=I (show r=([pk],Q.mk l k false) by rw[Ug.J,if_pos Ed]);clear Ug Ed;have hsz:(w1.setCell ⟨g,1,none⟩ (.int .i64 ((j:Int)+1))).heap.size=w1.heap.size:=by simp
   have mo:=I (O.new (w1.setCell ⟨g,1,none⟩ (.int .i64 ((j:Int)+1))) 5 #[.int .u8 (pk.toNat:Int)]);rw[hsz]at mo
   have hcv:∀W:World,O W w1.heap.size 5 #[.int .u8 (pk.toNat:Int)]→(convert 65 9 (.slice (some ⟨w1.heap.size,0,none⟩) 1 1)).run Tryz.prog W=.ok (.string ⟨#[pk]⟩) W:=by
    intro W hb;refine run_convert_bytes_back W 65 9 5 ⟨w1.heap.size,0,none⟩ 1 [pk] Tryz.underlying65 Tryz.underlying5 Tryz.underlying9 ?_;intro i hi;obtain rfl:i=0:=by simpa using hi
    exact hb.cell 0
   clear hsz;have ajm:=hcv _ mo.J;clear hcv;go_wp2
   go_ret;rw[HR.J];exact⟨rfl,HT2.J.alloc _,eT.J.fresh ((M _ _).alloc _)⟩
end
end Go.Proofs.YtnbeemkfmlfgfaaGreatDoor
