/- Part 13 of 48 of a proof. No condition. -/
import Derived.Test.YtnbeemkfmlfgfaaGreatDoorTm12
set_option maxRecDepth 100000
set_option maxHeartbeats 2000000
namespace Go.Proofs.YtnbeemkfmlfgfaaGreatDoor
section
open Go.RowKit
open Xp (Rs aX white aL jy iX fe)
theorem Vm:∀n:Fin 256,white (UInt8.ofNat n.1)=(((n.1:Int)==(32:Int))||((n.1:Int)==(9:Int))||((n.1:Int)==(10:Int))||((n.1:Int)==(13:Int))):=by decide+kernel
theorem qa(b:UInt8):white b=(((b.toNat:Int)==(32:Int))||((b.toNat:Int)==(9:Int))||((b.toNat:Int)==(10:Int))||((b.toNat:Int)==(13:Int))):=by
 have:=Vm ⟨b.toNat,b.toNat_lt⟩;simpa using this
theorem F8(b:UInt8)(w:World):Calls Tryz.prog 163 #[.int .u8 (b.toNat:Int)] w fun e w'=>e=.returned (.bool (white b))∧w'=w:=by
 go_enter Tryz.func163,Tryz.ntmps163;cases h1:((b.toNat:Int)==(32:Int))with
 |false=>
  have xS:((b.toNat:Int) !=(32:Int))=true:=by rw[bne,h1];rfl
  cases h2:((b.toNat:Int)==(9:Int))with
  |false=>
   have D5:((b.toNat:Int) !=(9:Int))=true:=by rw[bne,h2];rfl
   cases h3:((b.toNat:Int)==(10:Int))with
   |false=>
    have xU:((b.toNat:Int) !=(10:Int))=true:=by rw[bne,h3];rfl
    cases h4:((b.toNat:Int)==(13:Int))with
    |false=>
     have Iw:((b.toNat:Int) !=(13:Int))=true:=by rw[bne,h4];rfl
     go_wp2
     go_ret;exact⟨af _ _ (by rw[qa];simp only[*]<;>rfl),rfl⟩
    |true=>
     have Iw:((b.toNat:Int) !=(13:Int))=false:=by rw[bne,h4];rfl
     go_wp2
     go_ret;exact⟨af _ _ (by rw[qa];simp only[*]<;>rfl),rfl⟩
   |true=>
    have xU:((b.toNat:Int) !=(10:Int))=false:=by rw[bne,h3];rfl
    go_wp2
    go_ret;exact⟨af _ _ (by rw[qa];simp only[*]<;>rfl),rfl⟩
  |true=>
   have D5:((b.toNat:Int) !=(9:Int))=false:=by rw[bne,h2];rfl
   go_wp2
   go_ret;exact⟨af _ _ (by rw[qa];simp only[*]<;>rfl),rfl⟩
 |true=>
  have xS:((b.toNat:Int) !=(32:Int))=false:=by rw[bne,h1];rfl
  go_wp2
  go_ret;exact⟨af _ _ (by rw[qa];simp only[*]<;>rfl),rfl⟩
theorem iZ(S:ByteArray)(g c:Nat)(w:World)(h:Xr S g [] c w):Calls Tryz.prog 164 #[.pointer (some ⟨g,0,none⟩)] w fun e w'=>XS S g w [] e w':=by
 have HX:=I h;obtain⟨q0,q1,q2,_,_,_,_⟩:=fV h.blk;rw[show S.size-([]:List UInt8).length=S.size from rfl]at q1;have d1:decide ((S.size:Int)≤(S.size:Int))=true:=dT (Int.le_refl _);have dG:decide (S.size≤S.size)=true:=dT (Nat.le_refl _);clear h;go_enter Tryz.func164,Tryz.ntmps164;go_wp2
 go_quiet (fail)
 go_wp2_with fail
 refine(iq S g [] c _ (HX.J.fresh ((M _ _).drewN _))).mono ?_;rintro _ w1 ⟨rfl,rfl⟩;exact⟨rfl,rfl,(M _ _).drewN _⟩
theorem bK(S:ByteArray)(g c:Nat)(b:UInt8)(l:List UInt8)(w:World)(h:Xr S g (b::l) c w):Calls Tryz.prog 164 #[.pointer (some ⟨g,0,none⟩)] w fun e w'=>e=.returned (.int .u8 (b.toNat:Int))∧ag w w':=by
 obtain⟨q0,q1,q2,_,_,_,_⟩:=fV h.blk;obtain⟨hk,hb,_⟩:=uZ h.nK;clear h;generalize S.size-(b::l).length=k at*;have hki:(k:Int)<(S.size:Int):=by omega
 have d1:decide ((S.size:Int)≤(k:Int))=false:=dF (by omega);have dG:decide (S.size≤k)=false:=dF (by omega);go_enter Tryz.func164,Tryz.ntmps164;go_wp2
 go_quiet (fail)
 go_wp2
 go_quiet (fail)
 go_wp2
 go_ret;exact⟨rfl,((M _ _).drewN _).drewN _⟩
def XU(S:ByteArray)(g:Nat)(w:World)(r:Rs Unit)(e:Ending)(w':World):Prop:=match r with
 |.ok _ l' c'=>e=.returned (.tuple #[])∧Touch (fun b=>b=g) w w'∧Xr S g l' c' w'
 |.bad l'=>XS S g w l' e w'
theorem qb(S:ByteArray)(g c:Nat)(b:UInt8)(l:List UInt8)(w:World)(hS:S.size≤1099511627776)(h:Xr S g l c w):Calls Tryz.prog 109 #[.pointer (some ⟨g,0,none⟩),.int .u8 (b.toNat:Int)] w fun e w'=>XU S g w (aL b c l) e w':=by
 have HX:=I h;clear h;cases l with
 |nil=>
  go_enter Tryz.func109,Tryz.ntmps109;go_wp2_with fail
  refine(iZ S g c w HX.J).mono ?_;rintro _ w1 ⟨rfl,ht⟩;exact⟨rfl,rfl,ht⟩
 |cons x l=>
  by_cases hx:x=b
  ·have hne:=jm x b hx
   have HR:=I (show aL b c (x::l)=.ok () l c from if_pos hx);clear hx;go_enter Tryz.func109,Tryz.ntmps109;go_wp2_with fail
   refine(bK S g c x l w HX.J).mono ?_;rintro _ w1 ⟨rfl,hf⟩;have bS:=I (HX.J.fresh hf);have aF:=I hf;obtain⟨q0,q1,q2,f0,f1,f2,hg⟩:=fV bS.J.blk;have eT:=I bS.J.qh;have hle:=bS.J.len;have hw:IntKind.i64.wrap (((S.size-(x::l).length:Nat):Int)+1)=((S.size-(x::l).length:Nat):Int)+1:=IntWalk.i64_in _ (by omega);clear hf;generalize S.size-(x::l).length=k at*;go_wp2
   refine bodyPost_end (v:=.tuple #[]) (results_none rfl _ _ _) rfl ?_;rw[HR.J];exact⟨rfl,(show Touch (fun b=>b=g) w w1 from aF.J.mono fun _ h=>h.elim).setCell (p:=⟨g,1,none⟩) (.inl rfl) _,eT.J⟩
  ·have hne:=jU x b hx
   have HR:=I (show aL b c (x::l)=.bad (x::l)from if_neg hx);clear hx;go_enter Tryz.func109,Tryz.ntmps109;go_wp2_with fail
   refine(bK S g c x l w HX.J).mono ?_;rintro _ w1 ⟨rfl,hf⟩;have bS:=I (HX.J.fresh hf);have aF:=I hf;clear hf;go_wp2_with fail
   refine(iq S g (x::l) c _ bS.J).mono ?_;rintro _ w2 ⟨rfl,rfl⟩;refine⟨rfl,(?_:XU S g w (aL b c (x::l)) _ _)⟩;rw[HR.J];exact⟨rfl,aF.J.mono fun _ h=>h.elim⟩
def posOf(g:Nat)(w:World):Nat:=match w.cell? ⟨g,1,none⟩with
 |some (.int _ k)=>k.toNat
 |_=>0
theorem jY{S:ByteArray}{g c:Nat}{l:List UInt8}{w:World}(h:Xr S g l c w):posOf g w=S.size-l.length:=by
 unfold posOf;rw[(fV h.blk).2.1];show Int.toNat _=_;omega
theorem xV(p:UInt8→Bool)(b:UInt8)(l:List UInt8)(h:p b=true):(b::l).dropWhile p=l.dropWhile p:=by rw[List.dropWhile_cons,if_pos h]
theorem Ac(p:UInt8→Bool)(b:UInt8)(l:List UInt8)(h:p b=false):(b::l).dropWhile p=b::l:=by rw[List.dropWhile_cons,if_neg (by rw[h];decide)]
theorem lS(S:ByteArray)(g c:Nat)(l:List UInt8)(w:World)(hS:S.size≤1099511627776)(h:Xr S g l c w):Calls Tryz.prog 108 #[.pointer (some ⟨g,0,none⟩)] w fun e w'=>e=.returned (.bool (decide ((l.dropWhile white).length<l.length)))∧Touch (fun b=>b=g) w w'∧Xr S g (l.dropWhile white) c w':=by
 have HX:=I h;obtain⟨q0,q1,q2,_,_,_,_⟩:=fV h.blk;have hll:=h.len;clear h;obtain⟨k0,hk0⟩:∃k,k=S.size-l.length:=⟨_,rfl⟩;have qD:=I hk0;rw[←hk0]at q1;clear hk0;go_enter Tryz.func108,Tryz.ntmps108;go_wp2_with fail
 clear q0 q1 q2
 go_loopw [] (fun wr=>∃l1:List UInt8,Hd (l1.dropWhile white=l.dropWhile white)∧Hd (aX l1 l)∧Hd (Touch (fun b=>b=g) w wr)∧Hd (Xr S g l1 c wr)) (fun wr=>S.size-posOf g wr)
 case atStart=>exact⟨l,I rfl,I (aX.refl _),I (M _ _),HX⟩
 case round=>
  obtain⟨l1,HD,HS,HT,HX⟩:=hrel;obtain⟨q0,q1,q2,f0,f1,f2,hg⟩:=fV HX.J.blk;have HP:=I (jY HX.J);have hle:=HX.J.len;cases l1 with
  |nil=>
   have aG:=I (show l.dropWhile white=[]from HD.J.symm);rw[show S.size-([]:List UInt8).length=S.size from rfl]at q1;have d1:decide ((S.size:Int)<(S.size:Int))=false:=dF (by omega);have dG:decide (S.size<S.size)=false:=dF (by omega);go_wp2
   go_quiet (fail)
   go_wp2
   go_ret;refine⟨af _ _ ?_,(HT.J).drewN _,by rw[aG.J];exact HX.J.fresh ((M _ _).drewN _)⟩;rw[aG.J,decide_eq_decide];have h1:=qD.J;show _↔0<l.length;omega
  |cons x l1=>
   obtain⟨hk,hb,hk2⟩:=uZ HX.J.nK;have eT:=I HX.J.qh;have Ad:=I hk2;clear hk2;have hw:IntKind.i64.wrap (((S.size-(x::l1).length:Nat):Int)+1)=((S.size-(x::l1).length:Nat):Int)+1:=IntWalk.i64_in _ (by omega);have hki:((S.size-(x::l1).length:Nat):Int)<(S.size:Int):=by omega
   have d1:decide (((S.size-(x::l1).length:Nat):Int)<(S.size:Int))=true:=dT (by omega);have dG:decide (S.size-(x::l1).length<S.size)=true:=dT (by omega);generalize hkk:S.size-(x::l1).length=k at q1 hk hb hw hki d1 dG eT;have HK:=I hkk;clear hkk;cases hp:white x with
   |false=>
    have aG:=I (show l.dropWhile white=x::l1 by rw[←HD.J];exact Ac white x l1 hp);go_wp2_with fail
    refine aV (fun W=>ag wr W) (M _ _) ?_;rintro w2 hfw2;have aY:=I hfw2;have p0:=hfw2.cell q0 (fun h=>h);have p1:=hfw2.cell q1 (fun h=>h);have r0:=cell_regrown p0;have r1:=cell_regrown p1;have C0:=I (iN (P:=Tryz.prog) w2 (fun w hw=>(F8 x _).mono fun _ _ h=>⟨h.1,by rw[h.2];exact M _ _⟩));clear hfw2 q0 q1;refine wp_region_quiet_below (by kernel_rfl) (by kernel_rfl) ?_
    repeat(with_reducible refine wpQuiet_step (fun K hK=>?_);go_simp;first|(refine hK _ ?_;clear hK K)|(apply Exists.intro;refine⟨fun _=>?_,hK _ ?_⟩;(first|with_reducible exact C0.J _ _);clear hK K))
    refine wpQuiet_nil ?_;rintro w3 ⟨⟨_,_⟩,hW3⟩;have hf3:ag w2 w3:=by rw[hW3];exact bE (below_regrown _ _ _)
    have bC:=I (aY.J.trans hf3);have iP:=I (HX.J.fresh bC.J);clear hW3 r0 r1 hf3 p0 p1 C0 q2 f0 f1 f2 hg;obtain⟨q0,q1,q2,f0,f1,f2,hg⟩:=fV iP.J.blk;rw[HK.J]at q1;have HT3:=I (HT.J.trans (bC.J.mono fun _ h=>h.elim));go_wp2
    go_ret;refine⟨af _ _ ?_,HT3.J,by rw[aG.J];exact iP.J⟩;rw[aG.J,decide_eq_decide];have h1:=qD.J;have h2:=HK.J;have h3:=HS.J.len;omega
   |true=>
    have HD2:=I (show l1.dropWhile white=l.dropWhile white by rw[←HD.J];exact(xV white x l1 hp).symm);go_wp2_with fail
    refine aV (fun W=>ag wr W) (M _ _) ?_;rintro w2 hfw2;have aY:=I hfw2;have p0:=hfw2.cell q0 (fun h=>h);have p1:=hfw2.cell q1 (fun h=>h);have r0:=cell_regrown p0;have r1:=cell_regrown p1;have C0:=I (iN (P:=Tryz.prog) w2 (fun w hw=>(F8 x _).mono fun _ _ h=>⟨h.1,by rw[h.2];exact M _ _⟩));clear hfw2 q0 q1;refine wp_region_quiet_below (by kernel_rfl) (by kernel_rfl) ?_
    repeat(with_reducible refine wpQuiet_step (fun K hK=>?_);go_simp;first|(refine hK _ ?_;clear hK K)|(apply Exists.intro;refine⟨fun _=>?_,hK _ ?_⟩;(first|with_reducible exact C0.J _ _);clear hK K))
    refine wpQuiet_nil ?_;rintro w3 ⟨⟨_,_⟩,hW3⟩;have hf3:ag w2 w3:=by rw[hW3];exact bE (below_regrown _ _ _)
    have bC:=I (aY.J.trans hf3);have iP:=I (HX.J.fresh bC.J);clear hW3 r0 r1 hf3 p0 p1 C0 q2 f0 f1 f2 hg;obtain⟨q0,q1,q2,f0,f1,f2,hg⟩:=fV iP.J.blk;rw[HK.J]at q1;have HT3:=I (HT.J.trans (bC.J.mono fun _ h=>h.elim));have hx4:=iP.J.qh;rw[HK.J]at hx4;have gD:=I hx4;have iU:=I (HT3.J.setCell (p:=⟨g,1,none⟩) (.inl rfl) (.int .i64 ((k:Int)+1)));have HM:=I (jY hx4);clear hx4;go_wp2
    go_roundw
    case rel=>exact⟨l1,HD2,(aX.cons x).trans HS.J,iU,gD⟩
    case measure=>rw[HM.J,HP.J];simp only[List.length_cons]at*;omega
def XV(S:ByteArray)(g:Nat)(w:World)(r:Rs (List UInt8))(e:Ending)(w':World):Prop:=match r with
 |.ok x l' c'=>e=.returned (.string ⟨x.toArray⟩)∧Touch (fun b=>b=g) w w'∧Xr S g l' c' w'
 |.bad l'=>XS S g w l' e w'
theorem oz{S:ByteArray}{p r:List UInt8}(h:aX (p++r) S.data.toList):S.extract (S.size-(p++r).length) (S.size-r.length)=⟨p.toArray⟩:=by
 obtain⟨q,hq⟩:=h;have hl:S.data.toList.length=S.size:=by simp
 have hs:S.size=q.length+(p.length+r.length):=by rw[←hl,hq,List.length_append,List.length_append]
 have h1:S.size-(p++r).length=q.length:=by rw[List.length_append];omega
 have h2:S.size-r.length=q.length+p.length:=by omega
 rw[h1,h2];apply ByteArray.ext
 apply Array.toList_inj.1
 rw[ByteArray.data_extract,Array.toList_extract,List.extract_eq_take_drop,hq];simp
theorem Bb(S:ByteArray)(g c:Nat)(l:List UInt8)(w:World)(hS:S.size≤1099511627776)(h:Xr S g l c w):Calls Tryz.prog 166 #[.pointer (some ⟨g,0,none⟩)] w fun e w'=>XV S g w (jy c l) e w':=by
 have HX:=I h;have hll:=h.len;obtain⟨q0,q1,q2,_,_,_,_⟩:=fV h.blk;clear h;cases l with
 |nil=>
  go_enter Tryz.func166,Tryz.ntmps166;go_wp2_with fail
  refine(iZ S g c _ HX.J).mono ?_;rintro _ w1 ⟨rfl,ht⟩;exact⟨rfl,rfl,ht⟩
 |cons b l=>
 cases hlb:U.letter b with
 |false=>
  have HR:=I (show jy c (b::l)=.bad (b::l)from by show(if U.letter b=true then _ else _)=_;rw[hlb];rfl);go_enter Tryz.func166,Tryz.ntmps166;go_wp2_with fail
  refine(bK S g c b l _ HX.J).mono ?_;rintro _ w1 ⟨rfl,hf⟩;have bS:=I (HX.J.fresh hf);have aF:=I hf;clear hf;go_wp2_with fail
  refine(jv b _).mono ?_;rintro _ w2 ⟨rfl,hw⟩;replace hw:=hw.symm;subst hw;rw[hlb];go_wp2_with fail
  refine(iq S g (b::l) c _ bS.J).mono ?_;rintro _ w3 ⟨rfl,rfl⟩;refine⟨rfl,(?_:XV S g w (jy c (b::l)) _ _)⟩;rw[HR.J];exact⟨rfl,aF.J.mono fun _ h=>h.elim⟩
 |true=>
 have HR:=I (show jy c (b::l)=.ok ((b::l).takeWhile U.inner) ((b::l).dropWhile U.inner) c from by show(if U.letter b=true then _ else _)=_;rw[hlb];rfl);obtain⟨k0,hk0⟩:∃k,k=S.size-(b::l).length:=⟨_,rfl⟩;have qD:=I hk0;rw[←hk0]at q1;clear hk0;go_enter Tryz.func166,Tryz.ntmps166;go_wp2_with fail
 refine(bK S g c b l _ HX.J).mono ?_;rintro _ w1 ⟨rfl,hf⟩;have bS:=I (HX.J.fresh hf);have aF:=I (show Touch (fun b=>b=g) w w1 from hf.mono fun _ h=>h.elim);clear hf q0 q1 q2;go_wp2_with fail
 refine(jv b _).mono ?_;rintro _ w2 ⟨rfl,hw⟩;replace hw:=hw.symm;subst hw;rw[hlb];obtain⟨lw,Vn⟩:∃lw,lw=b::l:=⟨_,rfl⟩;rw[←Vn]at bS HR qD hll;have HX:=bS;have Dv:=I bS.J.nK;have QS:=I Vn;clear bS hlb Vn;go_wp2
 go_loopw [] (fun wr=>∃l1:List UInt8,Hd (l1.dropWhile U.inner=lw.dropWhile U.inner)∧Hd (aX l1 lw)∧Hd (Touch (fun b=>b=g) w wr)∧Hd (Xr S g l1 c wr)) (fun wr=>S.size-posOf g wr)
 case atStart=>exact⟨lw,I rfl,I (aX.refl _),aF,HX⟩
 case round=>
  obtain⟨l1,HD,HS,HT,HX⟩:=hrel;obtain⟨q0,q1,q2,f0,f1,f2,hg⟩:=fV HX.J.blk;have HP:=I (jY HX.J);have hle:=HX.J.len;cases l1 with
  |nil=>
   have aG:=I (show lw.dropWhile U.inner=[]from HD.J.symm);rw[show S.size-([]:List UInt8).length=S.size from rfl]at q1;have d1:decide ((S.size:Int)<(S.size:Int))=false:=dF (by omega);have dG:decide (S.size<S.size)=false:=dF (by omega);go_wp2
   go_quiet (fail)
   go_wp2_with fail
   have qE:=I (show S.extract k0 S.size=⟨(lw.takeWhile U.inner).toArray⟩from by
    have h:=oz (S:=S) (p:=lw.takeWhile U.inner) (r:=lw.dropWhile U.inner) (by rw[List.takeWhile_append_dropWhile];exact Dv.J);rw[List.takeWhile_append_dropWhile,←qD.J,aG.J]at h;exact h)
   have hk1:(k0:Int)≤(S.size:Int):=by have:=qD.J;have:=HS.J.len;have:=hll;omega
   have hk2:(S.size:Int)≤(S.size:Int):=by omega
   have hk3:(0:Int)≤(k0:Int):=by omega
   go_wp2
   go_quiet (fail)
   go_wp2
   go_ret;rw[←QS.J,HR.J];refine⟨congrArg (fun s=>Ending.returned (Value.string s)) qE.J,(HT.J.drewN _).drewN _,?_⟩;rw[aG.J];exact HX.J.fresh (((M _ _).drewN _).drewN _)
  |cons x l1=>
   obtain⟨hk,hb,hk2⟩:=uZ HX.J.nK;have eT:=I HX.J.qh;have Ad:=I hk2;clear hk2;have hw:IntKind.i64.wrap (((S.size-(x::l1).length:Nat):Int)+1)=((S.size-(x::l1).length:Nat):Int)+1:=IntWalk.i64_in _ (by omega);have hki:((S.size-(x::l1).length:Nat):Int)<(S.size:Int):=by omega
   have d1:decide (((S.size-(x::l1).length:Nat):Int)<(S.size:Int))=true:=dT (by omega);have dG:decide (S.size-(x::l1).length<S.size)=true:=dT (by omega);generalize hkk:S.size-(x::l1).length=k at q1 hk hb hw hki d1 dG eT;have HK:=I hkk;clear hkk;cases hp:U.inner x with
   |false=>
    have aG:=I (show lw.dropWhile U.inner=x::l1 by rw[←HD.J];exact Ac U.inner x l1 hp);go_wp2_with fail
    refine aV (fun W=>ag wr W) (M _ _) ?_;rintro w2 hfw2;have aY:=I hfw2;have p0:=hfw2.cell q0 (fun h=>h);have p1:=hfw2.cell q1 (fun h=>h);have r0:=cell_regrown p0;have r1:=cell_regrown p1;have C0:=I (iN (P:=Tryz.prog) w2 (fun w hw=>(zy x _).mono fun _ _ h=>⟨h.1,by rw[h.2];exact M _ _⟩));clear hfw2 q0 q1;refine wp_region_quiet_below (by kernel_rfl) (by kernel_rfl) ?_
    repeat(with_reducible refine wpQuiet_step (fun K hK=>?_);go_simp;first|(refine hK _ ?_;clear hK K)|(apply Exists.intro;refine⟨fun _=>?_,hK _ ?_⟩;(first|with_reducible exact C0.J _ _);clear hK K))
    refine wpQuiet_nil ?_;rintro w3 ⟨⟨_,_⟩,hW3⟩;have hf3:ag w2 w3:=by rw[hW3];exact bE (below_regrown _ _ _)
    have bC:=I (aY.J.trans hf3);have iP:=I (HX.J.fresh bC.J);clear hW3 r0 r1 hf3 p0 p1 C0 q2 f0 f1 f2 hg;obtain⟨q0,q1,q2,f0,f1,f2,hg⟩:=fV iP.J.blk;rw[HK.J]at q1;have HT3:=I (HT.J.trans (bC.J.mono fun _ h=>h.elim))
    have qE:=I (show S.extract k0 k=⟨(lw.takeWhile U.inner).toArray⟩from by
     have h:=oz (S:=S) (p:=lw.takeWhile U.inner) (r:=lw.dropWhile U.inner) (by rw[List.takeWhile_append_dropWhile];exact Dv.J);rw[List.takeWhile_append_dropWhile,←qD.J,aG.J,HK.J]at h;exact h)
    have hk1:(k0:Int)≤(k:Int):=by have:=qD.J;have:=HS.J.len;have:=hll;have:=HK.J;have:=HS.J.len;simp only[List.length_cons]at*;omega
    have hk2:(k:Int)≤(S.size:Int):=by have:=HK.J;have:=HS.J.len;simp only[List.length_cons]at*;omega
    have hk3:(0:Int)≤(k0:Int):=by omega
    go_wp2
    go_quiet (fail)
    go_wp2
    go_ret;rw[←QS.J,HR.J];refine⟨congrArg (fun s=>Ending.returned (Value.string s)) qE.J,HT3.J.drewN _,?_⟩;rw[aG.J];exact iP.J.fresh ((M _ _).drewN _)
   |true=>
    have HD2:=I (show l1.dropWhile U.inner=lw.dropWhile U.inner by rw[←HD.J];exact(xV U.inner x l1 hp).symm);go_wp2_with fail
    refine aV (fun W=>ag wr W) (M _ _) ?_;rintro w2 hfw2;have aY:=I hfw2;have p0:=hfw2.cell q0 (fun h=>h);have p1:=hfw2.cell q1 (fun h=>h);have r0:=cell_regrown p0;have r1:=cell_regrown p1;have C0:=I (iN (P:=Tryz.prog) w2 (fun w hw=>(zy x _).mono fun _ _ h=>⟨h.1,by rw[h.2];exact M _ _⟩));clear hfw2 q0 q1;refine wp_region_quiet_below (by kernel_rfl) (by kernel_rfl) ?_
    repeat(with_reducible refine wpQuiet_step (fun K hK=>?_);go_simp;first|(refine hK _ ?_;clear hK K)|(apply Exists.intro;refine⟨fun _=>?_,hK _ ?_⟩;(first|with_reducible exact C0.J _ _);clear hK K))
    refine wpQuiet_nil ?_;rintro w3 ⟨⟨_,_⟩,hW3⟩;have hf3:ag w2 w3:=by rw[hW3];exact bE (below_regrown _ _ _)
    have bC:=I (aY.J.trans hf3);have iP:=I (HX.J.fresh bC.J);clear hW3 r0 r1 hf3 p0 p1 C0 q2 f0 f1 f2 hg;obtain⟨q0,q1,q2,f0,f1,f2,hg⟩:=fV iP.J.blk;rw[HK.J]at q1;have HT3:=I (HT.J.trans (bC.J.mono fun _ h=>h.elim));have hx4:=iP.J.qh;rw[HK.J]at hx4;have gD:=I hx4;have iU:=I (HT3.J.setCell (p:=⟨g,1,none⟩) (.inl rfl) (.int .i64 ((k:Int)+1)));have HM:=I (jY hx4);clear hx4;go_wp2
    go_roundw
    case rel=>exact⟨l1,HD2,(aX.cons x).trans HS.J,iU,gD⟩
    case measure=>rw[HM.J,HP.J];simp only[List.length_cons]at*;omega
end
section
open Go.RowKit
open Xp (Rs aX white aL jy iX fe gZ bn)
theorem rU{b:UInt8}{c:Nat}{l:List UInt8}{u:Unit}{l1:List UInt8}{c1:Nat}(h:aL b c l=.ok u l1 c1):c1=c:=by
 cases l with
 |nil=>cases h
 |cons x l=>
  have h:(if x=b then Rs.ok () l c else .bad (x::l))=.ok u l1 c1:=h;split at h
  ·cases h;rfl
  ·cases h
def Cr(c:Nat)(s l:List UInt8):Rs Unit:=match iX c s l with
 |.bad l2=>.bad l2
 |.ok _ l2 _=>aL 62 c (l2.dropWhile white)
theorem Mk{c:Nat}{b:UInt8}{s l l1:List UInt8}(h:aL b c l=.bad l1):Cr c (b::s) l=.bad l1:=by
 unfold Cr;rw[iX,h]
theorem NH{c:Nat}{b:UInt8}{s l l1:List UInt8}{u:Unit}{c1:Nat}(h:aL b c l=.ok u l1 c1):Cr c (b::s) l=Cr c s l1:=by
 unfold Cr;rw[iX,h]
theorem XU.trans{S:ByteArray}{g:Nat}{w w1 w2:World}{r:Rs Unit}{e:Ending}(ht:Touch (fun b=>b=g) w w1)(h:XU S g w1 r e w2):XU S g w r e w2:=by
 cases r with
 |ok u l c=>exact⟨h.1,ht.trans h.2.1,h.2.2⟩
 |bad l=>exact⟨h.1,ht.trans h.2⟩
theorem zz(S N:ByteArray)(g c:Nat)(l:List UInt8)(w:World)(hS:S.size≤1099511627776)(hN:N.size≤9223372036854775807)(h:Xr S g l c w):Calls Tryz.prog 202 #[.pointer (some ⟨g,0,none⟩),.string N] w fun e w'=>XU S g w (fe N.data.toList c l) e w':=by
 have HX:=I h;have HE:=I (fun(l:List UInt8) (W:World) (h:Xr S g l c W)=>show Calls Tryz.prog 109 #[.pointer (some ⟨g,0,none⟩),.int .u8 47] W fun e w'=>XU S g W (aL 47 c l) e w' from qb S g c 47 l W hS h);have SF:=I (fun(l:List UInt8) (W:World) (h:Xr S g l c W)=>show Calls Tryz.prog 109 #[.pointer (some ⟨g,0,none⟩),.int .u8 62] W fun e w'=>XU S g W (aL 62 c l) e w' from qb S g c 62 l W hS h);clear h;cases hr:aL 47 c l with
 |bad l1=>
  have HR:=I (show fe N.data.toList c l=.bad l1 by unfold Xp.fe;rw[hr]);go_enter Tryz.func202,Tryz.ntmps202;go_wp2_with fail
  refine(HE.J l _ HX.J).mono ?_;intro e w1 he;rw[hr]at he;obtain⟨rfl,ht⟩:=he;refine⟨rfl,(?_:XU S g w (fe N.data.toList c l) _ _)⟩;rw[HR.J];exact⟨rfl,ht⟩
 |ok u l1 c1=>
  have hc1:=rU hr;subst hc1;have HR:=I (show fe N.data.toList c1 l=Cr c1 (N.data.toList.drop 0) l1 by unfold Xp.fe Cr;rw[hr,List.drop_zero];rfl);go_enter Tryz.func202,Tryz.ntmps202;go_wp2_with fail
  refine(HE.J l _ HX.J).mono ?_;intro e w1 he;rw[hr]at he;obtain⟨rfl,ht,hx⟩:=he;have HT1:=I ht;have bS:=I hx;clear ht hx hr;go_wp2
  go_loopw [4] (fun i wr=>∃(j:Nat) (l2:List UInt8),i=.int .i64 j∧j≤N.size∧Hd (fe N.data.toList c1 l=Cr c1 (N.data.toList.drop j) l2)∧Hd (Touch (fun b=>b=g) w wr)∧Hd (Xr S g l2 c1 wr)) (fun i _=>N.size-(intOf i).toNat)
  case atStart=>exact⟨0,l1,rfl,Nat.zero_le _,HR,HT1,bS⟩
  case round=>
   obtain⟨j,l2,rfl,hj,HR,HT,HX⟩:=hrel
   by_cases c2:j<N.size
   ·have d1:decide ((j:Int)<(N.size:Int))=true:=dT (by omega)
    have dG:decide (j<N.size)=true:=dT c2;have d1':(j:Int)<(N.size:Int):=by omega
    obtain⟨b,hb⟩:∃b,N[j]'c2=b:=⟨_,rfl⟩
    have HD:=I (show N.data.toList.drop j=b::N.data.toList.drop (j+1) by
     rw[List.drop_eq_getElem_cons (by simpa using c2)]
     congr 1)
    cases hr:aL b c1 l2 with
    |bad l3=>
     have HR2:=I (show fe N.data.toList c1 l=.bad l3 by rw[HR.J,HD.J];exact Mk hr);go_wp2_with fail
     refine(qb S g c1 b l2 _ hS HX.J).mono ?_;intro e w3 he;rw[hr]at he;obtain⟨rfl,ht⟩:=he;refine⟨rfl,(?_:XU S g w (fe N.data.toList c1 l) _ _)⟩;rw[HR2.J];exact⟨rfl,HT.J.trans ht⟩
    |ok u l3 c3=>
     have HR2:=I (show fe N.data.toList c1 l=Cr c1 (N.data.toList.drop (j+1)) l3 by rw[HR.J,HD.J];exact NH hr);go_wp2_with fail
     refine(qb S g c1 b l2 _ hS HX.J).mono ?_;intro e w3 he;rw[hr]at he;obtain⟨rfl,ht,hx⟩:=he;have hc3:=rU hr;subst hc3;have HT3:=I (HT.J.trans ht);have iP:=I hx;clear ht hx hr;go_wp2
     go_roundw
     case rel=>exact⟨j+1,l3,by go_num,c2,HR2,HT3,iP⟩
     case measure=>simp[intOf];omega
   ·have d1:decide ((j:Int)<(N.size:Int))=false:=dF (by omega)
    have dG:decide (j<N.size)=false:=dF c2
    have HR2:=I (show fe N.data.toList c1 l=aL 62 c1 (l2.dropWhile white) by
     rw[HR.J,List.drop_of_length_le (by simpa using c2)];rfl)
    go_wp2_with fail
    refine(lS S g c1 l2 _ hS HX.J).mono ?_;rintro _ w3 ⟨rfl,ht,hx⟩;have HT3:=I (HT.J.trans ht);have iP:=I hx;clear ht hx;go_wp2_with fail
    refine(SF.J _ _ iP.J).mono ?_;intro e w4 he;cases hr:aL 62 c1 (l2.dropWhile white)with
    |bad l3=>
     rw[hr]at he;obtain⟨rfl,ht⟩:=he;refine⟨rfl,(?_:XU S g w (fe N.data.toList c1 l) _ _)⟩;rw[HR2.J,hr];exact⟨rfl,HT3.J.trans ht⟩
    |ok u l3 c3=>
     rw[hr]at he;obtain⟨rfl,ht,hx⟩:=he
     have HF:=I (show XU S g w (fe N.data.toList c1 l) (.returned (.tuple #[])) w4 by
      rw[HR2.J,hr];exact⟨rfl,HT3.J.trans ht,hx⟩)
     clear hr ht hx;go_wp2
     refine bodyPost_end (v:=.tuple #[]) (results_none rfl _ _ _) rfl ?_;exact HF.J
def XB(S:ByteArray)(g:Nat)(w:World)(r:Rs UInt8)(e:Ending)(w':World):Prop:=match r with
 |.ok x l' c'=>e=.returned (.int .u8 (x.toNat:Int))∧Touch (fun b=>b=g) w w'∧Xr S g l' c' w'
 |.bad l'=>XS S g w l' e w'
theorem XB.trans{S:ByteArray}{g:Nat}{w w1 w2:World}{r:Rs UInt8}{e:Ending}(ht:Touch (fun b=>b=g) w w1)(h:XB S g w1 r e w2):XB S g w r e w2:=by
 cases r with
 |ok u l c=>exact⟨h.1,ht.trans h.2.1,h.2.2⟩
 |bad l=>exact⟨h.1,ht.trans h.2⟩
end
end Go.Proofs.YtnbeemkfmlfgfaaGreatDoor
