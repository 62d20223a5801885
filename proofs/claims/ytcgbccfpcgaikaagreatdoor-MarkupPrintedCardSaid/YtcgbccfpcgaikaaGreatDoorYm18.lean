/- Part 18 of 46 of a proof. No condition. -/
import Derived.Test.YtcgbccfpcgaikaaGreatDoorYm17
set_option maxRecDepth 100000
set_option maxHeartbeats 2000000
namespace Go.Proofs.YtcgbccfpcgaikaaGreatDoor
section
open Go.RowKit
open Xp (Rs bQ white bB nM wW iQ)
theorem ZO:∀n:Fin 256,white (UInt8.ofNat n.1)=(((n.1:Int)==(32:Int))||((n.1:Int)==(9:Int))||((n.1:Int)==(10:Int))||((n.1:Int)==(13:Int))):=by decide+kernel
theorem BX(b:UInt8):white b=(((b.toNat:Int)==(32:Int))||((b.toNat:Int)==(9:Int))||((b.toNat:Int)==(10:Int))||((b.toNat:Int)==(13:Int))):=by
 have:=ZO ⟨b.toNat,b.toNat_lt⟩;simpa using this
theorem JL(b:UInt8)(w:World):Calls Tryz.prog 119 #[.int .u8 (b.toNat:Int)] w fun e w'=>e=.returned (.bool (white b))∧w'=w:=by
 go_enter Tryz.func119,Tryz.ntmps119;cases h1:((b.toNat:Int)==(32:Int))with
 |false=>
  have Gy:((b.toNat:Int) !=(32:Int))=true:=by rw[bne,h1];rfl
  cases h2:((b.toNat:Int)==(9:Int))with
  |false=>
   have QB:((b.toNat:Int) !=(9:Int))=true:=by rw[bne,h2];rfl
   cases h3:((b.toNat:Int)==(10:Int))with
   |false=>
    have D5:((b.toNat:Int) !=(10:Int))=true:=by rw[bne,h3];rfl
    cases h4:((b.toNat:Int)==(13:Int))with
    |false=>
     have QC:((b.toNat:Int) !=(13:Int))=true:=by rw[bne,h4];rfl
     go_wp2
     go_ret;exact⟨ai _ _ (by rw[BX];simp only[*]<;>rfl),rfl⟩
    |true=>
     have QC:((b.toNat:Int) !=(13:Int))=false:=by rw[bne,h4];rfl
     go_wp2
     go_ret;exact⟨ai _ _ (by rw[BX];simp only[*]<;>rfl),rfl⟩
   |true=>
    have D5:((b.toNat:Int) !=(10:Int))=false:=by rw[bne,h3];rfl
    go_wp2
    go_ret;exact⟨ai _ _ (by rw[BX];simp only[*]<;>rfl),rfl⟩
  |true=>
   have QB:((b.toNat:Int) !=(9:Int))=false:=by rw[bne,h2];rfl
   go_wp2
   go_ret;exact⟨ai _ _ (by rw[BX];simp only[*]<;>rfl),rfl⟩
 |true=>
  have Gy:((b.toNat:Int) !=(32:Int))=false:=by rw[bne,h1];rfl
  go_wp2
  go_ret;exact⟨ai _ _ (by rw[BX];simp only[*]<;>rfl),rfl⟩
theorem xE(S:ByteArray)(g c:Nat)(w:World)(h:Xr S g [] c w):Calls Tryz.prog 120 #[.pointer (some ⟨g,0,none⟩)] w fun e w'=>XS S g w [] e w':=by
 have HX:=hid h;obtain⟨q0,q1,q2,_,_,_,_⟩:=fM h.blk;rw[show S.size-([]:List UInt8).length=S.size from rfl]at q1;have d1:decide ((S.size:Int)≤(S.size:Int))=true:=dT (Int.le_refl _);have jo:decide (S.size≤S.size)=true:=dT (Nat.le_refl _);clear h;go_enter Tryz.func120,Tryz.ntmps120;go_wp2
 go_quiet (fail)
 go_wp2_with fail
 refine(qJ S g [] c _ (HX.out.fresh ((M _ _).drewN _))).mono ?_;rintro _ w1 ⟨rfl,rfl⟩;exact⟨rfl,rfl,(M _ _).drewN _⟩
theorem fG(S:ByteArray)(g c:Nat)(b:UInt8)(l:List UInt8)(w:World)(h:Xr S g (b::l) c w):Calls Tryz.prog 120 #[.pointer (some ⟨g,0,none⟩)] w fun e w'=>e=.returned (.int .u8 (b.toNat:Int))∧ag w w':=by
 obtain⟨q0,q1,q2,_,_,_,_⟩:=fM h.blk;obtain⟨hk,hb,_⟩:=BV h.Ef;clear h;generalize S.size-(b::l).length=k at*;have hki:(k:Int)<(S.size:Int):=by omega
 have d1:decide ((S.size:Int)≤(k:Int))=false:=dF (by omega);have jo:decide (S.size≤k)=false:=dF (by omega);go_enter Tryz.func120,Tryz.ntmps120;go_wp2
 go_quiet (fail)
 go_wp2
 go_quiet (fail)
 go_wp2
 go_ret;exact⟨rfl,((M _ _).drewN _).drewN _⟩
def XU(S:ByteArray)(g:Nat)(w:World)(r:Rs Unit)(e:Ending)(w':World):Prop:=match r with
 |.ok _ l' c'=>e=.returned (.tuple #[])∧Touch (fun b=>b=g) w w'∧Xr S g l' c' w'
 |.bad l'=>XS S g w l' e w'
theorem qY(S:ByteArray)(g c:Nat)(b:UInt8)(l:List UInt8)(w:World)(hS:S.size≤1099511627776)(h:Xr S g l c w):Calls Tryz.prog 79 #[.pointer (some ⟨g,0,none⟩),.int .u8 (b.toNat:Int)] w fun e w'=>XU S g w (bB b c l) e w':=by
 have HX:=hid h;clear h;cases l with
 |nil=>
  go_enter Tryz.func79,Tryz.ntmps79;go_wp2_with fail
  refine(xE S g c w HX.out).mono ?_;rintro _ w1 ⟨rfl,ht⟩;exact⟨rfl,rfl,ht⟩
 |cons x l=>
  by_cases hx:x=b
  ·have hne:=qC x b hx
   have HR:=hid (show bB b c (x::l)=.ok () l c from if_pos hx);clear hx;go_enter Tryz.func79,Tryz.ntmps79;go_wp2_with fail
   refine(fG S g c x l w HX.out).mono ?_;rintro _ w1 ⟨rfl,hf⟩;have je:=hid (HX.out.fresh hf);have aK:=hid hf;obtain⟨q0,q1,q2,f0,f1,f2,hg⟩:=fM je.out.blk;have p8:=hid je.out.wG;have hle:=je.out.len;have hw:IntKind.i64.wrap (((S.size-(x::l).length:Nat):Int)+1)=((S.size-(x::l).length:Nat):Int)+1:=IntWalk.i64_in _ (by omega);clear hf;generalize S.size-(x::l).length=k at*;go_wp2
   refine bodyPost_end (v:=.tuple #[]) (results_none rfl _ _ _) rfl ?_;rw[HR.out];exact⟨rfl,(show Touch (fun b=>b=g) w w1 from aK.out.mono fun _ h=>h.elim).setCell (p:=⟨g,1,none⟩) (.inl rfl) _,p8.out⟩
  ·have hne:=si x b hx
   have HR:=hid (show bB b c (x::l)=.bad (x::l)from if_neg hx);clear hx;go_enter Tryz.func79,Tryz.ntmps79;go_wp2_with fail
   refine(fG S g c x l w HX.out).mono ?_;rintro _ w1 ⟨rfl,hf⟩;have je:=hid (HX.out.fresh hf);have aK:=hid hf;clear hf;go_wp2_with fail
   refine(qJ S g (x::l) c _ je.out).mono ?_;rintro _ w2 ⟨rfl,rfl⟩;refine⟨rfl,(?_:XU S g w (bB b c (x::l)) _ _)⟩;rw[HR.out];exact⟨rfl,aK.out.mono fun _ h=>h.elim⟩
def posOf(g:Nat)(w:World):Nat:=match w.cell? ⟨g,1,none⟩with
 |some (.int _ k)=>k.toNat
 |_=>0
theorem lN{S:ByteArray}{g c:Nat}{l:List UInt8}{w:World}(h:Xr S g l c w):posOf g w=S.size-l.length:=by
 unfold posOf;rw[(fM h.blk).2.1];show Int.toNat _=_;omega
theorem Oe(p:UInt8→Bool)(b:UInt8)(l:List UInt8)(h:p b=true):(b::l).dropWhile p=l.dropWhile p:=by rw[List.dropWhile_cons,if_pos h]
theorem Og(p:UInt8→Bool)(b:UInt8)(l:List UInt8)(h:p b=false):(b::l).dropWhile p=b::l:=by rw[List.dropWhile_cons,if_neg (by rw[h];decide)]
theorem vW(S:ByteArray)(g c:Nat)(l:List UInt8)(w:World)(hS:S.size≤1099511627776)(h:Xr S g l c w):Calls Tryz.prog 78 #[.pointer (some ⟨g,0,none⟩)] w fun e w'=>e=.returned (.bool (decide ((l.dropWhile white).length<l.length)))∧Touch (fun b=>b=g) w w'∧Xr S g (l.dropWhile white) c w':=by
 have HX:=hid h;obtain⟨q0,q1,q2,_,_,_,_⟩:=fM h.blk;have hll:=h.len;clear h;obtain⟨k0,hk0⟩:∃k,k=S.size-l.length:=⟨_,rfl⟩;have CX:=hid hk0;rw[←hk0]at q1;clear hk0;go_enter Tryz.func78,Tryz.ntmps78;go_wp2_with fail
 clear q0 q1 q2
 go_loopw [] (fun wr=>∃l1:List UInt8,Hd (l1.dropWhile white=l.dropWhile white)∧Hd (bQ l1 l)∧Hd (Touch (fun b=>b=g) w wr)∧Hd (Xr S g l1 c wr)) (fun wr=>S.size-posOf g wr)
 case atStart=>exact⟨l,hid rfl,hid (bQ.refl _),hid (M _ _),HX⟩
 case round=>
  obtain⟨l1,HD,HS,HT,HX⟩:=hrel;obtain⟨q0,q1,q2,f0,f1,f2,hg⟩:=fM HX.out.blk;have HP:=hid (lN HX.out);have hle:=HX.out.len;cases l1 with
  |nil=>
   have dB:=hid (show l.dropWhile white=[]from HD.out.symm);rw[show S.size-([]:List UInt8).length=S.size from rfl]at q1;have d1:decide ((S.size:Int)<(S.size:Int))=false:=dF (by omega);have jo:decide (S.size<S.size)=false:=dF (by omega);go_wp2
   go_quiet (fail)
   go_wp2
   go_ret;refine⟨ai _ _ ?_,(HT.out).drewN _,by rw[dB.out];exact HX.out.fresh ((M _ _).drewN _)⟩;rw[dB.out,decide_eq_decide];have h1:=CX.out;show _↔0<l.length;omega
  |cons x l1=>
   obtain⟨hk,hb,hk2⟩:=BV HX.out.Ef;have p8:=hid HX.out.wG;have uP:=hid hk2;clear hk2;have hw:IntKind.i64.wrap (((S.size-(x::l1).length:Nat):Int)+1)=((S.size-(x::l1).length:Nat):Int)+1:=IntWalk.i64_in _ (by omega);have hki:((S.size-(x::l1).length:Nat):Int)<(S.size:Int):=by omega
   have d1:decide (((S.size-(x::l1).length:Nat):Int)<(S.size:Int))=true:=dT (by omega);have jo:decide (S.size-(x::l1).length<S.size)=true:=dT (by omega);generalize hkk:S.size-(x::l1).length=k at q1 hk hb hw hki d1 jo p8;have HK:=hid hkk;clear hkk;cases hp:white x with
   |false=>
    have dB:=hid (show l.dropWhile white=x::l1 by rw[←HD.out];exact Og white x l1 hp);go_wp2_with fail
    refine bK (fun W=>ag wr W) (M _ _) ?_;rintro w2 hfw2;have bW:=hid hfw2;have p0:=hfw2.cell q0 (fun h=>h);have p1:=hfw2.cell q1 (fun h=>h);have r0:=cell_regrown p0;have r1:=cell_regrown p1;have C0:=hid (lJ (P:=Tryz.prog) w2 (fun w hw=>(JL x _).mono fun _ _ h=>⟨h.1,by rw[h.2];exact M _ _⟩));clear hfw2 q0 q1;refine wp_region_quiet_below (by kernel_rfl) (by kernel_rfl) ?_
    repeat(with_reducible refine wpQuiet_step (fun K hK=>?_);go_simp;first|(refine hK _ ?_;clear hK K)|(apply Exists.intro;refine⟨fun _=>?_,hK _ ?_⟩;(first|with_reducible exact C0.out _ _);clear hK K))
    refine wpQuiet_nil ?_;rintro w3 ⟨⟨_,_⟩,hW3⟩;have hf3:ag w2 w3:=by rw[hW3];exact aZ (below_regrown _ _ _)
    have bJ:=hid (bW.out.trans hf3);have p9:=hid (HX.out.fresh bJ.out);clear hW3 r0 r1 hf3 p0 p1 C0 q2 f0 f1 f2 hg;obtain⟨q0,q1,q2,f0,f1,f2,hg⟩:=fM p9.out.blk;rw[HK.out]at q1;have HT3:=hid (HT.out.trans (bJ.out.mono fun _ h=>h.elim));go_wp2
    go_ret;refine⟨ai _ _ ?_,HT3.out,by rw[dB.out];exact p9.out⟩;rw[dB.out,decide_eq_decide];have h1:=CX.out;have h2:=HK.out;have h3:=HS.out.len;omega
   |true=>
    have HD2:=hid (show l1.dropWhile white=l.dropWhile white by rw[←HD.out];exact(Oe white x l1 hp).symm);go_wp2_with fail
    refine bK (fun W=>ag wr W) (M _ _) ?_;rintro w2 hfw2;have bW:=hid hfw2;have p0:=hfw2.cell q0 (fun h=>h);have p1:=hfw2.cell q1 (fun h=>h);have r0:=cell_regrown p0;have r1:=cell_regrown p1;have C0:=hid (lJ (P:=Tryz.prog) w2 (fun w hw=>(JL x _).mono fun _ _ h=>⟨h.1,by rw[h.2];exact M _ _⟩));clear hfw2 q0 q1;refine wp_region_quiet_below (by kernel_rfl) (by kernel_rfl) ?_
    repeat(with_reducible refine wpQuiet_step (fun K hK=>?_);go_simp;first|(refine hK _ ?_;clear hK K)|(apply Exists.intro;refine⟨fun _=>?_,hK _ ?_⟩;(first|with_reducible exact C0.out _ _);clear hK K))
    refine wpQuiet_nil ?_;rintro w3 ⟨⟨_,_⟩,hW3⟩;have hf3:ag w2 w3:=by rw[hW3];exact aZ (below_regrown _ _ _)
    have bJ:=hid (bW.out.trans hf3);have p9:=hid (HX.out.fresh bJ.out);clear hW3 r0 r1 hf3 p0 p1 C0 q2 f0 f1 f2 hg;obtain⟨q0,q1,q2,f0,f1,f2,hg⟩:=fM p9.out.blk;rw[HK.out]at q1;have HT3:=hid (HT.out.trans (bJ.out.mono fun _ h=>h.elim));have hx4:=p9.out.wG;rw[HK.out]at hx4;have tZ:=hid hx4;have nU:=hid (HT3.out.setCell (p:=⟨g,1,none⟩) (.inl rfl) (.int .i64 ((k:Int)+1)));have HM:=hid (lN hx4);clear hx4;go_wp2
    go_roundw
    case rel=>exact⟨l1,HD2,(bQ.cons x).trans HS.out,nU,tZ⟩
    case measure=>rw[HM.out,HP.out];simp only[List.length_cons]at*;omega
def XV(S:ByteArray)(g:Nat)(w:World)(r:Rs (List UInt8))(e:Ending)(w':World):Prop:=match r with
 |.ok x l' c'=>e=.returned (.string ⟨x.toArray⟩)∧Touch (fun b=>b=g) w w'∧Xr S g l' c' w'
 |.bad l'=>XS S g w l' e w'
theorem zK{S:ByteArray}{p r:List UInt8}(h:bQ (p++r) S.data.toList):S.extract (S.size-(p++r).length) (S.size-r.length)=⟨p.toArray⟩:=by
 obtain⟨q,hq⟩:=h;have hl:S.data.toList.length=S.size:=by simp
 have hs:S.size=q.length+(p.length+r.length):=by rw[←hl,hq,List.length_append,List.length_append]
 have h1:S.size-(p++r).length=q.length:=by rw[List.length_append];omega
 have h2:S.size-r.length=q.length+p.length:=by omega
 rw[h1,h2];apply ByteArray.ext
 apply Array.toList_inj.1
 rw[ByteArray.data_extract,Array.toList_extract,List.extract_eq_take_drop,hq];simp
theorem DC(S:ByteArray)(g c:Nat)(l:List UInt8)(w:World)(hS:S.size≤1099511627776)(h:Xr S g l c w):Calls Tryz.prog 122 #[.pointer (some ⟨g,0,none⟩)] w fun e w'=>XV S g w (nM c l) e w':=by
 have HX:=hid h;have hll:=h.len;obtain⟨q0,q1,q2,_,_,_,_⟩:=fM h.blk;clear h;cases l with
 |nil=>
  go_enter Tryz.func122,Tryz.ntmps122;go_wp2_with fail
  refine(xE S g c _ HX.out).mono ?_;rintro _ w1 ⟨rfl,ht⟩;exact⟨rfl,rfl,ht⟩
 |cons b l=>
 cases hlb:U.letter b with
 |false=>
  have HR:=hid (show nM c (b::l)=.bad (b::l)from by show(if U.letter b=true then _ else _)=_;rw[hlb];rfl);go_enter Tryz.func122,Tryz.ntmps122;go_wp2_with fail
  refine(fG S g c b l _ HX.out).mono ?_;rintro _ w1 ⟨rfl,hf⟩;have je:=hid (HX.out.fresh hf);have aK:=hid hf;clear hf;go_wp2_with fail
  refine(pX b _).mono ?_;rintro _ w2 ⟨rfl,hw⟩;replace hw:=hw.symm;subst hw;rw[hlb];go_wp2_with fail
  refine(qJ S g (b::l) c _ je.out).mono ?_;rintro _ w3 ⟨rfl,rfl⟩;refine⟨rfl,(?_:XV S g w (nM c (b::l)) _ _)⟩;rw[HR.out];exact⟨rfl,aK.out.mono fun _ h=>h.elim⟩
 |true=>
 have HR:=hid (show nM c (b::l)=.ok ((b::l).takeWhile U.inner) ((b::l).dropWhile U.inner) c from by show(if U.letter b=true then _ else _)=_;rw[hlb];rfl);obtain⟨k0,hk0⟩:∃k,k=S.size-(b::l).length:=⟨_,rfl⟩;have CX:=hid hk0;rw[←hk0]at q1;clear hk0;go_enter Tryz.func122,Tryz.ntmps122;go_wp2_with fail
 refine(fG S g c b l _ HX.out).mono ?_;rintro _ w1 ⟨rfl,hf⟩;have je:=hid (HX.out.fresh hf);have aK:=hid (show Touch (fun b=>b=g) w w1 from hf.mono fun _ h=>h.elim);clear hf q0 q1 q2;go_wp2_with fail
 refine(pX b _).mono ?_;rintro _ w2 ⟨rfl,hw⟩;replace hw:=hw.symm;subst hw;rw[hlb];obtain⟨lw,F6⟩:∃lw,lw=b::l:=⟨_,rfl⟩;rw[←F6]at je HR CX hll;have HX:=je;have Vw:=hid je.out.Ef;have Lt:=hid F6;clear je hlb F6;go_wp2
 go_loopw [] (fun wr=>∃l1:List UInt8,Hd (l1.dropWhile U.inner=lw.dropWhile U.inner)∧Hd (bQ l1 lw)∧Hd (Touch (fun b=>b=g) w wr)∧Hd (Xr S g l1 c wr)) (fun wr=>S.size-posOf g wr)
 case atStart=>exact⟨lw,hid rfl,hid (bQ.refl _),aK,HX⟩
 case round=>
  obtain⟨l1,HD,HS,HT,HX⟩:=hrel;obtain⟨q0,q1,q2,f0,f1,f2,hg⟩:=fM HX.out.blk;have HP:=hid (lN HX.out);have hle:=HX.out.len;cases l1 with
  |nil=>
   have dB:=hid (show lw.dropWhile U.inner=[]from HD.out.symm);rw[show S.size-([]:List UInt8).length=S.size from rfl]at q1;have d1:decide ((S.size:Int)<(S.size:Int))=false:=dF (by omega);have jo:decide (S.size<S.size)=false:=dF (by omega);go_wp2
   go_quiet (fail)
   go_wp2_with fail
   have CY:=hid (show S.extract k0 S.size=⟨(lw.takeWhile U.inner).toArray⟩from by
    have h:=zK (S:=S) (p:=lw.takeWhile U.inner) (r:=lw.dropWhile U.inner) (by rw[List.takeWhile_append_dropWhile];exact Vw.out);rw[List.takeWhile_append_dropWhile,←CX.out,dB.out]at h;exact h)
   have hk1:(k0:Int)≤(S.size:Int):=by have:=CX.out;have:=HS.out.len;have:=hll;omega
   have hk2:(S.size:Int)≤(S.size:Int):=by omega
   have hk3:(0:Int)≤(k0:Int):=by omega
   go_wp2
   go_quiet (fail)
   go_wp2
   go_ret;rw[←Lt.out,HR.out];refine⟨congrArg (fun s=>Ending.returned (Value.string s)) CY.out,(HT.out.drewN _).drewN _,?_⟩;rw[dB.out];exact HX.out.fresh (((M _ _).drewN _).drewN _)
  |cons x l1=>
   obtain⟨hk,hb,hk2⟩:=BV HX.out.Ef;have p8:=hid HX.out.wG;have uP:=hid hk2;clear hk2;have hw:IntKind.i64.wrap (((S.size-(x::l1).length:Nat):Int)+1)=((S.size-(x::l1).length:Nat):Int)+1:=IntWalk.i64_in _ (by omega);have hki:((S.size-(x::l1).length:Nat):Int)<(S.size:Int):=by omega
   have d1:decide (((S.size-(x::l1).length:Nat):Int)<(S.size:Int))=true:=dT (by omega);have jo:decide (S.size-(x::l1).length<S.size)=true:=dT (by omega);generalize hkk:S.size-(x::l1).length=k at q1 hk hb hw hki d1 jo p8;have HK:=hid hkk;clear hkk;cases hp:U.inner x with
   |false=>
    have dB:=hid (show lw.dropWhile U.inner=x::l1 by rw[←HD.out];exact Og U.inner x l1 hp);go_wp2_with fail
    refine bK (fun W=>ag wr W) (M _ _) ?_;rintro w2 hfw2;have bW:=hid hfw2;have p0:=hfw2.cell q0 (fun h=>h);have p1:=hfw2.cell q1 (fun h=>h);have r0:=cell_regrown p0;have r1:=cell_regrown p1;have C0:=hid (lJ (P:=Tryz.prog) w2 (fun w hw=>(BS x _).mono fun _ _ h=>⟨h.1,by rw[h.2];exact M _ _⟩));clear hfw2 q0 q1;refine wp_region_quiet_below (by kernel_rfl) (by kernel_rfl) ?_
    repeat(with_reducible refine wpQuiet_step (fun K hK=>?_);go_simp;first|(refine hK _ ?_;clear hK K)|(apply Exists.intro;refine⟨fun _=>?_,hK _ ?_⟩;(first|with_reducible exact C0.out _ _);clear hK K))
    refine wpQuiet_nil ?_;rintro w3 ⟨⟨_,_⟩,hW3⟩;have hf3:ag w2 w3:=by rw[hW3];exact aZ (below_regrown _ _ _)
    have bJ:=hid (bW.out.trans hf3);have p9:=hid (HX.out.fresh bJ.out);clear hW3 r0 r1 hf3 p0 p1 C0 q2 f0 f1 f2 hg;obtain⟨q0,q1,q2,f0,f1,f2,hg⟩:=fM p9.out.blk;rw[HK.out]at q1;have HT3:=hid (HT.out.trans (bJ.out.mono fun _ h=>h.elim))
    have CY:=hid (show S.extract k0 k=⟨(lw.takeWhile U.inner).toArray⟩from by
     have h:=zK (S:=S) (p:=lw.takeWhile U.inner) (r:=lw.dropWhile U.inner) (by rw[List.takeWhile_append_dropWhile];exact Vw.out);rw[List.takeWhile_append_dropWhile,←CX.out,dB.out,HK.out]at h;exact h)
    have hk1:(k0:Int)≤(k:Int):=by have:=CX.out;have:=HS.out.len;have:=hll;have:=HK.out;have:=HS.out.len;simp only[List.length_cons]at*;omega
    have hk2:(k:Int)≤(S.size:Int):=by have:=HK.out;have:=HS.out.len;simp only[List.length_cons]at*;omega
    have hk3:(0:Int)≤(k0:Int):=by omega
    go_wp2
    go_quiet (fail)
    go_wp2
    go_ret;rw[←Lt.out,HR.out];refine⟨congrArg (fun s=>Ending.returned (Value.string s)) CY.out,HT3.out.drewN _,?_⟩;rw[dB.out];exact p9.out.fresh ((M _ _).drewN _)
   |true=>
    have HD2:=hid (show l1.dropWhile U.inner=lw.dropWhile U.inner by rw[←HD.out];exact(Oe U.inner x l1 hp).symm);go_wp2_with fail
    refine bK (fun W=>ag wr W) (M _ _) ?_;rintro w2 hfw2;have bW:=hid hfw2;have p0:=hfw2.cell q0 (fun h=>h);have p1:=hfw2.cell q1 (fun h=>h);have r0:=cell_regrown p0;have r1:=cell_regrown p1;have C0:=hid (lJ (P:=Tryz.prog) w2 (fun w hw=>(BS x _).mono fun _ _ h=>⟨h.1,by rw[h.2];exact M _ _⟩));clear hfw2 q0 q1;refine wp_region_quiet_below (by kernel_rfl) (by kernel_rfl) ?_
    repeat(with_reducible refine wpQuiet_step (fun K hK=>?_);go_simp;first|(refine hK _ ?_;clear hK K)|(apply Exists.intro;refine⟨fun _=>?_,hK _ ?_⟩;(first|with_reducible exact C0.out _ _);clear hK K))
    refine wpQuiet_nil ?_;rintro w3 ⟨⟨_,_⟩,hW3⟩;have hf3:ag w2 w3:=by rw[hW3];exact aZ (below_regrown _ _ _)
    have bJ:=hid (bW.out.trans hf3);have p9:=hid (HX.out.fresh bJ.out);clear hW3 r0 r1 hf3 p0 p1 C0 q2 f0 f1 f2 hg;obtain⟨q0,q1,q2,f0,f1,f2,hg⟩:=fM p9.out.blk;rw[HK.out]at q1;have HT3:=hid (HT.out.trans (bJ.out.mono fun _ h=>h.elim));have hx4:=p9.out.wG;rw[HK.out]at hx4;have tZ:=hid hx4;have nU:=hid (HT3.out.setCell (p:=⟨g,1,none⟩) (.inl rfl) (.int .i64 ((k:Int)+1)));have HM:=hid (lN hx4);clear hx4;go_wp2
    go_roundw
    case rel=>exact⟨l1,HD2,(bQ.cons x).trans HS.out,nU,tZ⟩
    case measure=>rw[HM.out,HP.out];simp only[List.length_cons]at*;omega
end
section
open Go.RowKit
open Xp (Rs bQ white bB nM wW iQ jk eT)
theorem uF{b:UInt8}{c:Nat}{l:List UInt8}{u:Unit}{l1:List UInt8}{c1:Nat}(h:bB b c l=.ok u l1 c1):c1=c:=by
 cases l with
 |nil=>cases h
 |cons x l=>
  have h:(if x=b then Rs.ok () l c else .bad (x::l))=.ok u l1 c1:=h;split at h
  ·cases h;rfl
  ·cases h
def Fa(c:Nat)(s l:List UInt8):Rs Unit:=match wW c s l with
 |.bad l2=>.bad l2
 |.ok _ l2 _=>bB 62 c (l2.dropWhile white)
theorem Po{c:Nat}{b:UInt8}{s l l1:List UInt8}(h:bB b c l=.bad l1):Fa c (b::s) l=.bad l1:=by
 unfold Fa;rw[wW,h]
theorem Rh{c:Nat}{b:UInt8}{s l l1:List UInt8}{u:Unit}{c1:Nat}(h:bB b c l=.ok u l1 c1):Fa c (b::s) l=Fa c s l1:=by
 unfold Fa;rw[wW,h]
theorem XU.trans{S:ByteArray}{g:Nat}{w w1 w2:World}{r:Rs Unit}{e:Ending}(ht:Touch (fun b=>b=g) w w1)(h:XU S g w1 r e w2):XU S g w r e w2:=by
 cases r with
 |ok u l c=>exact⟨h.1,ht.trans h.2.1,h.2.2⟩
 |bad l=>exact⟨h.1,ht.trans h.2⟩
theorem Kl(S N:ByteArray)(g c:Nat)(l:List UInt8)(w:World)(hS:S.size≤1099511627776)(hN:N.size≤9223372036854775807)(h:Xr S g l c w):Calls Tryz.prog 150 #[.pointer (some ⟨g,0,none⟩),.string N] w fun e w'=>XU S g w (iQ N.data.toList c l) e w':=by
 have HX:=hid h;have HE:=hid (fun(l:List UInt8) (W:World) (h:Xr S g l c W)=>show Calls Tryz.prog 79 #[.pointer (some ⟨g,0,none⟩),.int .u8 47] W fun e w'=>XU S g W (bB 47 c l) e w' from qY S g c 47 l W hS h);have Xl:=hid (fun(l:List UInt8) (W:World) (h:Xr S g l c W)=>show Calls Tryz.prog 79 #[.pointer (some ⟨g,0,none⟩),.int .u8 62] W fun e w'=>XU S g W (bB 62 c l) e w' from qY S g c 62 l W hS h);clear h;cases hr:bB 47 c l with
 |bad l1=>
  have HR:=hid (show iQ N.data.toList c l=.bad l1 by unfold Xp.iQ;rw[hr]);go_enter Tryz.func150,Tryz.ntmps150;go_wp2_with fail
  refine(HE.out l _ HX.out).mono ?_;intro e w1 he;rw[hr]at he;obtain⟨rfl,ht⟩:=he;refine⟨rfl,(?_:XU S g w (iQ N.data.toList c l) _ _)⟩;rw[HR.out];exact⟨rfl,ht⟩
 |ok u l1 c1=>
  have hc1:=uF hr;subst hc1;have HR:=hid (show iQ N.data.toList c1 l=Fa c1 (N.data.toList.drop 0) l1 by unfold Xp.iQ Fa;rw[hr,List.drop_zero];rfl);go_enter Tryz.func150,Tryz.ntmps150;go_wp2_with fail
  refine(HE.out l _ HX.out).mono ?_;intro e w1 he;rw[hr]at he;obtain⟨rfl,ht,hx⟩:=he;have HT1:=hid ht;have je:=hid hx;clear ht hx hr;go_wp2
  go_loopw [4] (fun i wr=>∃(j:Nat) (l2:List UInt8),i=.int .i64 j∧j≤N.size∧Hd (iQ N.data.toList c1 l=Fa c1 (N.data.toList.drop j) l2)∧Hd (Touch (fun b=>b=g) w wr)∧Hd (Xr S g l2 c1 wr)) (fun i _=>N.size-(intOf i).toNat)
  case atStart=>exact⟨0,l1,rfl,Nat.zero_le _,HR,HT1,je⟩
  case round=>
   obtain⟨j,l2,rfl,hj,HR,HT,HX⟩:=hrel
   by_cases c2:j<N.size
   ·have d1:decide ((j:Int)<(N.size:Int))=true:=dT (by omega)
    have jo:decide (j<N.size)=true:=dT c2;have d1':(j:Int)<(N.size:Int):=by omega
    obtain⟨b,hb⟩:∃b,N[j]'c2=b:=⟨_,rfl⟩
    have HD:=hid (show N.data.toList.drop j=b::N.data.toList.drop (j+1) by
     rw[List.drop_eq_getElem_cons (by simpa using c2)]
     congr 1)
    cases hr:bB b c1 l2 with
    |bad l3=>
     have HR2:=hid (show iQ N.data.toList c1 l=.bad l3 by rw[HR.out,HD.out];exact Po hr);go_wp2_with fail
     refine(qY S g c1 b l2 _ hS HX.out).mono ?_;intro e w3 he;rw[hr]at he;obtain⟨rfl,ht⟩:=he;refine⟨rfl,(?_:XU S g w (iQ N.data.toList c1 l) _ _)⟩;rw[HR2.out];exact⟨rfl,HT.out.trans ht⟩
    |ok u l3 c3=>
     have HR2:=hid (show iQ N.data.toList c1 l=Fa c1 (N.data.toList.drop (j+1)) l3 by rw[HR.out,HD.out];exact Rh hr);go_wp2_with fail
     refine(qY S g c1 b l2 _ hS HX.out).mono ?_;intro e w3 he;rw[hr]at he;obtain⟨rfl,ht,hx⟩:=he;have hc3:=uF hr;subst hc3;have HT3:=hid (HT.out.trans ht);have p9:=hid hx;clear ht hx hr;go_wp2
     go_roundw
     case rel=>exact⟨j+1,l3,by go_num,c2,HR2,HT3,p9⟩
     case measure=>simp[intOf];omega
   ·have d1:decide ((j:Int)<(N.size:Int))=false:=dF (by omega)
    have jo:decide (j<N.size)=false:=dF c2
    have HR2:=hid (show iQ N.data.toList c1 l=bB 62 c1 (l2.dropWhile white) by
     rw[HR.out,List.drop_of_length_le (by simpa using c2)];rfl)
    go_wp2_with fail
    refine(vW S g c1 l2 _ hS HX.out).mono ?_;rintro _ w3 ⟨rfl,ht,hx⟩;have HT3:=hid (HT.out.trans ht);have p9:=hid hx;clear ht hx;go_wp2_with fail
    refine(Xl.out _ _ p9.out).mono ?_;intro e w4 he;cases hr:bB 62 c1 (l2.dropWhile white)with
    |bad l3=>
     rw[hr]at he;obtain⟨rfl,ht⟩:=he;refine⟨rfl,(?_:XU S g w (iQ N.data.toList c1 l) _ _)⟩;rw[HR2.out,hr];exact⟨rfl,HT3.out.trans ht⟩
    |ok u l3 c3=>
     rw[hr]at he;obtain⟨rfl,ht,hx⟩:=he
     have HF:=hid (show XU S g w (iQ N.data.toList c1 l) (.returned (.tuple #[])) w4 by
      rw[HR2.out,hr];exact⟨rfl,HT3.out.trans ht,hx⟩)
     clear hr ht hx;go_wp2
     refine bodyPost_end (v:=.tuple #[]) (results_none rfl _ _ _) rfl ?_;exact HF.out
def XB(S:ByteArray)(g:Nat)(w:World)(r:Rs UInt8)(e:Ending)(w':World):Prop:=match r with
 |.ok x l' c'=>e=.returned (.int .u8 (x.toNat:Int))∧Touch (fun b=>b=g) w w'∧Xr S g l' c' w'
 |.bad l'=>XS S g w l' e w'
theorem XB.trans{S:ByteArray}{g:Nat}{w w1 w2:World}{r:Rs UInt8}{e:Ending}(ht:Touch (fun b=>b=g) w w1)(h:XB S g w1 r e w2):XB S g w r e w2:=by
 cases r with
 |ok u l c=>exact⟨h.1,ht.trans h.2.1,h.2.2⟩
 |bad l=>exact⟨h.1,ht.trans h.2⟩
end
end Go.Proofs.YtcgbccfpcgaikaaGreatDoor
