/- Part 21 of 46 of a proof. No condition. -/
import Derived.Test.YtcgbccfpcgaikaaGreatDoorYm20
set_option maxRecDepth 100000
set_option maxHeartbeats 8000000
namespace Go.Proofs.YtcgbccfpcgaikaaGreatDoor
section
open Go.RowKit
open Xp (Rs bQ white bB nM gM nQ dh aR)
open U (E aJ)
namespace Xp
def kg(c:Nat)(aM:aJ)(l:List UInt8):Rs (aJ×Bool):=nQ c (9-aM.length) aM l
theorem vg{c:Nat}{aM:aJ}{l:List UInt8}(h:aM.length≤8):kg c aM l=match l.dropWhile white with
  |[]=>.bad []
  |b::l2=>if b=47 then(match bB 62 c l2 with
    |.bad l3=>.bad l3
    |.ok _ l3 _=>.ok (aM,true) l3 c)
   else if b=62 then .ok (aM,false) l2 c
   else if(b::l2).length<l.length∧U.letter b=true∧aM.length<8 then(match gM aM c (b::l2)with
    |.bad l3=>.bad l3
    |.ok a l3 _=>kg c (aM++[a]) l3)
   else .bad (b::l2):=by
 have h1:9-aM.length=(8-aM.length)+1:=by omega
 have h2:∀a,kg c (aM++[a])=nQ c (8-aM.length) (aM++[a]):=fun a=>by
  unfold kg;rw[List.length_append,show 9-(aM.length+[a].length)=8-aM.length by simp only[List.length_cons,List.length_nil];omega]
 simp only[h2];unfold kg;rw[h1,nQ];rfl
theorem Xo{c:Nat}{aM:aJ}{l:List UInt8}(h:aM.length≤8)(hd:l.dropWhile white=[]):kg c aM l=.bad []:=by rw[vg h,hd]
theorem Pp{c:Nat}{aM:aJ}{l l2 l3:List UInt8}(h:aM.length≤8)(hd:l.dropWhile white=47::l2)(he:bB 62 c l2=.bad l3):kg c aM l=.bad l3:=by
 rw[vg h,hd];simp only[if_pos,he]
theorem Hg{c:Nat}{aM:aJ}{l l2 l3:List UInt8}{u:Unit}{c3:Nat}(h:aM.length≤8)(hd:l.dropWhile white=47::l2)(he:bB 62 c l2=.ok u l3 c3):kg c aM l=.ok (aM,true) l3 c:=by
 rw[vg h,hd];simp only[if_pos,he]
theorem Hl{c:Nat}{aM:aJ}{l l2:List UInt8}(h:aM.length≤8)(hd:l.dropWhile white=62::l2):kg c aM l=.ok (aM,false) l2 c:=by
 rw[vg h,hd];exact(if_neg (by decide)).trans (if_pos rfl)
theorem DF{c:Nat}{aM:aJ}{l l2:List UInt8}{b:UInt8}(h:aM.length≤8)(hd:l.dropWhile white=b::l2)(h1:¬b=47)(h2:¬b=62)(h3:¬((b::l2).length<l.length∧U.letter b=true∧aM.length<8)):kg c aM l=.bad (b::l2):=by
 rw[vg h,hd];exact(if_neg h1).trans ((if_neg h2).trans (if_neg h3))
theorem Xq{c:Nat}{aM:aJ}{l l2 l3:List UInt8}{b:UInt8}(h:aM.length≤8)(hd:l.dropWhile white=b::l2)(h1:¬b=47)(h2:¬b=62)(h3:(b::l2).length<l.length∧U.letter b=true∧aM.length<8)(ha:gM aM c (b::l2)=.bad l3):kg c aM l=.bad l3:=by
 rw[vg h,hd];refine(if_neg h1).trans ((if_neg h2).trans ((if_pos h3).trans ?_));rw[ha]
theorem JM{c:Nat}{aM:aJ}{l l2 l3:List UInt8}{b:UInt8}{a:List UInt8×List UInt8}{c3:Nat}(h:aM.length≤8)(hd:l.dropWhile white=b::l2)(h1:¬b=47)(h2:¬b=62)(h3:(b::l2).length<l.length∧U.letter b=true∧aM.length<8)(ha:gM aM c (b::l2)=.ok a l3 c3):kg c aM l=kg c (aM++[a]) l3:=by
 rw[vg h,hd];refine(if_neg h1).trans ((if_neg h2).trans ((if_pos h3).trans ?_));rw[ha]
theorem acg{aM:aJ}{c:Nat}{l:List UInt8}{x:List UInt8×List UInt8}{l1:List UInt8}{c1:Nat}(h:gM aM c l=.ok x l1 c1):l1.length<l.length:=by
 cases hn:nM c l with
 |bad l2=>rw[G8 hn]at h;cases h
 |ok nm l2 c2=>
  rw[Fb hn]at h;have hl:=(He hn).2;cases l2 with
  |nil=>cases h
  |cons b l3=>
   have h:(if b≠61∨aM.any (fun x=>x.1==nm)=true then Rs.bad (b::l3)else Eh nm c (bB 34 c l3))=.ok x l1 c1:=h;split at h
   ·cases h
   ·cases he:bB 34 c l3 with
    |bad l4=>rw[he]at h;cases h
    |ok u l4 c4=>
     rw[he]at h;have h:Ca nm c (iZ 34 c [] l4)=.ok x l1 c1:=h;have h4:=(pW 34 c l3).len;rw[he]at h4;have h4:l4.length≤l3.length:=h4;cases ht:iZ 34 c [] l4 with
     |bad l5=>rw[ht]at h;cases h
     |ok v l5 c5=>
      rw[ht]at h;cases h;have h5:=Om 34 c _ l4 [] v l5 c5 (Nat.le_refl _) ht;have h6:(l5.drop 1).length≤l5.length:=by rw[List.length_drop];omega
      simp only[List.length_cons,List.length_nil]at h5 hl;omega
def C9(n:Nat)(nm:List UInt8)(c:Nat):Rs (aJ×Bool)→Rs E
 |.bad l1=>.bad l1
 |.ok (aM,true) l1 _=>.ok (.mk nm aM [] []) l1 c
 |.ok (aM,false) l1 _=>match dh (aR n) nm l1 c with
  |.bad l2=>.bad l2
  |.ok (ks,t) l2 c2=>.ok (.mk nm aM ks t) l2 c2
theorem ZX{n c:Nat}{nm l l2:List UInt8}{aM:aJ}{c1:Nat}(h:dh (aR n) nm l c=.bad l2):C9 n nm c (.ok (aM,false) l c1)=.bad l2:=by
 show(match dh (aR n) nm l c with|.bad l2=>_|.ok (ks,t) l2 c2=>_)=_;rw[h]
theorem Kn{n c:Nat}{nm l l2 t:List UInt8}{aM:aJ}{ks:List E}{c1 c2:Nat}(h:dh (aR n) nm l c=.ok (ks,t) l2 c2):C9 n nm c (.ok (aM,false) l c1)=.ok (.mk nm aM ks t) l2 c2:=by
 show(match dh (aR n) nm l c with|.bad l2=>_|.ok (ks,t) l2 c2=>_)=_;rw[h]
theorem Vy{n c:Nat}{b:UInt8}{l':List UInt8}(hb:U.letter b=true)(hc:c<3000):aR (n+1) (b::l') c=C9 n ((b::l').takeWhile U.inner) (c+1) (kg (c+1) [] ((b::l').dropWhile U.inner)):=by
 rw[aR,if_neg (by rintro(h|h);rw[hb]at h;cases h;omega)];show _=C9 n _ (c+1) (nQ (c+1) 9 [] ((b::l').dropWhile U.inner));cases nQ (c+1) 9 [] ((b::l').dropWhile U.inner)with
 |bad l1=>rfl
 |ok p l1 c1=>
  obtain⟨aM,z⟩:=p;cases z with
  |true=>rfl
  |false=>rfl
theorem Rl{n c:Nat}{b:UInt8}{l':List UInt8}(h:U.letter b=false∨3000≤c):aR (n+1) (b::l') c=.bad (b::l'):=by rw[aR,if_pos h]
theorem Vz{c:Nat}{b:UInt8}{l':List UInt8}(h:U.letter b=true):nM c (b::l')=.ok ((b::l').takeWhile U.inner) ((b::l').dropWhile U.inner) c:=if_pos h
end Xp
def XE(S:ByteArray)(g:Nat)(w:World)(r:Rs E)(e:Ending)(w':World):Prop:=match r with
 |.ok x l' c'=>∃va vk,e=.returned (ev x va vk)∧Touch (fun b=>b=g) w w'∧dz (fun k=>k<w.heap.size) w' (fun W=>jd W x va vk)∧Xr S g l' c' w'
 |.bad l'=>XS S g w l' e w'
def LP(S:ByteArray)(g n:Nat):Prop:=∀(d:Int) (l:List UInt8) (c:Nat) (w:World),d=65-(n:Int)→Xp.ZF (aR n l c)→Xr S g l c w→
 Calls Tryz.prog 80 #[.pointer (some ⟨g,0,none⟩),.int .i64 d] w fun e w'=>XE S g w (aR n l c) e w'
def XC(S:ByteArray)(g E0:Nat)(nm:List UInt8)(va:Value)(w:World)(r:Rs (List E×List UInt8))(e:Ending)(w':World):Prop:=match r with
 |.ok x l' c'=>e=.returned (.tuple #[])∧∃A n cp,af w' E0 55 #[.string ⟨nm.toArray⟩,va,.slice A n cp,.string ⟨x.2.toArray⟩]∧x.2.length≤maxLen∧
   dz (fun k=>k<w.heap.size) w' (fun W=>gK W x.1 (.slice A n cp))∧Touch (fun b=>b=g∨b=E0) w w'∧Xr S g l' c' w'
 |.bad l'=>e=.panicked (flt (S.size-l'.length))∧Touch (fun b=>b=g∨b=E0) w w'
def adY(S:ByteArray)(g n:Nat):Prop:=∀(d:Int) (nm:List UInt8) (va:Value) (E0:Nat) (l:List UInt8) (c:Nat) (w:World),d=64-(n:Int)→nm.length≤S.size→E0≠g→
 af w E0 55 #[.string ⟨nm.toArray⟩,va,.slice none 0 0,.string ⟨#[]⟩]→Xp.ZF (dh (aR n) nm l c)→Xr S g l c w→
 Calls Tryz.prog 123 #[.pointer (some ⟨g,0,none⟩),.pointer (some ⟨E0,0,none⟩),.int .i64 d] w fun e w'=>XC S g E0 nm va w (dh (aR n) nm l c) e w'
end
section
open Go.RowKit
open Xp (Rs bQ white bB nM gM nQ dh aR kg C9)
open U (E aJ)
attribute [local go_sem] gD stillUpon
theorem ach{g B:Nat}{w:World}{aM:aJ}{v:Value}(h:nN B w aM v)(hg:g<B):dz (fun b=>b=g) w fun W=>gJ W aM v:=h.acf.mono fun i _ hi=>by subst hi;exact hg
theorem ZY(S:ByteArray)(g:Nat):LP S g 0:=fun _ l c _ _ hok _=>Xp.sF (l:=l) hok (by rw[aR])
theorem LQ{S:ByteArray}{g c2:Nat}{nm t l:List UInt8}{aM:aJ}{ks:List E}{w w7:World}{va vk:Value}(_hR:af w7 w.heap.size 55 Z)(ht:Touch (fun b=>b=g) w w7)(hx:Xr S g l c2 w7)
  (hva:dz (fun k=>k<w.heap.size+1) w7 fun W=>gJ W aM va) (hvk:dz (fun k=>k<w.heap.size+1) w7 fun W=>gK W ks vk) (hnl:nm.length≤maxLen) (htl:t.length≤maxLen) (hg:g<w.heap.size):
  XE S g w (.ok (.mk nm aM ks t) l c2) (.returned (.agg #[.string ⟨nm.toArray⟩,va,vk,.string ⟨t.toArray⟩])) (aO w7 w.heap.size (.string ⟨nm.toArray⟩) va vk (.string ⟨t.toArray⟩)):=by
 have fA:=(M (fun k=>k=w.heap.size) w7).aO (g:=w.heap.size) (.inl rfl) (.string ⟨nm.toArray⟩) va vk (.string ⟨t.toArray⟩);refine⟨va,vk,rfl,ht.aO (.inr (Nat.le_refl _)) _ _ _ _,?_,hx.move fA (by omega)⟩;refine((hva.and hvk).step fA (fun i _ hi=>?_) fun i _ hi=>?_).imp fun W h=>⟨h.1,h.2,hnl,htl⟩
 ·show i<w.heap.size+1;omega
 ·show i<w.heap.size+1;omega
theorem Xt(S:ByteArray)(g n:Nat)(hS:S.size≤1099511627776)(hn:n<64)(hcont:adY S g n):LP S g (n+1):=by
 intro d l c w hd hok h;have jJ:=hid hok;have HX:=hid h;have HC:=hid hcont;have hd1:decide ((64:Int)<d)=false:=dF (by omega);have hd2:¬(64:Int)<d:=by omega
 have HD:=hid (show d=64-(n:Int) by omega);have hg0:=h.lt;have jQ:=hid ((M (fun _=>False) w).alloc (.cells Z 55));have jV:=hid (af.new w 55 Z);have HX0:=hid (HX.out.fresh jQ.out);clear h hd hcont hn hok;cases l with
 |nil=>
  exact Xp.sF jJ.out (by rw[aR])
 |cons b l'=>
  cases hb:U.letter b with
  |false=>
   exact Xp.sF jJ.out (Xp.Rl (.inl hb))
  |true=>
   by_cases hc:3000≤c
   ·exact Xp.sF jJ.out (Xp.Rl (.inr hc))
   ·have ug:=hid (Xp.Vy (n:=n) (c:=c) (l':=l') hb (by omega))
    have uf:=hid (Xp.Vz (c:=c+1) (l':=l') hb);have hc2:decide ((3000:Int)≤(c:Int))=false:=dF (by omega);have hwc:IntKind.i64.wrap ((c:Int)+1)=(c:Int)+1:=IntWalk.i64_in _ (by omega);clear hc;go_enter Tryz.func80,Tryz.ntmps80;go_wp2_with fail
    refine(fG S g c b l' _ HX0.out).mono ?_;rintro _ w1 ⟨rfl,hf⟩;have je:=hid (HX0.out.fresh hf);have aK:=hid (jQ.out.trans hf);have HR1:=hid (hf.blk jV.out fun h=>h);obtain⟨q0,q1,q2,f0,f1,f2,hg⟩:=fM je.out.blk;clear hf HX HX0 jQ jV;go_wp2_with fail
    refine(pX b _).mono ?_;rintro _ w2 ⟨rfl,hw⟩;subst hw;go_wp2_with fail
    have p8:=hid (show Xr S g (b::l') (c+1) (w2.setCell ⟨g,2,none⟩ (.int .i64 ((c:Int)+1)))from⟨je.out.blk.put 2 _,je.out.Ef⟩);have HT2:=hid (show Touch (fun b=>b=g) w (w2.setCell ⟨g,2,none⟩ (.int .i64 ((c:Int)+1)))from Touch.setCell (p:=⟨g,2,none⟩) (show Touch (fun b=>b=g) w w2 from aK.out.mono fun _ h=>h.elim) (.inl rfl) _);have HR2:=hid (HR1.out.far (p:=⟨g,2,none⟩) (by show _≠g;omega) (.int .i64 ((c:Int)+1)));generalize (w2.setCell ⟨g,2,none⟩ (.int .i64 ((c:Int)+1)))=w2b at p8 HT2 HR2⊢;clear q0 q1 q2 f0 f1 f2 hg je aK HR1 hwc hc2;refine(DC S g (c+1) (b::l') _ hS p8.out).mono ?_;intro e w3 he;have wH:=hid (He uf.out);rw[uf.out]at he;obtain⟨rfl,ht,hx⟩:=he;have p9:=hid hx;have HT3:=hid (HT2.out.trans ht);have HR3:=hid (ht.blk HR2.out fun h=>by omega);have HLS:=hid p8.out.len;clear ht hx hb p8 HT2 HR2 uf;generalize (b::l').takeWhile U.inner=nm at*;generalize (b::l').dropWhile U.inner=l1 at*;obtain⟨E0,hE0⟩:∃b,b=w3.heap.size:=⟨_,rfl⟩;have F7:=hid hE0;have hE1:w.heap.size<E0:=by have:=HR3.out.lt;omega
    clear hE0;go_wp2_with fail
    rw[←F7.out]
    refine bK (fun W=>Touch (fun b=>b=g) w W∧Xr S g l1 (c+1) W∧af W w.heap.size 55 Z∧af W E0 55 #[.string ⟨nm.toArray⟩,.slice none 0 0,.slice none 0 0,.string ⟨#[]⟩]∧E0+1≤W.heap.size)
     ⟨HT3.out.alloc _,p9.out.fresh ((M _ _).alloc _),HR3.out.alloc _,by rw[F7.out];exact af.new _ _ _,by rw[F7.out];simp⟩ ?_
    rintro W1 ⟨ht1,hx1,hr1,he1,hs1⟩;have HT1:=hid ht1;have je:=hid hx1;have HR1:=hid hr1;have HB1:=hid he1;have Da:=hid (nN.nil (w:=W1) hs1);clear ht1 hx1 hr1 he1 hs1 HT3 p9 HR3 F7
    go_loopw [] (fun wr=>∃(aM:aJ) (l1:List UInt8) (A:Option Addr) (n1 cp:Nat),Hd (aM.length=n1)∧n1≤8∧Hd (aR (n+1) (b::l') c=C9 n nm (c+1) (kg (c+1) aM l1))∧Hd (af wr E0 55 #[.string ⟨nm.toArray⟩,.slice A n1 cp,.slice none 0 0,.string ⟨#[]⟩])∧
     Hd (nN (E0+1) wr aM (.slice A n1 cp))∧Hd (Touch (fun b=>b=g) w wr)∧Hd (Xr S g l1 (c+1) wr)∧Hd (af wr w.heap.size 55 Z)) (fun wr=>S.size-posOf g wr)
    case atStart=>exact⟨[],l1,none,0,0,hid rfl,Nat.zero_le _,ug,HB1,Da,HT1,je,HR1⟩
    case round=>
     clear ug HB1 Da HT1 je HR1;obtain⟨aM,l1,A,n1,cp,JN,hn1,ug,HB,HG,HT,HX,HR⟩:=hrel;rename_i wr _;have HP:=hid (lN HX.out);have LU:=hid (show aM.length≤8 by rw[JN.out];exact hn1);have hsz:=HT.out.size;have hEl:=HB.out.lt;have Oo:E0≠g:=by omega
     cases hd:l1.dropWhile white with
     |nil=>
      exact Xp.sF jJ.out (by rw[ug.out,Xp.Xo LU.out hd];rfl)
     |cons b2 l2=>
      have HD2:=hid hd;have HL2:=hid (show(b2::l2).length≤l1.length by rw[←hd];exact(bQ.len (Xp.bQ.dropWhile white l1)));clear hd;go_wp2_with fail
      refine(vW S g (c+1) l1 _ hS HX.out).mono ?_;rintro _ w4 ⟨rfl,ht,hx⟩;rw[HD2.out]at hx⊢;have tZ:=hid hx;have nU:=hid (HT.out.trans ht);have HR4:=hid (ht.blk HR.out fun h=>by omega);have iB:=hid (ht.blk HB.out fun h=>by omega);have HG4:=hid (HG.out.mv ht fun k hk _=>by omega);clear ht hx;obtain⟨z,hz⟩:∃z,decide ((b2::l2).length<l1.length)=z:=⟨_,rfl⟩;rw[hz];have HZ:=hid hz;clear hz;go_wp2_with fail
      refine(fG S g (c+1) b2 l2 _ tZ.out).mono ?_;rintro _ w5 ⟨rfl,hf⟩;have iR:=hid (tZ.out.fresh hf);have iW:=hid (nU.out.trans (hf.mono fun _ h=>h.elim));have CS:=hid (hf.blk HR4.out fun h=>h);have eO:=hid (hf.blk iB.out fun h=>h);have xG:=hid (HG4.out.fresh hf);clear hf tZ nU HR4 iB HG4 HX HT HR HB HG
      by_cases h47:b2=47
      ·have aci:((b2.toNat:Int)==(47:Int))=true:=by rw[h47];rfl
       have afN:=hid (show l1.dropWhile white=47::l2 by rw[HD2.out,h47]);clear h47;obtain⟨q0,q1,q2,f0,f1,f2,hg⟩:=fM iR.out.blk;have hle:=iR.out.len;have hw:IntKind.i64.wrap (((S.size-(b2::l2).length:Nat):Int)+1)=((S.size-(b2::l2).length:Nat):Int)+1:=IntWalk.i64_in _ (by omega);have iJ:=hid iR.out.wG;have iC:=hid (iW.out.setCell (p:=⟨g,1,none⟩) (.inl rfl) (.int .i64 (((S.size-(b2::l2).length:Nat):Int)+1)));have Ei:=hid (CS.out.far (p:=⟨g,1,none⟩) (by show _≠g;omega) (.int .i64 (((S.size-(b2::l2).length:Nat):Int)+1)));have gy:=hid (eO.out.far (p:=⟨g,1,none⟩) (by show _≠g;omega) (.int .i64 (((S.size-(b2::l2).length:Nat):Int)+1)));have wK:=hid (xG.out.mv ((M (fun b=>b=g) w5).setCell (p:=⟨g,1,none⟩) (.inl rfl) (.int .i64 (((S.size-(b2::l2).length:Nat):Int)+1))) fun k hk _=>by omega);generalize S.size-(b2::l2).length=k at*;go_wp2_with fail
       generalize (w5.setCell ⟨g,1,none⟩ (.int .i64 ((k:Int)+1)))=w6 at iJ iC Ei gy wK⊢;clear q0 q1 q2 f0 f1 f2 hg hle hw iR iW CS eO xG;have Xl:=hid (show Calls Tryz.prog 79 #[.pointer (some ⟨g,0,none⟩),.int .u8 62] w6 fun e w'=>XU S g w6 (bB 62 (c+1) l2) e w' from qY S g (c+1) 62 l2 w6 hS iJ.out);refine Xl.out.mono ?_;intro e w7 he;cases hr:bB 62 (c+1) l2 with
       |bad l3=>
        exact Xp.sF jJ.out (by rw[ug.out,Xp.Pp LU.out afN.out hr];rfl)
       |ok u l3 c3=>
        have hc3:=uF hr;subst hc3;have dB:=hid (show aR (n+1) (b::l') c=.ok (.mk nm aM [] []) l3 (c+1) by rw[ug.out,Xp.Hg LU.out afN.out hr];rfl);rw[hr]at he;obtain⟨rfl,ht,hx⟩:=he;have oh:=hid hx;have jy:=hid (iC.out.trans ht);have JO:=hid (ht.blk Ei.out fun h=>by omega);have vv:=hid (ht.blk gy.out fun h=>by omega);have Ej:=hid (wK.out.mv ht fun k hk _=>by omega);clear ht hx hr iJ iC Ei gy wK Xl;have ZZ:=hid (LQ (c2:=c+1) (nm:=nm) (aM:=aM) (ks:=[]) (t:=[]) JO.out jy.out oh.out (Ej.out.acf.mono fun i _ hi=>by omega) (fun W _=>gK.nil none 0) (by have:=wH.out.1;have:=HLS.out;simp only[maxLen];omega) (Nat.zero_le _) hg0);obtain⟨e0,e1,e2,e3,_,_,_,_,_⟩:=af.four vv.out;obtain⟨_,_,_,_,z0,z1,z2,z3,hlz⟩:=af.four JO.out;obtain⟨t0,t1,t2,t3,_,_,_,_,_⟩:=af.four (JO.out.gH (.string ⟨nm.toArray⟩) (.slice A n1 cp) (.slice none 0 0) (.string ⟨#[]⟩));simp only[aO]at t0 t1 t2 t3;go_wp2
        refine bodyPost_ret (v:=.agg #[.string ⟨nm.toArray⟩,.slice A n1 cp,.slice none 0 0,.string ⟨#[]⟩]) (by simp[results,Tryz.results80,go_sem,t0,t1,t2,t3]) rfl ?_;rw[dB.out];exact ZZ.out
      ·by_cases VA:b2=62
       ·have aci:((b2.toNat:Int)==(47:Int))=false:=by rw[show((b2.toNat:Int)==(47:Int))=(b2==47)from Eg b2 47,beq_eq_false_iff_ne];exact h47
        have afO:((b2.toNat:Int)==(62:Int))=true:=by rw[VA];rfl
        have afP:=hid (show kg (c+1) aM l1=.ok (aM,false) l2 (c+1)from Xp.Hl LU.out (by rw[HD2.out,VA]));clear h47 VA;obtain⟨q0,q1,q2,f0,f1,f2,hg⟩:=fM iR.out.blk;have hle:=iR.out.len;have hw:IntKind.i64.wrap (((S.size-(b2::l2).length:Nat):Int)+1)=((S.size-(b2::l2).length:Nat):Int)+1:=IntWalk.i64_in _ (by omega);have iJ:=hid iR.out.wG;have iC:=hid (iW.out.setCell (p:=⟨g,1,none⟩) (.inl rfl) (.int .i64 (((S.size-(b2::l2).length:Nat):Int)+1)));have Ei:=hid (CS.out.far (p:=⟨g,1,none⟩) (by show _≠g;omega) (.int .i64 (((S.size-(b2::l2).length:Nat):Int)+1)));have gy:=hid (eO.out.far (p:=⟨g,1,none⟩) (by show _≠g;omega) (.int .i64 (((S.size-(b2::l2).length:Nat):Int)+1)));have wK:=hid (xG.out.mv ((M (fun b=>b=g) w5).setCell (p:=⟨g,1,none⟩) (.inl rfl) (.int .i64 (((S.size-(b2::l2).length:Nat):Int)+1))) fun k hk _=>by omega);generalize S.size-(b2::l2).length=k at*;go_wp2_with fail
        generalize (w5.setCell ⟨g,1,none⟩ (.int .i64 ((k:Int)+1)))=w6 at iJ iC Ei gy wK⊢;clear q0 q1 q2 f0 f1 f2 hg hle hw iR iW CS eO xG;cases hr:dh (aR n) nm l2 (c+1)with
        |bad l3=>
         exact Xp.sF jJ.out (by rw[ug.out,afP.out,Xp.ZX hr])
        |ok x l3 c3=>
         have Rm:=hid (HC.out d nm (.slice A n1 cp) E0 l2 (c+1) w6 HD.out (by have:=wH.out.1;have:=HLS.out;omega) (by omega) gy.out ⟨_,_,_,hr⟩ iJ.out);refine Rm.out.mono ?_;intro e w7 he;obtain⟨ks,tx⟩:=x;have dB:=hid (show aR (n+1) (b::l') c=.ok (.mk nm aM ks tx) l3 c3 by rw[ug.out,afP.out,Xp.Kn hr]);rw[hr]at he;obtain⟨rfl,A3,n3,cp3,hb,htl,hst,ht,hx⟩:=he;have oh:=hid hx;have jy:=hid (show Touch (fun b=>b=g) w w7 from iC.out.trans' ht fun k hk=>hk.elim .inl fun h=>.inr (by omega));have JO:=hid (ht.blk Ei.out fun h=>by omega);have vv:=hid hb;have Ej:=hid (wK.out.mv ht fun k hk _=>by omega);have wL:=hid htl;have hs6:=Ei.out.lt;have HST:=hid (show dz (fun k=>k<w.heap.size+1) w7 fun W=>gK W ks (.slice A3 n3 cp3)from hst.mono fun i _ hi=>by omega);clear ht hx hr hb htl hst iJ iC Ei gy wK Rm;have ZZ:=hid (LQ (c2:=c3) (nm:=nm) (aM:=aM) (ks:=ks) (t:=tx) JO.out jy.out oh.out (Ej.out.acf.mono fun i _ hi=>by omega) HST.out (by have:=wH.out.1;have:=HLS.out;simp only[maxLen];omega) wL.out hg0);obtain⟨e0,e1,e2,e3,_,_,_,_,_⟩:=af.four vv.out;obtain⟨_,_,_,_,z0,z1,z2,z3,hlz⟩:=af.four JO.out;obtain⟨t0,t1,t2,t3,_,_,_,_,_⟩:=af.four (JO.out.gH (.string ⟨nm.toArray⟩) (.slice A n1 cp) (.slice A3 n3 cp3) (.string ⟨tx.toArray⟩));simp only[aO]at t0 t1 t2 t3;simp only at e3 t3;go_wp2
         refine bodyPost_ret (v:=.agg #[.string ⟨nm.toArray⟩,.slice A n1 cp,.slice A3 n3 cp3,.string ⟨tx.toArray⟩]) (by simp[results,Tryz.results80,go_sem,t0,t1,t2,t3]) rfl ?_;rw[dB.out];exact ZZ.out
       ·have aci:((b2.toNat:Int)==(47:Int))=false:=by rw[show((b2.toNat:Int)==(47:Int))=(b2==47)from Eg b2 47,beq_eq_false_iff_ne];exact h47
        have afO:((b2.toNat:Int)==(62:Int))=false:=by rw[show((b2.toNat:Int)==(62:Int))=(b2==62)from Eg b2 62,beq_eq_false_iff_ne];exact VA
        have Z0:=hid h47;have Z5:=hid VA;clear h47 VA
        have Xm:(((z=false)∨(z=true∧U.letter b2=false)∨(z=true∧U.letter b2=true∧decide ((n1:Int)<(8:Int))=false))∧kg (c+1) aM l1=.bad (b2::l2))∨(z=true∧U.letter b2=true∧decide ((n1:Int)<(8:Int))=true∧n1<8):=by
         have hz:=HZ.out;cases z with
         |false=>exact .inl ⟨.inl rfl,Xp.DF LU.out HD2.out Z0.out Z5.out fun h=>by rw[decide_eq_false_iff_not]at hz;exact hz h.1⟩
         |true=>
          cases hl:U.letter b2 with
          |false=>exact .inl ⟨.inr (.inl ⟨rfl,rfl⟩),Xp.DF LU.out HD2.out Z0.out Z5.out fun h=>by rw[hl]at h;exact absurd h.2.1 (by decide)⟩
          |true=>
           by_cases h8:n1<8
           ·exact .inr ⟨rfl,rfl,dT (by omega),h8⟩
           ·exact .inl ⟨.inr (.inr ⟨rfl,rfl,dF (by omega)⟩),Xp.DF LU.out HD2.out Z0.out Z5.out fun h=>h8 (by rw[←JN.out];exact h.2.2)⟩
        have akY:=hid (pX b2)
        rcases Xm with⟨hz|⟨hz,hl⟩|⟨hz,hl,h8⟩,acj⟩|⟨hz,hl,h8,h8n⟩
        focus
         subst hz;exact Xp.sF jJ.out (by rw[ug.out,acj];rfl)
        focus
         subst hz;exact Xp.sF jJ.out (by rw[ug.out,acj];rfl)
        focus
         subst hz;exact Xp.sF jJ.out (by rw[ug.out,acj];rfl)
        focus
         subst hz;obtain⟨e0,e1,e2,e3,y0,y1,y2,y3,hlb⟩:=af.four eO.out;have HL:=hid hl;go_wp2_with fail
         refine(pX b2 _).mono ?_;rintro _ w6 ⟨rfl,hw⟩;subst hw;go_wp2_with fail
         have k1:=cT (S:=fun k=>k=g) e1 (by omega);have kI:=hid e1;clear e0 e1 e2 e3 aci afO hl h8
         refine CW (fun W=>∃x:Turned (fun k=>k=g) w6,W=x.W) (gq.of [(0,true),(1,true),(2,true),(3,true),(4,true)] (.lone 5 (.lone 6 .nil))) [0,1,2,3,4,5,6] 7 (Array.replicate 7 true++Array.replicate 3 false) (fun _=>True)
          (gq.of [(8,true)] (.lone 9 .nil)) [8,9] (Array.replicate 10 true) (by kernel_rfl) (fun _ _ d _ _ h=>by cases d<;>exact h) (by kernel_rfl) ⟨⟨_,(M _ _).drewN 1⟩,rfl⟩ ?_
         unfold gq.of
         repeat(refine eX rfl (fun K hK=>?_);go_simp;refine hK _ ?_;clear hK K;first|done|unfold gq.of)
         clear k1;refine aW rfl (fun K hK=>?_);go_wp2_with fail
         have wK:=hid (xG.out.fresh ((M _ w6).drewN 1));refine(ZR S g (c+1) (b2::l2) aM (.slice A n1 cp) _ hS (ach wK.out (by omega)) (iR.out.fresh ((M _ _).drewN 1))).mono ?_;intro e w7 he;cases ha:gM aM (c+1) (b2::l2)with
         |bad l3=>
          exact Xp.sF jJ.out (by rw[ug.out,Xp.Xq LU.out HD2.out Z0.out Z5.out ⟨of_decide_eq_true HZ.out,HL.out,by rw[JN.out];exact h8n⟩ ha];rfl)
         |ok y l3 c3=>
          obtain⟨y1,y2⟩:=y;have HYL:=hid (ZV ha);have G9:=hid (Xp.acg ha);have ack:=hid (show aR (n+1) (b::l') c=C9 n nm (c+1) (kg (c+1) (aM++[(y1,y2)]) l3) by rw[ug.out,Xp.JM LU.out HD2.out Z0.out Z5.out ⟨of_decide_eq_true HZ.out,HL.out,by rw[JN.out];exact h8n⟩ ha]);rw[ha]at he;obtain⟨rfl,ht,hx⟩:=he;have hc3:=HYL.out.2.2;subst hc3;have afQ:=hid iR.out.len;have jy:=hid (show Touch (fun b=>b=g) w6 w7 from((M _ w6).drewN 1).trans ht);have oh:=hid hx;clear ht hx ha;go_wp2
          refine hK _ _ ⟨⟨_,jy.out⟩,rfl⟩ ?_;clear hK K;refine aW rfl (fun K hK=>?_);go_wp2
          refine hK _ _ ⟨⟨_,jy.out.alloc _⟩,rfl⟩ ?_;clear hK K;have kW:=hid (af.new w7 125 #[.string ⟨y1.toArray⟩,.string ⟨y2.toArray⟩]);have sJ:=hid (jy.out.alloc (.cells #[.string ⟨y1.toArray⟩,.string ⟨y2.toArray⟩] 125));have AB:=hid (oh.out.fresh ((M _ w7).alloc (.cells #[.string ⟨y1.toArray⟩,.string ⟨y2.toArray⟩] 125)));generalize (w7.alloc (.cells #[.string ⟨y1.toArray⟩,.string ⟨y2.toArray⟩] 125))=wA at kW sJ AB⊢;have LV:=hid (xG.out.mv sJ.out fun k hk _=>by omega);have ql:=hid (sJ.out.blk eO.out fun h=>by omega);have z8:=hid (sJ.out.blk CS.out fun h=>by omega);have HOW:=hid LV.out.pY;refine BU rfl (fun K hK=>?_)
          go_wp2_with (at_builtin;go_loud (refine Hf rfl (.tmp 81) (.tmp 86) rfl LV.out JN.out (by simp[Act.eval]) (y1,y2) (by have:=HYL.out;have:=afQ.out;rw[List.length_cons]at*;simp only[maxLen];constructor<;>omega) kW.out (by simp[Act.eval]) (by omega) ?_);intro A8 c8 w8 jI bR;refine jw.mk ?_)
          have LK:=hid (AB.out.move bR fun h=>by have:=(HOW.out _ h).1;omega);have lT:=hid (bR.blk ql.out fun h=>by have:=(HOW.out _ h).1;omega);have ZU:=hid (bR.blk z8.out fun h=>by have:=(HOW.out _ h).1;omega);have Cb:=hid (show Touch (fun b=>b=g) w w8 from(iW.out.trans sJ.out).trans' bR fun k hk=>.inr (by have:=(HOW.out _ hk).1;omega));have wI:=hid jI;clear bR jI;obtain⟨_,_,_,_,_,q1,_,_,Rn⟩:=af.four lT.out;refine jw.go ?_;go_wp2
          refine hK _ _ trivial ?_;clear hK K
          repeat(refine eX rfl (fun K hK=>?_);go_simp;refine hK _ ?_;clear hK K)
          refine aW rfl (fun K hK=>?_);go_wp2
          refine hK _ _ trivial ?_;clear hK K;have sI:=(M (fun k=>k=E0) w8).setCell (p:=⟨E0,1,none⟩) (.inl rfl) (.slice A8 (n1+1) c8);have yz:=hid (show af (w8.setCell ⟨E0,1,none⟩ (.slice A8 (n1+1) c8)) E0 55 #[.string ⟨nm.toArray⟩,.slice A8 (n1+1) c8,.slice none 0 0,.string ⟨#[]⟩]from lT.out.put 1 _);have qb:=hid (LK.out.move sI (by omega));have Rk:=hid (sI.blk ZU.out fun h=>by omega);have lS:=hid (Cb.out.trans' sI fun k hk=>.inr (by omega));have qL:=hid (wI.out.mv sI fun k hk _=>by omega);have HM:=hid (lN qb.out);clear sI q1 Rn;refine sQ ?_;go_wp2
          refine⟨⟨aM++[(y1,y2)],l3,A8,n1+1,c8,hid (by rw[List.length_append,JN.out];rfl),by omega,ack,yz,qL,lS,qb,Rk⟩,?_⟩;rw[HM.out,HP.out];have h1:=afQ.out;have h2:=G9.out;have h3:=HL2.out;rw[List.length_cons]at*;omega
end
namespace Xp
open U (E aJ Bytes letter inner aU)
theorem Ko{p:UInt8→Bool}:∀(q:Bytes) (b:UInt8) (l:Bytes),(q++b::l).dropWhile p=b::l→q.all p=true∧p b=false
 |[],b,l,h=>by
  refine⟨rfl,?_⟩;cases hb:p b with
  |false=>rfl
  |true=>
   rw[List.nil_append,List.dropWhile_cons,if_pos hb]at h;have:=(bQ.dropWhile p l).len;rw[h,List.length_cons]at this;omega
 |a::q,b,l,h=>by
  rw[List.cons_append,List.dropWhile_cons]at h;cases ha:p a with
  |false=>
   rw[if_neg (by rw[ha];decide)]at h;have:=congrArg List.length h;rw[List.length_cons,List.length_append,List.length_cons]at this;omega
  |true=>
   rw[if_pos ha]at h;obtain⟨h1,h2⟩:=Ko q b l h;exact⟨by rw[List.all_cons,ha,h1];rfl,h2⟩
theorem Kq{p:UInt8→Bool}:∀(q l:Bytes),q.all p=true→(q++l).takeWhile p=q++l.takeWhile p∧(q++l).dropWhile p=l.dropWhile p
 |[],_,_=>⟨rfl,rfl⟩
 |a::q,l,h=>by
  rw[List.all_cons,Bool.and_eq_true]at h;obtain⟨h1,h2⟩:=Kq q l h.2;rw[List.cons_append,List.takeWhile_cons,List.dropWhile_cons,if_pos h.1,if_pos h.1,h1,h2];exact⟨rfl,rfl⟩
theorem Db{p:UInt8→Bool}{b:UInt8}(l:Bytes)(h:p b=false):(b::l).takeWhile p=[]∧(b::l).dropWhile p=b::l:=by
 rw[List.takeWhile_cons,List.dropWhile_cons,h];exact⟨rfl,rfl⟩
theorem UE{el:Bytes→Nat→Rs E}(hel:∀l c,bQ (el l c).left l):∀(m f:Nat) (ks:List E) (l:Bytes) (c:Nat),l.length≤m→l.length<f→jZ el f ks l c=jZ el (l.length+1) ks l c:=by
 intro m
 induction m with
 |zero=>
  intro f ks l c hm hf;obtain⟨f,rfl⟩:∃k,f=k+1:=⟨f-1,by omega⟩;have:l=[]:=List.length_eq_zero_iff.1 (by omega);subst this;rw[jZ,jZ]
 |succ m ih=>
  intro f ks l c hm hf;obtain⟨f,rfl⟩:∃k,f=k+1:=⟨f-1,by omega⟩;cases l with
  |nil=>rw[jZ,jZ]
  |cons b l=>
   rw[jZ,jZ];have h1:=(hel (b::l) c).len;split
   ·rfl
   ·cases he:el (b::l) c with
    |bad l1=>rfl
    |ok e l1 c1=>
     rw[he]at h1;have h1:l1.length≤(b::l).length:=h1;have h2:=(bQ.dropWhile white l1).len
     dsimp only
     cases hd:l1.dropWhile white with
     |nil=>rfl
     |cons b2 l3=>
      rw[hd]at h2;rw[List.length_cons]at hm hf h1 h2
      dsimp only
      split
      ·rw[ih f (ks++[e]) l3 c1 (by omega) (by omega),ih (b::l).length (ks++[e]) l3 c1 (by omega) (by rw[List.length_cons];omega)]
      ·rfl
theorem Xu{el:Bytes→Nat→Rs E}(hel:∀l c,bQ (el l c).left l)(f:Nat)(ks:List E)(l:Bytes)(c:Nat)(h:l.length<f):jZ el f ks l c=jZ el (l.length+1) ks l c:=UE hel _ f ks l c (Nat.le_refl _) h
def om(el:Bytes→Nat→Rs E)(ks:List E)(l:Bytes)(c:Nat):Rs (List E):=jZ el (l.length+1) ks l c
end Xp
namespace U
def iH(b:UInt8):Bytes:=if b=38 then [38,97,109,112,59]else if b=60 then [38,108,116,59]else if b=62 then [38,103,116,59]else if b=34 then [38,113,117,111,116,59]else [b]
def dV(s:Bytes):Bytes:=s.flatMap iH
theorem Z6(s:Bytes)(b:UInt8):dV (s++[b])=dV s++iH b:=by unfold dV;rw[List.flatMap_append];simp
theorem acm:dV []=[]:=rfl
def AV(a:Bytes×Bytes):Bytes:=32::a.1++[61,34]++dV a.2++[34]
def dw(l:aJ):Bytes:=l.flatMap AV
theorem UF(l:aJ)(j:Nat)(h:j<l.length):dw (l.take (j+1))=dw (l.take j)++AV l[j]:=by
 unfold dw;rw[List.take_add_one,List.getElem?_eq_getElem h,List.flatMap_append];simp
theorem Z7(l:aJ)(j:Nat):(dw (l.take j)).length≤(dw l).length:=by
 have:dw l=dw (l.take j)++dw (l.drop j):=by unfold dw;rw[←List.flatMap_append,List.take_append_drop]
 rw[this,List.length_append];omega
mutual
def fB:E→Bytes
 |.mk n a ks t=>60::n++dw a++(if t.isEmpty&&ks.isEmpty then [47,62]else 62::dV t++gF ks++([60,47]++n++[62]))
def gF:List E→Bytes
 |[]=>[]
 |x::xs=>fB x++gF xs
end
theorem yA(l:List E):gF l=l.flatMap fB:=by
 induction l with
 |nil=>rw[gF];rfl
 |cons x l ih=>rw[gF,ih,List.flatMap_cons]
theorem UG(l:List E)(j:Nat)(h:j<l.length):gF (l.take (j+1))=gF (l.take j)++fB l[j]:=by
 rw[yA,yA,List.take_add_one,List.getElem?_eq_getElem h,List.flatMap_append];simp
theorem Z8(l:List E)(j:Nat):(gF (l.take j)).length≤(gF l).length:=by
 have:gF l=gF (l.take j)++gF (l.drop j):=by rw[yA,yA,yA,←List.flatMap_append,List.take_append_drop]
 rw[this,List.length_append];omega
end U
end Go.Proofs.YtcgbccfpcgaikaaGreatDoor
