/- Part 23 of 46 of a proof. No condition. -/
import Derived.Defers
import Derived.Recover
import Derived.Test.YtcgbccfpcgaikaaGreatDoorYm22
set_option maxRecDepth 100000
set_option maxHeartbeats 8000000
namespace Go.Proofs.YtcgbccfpcgaikaaGreatDoor
section
open Go.RowKit
open Xp (Rs bQ white bB iQ dh aR iZ om j4 jk)
open U (E aJ)
theorem De{p:UInt8→Bool}:∀l:List UInt8,l.dropWhile p=[]↔l.all p=true
 |[]=>by simp
 |b::l=>by
  rw[List.dropWhile_cons,List.all_cons];cases h:p b with
  |true=>rw[if_pos rfl,Bool.true_and];exact De l
  |false=>rw[if_neg (by decide),Bool.false_and];simp
theorem UH(l:List UInt8):(Lib.trimB l 32).isEmpty=l.all (fun b=>b==32):=by
 unfold Lib.trimB Lib.trimLeftB Lib.trimRightB;rw[Bool.eq_iff_iff,List.isEmpty_iff];constructor
 ·intro h
  have h1:=(De (p:=fun b=>b==32) _).1 h
  have h2:(l.reverse.dropWhile (fun b=>b==32))=[]:=by
   rw[List.all_reverse]at h1;cases hd:l.reverse.dropWhile (fun b=>b==32)with
   |nil=>rfl
   |cons b s=>
    rw[hd,List.all_cons,Bool.and_eq_true]at h1;have h3:=List.takeWhile_append_dropWhile (p:=fun b:UInt8=>b==32) (l:=l.reverse);rw[hd]at h3;have h4:=(Xp.Ko (p:=fun b:UInt8=>b==32) (l.reverse.takeWhile (fun b=>b==32)) b s (by rw[h3];exact hd)).2;rw[h4]at h1;cases h1.1
  have h3:=(De (p:=fun b:UInt8=>b==32) _).1 h2;rw[List.all_reverse]at h3;exact h3
 ·intro h
  have h3:l.reverse.dropWhile (fun b=>b==32)=[]:=(De (p:=fun b:UInt8=>b==32) _).2 (by rw[List.all_reverse];exact h);rw[h3];rfl
theorem Kt{nm l:List UInt8}{c:Nat}{u:Unit}{l1:List UInt8}{c1:Nat}(h:iQ nm c l=.ok u l1 c1):c1=c:=by
 unfold iQ at h;cases he:bB 47 c l with
 |bad l2=>rw[he]at h;cases h
 |ok u2 l2 c2=>
  rw[he]at h
  dsimp only at h
  cases hl:Xp.wW c nm l2 with
  |bad l3=>rw[hl]at h;cases h
  |ok u3 l3 c3=>rw[hl]at h;exact uF h
def AZ{α:Type}(x:α)(c:Nat):Rs Unit→Rs α
 |.bad l=>.bad l
 |.ok _ l _=>.ok x l c
def adZ(nm:List UInt8)(c:Nat):Rs (List UInt8)→Rs (List E×List UInt8)
 |.bad l=>.bad l
 |.ok t l _=>AZ ([],t) c (iQ nm c (l.drop 1))
def PN(nm ws:List UInt8):Rs (List E)→Rs (List E×List UInt8)
 |.bad l=>.bad l
 |.ok ks l c=>AZ (ks,if j4 ws&&ks.isEmpty then ws else []) c (iQ nm c l)
theorem JR{el:List UInt8→Nat→Rs E}{nm l:List UInt8}{c:Nat}(hd:l.dropWhile white=[]):dh el nm l c=.bad []:=by unfold dh;rw[hd]
theorem UI{el:List UInt8→Nat→Rs E}{nm l l2:List UInt8}{b:UInt8}{c:Nat}(hd:l.dropWhile white=b::l2)(hs:j4 (l.takeWhile white)=false):dh el nm l c=.bad (b::l2):=by
 unfold dh;rw[hd]
 dsimp only
 rw[if_pos hs]
theorem Ce{el:List UInt8→Nat→Rs E}{nm l l2:List UInt8}{b:UInt8}{c:Nat}(hd:l.dropWhile white=b::l2)(hb:¬b=60)(hs:j4 (l.takeWhile white)=true):dh el nm l c=adZ nm c (iZ 60 c (l.takeWhile white) (b::l2)):=by
 unfold dh;rw[hd]
 dsimp only
 rw[if_neg (by rw[hs];decide),if_neg hb];show _=adZ nm c (Xp.jl 60 c ((b::l2).length+1) (l.takeWhile white) (b::l2));cases ht:Xp.jl 60 c ((b::l2).length+1) (l.takeWhile white) (b::l2)with
 |bad l3=>rfl
 |ok t l3 c3=>
  show _=AZ ([],t) c (iQ nm c (l3.drop 1))
  dsimp only
  cases he:iQ nm c (l3.drop 1)with
  |bad l4=>rfl
  |ok u l4 c4=>rfl
theorem Cg{el:List UInt8→Nat→Rs E}{nm l l2:List UInt8}{b:UInt8}{c:Nat}(hd:l.dropWhile white=b::l2)(hb:b=60)(hs:j4 (l.takeWhile white)=true):dh el nm l c=PN nm (l.takeWhile white) (om el [] l2 c):=by
 unfold dh;rw[hd]
 dsimp only
 rw[if_neg (by rw[hs];decide),if_pos hb];show _=PN nm _ (Xp.jZ el (l2.length+1) [] l2 c);cases hk:Xp.jZ el (l2.length+1) [] l2 c with
 |bad l3=>rfl
 |ok ks l3 c3=>
  show _=AZ _ c3 (iQ nm c3 l3)
  dsimp only
  cases he:iQ nm c3 l3 with
  |bad l4=>rfl
  |ok u l4 c4=>rfl
theorem aac{el:List UInt8→Nat→Rs E}{ks:List E}{c:Nat}:om el ks [] c=.bad []:=by unfold om;rw[Xp.jZ]
theorem aad{el:List UInt8→Nat→Rs E}{ks:List E}{b:UInt8}{l l1:List UInt8}{c:Nat}(hb:¬b=47)(he:el (b::l) c=.bad l1):om el ks (b::l) c=.bad l1:=by
 unfold om;rw[Xp.jZ,if_neg hb,he]
theorem Rp{el:List UInt8→Nat→Rs E}{ks:List E}{b:UInt8}{l l1:List UInt8}{c c1:Nat}{e:E}(hb:¬b=47)(he:el (b::l) c=.ok e l1 c1)(hd:l1.dropWhile white=[]):om el ks (b::l) c=.bad []:=by
 unfold om;rw[Xp.jZ,if_neg hb,he]
 dsimp only
 rw[hd]
theorem Rq{el:List UInt8→Nat→Rs E}{ks:List E}{b b2:UInt8}{l l1 l3:List UInt8}{c c1:Nat}{e:E}(hb:¬b=47)(he:el (b::l) c=.ok e l1 c1)(hd:l1.dropWhile white=b2::l3)(hb2:¬b2=60):om el ks (b::l) c=.bad (b2::l3):=by
 unfold om;rw[Xp.jZ,if_neg hb,he]
 dsimp only
 rw[hd]
 dsimp only
 rw[if_neg hb2]
theorem wJ.stores{B n:Nat}{w8:World}{es:List E}{e:E}{va vk x0 x1 x2 x3:Value}{g8 cap E0:Nat}(h:wJ B w8 es e va vk (.slice (some ⟨g8,0,none⟩) (n+1) cap))(hn:es.length=n)(hb:af w8 E0 55 #[x0,x1,x2,x3])(hE:E0<B):
  (∀W,W=(zf w8 g8 (n*4) (.string ⟨e.name.toArray⟩) va vk (.string ⟨e.text.toArray⟩)).setCell ⟨E0,2,none⟩ (.slice (some ⟨g8,0,none⟩) (n+1) cap)→
   af W E0 55 #[x0,x1,.slice (some ⟨g8,0,none⟩) (n+1) cap,x3]∧fQ B W (es++[e]) (.slice (some ⟨g8,0,none⟩) (n+1) cap)∧Touch (fun i=>i=g8∨i=E0) w8 W)∧
  (∀W,W=zf (w8.setCell ⟨E0,2,none⟩ (.slice (some ⟨g8,0,none⟩) (n+1) cap)) g8 (n*4) (.string ⟨e.name.toArray⟩) va vk (.string ⟨e.text.toArray⟩)→
   af W E0 55 #[x0,x1,.slice (some ⟨g8,0,none⟩) (n+1) cap,x3]∧fQ B W (es++[e]) (.slice (some ⟨g8,0,none⟩) (n+1) cap)∧Touch (fun i=>i=g8∨i=E0) w8 W):=by
 obtain⟨g',cap',hv,_,jI,_⟩:=h.cells hn;cases hv;have t1:∀(w:World) (v:Value),Touch (fun k=>k=E0) w (w.setCell ⟨E0,2,none⟩ v):=fun w v=>(M (fun k=>k=E0) w).setCell (p:=⟨E0,2,none⟩) (.inl rfl) v
 constructor
 ·rintro W rfl
  have hp:=Ac w8 g8 (n*4) (.string ⟨e.name.toArray⟩) va vk (.string ⟨e.text.toArray⟩);exact⟨(hp.blk hb fun h=>by omega).put 2 _,(h.put hn).mv (t1 _ _) fun k hk _=>by omega,(hp.mono fun i hi=>.inl hi).trans ((t1 _ _).mono fun i hi=>.inr hi)⟩
 ·rintro W rfl
  exact⟨(Ac _ g8 (n*4) _ _ _ _).blk (hb.put 2 _) fun h=>by omega,(h.mv (t1 w8 _) fun k hk _=>by omega).put hn,((t1 w8 _).mono fun i hi=>.inr hi).trans ((Ac _ g8 (n*4) _ _ _ _).mono fun i hi=>.inl hi)⟩
attribute [local go_sem] gD stillUpon
theorem acr(S:ByteArray)(g n:Nat)(hS:S.size≤1099511627776)(hn:n<64)(hel:LP S g n)(d:Int)(nm:List UInt8)(va:Value)(E0:Nat)(l:List UInt8)(c:Nat)(w:World)(hd0:d=64-(n:Int))(hnm:nm.length≤S.size)(Oo:E0≠g)
  (hB0:af w E0 55 #[.string ⟨nm.toArray⟩,va,.slice none 0 0,.string ⟨#[]⟩]) (hX0:Xr S g l c w) (hsp:j4 (l.takeWhile white)=true) (hok:Xp.ZF (dh (aR n) nm l c)):
  Calls Tryz.prog 123 #[.pointer (some ⟨g,0,none⟩),.pointer (some ⟨E0,0,none⟩),.int .i64 d] w fun e w'=>XC S g E0 nm va w (dh (aR n) nm l c) e w':=by
 have jJ:=hid hok;clear hok;have HX:=hid hX0;have HB:=hid hB0;have HEL:=hid hel;have uf:=hid hnm;have HD0:=hid hd0;have Vu:=hid hB0.lt;have HGL:=hid hX0.lt;have hwd:IntKind.i64.wrap (d+1)=d+1:=IntWalk.i64_in _ (by omega);have HD1:=hid (show d+1=65-(n:Int) by omega);have HWD:=hid hwd;obtain⟨q0,q1,q2,_,_,_,_⟩:=fM hX0.blk;obtain⟨ws,hws⟩:∃ws,l.takeWhile white=ws:=⟨_,rfl⟩;have HWS:=hid hws;rw[hws]at hsp;have hk0:S.size-l.length≤S.size:=by omega
 have Vw:=hid hX0.Ef;have yV:=hid hX0.len;obtain⟨k0,hkk⟩:∃k,k=S.size-l.length:=⟨_,rfl⟩;have CX:=hid hkk;rw[←hkk]at q1;clear hkk hX0 hB0 hel hws hnm hd0 hwd;have pJ:=hid hsp;have Lt:=hid (show j4 ws=true→ws.length≤200 from fun h=>by unfold j4 at h;simp only[Bool.and_eq_true,decide_eq_true_eq]at h;exact h.2);have HWN:=hid (show ws.length≤200 from Lt.out hsp);clear hsp;go_enter Tryz.func123,Tryz.ntmps123;go_wp2_with fail
 refine(vW S g c l w hS HX.out).mono ?_;rintro _ w1 ⟨rfl,ht,hx⟩;have je:=hid hx;have HT1:=hid ht;have HB1:=hid (ht.blk HB.out fun h=>Oo h);clear ht hx HX HB q0 q1 q2;generalize decide ((l.dropWhile white).length<l.length)=z0;obtain⟨q0,q1,q2,_,_,_,_⟩:=fM je.out.blk
 have CY:=hid (show S.extract k0 (S.size-(l.dropWhile white).length)=⟨ws.toArray⟩from by
  have h:=zK (S:=S) (p:=l.takeWhile white) (r:=l.dropWhile white) (by rw[List.takeWhile_append_dropWhile];exact Vw.out);rw[List.takeWhile_append_dropWhile,←CX.out,HWS.out]at h;exact h)
 have hdl:(l.dropWhile white).length≤l.length:=(Xp.bQ.dropWhile white l).len;have hk1:(k0:Int)≤((S.size-(l.dropWhile white).length:Nat):Int):=by have:=CX.out;have:=yV.out;omega
 have hk2:((S.size-(l.dropWhile white).length:Nat):Int)≤(S.size:Int):=by omega
 have hk3:(0:Int)≤(k0:Int):=by omega
 have hk4:k0≤S.size-(l.dropWhile white).length:=by omega
 have hk5:S.size-(l.dropWhile white).length≤S.size:=by omega
 generalize S.size-(l.dropWhile white).length=k at*;clear hdl;go_wp2
 go_quiet (fail)
 refine bK (fun W=>ag w1 W) ((M _ _).drewN _) ?_;rintro w2 hf2;have p8:=hid (je.out.fresh hf2);have HT2:=hid (HT1.out.trans (hf2.mono fun _ h=>h.elim));have HB2:=hid (hf2.blk HB1.out fun h=>h);clear hf2;clear je HT1 HB1 q0 q1 q2 hk1 hk2 hk3 hk4 hk5;generalize S.extract k0 k=Bs at CY⊢;have hbs:=CY.out;subst hbs;have hwl:(⟨ws.toArray⟩:ByteArray).size=ws.length:=rfl;go_wp2_with fail
 refine(Tryz.strings_Trim_one ⟨ws.toArray⟩ 32 (by decide) w2 (by rw[hwl];have:=HWN.out;omega)).mono ?_;rintro _ w4 ⟨rfl,hw4⟩
 have jf:ag w2 w4:=by
  rcases hw4 with rfl|rfl
  ·exact M _ _
  ·exact(M _ _).drewN 1
 have tZ:=hid (p8.out.fresh jf);have nU:=hid (HT2.out.trans (jf.mono fun _ h=>h.elim));have iB:=hid (jf.blk HB2.out fun h=>h);clear jf hw4 p8 HT2 HB2;have jK:=hid (show(Lib.trimB (⟨ws.toArray⟩:ByteArray).data.toList 32).isEmpty=ws.all (fun b=>b==32)from UH ws);generalize Lib.trimB (⟨ws.toArray⟩:ByteArray).data.toList 32=tr at jK⊢
 have htr:tr.isEmpty=true:=by
  rw[jK.out];have h:=pJ.out;unfold j4 at h;rw[Bool.and_eq_true]at h;exact h.1
 have aiI:decide ((ws.length:Int)≤(200:Int))=true:=dT (by have:=HWN.out;omega);have aha:decide (ws.length≤200)=true:=dT HWN.out;go_wp2_with fail
 clear htr aiI aha jK;cases hd:l.dropWhile white with
 |nil=>
  exact Xp.sF jJ.out (JR hd)
 |cons b0 l3=>
  rw[hd]at tZ;have HD:=hid hd;clear hd
  by_cases hb:b0=60
  rotate_left
  focus
   have hbn:((b0.toNat:Int) !=(60:Int))=true:=si b0 60 hb;have Xx:=hid hb;clear hb;refine(fG S g c b0 l3 _ tZ.out).mono ?_;rintro _ w5 ⟨rfl,jO⟩;have iR:=hid (tZ.out.fresh jO);have iW:=hid (nU.out.trans (jO.mono fun _ h=>h.elim));have eO:=hid (jO.blk iB.out fun h=>h);clear jO tZ nU iB;have yf:=hid (Ce (el:=aR n) (nm:=nm) (c:=c) HD.out Xx.out (by rw[HWS.out];exact pJ.out));rw[HWS.out]at yf;have akH:ws.length≤200:=Lt.out pJ.out;have aiJ:=iR.out.lt;obtain⟨b5,hb5⟩:∃b,b=w5.heap.size:=⟨_,rfl⟩;have hEl:=eO.out.lt;have hgb:g<b5:=by omega
   have hEb:E0<b5:=by omega
   have akZ:w.heap.size≤b5:=by have:=iW.out.size;omega
   obtain⟨A0,n0,cp0,W6,aiK,hn0,afR,Xy⟩:∃A0 n0 cp0 W6,(convert 9 40 (.string ⟨ws.toArray⟩)).run Tryz.prog w5=.ok (.slice A0 n0 cp0) W6∧ws.length=n0∧lQ b5 W6 ws (.slice A0 n0 cp0)∧ag w5 W6:=by
    obtain⟨h1,h2⟩:=lQ.conv w5 ⟨ws.toArray⟩ (by show ws.length≤_;omega)
    exact⟨_,_,_,_,Lib.run_convert_string_bytes w5 9 40 5 ⟨ws.toArray⟩ Tryz.underlying9 Tryz.underlying40 Tryz.underlying5,rfl,by rw[hb5];exact h1,h2⟩
   have wK:=hid afR;have iC:=hid (iW.out.trans (Xy.mono fun _ h=>h.elim));have iJ:=hid (iR.out.fresh Xy);have gy:=hid (Xy.blk eO.out fun h=>h);clear hb5 afR Xy iR iW eO aiJ hEl;go_wp2
   go_loopw [9] (fun v wr=>∃(acc l1:List UInt8) (A:Option Addr) (nn cp:Nat),v=.slice A nn cp∧Hd (acc.length=nn)∧nn≤1000∧Hd (Xp.iZ 60 c ws (b0::l3)=Xp.iZ 60 c acc l1)∧Hd (lQ (b5) wr acc (.slice A nn cp))∧Hd (Touch (fun b=>b=g) w wr)∧Hd (Xr S g l1 c wr)∧Hd (af wr E0 55 #[.string ⟨nm.toArray⟩,va,.slice none 0 0,.string ⟨#[]⟩])) (fun _ wr=>S.size-posOf g wr)
   case atStart=>exact⟨ws,b0::l3,A0,n0,cp0,rfl,hid hn0,by omega,hid rfl,wK,iC,iJ,gy⟩
   case round=>
    obtain⟨acc,l1,A,nn,cp,rfl,wH,hn,kJ,HG,HT,HX,HB⟩:=hrel;rename_i wr _;have HP:=hid (lN HX.out);have hgs:=HX.out.lt;cases l1 with
    |nil=>
     exact Xp.sF jJ.out (by rw[yf.out,kJ.out,Xp.CZ];rfl)
    |cons b l2=>
     by_cases hb:b=60
     ·have hbn:((b.toNat:Int) !=(60:Int))=false:=qC b 60 hb
      have Oj:=hid (show Xp.iZ 60 c ws (b0::l3)=.ok acc (60::l2) c by rw[kJ.out,hb];exact Xp.C8 60 c acc l2);have HBQ:=hid hb;clear hb;go_wp2_with fail
      refine(fG S g c b l2 _ HX.out).mono ?_;rintro _ w9 ⟨rfl,iT⟩;have qb:=hid (HX.out.fresh iT);have lS:=hid (HT.out.trans (iT.mono fun _ h=>h.elim));have yz:=hid (iT.blk HB.out fun h=>h);have qL:=hid (HG.out.fresh iT);have HA:=hid (show dh (aR n) nm l c=AZ ([],acc) c (iQ nm c l2) by rw[yf.out,Oj.out];rfl);clear iT;rw[HBQ.out]at qb;have hcv:=qL.out.str wH.out;obtain⟨e0,e1,e2,e3,y0,y1,y2,y3,hlb⟩:=af.four yz.out;obtain⟨q0,q1,q2,f0,f1,f2,hg⟩:=fM qb.out.blk;have hle:=qb.out.len;have hw:IntKind.i64.wrap (((S.size-(60::l2:List UInt8).length:Nat):Int)+1)=((S.size-(60::l2:List UInt8).length:Nat):Int)+1:=IntWalk.i64_in _ (by omega);have ql:=hid (show af (w9.setCell ⟨E0,3,none⟩ (.string ⟨acc.toArray⟩)) E0 55 #[.string ⟨nm.toArray⟩,va,.slice none 0 0,.string ⟨acc.toArray⟩]from yz.out.put 3 _);have sJ:=hid ((lS.out.mono fun i (h:i=g)=>show i=g∨i=E0 from .inl h).setCell (p:=⟨E0,3,none⟩) (.inl (.inr rfl)) (.string ⟨acc.toArray⟩));have AB:=hid (qb.out.move ((M (fun k=>k=E0) w9).setCell (p:=⟨E0,3,none⟩) (.inl rfl) (.string ⟨acc.toArray⟩)) (by omega));have HXF:=hid AB.out.wG;have jg:=hid (ql.out.far (p:=⟨g,1,none⟩) (by show E0≠g;omega) (.int .i64 (((S.size-(60::l2:List UInt8).length:Nat):Int)+1)));have Ol:=hid (sJ.out.setCell (p:=⟨g,1,none⟩) (.inl (.inl rfl)) (.int .i64 (((S.size-(60::l2:List UInt8).length:Nat):Int)+1)));generalize S.size-(60::l2:List UInt8).length=k at*;have hne1:E0≠g:=Oo;have hne2:g≠E0:=fun h=>Oo h.symm
      have Rt:=hid (show acc.length≤1000 by have:=wH.out;omega);clear aiK qL HG kJ Oj;go_wp2_with fail
      generalize World.setCell _ ⟨g,1,none⟩ _=W9 at HXF jg Ol⊢;clear e0 e1 e2 e3 y0 y1 y2 y3 hlb q0 q1 q2 f0 f1 f2 hg hle hw ql sJ AB yz qb lS hcv hne1 hne2;have Aq:=hid (show Calls Tryz.prog 150 #[.pointer (some ⟨g,0,none⟩),.string ⟨nm.toArray⟩] W9 fun e w'=>XU S g W9 (iQ nm c l2) e w' from Kl S ⟨nm.toArray⟩ g c l2 W9 hS (by have:=uf.out;show nm.length≤_;omega) HXF.out);refine Aq.out.mono ?_;intro e w10 he;cases hr:iQ nm c l2 with
      |bad l9=>
       exact Xp.sF jJ.out (by rw[HA.out,hr];rfl)
      |ok u l9 c9=>
       have Ow:=Kt hr;rw[Ow]at hr;clear Ow;have dB:=hid (show dh (aR n) nm l c=.ok ([],acc) l9 c by rw[HA.out,hr];rfl);rw[hr]at he;obtain⟨rfl,ht,hx⟩:=he;have Fe:=hid hx;have Ku:=hid (ht.blk jg.out fun h=>by omega);have Kv:=hid (Ol.out.trans (ht.mono fun _ h=>.inl h));have Kw:=hid (show dz (fun k=>k<w.heap.size) w10 fun W=>gK W [] (.slice none 0 0)from fun _ _=>gK.nil none 0);clear ht hx hr Aq;go_wp2
       refine bodyPost_end (v:=.tuple #[]) (results_none rfl _ _ _) rfl ?_;rw[dB.out];exact⟨rfl,_,_,_,Ku.out,(by have:=Rt.out;simp only[maxLen];show acc.length≤_;omega),Kw.out,Kv.out,Fe.out⟩
     ·have hbn:((b.toNat:Int) !=(60:Int))=true:=si b 60 hb
      cases hr:jk nn c (b::l2)with
      |bad l7=>
       exact Xp.sF jJ.out (by rw[yf.out,kJ.out,Xp.G7 hb (by rw[wH.out];exact hr)];rfl)
      |ok x l7 c7=>
       have ZB:=hid (show Xp.iZ 60 c ws (b0::l3)=Xp.iZ 60 c (acc++[x]) l7 by rw[kJ.out];exact Xp.AU hb (by rw[wH.out];exact hr));have hn2:=Xp.Vx hr;have hlt:=Xp.BZ hr;have hc7:=Xp.Oi hr;subst hc7;have HRR:=hid hr;have G9:=hid hlt;clear hb hr hlt;go_wp2_with fail
       refine(fG S g c7 b l2 _ HX.out).mono ?_;rintro _ w9 ⟨rfl,iT⟩;have qb:=hid (HX.out.fresh iT);have lS:=hid (HT.out.trans (iT.mono fun _ h=>h.elim));have qL:=hid (HG.out.fresh iT);have yz:=hid (iT.blk HB.out fun h=>h);clear iT;go_wp2_with fail
       refine(G5 S g c7 nn (b::l2) _ hS (by omega) qb.out).mono ?_;intro e w3 he;rw[HRR.out]at he;obtain⟨rfl,ht,hx⟩:=he;have p9:=hid (hx.fresh ((M _ w3).alloc (.cells #[.int .u8 (x.toNat:Int)] 5)));have HT3:=hid ((lS.out.trans ht).alloc (.cells #[.int .u8 (x.toNat:Int)] 5));have ZT:=hid ((qL.out.mv ht fun k hk _=>by omega).fresh ((M _ w3).alloc (.cells #[.int .u8 (x.toNat:Int)] 5)));have kW:=hid (af.new w3 5 #[.int .u8 (x.toNat:Int)]);have HB3:=hid ((ht.blk yz.out fun h=>by omega).alloc (.cells #[.int .u8 (x.toNat:Int)] 5));clear ht hx
       go_wp2_with (at_builtin;go_loud (refine wpList_append_byte rfl (.tmp 46) (.tmp 51) rfl ZT.out wH.out (by simp[Act.eval]) x kW.out (by simp[Act.eval]) (by omega) ?_);intro A8 c8 w8 jI bR;refine jw.mk ?_)
       have HOW:=hid ZT.out.pY;have LK:=hid (p9.out.move bR fun h=>by have:=(HOW.out _ h).1;omega);have Cb:=hid (show Touch (fun b=>b=g) w w8 from HT3.out.trans' bR fun k hk=>.inr (by have:=(HOW.out _ hk).1;omega));have wI:=hid jI;have lT:=hid (bR.blk HB3.out fun h=>by have:=(HOW.out _ h).1;omega);have HM:=hid (lN LK.out);clear jI bR;refine jw.go ?_;go_wp2
       go_roundw
       case rel=>exact⟨acc++[x],l7,A8,nn+1,c8,rfl,hid (by rw[List.length_append,wH.out];rfl),by omega,ZB,wI,Cb,LK,lT⟩
       case measure=>
        rw[HM.out,HP.out];have h1:=HX.out.len;have h2:=G9.out;rw[List.length_cons]at*;omega
  have hbn:((b0.toNat:Int) !=(60:Int))=false:=qC b0 60 hb;have Xx:=hid hb;clear hb;refine(fG S g c b0 l3 _ tZ.out).mono ?_;rintro _ w5 ⟨rfl,jO⟩;have iR:=hid (tZ.out.fresh jO);have iW:=hid (nU.out.trans (jO.mono fun _ h=>h.elim));have eO:=hid (jO.blk iB.out fun h=>h);clear jO tZ nU iB;have HCK:=hid (Cg (el:=aR n) (nm:=nm) (c:=c) HD.out Xx.out (by rw[HWS.out];exact pJ.out));rw[HWS.out]at HCK;have hEl:=eO.out.lt;have aiL:=Vu.out;have hls:=iR.out.len;rw[List.length_cons]at hls;rw[Xx.out]at iR;have iC:=hid (iW.out.mono fun i (h:i=g)=>show i=g∨i=E0 from .inl h);have wK:=hid (show fQ w.heap.size w5 [] (.slice none 0 0)from fQ.nil iW.out.size);clear iW hEl;go_wp2
  go_loopw [] (fun wr=>∃(ks:List E) (l1:List UInt8) (A:Option Addr) (nk cp c1:Nat),Hd (ks.length=nk)∧nk+l1.length≤S.size∧Hd (dh (aR n) nm l c=PN nm ws (om (aR n) ks l1 c1))∧Hd (af wr E0 55 #[.string ⟨nm.toArray⟩,va,.slice A nk cp,.string ⟨#[]⟩])∧Hd (fQ w.heap.size wr ks (.slice A nk cp))∧Hd (Touch (fun b=>b=g∨b=E0) w wr)∧Hd (Xr S g (60::l1) c1 wr)) (fun wr=>S.size-posOf g wr)
  case atStart=>exact⟨[],l3,none,0,0,c,hid rfl,by omega,HCK,eO,wK,iC,iR⟩
  case round=>
   clear iR iC eO wK HCK hls;obtain⟨ks,l1,A,nk,cp,c1,VE,hnk,ug,HB,HG,HT,HX⟩:=hrel;rename_i wr _;have HP:=hid (lN HX.out);have hEl:=HB.out.lt;have hgs:=HX.out.lt;obtain⟨q0,q1,q2,f0,f1,f2,hg⟩:=fM HX.out.blk;have hle:=HX.out.len;have hw:IntKind.i64.wrap (((S.size-(60::l1:List UInt8).length:Nat):Int)+1)=((S.size-(60::l1:List UInt8).length:Nat):Int)+1:=IntWalk.i64_in _ (by omega);have AB:=hid HX.out.wG;have sJ:=hid (HT.out.setCell (p:=⟨g,1,none⟩) (.inl (.inl rfl)) (.int .i64 (((S.size-(60::l1:List UInt8).length:Nat):Int)+1)));have ql:=hid (HB.out.far (p:=⟨g,1,none⟩) (by show E0≠g;exact Oo) (.int .i64 (((S.size-(60::l1:List UInt8).length:Nat):Int)+1)));have LV:=hid (HG.out.mv ((M (fun b=>b=g) wr).setCell (p:=⟨g,1,none⟩) (.inl rfl) (.int .i64 (((S.size-(60::l1:List UInt8).length:Nat):Int)+1))) fun k hk _=>by omega);have AJ:=hid hle;generalize hkk:S.size-(60::l1:List UInt8).length=k at q1 hw AB sJ ql LV;have HKK:=hid hkk;clear hkk;go_wp2_with fail
   generalize (wr.setCell ⟨g,1,none⟩ (.int .i64 ((k:Int)+1)))=wB at AB sJ ql LV⊢;have HXB:=AB;have yB:=sJ;have gu:=ql;have HGB:=LV;clear q0 q1 q2 f0 f1 f2 hg hle hw AB sJ ql LV HX HT HB HG hEl hgs;have hEl:=gu.out.lt;have hgs:=HXB.out.lt;cases l1 with
   |nil=>
    exact Xp.sF jJ.out (by rw[ug.out,aac];rfl)
   |cons b l2=>
   by_cases hb:b=47
   ·have hbn:((b.toNat:Int)==(47:Int))=true:=by rw[hb];rfl
    have afS:=hid hb;clear hb;refine(fG S g c1 b l2 _ HXB.out).mono ?_;rintro _ w9 ⟨rfl,iT⟩;have qb:=hid (HXB.out.fresh iT);have lS:=hid (yB.out.trans (iT.mono fun _ h=>h.elim));have yz:=hid (iT.blk gu.out fun h=>h);have qL:=hid (HGB.out.fresh iT);have Xz:=hid (show om (aR n) ks (b::l2) c1=.ok ks (47::l2) c1 by rw[afS.out];exact Xp.Hr _ _ _ _);rw[afS.out]at qb;clear iT HXB yB gu HGB;obtain⟨e0,e1,e2,e3,y0,y1,y2,y3,hlb⟩:=af.four yz.out
    by_cases hk0:nk=0
    ·have d0:((nk:Int)==(0:Int))=true:=by rw[hk0];rfl
     have HKE:=hid (show ks=[]from List.length_eq_zero_iff.1 (by rw[VE.out];exact hk0));have HA:=hid (show dh (aR n) nm l c=AZ (ks,ws) c1 (iQ nm c1 (47::l2)) by rw[ug.out,Xz.out];show AZ (ks,if j4 ws&&ks.isEmpty then ws else []) c1 _=_;rw[pJ.out,HKE.out];rfl);have HWL:=hid (Lt.out pJ.out);have jg:=hid (show af (w9.setCell ⟨E0,3,none⟩ (.string ⟨ws.toArray⟩)) E0 55 #[.string ⟨nm.toArray⟩,va,.slice A nk cp,.string ⟨ws.toArray⟩]from yz.out.put 3 _);have Ol:=hid (lS.out.setCell (p:=⟨E0,3,none⟩) (.inl (.inr rfl)) (.string ⟨ws.toArray⟩));have HXF:=hid (qb.out.move ((M (fun k=>k=E0) w9).setCell (p:=⟨E0,3,none⟩) (.inl rfl) (.string ⟨ws.toArray⟩)) (by omega));have HGF:=hid (qL.out.mv ((M (fun k=>k=E0) w9).setCell (p:=⟨E0,3,none⟩) (.inl rfl) (.string ⟨ws.toArray⟩)) (fun k hk _=>by omega));clear ug Xz hk0;go_wp2_with fail
     generalize (w9.setCell ⟨E0,3,none⟩ (.string ⟨ws.toArray⟩))=W9 at HXF jg Ol HGF⊢;clear e0 e1 e2 e3 y0 y1 y2 y3 hlb qb lS yz qL d0;have Aq:=hid (show Calls Tryz.prog 150 #[.pointer (some ⟨g,0,none⟩),.string ⟨nm.toArray⟩] W9 fun e w'=>XU S g W9 (iQ nm c1 (47::l2)) e w' from Kl S ⟨nm.toArray⟩ g c1 (47::l2) W9 hS (by have:=uf.out;show nm.length≤_;omega) HXF.out);refine Aq.out.mono ?_;intro e w10 he;cases hr:iQ nm c1 (47::l2)with
     |bad l9=>
      exact Xp.sF jJ.out (by rw[HA.out,hr];rfl)
     |ok u l9 c9=>
      have Ow:=Kt hr;rw[Ow]at hr;clear Ow;have dB:=hid (show dh (aR n) nm l c=.ok (ks,ws) l9 c1 by rw[HA.out,hr];rfl);rw[hr]at he;obtain⟨rfl,ht,hx⟩:=he;have Fe:=hid hx;have Ku:=hid (ht.blk jg.out fun h=>by omega);have Kv:=hid (Ol.out.trans (ht.mono fun _ h=>.inl h));have Kw:=hid ((HGF.out.mv ht fun k hk _=>by omega).done);clear ht hx hr Aq;go_wp2
      refine bodyPost_end (v:=.tuple #[]) (results_none rfl _ _ _) rfl ?_;rw[dB.out];exact⟨rfl,_,_,_,Ku.out,(by have:=HWL.out;simp only[maxLen];show ws.length≤_;omega),Kw.out,Kv.out,Fe.out⟩
    ·have d0:((nk:Int)==(0:Int))=false:=by rw[beq_eq_false_iff_ne];omega
     have HKE:=hid (show ks.isEmpty=false by
      cases hks:ks with
      |nil=>have:=VE.out;rw[hks]at this;exact absurd this.symm hk0
      |cons x xs=>rfl)
     clear hk0;have HA:=hid (show dh (aR n) nm l c=AZ (ks,[]) c1 (iQ nm c1 (47::l2)) by rw[ug.out,Xz.out];show AZ (ks,if j4 ws&&ks.isEmpty then ws else []) c1 _=_;rw[HKE.out,Bool.and_false];rfl);have uX:=hid lS.out;clear ug Xz;go_wp2_with fail
     clear e0 e1 e2 e3 y0 y1 y2 y3 hlb;have Aq:=hid (show Calls Tryz.prog 150 #[.pointer (some ⟨g,0,none⟩),.string ⟨nm.toArray⟩] w9 fun e w'=>XU S g w9 (iQ nm c1 (47::l2)) e w' from Kl S ⟨nm.toArray⟩ g c1 (47::l2) w9 hS (by have:=uf.out;show nm.length≤_;omega) qb.out);refine Aq.out.mono ?_;intro e w10 he;cases hr:iQ nm c1 (47::l2)with
     |bad l9=>
      exact Xp.sF jJ.out (by rw[HA.out,hr];rfl)
     |ok u l9 c9=>
      have Ow:=Kt hr;rw[Ow]at hr;clear Ow;have dB:=hid (show dh (aR n) nm l c=.ok (ks,[]) l9 c1 by rw[HA.out,hr];rfl);rw[hr]at he;obtain⟨rfl,ht,hx⟩:=he;have Fe:=hid hx;have Ku:=hid (ht.blk yz.out fun h=>by omega);have Kv:=hid (uX.out.trans (ht.mono fun _ h=>.inl h));have Kw:=hid ((qL.out.mv ht fun k hk _=>by omega).done);clear ht hx hr Aq;go_wp2
      refine bodyPost_end (v:=.tuple #[]) (results_none rfl _ _ _) rfl ?_;rw[dB.out];exact⟨rfl,_,_,_,Ku.out,(Nat.zero_le _),Kw.out,Kv.out,Fe.out⟩
   ·have hbn:((b.toNat:Int)==(47:Int))=false:=by rw[show((b.toNat:Int)==(47:Int))=(b==47)from Eg b 47,beq_eq_false_iff_ne];exact hb
    have XD:=hid hb;clear hb;refine(fG S g c1 b l2 _ HXB.out).mono ?_;rintro _ w6 ⟨rfl,iT⟩;have iJ:=hid (HXB.out.fresh iT);have iC:=hid (yB.out.trans (iT.mono fun _ h=>h.elim));have gy:=hid (iT.blk gu.out fun h=>h);have wK:=hid (HGB.out.fresh iT);clear iT HXB yB gu HGB;have ak0:=gy.out.lt;have ak1:=iJ.out.lt;obtain⟨e0,e1,e2,e3,y0,y1,y2,y3,hlb⟩:=af.four gy.out;go_wp2_with fail
    have k1:=cT (S:=fun k=>k=g) e2 Oo;clear e0 e1 e2 e3 y0 y1 y2 y3 hlb hbn;have hwd:=HWD.out;cases hr:aR n (b::l2) c1 with
    |bad l9=>exact Xp.sF jJ.out (by rw[ug.out,aad XD.out hr];rfl)
    |ok e1 l7 c7=>
     obtain⟨en,lF,qm,uh⟩:=e1;have HRR:=hid hr;clear hr
     refine CW (fun W=>∃x:Turned (fun k=>k=g) w6,W=x.W) (gq.of [(0,true),(1,true),(2,true),(3,true),(4,true),(5,true),(6,true),(8,true)] (.fork 7 (.lone 9 .nil) 9 (.lone 7 .nil))) [0,1,2,3,4,5,6,7,8,9] 10 (Array.replicate 10 true++Array.replicate 6 false) (fun _=>True)
      (gq.of [(11,true),(13,true),(14,true)] (.fork 12 (.lone 15 .nil) 15 (.lone 12 .nil))) [11,12,13,14,15] (Array.replicate 16 true) (by kernel_rfl) (fun _ _ d _ _ h=>by cases d<;>exact h) (by kernel_rfl) ⟨⟨_,(M _ _).drewN 1⟩,rfl⟩ ?_
     unfold gq.of
     repeat(refine eX rfl (fun K hK=>?_);go_simp;refine hK _ ?_;clear hK K;first|done|unfold gq.of)
     clear k1;refine o6 ?_ ?_
     focus
      refine aW rfl (fun K hK=>?_);go_wp2_with fail
      refine(HEL.out (d+1) (b::l2) c1 _ HD1.out ⟨_,_,_,HRR.out⟩ (iJ.out.fresh ((M _ _).drewN 1))).mono ?_;intro e w7 he;rw[HRR.out]at he;obtain⟨ea,ek,rfl,ht,hst,hx⟩:=he;obtain⟨Aa,ca,Ht⟩:=hst.now.1.slice;obtain⟨Ab,cb,jW⟩:=hst.now.2.1.slice;simp only[E.kids,E.attrs]at Ht jW;subst Ht jW;unfold ev;simp only[E.name,E.text];have jy:=hid (show Touch (fun k=>k=g) w6 w7 from((M _ w6).drewN 1).trans ht);have tq:=hid (show dz (fun k=>k<w6.heap.size) w7 fun W=>jd W (.mk en lF qm uh) (.slice Aa lF.length ca) (.slice Ab qm.length cb)from hst);have oh:=hid hx;clear ht hst hx;go_wp2
      refine hK _ _ ⟨⟨_,jy.out⟩,rfl⟩ ?_;clear hK K;refine aW rfl (fun K hK=>?_);go_wp2
      refine hK _ _ ⟨⟨_,jy.out.alloc _⟩,rfl⟩ ?_;clear hK K;have kW:=hid (af.new w7 55 Z);have sJ:=hid (jy.out.alloc (.cells Z 55));have AB:=hid (oh.out.fresh ((M _ w7).alloc (.cells Z 55)));have Ky:=hid (tq.out.fresh ((M _ w7).alloc (.cells Z 55)));generalize (w7.alloc (.cells Z 55))=wA at kW sJ AB Ky⊢;obtain⟨bz,hbz⟩:∃b,b=w7.heap.size:=⟨_,rfl⟩;rw[←hbz]at kW⊢;clear hbz jy tq oh
     rotate_left
     focus
      refine aW rfl (fun K hK=>?_);go_wp2
      refine hK _ _ ⟨⟨_,((M _ w6).drewN 1).alloc _⟩,rfl⟩ ?_;clear hK K;have acs:=hid (show af ((w6.drewN 1).alloc (.cells Z 55)) w6.heap.size 55 Z from af.new (w6.drewN 1) 55 Z);have gW:=hid (show ag w6 ((w6.drewN 1).alloc (.cells Z 55))from((M _ w6).drewN 1).alloc _);have jy:=hid (show Touch (fun k=>k=g) w6 ((w6.drewN 1).alloc (.cells Z 55))from((M _ w6).drewN 1).alloc _);generalize ((w6.drewN 1).alloc (.cells Z 55))=w7 at acs gW jy⊢;obtain⟨bz,hbz⟩:∃b,b=w6.heap.size:=⟨_,rfl⟩;have HGZ:=hid (show w6.heap.size≠g by omega);refine aW rfl (fun K hK=>?_);go_wp2_with fail
      refine(HEL.out (d+1) (b::l2) c1 _ HD1.out ⟨_,_,_,HRR.out⟩ (iJ.out.fresh gW.out)).mono ?_;intro e wA he;rw[HRR.out]at he;obtain⟨ea,ek,rfl,ht,hst,hx⟩:=he;obtain⟨Aa,ca,Ht⟩:=hst.now.1.slice;obtain⟨Ab,cb,jW⟩:=hst.now.2.1.slice;simp only[E.kids,E.attrs]at Ht jW;subst Ht jW;unfold ev;simp only[E.name,E.text];have sJ:=hid (show Touch (fun k=>k=g) w6 wA from jy.out.trans ht);have Ky:=hid (show dz (fun k=>k<w6.heap.size) wA fun W=>jd W (.mk en lF qm uh) (.slice Aa lF.length ca) (.slice Ab qm.length cb)from hst.mono fun i _ hi=>Nat.lt_of_lt_of_le hi gW.out.size);have AB:=hid hx;have kW:=hid (ht.blk acs.out HGZ.out);clear ht hst hx;go_wp2
      refine hK _ _ ⟨⟨_,sJ.out⟩,rfl⟩ ?_;clear hK K;rw[←hbz]at kW⊢;clear hbz jy acs gW HGZ
     all_goals
      have LV:=hid (wK.out.mv sJ.out fun k hk _=>by omega);have HOW:=hid wK.out.pY;have ql:=hid (sJ.out.blk gy.out fun h=>Oo h);have xI:=hid iC.out.size
      have afT:nk<2^40:=by
       have h:=hnk;rw[List.length_cons]at h;omega
      have aiM:=hid afT;clear afT;refine BU rfl (fun K hK=>?_)
      go_wp2_with (at_builtin;go_loud (refine Gd rfl (.tmp 84) (.tmp 90) rfl LV.out VE.out (by simp[Act.eval]) (.mk en lF qm uh) kW.out (by simp[Act.eval]) w6.heap.size xI.out (fun k hk=>(HOW.out k hk).2) Ky.out aiM.out ?_);intro A8 c8 w8 jI bR;refine jw.mk ?_)
      obtain⟨g8,ak2,hv8,akI,ak3,ak4,a0,a1,a2,a3,f0,f1,f2,f3⟩:=jI.cells VE.out;cases hv8;have o9:=bR.blk ql.out fun h=>by have:=(HOW.out _ h).1;omega
      have LK:=hid (AB.out.move bR fun h=>by have:=(HOW.out _ h).1;omega);have Cb:=hid (show Touch (fun i=>i=g∨i=E0) w w8 from(iC.out.trans (sJ.out.mono fun i hi=>.inl hi)).trans' bR fun k hk=>.inr (by have:=(HOW.out _ hk).1;omega));have HST:=hid (jI.stores VE.out o9 aiL);obtain⟨_,_,q3,_,_,_,z3,_,Rn⟩:=af.four o9;have hne:E0≠g8:=by omega
      have hne':g8≠E0:=by omega
      have hr1:(nk:Int)<(nk:Int)+1:=by omega
      clear bR o9 jI;refine jw.go ?_;go_wp2
      refine hK _ _ trivial ?_;clear hK K
      repeat(refine eX rfl (fun K hK=>?_);go_simp;refine hK _ ?_;clear hK K)
      refine o6 ?_ ?_
      focus
       refine aW rfl (fun K hK=>?_);go_wp2
       refine hK _ _ trivial ?_;clear hK K;refine aW rfl (fun K hK=>?_);go_wp2
       refine hK _ _ trivial ?_;clear hK K;have lS:=hid (HST.out.1 _ rfl);unfold zf at lS;simp only[E.name,E.text]at lS;clear a0 a1 a2 a3 f0 f1 f2 f3 q3 z3 HST;generalize World.setCell _ ⟨E0,2,none⟩ _=W9 at lS⊢
      rotate_left
      focus
       refine aW rfl (fun K hK=>?_);go_wp2
       refine hK _ _ trivial ?_;clear hK K;refine aW rfl (fun K hK=>?_);go_wp2
       refine hK _ _ trivial ?_;clear hK K;have lS:=hid (HST.out.2 _ rfl);unfold zf at lS;simp only[E.name,E.text]at lS;clear a0 a1 a2 a3 f0 f1 f2 f3 q3 z3 HST;generalize World.setCell _ ⟨g8,nk*4+3,none⟩ _=W9 at lS⊢
      all_goals
       refine sQ ?_;obtain⟨kD,jA,sI⟩:=lS.out;have yz:=hid kD;have qL:=hid jA;have qb:=hid (LK.out.move sI (by omega));have afU:=hid (show Touch (fun i=>i=g∨i=E0) w W9 from Cb.out.trans' sI fun i hi=>hi.elim (fun h=>.inr (by omega)) fun h=>.inl (.inr h));clear kD jA sI lS;go_wp2_with fail
       refine(vW S g c7 l7 _ hS qb.out).mono ?_;rintro _ w10 ⟨rfl,ht,hx⟩;have Kv:=hid (afU.out.trans (ht.mono fun _ h=>.inl h));have Ku:=hid (ht.blk yz.out fun h=>Oo h);have acu:=hid (qL.out.mv ht fun k hk _=>by omega);clear ht yz qL qb afU;generalize decide ((l7.dropWhile white).length<l7.length)=z9;cases hd7:l7.dropWhile white with
       |nil=>
        exact Xp.sF jJ.out (by rw[ug.out,Rp XD.out HRR.out hd7];rfl)
       |cons b7 l8=>
        rw[hd7]at hx;have Fe:=hid hx;have HL8:=hid (show(b7::l8).length≤l7.length by rw[←hd7];exact(Xp.bQ.dropWhile white l7).len)
        by_cases oo:b7=60
        ·have aiN:((b7.toNat:Int) !=(60:Int))=false:=qC b7 60 oo
         have ack:=hid (show dh (aR n) nm l c=PN nm ws (om (aR n) (ks++[.mk en lF qm uh]) l8 c7) by rw[ug.out,Xp.LW (fun l c=>Xp.wR n l c) XD.out HRR.out (by rw[hd7,oo])]);rw[oo]at Fe;have vv:=hid oo;clear hx hd7 oo;go_wp2_with fail
         refine(fG S g c7 b7 l8 _ (by rw[vv.out];exact Fe.out)).mono ?_;rintro _ w11 ⟨rfl,Ru⟩;have afV:=hid (Fe.out.fresh Ru);have aiO:=hid (Kv.out.trans (Ru.mono fun _ h=>h.elim));have aiP:=hid (Ru.blk Ku.out fun h=>h);have acv:=hid (acu.out.fresh Ru);have HM:=hid (lN afV.out);have lg:=hid (Xp.wR n (b::l2) c1).len;rw[HRR.out]at lg;clear Ru;go_wp2
         go_roundw
         case rel=>
          refine⟨ks++[.mk en lF qm uh],l8,some ⟨g8,0,none⟩,nk+1,c8,c7,hid (by rw[List.length_append,VE.out];rfl),?_,ack,aiP,acv,aiO,afV⟩;have h1:=HL8.out;have h2:l7.length≤(b::l2).length:=lg.out;rw[List.length_cons]at h1 h2 hnk;omega
         case measure=>
          rw[HM.out,HP.out];have h0:=AJ.out;have h1:=HL8.out;have h2:l7.length≤(b::l2).length:=lg.out;simp only[List.length_cons]at h0 h1 h2⊢;omega
        ·have aiN:((b7.toNat:Int) !=(60:Int))=true:=si b7 60 oo
         exact Xp.sF jJ.out (by rw[ug.out,Rq XD.out HRR.out hd7 oo];rfl)
theorem aae(S:ByteArray)(g n:Nat)(hS:S.size≤1099511627776)(hn:n<64)(hel:LP S g n):adY S g n:=by
 intro d nm va E0 l c w hd hnm hE hB hok hX;cases hsp:j4 (l.takeWhile white)with
 |true=>exact acr S g n hS hn hel d nm va E0 l c w hd hnm hE hB hX hsp hok
 |false=>
  cases hdw:l.dropWhile white with
  |nil=>exact Xp.sF hok (JR hdw)
  |cons b l2=>exact Xp.sF hok (UI hdw hsp)
theorem Ox(S:ByteArray)(g:Nat)(hS:S.size≤1099511627776):∀n,n≤64→LP S g n
 |0,_=>ZY S g
 |n+1,h=>Xt S g n hS (by omega) (aae S g n hS (by omega) (Ox S g hS n (by omega)))
end
section
open Go.RowKit
open Xp (Rs bQ white bB aR kz ZG ab5)
open U (E aJ)
def Rv:Rs E→Rs E
 |.bad l2=>.bad l2
 |.ok e l2 c2=>match l2.dropWhile white with
  |[]=>.ok e [] c2
  |b::l3=>.bad (b::l3)
theorem aeU{l l1:List UInt8}(h:bB 60 0 (l.dropWhile white)=.bad l1):kz l=.bad l1:=by unfold kz;rw[h]
theorem afW{l l1:List UInt8}{u:Unit}{c:Nat}(h:bB 60 0 (l.dropWhile white)=.ok u l1 c):kz l=Rv (aR 64 l1 0):=by
 unfold kz;rw[h]
 dsimp only
 cases aR 64 l1 0 with
 |bad l2=>rfl
 |ok e l2 c2=>rfl
theorem acw{e:E}{l2:List UInt8}{c2:Nat}(h:l2.dropWhile white=[]):Rv (.ok e l2 c2)=.ok e [] c2:=by unfold Rv;simp only[h]
theorem aaf{e:E}{l2 l3:List UInt8}{b:UInt8}{c2:Nat}(h:l2.dropWhile white=b::l3):Rv (.ok e l2 c2)=.bad (b::l3):=by unfold Rv;simp only[h]
attribute [local go_sem] gD stillUpon
theorem acy(S:ByteArray)(g:Nat)(l:List UInt8)(w:World)(hS:S.size≤1099511627776)(hok:Xp.ZF (kz l))(hX0:Xr S g l 0 w):Calls Tryz.prog 39 #[.pointer (some ⟨g,0,none⟩)] w fun e w'=>XE S g w (kz l) e w':=by
 have jJ:=hid hok;have HX:=hid hX0;have HGL:=hid hX0.lt;have HEL:=hid (Ox S g hS 64 (Nat.le_refl _));clear hX0 hok;have jQ:=hid ((M (fun _=>False) w).alloc (.cells Z 55));have jV:=hid (af.new w 55 Z);have HX0:=hid (HX.out.fresh jQ.out);go_enter Tryz.func39,Tryz.ntmps39;go_wp2_with fail
 refine(vW S g 0 l _ hS HX0.out).mono ?_;rintro _ w1 ⟨rfl,ht,hx⟩;have hgl:=HGL.out;have je:=hid hx;have HT1:=hid (show Touch (fun b=>b=g) w w1 from(jQ.out.mono fun _ h=>h.elim).trans ht);have HR1:=hid (ht.blk jV.out fun h=>by omega);clear ht hx HX0 jQ jV HX;generalize decide ((l.dropWhile white).length<l.length)=z0;go_wp2_with fail
 have afX:=hid (show Calls Tryz.prog 79 #[.pointer (some ⟨g,0,none⟩),.int .u8 60] w1 fun e w'=>XU S g w1 (bB 60 0 (l.dropWhile white)) e w' from qY S g 0 60 _ w1 hS je.out);refine afX.out.mono ?_;intro e w2 he;cases hr:bB 60 0 (l.dropWhile white)with
 |bad l3=>
  exact Xp.sF jJ.out (aeU hr)
 |ok u l1 c1=>
 have hc1:=uF hr;rw[hc1]at hr;have HDK:=hid (afW hr);rw[hr]at he;obtain⟨rfl,ht,hx⟩:=he;have p8:=hid hx;have HT2:=hid (HT1.out.trans ht);have HR2:=hid (ht.blk HR1.out fun h=>by omega);clear ht hx hr hc1 afX je HT1 HR1 c1;go_wp2_with fail
 cases hr:aR 64 l1 0 with
 |bad l3=>
  exact Xp.sF jJ.out (by rw[HDK.out,hr];rfl)
 |ok x l2 c2=>
 have HEC:=hid (HEL.out 1 l1 0 w2 (by decide) ⟨_,_,_,hr⟩ p8.out);refine HEC.out.mono ?_;intro e w3 he;have HRR:=hid hr;obtain⟨en,lF,qm,uh⟩:=x;rw[hr]at he;obtain⟨ea,ek,rfl,ht,hst,hx⟩:=he;obtain⟨Aa,ca,Ht⟩:=hst.now.1.slice;obtain⟨Ab,cb,jW⟩:=hst.now.2.1.slice;simp only[E.kids,E.attrs]at Ht jW;subst Ht jW;unfold ev;simp only[E.name,E.text];have p9:=hid hx;have HT3:=hid (HT2.out.trans ht);have HR3:=hid (ht.blk HR2.out fun h=>by omega);have hr2:=HR2.out.lt;have zh:=hid (show dz (fun k=>k<w.heap.size+1) w3 fun W=>jd W (.mk en lF qm uh) (.slice Aa lF.length ca) (.slice Ab qm.length cb)from hst.mono fun i _ hi=>by omega);clear ht hst hx hr HEC p8 HT2 HR2 hr2;go_wp2_with fail
 have nU:=hid (HT3.out.alloc (.cells #[.string ⟨en.toArray⟩,.slice Aa lF.length ca,.slice Ab qm.length cb,.string ⟨uh.toArray⟩] 55));have tZ:=hid (p9.out.fresh ((M _ w3).alloc (.cells #[.string ⟨en.toArray⟩,.slice Aa lF.length ca,.slice Ab qm.length cb,.string ⟨uh.toArray⟩] 55)));have HR4:=hid (HR3.out.alloc (.cells #[.string ⟨en.toArray⟩,.slice Aa lF.length ca,.slice Ab qm.length cb,.string ⟨uh.toArray⟩] 55));have iB:=hid (af.new w3 55 #[.string ⟨en.toArray⟩,.slice Aa lF.length ca,.slice Ab qm.length cb,.string ⟨uh.toArray⟩]);have Kz:=hid (zh.out.fresh ((M _ w3).alloc (.cells #[.string ⟨en.toArray⟩,.slice Aa lF.length ca,.slice Ab qm.length cb,.string ⟨uh.toArray⟩] 55)));generalize (w3.alloc (.cells #[.string ⟨en.toArray⟩,.slice Aa lF.length ca,.slice Ab qm.length cb,.string ⟨uh.toArray⟩] 55))=W4 at nU tZ HR4 iB Kz⊢;obtain⟨E3,hE3⟩:∃k,k=w3.heap.size:=⟨_,rfl⟩;have hge:w.heap.size<E3:=by have:=HR3.out.lt;omega
 rw[←hE3]at iB⊢;clear HT3 p9 HR3 zh hE3;refine(vW S g c2 l2 _ hS tZ.out).mono ?_;rintro _ w5 ⟨rfl,ht,hx⟩;have iR:=hid hx;have iW:=hid (nU.out.trans ht);have CS:=hid (ht.blk HR4.out fun h=>by omega);have eO:=hid (ht.blk iB.out fun h=>by omega);have afY:=hid (Kz.out.step ht (fun i _ hi=>by show i<w.heap.size+1;omega) fun i _ hi=>hi);clear ht hx tZ nU HR4 iB Kz;generalize decide ((l2.dropWhile white).length<l2.length)=z1;obtain⟨q0,q1,q2,_,_,_,hg5⟩:=fM iR.out.blk;have hle:=iR.out.len;cases hd:l2.dropWhile white with
 |cons b l3=>
  exact Xp.sF jJ.out (by rw[HDK.out,HRR.out];exact aaf hd)
 |nil=>
  have dB:=hid (show kz l=.ok (.mk en lF qm uh) [] c2 by rw[HDK.out,HRR.out];exact acw hd);have iJ:=hid (show Xr S g [] c2 w5 by rw[←hd];exact iR.out);rw[hd]at q1;rw[show S.size-([]:List UInt8).length=S.size from rfl]at q1;have d1:decide ((S.size:Int)<(S.size:Int))=false:=dF (by omega);have jo:decide (S.size<S.size)=false:=dF (by omega);go_wp2
  go_quiet (fail)
  refine bK (fun W=>ag w5 W) ((M _ _).drewN _) ?_;rintro w6 dK;have oh:=hid (iJ.out.fresh dK);have jy:=hid (iW.out.trans (dK.mono fun _ h=>h.elim));have JO:=hid (dK.blk CS.out fun h=>h);have vv:=hid (dK.blk eO.out fun h=>h);have tq:=hid (afY.out.fresh dK);clear dK q0 q1 q2 d1 jo hd iR iW CS eO afY iJ;obtain⟨e0,e1,e2,e3,_,_,_,_,_⟩:=af.four vv.out;obtain⟨_,_,_,_,z0,z1,z2,z3,hlz⟩:=af.four JO.out;obtain⟨t0,t1,t2,t3,_,_,_,_,_⟩:=af.four (JO.out.gH (.string ⟨en.toArray⟩) (.slice Aa lF.length ca) (.slice Ab qm.length cb) (.string ⟨uh.toArray⟩));simp only[aO]at t0 t1 t2 t3;have fA:=(M (fun k=>k=w.heap.size) w6).aO (g:=w.heap.size) (.inl rfl) (.string ⟨en.toArray⟩) (.slice Aa lF.length ca) (.slice Ab qm.length cb) (.string ⟨uh.toArray⟩)
  have ZZ:=hid (show XE S g w (.ok (.mk en lF qm uh) [] c2) (.returned (.agg #[.string ⟨en.toArray⟩,.slice Aa lF.length ca,.slice Ab qm.length cb,.string ⟨uh.toArray⟩])) (aO w6 w.heap.size (.string ⟨en.toArray⟩) (.slice Aa lF.length ca) (.slice Ab qm.length cb) (.string ⟨uh.toArray⟩))from
   ⟨_,_,rfl,jy.out.aO (.inr (Nat.le_refl _)) _ _ _ _,tq.out.step fA (fun i _ hi=>by show i<w.heap.size+1;omega) (fun i _ hi=>by show i<w.heap.size+1;omega),oh.out.move fA (by omega)⟩)
  clear fA;go_wp2
  refine bodyPost_ret (v:=.agg #[.string ⟨en.toArray⟩,.slice Aa lF.length ca,.slice Ab qm.length cb,.string ⟨uh.toArray⟩]) (by simp[results,Tryz.results39,go_sem,t0,t1,t2,t3]) rfl ?_;rw[dB.out];exact ZZ.out
end
end Go.Proofs.YtcgbccfpcgaikaaGreatDoor
