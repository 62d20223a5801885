/- Part 18 of 48 of a proof. No condition. -/
import Derived.Test.YtnbeemkfmlfgfaaGreatDoorTm17
set_option maxRecDepth 100000
set_option maxHeartbeats 8000000
namespace Go.Proofs.YtnbeemkfmlfgfaaGreatDoor
section
open Go.RowKit
open Xp (Rs aX white aL fe aD au fZ jK bH gZ)
open U (E aA)
theorem Al{p:UInt8→Bool}:∀l:List UInt8,l.dropWhile p=[]↔l.all p=true
 |[]=>by simp
 |b::l=>by
  rw[List.dropWhile_cons,List.all_cons];cases h:p b with
  |true=>rw[if_pos rfl,Bool.true_and];exact Al l
  |false=>rw[if_neg (by decide),Bool.false_and];simp
theorem Be(l:List UInt8):(Lib.trimB l 32).isEmpty=l.all (fun b=>b==32):=by
 unfold Lib.trimB Lib.trimLeftB Lib.trimRightB;rw[Bool.eq_iff_iff,List.isEmpty_iff];constructor
 ·intro h
  have h1:=(Al (p:=fun b=>b==32) _).1 h
  have h2:(l.reverse.dropWhile (fun b=>b==32))=[]:=by
   rw[List.all_reverse]at h1;cases hd:l.reverse.dropWhile (fun b=>b==32)with
   |nil=>rfl
   |cons b s=>
    rw[hd,List.all_cons,Bool.and_eq_true]at h1;have h3:=List.takeWhile_append_dropWhile (p:=fun b:UInt8=>b==32) (l:=l.reverse);rw[hd]at h3;have h4:=(Xp.Cv (p:=fun b:UInt8=>b==32) (l.reverse.takeWhile (fun b=>b==32)) b s (by rw[h3];exact hd)).2;rw[h4]at h1;cases h1.1
  have h3:=(Al (p:=fun b:UInt8=>b==32) _).1 h2;rw[List.all_reverse]at h3;exact h3
 ·intro h
  have h3:l.reverse.dropWhile (fun b=>b==32)=[]:=(Al (p:=fun b:UInt8=>b==32) _).2 (by rw[List.all_reverse];exact h);rw[h3];rfl
theorem zF{nm l:List UInt8}{c:Nat}{u:Unit}{l1:List UInt8}{c1:Nat}(h:fe nm c l=.ok u l1 c1):c1=c:=by
 unfold fe at h;cases he:aL 47 c l with
 |bad l2=>rw[he]at h;cases h
 |ok u2 l2 c2=>
  rw[he]at h
  dsimp only at h
  cases hl:Xp.iX c nm l2 with
  |bad l3=>rw[hl]at h;cases h
  |ok u3 l3 c3=>rw[hl]at h;exact rU h
def rC{α:Type}(x:α)(c:Nat):Rs Unit→Rs α
 |.bad l=>.bad l
 |.ok _ l _=>.ok x l c
def abn(nm:List UInt8)(c:Nat):Rs (List UInt8)→Rs (List E×List UInt8)
 |.bad l=>.bad l
 |.ok t l _=>rC ([],t) c (fe nm c (l.drop 1))
def yR(nm ws:List UInt8):Rs (List E)→Rs (List E×List UInt8)
 |.bad l=>.bad l
 |.ok ks l c=>rC (ks,if bH ws&&ks.isEmpty then ws else []) c (fe nm c l)
theorem xM{el:List UInt8→Nat→Rs E}{nm l:List UInt8}{c:Nat}(hd:l.dropWhile white=[]):aD el nm l c=.bad []:=by unfold aD;rw[hd]
theorem Bf{el:List UInt8→Nat→Rs E}{nm l l2:List UInt8}{b:UInt8}{c:Nat}(hd:l.dropWhile white=b::l2)(hb:¬b=60)(hs:bH (l.takeWhile white)=false):aD el nm l c=.bad (b::l2):=by
 unfold aD;rw[hd]
 dsimp only
 rw[if_neg hb,if_pos hs]
theorem zD{el:List UInt8→Nat→Rs E}{nm l l2:List UInt8}{b:UInt8}{c:Nat}(hd:l.dropWhile white=b::l2)(hb:¬b=60)(hs:bH (l.takeWhile white)=true):aD el nm l c=abn nm c (fZ 60 c (l.takeWhile white) (b::l2)):=by
 unfold aD;rw[hd]
 dsimp only
 rw[if_neg hb,if_neg (by rw[hs];decide)];show _=abn nm c (Xp.bY 60 c ((b::l2).length+1) (l.takeWhile white) (b::l2));cases ht:Xp.bY 60 c ((b::l2).length+1) (l.takeWhile white) (b::l2)with
 |bad l3=>rfl
 |ok t l3 c3=>
  show _=rC ([],t) c (fe nm c (l3.drop 1))
  dsimp only
  cases he:fe nm c (l3.drop 1)with
  |bad l4=>rfl
  |ok u l4 c4=>rfl
theorem sM{el:List UInt8→Nat→Rs E}{nm l l2:List UInt8}{b:UInt8}{c:Nat}(hd:l.dropWhile white=b::l2)(hb:b=60):aD el nm l c=yR nm (l.takeWhile white) (jK el [] l2 c):=by
 unfold aD;rw[hd]
 dsimp only
 rw[if_pos hb];show _=yR nm _ (Xp.fG el (l2.length+1) [] l2 c);cases hk:Xp.fG el (l2.length+1) [] l2 c with
 |bad l3=>rfl
 |ok ks l3 c3=>
  show _=rC _ c3 (fe nm c3 l3)
  dsimp only
  cases he:fe nm c3 l3 with
  |bad l4=>rfl
  |ok u l4 c4=>rfl
theorem Eo{el:List UInt8→Nat→Rs E}{ks:List E}{c:Nat}:jK el ks [] c=.bad []:=by unfold jK;rw[Xp.fG]
theorem Ep{el:List UInt8→Nat→Rs E}{ks:List E}{b:UInt8}{l l1:List UInt8}{c:Nat}(hb:¬b=47)(he:el (b::l) c=.bad l1):jK el ks (b::l) c=.bad l1:=by
 unfold jK;rw[Xp.fG,if_neg hb,he]
theorem zG{el:List UInt8→Nat→Rs E}{ks:List E}{b:UInt8}{l l1:List UInt8}{c c1:Nat}{e:E}(hb:¬b=47)(he:el (b::l) c=.ok e l1 c1)(hd:l1.dropWhile white=[]):jK el ks (b::l) c=.bad []:=by
 unfold jK;rw[Xp.fG,if_neg hb,he]
 dsimp only
 rw[hd]
theorem zH{el:List UInt8→Nat→Rs E}{ks:List E}{b b2:UInt8}{l l1 l3:List UInt8}{c c1:Nat}{e:E}(hb:¬b=47)(he:el (b::l) c=.ok e l1 c1)(hd:l1.dropWhile white=b2::l3)(hb2:¬b2=60):jK el ks (b::l) c=.bad (b2::l3):=by
 unfold jK;rw[Xp.fG,if_neg hb,he]
 dsimp only
 rw[hd]
 dsimp only
 rw[if_neg hb2]
theorem uM.stores{B n:Nat}{w8:World}{es:List E}{e:E}{va vk x0 x1 x2 x3:Value}{g8 cap E0:Nat}(h:uM B w8 es e va vk (.slice (some ⟨g8,0,none⟩) (n+1) cap))(hn:es.length=n)(hb:O w8 E0 45 #[x0,x1,x2,x3])(hE:E0<B):
  (∀W,W=(oK w8 g8 (n*4) (.string ⟨e.name.toArray⟩) va vk (.string ⟨e.text.toArray⟩)).setCell ⟨E0,2,none⟩ (.slice (some ⟨g8,0,none⟩) (n+1) cap)→
   O W E0 45 #[x0,x1,.slice (some ⟨g8,0,none⟩) (n+1) cap,x3]∧dO B W (es++[e]) (.slice (some ⟨g8,0,none⟩) (n+1) cap)∧Touch (fun i=>i=g8∨i=E0) w8 W)∧
  (∀W,W=oK (w8.setCell ⟨E0,2,none⟩ (.slice (some ⟨g8,0,none⟩) (n+1) cap)) g8 (n*4) (.string ⟨e.name.toArray⟩) va vk (.string ⟨e.text.toArray⟩)→
   O W E0 45 #[x0,x1,.slice (some ⟨g8,0,none⟩) (n+1) cap,x3]∧dO B W (es++[e]) (.slice (some ⟨g8,0,none⟩) (n+1) cap)∧Touch (fun i=>i=g8∨i=E0) w8 W):=by
 obtain⟨g',cap',hv,_,gJ,_⟩:=h.cells hn;cases hv;have t1:∀(w:World) (v:Value),Touch (fun k=>k=E0) w (w.setCell ⟨E0,2,none⟩ v):=fun w v=>(M (fun k=>k=E0) w).setCell (p:=⟨E0,2,none⟩) (.inl rfl) v
 constructor
 ·rintro W rfl
  have hp:=x8 w8 g8 (n*4) (.string ⟨e.name.toArray⟩) va vk (.string ⟨e.text.toArray⟩);exact⟨(hp.blk hb fun h=>by omega).put 2 _,(h.put hn).mv (t1 _ _) fun k hk _=>by omega,(hp.mono fun i hi=>.inl hi).trans ((t1 _ _).mono fun i hi=>.inr hi)⟩
 ·rintro W rfl
  exact⟨(x8 _ g8 (n*4) _ _ _ _).blk (hb.put 2 _) fun h=>by omega,(h.mv (t1 w8 _) fun k hk _=>by omega).put hn,((t1 w8 _).mono fun i hi=>.inr hi).trans ((x8 _ g8 (n*4) _ _ _ _).mono fun i hi=>.inl hi)⟩
attribute [local go_sem] jg stillUpon
theorem Zl(S:ByteArray)(g n:Nat)(hS:S.size≤1099511627776)(hn:n<64)(hel:Cu S g n)(d:Int)(nm:List UInt8)(va:Value)(E0:Nat)(l:List UInt8)(c:Nat)(w:World)(hd0:d=64-(n:Int))(hnm:nm.length≤S.size)(ni:E0≠g)
  (hB0:O w E0 45 #[.string ⟨nm.toArray⟩,va,.slice none 0 0,.string ⟨#[]⟩]) (hX0:Xr S g l c w) (hsp:bH (l.takeWhile white)=true):
  Calls Tryz.prog 167 #[.pointer (some ⟨g,0,none⟩),.pointer (some ⟨E0,0,none⟩),.int .i64 d] w fun e w'=>XC S g E0 nm va w (aD (au n) nm l c) e w':=by
 have HX:=I hX0;have HB:=I hB0;have pg:=I hel;have ng:=I hnm;have HD0:=I hd0;have VD:=I hB0.lt;have IZ:=I hX0.lt;have hwd:IntKind.i64.wrap (d+1)=d+1:=IntWalk.i64_in _ (by omega);have HD1:=I (show d+1=65-(n:Int) by omega);have NS:=I hwd;obtain⟨q0,q1,q2,_,_,_,_⟩:=fV hX0.blk;obtain⟨ws,hws⟩:∃ws,l.takeWhile white=ws:=⟨_,rfl⟩;have Am:=I hws;rw[hws]at hsp;have hk0:S.size-l.length≤S.size:=by omega
 have Dv:=I hX0.nK;have zZ:=I hX0.len;obtain⟨k0,hkk⟩:∃k,k=S.size-l.length:=⟨_,rfl⟩;have qD:=I hkk;rw[←hkk]at q1;clear hkk hX0 hB0 hel hws hnm hd0 hwd;have nI:=I hsp;have QS:=I (show bH ws=true→ws.length≤200 from fun h=>by unfold bH at h;simp only[Bool.and_eq_true,decide_eq_true_eq]at h;exact h.2);have NT:=I (show ws.length≤200 from QS.J hsp);clear hsp;go_enter Tryz.func167,Tryz.ntmps167;go_wp2_with fail
 refine(lS S g c l w hS HX.J).mono ?_;rintro _ w1 ⟨rfl,ht,hx⟩;have bS:=I hx;have HT1:=I ht;have HB1:=I (ht.blk HB.J fun h=>ni h);clear ht hx HX HB q0 q1 q2;generalize decide ((l.dropWhile white).length<l.length)=z0;obtain⟨q0,q1,q2,_,_,_,_⟩:=fV bS.J.blk
 have qE:=I (show S.extract k0 (S.size-(l.dropWhile white).length)=⟨ws.toArray⟩from by
  have h:=oz (S:=S) (p:=l.takeWhile white) (r:=l.dropWhile white) (by rw[List.takeWhile_append_dropWhile];exact Dv.J);rw[List.takeWhile_append_dropWhile,←qD.J,Am.J]at h;exact h)
 have hdl:(l.dropWhile white).length≤l.length:=(Xp.aX.dropWhile white l).len;have hk1:(k0:Int)≤((S.size-(l.dropWhile white).length:Nat):Int):=by have:=qD.J;have:=zZ.J;omega
 have hk2:((S.size-(l.dropWhile white).length:Nat):Int)≤(S.size:Int):=by omega
 have hk3:(0:Int)≤(k0:Int):=by omega
 have hk4:k0≤S.size-(l.dropWhile white).length:=by omega
 have hk5:S.size-(l.dropWhile white).length≤S.size:=by omega
 generalize S.size-(l.dropWhile white).length=k at*;clear hdl;go_wp2
 go_quiet (fail)
 refine aV (fun W=>ag w1 W) ((M _ _).drewN _) ?_;rintro w2 hf2;have eT:=I (bS.J.fresh hf2);have HT2:=I (HT1.J.trans (hf2.mono fun _ h=>h.elim));have HB2:=I (hf2.blk HB1.J fun h=>h);clear hf2;clear bS HT1 HB1 q0 q1 q2 hk1 hk2 hk3 hk4 hk5;generalize S.extract k0 k=Bs at qE⊢;have hbs:=qE.J;subst hbs;have hwl:(⟨ws.toArray⟩:ByteArray).size=ws.length:=rfl;go_wp2_with fail
 refine(Tryz.strings_Trim_one ⟨ws.toArray⟩ 32 (by decide) w2 (by rw[hwl];have:=NT.J;omega)).mono ?_;rintro _ w4 ⟨rfl,hw4⟩
 have jh:ag w2 w4:=by
  rcases hw4 with rfl|rfl
  ·exact M _ _
  ·exact(M _ _).drewN 1
 have gD:=I (eT.J.fresh jh);have iU:=I (HT2.J.trans (jh.mono fun _ h=>h.elim));have iI:=I (jh.blk HB2.J fun h=>h);clear jh hw4 eT HT2 HB2;have Er:=I (show(Lib.trimB (⟨ws.toArray⟩:ByteArray).data.toList 32).isEmpty=ws.all (fun b=>b==32)from Be ws);generalize Lib.trimB (⟨ws.toArray⟩:ByteArray).data.toList 32=tr at Er⊢
 have htr:tr.isEmpty=true:=by
  rw[Er.J];have h:=nI.J;unfold bH at h;rw[Bool.and_eq_true]at h;exact h.1
 have Ka:decide ((ws.length:Int)≤(200:Int))=true:=dT (by have:=NT.J;omega);have SQ:decide (ws.length≤200)=true:=dT NT.J;go_wp2_with fail
 clear htr Ka SQ Er;cases hd:l.dropWhile white with
 |nil=>
  have aG:=I (show aD (au n) nm l c=.bad []from xM hd);rw[hd]at gD;refine(iZ S g c _ gD.J).mono ?_;rintro _ w9 ⟨rfl,eY⟩;refine⟨rfl,(?_:XC S g E0 nm va w (aD (au n) nm l c) _ _)⟩;rw[aG.J];exact⟨rfl,(iU.J.trans eY).mono fun _ h=>.inl h⟩
 |cons b0 l3=>
  rw[hd]at gD;have HD:=I hd;clear hd
  by_cases hb:b0=60
  rotate_left
  focus
   have hbn:((b0.toNat:Int) !=(60:Int))=true:=jU b0 60 hb;have wC:=I hb;clear hb;refine(bK S g c b0 l3 _ gD.J).mono ?_;rintro _ w5 ⟨rfl,iJ⟩;have dI:=I (gD.J.fresh iJ);have eu:=I (iU.J.trans (iJ.mono fun _ h=>h.elim));have bV:=I (iJ.blk iI.J fun h=>h);clear iJ gD iU iI;have vK:=I (zD (el:=au n) (nm:=nm) (c:=c) HD.J wC.J (by rw[Am.J];exact nI.J));rw[Am.J]at vK;have aiy:ws.length≤200:=QS.J nI.J;have afk:=dI.J.lt;obtain⟨b5,hb5⟩:∃b,b=w5.heap.size:=⟨_,rfl⟩;have hEl:=bV.J.lt;have hgb:g<b5:=by omega
   have hEb:E0<b5:=by omega
   have aiY:w.heap.size≤b5:=by have:=eu.J.size;omega
   obtain⟨A0,n0,cp0,W6,afl,hn0,ads,SS⟩:∃A0 n0 cp0 W6,(convert 9 65 (.string ⟨ws.toArray⟩)).run Tryz.prog w5=.ok (.slice A0 n0 cp0) W6∧ws.length=n0∧lT b5 W6 ws (.slice A0 n0 cp0)∧ag w5 W6:=by
    obtain⟨h1,h2⟩:=lT.conv w5 ⟨ws.toArray⟩ (by show ws.length≤_;omega)
    exact⟨_,_,_,_,Lib.run_convert_string_bytes w5 9 65 5 ⟨ws.toArray⟩ Tryz.underlying9 Tryz.underlying65 Tryz.underlying5,rfl,by rw[hb5];exact h1,h2⟩
   have lG:=I ads;have dB:=I (eu.J.trans (SS.mono fun _ h=>h.elim));have fD:=I (dI.J.fresh SS);have iM:=I (SS.blk bV.J fun h=>h);clear hb5 ads SS dI eu bV afk hEl;go_wp2
   go_loopw [9] (fun v wr=>∃(acc l1:List UInt8) (A:Option Addr) (nn cp:Nat),v=.slice A nn cp∧Hd (acc.length=nn)∧nn≤1000∧Hd (Xp.fZ 60 c ws (b0::l3)=Xp.fZ 60 c acc l1)∧Hd (lT (b5) wr acc (.slice A nn cp))∧Hd (Touch (fun b=>b=g) w wr)∧Hd (Xr S g l1 c wr)∧Hd (O wr E0 45 #[.string ⟨nm.toArray⟩,va,.slice none 0 0,.string ⟨#[]⟩])) (fun _ wr=>S.size-posOf g wr)
   case atStart=>exact⟨ws,b0::l3,A0,n0,cp0,rfl,I hn0,by omega,I rfl,lG,dB,fD,iM⟩
   case round=>
    obtain⟨acc,l1,A,nn,cp,rfl,kr,hn,jM,HG,HT,HX,HB⟩:=hrel;rename_i wr _;have HP:=I (jY HX.J);have hgs:=HX.J.lt;cases l1 with
    |nil=>
     have aG:=I (show aD (au n) nm l c=.bad [] by rw[vK.J,jM.J,Xp.sI];rfl);go_wp2_with fail
     refine(iZ S g c _ HX.J).mono ?_;rintro _ w9 ⟨rfl,eY⟩;refine⟨rfl,(?_:XC S g E0 nm va w (aD (au n) nm l c) _ _)⟩;rw[aG.J];exact⟨rfl,(HT.J.trans eY).mono fun _ h=>.inl h⟩
    |cons b l2=>
     by_cases hb:b=60
     ·have hbn:((b.toNat:Int) !=(60:Int))=false:=jm b 60 hb
      have Ef:=I (show Xp.fZ 60 c ws (b0::l3)=.ok acc (60::l2) c by rw[jM.J,hb];exact Xp.xY 60 c acc l2);have HBQ:=I hb;clear hb;go_wp2_with fail
      refine(bK S g c b l2 _ HX.J).mono ?_;rintro _ w9 ⟨rfl,fE⟩;have jc:=I (HX.J.fresh fE);have bU:=I (HT.J.trans (fE.mono fun _ h=>h.elim));have jN:=I (fE.blk HB.J fun h=>h);have iE:=I (HG.J.fresh fE);have HA:=I (show aD (au n) nm l c=rC ([],acc) c (fe nm c l2) by rw[vK.J,Ef.J];rfl);clear fE;rw[HBQ.J]at jc;have hcv:=iE.J.str kr.J;obtain⟨e0,e1,e2,e3,y0,y1,y2,y3,hlb⟩:=O.four jN.J;obtain⟨q0,q1,q2,f0,f1,f2,hg⟩:=fV jc.J.blk;have hle:=jc.J.len;have hw:IntKind.i64.wrap (((S.size-(60::l2:List UInt8).length:Nat):Int)+1)=((S.size-(60::l2:List UInt8).length:Nat):Int)+1:=IntWalk.i64_in _ (by omega);have lH:=I (show O (w9.setCell ⟨E0,3,none⟩ (.string ⟨acc.toArray⟩)) E0 45 #[.string ⟨nm.toArray⟩,va,.slice none 0 0,.string ⟨acc.toArray⟩]from jN.J.put 3 _);have gq:=I ((bU.J.mono fun i (h:i=g)=>show i=g∨i=E0 from .inl h).setCell (p:=⟨E0,3,none⟩) (.inl (.inr rfl)) (.string ⟨acc.toArray⟩));have lC:=I (jc.J.move ((M (fun k=>k=E0) w9).setCell (p:=⟨E0,3,none⟩) (.inl rfl) (.string ⟨acc.toArray⟩)) (by omega));have BJ:=I lC.J.qh;have VE:=I (lH.J.far (p:=⟨g,1,none⟩) (by show E0≠g;omega) (.int .i64 (((S.size-(60::l2:List UInt8).length:Nat):Int)+1)));have Ah:=I (gq.J.setCell (p:=⟨g,1,none⟩) (.inl (.inl rfl)) (.int .i64 (((S.size-(60::l2:List UInt8).length:Nat):Int)+1)));generalize S.size-(60::l2:List UInt8).length=k at*;have hne1:E0≠g:=ni;have hne2:g≠E0:=fun h=>ni h.symm
      have Gh:=I (show acc.length≤1000 by have:=kr.J;omega);clear afl iE HG jM Ef;go_wp2_with fail
      generalize World.setCell _ ⟨g,1,none⟩ _=W9 at BJ VE Ah⊢;clear e0 e1 e2 e3 y0 y1 y2 y3 hlb q0 q1 q2 f0 f1 f2 hg hle hw lH gq lC jN jc bU hcv hne1 hne2;have wD:=I (show Calls Tryz.prog 202 #[.pointer (some ⟨g,0,none⟩),.string ⟨nm.toArray⟩] W9 fun e w'=>XU S g W9 (fe nm c l2) e w' from zz S ⟨nm.toArray⟩ g c l2 W9 hS (by have:=ng.J;show nm.length≤_;omega) BJ.J);refine wD.J.mono ?_;intro e qm he;cases hr:fe nm c l2 with
      |bad l9=>
       have aG:=I (show aD (au n) nm l c=.bad l9 by rw[HA.J,hr];rfl);rw[hr]at he;obtain⟨rfl,ht⟩:=he;refine⟨rfl,(?_:XC S g E0 nm va w (aD (au n) nm l c) _ _)⟩;rw[aG.J];exact⟨rfl,Ah.J.trans (ht.mono fun _ h=>.inl h)⟩
      |ok u l9 c9=>
       have Ap:=zF hr;rw[Ap]at hr;clear Ap;have aG:=I (show aD (au n) nm l c=.ok ([],acc) l9 c by rw[HA.J,hr];rfl);rw[hr]at he;obtain⟨rfl,ht,hx⟩:=he;have ji:=I hx;have pz:=I (ht.blk VE.J fun h=>by omega);have mq:=I (Ah.J.trans (ht.mono fun _ h=>.inl h));have Cy:=I (show aZ (fun k=>k<w.heap.size) qm fun W=>dL W [] (.slice none 0 0)from fun _ _=>dL.nil none 0);clear ht hx hr wD;go_wp2
       refine bodyPost_end (v:=.tuple #[]) (results_none rfl _ _ _) rfl ?_;rw[aG.J];exact⟨rfl,_,_,_,pz.J,(by have:=Gh.J;simp only[maxLen];show acc.length≤_;omega),Cy.J,mq.J,ji.J⟩
     ·have hbn:((b.toNat:Int) !=(60:Int))=true:=jU b 60 hb
      cases hr:gZ nn c (b::l2)with
      |bad l7=>
       have aG:=I (show aD (au n) nm l c=.bad l7 by rw[vK.J,jM.J,Xp.Ag hb (by rw[kr.J];exact hr)];rfl);clear hb;go_wp2_with fail
       refine(bK S g c b l2 _ HX.J).mono ?_;rintro _ w9 ⟨rfl,fE⟩;have jc:=I (HX.J.fresh fE);have bU:=I (HT.J.trans (fE.mono fun _ h=>h.elim));clear fE;go_wp2_with fail
       refine(Af S g c nn (b::l2) _ hS (by omega) jc.J).mono ?_;intro e w3 he;rw[hr]at he;obtain⟨rfl,ht⟩:=he;refine⟨rfl,(?_:XC S g E0 nm va w (aD (au n) nm l c) _ _)⟩;rw[aG.J];exact⟨rfl,(bU.J.trans ht).mono fun _ h=>.inl h⟩
      |ok x l7 c7=>
       have IK:=I (show Xp.fZ 60 c ws (b0::l3)=Xp.fZ 60 c (acc++[x]) l7 by rw[jM.J];exact Xp.wm hb (by rw[kr.J];exact hr));have hn2:=Xp.BH hr;have hlt:=Xp.xA hr;have hc7:=Xp.KS hr;subst hc7;have HRR:=I hr;have yH:=I hlt;clear hb hr hlt;go_wp2_with fail
       refine(bK S g c7 b l2 _ HX.J).mono ?_;rintro _ w9 ⟨rfl,fE⟩;have jc:=I (HX.J.fresh fE);have bU:=I (HT.J.trans (fE.mono fun _ h=>h.elim));have iE:=I (HG.J.fresh fE);have jN:=I (fE.blk HB.J fun h=>h);clear fE;go_wp2_with fail
       refine(Af S g c7 nn (b::l2) _ hS (by omega) jc.J).mono ?_;intro e w3 he;rw[HRR.J]at he;obtain⟨rfl,ht,hx⟩:=he;have iP:=I (hx.fresh ((M _ w3).alloc (.cells #[.int .u8 (x.toNat:Int)] 5)));have HT3:=I ((bU.J.trans ht).alloc (.cells #[.int .u8 (x.toNat:Int)] 5));have Vu:=I ((iE.J.mv ht fun k hk _=>by omega).fresh ((M _ w3).alloc (.cells #[.int .u8 (x.toNat:Int)] 5)));have dX:=I (O.new w3 5 #[.int .u8 (x.toNat:Int)]);have HB3:=I ((ht.blk jN.J fun h=>by omega).alloc (.cells #[.int .u8 (x.toNat:Int)] 5));clear ht hx
       go_wp2_with (at_builtin;go_loud (refine wpList_append_byte rfl (.tmp 46) (.tmp 51) rfl Vu.J kr.J (by simp[Act.eval]) x dX.J (by simp[Act.eval]) (by omega) ?_);intro A8 c8 w8 gJ bW;refine iC.mk ?_)
       have HOW:=I Vu.J.jE;have qM:=I (iP.J.move bW fun h=>by have:=(HOW.J _ h).1;omega);have oC:=I (show Touch (fun b=>b=g) w w8 from HT3.J.trans' bW fun k hk=>.inr (by have:=(HOW.J _ hk).1;omega));have nT:=I gJ;have mE:=I (bW.blk HB3.J fun h=>by have:=(HOW.J _ h).1;omega);have HM:=I (jY qM.J);clear gJ bW;refine iC.go ?_;go_wp2
       go_roundw
       case rel=>exact⟨acc++[x],l7,A8,nn+1,c8,rfl,I (by rw[List.length_append,kr.J];rfl),by omega,IK,nT,oC,qM,mE⟩
       case measure=>
        rw[HM.J,HP.J];have h1:=HX.J.len;have h2:=yH.J;rw[List.length_cons]at*;omega
  have hbn:((b0.toNat:Int) !=(60:Int))=false:=jm b0 60 hb;have wC:=I hb;clear hb;refine(bK S g c b0 l3 _ gD.J).mono ?_;rintro _ w5 ⟨rfl,iJ⟩;have dI:=I (gD.J.fresh iJ);have eu:=I (iU.J.trans (iJ.mono fun _ h=>h.elim));have bV:=I (iJ.blk iI.J fun h=>h);clear iJ gD iU iI;have Aq:=I (sM (el:=au n) (nm:=nm) (c:=c) HD.J wC.J);rw[Am.J]at Aq;have hEl:=bV.J.lt;have Es:=VD.J;have hls:=dI.J.len;rw[List.length_cons]at hls;rw[wC.J]at dI;have dB:=I (eu.J.mono fun i (h:i=g)=>show i=g∨i=E0 from .inl h);have lG:=I (show dO w.heap.size w5 [] (.slice none 0 0)from dO.nil eu.J.size);clear eu hEl;go_wp2
  go_loopw [] (fun wr=>∃(ks:List E) (l1:List UInt8) (A:Option Addr) (nk cp c1:Nat),Hd (ks.length=nk)∧nk+l1.length≤S.size∧Hd (aD (au n) nm l c=yR nm ws (jK (au n) ks l1 c1))∧Hd (O wr E0 45 #[.string ⟨nm.toArray⟩,va,.slice A nk cp,.string ⟨#[]⟩])∧Hd (dO w.heap.size wr ks (.slice A nk cp))∧Hd (Touch (fun b=>b=g∨b=E0) w wr)∧Hd (Xr S g (60::l1) c1 wr)) (fun wr=>S.size-posOf g wr)
  case atStart=>exact⟨[],l3,none,0,0,c,I rfl,by omega,Aq,bV,lG,dB,dI⟩
  case round=>
   clear dI dB bV lG Aq hls;obtain⟨ks,l1,A,nk,cp,c1,qO,hnk,ja,HB,HG,HT,HX⟩:=hrel;rename_i wr _;have HP:=I (jY HX.J);have hEl:=HB.J.lt;have hgs:=HX.J.lt;obtain⟨q0,q1,q2,f0,f1,f2,hg⟩:=fV HX.J.blk;have hle:=HX.J.len;have hw:IntKind.i64.wrap (((S.size-(60::l1:List UInt8).length:Nat):Int)+1)=((S.size-(60::l1:List UInt8).length:Nat):Int)+1:=IntWalk.i64_in _ (by omega);have lC:=I HX.J.qh;have gq:=I (HT.J.setCell (p:=⟨g,1,none⟩) (.inl (.inl rfl)) (.int .i64 (((S.size-(60::l1:List UInt8).length:Nat):Int)+1)));have lH:=I (HB.J.far (p:=⟨g,1,none⟩) (by show E0≠g;exact ni) (.int .i64 (((S.size-(60::l1:List UInt8).length:Nat):Int)+1)));have nu:=I (HG.J.mv ((M (fun b=>b=g) wr).setCell (p:=⟨g,1,none⟩) (.inl rfl) (.int .i64 (((S.size-(60::l1:List UInt8).length:Nat):Int)+1))) fun k hk _=>by omega);have uw:=I hle;generalize hkk:S.size-(60::l1:List UInt8).length=k at q1 hw lC gq lH nu;have HKK:=I hkk;clear hkk;go_wp2_with fail
   generalize (wr.setCell ⟨g,1,none⟩ (.int .i64 ((k:Int)+1)))=wB at lC gq lH nu⊢;have HXB:=lC;have vN:=gq;have fT:=lH;have yI:=nu;clear q0 q1 q2 f0 f1 f2 hg hle hw lC gq lH nu HX HT HB HG hEl hgs;have hEl:=fT.J.lt;have hgs:=HXB.J.lt;cases l1 with
   |nil=>
    have aG:=I (show aD (au n) nm l c=.bad [] by rw[ja.J,Eo];rfl);refine(iZ S g c1 _ HXB.J).mono ?_;rintro _ w9 ⟨rfl,eY⟩;refine⟨rfl,(?_:XC S g E0 nm va w (aD (au n) nm l c) _ _)⟩;rw[aG.J];exact⟨rfl,vN.J.trans (eY.mono fun _ h=>.inl h)⟩
   |cons b l2=>
   by_cases hb:b=47
   ·have hbn:((b.toNat:Int)==(47:Int))=true:=by rw[hb];rfl
    have Et:=I hb;clear hb;refine(bK S g c1 b l2 _ HXB.J).mono ?_;rintro _ w9 ⟨rfl,fE⟩;have jc:=I (HXB.J.fresh fE);have bU:=I (vN.J.trans (fE.mono fun _ h=>h.elim));have jN:=I (fE.blk fT.J fun h=>h);have iE:=I (yI.J.fresh fE);have Bg:=I (show jK (au n) ks (b::l2) c1=.ok ks (47::l2) c1 by rw[Et.J];exact Xp.x9 _ _ _ _);rw[Et.J]at jc;clear fE HXB vN fT yI;obtain⟨e0,e1,e2,e3,y0,y1,y2,y3,hlb⟩:=O.four jN.J
    by_cases hk0:nk=0
    ·have d0:((nk:Int)==(0:Int))=true:=by rw[hk0];rfl
     have yc:=I (show ks=[]from List.length_eq_zero_iff.1 (by rw[qO.J];exact hk0));have HA:=I (show aD (au n) nm l c=rC (ks,ws) c1 (fe nm c1 (47::l2)) by rw[ja.J,Bg.J];show rC (ks,if bH ws&&ks.isEmpty then ws else []) c1 _=_;rw[nI.J,yc.J];rfl);have NU:=I (QS.J nI.J);have VE:=I (show O (w9.setCell ⟨E0,3,none⟩ (.string ⟨ws.toArray⟩)) E0 45 #[.string ⟨nm.toArray⟩,va,.slice A nk cp,.string ⟨ws.toArray⟩]from jN.J.put 3 _);have Ah:=I (bU.J.setCell (p:=⟨E0,3,none⟩) (.inl (.inr rfl)) (.string ⟨ws.toArray⟩));have BJ:=I (jc.J.move ((M (fun k=>k=E0) w9).setCell (p:=⟨E0,3,none⟩) (.inl rfl) (.string ⟨ws.toArray⟩)) (by omega));have HGF:=I (iE.J.mv ((M (fun k=>k=E0) w9).setCell (p:=⟨E0,3,none⟩) (.inl rfl) (.string ⟨ws.toArray⟩)) (fun k hk _=>by omega));clear ja Bg hk0;go_wp2_with fail
     generalize (w9.setCell ⟨E0,3,none⟩ (.string ⟨ws.toArray⟩))=W9 at BJ VE Ah HGF⊢;clear e0 e1 e2 e3 y0 y1 y2 y3 hlb jc bU jN iE d0;have wD:=I (show Calls Tryz.prog 202 #[.pointer (some ⟨g,0,none⟩),.string ⟨nm.toArray⟩] W9 fun e w'=>XU S g W9 (fe nm c1 (47::l2)) e w' from zz S ⟨nm.toArray⟩ g c1 (47::l2) W9 hS (by have:=ng.J;show nm.length≤_;omega) BJ.J);refine wD.J.mono ?_;intro e qm he;cases hr:fe nm c1 (47::l2)with
     |bad l9=>
      have aG:=I (show aD (au n) nm l c=.bad l9 by rw[HA.J,hr];rfl);rw[hr]at he;obtain⟨rfl,ht⟩:=he;refine⟨rfl,(?_:XC S g E0 nm va w (aD (au n) nm l c) _ _)⟩;rw[aG.J];exact⟨rfl,Ah.J.trans (ht.mono fun _ h=>.inl h)⟩
     |ok u l9 c9=>
      have Ap:=zF hr;rw[Ap]at hr;clear Ap;have aG:=I (show aD (au n) nm l c=.ok (ks,ws) l9 c1 by rw[HA.J,hr];rfl);rw[hr]at he;obtain⟨rfl,ht,hx⟩:=he;have ji:=I hx;have pz:=I (ht.blk VE.J fun h=>by omega);have mq:=I (Ah.J.trans (ht.mono fun _ h=>.inl h));have Cy:=I ((HGF.J.mv ht fun k hk _=>by omega).done);clear ht hx hr wD;go_wp2
      refine bodyPost_end (v:=.tuple #[]) (results_none rfl _ _ _) rfl ?_;rw[aG.J];exact⟨rfl,_,_,_,pz.J,(by have:=NU.J;simp only[maxLen];show ws.length≤_;omega),Cy.J,mq.J,ji.J⟩
    ·have d0:((nk:Int)==(0:Int))=false:=by rw[beq_eq_false_iff_ne];omega
     have yc:=I (show ks.isEmpty=false by
      cases hks:ks with
      |nil=>have:=qO.J;rw[hks]at this;exact absurd this.symm hk0
      |cons x xs=>rfl)
     clear hk0;have HA:=I (show aD (au n) nm l c=rC (ks,[]) c1 (fe nm c1 (47::l2)) by rw[ja.J,Bg.J];show rC (ks,if bH ws&&ks.isEmpty then ws else []) c1 _=_;rw[yc.J,Bool.and_false];rfl);have kK:=I bU.J;clear ja Bg;go_wp2_with fail
     clear e0 e1 e2 e3 y0 y1 y2 y3 hlb;have wD:=I (show Calls Tryz.prog 202 #[.pointer (some ⟨g,0,none⟩),.string ⟨nm.toArray⟩] w9 fun e w'=>XU S g w9 (fe nm c1 (47::l2)) e w' from zz S ⟨nm.toArray⟩ g c1 (47::l2) w9 hS (by have:=ng.J;show nm.length≤_;omega) jc.J);refine wD.J.mono ?_;intro e qm he;cases hr:fe nm c1 (47::l2)with
     |bad l9=>
      have aG:=I (show aD (au n) nm l c=.bad l9 by rw[HA.J,hr];rfl);rw[hr]at he;obtain⟨rfl,ht⟩:=he;refine⟨rfl,(?_:XC S g E0 nm va w (aD (au n) nm l c) _ _)⟩;rw[aG.J];exact⟨rfl,kK.J.trans (ht.mono fun _ h=>.inl h)⟩
     |ok u l9 c9=>
      have Ap:=zF hr;rw[Ap]at hr;clear Ap;have aG:=I (show aD (au n) nm l c=.ok (ks,[]) l9 c1 by rw[HA.J,hr];rfl);rw[hr]at he;obtain⟨rfl,ht,hx⟩:=he;have ji:=I hx;have pz:=I (ht.blk jN.J fun h=>by omega);have mq:=I (kK.J.trans (ht.mono fun _ h=>.inl h));have Cy:=I ((iE.J.mv ht fun k hk _=>by omega).done);clear ht hx hr wD;go_wp2
      refine bodyPost_end (v:=.tuple #[]) (results_none rfl _ _ _) rfl ?_;rw[aG.J];exact⟨rfl,_,_,_,pz.J,(Nat.zero_le _),Cy.J,mq.J,ji.J⟩
   ·have hbn:((b.toNat:Int)==(47:Int))=false:=by rw[show((b.toNat:Int)==(47:Int))=(b==47)from xX b 47,beq_eq_false_iff_ne];exact hb
    have wE:=I hb;clear hb;refine(bK S g c1 b l2 _ HXB.J).mono ?_;rintro _ w6 ⟨rfl,fE⟩;have fD:=I (HXB.J.fresh fE);have dB:=I (vN.J.trans (fE.mono fun _ h=>h.elim));have iM:=I (fE.blk fT.J fun h=>h);have lG:=I (yI.J.fresh fE);clear fE HXB vN fT yI;have Zm:=iM.J.lt;have Zn:=fD.J.lt;obtain⟨e0,e1,e2,e3,y0,y1,y2,y3,hlb⟩:=O.four iM.J;go_wp2_with fail
    have k1:=cT (S:=fun k=>k=g) e2 ni;clear e0 e1 e2 e3 y0 y1 y2 y3 hlb hbn;have hwd:=NS.J;cases hr:au n (b::l2) c1 with
    |bad l9=>
     have HRR:=I hr;clear hr
     refine fu (fun W=>∃x:Turned (fun k=>k=g) w6,W=x.W) (bq.of [(0,true),(1,true),(2,true),(3,true),(4,true),(5,true),(6,true),(8,true)] (.fork 7 (.lone 9 .nil) 9 (.lone 7 .nil))) [0,1,2,3,4,5,6,7,8,9] 10 (Array.replicate 10 true++Array.replicate 6 false) (fun _=>True)
      (bq.of [(11,true),(13,true),(14,true)] (.fork 12 (.lone 15 .nil) 15 (.lone 12 .nil))) [11,12,13,14,15] (Array.replicate 16 true) (by kernel_rfl) (fun _ _ d _ _ h=>by cases d<;>exact h) (by kernel_rfl) ⟨⟨_,(M _ _).drewN 1⟩,rfl⟩ ?_
     unfold bq.of
     repeat(refine aS rfl (fun K hK=>?_);go_simp;refine hK _ ?_;clear hK K;first|done|unfold bq.of)
     clear k1;have aG:=I (show aD (au n) nm l c=.bad l9 by rw[ja.J,Ep wE.J HRR.J];rfl);refine fB ?_ ?_
     focus
      refine ax rfl (fun K hK=>?_);go_wp2_with fail
      refine(pg.J (d+1) (b::l2) c1 _ HD1.J (fD.J.fresh ((M _ _).drewN 1))).mono ?_;intro e w7 he;rw[HRR.J]at he;obtain⟨rfl,ht⟩:=he;refine⟨rfl,(?_:XC S g E0 nm va w (aD (au n) nm l c) _ _)⟩;rw[aG.J];exact⟨rfl,dB.J.trans ((((M (fun b=>b=g) w6).drewN 1).trans ht).mono fun _ h=>.inl h)⟩
     focus
      refine ax rfl (fun K hK=>?_);go_wp2
      refine hK _ _ ⟨⟨_,((M _ w6).drewN 1).alloc _⟩,rfl⟩ ?_;clear hK K;refine ax rfl (fun K hK=>?_);go_wp2_with fail
      refine(pg.J (d+1) (b::l2) c1 _ HD1.J (fD.J.fresh (((M _ _).drewN 1).alloc _))).mono ?_;intro e w7 he;rw[HRR.J]at he;obtain⟨rfl,ht⟩:=he;refine⟨rfl,(?_:XC S g E0 nm va w (aD (au n) nm l c) _ _)⟩;rw[aG.J];exact⟨rfl,dB.J.trans (((((M (fun b=>b=g) w6).drewN 1).alloc _).trans ht).mono fun _ h=>.inl h)⟩
    |ok e1 l7 c7=>
     obtain⟨en,dZ,iw,jA⟩:=e1;have HRR:=I hr;clear hr
     refine fu (fun W=>∃x:Turned (fun k=>k=g) w6,W=x.W) (bq.of [(0,true),(1,true),(2,true),(3,true),(4,true),(5,true),(6,true),(8,true)] (.fork 7 (.lone 9 .nil) 9 (.lone 7 .nil))) [0,1,2,3,4,5,6,7,8,9] 10 (Array.replicate 10 true++Array.replicate 6 false) (fun _=>True)
      (bq.of [(11,true),(13,true),(14,true)] (.fork 12 (.lone 15 .nil) 15 (.lone 12 .nil))) [11,12,13,14,15] (Array.replicate 16 true) (by kernel_rfl) (fun _ _ d _ _ h=>by cases d<;>exact h) (by kernel_rfl) ⟨⟨_,(M _ _).drewN 1⟩,rfl⟩ ?_
     unfold bq.of
     repeat(refine aS rfl (fun K hK=>?_);go_simp;refine hK _ ?_;clear hK K;first|done|unfold bq.of)
     clear k1;refine fB ?_ ?_
     focus
      refine ax rfl (fun K hK=>?_);go_wp2_with fail
      refine(pg.J (d+1) (b::l2) c1 _ HD1.J (fD.J.fresh ((M _ _).drewN 1))).mono ?_;intro e w7 he;rw[HRR.J]at he;obtain⟨ea,ek,rfl,ht,hst,hx⟩:=he;obtain⟨Aa,ca,oF⟩:=hst.now.1.slice;obtain⟨Ab,cb,eB⟩:=hst.now.2.1.slice;simp only[E.kids,E.attrs]at oF eB;subst oF eB;unfold ev;simp only[E.name,E.text];have dS:=I (show Touch (fun k=>k=g) w6 w7 from((M _ w6).drewN 1).trans ht);have jR:=I (show aZ (fun k=>k<w6.heap.size) w7 fun W=>bN W (.mk en dZ iw jA) (.slice Aa dZ.length ca) (.slice Ab iw.length cb)from hst);have jV:=I hx;clear ht hst hx;go_wp2
      refine hK _ _ ⟨⟨_,dS.J⟩,rfl⟩ ?_;clear hK K;refine ax rfl (fun K hK=>?_);go_wp2
      refine hK _ _ ⟨⟨_,dS.J.alloc _⟩,rfl⟩ ?_;clear hK K;have dX:=I (O.new w7 45 Z);have gq:=I (dS.J.alloc (.cells Z 45));have lC:=I (jV.J.fresh ((M _ w7).alloc (.cells Z 45)));have mI:=I (jR.J.fresh ((M _ w7).alloc (.cells Z 45)));generalize (w7.alloc (.cells Z 45))=wA at dX gq lC mI⊢;obtain⟨bz,hbz⟩:∃b,b=w7.heap.size:=⟨_,rfl⟩;rw[←hbz]at dX⊢;clear hbz dS jR jV
     rotate_left
     focus
      refine ax rfl (fun K hK=>?_);go_wp2
      refine hK _ _ ⟨⟨_,((M _ w6).drewN 1).alloc _⟩,rfl⟩ ?_;clear hK K;have vv:=I (show O ((w6.drewN 1).alloc (.cells Z 45)) w6.heap.size 45 Z from O.new (w6.drewN 1) 45 Z);have eZ:=I (show ag w6 ((w6.drewN 1).alloc (.cells Z 45))from((M _ w6).drewN 1).alloc _);have dS:=I (show Touch (fun k=>k=g) w6 ((w6.drewN 1).alloc (.cells Z 45))from((M _ w6).drewN 1).alloc _);generalize ((w6.drewN 1).alloc (.cells Z 45))=w7 at vv eZ dS⊢;obtain⟨bz,hbz⟩:∃b,b=w6.heap.size:=⟨_,rfl⟩;have yf:=I (show w6.heap.size≠g by omega);refine ax rfl (fun K hK=>?_);go_wp2_with fail
      refine(pg.J (d+1) (b::l2) c1 _ HD1.J (fD.J.fresh eZ.J)).mono ?_;intro e wA he;rw[HRR.J]at he;obtain⟨ea,ek,rfl,ht,hst,hx⟩:=he;obtain⟨Aa,ca,oF⟩:=hst.now.1.slice;obtain⟨Ab,cb,eB⟩:=hst.now.2.1.slice;simp only[E.kids,E.attrs]at oF eB;subst oF eB;unfold ev;simp only[E.name,E.text];have gq:=I (show Touch (fun k=>k=g) w6 wA from dS.J.trans ht);have mI:=I (show aZ (fun k=>k<w6.heap.size) wA fun W=>bN W (.mk en dZ iw jA) (.slice Aa dZ.length ca) (.slice Ab iw.length cb)from hst.mono fun i _ hi=>Nat.lt_of_lt_of_le hi eZ.J.size);have lC:=I hx;have dX:=I (ht.blk vv.J yf.J);clear ht hst hx;go_wp2
      refine hK _ _ ⟨⟨_,gq.J⟩,rfl⟩ ?_;clear hK K;rw[←hbz]at dX⊢;clear hbz dS vv eZ yf
     all_goals
      have nu:=I (lG.J.mv gq.J fun k hk _=>by omega);have HOW:=I lG.J.jE;have lH:=I (gq.J.blk iM.J fun h=>ni h);have uO:=I dB.J.size
      have Eu:nk<2^40:=by
       have h:=hnk;rw[List.length_cons]at h;omega
      have Cz:=I Eu;clear Eu;refine iY rfl (fun K hK=>?_)
      go_wp2_with (at_builtin;go_loud (refine o8 rfl (.tmp 84) (.tmp 90) rfl nu.J qO.J (by simp[Act.eval]) (.mk en dZ iw jA) dX.J (by simp[Act.eval]) w6.heap.size uO.J (fun k hk=>(HOW.J k hk).2) mI.J Cz.J ?_);intro A8 c8 w8 gJ bW;refine iC.mk ?_)
      obtain⟨g8,Kc,BK,FH,Ke,Kg,a0,a1,a2,a3,f0,f1,f2,f3⟩:=gJ.cells qO.J;cases BK;have xg:=bW.blk lH.J fun h=>by have:=(HOW.J _ h).1;omega
      have qM:=I (lC.J.move bW fun h=>by have:=(HOW.J _ h).1;omega);have oC:=I (show Touch (fun i=>i=g∨i=E0) w w8 from(dB.J.trans (gq.J.mono fun i hi=>.inl hi)).trans' bW fun k hk=>.inr (by have:=(HOW.J _ hk).1;omega));have HST:=I (gJ.stores qO.J xg Es);obtain⟨_,_,q3,_,_,_,z3,_,wo⟩:=O.four xg;have hne:E0≠g8:=by omega
      have hne':g8≠E0:=by omega
      have hr1:(nk:Int)<(nk:Int)+1:=by omega
      clear bW xg gJ;refine iC.go ?_;go_wp2
      refine hK _ _ trivial ?_;clear hK K
      repeat(refine aS rfl (fun K hK=>?_);go_simp;refine hK _ ?_;clear hK K)
      refine fB ?_ ?_
      focus
       refine ax rfl (fun K hK=>?_);go_wp2
       refine hK _ _ trivial ?_;clear hK K;refine ax rfl (fun K hK=>?_);go_wp2
       refine hK _ _ trivial ?_;clear hK K;have bU:=I (HST.J.1 _ rfl);unfold oK at bU;simp only[E.name,E.text]at bU;clear a0 a1 a2 a3 f0 f1 f2 f3 q3 z3 HST;generalize World.setCell _ ⟨E0,2,none⟩ _=W9 at bU⊢
      rotate_left
      focus
       refine ax rfl (fun K hK=>?_);go_wp2
       refine hK _ _ trivial ?_;clear hK K;refine ax rfl (fun K hK=>?_);go_wp2
       refine hK _ _ trivial ?_;clear hK K;have bU:=I (HST.J.2 _ rfl);unfold oK at bU;simp only[E.name,E.text]at bU;clear a0 a1 a2 a3 f0 f1 f2 f3 q3 z3 HST;generalize World.setCell _ ⟨g8,nk*4+3,none⟩ _=W9 at bU⊢
      all_goals
       refine jJ ?_;obtain⟨qG,fO,eY⟩:=bU.J;have jN:=I qG;have iE:=I fO;have jc:=I (qM.J.move eY (by omega));have zI:=I (show Touch (fun i=>i=g∨i=E0) w W9 from oC.J.trans' eY fun i hi=>hi.elim (fun h=>.inr (by omega)) fun h=>.inl (.inr h));clear qG fO eY bU;go_wp2_with fail
       refine(lS S g c7 l7 _ hS jc.J).mono ?_;rintro _ qm ⟨rfl,ht,hx⟩;have mq:=I (zI.J.trans (ht.mono fun _ h=>.inl h));have pz:=I (ht.blk jN.J fun h=>ni h);have yA:=I (iE.J.mv ht fun k hk _=>by omega);clear ht jN iE jc zI;generalize decide ((l7.dropWhile white).length<l7.length)=z9;cases hd7:l7.dropWhile white with
       |nil=>
        have aG:=I (show aD (au n) nm l c=.bad [] by rw[ja.J,zG wE.J HRR.J hd7];rfl);rw[hd7]at hx;have ji:=I hx;clear hx hd7;go_wp2_with fail
        refine(iZ S g c7 _ ji.J).mono ?_;rintro _ rO ⟨rfl,NV⟩;refine⟨rfl,(?_:XC S g E0 nm va w (aD (au n) nm l c) _ _)⟩;rw[aG.J];exact⟨rfl,mq.J.trans (NV.mono fun _ h=>.inl h)⟩
       |cons b7 l8=>
        rw[hd7]at hx;have ji:=I hx;have Ev:=I (show(b7::l8).length≤l7.length by rw[←hd7];exact(Xp.aX.dropWhile white l7).len)
        by_cases pR:b7=60
        ·have NW:((b7.toNat:Int) !=(60:Int))=false:=jm b7 60 pR
         have vg:=I (show aD (au n) nm l c=yR nm ws (jK (au n) (ks++[.mk en dZ iw jA]) l8 c7) by rw[ja.J,Xp.yP (fun l c=>Xp.jQ n l c) wE.J HRR.J (by rw[hd7,pR])]);rw[pR]at ji;have ql:=I pR;clear hx hd7 pR;go_wp2_with fail
         refine(bK S g c7 b7 l8 _ (by rw[ql.J];exact ji.J)).mono ?_;rintro _ rO ⟨rfl,lV⟩;have sN:=I (ji.J.fresh lV);have wF:=I (mq.J.trans (lV.mono fun _ h=>h.elim));have Ew:=I (lV.blk pz.J fun h=>h);have Ex:=I (yA.J.fresh lV);have HM:=I (jY sN.J);have mK:=I (Xp.jQ n (b::l2) c1).len;rw[HRR.J]at mK;clear lV;go_wp2
         go_roundw
         case rel=>
          refine⟨ks++[.mk en dZ iw jA],l8,some ⟨g8,0,none⟩,nk+1,c8,c7,I (by rw[List.length_append,qO.J];rfl),?_,vg,Ew,Ex,wF,sN⟩;have h1:=Ev.J;have h2:l7.length≤(b::l2).length:=mK.J;rw[List.length_cons]at h1 h2 hnk;omega
         case measure=>
          rw[HM.J,HP.J];have h0:=uw.J;have h1:=Ev.J;have h2:l7.length≤(b::l2).length:=mK.J;simp only[List.length_cons]at h0 h1 h2⊢;omega
        ·have NW:((b7.toNat:Int) !=(60:Int))=true:=jU b7 60 pR
         have aG:=I (show aD (au n) nm l c=.bad (b7::l8) by rw[ja.J,zH wE.J HRR.J hd7 pR];rfl);clear hx hd7 pR;go_wp2_with fail
         refine(bK S g c7 b7 l8 _ ji.J).mono ?_;rintro _ rO ⟨rfl,lV⟩;have sN:=I (ji.J.fresh lV);have wF:=I (mq.J.trans (lV.mono fun _ h=>h.elim));clear lV;go_wp2_with fail
         refine(iq S g (b7::l8) c7 _ sN.J).mono ?_;rintro _ xh ⟨rfl,rfl⟩;refine⟨rfl,(?_:XC S g E0 nm va w (aD (au n) nm l c) _ _)⟩;rw[aG.J];exact⟨rfl,wF.J⟩
theorem Zo(S:ByteArray)(g n:Nat)(hS:S.size≤1099511627776)(hn:n<64)(hel:Cu S g n)(d:Int)(nm:List UInt8)(va:Value)(E0:Nat)(l:List UInt8)(c:Nat)(w:World)(hd0:d=64-(n:Int))(hnm:nm.length≤S.size)(ni:E0≠g)
  (hB0:O w E0 45 #[.string ⟨nm.toArray⟩,va,.slice none 0 0,.string ⟨#[]⟩]) (hX0:Xr S g l c w) (hsp:bH (l.takeWhile white)=false) (hz:(l.takeWhile white).all (fun b=>b==32)=false):
  Calls Tryz.prog 167 #[.pointer (some ⟨g,0,none⟩),.pointer (some ⟨E0,0,none⟩),.int .i64 d] w fun e w'=>XC S g E0 nm va w (aD (au n) nm l c) e w':=by
 have HX:=I hX0;have HB:=I hB0;have pg:=I hel;have ng:=I hnm;have HD0:=I hd0;have VD:=I hB0.lt;have IZ:=I hX0.lt;have hwd:IntKind.i64.wrap (d+1)=d+1:=IntWalk.i64_in _ (by omega);have HD1:=I (show d+1=65-(n:Int) by omega);have NS:=I hwd;obtain⟨q0,q1,q2,_,_,_,_⟩:=fV hX0.blk;obtain⟨ws,hws⟩:∃ws,l.takeWhile white=ws:=⟨_,rfl⟩;have Am:=I hws;rw[hws]at hsp hz;have hk0:S.size-l.length≤S.size:=by omega
 have Dv:=I hX0.nK;have zZ:=I hX0.len;obtain⟨k0,hkk⟩:∃k,k=S.size-l.length:=⟨_,rfl⟩;have qD:=I hkk;rw[←hkk]at q1;clear hkk hX0 hB0 hel hws hnm hd0 hwd;have NY:=I hsp
 have NT:=I (show ws.length≤S.size by
  have h1:(l.takeWhile white++l.dropWhile white).length=l.length:=by rw[List.takeWhile_append_dropWhile]
  rw[Am.J,List.length_append]at h1;have:=zZ.J;omega)
 clear hsp;go_enter Tryz.func167,Tryz.ntmps167;go_wp2_with fail
 refine(lS S g c l w hS HX.J).mono ?_;rintro _ w1 ⟨rfl,ht,hx⟩;have bS:=I hx;have HT1:=I ht;have HB1:=I (ht.blk HB.J fun h=>ni h);clear ht hx HX HB q0 q1 q2;generalize decide ((l.dropWhile white).length<l.length)=z0;obtain⟨q0,q1,q2,_,_,_,_⟩:=fV bS.J.blk
 have qE:=I (show S.extract k0 (S.size-(l.dropWhile white).length)=⟨ws.toArray⟩from by
  have h:=oz (S:=S) (p:=l.takeWhile white) (r:=l.dropWhile white) (by rw[List.takeWhile_append_dropWhile];exact Dv.J);rw[List.takeWhile_append_dropWhile,←qD.J,Am.J]at h;exact h)
 have hdl:(l.dropWhile white).length≤l.length:=(Xp.aX.dropWhile white l).len;have hk1:(k0:Int)≤((S.size-(l.dropWhile white).length:Nat):Int):=by have:=qD.J;have:=zZ.J;omega
 have hk2:((S.size-(l.dropWhile white).length:Nat):Int)≤(S.size:Int):=by omega
 have hk3:(0:Int)≤(k0:Int):=by omega
 have hk4:k0≤S.size-(l.dropWhile white).length:=by omega
 have hk5:S.size-(l.dropWhile white).length≤S.size:=by omega
 generalize S.size-(l.dropWhile white).length=k at*;clear hdl;go_wp2
 go_quiet (fail)
 refine aV (fun W=>ag w1 W) ((M _ _).drewN _) ?_;rintro w2 hf2;have eT:=I (bS.J.fresh hf2);have HT2:=I (HT1.J.trans (hf2.mono fun _ h=>h.elim));have HB2:=I (hf2.blk HB1.J fun h=>h);clear hf2;clear bS HT1 HB1 q0 q1 q2 hk1 hk2 hk3 hk4 hk5;generalize S.extract k0 k=Bs at qE⊢;have hbs:=qE.J;subst hbs;have hwl:(⟨ws.toArray⟩:ByteArray).size=ws.length:=rfl;go_wp2_with fail
 refine(Tryz.strings_Trim_one ⟨ws.toArray⟩ 32 (by decide) w2 (by rw[hwl];have:=NT.J;omega)).mono ?_;rintro _ w4 ⟨rfl,hw4⟩
 have jh:ag w2 w4:=by
  rcases hw4 with rfl|rfl
  ·exact M _ _
  ·exact(M _ _).drewN 1
 have gD:=I (eT.J.fresh jh);have iU:=I (HT2.J.trans (jh.mono fun _ h=>h.elim));have iI:=I (jh.blk HB2.J fun h=>h);clear jh hw4 eT HT2 HB2;have Er:=I (show(Lib.trimB (⟨ws.toArray⟩:ByteArray).data.toList 32).isEmpty=ws.all (fun b=>b==32)from Be ws);generalize Lib.trimB (⟨ws.toArray⟩:ByteArray).data.toList 32=tr at Er⊢;have htr:tr.isEmpty=false:=by rw[Er.J];exact hz
 clear hz;go_wp2_with fail
 clear htr Er;cases hd:l.dropWhile white with
 |nil=>
  have aG:=I (show aD (au n) nm l c=.bad []from xM hd);rw[hd]at gD;refine(iZ S g c _ gD.J).mono ?_;rintro _ w9 ⟨rfl,eY⟩;refine⟨rfl,(?_:XC S g E0 nm va w (aD (au n) nm l c) _ _)⟩;rw[aG.J];exact⟨rfl,(iU.J.trans eY).mono fun _ h=>.inl h⟩
 |cons b0 l3=>
  rw[hd]at gD;have HD:=I hd;clear hd
  by_cases hb:b0=60
  rotate_left
  focus
   have hbn:((b0.toNat:Int) !=(60:Int))=true:=jU b0 60 hb;have wC:=I hb;clear hb;refine(bK S g c b0 l3 _ gD.J).mono ?_;rintro _ w5 ⟨rfl,iJ⟩;have dI:=I (gD.J.fresh iJ);have eu:=I (iU.J.trans (iJ.mono fun _ h=>h.elim));have bV:=I (iJ.blk iI.J fun h=>h);clear iJ gD iU iI;have aG:=I (show aD (au n) nm l c=.bad (b0::l3)from Bf HD.J wC.J (by rw[Am.J];exact NY.J));go_wp2_with fail
   refine(iq S g (b0::l3) c _ dI.J).mono ?_;rintro _ w9 ⟨rfl,rfl⟩;refine⟨rfl,(?_:XC S g E0 nm va w (aD (au n) nm l c) _ _)⟩;rw[aG.J];exact⟨rfl,eu.J.mono fun _ h=>.inl h⟩
  have hbn:((b0.toNat:Int) !=(60:Int))=false:=jm b0 60 hb;have wC:=I hb;clear hb;refine(bK S g c b0 l3 _ gD.J).mono ?_;rintro _ w5 ⟨rfl,iJ⟩;have dI:=I (gD.J.fresh iJ);have eu:=I (iU.J.trans (iJ.mono fun _ h=>h.elim));have bV:=I (iJ.blk iI.J fun h=>h);clear iJ gD iU iI;have Aq:=I (sM (el:=au n) (nm:=nm) (c:=c) HD.J wC.J);rw[Am.J]at Aq;have hEl:=bV.J.lt;have Es:=VD.J;have hls:=dI.J.len;rw[List.length_cons]at hls;rw[wC.J]at dI;have dB:=I (eu.J.mono fun i (h:i=g)=>show i=g∨i=E0 from .inl h);have lG:=I (show dO w.heap.size w5 [] (.slice none 0 0)from dO.nil eu.J.size);clear eu hEl;go_wp2
  go_loopw [] (fun wr=>∃(ks:List E) (l1:List UInt8) (A:Option Addr) (nk cp c1:Nat),Hd (ks.length=nk)∧nk+l1.length≤S.size∧Hd (aD (au n) nm l c=yR nm ws (jK (au n) ks l1 c1))∧Hd (O wr E0 45 #[.string ⟨nm.toArray⟩,va,.slice A nk cp,.string ⟨#[]⟩])∧Hd (dO w.heap.size wr ks (.slice A nk cp))∧Hd (Touch (fun b=>b=g∨b=E0) w wr)∧Hd (Xr S g (60::l1) c1 wr)) (fun wr=>S.size-posOf g wr)
  case atStart=>exact⟨[],l3,none,0,0,c,I rfl,by omega,Aq,bV,lG,dB,dI⟩
  case round=>
   clear dI dB bV lG Aq hls;obtain⟨ks,l1,A,nk,cp,c1,qO,hnk,ja,HB,HG,HT,HX⟩:=hrel;rename_i wr _;have HP:=I (jY HX.J);have hEl:=HB.J.lt;have hgs:=HX.J.lt;obtain⟨q0,q1,q2,f0,f1,f2,hg⟩:=fV HX.J.blk;have hle:=HX.J.len;have hw:IntKind.i64.wrap (((S.size-(60::l1:List UInt8).length:Nat):Int)+1)=((S.size-(60::l1:List UInt8).length:Nat):Int)+1:=IntWalk.i64_in _ (by omega);have lC:=I HX.J.qh;have gq:=I (HT.J.setCell (p:=⟨g,1,none⟩) (.inl (.inl rfl)) (.int .i64 (((S.size-(60::l1:List UInt8).length:Nat):Int)+1)));have lH:=I (HB.J.far (p:=⟨g,1,none⟩) (by show E0≠g;exact ni) (.int .i64 (((S.size-(60::l1:List UInt8).length:Nat):Int)+1)));have nu:=I (HG.J.mv ((M (fun b=>b=g) wr).setCell (p:=⟨g,1,none⟩) (.inl rfl) (.int .i64 (((S.size-(60::l1:List UInt8).length:Nat):Int)+1))) fun k hk _=>by omega);have uw:=I hle;generalize hkk:S.size-(60::l1:List UInt8).length=k at q1 hw lC gq lH nu;have HKK:=I hkk;clear hkk;go_wp2_with fail
   generalize (wr.setCell ⟨g,1,none⟩ (.int .i64 ((k:Int)+1)))=wB at lC gq lH nu⊢;have HXB:=lC;have vN:=gq;have fT:=lH;have yI:=nu;clear q0 q1 q2 f0 f1 f2 hg hle hw lC gq lH nu HX HT HB HG hEl hgs;have hEl:=fT.J.lt;have hgs:=HXB.J.lt;cases l1 with
   |nil=>
    have aG:=I (show aD (au n) nm l c=.bad [] by rw[ja.J,Eo];rfl);refine(iZ S g c1 _ HXB.J).mono ?_;rintro _ w9 ⟨rfl,eY⟩;refine⟨rfl,(?_:XC S g E0 nm va w (aD (au n) nm l c) _ _)⟩;rw[aG.J];exact⟨rfl,vN.J.trans (eY.mono fun _ h=>.inl h)⟩
   |cons b l2=>
   by_cases hb:b=47
   ·have hbn:((b.toNat:Int)==(47:Int))=true:=by rw[hb];rfl
    have Et:=I hb;clear hb;refine(bK S g c1 b l2 _ HXB.J).mono ?_;rintro _ w9 ⟨rfl,fE⟩;have jc:=I (HXB.J.fresh fE);have bU:=I (vN.J.trans (fE.mono fun _ h=>h.elim));have jN:=I (fE.blk fT.J fun h=>h);have iE:=I (yI.J.fresh fE);have Bg:=I (show jK (au n) ks (b::l2) c1=.ok ks (47::l2) c1 by rw[Et.J];exact Xp.x9 _ _ _ _);rw[Et.J]at jc;clear fE HXB vN fT yI;obtain⟨e0,e1,e2,e3,y0,y1,y2,y3,hlb⟩:=O.four jN.J;have HA:=I (show aD (au n) nm l c=rC (ks,[]) c1 (fe nm c1 (47::l2)) by rw[ja.J,Bg.J];show rC (ks,if bH ws&&ks.isEmpty then ws else []) c1 _=_;rw[NY.J,Bool.false_and];rfl);have kK:=I bU.J;clear ja Bg;go_wp2_with fail
    clear e0 e1 e2 e3 y0 y1 y2 y3 hlb;have wD:=I (show Calls Tryz.prog 202 #[.pointer (some ⟨g,0,none⟩),.string ⟨nm.toArray⟩] w9 fun e w'=>XU S g w9 (fe nm c1 (47::l2)) e w' from zz S ⟨nm.toArray⟩ g c1 (47::l2) w9 hS (by have:=ng.J;show nm.length≤_;omega) jc.J);refine wD.J.mono ?_;intro e qm he;cases hr:fe nm c1 (47::l2)with
    |bad l9=>
     have aG:=I (show aD (au n) nm l c=.bad l9 by rw[HA.J,hr];rfl);rw[hr]at he;obtain⟨rfl,ht⟩:=he;refine⟨rfl,(?_:XC S g E0 nm va w (aD (au n) nm l c) _ _)⟩;rw[aG.J];exact⟨rfl,kK.J.trans (ht.mono fun _ h=>.inl h)⟩
    |ok u l9 c9=>
     have Ap:=zF hr;rw[Ap]at hr;clear Ap;have aG:=I (show aD (au n) nm l c=.ok (ks,[]) l9 c1 by rw[HA.J,hr];rfl);rw[hr]at he;obtain⟨rfl,ht,hx⟩:=he;have ji:=I hx;have pz:=I (ht.blk jN.J fun h=>by omega);have mq:=I (kK.J.trans (ht.mono fun _ h=>.inl h));have Cy:=I ((iE.J.mv ht fun k hk _=>by omega).done);clear ht hx hr wD;go_wp2
     refine bodyPost_end (v:=.tuple #[]) (results_none rfl _ _ _) rfl ?_;rw[aG.J];exact⟨rfl,_,_,_,pz.J,(Nat.zero_le _),Cy.J,mq.J,ji.J⟩
   ·have hbn:((b.toNat:Int)==(47:Int))=false:=by rw[show((b.toNat:Int)==(47:Int))=(b==47)from xX b 47,beq_eq_false_iff_ne];exact hb
    have wE:=I hb;clear hb;refine(bK S g c1 b l2 _ HXB.J).mono ?_;rintro _ w6 ⟨rfl,fE⟩;have fD:=I (HXB.J.fresh fE);have dB:=I (vN.J.trans (fE.mono fun _ h=>h.elim));have iM:=I (fE.blk fT.J fun h=>h);have lG:=I (yI.J.fresh fE);clear fE HXB vN fT yI;have Zm:=iM.J.lt;have Zn:=fD.J.lt;obtain⟨e0,e1,e2,e3,y0,y1,y2,y3,hlb⟩:=O.four iM.J;go_wp2_with fail
    have k1:=cT (S:=fun k=>k=g) e2 ni;clear e0 e1 e2 e3 y0 y1 y2 y3 hlb hbn;have hwd:=NS.J;cases hr:au n (b::l2) c1 with
    |bad l9=>
     have HRR:=I hr;clear hr
     refine fu (fun W=>∃x:Turned (fun k=>k=g) w6,W=x.W) (bq.of [(0,true),(1,true),(2,true),(3,true),(4,true),(5,true),(6,true),(8,true)] (.fork 7 (.lone 9 .nil) 9 (.lone 7 .nil))) [0,1,2,3,4,5,6,7,8,9] 10 (Array.replicate 10 true++Array.replicate 6 false) (fun _=>True)
      (bq.of [(11,true),(13,true),(14,true)] (.fork 12 (.lone 15 .nil) 15 (.lone 12 .nil))) [11,12,13,14,15] (Array.replicate 16 true) (by kernel_rfl) (fun _ _ d _ _ h=>by cases d<;>exact h) (by kernel_rfl) ⟨⟨_,(M _ _).drewN 1⟩,rfl⟩ ?_
     unfold bq.of
     repeat(refine aS rfl (fun K hK=>?_);go_simp;refine hK _ ?_;clear hK K;first|done|unfold bq.of)
     clear k1;have aG:=I (show aD (au n) nm l c=.bad l9 by rw[ja.J,Ep wE.J HRR.J];rfl);refine fB ?_ ?_
     focus
      refine ax rfl (fun K hK=>?_);go_wp2_with fail
      refine(pg.J (d+1) (b::l2) c1 _ HD1.J (fD.J.fresh ((M _ _).drewN 1))).mono ?_;intro e w7 he;rw[HRR.J]at he;obtain⟨rfl,ht⟩:=he;refine⟨rfl,(?_:XC S g E0 nm va w (aD (au n) nm l c) _ _)⟩;rw[aG.J];exact⟨rfl,dB.J.trans ((((M (fun b=>b=g) w6).drewN 1).trans ht).mono fun _ h=>.inl h)⟩
     focus
      refine ax rfl (fun K hK=>?_);go_wp2
      refine hK _ _ ⟨⟨_,((M _ w6).drewN 1).alloc _⟩,rfl⟩ ?_;clear hK K;refine ax rfl (fun K hK=>?_);go_wp2_with fail
      refine(pg.J (d+1) (b::l2) c1 _ HD1.J (fD.J.fresh (((M _ _).drewN 1).alloc _))).mono ?_;intro e w7 he;rw[HRR.J]at he;obtain⟨rfl,ht⟩:=he;refine⟨rfl,(?_:XC S g E0 nm va w (aD (au n) nm l c) _ _)⟩;rw[aG.J];exact⟨rfl,dB.J.trans (((((M (fun b=>b=g) w6).drewN 1).alloc _).trans ht).mono fun _ h=>.inl h)⟩
    |ok e1 l7 c7=>
     obtain⟨en,dZ,iw,jA⟩:=e1;have HRR:=I hr;clear hr
     refine fu (fun W=>∃x:Turned (fun k=>k=g) w6,W=x.W) (bq.of [(0,true),(1,true),(2,true),(3,true),(4,true),(5,true),(6,true),(8,true)] (.fork 7 (.lone 9 .nil) 9 (.lone 7 .nil))) [0,1,2,3,4,5,6,7,8,9] 10 (Array.replicate 10 true++Array.replicate 6 false) (fun _=>True)
      (bq.of [(11,true),(13,true),(14,true)] (.fork 12 (.lone 15 .nil) 15 (.lone 12 .nil))) [11,12,13,14,15] (Array.replicate 16 true) (by kernel_rfl) (fun _ _ d _ _ h=>by cases d<;>exact h) (by kernel_rfl) ⟨⟨_,(M _ _).drewN 1⟩,rfl⟩ ?_
     unfold bq.of
     repeat(refine aS rfl (fun K hK=>?_);go_simp;refine hK _ ?_;clear hK K;first|done|unfold bq.of)
     clear k1;refine fB ?_ ?_
     focus
      refine ax rfl (fun K hK=>?_);go_wp2_with fail
      refine(pg.J (d+1) (b::l2) c1 _ HD1.J (fD.J.fresh ((M _ _).drewN 1))).mono ?_;intro e w7 he;rw[HRR.J]at he;obtain⟨ea,ek,rfl,ht,hst,hx⟩:=he;obtain⟨Aa,ca,oF⟩:=hst.now.1.slice;obtain⟨Ab,cb,eB⟩:=hst.now.2.1.slice;simp only[E.kids,E.attrs]at oF eB;subst oF eB;unfold ev;simp only[E.name,E.text];have dS:=I (show Touch (fun k=>k=g) w6 w7 from((M _ w6).drewN 1).trans ht);have jR:=I (show aZ (fun k=>k<w6.heap.size) w7 fun W=>bN W (.mk en dZ iw jA) (.slice Aa dZ.length ca) (.slice Ab iw.length cb)from hst);have jV:=I hx;clear ht hst hx;go_wp2
      refine hK _ _ ⟨⟨_,dS.J⟩,rfl⟩ ?_;clear hK K;refine ax rfl (fun K hK=>?_);go_wp2
      refine hK _ _ ⟨⟨_,dS.J.alloc _⟩,rfl⟩ ?_;clear hK K;have dX:=I (O.new w7 45 Z);have gq:=I (dS.J.alloc (.cells Z 45));have lC:=I (jV.J.fresh ((M _ w7).alloc (.cells Z 45)));have mI:=I (jR.J.fresh ((M _ w7).alloc (.cells Z 45)));generalize (w7.alloc (.cells Z 45))=wA at dX gq lC mI⊢;obtain⟨bz,hbz⟩:∃b,b=w7.heap.size:=⟨_,rfl⟩;rw[←hbz]at dX⊢;clear hbz dS jR jV
     rotate_left
     focus
      refine ax rfl (fun K hK=>?_);go_wp2
      refine hK _ _ ⟨⟨_,((M _ w6).drewN 1).alloc _⟩,rfl⟩ ?_;clear hK K;have vv:=I (show O ((w6.drewN 1).alloc (.cells Z 45)) w6.heap.size 45 Z from O.new (w6.drewN 1) 45 Z);have eZ:=I (show ag w6 ((w6.drewN 1).alloc (.cells Z 45))from((M _ w6).drewN 1).alloc _);have dS:=I (show Touch (fun k=>k=g) w6 ((w6.drewN 1).alloc (.cells Z 45))from((M _ w6).drewN 1).alloc _);generalize ((w6.drewN 1).alloc (.cells Z 45))=w7 at vv eZ dS⊢;obtain⟨bz,hbz⟩:∃b,b=w6.heap.size:=⟨_,rfl⟩;have yf:=I (show w6.heap.size≠g by omega);refine ax rfl (fun K hK=>?_);go_wp2_with fail
      refine(pg.J (d+1) (b::l2) c1 _ HD1.J (fD.J.fresh eZ.J)).mono ?_;intro e wA he;rw[HRR.J]at he;obtain⟨ea,ek,rfl,ht,hst,hx⟩:=he;obtain⟨Aa,ca,oF⟩:=hst.now.1.slice;obtain⟨Ab,cb,eB⟩:=hst.now.2.1.slice;simp only[E.kids,E.attrs]at oF eB;subst oF eB;unfold ev;simp only[E.name,E.text];have gq:=I (show Touch (fun k=>k=g) w6 wA from dS.J.trans ht);have mI:=I (show aZ (fun k=>k<w6.heap.size) wA fun W=>bN W (.mk en dZ iw jA) (.slice Aa dZ.length ca) (.slice Ab iw.length cb)from hst.mono fun i _ hi=>Nat.lt_of_lt_of_le hi eZ.J.size);have lC:=I hx;have dX:=I (ht.blk vv.J yf.J);clear ht hst hx;go_wp2
      refine hK _ _ ⟨⟨_,gq.J⟩,rfl⟩ ?_;clear hK K;rw[←hbz]at dX⊢;clear hbz dS vv eZ yf
     all_goals
      have nu:=I (lG.J.mv gq.J fun k hk _=>by omega);have HOW:=I lG.J.jE;have lH:=I (gq.J.blk iM.J fun h=>ni h);have uO:=I dB.J.size
      have Eu:nk<2^40:=by
       have h:=hnk;rw[List.length_cons]at h;omega
      have Cz:=I Eu;clear Eu;refine iY rfl (fun K hK=>?_)
      go_wp2_with (at_builtin;go_loud (refine o8 rfl (.tmp 84) (.tmp 90) rfl nu.J qO.J (by simp[Act.eval]) (.mk en dZ iw jA) dX.J (by simp[Act.eval]) w6.heap.size uO.J (fun k hk=>(HOW.J k hk).2) mI.J Cz.J ?_);intro A8 c8 w8 gJ bW;refine iC.mk ?_)
      obtain⟨g8,Kc,BK,FH,Ke,Kg,a0,a1,a2,a3,f0,f1,f2,f3⟩:=gJ.cells qO.J;cases BK;have xg:=bW.blk lH.J fun h=>by have:=(HOW.J _ h).1;omega
      have qM:=I (lC.J.move bW fun h=>by have:=(HOW.J _ h).1;omega);have oC:=I (show Touch (fun i=>i=g∨i=E0) w w8 from(dB.J.trans (gq.J.mono fun i hi=>.inl hi)).trans' bW fun k hk=>.inr (by have:=(HOW.J _ hk).1;omega));have HST:=I (gJ.stores qO.J xg Es);obtain⟨_,_,q3,_,_,_,z3,_,wo⟩:=O.four xg;have hne:E0≠g8:=by omega
      have hne':g8≠E0:=by omega
      have hr1:(nk:Int)<(nk:Int)+1:=by omega
      clear bW xg gJ;refine iC.go ?_;go_wp2
      refine hK _ _ trivial ?_;clear hK K
      repeat(refine aS rfl (fun K hK=>?_);go_simp;refine hK _ ?_;clear hK K)
      refine fB ?_ ?_
      focus
       refine ax rfl (fun K hK=>?_);go_wp2
       refine hK _ _ trivial ?_;clear hK K;refine ax rfl (fun K hK=>?_);go_wp2
       refine hK _ _ trivial ?_;clear hK K;have bU:=I (HST.J.1 _ rfl);unfold oK at bU;simp only[E.name,E.text]at bU;clear a0 a1 a2 a3 f0 f1 f2 f3 q3 z3 HST;generalize World.setCell _ ⟨E0,2,none⟩ _=W9 at bU⊢
      rotate_left
      focus
       refine ax rfl (fun K hK=>?_);go_wp2
       refine hK _ _ trivial ?_;clear hK K;refine ax rfl (fun K hK=>?_);go_wp2
       refine hK _ _ trivial ?_;clear hK K;have bU:=I (HST.J.2 _ rfl);unfold oK at bU;simp only[E.name,E.text]at bU;clear a0 a1 a2 a3 f0 f1 f2 f3 q3 z3 HST;generalize World.setCell _ ⟨g8,nk*4+3,none⟩ _=W9 at bU⊢
      all_goals
       refine jJ ?_;obtain⟨qG,fO,eY⟩:=bU.J;have jN:=I qG;have iE:=I fO;have jc:=I (qM.J.move eY (by omega));have zI:=I (show Touch (fun i=>i=g∨i=E0) w W9 from oC.J.trans' eY fun i hi=>hi.elim (fun h=>.inr (by omega)) fun h=>.inl (.inr h));clear qG fO eY bU;go_wp2_with fail
       refine(lS S g c7 l7 _ hS jc.J).mono ?_;rintro _ qm ⟨rfl,ht,hx⟩;have mq:=I (zI.J.trans (ht.mono fun _ h=>.inl h));have pz:=I (ht.blk jN.J fun h=>ni h);have yA:=I (iE.J.mv ht fun k hk _=>by omega);clear ht jN iE jc zI;generalize decide ((l7.dropWhile white).length<l7.length)=z9;cases hd7:l7.dropWhile white with
       |nil=>
        have aG:=I (show aD (au n) nm l c=.bad [] by rw[ja.J,zG wE.J HRR.J hd7];rfl);rw[hd7]at hx;have ji:=I hx;clear hx hd7;go_wp2_with fail
        refine(iZ S g c7 _ ji.J).mono ?_;rintro _ rO ⟨rfl,NV⟩;refine⟨rfl,(?_:XC S g E0 nm va w (aD (au n) nm l c) _ _)⟩;rw[aG.J];exact⟨rfl,mq.J.trans (NV.mono fun _ h=>.inl h)⟩
       |cons b7 l8=>
        rw[hd7]at hx;have ji:=I hx;have Ev:=I (show(b7::l8).length≤l7.length by rw[←hd7];exact(Xp.aX.dropWhile white l7).len)
        by_cases pR:b7=60
        ·have NW:((b7.toNat:Int) !=(60:Int))=false:=jm b7 60 pR
         have vg:=I (show aD (au n) nm l c=yR nm ws (jK (au n) (ks++[.mk en dZ iw jA]) l8 c7) by rw[ja.J,Xp.yP (fun l c=>Xp.jQ n l c) wE.J HRR.J (by rw[hd7,pR])]);rw[pR]at ji;have ql:=I pR;clear hx hd7 pR;go_wp2_with fail
         refine(bK S g c7 b7 l8 _ (by rw[ql.J];exact ji.J)).mono ?_;rintro _ rO ⟨rfl,lV⟩;have sN:=I (ji.J.fresh lV);have wF:=I (mq.J.trans (lV.mono fun _ h=>h.elim));have Ew:=I (lV.blk pz.J fun h=>h);have Ex:=I (yA.J.fresh lV);have HM:=I (jY sN.J);have mK:=I (Xp.jQ n (b::l2) c1).len;rw[HRR.J]at mK;clear lV;go_wp2
         go_roundw
         case rel=>
          refine⟨ks++[.mk en dZ iw jA],l8,some ⟨g8,0,none⟩,nk+1,c8,c7,I (by rw[List.length_append,qO.J];rfl),?_,vg,Ew,Ex,wF,sN⟩;have h1:=Ev.J;have h2:l7.length≤(b::l2).length:=mK.J;rw[List.length_cons]at h1 h2 hnk;omega
         case measure=>
          rw[HM.J,HP.J];have h0:=uw.J;have h1:=Ev.J;have h2:l7.length≤(b::l2).length:=mK.J;simp only[List.length_cons]at h0 h1 h2⊢;omega
        ·have NW:((b7.toNat:Int) !=(60:Int))=true:=jU b7 60 pR
         have aG:=I (show aD (au n) nm l c=.bad (b7::l8) by rw[ja.J,zH wE.J HRR.J hd7 pR];rfl);clear hx hd7 pR;go_wp2_with fail
         refine(bK S g c7 b7 l8 _ ji.J).mono ?_;rintro _ rO ⟨rfl,lV⟩;have sN:=I (ji.J.fresh lV);have wF:=I (mq.J.trans (lV.mono fun _ h=>h.elim));clear lV;go_wp2_with fail
         refine(iq S g (b7::l8) c7 _ sN.J).mono ?_;rintro _ xh ⟨rfl,rfl⟩;refine⟨rfl,(?_:XC S g E0 nm va w (aD (au n) nm l c) _ _)⟩;rw[aG.J];exact⟨rfl,wF.J⟩
theorem SV(S:ByteArray)(g n:Nat)(hS:S.size≤1099511627776)(hn:n<64)(hel:Cu S g n)(d:Int)(nm:List UInt8)(va:Value)(E0:Nat)(l:List UInt8)(c:Nat)(w:World)(hd0:d=64-(n:Int))(hnm:nm.length≤S.size)(ni:E0≠g)
  (hB0:O w E0 45 #[.string ⟨nm.toArray⟩,va,.slice none 0 0,.string ⟨#[]⟩]) (hX0:Xr S g l c w) (hsp:bH (l.takeWhile white)=false) (hz:(l.takeWhile white).all (fun b=>b==32)=true):
  Calls Tryz.prog 167 #[.pointer (some ⟨g,0,none⟩),.pointer (some ⟨E0,0,none⟩),.int .i64 d] w fun e w'=>XC S g E0 nm va w (aD (au n) nm l c) e w':=by
 have HX:=I hX0;have HB:=I hB0;have pg:=I hel;have ng:=I hnm;have HD0:=I hd0;have VD:=I hB0.lt;have IZ:=I hX0.lt;have hwd:IntKind.i64.wrap (d+1)=d+1:=IntWalk.i64_in _ (by omega);have HD1:=I (show d+1=65-(n:Int) by omega);have NS:=I hwd;obtain⟨q0,q1,q2,_,_,_,_⟩:=fV hX0.blk;obtain⟨ws,hws⟩:∃ws,l.takeWhile white=ws:=⟨_,rfl⟩;have Am:=I hws;rw[hws]at hsp hz;have hk0:S.size-l.length≤S.size:=by omega
 have Dv:=I hX0.nK;have zZ:=I hX0.len;obtain⟨k0,hkk⟩:∃k,k=S.size-l.length:=⟨_,rfl⟩;have qD:=I hkk;rw[←hkk]at q1;clear hkk hX0 hB0 hel hws hnm hd0 hwd;have NY:=I hsp
 have NT:=I (show ws.length≤S.size by
  have h1:(l.takeWhile white++l.dropWhile white).length=l.length:=by rw[List.takeWhile_append_dropWhile]
  rw[Am.J,List.length_append]at h1;have:=zZ.J;omega)
 have HW2:=I (show¬ws.length≤200 from fun h=>by unfold bH at hsp;rw[hz,decide_eq_true h]at hsp;cases hsp);clear hsp;go_enter Tryz.func167,Tryz.ntmps167;go_wp2_with fail
 refine(lS S g c l w hS HX.J).mono ?_;rintro _ w1 ⟨rfl,ht,hx⟩;have bS:=I hx;have HT1:=I ht;have HB1:=I (ht.blk HB.J fun h=>ni h);clear ht hx HX HB q0 q1 q2;generalize decide ((l.dropWhile white).length<l.length)=z0;obtain⟨q0,q1,q2,_,_,_,_⟩:=fV bS.J.blk
 have qE:=I (show S.extract k0 (S.size-(l.dropWhile white).length)=⟨ws.toArray⟩from by
  have h:=oz (S:=S) (p:=l.takeWhile white) (r:=l.dropWhile white) (by rw[List.takeWhile_append_dropWhile];exact Dv.J);rw[List.takeWhile_append_dropWhile,←qD.J,Am.J]at h;exact h)
 have hdl:(l.dropWhile white).length≤l.length:=(Xp.aX.dropWhile white l).len;have hk1:(k0:Int)≤((S.size-(l.dropWhile white).length:Nat):Int):=by have:=qD.J;have:=zZ.J;omega
 have hk2:((S.size-(l.dropWhile white).length:Nat):Int)≤(S.size:Int):=by omega
 have hk3:(0:Int)≤(k0:Int):=by omega
 have hk4:k0≤S.size-(l.dropWhile white).length:=by omega
 have hk5:S.size-(l.dropWhile white).length≤S.size:=by omega
 generalize S.size-(l.dropWhile white).length=k at*;clear hdl;go_wp2
 go_quiet (fail)
 refine aV (fun W=>ag w1 W) ((M _ _).drewN _) ?_;rintro w2 hf2;have eT:=I (bS.J.fresh hf2);have HT2:=I (HT1.J.trans (hf2.mono fun _ h=>h.elim));have HB2:=I (hf2.blk HB1.J fun h=>h);clear hf2;clear bS HT1 HB1 q0 q1 q2 hk1 hk2 hk3 hk4 hk5;generalize S.extract k0 k=Bs at qE⊢;have hbs:=qE.J;subst hbs;have hwl:(⟨ws.toArray⟩:ByteArray).size=ws.length:=rfl;go_wp2_with fail
 refine(Tryz.strings_Trim_one ⟨ws.toArray⟩ 32 (by decide) w2 (by rw[hwl];have:=NT.J;omega)).mono ?_;rintro _ w4 ⟨rfl,hw4⟩
 have jh:ag w2 w4:=by
  rcases hw4 with rfl|rfl
  ·exact M _ _
  ·exact(M _ _).drewN 1
 have gD:=I (eT.J.fresh jh);have iU:=I (HT2.J.trans (jh.mono fun _ h=>h.elim));have iI:=I (jh.blk HB2.J fun h=>h);clear jh hw4 eT HT2 HB2;have Er:=I (show(Lib.trimB (⟨ws.toArray⟩:ByteArray).data.toList 32).isEmpty=ws.all (fun b=>b==32)from Be ws);generalize Lib.trimB (⟨ws.toArray⟩:ByteArray).data.toList 32=tr at Er⊢;have htr:tr.isEmpty=true:=by rw[Er.J];exact hz
 have Ka:decide ((ws.length:Int)≤(200:Int))=false:=dF (by have:=HW2.J;omega);have SQ:decide (ws.length≤200)=false:=dF HW2.J;clear hz;go_wp2_with fail
 clear htr Ka SQ HW2 Er;cases hd:l.dropWhile white with
 |nil=>
  have aG:=I (show aD (au n) nm l c=.bad []from xM hd);rw[hd]at gD;refine(iZ S g c _ gD.J).mono ?_;rintro _ w9 ⟨rfl,eY⟩;refine⟨rfl,(?_:XC S g E0 nm va w (aD (au n) nm l c) _ _)⟩;rw[aG.J];exact⟨rfl,(iU.J.trans eY).mono fun _ h=>.inl h⟩
 |cons b0 l3=>
  rw[hd]at gD;have HD:=I hd;clear hd
  by_cases hb:b0=60
  rotate_left
  focus
   have hbn:((b0.toNat:Int) !=(60:Int))=true:=jU b0 60 hb;have wC:=I hb;clear hb;refine(bK S g c b0 l3 _ gD.J).mono ?_;rintro _ w5 ⟨rfl,iJ⟩;have dI:=I (gD.J.fresh iJ);have eu:=I (iU.J.trans (iJ.mono fun _ h=>h.elim));have bV:=I (iJ.blk iI.J fun h=>h);clear iJ gD iU iI;have aG:=I (show aD (au n) nm l c=.bad (b0::l3)from Bf HD.J wC.J (by rw[Am.J];exact NY.J));go_wp2_with fail
   refine(iq S g (b0::l3) c _ dI.J).mono ?_;rintro _ w9 ⟨rfl,rfl⟩;refine⟨rfl,(?_:XC S g E0 nm va w (aD (au n) nm l c) _ _)⟩;rw[aG.J];exact⟨rfl,eu.J.mono fun _ h=>.inl h⟩
  have hbn:((b0.toNat:Int) !=(60:Int))=false:=jm b0 60 hb;have wC:=I hb;clear hb;refine(bK S g c b0 l3 _ gD.J).mono ?_;rintro _ w5 ⟨rfl,iJ⟩;have dI:=I (gD.J.fresh iJ);have eu:=I (iU.J.trans (iJ.mono fun _ h=>h.elim));have bV:=I (iJ.blk iI.J fun h=>h);clear iJ gD iU iI;have Aq:=I (sM (el:=au n) (nm:=nm) (c:=c) HD.J wC.J);rw[Am.J]at Aq;have hEl:=bV.J.lt;have Es:=VD.J;have hls:=dI.J.len;rw[List.length_cons]at hls;rw[wC.J]at dI;have dB:=I (eu.J.mono fun i (h:i=g)=>show i=g∨i=E0 from .inl h);have lG:=I (show dO w.heap.size w5 [] (.slice none 0 0)from dO.nil eu.J.size);clear eu hEl;go_wp2
  go_loopw [] (fun wr=>∃(ks:List E) (l1:List UInt8) (A:Option Addr) (nk cp c1:Nat),Hd (ks.length=nk)∧nk+l1.length≤S.size∧Hd (aD (au n) nm l c=yR nm ws (jK (au n) ks l1 c1))∧Hd (O wr E0 45 #[.string ⟨nm.toArray⟩,va,.slice A nk cp,.string ⟨#[]⟩])∧Hd (dO w.heap.size wr ks (.slice A nk cp))∧Hd (Touch (fun b=>b=g∨b=E0) w wr)∧Hd (Xr S g (60::l1) c1 wr)) (fun wr=>S.size-posOf g wr)
  case atStart=>exact⟨[],l3,none,0,0,c,I rfl,by omega,Aq,bV,lG,dB,dI⟩
  case round=>
   clear dI dB bV lG Aq hls;obtain⟨ks,l1,A,nk,cp,c1,qO,hnk,ja,HB,HG,HT,HX⟩:=hrel;rename_i wr _;have HP:=I (jY HX.J);have hEl:=HB.J.lt;have hgs:=HX.J.lt;obtain⟨q0,q1,q2,f0,f1,f2,hg⟩:=fV HX.J.blk;have hle:=HX.J.len;have hw:IntKind.i64.wrap (((S.size-(60::l1:List UInt8).length:Nat):Int)+1)=((S.size-(60::l1:List UInt8).length:Nat):Int)+1:=IntWalk.i64_in _ (by omega);have lC:=I HX.J.qh;have gq:=I (HT.J.setCell (p:=⟨g,1,none⟩) (.inl (.inl rfl)) (.int .i64 (((S.size-(60::l1:List UInt8).length:Nat):Int)+1)));have lH:=I (HB.J.far (p:=⟨g,1,none⟩) (by show E0≠g;exact ni) (.int .i64 (((S.size-(60::l1:List UInt8).length:Nat):Int)+1)));have nu:=I (HG.J.mv ((M (fun b=>b=g) wr).setCell (p:=⟨g,1,none⟩) (.inl rfl) (.int .i64 (((S.size-(60::l1:List UInt8).length:Nat):Int)+1))) fun k hk _=>by omega);have uw:=I hle;generalize hkk:S.size-(60::l1:List UInt8).length=k at q1 hw lC gq lH nu;have HKK:=I hkk;clear hkk;go_wp2_with fail
   generalize (wr.setCell ⟨g,1,none⟩ (.int .i64 ((k:Int)+1)))=wB at lC gq lH nu⊢;have HXB:=lC;have vN:=gq;have fT:=lH;have yI:=nu;clear q0 q1 q2 f0 f1 f2 hg hle hw lC gq lH nu HX HT HB HG hEl hgs;have hEl:=fT.J.lt;have hgs:=HXB.J.lt;cases l1 with
   |nil=>
    have aG:=I (show aD (au n) nm l c=.bad [] by rw[ja.J,Eo];rfl);refine(iZ S g c1 _ HXB.J).mono ?_;rintro _ w9 ⟨rfl,eY⟩;refine⟨rfl,(?_:XC S g E0 nm va w (aD (au n) nm l c) _ _)⟩;rw[aG.J];exact⟨rfl,vN.J.trans (eY.mono fun _ h=>.inl h)⟩
   |cons b l2=>
   by_cases hb:b=47
   ·have hbn:((b.toNat:Int)==(47:Int))=true:=by rw[hb];rfl
    have Et:=I hb;clear hb;refine(bK S g c1 b l2 _ HXB.J).mono ?_;rintro _ w9 ⟨rfl,fE⟩;have jc:=I (HXB.J.fresh fE);have bU:=I (vN.J.trans (fE.mono fun _ h=>h.elim));have jN:=I (fE.blk fT.J fun h=>h);have iE:=I (yI.J.fresh fE);have Bg:=I (show jK (au n) ks (b::l2) c1=.ok ks (47::l2) c1 by rw[Et.J];exact Xp.x9 _ _ _ _);rw[Et.J]at jc;clear fE HXB vN fT yI;obtain⟨e0,e1,e2,e3,y0,y1,y2,y3,hlb⟩:=O.four jN.J;have HA:=I (show aD (au n) nm l c=rC (ks,[]) c1 (fe nm c1 (47::l2)) by rw[ja.J,Bg.J];show rC (ks,if bH ws&&ks.isEmpty then ws else []) c1 _=_;rw[NY.J,Bool.false_and];rfl);have kK:=I bU.J;clear ja Bg;go_wp2_with fail
    clear e0 e1 e2 e3 y0 y1 y2 y3 hlb;have wD:=I (show Calls Tryz.prog 202 #[.pointer (some ⟨g,0,none⟩),.string ⟨nm.toArray⟩] w9 fun e w'=>XU S g w9 (fe nm c1 (47::l2)) e w' from zz S ⟨nm.toArray⟩ g c1 (47::l2) w9 hS (by have:=ng.J;show nm.length≤_;omega) jc.J);refine wD.J.mono ?_;intro e qm he;cases hr:fe nm c1 (47::l2)with
    |bad l9=>
     have aG:=I (show aD (au n) nm l c=.bad l9 by rw[HA.J,hr];rfl);rw[hr]at he;obtain⟨rfl,ht⟩:=he;refine⟨rfl,(?_:XC S g E0 nm va w (aD (au n) nm l c) _ _)⟩;rw[aG.J];exact⟨rfl,kK.J.trans (ht.mono fun _ h=>.inl h)⟩
    |ok u l9 c9=>
     have Ap:=zF hr;rw[Ap]at hr;clear Ap;have aG:=I (show aD (au n) nm l c=.ok (ks,[]) l9 c1 by rw[HA.J,hr];rfl);rw[hr]at he;obtain⟨rfl,ht,hx⟩:=he;have ji:=I hx;have pz:=I (ht.blk jN.J fun h=>by omega);have mq:=I (kK.J.trans (ht.mono fun _ h=>.inl h));have Cy:=I ((iE.J.mv ht fun k hk _=>by omega).done);clear ht hx hr wD;go_wp2
     refine bodyPost_end (v:=.tuple #[]) (results_none rfl _ _ _) rfl ?_;rw[aG.J];exact⟨rfl,_,_,_,pz.J,(Nat.zero_le _),Cy.J,mq.J,ji.J⟩
   ·have hbn:((b.toNat:Int)==(47:Int))=false:=by rw[show((b.toNat:Int)==(47:Int))=(b==47)from xX b 47,beq_eq_false_iff_ne];exact hb
    have wE:=I hb;clear hb;refine(bK S g c1 b l2 _ HXB.J).mono ?_;rintro _ w6 ⟨rfl,fE⟩;have fD:=I (HXB.J.fresh fE);have dB:=I (vN.J.trans (fE.mono fun _ h=>h.elim));have iM:=I (fE.blk fT.J fun h=>h);have lG:=I (yI.J.fresh fE);clear fE HXB vN fT yI;have Zm:=iM.J.lt;have Zn:=fD.J.lt;obtain⟨e0,e1,e2,e3,y0,y1,y2,y3,hlb⟩:=O.four iM.J;go_wp2_with fail
    have k1:=cT (S:=fun k=>k=g) e2 ni;clear e0 e1 e2 e3 y0 y1 y2 y3 hlb hbn;have hwd:=NS.J;cases hr:au n (b::l2) c1 with
    |bad l9=>
     have HRR:=I hr;clear hr
     refine fu (fun W=>∃x:Turned (fun k=>k=g) w6,W=x.W) (bq.of [(0,true),(1,true),(2,true),(3,true),(4,true),(5,true),(6,true),(8,true)] (.fork 7 (.lone 9 .nil) 9 (.lone 7 .nil))) [0,1,2,3,4,5,6,7,8,9] 10 (Array.replicate 10 true++Array.replicate 6 false) (fun _=>True)
      (bq.of [(11,true),(13,true),(14,true)] (.fork 12 (.lone 15 .nil) 15 (.lone 12 .nil))) [11,12,13,14,15] (Array.replicate 16 true) (by kernel_rfl) (fun _ _ d _ _ h=>by cases d<;>exact h) (by kernel_rfl) ⟨⟨_,(M _ _).drewN 1⟩,rfl⟩ ?_
     unfold bq.of
     repeat(refine aS rfl (fun K hK=>?_);go_simp;refine hK _ ?_;clear hK K;first|done|unfold bq.of)
     clear k1;have aG:=I (show aD (au n) nm l c=.bad l9 by rw[ja.J,Ep wE.J HRR.J];rfl);refine fB ?_ ?_
     focus
      refine ax rfl (fun K hK=>?_);go_wp2_with fail
      refine(pg.J (d+1) (b::l2) c1 _ HD1.J (fD.J.fresh ((M _ _).drewN 1))).mono ?_;intro e w7 he;rw[HRR.J]at he;obtain⟨rfl,ht⟩:=he;refine⟨rfl,(?_:XC S g E0 nm va w (aD (au n) nm l c) _ _)⟩;rw[aG.J];exact⟨rfl,dB.J.trans ((((M (fun b=>b=g) w6).drewN 1).trans ht).mono fun _ h=>.inl h)⟩
     focus
      refine ax rfl (fun K hK=>?_);go_wp2
      refine hK _ _ ⟨⟨_,((M _ w6).drewN 1).alloc _⟩,rfl⟩ ?_;clear hK K;refine ax rfl (fun K hK=>?_);go_wp2_with fail
      refine(pg.J (d+1) (b::l2) c1 _ HD1.J (fD.J.fresh (((M _ _).drewN 1).alloc _))).mono ?_;intro e w7 he;rw[HRR.J]at he;obtain⟨rfl,ht⟩:=he;refine⟨rfl,(?_:XC S g E0 nm va w (aD (au n) nm l c) _ _)⟩;rw[aG.J];exact⟨rfl,dB.J.trans (((((M (fun b=>b=g) w6).drewN 1).alloc _).trans ht).mono fun _ h=>.inl h)⟩
    |ok e1 l7 c7=>
     obtain⟨en,dZ,iw,jA⟩:=e1;have HRR:=I hr;clear hr
     refine fu (fun W=>∃x:Turned (fun k=>k=g) w6,W=x.W) (bq.of [(0,true),(1,true),(2,true),(3,true),(4,true),(5,true),(6,true),(8,true)] (.fork 7 (.lone 9 .nil) 9 (.lone 7 .nil))) [0,1,2,3,4,5,6,7,8,9] 10 (Array.replicate 10 true++Array.replicate 6 false) (fun _=>True)
      (bq.of [(11,true),(13,true),(14,true)] (.fork 12 (.lone 15 .nil) 15 (.lone 12 .nil))) [11,12,13,14,15] (Array.replicate 16 true) (by kernel_rfl) (fun _ _ d _ _ h=>by cases d<;>exact h) (by kernel_rfl) ⟨⟨_,(M _ _).drewN 1⟩,rfl⟩ ?_
     unfold bq.of
     repeat(refine aS rfl (fun K hK=>?_);go_simp;refine hK _ ?_;clear hK K;first|done|unfold bq.of)
     clear k1;refine fB ?_ ?_
     focus
      refine ax rfl (fun K hK=>?_);go_wp2_with fail
      refine(pg.J (d+1) (b::l2) c1 _ HD1.J (fD.J.fresh ((M _ _).drewN 1))).mono ?_;intro e w7 he;rw[HRR.J]at he;obtain⟨ea,ek,rfl,ht,hst,hx⟩:=he;obtain⟨Aa,ca,oF⟩:=hst.now.1.slice;obtain⟨Ab,cb,eB⟩:=hst.now.2.1.slice;simp only[E.kids,E.attrs]at oF eB;subst oF eB;unfold ev;simp only[E.name,E.text];have dS:=I (show Touch (fun k=>k=g) w6 w7 from((M _ w6).drewN 1).trans ht);have jR:=I (show aZ (fun k=>k<w6.heap.size) w7 fun W=>bN W (.mk en dZ iw jA) (.slice Aa dZ.length ca) (.slice Ab iw.length cb)from hst);have jV:=I hx;clear ht hst hx;go_wp2
      refine hK _ _ ⟨⟨_,dS.J⟩,rfl⟩ ?_;clear hK K;refine ax rfl (fun K hK=>?_);go_wp2
      refine hK _ _ ⟨⟨_,dS.J.alloc _⟩,rfl⟩ ?_;clear hK K;have dX:=I (O.new w7 45 Z);have gq:=I (dS.J.alloc (.cells Z 45));have lC:=I (jV.J.fresh ((M _ w7).alloc (.cells Z 45)));have mI:=I (jR.J.fresh ((M _ w7).alloc (.cells Z 45)));generalize (w7.alloc (.cells Z 45))=wA at dX gq lC mI⊢;obtain⟨bz,hbz⟩:∃b,b=w7.heap.size:=⟨_,rfl⟩;rw[←hbz]at dX⊢;clear hbz dS jR jV
     rotate_left
     focus
      refine ax rfl (fun K hK=>?_);go_wp2
      refine hK _ _ ⟨⟨_,((M _ w6).drewN 1).alloc _⟩,rfl⟩ ?_;clear hK K;have vv:=I (show O ((w6.drewN 1).alloc (.cells Z 45)) w6.heap.size 45 Z from O.new (w6.drewN 1) 45 Z);have eZ:=I (show ag w6 ((w6.drewN 1).alloc (.cells Z 45))from((M _ w6).drewN 1).alloc _);have dS:=I (show Touch (fun k=>k=g) w6 ((w6.drewN 1).alloc (.cells Z 45))from((M _ w6).drewN 1).alloc _);generalize ((w6.drewN 1).alloc (.cells Z 45))=w7 at vv eZ dS⊢;obtain⟨bz,hbz⟩:∃b,b=w6.heap.size:=⟨_,rfl⟩;have yf:=I (show w6.heap.size≠g by omega);refine ax rfl (fun K hK=>?_);go_wp2_with fail
      refine(pg.J (d+1) (b::l2) c1 _ HD1.J (fD.J.fresh eZ.J)).mono ?_;intro e wA he;rw[HRR.J]at he;obtain⟨ea,ek,rfl,ht,hst,hx⟩:=he;obtain⟨Aa,ca,oF⟩:=hst.now.1.slice;obtain⟨Ab,cb,eB⟩:=hst.now.2.1.slice;simp only[E.kids,E.attrs]at oF eB;subst oF eB;unfold ev;simp only[E.name,E.text];have gq:=I (show Touch (fun k=>k=g) w6 wA from dS.J.trans ht);have mI:=I (show aZ (fun k=>k<w6.heap.size) wA fun W=>bN W (.mk en dZ iw jA) (.slice Aa dZ.length ca) (.slice Ab iw.length cb)from hst.mono fun i _ hi=>Nat.lt_of_lt_of_le hi eZ.J.size);have lC:=I hx;have dX:=I (ht.blk vv.J yf.J);clear ht hst hx;go_wp2
      refine hK _ _ ⟨⟨_,gq.J⟩,rfl⟩ ?_;clear hK K;rw[←hbz]at dX⊢;clear hbz dS vv eZ yf
     all_goals
      have nu:=I (lG.J.mv gq.J fun k hk _=>by omega);have HOW:=I lG.J.jE;have lH:=I (gq.J.blk iM.J fun h=>ni h);have uO:=I dB.J.size
      have Eu:nk<2^40:=by
       have h:=hnk;rw[List.length_cons]at h;omega
      have Cz:=I Eu;clear Eu;refine iY rfl (fun K hK=>?_)
      go_wp2_with (at_builtin;go_loud (refine o8 rfl (.tmp 84) (.tmp 90) rfl nu.J qO.J (by simp[Act.eval]) (.mk en dZ iw jA) dX.J (by simp[Act.eval]) w6.heap.size uO.J (fun k hk=>(HOW.J k hk).2) mI.J Cz.J ?_);intro A8 c8 w8 gJ bW;refine iC.mk ?_)
      obtain⟨g8,Kc,BK,FH,Ke,Kg,a0,a1,a2,a3,f0,f1,f2,f3⟩:=gJ.cells qO.J;cases BK;have xg:=bW.blk lH.J fun h=>by have:=(HOW.J _ h).1;omega
      have qM:=I (lC.J.move bW fun h=>by have:=(HOW.J _ h).1;omega);have oC:=I (show Touch (fun i=>i=g∨i=E0) w w8 from(dB.J.trans (gq.J.mono fun i hi=>.inl hi)).trans' bW fun k hk=>.inr (by have:=(HOW.J _ hk).1;omega));have HST:=I (gJ.stores qO.J xg Es);obtain⟨_,_,q3,_,_,_,z3,_,wo⟩:=O.four xg;have hne:E0≠g8:=by omega
      have hne':g8≠E0:=by omega
      have hr1:(nk:Int)<(nk:Int)+1:=by omega
      clear bW xg gJ;refine iC.go ?_;go_wp2
      refine hK _ _ trivial ?_;clear hK K
      repeat(refine aS rfl (fun K hK=>?_);go_simp;refine hK _ ?_;clear hK K)
      refine fB ?_ ?_
      focus
       refine ax rfl (fun K hK=>?_);go_wp2
       refine hK _ _ trivial ?_;clear hK K;refine ax rfl (fun K hK=>?_);go_wp2
       refine hK _ _ trivial ?_;clear hK K;have bU:=I (HST.J.1 _ rfl);unfold oK at bU;simp only[E.name,E.text]at bU;clear a0 a1 a2 a3 f0 f1 f2 f3 q3 z3 HST;generalize World.setCell _ ⟨E0,2,none⟩ _=W9 at bU⊢
      rotate_left
      focus
       refine ax rfl (fun K hK=>?_);go_wp2
       refine hK _ _ trivial ?_;clear hK K;refine ax rfl (fun K hK=>?_);go_wp2
       refine hK _ _ trivial ?_;clear hK K;have bU:=I (HST.J.2 _ rfl);unfold oK at bU;simp only[E.name,E.text]at bU;clear a0 a1 a2 a3 f0 f1 f2 f3 q3 z3 HST;generalize World.setCell _ ⟨g8,nk*4+3,none⟩ _=W9 at bU⊢
      all_goals
       refine jJ ?_;obtain⟨qG,fO,eY⟩:=bU.J;have jN:=I qG;have iE:=I fO;have jc:=I (qM.J.move eY (by omega));have zI:=I (show Touch (fun i=>i=g∨i=E0) w W9 from oC.J.trans' eY fun i hi=>hi.elim (fun h=>.inr (by omega)) fun h=>.inl (.inr h));clear qG fO eY bU;go_wp2_with fail
       refine(lS S g c7 l7 _ hS jc.J).mono ?_;rintro _ qm ⟨rfl,ht,hx⟩;have mq:=I (zI.J.trans (ht.mono fun _ h=>.inl h));have pz:=I (ht.blk jN.J fun h=>ni h);have yA:=I (iE.J.mv ht fun k hk _=>by omega);clear ht jN iE jc zI;generalize decide ((l7.dropWhile white).length<l7.length)=z9;cases hd7:l7.dropWhile white with
       |nil=>
        have aG:=I (show aD (au n) nm l c=.bad [] by rw[ja.J,zG wE.J HRR.J hd7];rfl);rw[hd7]at hx;have ji:=I hx;clear hx hd7;go_wp2_with fail
        refine(iZ S g c7 _ ji.J).mono ?_;rintro _ rO ⟨rfl,NV⟩;refine⟨rfl,(?_:XC S g E0 nm va w (aD (au n) nm l c) _ _)⟩;rw[aG.J];exact⟨rfl,mq.J.trans (NV.mono fun _ h=>.inl h)⟩
       |cons b7 l8=>
        rw[hd7]at hx;have ji:=I hx;have Ev:=I (show(b7::l8).length≤l7.length by rw[←hd7];exact(Xp.aX.dropWhile white l7).len)
        by_cases pR:b7=60
        ·have NW:((b7.toNat:Int) !=(60:Int))=false:=jm b7 60 pR
         have vg:=I (show aD (au n) nm l c=yR nm ws (jK (au n) (ks++[.mk en dZ iw jA]) l8 c7) by rw[ja.J,Xp.yP (fun l c=>Xp.jQ n l c) wE.J HRR.J (by rw[hd7,pR])]);rw[pR]at ji;have ql:=I pR;clear hx hd7 pR;go_wp2_with fail
         refine(bK S g c7 b7 l8 _ (by rw[ql.J];exact ji.J)).mono ?_;rintro _ rO ⟨rfl,lV⟩;have sN:=I (ji.J.fresh lV);have wF:=I (mq.J.trans (lV.mono fun _ h=>h.elim));have Ew:=I (lV.blk pz.J fun h=>h);have Ex:=I (yA.J.fresh lV);have HM:=I (jY sN.J);have mK:=I (Xp.jQ n (b::l2) c1).len;rw[HRR.J]at mK;clear lV;go_wp2
         go_roundw
         case rel=>
          refine⟨ks++[.mk en dZ iw jA],l8,some ⟨g8,0,none⟩,nk+1,c8,c7,I (by rw[List.length_append,qO.J];rfl),?_,vg,Ew,Ex,wF,sN⟩;have h1:=Ev.J;have h2:l7.length≤(b::l2).length:=mK.J;rw[List.length_cons]at h1 h2 hnk;omega
         case measure=>
          rw[HM.J,HP.J];have h0:=uw.J;have h1:=Ev.J;have h2:l7.length≤(b::l2).length:=mK.J;simp only[List.length_cons]at h0 h1 h2⊢;omega
        ·have NW:((b7.toNat:Int) !=(60:Int))=true:=jU b7 60 pR
         have aG:=I (show aD (au n) nm l c=.bad (b7::l8) by rw[ja.J,zH wE.J HRR.J hd7 pR];rfl);clear hx hd7 pR;go_wp2_with fail
         refine(bK S g c7 b7 l8 _ ji.J).mono ?_;rintro _ rO ⟨rfl,lV⟩;have sN:=I (ji.J.fresh lV);have wF:=I (mq.J.trans (lV.mono fun _ h=>h.elim));clear lV;go_wp2_with fail
         refine(iq S g (b7::l8) c7 _ sN.J).mono ?_;rintro _ xh ⟨rfl,rfl⟩;refine⟨rfl,(?_:XC S g E0 nm va w (aD (au n) nm l c) _ _)⟩;rw[aG.J];exact⟨rfl,wF.J⟩
theorem VF(S:ByteArray)(g n:Nat)(hS:S.size≤1099511627776)(hn:n<64)(hel:Cu S g n):abl S g n:=by
 intro d nm va E0 l c w hd hnm hE hB hX;cases hsp:bH (l.takeWhile white)with
 |true=>exact Zl S g n hS hn hel d nm va E0 l c w hd hnm hE hB hX hsp
 |false=>
  cases hz:(l.takeWhile white).all (fun b=>b==32)with
  |false=>exact Zo S g n hS hn hel d nm va E0 l c w hd hnm hE hB hX hsp hz
  |true=>exact SV S g n hS hn hel d nm va E0 l c w hd hnm hE hB hX hsp hz
theorem K8(S:ByteArray)(g:Nat)(hS:S.size≤1099511627776):∀n,n≤64→Cu S g n
 |0,_=>Vx S g
 |n+1,h=>SG S g n hS (by omega) (VF S g n hS (by omega) (K8 S g hS n (by omega)))
end
end Go.Proofs.YtnbeemkfmlfgfaaGreatDoor
