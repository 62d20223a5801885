/- Part 37 of 48 of a proof. No condition. -/
import Derived.Test.YtnbeemkfmlfgfaaGreatDoorTm36
set_option maxRecDepth 100000
set_option maxHeartbeats 8000000
namespace Go.Proofs.YtnbeemkfmlfgfaaGreatDoor
section
open Go.RowKit
open Xp (aX Q aR dD aM bA kG bB j4 mU bR mD kS gy iO bH uB iA)
open U (E aA)
attribute [local go_sem] jg stillUpon
def uh(cO:Q→E×Q)(ks:List E)(q:Q)(r:List E×Q):Prop:=∃f,mD cO f ks q=r∧(q.b=true∨q.l.length+2≤f)
theorem uh.bad{cO:Q→E×Q}{ks:List E}{q:Q}{r:List E×Q}(h:uh cO ks q r)(hb:q.b=true):r=(ks,q):=by
 obtain⟨f,h1,_⟩:=h;rw[←h1];cases f with
 |zero=>rfl
 |succ f=>rw[mD,if_pos hb]
theorem uh.stop{cO:Q→E×Q}{ks:List E}{q:Q}{r:List E×Q}(h:uh cO ks q r)(hb:q.b=false)(hp:aR (aM 60 q)=47):r=(ks,aM 60 q):=by
 obtain⟨f,h1,h2⟩:=h;have h2:q.l.length+2≤f:=h2.resolve_left (by rw[hb];decide);obtain⟨f,rfl⟩:∃k,f=k+1:=⟨f-1,by omega⟩;rw[←h1,mD,if_neg (by rw[hb];decide),if_pos hp]
theorem XF{q:Q}(_hb:q.b=false):(aM 60 q).b=true∨(aM 60 q).l.length<q.l.length:=by
 by_cases h:aR q=60
 ·right
  obtain⟨l,hq⟩:=zS (by decide) h;have h2:aM 60 q={q with l:=q.l.drop 1}:=if_pos h;rw[h2,congrArg Q.l hq];show l.length<(60::l).length;rw[List.length_cons];omega
 ·left
  have h2:aM 60 q=dD q:=if_neg h;rw[h2];rfl
def Gx(cO:Q→E×Q):Prop:=∀q,(q.b=true→(cO q).2.b=true)∧(cO q).2.l.length≤q.l.length
theorem OY{cO:Q→E×Q}(ho:Gx cO){q:Q}(hb:q.b=false):(bB (cO (aM 60 q)).2).b=true∨(bB (cO (aM 60 q)).2).l.length<q.l.length:=by
 rw[FQ];have h1:=ho (aM 60 q);have h2:=(sZ (cO (aM 60 q)).2).len
 rcases XF hb with h|h
 ·exact .inl (h1.1 h)
 ·exact .inr (by omega)
theorem XG{cO:Q→E×Q}(ho:Gx cO)(q:Q):(bB (cO (aM 60 q)).2).l.length≤q.l.length:=by
 have h1:=(ho (aM 60 q)).2;have h2:=(sZ (cO (aM 60 q)).2).len;have h3:=(qd 60 q).len;omega
theorem uh.step{cO:Q→E×Q}(ho:Gx cO){ks:List E}{q:Q}{r:List E×Q}(h:uh cO ks q r)(hb:q.b=false)(hp:¬aR (aM 60 q)=47):uh cO (ks++[(cO (aM 60 q)).1]) (bB (cO (aM 60 q)).2) r:=by
 obtain⟨f,h1,h2⟩:=h;have h2:q.l.length+2≤f:=h2.resolve_left (by rw[hb];decide);obtain⟨f,rfl⟩:∃k,f=k+1:=⟨f-1,by omega⟩;refine⟨f,?_,?_⟩
 ·rw[←h1,mD,if_neg (by rw[hb];decide),if_neg hp]
 ·rcases OY ho hb with h|h
  ·exact .inl h
  ·exact .inr (by omega)
theorem Gy{l:List UInt8}(h:bH l=true):l.length≤200:=by
 unfold bH at h;rw[Bool.and_eq_true,decide_eq_true_eq]at h;exact h.2
theorem Rx(q:Q):(j4 q).length≤q.l.length:=by
 unfold j4;split
 ·exact Nat.zero_le _
 ·exact(List.takeWhile_prefix _).length_le
theorem Uj(S:ByteArray)(g:Nat)(cO:Q→E×Q)(d:Int)(q:Q)(hS:S.size≤1099511627776)(yG:¬aR (bB q)=60):ME S g cO d q:=by
 intro nm va E0 w ni hB0 hX0;have HX:=I hX0;have HB:=I hB0;have Es:=hB0.lt;have hg0:=hX0.lt;obtain⟨R,hR⟩:∃R,R=bR cO q:=⟨_,rfl⟩;rw[←hR];obtain⟨gp,Jv⟩:∃gp,gp=j4 q:=⟨_,rfl⟩;obtain⟨qs,Jw⟩:∃qs,qs=bB q:=⟨_,rfl⟩;obtain⟨q2,hq2⟩:∃q2,q2=if bH gp then qs else dD qs:=⟨_,rfl⟩
 obtain⟨rr,hrr⟩:∃rr,rr=iO 60 (q2.l.length+2) gp q2:=⟨_,rfl⟩;have xm:=I (show R=(([],rr.1),bA [60,47] rr.2) by rw[hR,hrr,hq2,Jw,Jv];unfold bR;rw[if_pos yG]);have BO:=I (show uf 60 gp q2 rr from⟨_,hrr.symm,.inr (Nat.le_refl _)⟩);have IZ:=I (show gp.length≤S.size by rw[Jv];exact Nat.le_trans (Rx q) hX0.len);have nI:=I (fun(W:World) (h:Xq S g q W)=>show Calls Tryz.prog 66 #[.pointer (some ⟨g,0,none⟩)] W fun e w'=>e=.returned (.string ⟨gp.toArray⟩)∧Touch (fun b=>b=g) W w'∧Xq S g qs w' by rw[Jv,Jw];exact pX S g q W hS h)
 have Gz:=I (show gp.length≤200∨q2.b=true by
  rw[hq2];cases h:bH gp with
  |true=>exact .inl (Gy h)
  |false=>exact .inr rfl)
 rw[←Jw]at yG;have LG:=I hq2;have hpk:(((aR qs).toNat:Int) !=(60:Int))=true:=jU (aR qs) 60 yG;clear hR Jv Jw hq2 hrr hB0 hX0 yG;have qi:=I hpk;clear hpk;go_enter Tryz.func126,Tryz.ntmps126;go_wp2_with fail
 refine(nI.J _ HX.J).mono ?_;rintro _ w1 ⟨rfl,ht,hx⟩;have bS:=I hx;have HT1:=I ht;have HB1:=I (ht.blk HB.J fun h=>by omega);clear ht hx HX HB nI;go_wp2_with fail
 refine(jb S g qs _ bS.J).mono ?_;rintro _ w2 ⟨rfl,hf⟩;have eT:=I (bS.J.fresh hf);have HT2:=I (HT1.J.trans (hf.mono fun _ h=>h.elim));have HB2:=I (hf.blk HB1.J fun h=>h);clear hf bS HT1 HB1;have hpk:=qi.J;go_wp2_with fail
 clear hpk;refine(Gu ⟨gp.toArray⟩ _ (by have:=IZ.J;show gp.length≤_;omega)).mono ?_;rintro _ w3 ⟨rfl,hw⟩;replace hw:=hw.symm;subst hw;obtain⟨e0,e1,e2,e3,y0,y1,y2,y3,hlb⟩:=O.four HB2.J;obtain⟨_,_,_,p3,f0,f1,f2,f3,hg⟩:=O.four eT.J.blk;rw[show(⟨gp.toArray⟩:ByteArray).data.toList=gp from rfl];cases hsp:bH gp
 focus
  have iP:=I (show Xq S g q2 ((w2.setCell ⟨g,3,none⟩ (.bool true)).setCell ⟨E0,3,none⟩ (.string ⟨gp.toArray⟩)) by
   rw[LG.J,hsp];exact eT.J.stop.move ((M (fun k=>k=E0) _).setCell (p:=⟨E0,3,none⟩) (.inl rfl) _) (by omega))
  have HB3:=I (show O ((w2.setCell ⟨g,3,none⟩ (.bool true)).setCell ⟨E0,3,none⟩ (.string ⟨gp.toArray⟩)) E0 45 #[.string ⟨nm.toArray⟩,va,.slice none 0 0,.string ⟨gp.toArray⟩]from(HB2.J.far (p:=⟨g,3,none⟩) (by show E0≠g;omega) (.bool true)).put 3 _);have HT3:=I (show Touch (fun b=>b=g∨b=E0) w ((w2.setCell ⟨g,3,none⟩ (.bool true)).setCell ⟨E0,3,none⟩ (.string ⟨gp.toArray⟩))from((HT2.J.mono fun _ h=>.inl h).setCell (p:=⟨g,3,none⟩) (.inl (.inl rfl)) _).setCell (p:=⟨E0,3,none⟩) (.inl (.inr rfl)) _);clear hsp eT HT2 HB2;go_wp2_with fail
  generalize ((w2.setCell ⟨g,3,none⟩ (.bool true)).setCell ⟨E0,3,none⟩ (.string ⟨gp.toArray⟩))=w4 at iP HB3 HT3⊢;clear e0 e1 e2 e3 y0 y1 y2 y3 hlb p3 f0 f1 f2 f3 hg
 rotate_left
 focus
  have iP:=I (show Xq S g q2 (w2.setCell ⟨E0,3,none⟩ (.string ⟨gp.toArray⟩)) by
   rw[LG.J,hsp];exact eT.J.move ((M (fun k=>k=E0) _).setCell (p:=⟨E0,3,none⟩) (.inl rfl) _) (by omega))
  have HB3:=I (show O (w2.setCell ⟨E0,3,none⟩ (.string ⟨gp.toArray⟩)) E0 45 #[.string ⟨nm.toArray⟩,va,.slice none 0 0,.string ⟨gp.toArray⟩]from HB2.J.put 3 _);have HT3:=I (show Touch (fun b=>b=g∨b=E0) w (w2.setCell ⟨E0,3,none⟩ (.string ⟨gp.toArray⟩))from(HT2.J.mono fun _ h=>.inl h).setCell (p:=⟨E0,3,none⟩) (.inl (.inr rfl)) _);clear hsp eT HT2 HB2;go_wp2_with fail
  generalize (w2.setCell ⟨E0,3,none⟩ (.string ⟨gp.toArray⟩))=w4 at iP HB3 HT3⊢;clear e0 e1 e2 e3 y0 y1 y2 y3 hlb p3 f0 f1 f2 f3 hg
 all_goals
  go_loopw [] (fun wQ=>∃(wr:World) (acc:List UInt8) (q4:Q),wr=wQ∧acc.length≤S.size+200∧Hd (acc.length≤200∨q4.b=true)∧Hd (uf 60 acc q4 rr)∧Hd (Xq S g q4 wr)∧Hd (Touch (fun b=>b=g∨b=E0) w wr)∧
   Hd (O wr E0 45 #[.string ⟨nm.toArray⟩,va,.slice none 0 0,.string ⟨acc.toArray⟩])) (fun wr=>Rw S g wr)
  case atStart=>exact⟨_,gp,q2,rfl,by have:=IZ.J;omega,Gz,BO,iP,HT3,HB3⟩
  case round=>
   clear BO iP HT3 HB3 Gz;obtain⟨wr,acc,q4,rfl,hacc,Gz,BO,HX,HT,HB⟩:=hrel;have zT:=I (yo HX.J);obtain⟨_,_,_,q3,f0,f1,f2,f3,hg⟩:=O.four HX.J.blk;obtain⟨b,hb⟩:∃b,q4.b=b:=⟨_,rfl⟩;rw[hb]at q3;have fT:=I hb;clear hb
   have iV:(b=true∧rr=(acc,q4))∨(b=false∧(((aR q4).toNat:Int) !=(60:Int))=false∧rr=(acc,q4))∨(b=false∧(((aR q4).toNat:Int) !=(60:Int))=true∧aR q4≠60):=by
    cases hz:b with
    |true=>exact .inl ⟨rfl,BO.J.stop (.inl (fT.J.trans hz))⟩
    |false=>
     by_cases hp:aR q4=60
     ·exact .inr (.inl ⟨rfl,jm _ 60 hp,BO.J.stop (.inr hp)⟩)
     ·exact .inr (.inr ⟨rfl,jU _ 60 hp,hp⟩)
   rcases iV with⟨hb,hrr⟩|⟨hb,hpk,hrr⟩|⟨hb,hpk,hne⟩
   focus
    subst hb;have HRR:=I hrr;have dI:=HX;have eu:=HT;have bV:=HB;clear hrr HX HT HB zT fT Gz;go_wp2_with fail
   rotate_left
   focus
    subst hb;have HRR:=I hrr;have HP:=I hpk;clear hrr hpk;go_wp2_with fail
    refine(jb S g q4 _ HX.J).mono ?_;rintro _ w5 ⟨rfl,hf⟩;have dI:=I (HX.J.fresh hf);have eu:=I (HT.J.trans (hf.mono fun _ h=>h.elim));have bV:=I (hf.blk HB.J fun h=>h);have hpk:=HP.J;clear hf HX HT HB zT fT HP Gz;go_wp2_with fail
    clear hpk
   rotate_left
   focus
    subst hb;have HP:=I hpk;have aau:=I (BO.J.step fT.J hne);have agy:acc.length≤200:=Gz.J.resolve_right (by rw[fT.J];decide);have aaw:=I (H7 agy q4);have hln:=H6 acc.length q4;have Ai:=I (E5 acc.length fT.J);have qJ:=I (fun(W:World) (h:Xq S g q4 W)=>LD S g acc.length q4 W hS h);clear hpk hne hacc;go_wp2_with fail
    refine(jb S g q4 _ HX.J).mono ?_;rintro _ w5 ⟨rfl,hf⟩;have dI:=I (HX.J.fresh hf);have eu:=I (HT.J.trans (hf.mono fun _ h=>h.elim));have bV:=I (hf.blk HB.J fun h=>h);have hpk:=HP.J;clear hf HX HT HB HP;generalize iA acc.length q4=cq at*;obtain⟨ct,q5⟩:=cq;simp only at aaw hln;have hadd:∀W:World,(Op.stringOp .add ⟨acc.toArray⟩ ⟨ct.toArray⟩).run Tryz.prog W=.ok (.string ⟨(acc++ct).toArray⟩) W:=fun W=>run_string_add_lists W acc ct (by omega) (by omega)
    obtain⟨_,_,_,e3,_,_,_,_,hlb⟩:=O.four bV.J;go_wp2_with fail
    have k1:=cT (S:=fun k=>k=g) e3 ni;clear hpk q3 f0 f1 f2 f3 hg e3 hlb hln
    refine fu (fun W=>∃x:Turned (fun k=>k=g) w5,W=x.W) (bq.of [(0,true),(1,true),(2,true),(3,true),(4,true),(5,true),(6,true),(7,true),(8,true),(9,true),(10,true)] (.lone 11 (.plain 12 .nil))) [0,1,2,3,4,5,6,7,8,9,10,11,12] 13 (Array.replicate 13 true++Array.replicate 3 false) (fun _=>True)
     (.plain 14 (.lone 15 .nil)) [14,15] (Array.replicate 16 true) (by kernel_rfl) (fun _ _ d _ _ h=>by cases d<;>exact h) (by kernel_rfl) ⟨⟨_,(M _ _).drewN 1⟩,rfl⟩ ?_
    unfold bq.of
    repeat(refine aS rfl (fun K hK=>?_);go_simp;refine hK _ ?_;clear hK K;first|done|unfold bq.of)
    clear k1;refine ax rfl (fun K hK=>?_);go_wp2_with fail
    refine(qJ.J _ (dI.J.fresh ((M _ _).drewN 1))).mono ?_;rintro _ w7 ⟨rfl,ht,hx⟩;have jV:=I hx;have dS:=I (show Touch (fun k=>k=g) w5 w7 from((M _ w5).drewN 1).trans ht);have ql:=I (dS.J.blk bV.J fun h=>ni h);clear ht hx;go_wp2
    refine hK _ _ ⟨⟨_,dS.J⟩,rfl⟩ ?_;clear hK K;refine aS rfl (fun K hK=>?_);go_simp;refine hK _ ?_;clear hK K;refine iY rfl (fun K hK=>?_);obtain⟨_,_,_,y3,_,_,_,z3,hlb⟩:=O.four ql.J;go_wp2
    refine hK _ _ trivial ?_;clear hK K;refine aS rfl (fun K hK=>?_);go_simp;refine hK _ ?_;clear hK K;refine ax rfl (fun K hK=>?_);go_wp2
    refine hK _ _ trivial ?_;clear hK K;have eY:=(M (fun k=>k=E0) w7).setCell (p:=⟨E0,3,none⟩) (.inl rfl) (.string ⟨(acc++ct).toArray⟩);have jN:=I (show O (w7.setCell ⟨E0,3,none⟩ (.string ⟨(acc++ct).toArray⟩)) E0 45 #[.string ⟨nm.toArray⟩,va,.slice none 0 0,.string ⟨(acc++ct).toArray⟩]from ql.J.put 3 _);have jc:=I (jV.J.move eY (by omega));have bU:=I ((eu.J.trans (dS.J.mono fun _ h=>.inl h)).trans (eY.mono fun _ h=>.inr h));have HM:=I (yo jc.J);clear eY y3 z3 hlb;refine jJ ?_;go_wp2
    refine⟨⟨_,acc++ct,q5,rfl,by have:=aaw.J;omega,I (.inl aaw.J),aau,jc,bU,jN⟩,?_⟩;rw[HM.J,zT.J,fT.J];show _<q4.l.length+1
    rcases Ai.J with h|h
    ·rw[show q5.b=true from h,if_pos rfl];omega
    ·have h:q5.l.length<q4.l.length:=h
     split<;>omega
   all_goals
    refine(rG S ⟨#[60,47]⟩ g q4 _ hS (by decide) (by decide) dI.J).mono ?_;rintro _ w6 ⟨rfl,ht,hx⟩;have fD:=I (show Xq S g (bA [60,47] q4) w6 from hx);have dB:=I (eu.J.trans (ht.mono fun _ h=>.inl h));have iM:=I (ht.blk bV.J fun h=>ni h);clear ht hx dI eu bV q3 f0 f1 f2 f3 hg;go_wp2
    refine bodyPost_ret (v:=.tuple #[]) (results_none rfl _ _ _) rfl ?_;rw[xm.J,HRR.J];exact⟨rfl,none,0,0,iM.J,by simp only[maxLen];omega,fun _ _=>dL.nil none 0,dB.J,fD.J⟩
theorem Uk(S:ByteArray)(g:Nat)(cO:Q→E×Q)(d:Int)(q:Q)(hS0:S.size≤1000000000000)(hd1:-1000≤d)(hd2:d≤1000)(ho:Gx cO)(hel:q.b=false→MC S g cO (d+1))(yG:aR (bB q)=60):ME S g cO d q:=by
 intro nm va E0 w ni hB0 hX0;have hS:S.size≤1099511627776:=by omega
 have HX:=I hX0;have HB:=I hB0;have Es:=hB0.lt;have hg0:=hX0.lt
 have hqb:q.b=false:=by
  obtain⟨l,hq⟩:=zS (by decide) yG;have h:=congrArg Q.b hq;rw[FQ]at h;exact h
 have pg:=I (hel hqb);have HON:=I ho;obtain⟨R,hR⟩:∃R,R=bR cO q:=⟨_,rfl⟩;rw[←hR];obtain⟨gp,Jv⟩:∃gp,gp=j4 q:=⟨_,rfl⟩;obtain⟨qs,Jw⟩:∃qs,qs=bB q:=⟨_,rfl⟩;obtain⟨rr,hrr⟩:∃rr,rr=mD cO (qs.l.length+2) [] qs:=⟨_,rfl⟩;have xm:=I (show R=((rr.1,if rr.1.isEmpty&&bH gp then gp else []),aM 47 rr.2) by rw[hR,hrr,Jw,Jv];unfold bR;rw[if_neg (fun h=>h yG)]);have Jy:=I (show uh cO [] qs rr from⟨_,hrr.symm,.inr (Nat.le_refl _)⟩);have IZ:=I (show gp.length≤S.size by rw[Jv];exact Nat.le_trans (Rx q) hX0.len);have nI:=I (fun(W:World) (h:Xq S g q W)=>show Calls Tryz.prog 66 #[.pointer (some ⟨g,0,none⟩)] W fun e w'=>e=.returned (.string ⟨gp.toArray⟩)∧Touch (fun b=>b=g) W w'∧Xq S g qs w' by rw[Jv,Jw];exact pX S g q W hS h);rw[←Jw]at yG;have hpk:(((aR qs).toNat:Int) !=(60:Int))=false:=jm (aR qs) 60 yG;have hwd:IntKind.i64.wrap (d+1)=d+1:=IntWalk.i64_in _ (by omega);have NS:=I hwd;clear hR Jv Jw hrr hB0 hX0 yG hel ho hqb hwd hd1 hd2;have qi:=I hpk;clear hpk;go_enter Tryz.func126,Tryz.ntmps126;go_wp2_with fail
 refine(nI.J _ HX.J).mono ?_;rintro _ w1 ⟨rfl,ht,hx⟩;have bS:=I hx;have HT1:=I ht;have HB1:=I (ht.blk HB.J fun h=>by omega);clear ht hx HX HB nI;go_wp2_with fail
 refine(jb S g qs _ bS.J).mono ?_;rintro _ w2 ⟨rfl,hf⟩;have eT:=I (bS.J.fresh hf);have HT2:=I (show Touch (fun b=>b=g∨b=E0) w w2 from(HT1.J.trans (hf.mono fun _ h=>h.elim)).mono fun _ h=>.inl h);have HB2:=I (hf.blk HB1.J fun h=>h);have HG2:=I (show dO w.heap.size w2 [] (.slice none 0 0)from dO.nil HT2.J.size);have HLQ:=I eT.J.len;clear hf bS HT1 HB1;have hpk:=qi.J;go_wp2_with fail
 clear hpk
 go_loopw [] (fun wQ=>∃(wr:World) (ks:List E) (q4:Q) (A:Option Addr) (nk cp:Nat),wr=wQ∧Hd (ks.length=nk)∧nk≤S.size+1∧Hd (nk+q4.l.length≤S.size∨q4.b=true)∧Hd (uh cO ks q4 rr)∧Hd (O wr E0 45 #[.string ⟨nm.toArray⟩,va,.slice A nk cp,.string ⟨#[]⟩])∧
  Hd (dO w.heap.size wr ks (.slice A nk cp))∧Hd (Touch (fun b=>b=g∨b=E0) w wr)∧Hd (Xq S g q4 wr)) (fun wr=>Rw S g wr)
 case atStart=>exact⟨_,[],qs,none,0,0,rfl,I rfl,Nat.zero_le _,I (.inl (by have:=HLQ.J;omega)),Jy,HB2,HG2,HT2,eT⟩
 case round=>
  clear Jy HB2 HG2 HT2 eT;obtain⟨wr,ks,q4,A,nk,cp,rfl,qO,hnk,HNB,Jy,HB,HG,HT,HX⟩:=hrel;have zT:=I (yo HX.J);have hEl:=HB.J.lt;have hgs:=HX.J.lt;obtain⟨_,_,_,q3,f0,f1,f2,f3,hg⟩:=O.four HX.J.blk;obtain⟨b,hb⟩:∃b,q4.b=b:=⟨_,rfl⟩;rw[hb]at q3;have fT:=I hb;clear hb
  have iV:(b=true∧rr=(ks,q4))∨(b=false∧(((aR (aM 60 q4)).toNat:Int)==(47:Int))=true∧rr=(ks,aM 60 q4))∨(b=false∧(((aR (aM 60 q4)).toNat:Int)==(47:Int))=false∧¬aR (aM 60 q4)=47):=by
   cases hz:b with
   |true=>exact .inl ⟨rfl,Jy.J.bad (fT.J.trans hz)⟩
   |false=>
    by_cases hp:aR (aM 60 q4)=47
    ·exact .inr (.inl ⟨rfl,by rw[hp];rfl,Jy.J.stop (fT.J.trans hz) hp⟩)
    ·exact .inr (.inr ⟨rfl,qX _ 47 hp,hp⟩)
  rcases iV with⟨hb,hrr⟩|⟨hb,hpk,hrr⟩|⟨hb,hpk,hne⟩
  focus
   subst hb;have HRR:=I hrr;have dI:=HX;have eu:=HT;have bV:=HB;have oD:=HG;clear hrr HX HT HB HG zT fT HNB Jy;go_wp2_with fail
   generalize q4=q5 at dI HRR⊢
  rotate_left
  focus
   subst hb;have HRR:=I hrr;have HP:=I hpk;clear hrr hpk;go_wp2_with fail
   refine(oI S g 60 q4 _ hS (by decide) HX.J).mono ?_;rintro _ w4 ⟨rfl,ht,hx⟩;have gD:=I hx;have iU:=I (HT.J.trans (ht.mono fun _ h=>.inl h));have iI:=I (ht.blk HB.J fun h=>ni h);have Ei:=I (HG.J.mv ht fun k hk _=>by omega);clear ht hx HX HT HB HG zT fT HNB Jy;generalize aM 60 q4=q5 at*;go_wp2_with fail
   refine(jb S g q5 _ gD.J).mono ?_;rintro _ w5 ⟨rfl,hf⟩;have dI:=I (gD.J.fresh hf);have eu:=I (iU.J.trans (hf.mono fun _ h=>h.elim));have bV:=I (hf.blk iI.J fun h=>h);have oD:=I (Ei.J.fresh hf);have hpk:=HP.J;clear hf gD iU iI Ei HP;go_wp2_with fail
   clear hpk
  rotate_left
  focus
   subst hb;have HP:=I hpk;have ad5:=I (Jy.J.step HON.J fT.J hne);have Ai:=I (OY HON.J fT.J);have uw:=I (XG HON.J q4);have kr:=I (HNB.J.resolve_right (by rw[fT.J];decide));clear hpk hne HNB Jy;go_wp2_with fail
   refine(oI S g 60 q4 _ hS (by decide) HX.J).mono ?_;rintro _ w4 ⟨rfl,ht,hx⟩;have gD:=I hx;have iU:=I (HT.J.trans (ht.mono fun _ h=>.inl h));have iI:=I (ht.blk HB.J fun h=>ni h);have Ei:=I (HG.J.mv ht fun k hk _=>by omega);clear ht hx HX HT HB HG q3 f0 f1 f2 f3 hg;generalize aM 60 q4=q5 at*;go_wp2_with fail
   refine(jb S g q5 _ gD.J).mono ?_;rintro _ w6 ⟨rfl,hf⟩;have fD:=I (gD.J.fresh hf);have dB:=I (iU.J.trans (hf.mono fun _ h=>h.elim));have iM:=I (hf.blk iI.J fun h=>h);have lG:=I (Ei.J.fresh hf);have hpk:=HP.J;clear hf gD iU iI Ei HP;obtain⟨e0,e1,e2,e3,y0,y1,y2,y3,hlb⟩:=O.four iM.J;have Zm:=iM.J.lt;have Zn:=fD.J.lt;go_wp2_with fail
   have k1:=cT (S:=fun k=>k=g) e2 ni;clear e0 e1 e2 e3 y0 y1 y2 y3 hlb hpk hEl hgs;have hwd:=NS.J;have Q4:=I (fun(W:World) (h:Xq S g q5 W)=>pg.J q5 W h);generalize cO q5=er at*;obtain⟨⟨en,dZ,iw,jA⟩,q6⟩:=er;simp only at Q4 ad5 Ai uw
   refine fu (fun W=>∃x:Turned (fun k=>k=g) w6,W=x.W) (bq.of [(0,true),(1,true),(2,true),(3,true),(4,true),(5,true),(6,true),(8,true)] (.fork 7 (.lone 9 .nil) 9 (.lone 7 .nil))) [0,1,2,3,4,5,6,7,8,9] 10 (Array.replicate 10 true++Array.replicate 6 false) (fun _=>True)
     (bq.of [(11,true),(13,true),(14,true)] (.fork 12 (.lone 15 .nil) 15 (.lone 12 .nil))) [11,12,13,14,15] (Array.replicate 16 true) (by kernel_rfl) (fun _ _ d _ _ h=>by cases d<;>exact h) (by kernel_rfl) ⟨⟨_,(M _ _).drewN 1⟩,rfl⟩ ?_
   unfold bq.of
   repeat(refine aS rfl (fun K hK=>?_);go_simp;refine hK _ ?_;clear hK K;first|done|unfold bq.of)
   clear k1;refine fB ?_ ?_
   focus
    refine ax rfl (fun K hK=>?_);go_wp2_with fail
    refine(Q4.J _ (fD.J.fresh ((M _ _).drewN 1))).mono ?_;rintro _ w7 ⟨ea,ek,rfl,ht,hst,hx⟩;obtain⟨Aa,ca,oF⟩:=hst.now.1.slice;obtain⟨Ab,cb,eB⟩:=hst.now.2.1.slice;simp only[E.kids,E.attrs]at oF eB;subst oF eB;unfold ev;simp only[E.name,E.text];have dS:=I (show Touch (fun k=>k=g) w6 w7 from((M _ w6).drewN 1).trans ht);have jR:=I (show aZ (fun k=>k<w6.heap.size) w7 fun W=>bN W (.mk en dZ iw jA) (.slice Aa dZ.length ca) (.slice Ab iw.length cb)from hst);have jV:=I hx;clear ht hst hx;go_wp2
    refine hK _ _ ⟨⟨_,dS.J⟩,rfl⟩ ?_;clear hK K;refine ax rfl (fun K hK=>?_);go_wp2
    refine hK _ _ ⟨⟨_,dS.J.alloc _⟩,rfl⟩ ?_;clear hK K;have dX:=I (O.new w7 45 Z);have gq:=I (dS.J.alloc (.cells Z 45));have lC:=I (jV.J.fresh ((M _ w7).alloc (.cells Z 45)));have mI:=I (jR.J.fresh ((M _ w7).alloc (.cells Z 45)));generalize (w7.alloc (.cells Z 45))=wA at dX gq lC mI⊢;obtain⟨bz,hbz⟩:∃b,b=w7.heap.size:=⟨_,rfl⟩;rw[←hbz]at dX⊢;clear hbz dS jR jV
   rotate_left
   focus
    refine ax rfl (fun K hK=>?_);go_wp2
    refine hK _ _ ⟨⟨_,((M _ w6).drewN 1).alloc _⟩,rfl⟩ ?_;clear hK K;have vv:=I (show O ((w6.drewN 1).alloc (.cells Z 45)) w6.heap.size 45 Z from O.new (w6.drewN 1) 45 Z);have eZ:=I (show ag w6 ((w6.drewN 1).alloc (.cells Z 45))from((M _ w6).drewN 1).alloc _);have dS:=I (show Touch (fun k=>k=g) w6 ((w6.drewN 1).alloc (.cells Z 45))from((M _ w6).drewN 1).alloc _);generalize ((w6.drewN 1).alloc (.cells Z 45))=w7 at vv eZ dS⊢;obtain⟨bz,hbz⟩:∃b,b=w6.heap.size:=⟨_,rfl⟩;have yf:=I (show w6.heap.size≠g by omega);refine ax rfl (fun K hK=>?_);go_wp2_with fail
    refine(Q4.J _ (fD.J.fresh eZ.J)).mono ?_;rintro _ wA ⟨ea,ek,rfl,ht,hst,hx⟩;obtain⟨Aa,ca,oF⟩:=hst.now.1.slice;obtain⟨Ab,cb,eB⟩:=hst.now.2.1.slice;simp only[E.kids,E.attrs]at oF eB;subst oF eB;unfold ev;simp only[E.name,E.text];have gq:=I (show Touch (fun k=>k=g) w6 wA from dS.J.trans ht);have mI:=I (show aZ (fun k=>k<w6.heap.size) wA fun W=>bN W (.mk en dZ iw jA) (.slice Aa dZ.length ca) (.slice Ab iw.length cb)from hst.mono fun i _ hi=>Nat.lt_of_lt_of_le hi eZ.J.size);have lC:=I hx;have dX:=I (ht.blk vv.J yf.J);clear ht hst hx;go_wp2
    refine hK _ _ ⟨⟨_,gq.J⟩,rfl⟩ ?_;clear hK K;rw[←hbz]at dX⊢;clear hbz dS vv eZ yf
   all_goals
    have nu:=I (lG.J.mv gq.J fun k hk _=>by omega);have HOW:=I lG.J.jE;have lH:=I (gq.J.blk iM.J fun h=>ni h);have uO:=I dB.J.size;have Cz:=I (show nk<2^40 by have h:=kr.J;omega);refine iY rfl (fun K hK=>?_)
    go_wp2_with (at_builtin;go_loud (refine o8 rfl (.tmp 62) (.tmp 68) rfl nu.J qO.J (by simp[Act.eval]) (.mk en dZ iw jA) dX.J (by simp[Act.eval]) w6.heap.size uO.J (fun k hk=>(HOW.J k hk).2) mI.J Cz.J ?_);intro A8 c8 w8 gJ bW;refine iC.mk ?_)
    obtain⟨g8,Kc,BK,FH,Ke,Kg,a0,a1,a2,a3,f0,f1,f2,f3⟩:=gJ.cells qO.J;cases BK;have xg:=bW.blk lH.J fun h=>by have:=(HOW.J _ h).1;omega
    have qM:=I (lC.J.move bW fun h=>by have:=(HOW.J _ h).1;omega);have oC:=I (show Touch (fun i=>i=g∨i=E0) w w8 from(dB.J.trans (gq.J.mono fun i hi=>.inl hi)).trans' bW fun k hk=>.inr (by have:=(HOW.J _ hk).1;omega));have HST:=I (gJ.stores qO.J xg Es);obtain⟨_,_,q3,_,_,_,z3,_,wo⟩:=O.four xg;have hne:E0≠g8:=by omega
    have hne':g8≠E0:=by omega
    have hr1:(nk:Int)<(nk:Int)+1:=by omega
    clear bW xg gJ;refine iC.go ?_;go_wp2
    refine hK _ _ trivial ?_;clear hK K
    repeat(refine aS rfl (fun K hK=>?_);go_simp;refine hK _ ?_;clear hK K)
    refine fB ?_ ?_
    focus
     refine ax rfl (fun K hK=>?_);go_wp2
     refine hK _ _ trivial ?_;clear hK K;refine ax rfl (fun K hK=>?_);go_wp2
     refine hK _ _ trivial ?_;clear hK K;have bU:=I (HST.J.1 _ rfl);unfold oK at bU;simp only[E.name,E.text]at bU;clear a0 a1 a2 a3 f0 f1 f2 f3 q3 z3 HST;generalize World.setCell _ ⟨E0,2,none⟩ _=W9 at bU⊢
    rotate_left
    focus
     refine ax rfl (fun K hK=>?_);go_wp2
     refine hK _ _ trivial ?_;clear hK K;refine ax rfl (fun K hK=>?_);go_wp2
     refine hK _ _ trivial ?_;clear hK K;have bU:=I (HST.J.2 _ rfl);unfold oK at bU;simp only[E.name,E.text]at bU;clear a0 a1 a2 a3 f0 f1 f2 f3 q3 z3 HST;generalize World.setCell _ ⟨g8,nk*4+3,none⟩ _=W9 at bU⊢
    all_goals
     refine jJ ?_;obtain⟨qG,fO,eY⟩:=bU.J;have jN:=I qG;have iE:=I fO;have jc:=I (qM.J.move eY (by omega));have zI:=I (show Touch (fun i=>i=g∨i=E0) w W9 from oC.J.trans' eY fun i hi=>hi.elim (fun h=>.inr (by omega)) fun h=>.inl (.inr h));clear qG fO eY bU;go_wp2_with fail
     refine(pX S g q6 _ hS jc.J).mono ?_;rintro _ qm ⟨rfl,ht,hx⟩;have ji:=I hx;have mq:=I (zI.J.trans (ht.mono fun _ h=>.inl h));have pz:=I (ht.blk jN.J fun h=>ni h);have yA:=I (iE.J.mv ht fun k hk _=>by omega);have HM:=I (yo ji.J);clear ht hx jN iE jc zI;go_wp2
     refine⟨⟨_,ks++[.mk en dZ iw jA],bB q6,some ⟨g8,0,none⟩,nk+1,c8,rfl,I (by rw[List.length_append,qO.J];rfl),by have:=kr.J;omega,I ?_,ad5,pz,yA,mq,ji⟩,?_⟩
     ·have h1:=kr.J
      rcases Ai.J with h|h
      ·exact .inr h
      ·exact .inl (by omega)
     ·rw[HM.J,zT.J,fT.J]
      show _<q4.l.length+1
      rcases Ai.J with h|h
      ·rw[h,if_pos rfl];omega
      ·split<;>omega
  all_goals
   clear q3 f0 f1 f2 f3 hg;refine(oI S g 47 q5 _ hS (by decide) dI.J).mono ?_;rintro _ w6 ⟨rfl,ht,hx⟩;have fD:=I hx;have dB:=I (eu.J.trans (ht.mono fun _ h=>.inl h));have iM:=I (ht.blk bV.J fun h=>ni h);have lG:=I (oD.J.mv ht fun k hk _=>by omega);clear ht hx dI eu bV oD;obtain⟨e0,e1,e2,e3,y0,y1,y2,y3,hlb⟩:=O.four iM.J
   by_cases hk0:nk=0
   ·have d0:((nk:Int)==(0:Int))=true:=by rw[hk0];rfl
    have yc:=I (show ks=[]from List.length_eq_zero_iff.1 (by rw[qO.J];exact hk0));have HFI:=I (show R=((ks,if bH gp then gp else []),aM 47 q5) by rw[xm.J,HRR.J,yc.J];rfl);clear hk0;go_wp2_with fail
    refine(Gu ⟨gp.toArray⟩ _ (by have:=IZ.J;show gp.length≤_;omega)).mono ?_;rintro _ w7 ⟨rfl,hw⟩;replace hw:=hw.symm;subst hw;rw[show(⟨gp.toArray⟩:ByteArray).data.toList=gp from rfl];cases hsp:bH gp with
    |false=>
     go_wp2
     refine bodyPost_end (v:=.tuple #[]) (results_none rfl _ _ _) rfl ?_;rw[HFI.J,hsp];exact⟨rfl,_,_,_,iM.J,Nat.zero_le _,lG.J.done,dB.J,fD.J⟩
    |true=>
     have NU:=I (Gy hsp);have eY:=(M (fun k=>k=E0) w6).setCell (p:=⟨E0,3,none⟩) (.inl rfl) (.string ⟨gp.toArray⟩);have jN:=I (show O (w6.setCell ⟨E0,3,none⟩ (.string ⟨gp.toArray⟩)) E0 45 #[.string ⟨nm.toArray⟩,va,.slice A nk cp,.string ⟨gp.toArray⟩]from iM.J.put 3 _);have jc:=I (fD.J.move eY (by omega));have bU:=I (dB.J.trans (eY.mono fun _ h=>.inr h));have iE:=I ((lG.J.mv eY fun k hk _=>by omega).done);clear eY;go_wp2
     refine bodyPost_end (v:=.tuple #[]) (results_none rfl _ _ _) rfl ?_;rw[HFI.J,hsp];exact⟨rfl,_,_,_,jN.J,(by have:=NU.J;simp only[maxLen];show gp.length≤_;omega),iE.J,bU.J,jc.J⟩
   ·have d0:((nk:Int)==(0:Int))=false:=by rw[beq_eq_false_iff_ne];omega
    have yc:=I (show ks.isEmpty=false by
     cases hks:ks with
     |nil=>have:=qO.J;rw[hks]at this;exact absurd this.symm hk0
     |cons x xs=>rfl)
    have HFI:=I (show R=((ks,[]),aM 47 q5) by rw[xm.J,HRR.J];show((ks,if ks.isEmpty&&bH gp then gp else []),aM 47 q5)=_;rw[yc.J];rfl);clear hk0;go_wp2
    refine bodyPost_end (v:=.tuple #[]) (results_none rfl _ _ _) rfl ?_;rw[HFI.J];exact⟨rfl,_,_,_,iM.J,Nat.zero_le _,lG.J.done,dB.J,fD.J⟩
end
end Go.Proofs.YtnbeemkfmlfgfaaGreatDoor
