/- Part 35 of 48 of a proof. No condition. -/
import Derived.Test.YtnbeemkfmlfgfaaGreatDoorTm34
set_option maxRecDepth 100000
set_option maxHeartbeats 4000000
namespace Go.Proofs.YtnbeemkfmlfgfaaGreatDoor
section
open Go.RowKit
open Xp (aX Q aR dD aM bA dz kY iA kN iO iB)
open U (E aA)
attribute [local go_sem] jg stillUpon
def Rw(S:ByteArray)(g:Nat)(w:World):Nat:=match w.cell? ⟨g,3,none⟩with
 |some (.bool true)=>0
 |_=>S.size-posOf g w+1
theorem yo{S:ByteArray}{g:Nat}{q:Q}{w:World}(h:Xq S g q w):Rw S g w=if q.b then 0 else q.l.length+1:=by
 have hl:=h.len;have h3:w.cell? ⟨g,3,none⟩=some (.bool q.b):=(O.four h.blk).2.2.2.1;unfold Rw;rw[BN h,h3];cases q.b with
 |true=>rfl
 |false=>
  show S.size-(S.size-q.l.length)+1=q.l.length+1;omega
theorem Xx{n:Nat}{q:Q}(h:¬kN n (aR q)=true):aX (iA n q).2.l (q.l.drop 1):=by
 unfold iA;rw[if_neg h]
 repeat' split
 ·exact aX.refl _
 all_goals exact ym _ _
theorem E5(n:Nat){q:Q}(_h:q.b=false):(iA n q).2.b=true∨(iA n q).2.l.length<q.l.length:=by
 by_cases hb:kN n (aR q)=true
 ·left
  unfold iA;rw[if_pos hb];rfl
 ·right
  have h2:=(Xx hb).len
  have hpz:aR q≠0:=by
   intro e;rw[e]at hb;exact hb (by unfold kN;simp)
  obtain⟨l,hq⟩:=zS hpz rfl;have hl:q.l.length=l.length+1:=by rw[congrArg Q.l hq];rfl
  rw[List.length_drop]at h2;omega
theorem H7{acc:List UInt8}(h:acc.length≤200)(q:Q):(acc++(iA acc.length q).1).length≤200:=by
 by_cases h2:acc.length=200
 ·have:iA acc.length q=([],dD q):=by
   unfold iA;rw[if_pos (by unfold kN;rw[h2];simp)]
  rw[this,List.append_nil];exact h
 ·have:=H6 acc.length q
  rw[List.length_append];omega
def uf(s:UInt8)(acc:List UInt8)(q:Q)(r:List UInt8×Q):Prop:=∃f,iO s f acc q=r∧(q.b=true∨q.l.length+2≤f)
theorem uf.stop{s:UInt8}{acc:List UInt8}{q:Q}{r:List UInt8×Q}(h:uf s acc q r)(hx:q.b=true∨aR q=s):r=(acc,q):=by
 obtain⟨f,h1,_⟩:=h;rw[←h1];cases f with
 |zero=>rfl
 |succ f=>
  rw[iO,if_neg (by
   rintro⟨a,b⟩
   rcases hx with h|h
   ·rw[h]at a;cases a
   ·exact b h)]
theorem uf.step{s:UInt8}{acc:List UInt8}{q:Q}{r:List UInt8×Q}(h:uf s acc q r)(hb:q.b=false)(hp:aR q≠s):uf s (acc++(iA acc.length q).1) (iA acc.length q).2 r:=by
 obtain⟨f,h1,h2⟩:=h;have h2:q.l.length+2≤f:=h2.resolve_left (by rw[hb];decide);obtain⟨f,rfl⟩:∃k,f=k+1:=⟨f-1,by omega⟩;refine⟨f,?_,?_⟩
 ·rw[←h1,iO,if_pos ⟨hb,hp⟩]
 ·rcases E5 acc.length hb with h|h
  ·exact .inl h
  ·exact .inr (by omega)
theorem qd(c:UInt8)(q:Q):aX (aM c q).l q.l:=ym [c] q
theorem ad3(z:Bool)(q:Q):dD (if z then dD q else q)=dD q:=by cases z<;>rfl
theorem Uh(S:ByteArray)(g:Nat)(q:Q)(aB:aA)(va:Value)(w:World)(hS:S.size≤1099511627776)(has:aZ (fun b=>b=g) w fun W=>dW W aB va)(h:Xq S g q w):
  Calls Tryz.prog 124 #[.pointer (some ⟨g,0,none⟩),va] w fun e w'=>e=.returned (.agg #[.string ⟨(iB aB q).1.1.toArray⟩,.string ⟨(iB aB q).1.2.toArray⟩])∧Touch (fun b=>b=g) w w'∧Xq S g (iB aB q).2 w':=by
 have HX:=I h;have HAS:=I has;have hg0:=h.lt;obtain⟨A0,Vs,hva⟩:=has.now.slice;subst hva;have hn8:aB.length≤maxLen:=by obtain⟨_,_,_,h,_⟩:=has.now;exact h.1
 unfold maxLen at hn8;obtain⟨R,hR⟩:∃R,R=iB aB q:=⟨_,rfl⟩;rw[←hR];obtain⟨q1,hq1⟩:∃q1,q1=if aB.length=8 then dD q else q:=⟨_,rfl⟩
 obtain⟨qn,LF⟩:∃qn,qn=dz q1:=⟨_,rfl⟩;obtain⟨nm,hnm⟩:∃nm,nm=kY q1:=⟨_,rfl⟩;obtain⟨q2,hq2⟩:∃q2,q2=if aB.any (fun x=>x.1==nm)then dD qn else qn:=⟨_,rfl⟩
 have HR:=I (show R=((nm,(iO 34 (q2.l.length+2) [] (aM 34 (aM 61 q2))).1),aM 34 (iO 34 (q2.l.length+2) [] (aM 34 (aM 61 q2))).2) by rw[hR,hq2,LF,hnm,hq1];rfl);have OX:=I hq1;have LG:=I hq2;have ng:=I (fun(W:World) (h:Xq S g q1 W)=>show Calls Tryz.prog 122 #[.pointer (some ⟨g,0,none⟩)] W fun e w'=>e=.returned (.string ⟨nm.toArray⟩)∧Touch (fun b=>b=g) W w'∧Xq S g qn w' by rw[hnm,LF];exact LC S g q1 W hS h);have dh:=I ((M (fun b=>b=g) w).alloc (.cells #[.string ⟨#[]⟩,.string ⟨#[]⟩] 79));have gm:=I (O.new w 79 #[.string ⟨#[]⟩,.string ⟨#[]⟩]);have HX0:=I (HX.J.fresh ((M (fun _=>False) w).alloc (.cells #[.string ⟨#[]⟩,.string ⟨#[]⟩] 79)));have DF:=I (HX.J.stop.fresh ((M (fun _=>False) (w.setCell ⟨g,3,none⟩ (.bool true))).alloc (.cells #[.string ⟨#[]⟩,.string ⟨#[]⟩] 79)));have HFS:=I (((M (fun b=>b=g) w).setCell (p:=⟨g,3,none⟩) (.inl rfl) (.bool true)).alloc (.cells #[.string ⟨#[]⟩,.string ⟨#[]⟩] 79));have Gv:=I (O.new (w.setCell ⟨g,3,none⟩ (.bool true)) 79 #[.string ⟨#[]⟩,.string ⟨#[]⟩]);rw[show(w.setCell ⟨g,3,none⟩ (.bool true)).heap.size=w.heap.size by simp]at Gv;clear h has hR hq1 LF hnm hq2 HX;obtain⟨q0,p1,p2,p3,f0,f1,f2,f3,hg⟩:=O.four HX0.J.blk;obtain⟨z,hz⟩:∃z,z=((aB.length:Int)==(8:Int)):=⟨_,rfl⟩;have HZ:=I hz;cases z
 focus
  have h8:((aB.length:Int)==(8:Int))=false:=hz.symm;have HE:=I (show q=q1 by rw[OX.J,if_neg (by rw[beq_eq_false_iff_ne]at h8;omega)]);have bS:=HX0;rw[HE.J]at bS;have HT1:=dh;have HR1:=gm;clear hz HE HX0 dh gm OX HZ DF HFS Gv q0 p1 p2 p3 f0 f1 f2 f3 hg;go_enter Tryz.func124,Tryz.ntmps124;go_wp2_with fail
  generalize (w.alloc (.cells #[.string ⟨#[]⟩,.string ⟨#[]⟩] 79))=w1 at bS HT1 HR1⊢;clear h8
 rotate_left
 focus
  have h8:((aB.length:Int)==(8:Int))=true:=hz.symm;have bS:=DF;have HT1:=HFS;have HR1:=Gv;have HE:=I (show dD q=q1 by rw[OX.J,if_pos (by rw[beq_iff_eq]at h8;omega)]);rw[HE.J]at bS;clear hz HE HX0 dh gm OX HZ DF HFS Gv q0 p1 p2;go_enter Tryz.func124,Tryz.ntmps124;go_wp2_with fail
  generalize ((w.setCell ⟨g,3,none⟩ (.bool true)).alloc (.cells #[.string ⟨#[]⟩,.string ⟨#[]⟩] 79))=w1 at bS HT1 HR1⊢;clear p3 f0 f1 f2 f3 hg h8
 all_goals
  refine(ng.J _ bS.J).mono ?_;rintro _ w2 ⟨rfl,ht,hx⟩;have eT:=I hx;have HT2:=I (HT1.J.trans ht);have HR2:=I (ht.blk HR1.J fun h=>by omega);clear ht hx bS HT1 HR1 ng;obtain⟨E0,hE0⟩:∃b,b=w2.heap.size:=⟨_,rfl⟩;have nU:=I hE0;have hE1:w.heap.size<E0:=by have:=HR2.J.lt;omega
  clear hE0;go_wp2_with fail
  rw[←nU.J]
  refine aV (fun W=>Touch (fun b=>b=g) w W∧Xq S g qn W∧O W w.heap.size 79 #[.string ⟨#[]⟩,.string ⟨#[]⟩]∧O W E0 79 #[.string ⟨nm.toArray⟩,.string ⟨#[]⟩])
   ⟨HT2.J.alloc _,eT.J.fresh ((M _ _).alloc _),HR2.J.alloc _,by rw[nU.J];exact O.new _ _ _⟩ ?_
  rintro W1 ⟨ht1,hx1,hr1,he1⟩;have HT1:=I ht1;have bS:=I hx1;have HR1:=I hr1;have HB1:=I he1;clear ht1 hx1 hr1 he1 HT2 eT HR2 nU
  go_loopw [6] (fun i wQ=>∃(wr:World) (j:Nat),wr=wQ∧i=.int .i64 j∧j≤aB.length∧Hd (Xq S g (if(aB.take j).any (fun x=>x.1==nm)then dD qn else qn) wr)∧Hd (Touch (fun b=>b=g) w wr)∧
   Hd (O wr w.heap.size 79 #[.string ⟨#[]⟩,.string ⟨#[]⟩])∧Hd (O wr E0 79 #[.string ⟨nm.toArray⟩,.string ⟨#[]⟩])) (fun i _=>aB.length-(intOf i).toNat)
  case atStart=>exact⟨_,0,rfl,rfl,Nat.zero_le _,bS,HT1,HR1,HB1⟩
  case round=>
   clear bS HT1 HR1 HB1;obtain⟨wr,j,rfl,rfl,hj,HX,HT,HR',HB⟩:=hrel;have hEl:=HB.J.lt;have ni:E0≠g:=by omega
   by_cases c1:j<aB.length
   ·have d1:decide ((j:Int)<(aB.length:Int))=true:=dT (by omega)
    have dG:decide (j<aB.length)=true:=dT c1;have d1':(j:Int)<(aB.length:Int):=by omega
    obtain⟨g',o',rfl,hg2,m0,m1,_,_⟩:=(HAS.J _ HT.J).get j c1;have OO:=I (Cq aB j c1 (fun x=>x.1==nm));obtain⟨e0,e1,y0,y1,hlb⟩:=O.Ee HB.J;obtain⟨_,_,q3,_,f0,f1,f2,f3,hg⟩:=O.four HX.J.blk;generalize aB[j]=x at*;generalize (aB.take j).any (fun x=>x.1==nm)=z at*;clear m1 e1;cases hxy:(x.1==nm)with
    |false=>
     have dI:=I (show Xq S g (if(aB.take (j+1)).any (fun x=>x.1==nm)then dD qn else qn) wr by rw[OO.J,hxy,Bool.or_false];exact HX.J);go_wp2
     go_quiet (fail)
     go_wp2
     go_roundw
     case rel=>exact⟨_,j+1,rfl,by go_num,c1,I (dI.J.fresh ((M _ _).drewN _)),I (HT.J.drewN _),I (HR'.J.drewN _),I (HB.J.drewN _)⟩
     case measure=>simp[intOf];omega
    |true=>
     have dI:=I (fun m:Nat=>show Xq S g (if(aB.take (j+1)).any (fun x=>x.1==nm)then dD qn else qn) ((wr.drewN m).setCell ⟨g,3,none⟩ (.bool true)) by
      have h:=(HX.J.fresh ((M _ _).drewN m)).stop;rw[ad3]at h;rw[OO.J,hxy,Bool.or_true];exact h)
     go_wp2
     go_quiet (fail)
     go_wp2
     go_roundw
     case rel=>exact⟨_,j+1,rfl,by go_num,c1,I (dI.J _),I ((HT.J.drewN _).setCell (p:=⟨g,3,none⟩) (.inl rfl) (.bool true)),I ((HR'.J.drewN _).far (p:=⟨g,3,none⟩) (by show _≠g;omega) (.bool true)),I ((HB.J.drewN _).far (p:=⟨g,3,none⟩) (by show _≠g;omega) (.bool true))⟩
     case measure=>simp[intOf];omega
   ·have d1:decide ((j:Int)<(aB.length:Int))=false:=dF (by omega)
    have dG:decide (j<aB.length)=false:=dF c1
    have fD:=I (show Xq S g q2 wr by
     have h:=HX.J;rw[List.take_of_length_le (by omega),←LG.J]at h;exact h)
    clear c1 hj HX LG;go_wp2_with fail
    refine(oI S g 61 q2 _ hS (by decide) fD.J).mono ?_;rintro _ w3 ⟨rfl,ht,hx⟩;have jV:=I hx;have dS:=I (HT.J.trans ht);have qN:=I (ht.blk HR'.J fun h=>by omega);have ql:=I (ht.blk HB.J fun h=>by omega);clear ht hx HT HR' HB fD;go_wp2_with fail
    refine(oI S g 34 _ _ hS (by decide) jV.J).mono ?_;rintro _ w4 ⟨rfl,ht,hx⟩;have qM:=I hx;have oC:=I (dS.J.trans ht);have qF:=I (ht.blk qN.J fun h=>by omega);have mE:=I (ht.blk ql.J fun h=>by omega)
    have BO:=I (show uf 34 [] (aM 34 (aM 61 q2)) (iO 34 (q2.l.length+2) [] (aM 34 (aM 61 q2)))from⟨_,rfl,.inr (by
     have h1:=(qd 34 (aM 61 q2)).len;have h2:=(qd 61 q2).len;omega)⟩)
    clear ht hx dS qN ql jV hEl;generalize aM 34 (aM 61 q2)=q6 at*;generalize iO 34 (q2.l.length+2) [] q6=rr at*;go_wp2
    go_loopw [] (fun wQ=>∃(wr:World) (acc:List UInt8) (q4:Q),wr=wQ∧acc.length≤200∧Hd (uf 34 acc q4 rr)∧Hd (Xq S g q4 wr)∧Hd (Touch (fun b=>b=g) w wr)∧
     Hd (O wr w.heap.size 79 #[.string ⟨#[]⟩,.string ⟨#[]⟩])∧Hd (O wr E0 79 #[.string ⟨nm.toArray⟩,.string ⟨acc.toArray⟩])) (fun wr=>Rw S g wr)
    case atStart=>exact⟨_,[],q6,rfl,Nat.zero_le _,BO,qM,oC,qF,mE⟩
    case round=>
     clear BO qM oC qF mE;obtain⟨wr,acc,q4,rfl,hacc,BO,HX,HT,HR',HB⟩:=hrel;have hEl:=HB.J.lt;have zT:=I (yo HX.J);obtain⟨_,_,_,q3,f0,f1,f2,f3,hg⟩:=O.four HX.J.blk;obtain⟨b,hb⟩:∃b,q4.b=b:=⟨_,rfl⟩;rw[hb]at q3;have fT:=I hb;clear hb
     have iV:(b=true∧rr=(acc,q4))∨(b=false∧(((aR q4).toNat:Int) !=(34:Int))=false∧rr=(acc,q4))∨(b=false∧(((aR q4).toNat:Int) !=(34:Int))=true∧aR q4≠34):=by
      cases hz:b with
      |true=>exact .inl ⟨rfl,BO.J.stop (.inl (fT.J.trans hz))⟩
      |false=>
       by_cases hp:aR q4=34
       ·exact .inr (.inl ⟨rfl,jm _ 34 hp,BO.J.stop (.inr hp)⟩)
       ·exact .inr (.inr ⟨rfl,jU _ 34 hp,hp⟩)
     rcases iV with⟨hb,hrr⟩|⟨hb,hpk,hrr⟩|⟨hb,hpk,hne⟩
     focus
      subst hb;have HRR:=I hrr;have dI:=HX;have eu:=HT;have qj:=HR';have bV:=HB;clear hrr HX HT HR' HB zT fT;go_wp2_with fail
     rotate_left
     focus
      subst hb;have HRR:=I hrr;have HP:=I hpk;clear hrr hpk;go_wp2_with fail
      refine(jb S g q4 _ HX.J).mono ?_;rintro _ w5 ⟨rfl,hf⟩;have dI:=I (HX.J.fresh hf);have eu:=I (HT.J.trans (hf.mono fun _ h=>h.elim));have qj:=I (hf.blk HR'.J fun h=>h);have bV:=I (hf.blk HB.J fun h=>h);have hpk:=HP.J;clear hf HX HT HR' HB zT fT HP;go_wp2_with fail
      clear hpk
     rotate_left
     focus
      subst hb;have HP:=I hpk;have aau:=I (BO.J.step fT.J hne);have Ka:=H7 hacc q4;have hln:=H6 acc.length q4;have Ai:=I (E5 acc.length fT.J);have qJ:=I (fun(W:World) (h:Xq S g q4 W)=>LD S g acc.length q4 W hS h);clear hpk hne;go_wp2_with fail
      refine(jb S g q4 _ HX.J).mono ?_;rintro _ w5 ⟨rfl,hf⟩;have dI:=I (HX.J.fresh hf);have eu:=I (HT.J.trans (hf.mono fun _ h=>h.elim));have qj:=I (hf.blk HR'.J fun h=>h);have bV:=I (hf.blk HB.J fun h=>h);have hpk:=HP.J;clear hf HX HT HR' HB HP;generalize iA acc.length q4=cq at*;obtain⟨ct,q5⟩:=cq;simp only at Ka hln;have hadd:∀W:World,(Op.stringOp .add ⟨acc.toArray⟩ ⟨ct.toArray⟩).run Tryz.prog W=.ok (.string ⟨(acc++ct).toArray⟩) W:=fun W=>run_string_add_lists W acc ct (by omega) (by omega)
      obtain⟨_,e1,_,_,hlb⟩:=O.Ee bV.J;go_wp2_with fail
      have k1:=cT (S:=fun k=>k=g) e1 (by omega);clear hpk q3 f0 f1 f2 f3 hg e1 hlb hln
      refine fu (fun W=>∃x:Turned (fun k=>k=g) w5,W=x.W) (bq.of [(0,true),(1,true),(2,true),(3,true),(4,true),(5,true)] (.lone 6 (.plain 7 .nil))) [0,1,2,3,4,5,6,7] 8 (Array.replicate 8 true++Array.replicate 2 false) (fun _=>True)
       (.lone 9 .nil) [9] (Array.replicate 10 true) (by kernel_rfl) (fun _ _ d _ _ h=>by cases d<;>exact h) (by kernel_rfl) ⟨⟨_,(M _ _).drewN 1⟩,rfl⟩ ?_
      unfold bq.of
      repeat(refine aS rfl (fun K hK=>?_);go_simp;refine hK _ ?_;clear hK K;first|done|unfold bq.of)
      clear k1;refine ax rfl (fun K hK=>?_);go_wp2_with fail
      refine(qJ.J _ (dI.J.fresh ((M _ _).drewN 1))).mono ?_;rintro _ w7 ⟨rfl,ht,hx⟩;have jV:=I hx;have dS:=I (show Touch (fun k=>k=g) w5 w7 from((M _ w5).drewN 1).trans ht);have qN:=I (dS.J.blk qj.J fun h=>by omega);have ql:=I (dS.J.blk bV.J fun h=>by omega);clear ht hx;go_wp2
      refine hK _ _ ⟨⟨_,dS.J⟩,rfl⟩ ?_;clear hK K;refine aS rfl (fun K hK=>?_);go_simp;refine hK _ ?_;clear hK K;refine iY rfl (fun K hK=>?_);obtain⟨_,y1,_,z1,hlb⟩:=O.Ee ql.J;go_wp2
      refine hK _ _ trivial ?_;clear hK K;refine ax rfl (fun K hK=>?_);go_wp2
      refine hK _ _ trivial ?_;clear hK K;have eY:=(M (fun k=>k=E0) w7).setCell (p:=⟨E0,1,none⟩) (.inl rfl) (.string ⟨(acc++ct).toArray⟩);have jN:=I (show O (w7.setCell ⟨E0,1,none⟩ (.string ⟨(acc++ct).toArray⟩)) E0 79 #[.string ⟨nm.toArray⟩,.string ⟨(acc++ct).toArray⟩]from ql.J.put 1 _);have jc:=I (jV.J.move eY (by omega));have uo:=I (eY.blk qN.J fun h=>by omega);have bU:=I ((eu.J.trans dS.J).trans' eY fun k hk=>.inr (by omega));have HM:=I (yo jc.J);clear eY y1 z1 hlb;refine jJ ?_;go_wp2
      refine⟨⟨_,acc++ct,q5,rfl,Ka,aau,jc,bU,uo,jN⟩,?_⟩;rw[HM.J,zT.J,fT.J];show _<q4.l.length+1
      rcases Ai.J with h|h
      ·rw[show q5.b=true from h,if_pos rfl];omega
      ·have h:q5.l.length<q4.l.length:=h
       split<;>omega
     all_goals
      refine(oI S g 34 q4 _ hS (by decide) dI.J).mono ?_;rintro _ w6 ⟨rfl,ht,hx⟩;have fD:=I hx;have dB:=I (eu.J.trans ht);have vM:=I (ht.blk qj.J fun h=>by omega);have iM:=I (ht.blk bV.J fun h=>by omega);clear ht hx dI eu qj bV q3 f0 f1 f2 f3 hg;obtain⟨e0,e1,_,_,_⟩:=O.Ee iM.J;obtain⟨_,_,z0,z1,hlz⟩:=O.Ee vM.J;obtain⟨t0,t1,_,_,_⟩:=O.Ee ((vM.J.put 0 (.string ⟨nm.toArray⟩)).put 1 (.string ⟨acc.toArray⟩));go_wp2
      refine bodyPost_ret (v:=.agg #[.string ⟨nm.toArray⟩,.string ⟨acc.toArray⟩]) (by simp[results,Tryz.results124,go_sem,t0,t1]) rfl ?_;rw[HR.J,HRR.J];have eY:=((M (fun k=>k=w.heap.size) w6).setCell (p:=⟨w.heap.size,0,none⟩) (.inl rfl) (.string ⟨nm.toArray⟩)).setCell (p:=⟨w.heap.size,1,none⟩) (.inl rfl) (.string ⟨acc.toArray⟩);exact⟨rfl,dB.J.trans' eY fun k hk=>.inr (by omega),fD.J.move eY (by omega)⟩
end
end Go.Proofs.YtnbeemkfmlfgfaaGreatDoor
