/- Part 7 of 48 of a proof. No condition. -/
import Derived.Test.YtnbeemkfmlfgfaaGreatDoorTm6
set_option maxRecDepth 100000
set_option maxHeartbeats 4000000
namespace Go.Proofs.YtnbeemkfmlfgfaaGreatDoor
section
open Go.RowKit
def bQ(n:Tr.Nd):Bool:=decide (1≤n.kind)&&(decide (n.kind≤12)&&(Tr.gI n.kind n.text&&Tr.cZ n.kind n.ai n.kids.length))
theorem ac9(n:Tr.Nd)(c g o:Nat)(w:World)(hk:n.kind<1)
  (a0:w.cell? ⟨g,o,none⟩=some (.int .i64 n.kind)):
  Calls Tryz.prog 95 #[.pointer (some ⟨c,0,none⟩),.pointer (some ⟨g,o,none⟩)] w fun e w'=>e=.returned (.bool false)∧ag w w':=by
 have e1:decide (n.kind<(1:Int))=true:=dT (by omega);have e2:decide ((12:Int)<n.kind)=false:=dF (by omega);clear hk;go_enter Tryz.func95,Tryz.ntmps95;go_wp2
 go_quiet (fail)
 go_wp2
 go_ret;exact⟨rfl,bf⟩
theorem ada(n:Tr.Nd)(c g o:Nat)(w:World)(hk:12<n.kind)
  (a0:w.cell? ⟨g,o,none⟩=some (.int .i64 n.kind)):
  Calls Tryz.prog 95 #[.pointer (some ⟨c,0,none⟩),.pointer (some ⟨g,o,none⟩)] w fun e w'=>e=.returned (.bool false)∧ag w w':=by
 have e1:decide (n.kind<(1:Int))=false:=dF (by omega);have e2:decide ((12:Int)<n.kind)=true:=dT (by omega);clear hk;go_enter Tryz.func95,Tryz.ntmps95;go_wp2
 go_quiet (fail)
 go_wp2
 go_ret;exact⟨rfl,bf⟩
theorem FC(a b:Nat):decide ((a:Int)≤(b:Int))=decide (a≤b):=by rw[Bool.eq_iff_iff,decide_eq_true_iff,decide_eq_true_iff];omega
theorem Sj(t:List UInt8):Tr.gI ((4:Nat):Int) t=(t.all mW&&decide ((ByteArray.size ⟨t.toArray⟩:Int)≤(200:Int))):=by
 show(decide (t.length≤200)&&Tr.aK t)=_;have:(ByteArray.size ⟨t.toArray⟩)=t.length:=by show t.toArray.size=_;simp
 rw[this,show decide ((t.length:Int)≤(200:Int))=decide (t.length≤200)from FC t.length 200,Bool.and_comm];rfl
theorem pG(k:Nat)(n:Tr.Nd)(tx:Bool)(slots:Int)(hk:n.kind=k)(h1:1≤k)(h2:k≤12)(ht:Tr.gI n.kind n.text=tx)
  (hs:(k=5∨k=6∨k=7∨k=8→slots=2)∧(k=9→slots=3)∧(k=10∨k=11→slots=1)∧(k=2∨k=3∨k=4→slots=0)):bQ n=(tx&&mh k n.ai n.kids.length slots):=by
 unfold bQ;rw[ht,hk];have e1:decide ((1:Int)≤(k:Int))=true:=by simp;omega
 have e2:decide ((k:Int)≤12)=true:=by simp;omega
 rw[e1,e2,Bool.true_and,Bool.true_and]
 congr 1
 unfold Tr.cZ mh;generalize n.kids.length=m;generalize n.ai=c;obtain⟨s1,s2,s3,s4⟩:=hs
 by_cases k12:k=12
 ·subst k12
  rw[if_pos (show((12:Nat):Int)=12 from rfl),if_neg (show¬(((12:Nat):Int)==1)=true by decide),if_pos (show(((12:Nat):Int)==12)=true by decide)];have f1:decide ((1:Int)≤(m:Int))=decide (1≤m):=FC 1 m;have f2:decide ((m:Int)≤(256:Int))=decide (m≤256):=FC m 256;show(decide (1≤c)&&decide (c≤16)&&decide (1≤m)&&decide (m≤256)&&decide ((m:Int)%c=0))=(decide (1≤c)&&(decide (c≤16)&&(decide ((1:Int)≤(m:Int))&&(decide ((m:Int)≤(256:Int))&&((m:Int)%c==0)))));rw[f1,f2];simp only[Bool.and_assoc];rfl
 ·have adb:¬(k:Int)=12:=by omega
  have aer:((k:Int)==12)=false:=by simpa using adb
  rw[if_neg adb,aer]
  by_cases hc:c=0
  ·subst hc
   simp only[ne_eq,not_true_eq_false,if_false,Bool.false_eq_true]
   by_cases k1:k=1
   ·subst k1
    rw[if_pos (show((1:Nat):Int)=1 from rfl),if_pos (show(((1:Nat):Int)==1)=true by decide)];exact(FC m 200).symm
   ·have k1':¬(k:Int)=1:=by omega
    have aeV:((k:Int)==1)=false:=by simpa using k1'
    rw[if_neg k1',aeV];simp only[Bool.false_eq_true,if_false,BEq.rfl,Bool.true_and]
    have dn:∀(j:Nat) (sl:Int),sl=j→decide (m=j)=((m:Int)==sl):=by
     intro j sl h;subst h;rw[Bool.eq_iff_iff,decide_eq_true_iff,beq_iff_eq];omega
    split
    ·exact dn 0 slots (s4 (by omega))
    ·split
     ·exact dn 2 slots (s1 (by omega))
     ·split
      ·exact dn 3 slots (s2 (by omega))
      ·split
       ·exact dn 1 slots (s3 (by omega))
       ·omega
  ·have hc':(c==0)=false:=by simpa using hc
   rw[if_pos hc,hc'];simp
theorem abE(n:Tr.Nd)(A:Option Addr)(cap c g o:Nat)(m:Int)(w:World)(hc:O w c 111 (j5 m))(hm:n.text.length≤9223372036854775807)
  (a0:w.cell? ⟨g,o,none⟩=some (.int .i64 n.kind)) (a1:w.cell? ⟨g,o+1,none⟩=some (.string ⟨n.text.toArray⟩)) (a2:w.cell? ⟨g,o+2,none⟩=some (.int .i64 n.ai)) (a3:w.cell? ⟨g,o+3,none⟩=some (.slice A n.kids.length cap)):
  Calls Tryz.prog 95 #[.pointer (some ⟨c,0,none⟩),.pointer (some ⟨g,o,none⟩)] w fun e w'=>e=.returned (.bool (bQ n))∧ag w w':=by
 by_cases h1:n.kind<1
 ·have e:bQ n=false:=by
   unfold bQ;have:decide (1≤n.kind)=false:=by simp;omega
   rw[this];rfl
  rw[e];exact ac9 n c g o w h1 a0
 by_cases h2:12<n.kind
 ·have e:bQ n=false:=by
   unfold bQ;have:decide (n.kind≤12)=false:=by simp;omega
   rw[this,Bool.false_and,Bool.and_false]
  rw[e];exact ada n c g o w h2 a0
 obtain⟨k,hk⟩:∃k:Nat,n.kind=k:=⟨n.kind.toNat,by omega⟩;have k1:1≤k:=by omega
 have k2:k≤12:=by omega
 rw[hk]at a0
 match k,k1,k2,hk,a0 with
 |1,k1,k2,hk,a0=>
  rw[pG 1 n (n.text.isEmpty) 0 hk k1 k2 (by rw[hk];rfl) (by decide)];exact pF n.text n.ai 0 1 n.kids.length 90 _ A cap c g o w k1 k2 (fun _ _=>by kernel_rfl) (fun w'=>lN (sw ⟨n.text.toArray⟩ w')) a0 a1 a2 a3 (hc.cell 4) (hc.cell 5)
 |2,k1,k2,hk,a0=>
  rw[pG 2 n (Tr.symbol n.text) 0 hk k1 k2 (by rw[hk];rfl) (by decide)];exact pF n.text n.ai 0 2 n.kids.length 79 _ A cap c g o w k1 k2 (fun _ _=>by kernel_rfl) (fun w'=>lN (R8 ⟨n.text.toArray⟩ w' (by show n.text.toArray.size≤_;simpa using hm))) a0 a1 a2 a3 (hc.cell 7) (hc.cell 8)
 |3,k1,k2,hk,a0=>
  rw[pG 3 n (Tr.isNum n.text) 0 hk k1 k2 (by rw[hk];rfl) (by decide)];exact pF n.text n.ai 0 3 n.kids.length 91 _ A cap c g o w k1 k2 (fun _ _=>by kernel_rfl) (fun w'=>Pz ⟨n.text.toArray⟩ w' (by show n.text.toArray.size≤_;simpa using hm)) a0 a1 a2 a3 (hc.cell 10) (hc.cell 11)
 |4,k1,k2,hk,a0=>
  rw[pG 4 n ((n.text.all mW&&decide ((ByteArray.size ⟨n.text.toArray⟩:Int)≤(200:Int)))) 0 hk k1 k2 (by rw[hk];exact Sj n.text) (by decide)];exact pF n.text n.ai 0 4 n.kids.length 92 _ A cap c g o w k1 k2 (fun _ _=>by kernel_rfl) (fun w'=>lN (UN ⟨n.text.toArray⟩ w' (by show n.text.toArray.size≤_;simpa using hm))) a0 a1 a2 a3 (hc.cell 13) (hc.cell 14)
 |5,k1,k2,hk,a0=>
  rw[pG 5 n (n.text.isEmpty) 2 hk k1 k2 (by rw[hk];rfl) (by decide)];exact pF n.text n.ai 2 5 n.kids.length 90 _ A cap c g o w k1 k2 (fun _ _=>by kernel_rfl) (fun w'=>lN (sw ⟨n.text.toArray⟩ w')) a0 a1 a2 a3 (hc.cell 16) (hc.cell 17)
 |6,k1,k2,hk,a0=>
  rw[pG 6 n (n.text.isEmpty) 2 hk k1 k2 (by rw[hk];rfl) (by decide)];exact pF n.text n.ai 2 6 n.kids.length 90 _ A cap c g o w k1 k2 (fun _ _=>by kernel_rfl) (fun w'=>lN (sw ⟨n.text.toArray⟩ w')) a0 a1 a2 a3 (hc.cell 19) (hc.cell 20)
 |7,k1,k2,hk,a0=>
  rw[pG 7 n (n.text.isEmpty) 2 hk k1 k2 (by rw[hk];rfl) (by decide)];exact pF n.text n.ai 2 7 n.kids.length 90 _ A cap c g o w k1 k2 (fun _ _=>by kernel_rfl) (fun w'=>lN (sw ⟨n.text.toArray⟩ w')) a0 a1 a2 a3 (hc.cell 22) (hc.cell 23)
 |8,k1,k2,hk,a0=>
  rw[pG 8 n (n.text.isEmpty) 2 hk k1 k2 (by rw[hk];rfl) (by decide)];exact pF n.text n.ai 2 8 n.kids.length 90 _ A cap c g o w k1 k2 (fun _ _=>by kernel_rfl) (fun w'=>lN (sw ⟨n.text.toArray⟩ w')) a0 a1 a2 a3 (hc.cell 25) (hc.cell 26)
 |9,k1,k2,hk,a0=>
  rw[pG 9 n (n.text.isEmpty) 3 hk k1 k2 (by rw[hk];rfl) (by decide)];exact pF n.text n.ai 3 9 n.kids.length 90 _ A cap c g o w k1 k2 (fun _ _=>by kernel_rfl) (fun w'=>lN (sw ⟨n.text.toArray⟩ w')) a0 a1 a2 a3 (hc.cell 28) (hc.cell 29)
 |10,k1,k2,hk,a0=>
  rw[pG 10 n (Tr.fJ.contains n.text) 1 hk k1 k2 (by rw[hk];rfl) (by decide)];exact pF n.text n.ai 1 10 n.kids.length 93 _ A cap c g o w k1 k2 (fun _ _=>by kernel_rfl) (fun w'=>lN (Iu ⟨n.text.toArray⟩ w')) a0 a1 a2 a3 (hc.cell 31) (hc.cell 32)
 |11,k1,k2,hk,a0=>
  rw[pG 11 n (Tr.fence n.text) 1 hk k1 k2 (by rw[hk];rfl) (by decide)];exact pF n.text n.ai 1 11 n.kids.length 94 _ A cap c g o w k1 k2 (fun _ _=>by kernel_rfl) (fun w'=>lN (UO ⟨n.text.toArray⟩ w')) a0 a1 a2 a3 (hc.cell 34) (hc.cell 35)
 |12,k1,k2,hk,a0=>
  rw[pG 12 n (n.text.isEmpty) 0 hk k1 k2 (by rw[hk];rfl) (by decide)];exact pF n.text n.ai 0 12 n.kids.length 90 _ A cap c g o w k1 k2 (fun _ _=>by kernel_rfl) (fun w'=>lN (sw ⟨n.text.toArray⟩ w')) a0 a1 a2 a3 (hc.cell 37) (hc.cell 38)
mutual
def nX:Nat→Tr.Nd→Bool
 |d,.mk k t c ks=>decide (d≤24)&&(bQ (.mk k t c ks)&&qZ (k==1) (d+1) ks)
def qZ:Bool→Nat→List Tr.Nd→Bool
 |_,_,[]=>true
 |r,d,n::ns=>(!((n.kind==1)==r))&&(nX d n&&qZ r d ns)
end
theorem QL(d:Nat)(n:Tr.Nd):nX d n=(decide (d≤24)&&(bQ n&&qZ (n.kind==1) (d+1) n.kids)):=by cases n;rw[nX];rfl
theorem KG(r:Bool)(d:Nat):∀(l:List Tr.Nd) (i:Nat) (h:i<l.length),qZ r d (l.take (i+1))=(qZ r d (l.take i)&&((!((l[i].kind==1)==r))&&nX d l[i]))
 |[],i,h=>by simp at h
 |x::l,0,h=>by simp[qZ]
 |x::l,i+1,h=>by
  simp only[List.take_succ_cons,qZ,List.getElem_cons_succ];rw[KG r d l i (by simpa using h)];simp only[Bool.and_assoc]
theorem QM(r:Bool)(d:Nat):∀(l:List Tr.Nd) (i:Nat) (h:i<l.length),((!((l[i].kind==1)==r))&&nX d l[i])=false→qZ r d l=false
 |[],i,h,_=>by simp at h
 |x::l,0,h,hn=>by
  simp only[List.getElem_cons_zero]at hn;rw[qZ,←Bool.and_assoc,hn,Bool.false_and]
 |x::l,i+1,h,hn=>by
  simp only[List.getElem_cons_succ]at hn;rw[qZ,QM r d l i (by simpa using h) hn,Bool.and_false,Bool.and_false]
def abF(c:Nat)(d m:Nat)(n:Tr.Nd)(w:World)(e:Ending)(w':World):Prop:=
 ∃m':Nat,e=.returned (.bool (nX d n&&decide (m+Tr.count n≤1000)))∧O w' c 111 (j5 m')∧Touch (·=c) w w'∧((nX d n&&decide (m+Tr.count n≤1000))=true→m'=m+Tr.count n)
theorem U5(m:Nat):(j5 (m:Int)).setIfInBounds 39 (.int .i64 ((m:Int)+1))=j5 ((m+1:Nat):Int):=by rfl
theorem Nb(m:Int):(j5 m)[39]?=some (.int .i64 m):=by rfl
theorem YK(W0:World)(c:Nat)(hcW:W0.heap.size≤c)(k:Nat):∀(n:Tr.Nd) (A:Option Addr) (g o cap d m:Nat) (dd:Int) (w:World),dd=d→Tr.count n≤k→
  W0.cell? ⟨g,o,none⟩=some (.int .i64 n.kind)→W0.cell? ⟨g,o+1,none⟩=some (.string ⟨n.text.toArray⟩)→W0.cell? ⟨g,o+2,none⟩=some (.int .i64 n.ai)→W0.cell? ⟨g,o+3,none⟩=some (.slice A n.kids.length cap)→
  aO W0 n.kids (.slice A n.kids.length cap)→n.text.length≤maxLen→O w c 111 (j5 m)→Touch (·=c) W0 w→m≤1000→d≤1000→
  Calls Tryz.prog 57 #[.pointer (some ⟨c,0,none⟩),.pointer (some ⟨g,o,none⟩),.int .i64 dd] w (abF c d m n w):=by
 induction k with
 |zero=>intro n _ _ _ _ _ _ _ _ _ h;have:=Tr.gQ n;omega
 |succ k ih=>
  intro n A g o cap d m dd w hdd hcn a0 a1 a2 a3 hrep htx hb htw hm hd;subst hdd;have hgc:g<W0.heap.size:=bL a0;have hne:g≠c:=by omega
  have hlen:=hrep.len;unfold maxLen at htx hlen;have hck:=Tr.aI n;have hnl:=Tr.gL n.kids;have jw:=I ih;have YL:=I hrep;have F3:=I (QL d n);have kK:=I htw;have HB:=I hb;have ht1:Touch (·=c) w (w.setCell ⟨c,39,none⟩ (.int .i64 ((m:Int)+1))):=Touch.setCell (S:=(·=c)) (M _ w) (p:=⟨c,39,none⟩) (.inl rfl) _
  have hb1:O (w.setCell ⟨c,39,none⟩ (.int .i64 ((m:Int)+1))) c 111 (j5 ((m+1:Nat):Int)):=by
   rw[←U5];exact hb.put 39 _
  have q39:w.cell? ⟨c,39,none⟩=some (.int .i64 (m:Int)):=(hb.cell 39).trans (Nb m);have z39:w.frozen? ⟨c,39,none⟩=false:=hb.frozen 39;have r39:(w.setCell ⟨c,39,none⟩ (.int .i64 ((m:Int)+1))).cell? ⟨c,39,none⟩=some (.int .i64 ((m:Int)+1)):=(hb1.cell 39).trans (Nb _);have HT1:=I ht1;have HB1:=I hb1;clear ih hrep htw hb ht1 hb1
  by_cases hm1:m=1000
  ·have lim:decide ((1000:Int)<(m:Int)+1)=true:=dT (by omega)
   have aiP:(1000:Int)<(m:Int)+1:=by omega
   have qJ:=I (show(nX d n&&decide (m+Tr.count n≤1000))=false by
    have:=Tr.gQ n;have e:decide (m+Tr.count n≤1000)=false:=dF (by omega);rw[e,Bool.and_false])
   clear hm1 F3;go_enter Tryz.func57,Tryz.ntmps57;go_wp2
   go_ret;exact⟨m+1,by rw[qJ.J];rfl,HB1.J,HT1.J,fun h=>by rw[qJ.J]at h;cases h⟩
  have lim:decide ((1000:Int)<(m:Int)+1)=false:=dF (by omega)
  by_cases hd24:24<d
  ·have dl:decide ((24:Int)<(d:Int))=true:=dT (by omega)
   have dln:decide (24<d)=true:=dT (by omega)
   have hch:nX d n=false:=by
    rw[F3.J];have:decide (d≤24)=false:=dF (by omega);rw[this];rfl
   have qJ:=I (show(nX d n&&decide (m+Tr.count n≤1000))=false by rw[hch];rfl);clear hch F3;go_enter Tryz.func57,Tryz.ntmps57;go_wp2
   go_ret;exact⟨m+1,by rw[qJ.J];rfl,HB1.J,HT1.J,fun h=>by rw[qJ.J]at h;cases h⟩
  ·have dl:decide ((24:Int)<(d:Int))=false:=dF (by omega)
   have dln:decide (24<d)=false:=dF (by omega);have b0:=(kK.J.trans HT1.J).cell a0 hne;have b1:=(kK.J.trans HT1.J).cell a1 hne;have b2:=(kK.J.trans HT1.J).cell a2 hne;have b3:=(kK.J.trans HT1.J).cell a3 hne;have HOWN:=I (abE n A cap c g o _ _ HB1.J htx b0 b1 b2 b3);have abk:decide (d≤24)=true:=dT (by omega);have vJ:=I (show nX d n=(bQ n&&qZ (n.kind==1) (d+1) n.kids) by rw[F3.J,abk];rfl);clear F3 abk b0 b1 b2 b3;go_enter Tryz.func57,Tryz.ntmps57;go_wp2_with fail
   refine HOWN.J.mono ?_;rintro _ w2 ⟨rfl,hf2⟩;have hb2:=hf2.blk HB1.J (fun h=>h);have ht2:Touch (·=c) w w2:=HT1.J.trans (hf2.mono (fun _ h=>h.elim));have HB2:=I hb2;have HT2:=I ht2;have b0:=(kK.J.trans ht2).cell a0 hne;have b3:=(kK.J.trans ht2).cell a3 hne;clear hf2 hb2 ht2 r39 q39 z39;cases how:bQ n with
   |false=>
    have qJ:=I (show(nX d n&&decide (m+Tr.count n≤1000))=false by rw[vJ.J,how];rfl);go_wp2
    go_ret;exact⟨m+1,by rw[qJ.J];rfl,HB2.J,HT2.J,fun h=>by rw[qJ.J]at h;cases h⟩
   |true=>
    have U6:=I (show nX d n=qZ (n.kind==1) (d+1) n.kids by rw[vJ.J,how];rfl);clear vJ how;go_wp2
    go_loopw [35] (fun i wr=>∃(j m':Nat),i=.int .i64 j∧j≤n.kids.length∧Hd (O wr c 111 (j5 m'))∧Hd (Touch (·=c) w wr)∧Hd (m'=m+1+Tr.aj (n.kids.take j)∧m'≤1000)∧Hd (qZ (n.kind==1) (d+1) (n.kids.take j)=true)) (fun i _=>n.kids.length-(intOf i).toNat)
    case atStart=>exact⟨0,m+1,rfl,Nat.zero_le _,HB2.J,HT2.J,⟨by simp[Tr.aj],by omega⟩,by simp[qZ,Hd]⟩
    case round=>
     obtain⟨j,m',rfl,hj,HB3,HT3,HM,HL⟩:=hrel
     by_cases c1:j<n.kids.length
     ·have d1:decide ((j:Int)<(n.kids.length:Int))=true:=dT (by omega)
      have dG:decide (j<n.kids.length)=true:=dT (by omega);have d1':(j:Int)<(n.kids.length:Int):=by omega
      obtain⟨g',o',sl,rfl,hg',n0,n1,n2,n3,wZ⟩:=YL.J.get j c1;have aeW:=YL.J.texts j c1;obtain⟨A',cap',rfl⟩:=wZ.slice;have hne':g'≠c:=by omega
      have e0:=(kK.J.trans HT3.J).cell a0 hne;have e3:=(kK.J.trans HT3.J).cell a3 hne;have x0:=(kK.J.trans HT3.J).cell n0 hne';have hcm:=Tr.dm (List.getElem_mem (l:=n.kids) (n:=j) c1);have hct:=Tr.oo n.kids j c1;have hcl:=Tr.kV n.kids (j+1);have hcj:=Tr.kV n.kids j;have HS:=I (KG (n.kind==1) (d+1) n.kids j c1);have HN:=I (QM (n.kind==1) (d+1) n.kids j c1);have HM0:=HM.J.1;have HM1:=HM.J.2;have HX:=I (fun(w':World) (hb':O w' c 111 (j5 m')) (ht':Touch (·=c) W0 w')=>jw.J n.kids[j] A' g' (o'+j*4) cap' (d+1) m' ((d:Int)+1) w' (by omega) (by omega) n0 n1 n2 n3 wZ aeW hb' ht' (by omega) (by omega));have vK:=I hct;clear n0 n1 n2 n3 wZ jw YL hct;generalize n.kids[j]=x at*;cases p1:(n.kind==1)with
      |false=>
       rw[p1]at HS HN;cases p2:(x.kind==1)with
       |false=>
        have qJ:=I (show(nX d n&&decide (m+Tr.count n≤1000))=false by rw[U6.J,p1,HN.J (by rw[p2];rfl)];rfl);go_wp2
        go_quiet (fail)
        go_wp2
        go_ret;exact⟨m',by rw[qJ.J];rfl,HB3.J,HT3.J.drewN _,fun h=>by rw[qJ.J]at h;cases h⟩
       |true=>
        go_wp2_with fail
        refine xq [([0,1,2,3,4,5,6,7,8,9,10,11,12,13,14,15,16,17,18,19,20,21,22,23,24],25)] [26,27] (by kernel_rfl) (by kernel_rfl) ?_;simp only[zh,pick,List.getElem?_cons_zero,List.getElem?_cons_succ]
        repeat(quiet_step (fail))
        refine wpQuiet_nil ?_;rintro _ ⟨nq,rfl⟩;go_wp2_with fail
        refine(HX.J _ (HB3.J.drewN nq) ((kK.J.trans HT3.J).drewN nq)).mono ?_;rintro _ w5 ⟨m5,rfl,hb5,F4,Cf⟩;have bV:=I hb5;have eu:=I (HT3.J.trans (Touch.pI F4));clear hb5 F4 e0 e3 x0;cases hx:(nX (d+1) x&&decide (m'+Tr.count x≤1000))with
        |false=>
         have qJ:=I (show(nX d n&&decide (m+Tr.count n≤1000))=false by
          rcases Bool.and_eq_false_iff.1 hx with hx1|hx1
          ·rw[U6.J,p1,HN.J (by rw[hx1,Bool.and_false]),Bool.false_and]
          ·rw[decide_eq_false_iff_not]at hx1
           have:=vK.J;have e:decide (m+Tr.count n≤1000)=false:=dF (by omega);rw[e,Bool.and_false])
         rw[hx]at Cf;go_wp2_with fail
         repeat(quiet_step (fail))
         refine wpQuiet_nil ?_;rintro _ ⟨nq2,rfl⟩;go_wp2
         go_ret;exact⟨m5,by rw[qJ.J];rfl,bV.J.drewN _,eu.J.drewN _,fun h=>by rw[qJ.J]at h;cases h⟩
        |true=>
         rw[hx]at Cf;have hm6:=Cf rfl;clear Cf;obtain⟨hx1,hx2⟩:=Bool.and_eq_true_iff.1 hx;rw[decide_eq_true_eq]at hx2
         have HL5:=I (show qZ false (d+1) (n.kids.take (j+1))=true by
          have hl:=HL.J;rw[p1]at hl;rw[HS.J,hl,p2,hx1];rfl)
         go_wp2_with fail
         repeat(quiet_step (fail))
         refine wpQuiet_nil ?_;rintro _ ⟨nq2,rfl⟩;go_wp2
         go_roundw
         case rel=>exact⟨j+1,m5,by go_num,by omega,bV.J.drewN _,eu.J.drewN _,⟨by rw[vK.J];omega,by omega⟩,HL5⟩
         case measure=>simp[intOf];omega
      |true=>
       rw[p1]at HS HN;cases p2:(x.kind==1)with
       |false=>
        go_wp2_with fail
        refine xq [([0,1,2,3,4,5,6,7,8,9,10,11,12,13,14,15,16,17,18,19,20,21,22,23,24],25)] [26,27] (by kernel_rfl) (by kernel_rfl) ?_;simp only[zh,pick,List.getElem?_cons_zero,List.getElem?_cons_succ]
        repeat(quiet_step (fail))
        refine wpQuiet_nil ?_;rintro _ ⟨nq,rfl⟩;go_wp2_with fail
        refine(HX.J _ (HB3.J.drewN nq) ((kK.J.trans HT3.J).drewN nq)).mono ?_;rintro _ w5 ⟨m5,rfl,hb5,F4,Cf⟩;have bV:=I hb5;have eu:=I (HT3.J.trans (Touch.pI F4));clear hb5 F4 e0 e3 x0;cases hx:(nX (d+1) x&&decide (m'+Tr.count x≤1000))with
        |false=>
         have qJ:=I (show(nX d n&&decide (m+Tr.count n≤1000))=false by
          rcases Bool.and_eq_false_iff.1 hx with hx1|hx1
          ·rw[U6.J,p1,HN.J (by rw[hx1,Bool.and_false]),Bool.false_and]
          ·rw[decide_eq_false_iff_not]at hx1
           have:=vK.J;have e:decide (m+Tr.count n≤1000)=false:=dF (by omega);rw[e,Bool.and_false])
         rw[hx]at Cf;go_wp2_with fail
         repeat(quiet_step (fail))
         refine wpQuiet_nil ?_;rintro _ ⟨nq2,rfl⟩;go_wp2
         go_ret;exact⟨m5,by rw[qJ.J];rfl,bV.J.drewN _,eu.J.drewN _,fun h=>by rw[qJ.J]at h;cases h⟩
        |true=>
         rw[hx]at Cf;have hm6:=Cf rfl;clear Cf;obtain⟨hx1,hx2⟩:=Bool.and_eq_true_iff.1 hx;rw[decide_eq_true_eq]at hx2
         have HL5:=I (show qZ true (d+1) (n.kids.take (j+1))=true by
          have hl:=HL.J;rw[p1]at hl;rw[HS.J,hl,p2,hx1];rfl)
         go_wp2_with fail
         repeat(quiet_step (fail))
         refine wpQuiet_nil ?_;rintro _ ⟨nq2,rfl⟩;go_wp2
         go_roundw
         case rel=>exact⟨j+1,m5,by go_num,by omega,bV.J.drewN _,eu.J.drewN _,⟨by rw[vK.J];omega,by omega⟩,HL5⟩
         case measure=>simp[intOf];omega
       |true=>
        have qJ:=I (show(nX d n&&decide (m+Tr.count n≤1000))=false by rw[U6.J,p1,HN.J (by rw[p2];rfl)];rfl);go_wp2
        go_quiet (fail)
        go_wp2
        go_ret;exact⟨m',by rw[qJ.J];rfl,HB3.J,HT3.J.drewN _,fun h=>by rw[qJ.J]at h;cases h⟩
     ·have d1:decide ((j:Int)<(n.kids.length:Int))=false:=dF (by omega)
      have dG:decide (j<n.kids.length)=false:=dF (by omega);obtain rfl:j=n.kids.length:=by omega
      have hl:=HL.J;rw[List.take_length]at hl;obtain⟨hmm,hmx⟩:=HM.J;rw[List.take_length]at hmm
      have qJ:=I (show(nX d n&&decide (m+Tr.count n≤1000))=true by
       have e:decide (m+Tr.count n≤1000)=true:=dT (by omega);rw[U6.J,hl,e];rfl)
      clear hl;go_wp2
      go_ret;exact⟨m',by rw[qJ.J];rfl,HB3.J,HT3.J,fun _=>by omega⟩
end
section
open Go.RowKit
attribute [local go_sem] Oper.semAt_some
theorem F5:Tryz.prog.built 111 [(0,.agg ow)]=some (j5 0):=by kernel_rfl
theorem U7(n:Tr.Nd)(sl:Value)(w:World)(hr:aO w n.kids sl)(ht:n.text.length≤maxLen):
  Calls Tryz.prog 28 #[.agg #[.int .i64 n.kind,.string ⟨n.text.toArray⟩,.int .i64 n.ai,sl]] w fun e w'=>e=.returned (.bool ((n.kind==1)&&(nX 1 n&&decide (Tr.count n≤1000))))∧ag w w':=by
 obtain⟨A,cap,rfl⟩:=hr.slice;have HR:=I hr;clear hr;go_enter Tryz.func28,Tryz.ntmps28;go_wp2_with fail
 refine(U3 _).mono ?_;rintro _ w1 ⟨rfl,hf1⟩;have YM:ag w w1:=hf1.pre;have hb1:=hf1.blk (O.new w 31 #[.int .i64 n.kind,.string ⟨n.text.toArray⟩,.int .i64 n.ai,.slice A n.kids.length cap]) (fun h=>h);obtain⟨q0,q1,q2,q3,_,_,_,_,hg⟩:=O.four hb1;have HN:=I (YK w1 w1.heap.size (Nat.le_refl _) _ n A w.heap.size 0 cap 1 0 1 (w1.alloc (.cells (j5 0) 111)) rfl (Nat.le_refl _) q0 q1 q2 q3 (HR.J.fresh YM) ht (O.new _ _ _) ((M _ _).alloc _) (by omega) (by decide));have aF:=I YM;have hb2:=hb1.alloc (.cells (j5 0) 111);obtain⟨r0,r1,r2,r3,_,_,_,_,hg2⟩:=O.four hb2;clear hf1 YM hb1 hb2;cases hk:(n.kind==1)with
 |false=>
  go_wp2_with (refine eD [(0,.agg ow)] F5 _ rfl rfl rfl (.agg (j5 0)) rfl ?_)
  go_ret;exact⟨af _ _ (by rw[hk];rfl),aF.J.alloc _⟩
 |true=>
  go_wp2_with (refine eD [(0,.agg ow)] F5 _ rfl rfl rfl (.agg (j5 0)) rfl ?_)
  refine HN.J.mono ?_;rintro _ w2 ⟨m',rfl,hb3,ht3,_⟩;rw[Nat.zero_add];have hf2:ag w w2:=aF.J.trans' (Touch.pre ht3) (fun i hi=>by right;have:=aF.J.size;omega);have aY:=I hf2;clear hf2 hb3 ht3 q0 q1 q2 q3 r0 r1 r2 r3;go_wp2
  go_ret;exact⟨af _ _ (by rw[hk];rfl),aY.J⟩
end
section
open Go.RowKit
theorem U8(n:Tr.Nd):bQ n=(Tr.gI n.kind n.text&&Tr.cZ n.kind n.ai n.kids.length):=by
 unfold bQ
 by_cases h1:1≤n.kind
 ·by_cases h2:n.kind≤12
  ·simp[h1,h2]
  ·have:Tr.cZ n.kind n.ai n.kids.length=false:=by
    unfold Tr.cZ;rw[if_neg (by omega)];split
    ·rfl
    ·rw[if_neg (by omega),if_neg (by omega),if_neg (by omega),if_neg (by omega),if_neg (by omega)]
   simp[this]
 ·have:Tr.cZ n.kind n.ai n.kids.length=false:=by
   unfold Tr.cZ;rw[if_neg (by omega)];split
   ·rfl
   ·rw[if_neg (by omega),if_neg (by omega),if_neg (by omega),if_neg (by omega),if_neg (by omega)]
  simp[this]
theorem YN(n:Tr.Nd):∀d,nX d n=(Tr.form n&&decide (d+Tr.depth n≤25)):=by
 induction n using Tr.Nd.ind with
 |h n ih=>
  have hL:∀(r:Bool) (l:List Tr.Nd) (d:Nat),d≤25→(∀x∈l,∀d,nX d x=(Tr.form x&&decide (d+Tr.depth x≤25)))→qZ r d l=(Tr.ku r l&&decide (d+Tr.aP l≤25)):=by
   intro r l
   induction l with
   |nil=>intro d hd _;simp[qZ,Tr.ku,Tr.aP,hd]
   |cons x l ihl=>
    intro d hd h;rw[qZ,Tr.ku,Tr.aP,h x (by simp) d,ihl d hd (fun y hy=>h y (by simp[hy]))]
    have e:decide (d+max (Tr.depth x) (Tr.aP l)≤25)=(decide (d+Tr.depth x≤25)&&decide (d+Tr.aP l≤25)):=by
     rw[Bool.eq_iff_iff,Bool.and_eq_true,decide_eq_true_iff,decide_eq_true_iff,decide_eq_true_iff];omega
    rw[e,bne];generalize (!((x.kind==1)==r))=a;generalize Tr.form x=b;generalize Tr.ku r l=c;generalize decide (d+Tr.depth x≤25)=p;generalize decide (d+Tr.aP l≤25)=q;cases a<;>cases b<;>cases c<;>cases p<;>cases q<;>rfl
  intro d;rw[QL,U8,Tr.mg,Tr.mP]
  by_cases hd:d≤24
  ·rw[hL _ _ (d+1) (by omega) ih]
   have e:decide (d+1+Tr.aP n.kids≤25)=decide (d+(Tr.aP n.kids+1)≤25):=by
    rw[Bool.eq_iff_iff,decide_eq_true_iff,decide_eq_true_iff];omega
   rw[e];simp[hd,Bool.and_assoc]
  ·have e:decide (d+(Tr.aP n.kids+1)≤25)=false:=dF (by omega)
   rw[e];simp[hd]
theorem YO(n:Tr.Nd):((n.kind==1)&&(nX 1 n&&decide (Tr.count n≤1000)))=Tr.valid n:=by
 rw[YN];unfold Tr.valid;have e2:decide (1+Tr.depth n≤25)=decide (Tr.depth n≤24):=by rw[Bool.eq_iff_iff,decide_eq_true_iff,decide_eq_true_iff];omega
 rw[e2];cases(n.kind==1)<;>cases Tr.form n<;>cases decide (Tr.depth n≤24)<;>cases decide (Tr.count n≤1000)<;>rfl
theorem D6(n:Tr.Nd)(sl:Value)(w:World)(hr:aO w n.kids sl)(ht:n.text.length≤maxLen):
  Calls Tryz.prog 28 #[.agg #[.int .i64 n.kind,.string ⟨n.text.toArray⟩,.int .i64 n.ai,sl]] w fun e w'=>e=.returned (.bool (Tr.valid n))∧ag w w':=by
 rw[←YO n];exact U7 n sl w hr ht
theorem Sk(n:Tr.Nd)(sl:Value)(w:World)(hr:aO w n.kids sl)(ht:n.text.length≤maxLen)(_hc:Tr.count n≤1000):
  Calls Tryz.prog 28 #[.agg #[.int .i64 n.kind,.string ⟨n.text.toArray⟩,.int .i64 n.ai,sl]] w fun e w'=>e=.returned (.bool (Tr.valid n))∧ag w w':=D6 n sl w hr ht
end
end Go.Proofs.YtnbeemkfmlfgfaaGreatDoor
