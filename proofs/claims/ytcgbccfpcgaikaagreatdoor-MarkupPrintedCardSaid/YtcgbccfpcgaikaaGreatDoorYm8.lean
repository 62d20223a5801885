/- Part 8 of 46 of a proof. No condition. -/
import Derived.Test.YtcgbccfpcgaikaaGreatDoorYm7
set_option maxRecDepth 100000
set_option maxHeartbeats 4000000
namespace Go.Proofs.YtcgbccfpcgaikaaGreatDoor
section
open Go.RowKit
def lD(n:Tr.Nd):Bool:=decide (1≤n.kind)&&(decide (n.kind≤12)&&(Tr.dR n.kind n.text&&Tr.bM n.kind n.ah n.kids.length))
theorem afx(n:Tr.Nd)(c g o:Nat)(w:World)(hk:n.kind<1)
  (a0:w.cell? ⟨g,o,none⟩=some (.int .i64 n.kind)):
  Calls Tryz.prog 54 #[.pointer (some ⟨c,0,none⟩),.pointer (some ⟨g,o,none⟩)] w fun e w'=>e=.returned (.bool false)∧ag w w':=by
 have e1:decide (n.kind<(1:Int))=true:=dT (by omega);have e2:decide ((12:Int)<n.kind)=false:=dF (by omega);clear hk;go_enter Tryz.func54,Tryz.ntmps54;go_wp2
 go_quiet (fail)
 go_wp2
 go_ret;exact⟨rfl,aF⟩
theorem afy(n:Tr.Nd)(c g o:Nat)(w:World)(hk:12<n.kind)
  (a0:w.cell? ⟨g,o,none⟩=some (.int .i64 n.kind)):
  Calls Tryz.prog 54 #[.pointer (some ⟨c,0,none⟩),.pointer (some ⟨g,o,none⟩)] w fun e w'=>e=.returned (.bool false)∧ag w w':=by
 have e1:decide (n.kind<(1:Int))=false:=dF (by omega);have e2:decide ((12:Int)<n.kind)=true:=dT (by omega);clear hk;go_enter Tryz.func54,Tryz.ntmps54;go_wp2
 go_quiet (fail)
 go_wp2
 go_ret;exact⟨rfl,aF⟩
theorem Je(a b:Nat):decide ((a:Int)≤(b:Int))=decide (a≤b):=by rw[Bool.eq_iff_iff,decide_eq_true_iff,decide_eq_true_iff];omega
theorem WG(t:List UInt8):Tr.dR ((4:Nat):Int) t=(t.all nP&&decide ((ByteArray.size ⟨t.toArray⟩:Int)≤(200:Int))):=by
 show(decide (t.length≤200)&&Tr.aU t)=_;have:(ByteArray.size ⟨t.toArray⟩)=t.length:=by show t.toArray.size=_;simp
 rw[this,show decide ((t.length:Int)≤(200:Int))=decide (t.length≤200)from Je t.length 200,Bool.and_comm];rfl
theorem qw(k:Nat)(n:Tr.Nd)(tx:Bool)(slots:Int)(hk:n.kind=k)(h1:1≤k)(h2:k≤12)(ht:Tr.dR n.kind n.text=tx)
  (hs:(k=5∨k=6∨k=7∨k=8→slots=2)∧(k=9→slots=3)∧(k=10∨k=11→slots=1)∧(k=2∨k=3∨k=4→slots=0)):lD n=(tx&&mJ k n.ah n.kids.length slots):=by
 unfold lD;rw[ht,hk];have e1:decide ((1:Int)≤(k:Int))=true:=by simp;omega
 have e2:decide ((k:Int)≤12)=true:=by simp;omega
 rw[e1,e2,Bool.true_and,Bool.true_and]
 congr 1
 unfold Tr.bM mJ;generalize n.kids.length=m;generalize n.ah=c;obtain⟨s1,s2,s3,s4⟩:=hs
 by_cases k12:k=12
 ·subst k12
  rw[if_pos (show((12:Nat):Int)=12 from rfl),if_neg (show¬(((12:Nat):Int)==1)=true by decide),if_pos (show(((12:Nat):Int)==12)=true by decide)];have f1:decide ((1:Int)≤(m:Int))=decide (1≤m):=Je 1 m;have f2:decide ((m:Int)≤(256:Int))=decide (m≤256):=Je m 256;show(decide (1≤c)&&decide (c≤16)&&decide (1≤m)&&decide (m≤256)&&decide ((m:Int)%c=0))=(decide (1≤c)&&(decide (c≤16)&&(decide ((1:Int)≤(m:Int))&&(decide ((m:Int)≤(256:Int))&&((m:Int)%c==0)))));rw[f1,f2];simp only[Bool.and_assoc];rfl
 ·have afz:¬(k:Int)=12:=by omega
  have ag5:((k:Int)==12)=false:=by simpa using afz
  rw[if_neg afz,ag5]
  by_cases hc:c=0
  ·subst hc
   simp only[ne_eq,not_true_eq_false,if_false,Bool.false_eq_true]
   by_cases k1:k=1
   ·subst k1
    rw[if_pos (show((1:Nat):Int)=1 from rfl),if_pos (show(((1:Nat):Int)==1)=true by decide)];exact(Je m 200).symm
   ·have k1':¬(k:Int)=1:=by omega
    have ah4:((k:Int)==1)=false:=by simpa using k1'
    rw[if_neg k1',ah4];simp only[Bool.false_eq_true,if_false,BEq.rfl,Bool.true_and]
    have dn:∀(j:Nat) (sl:Int),sl=j→decide (m=j)=((m:Int)==sl):=by
     intro j sl h;subst h;rw[Bool.eq_iff_iff,decide_eq_true_iff,beq_iff_eq];omega
    split
    ·exact dn 0 slots (s4 (by omega))
    ·split
     ·exact dn 2 slots (s1 (by omega))
     ·split
      ·exact dn 3 slots (s2 (by omega))
      ·split
       ·exact dn 1 slots (s3 (by omega))
       ·omega
  ·have hc':(c==0)=false:=by simpa using hc
   rw[if_pos hc,hc'];simp
theorem aew(n:Tr.Nd)(A:Option Addr)(cap c g o:Nat)(m:Int)(w:World)(hc:af w c 70 (jG m))(hm:n.text.length≤9223372036854775807)
  (a0:w.cell? ⟨g,o,none⟩=some (.int .i64 n.kind)) (a1:w.cell? ⟨g,o+1,none⟩=some (.string ⟨n.text.toArray⟩)) (a2:w.cell? ⟨g,o+2,none⟩=some (.int .i64 n.ah)) (a3:w.cell? ⟨g,o+3,none⟩=some (.slice A n.kids.length cap)):
  Calls Tryz.prog 54 #[.pointer (some ⟨c,0,none⟩),.pointer (some ⟨g,o,none⟩)] w fun e w'=>e=.returned (.bool (lD n))∧ag w w':=by
 by_cases h1:n.kind<1
 ·have e:lD n=false:=by
   unfold lD;have:decide (1≤n.kind)=false:=by simp;omega
   rw[this];rfl
  rw[e];exact afx n c g o w h1 a0
 by_cases h2:12<n.kind
 ·have e:lD n=false:=by
   unfold lD;have:decide (n.kind≤12)=false:=by simp;omega
   rw[this,Bool.false_and,Bool.and_false]
  rw[e];exact afy n c g o w h2 a0
 obtain⟨k,hk⟩:∃k:Nat,n.kind=k:=⟨n.kind.toNat,by omega⟩;have k1:1≤k:=by omega
 have k2:k≤12:=by omega
 rw[hk]at a0
 match k,k1,k2,hk,a0 with
 |1,k1,k2,hk,a0=>
  rw[qw 1 n (n.text.isEmpty) 0 hk k1 k2 (by rw[hk];rfl) (by decide)];exact qp n.text n.ah 0 1 n.kids.length 48 _ A cap c g o w k1 k2 (fun _ _=>by kernel_rfl) (fun w'=>lK (uW ⟨n.text.toArray⟩ w')) a0 a1 a2 a3 (hc.cell 4) (hc.cell 5)
 |2,k1,k2,hk,a0=>
  rw[qw 2 n (Tr.symbol n.text) 0 hk k1 k2 (by rw[hk];rfl) (by decide)];exact qp n.text n.ah 0 2 n.kids.length 49 _ A cap c g o w k1 k2 (fun _ _=>by kernel_rfl) (fun w'=>lK (Ww ⟨n.text.toArray⟩ w' (by show n.text.toArray.size≤_;simpa using hm))) a0 a1 a2 a3 (hc.cell 7) (hc.cell 8)
 |3,k1,k2,hk,a0=>
  rw[qw 3 n (Tr.isNum n.text) 0 hk k1 k2 (by rw[hk];rfl) (by decide)];exact qp n.text n.ah 0 3 n.kids.length 50 _ A cap c g o w k1 k2 (fun _ _=>by kernel_rfl) (fun w'=>T9 ⟨n.text.toArray⟩ w' (by show n.text.toArray.size≤_;simpa using hm)) a0 a1 a2 a3 (hc.cell 10) (hc.cell 11)
 |4,k1,k2,hk,a0=>
  rw[qw 4 n ((n.text.all nP&&decide ((ByteArray.size ⟨n.text.toArray⟩:Int)≤(200:Int)))) 0 hk k1 k2 (by rw[hk];exact WG n.text) (by decide)];exact qp n.text n.ah 0 4 n.kids.length 51 _ A cap c g o w k1 k2 (fun _ _=>by kernel_rfl) (fun w'=>lK (Y0 ⟨n.text.toArray⟩ w' (by show n.text.toArray.size≤_;simpa using hm))) a0 a1 a2 a3 (hc.cell 13) (hc.cell 14)
 |5,k1,k2,hk,a0=>
  rw[qw 5 n (n.text.isEmpty) 2 hk k1 k2 (by rw[hk];rfl) (by decide)];exact qp n.text n.ah 2 5 n.kids.length 48 _ A cap c g o w k1 k2 (fun _ _=>by kernel_rfl) (fun w'=>lK (uW ⟨n.text.toArray⟩ w')) a0 a1 a2 a3 (hc.cell 16) (hc.cell 17)
 |6,k1,k2,hk,a0=>
  rw[qw 6 n (n.text.isEmpty) 2 hk k1 k2 (by rw[hk];rfl) (by decide)];exact qp n.text n.ah 2 6 n.kids.length 48 _ A cap c g o w k1 k2 (fun _ _=>by kernel_rfl) (fun w'=>lK (uW ⟨n.text.toArray⟩ w')) a0 a1 a2 a3 (hc.cell 19) (hc.cell 20)
 |7,k1,k2,hk,a0=>
  rw[qw 7 n (n.text.isEmpty) 2 hk k1 k2 (by rw[hk];rfl) (by decide)];exact qp n.text n.ah 2 7 n.kids.length 48 _ A cap c g o w k1 k2 (fun _ _=>by kernel_rfl) (fun w'=>lK (uW ⟨n.text.toArray⟩ w')) a0 a1 a2 a3 (hc.cell 22) (hc.cell 23)
 |8,k1,k2,hk,a0=>
  rw[qw 8 n (n.text.isEmpty) 2 hk k1 k2 (by rw[hk];rfl) (by decide)];exact qp n.text n.ah 2 8 n.kids.length 48 _ A cap c g o w k1 k2 (fun _ _=>by kernel_rfl) (fun w'=>lK (uW ⟨n.text.toArray⟩ w')) a0 a1 a2 a3 (hc.cell 25) (hc.cell 26)
 |9,k1,k2,hk,a0=>
  rw[qw 9 n (n.text.isEmpty) 3 hk k1 k2 (by rw[hk];rfl) (by decide)];exact qp n.text n.ah 3 9 n.kids.length 48 _ A cap c g o w k1 k2 (fun _ _=>by kernel_rfl) (fun w'=>lK (uW ⟨n.text.toArray⟩ w')) a0 a1 a2 a3 (hc.cell 28) (hc.cell 29)
 |10,k1,k2,hk,a0=>
  rw[qw 10 n (Tr.eu.contains n.text) 1 hk k1 k2 (by rw[hk];rfl) (by decide)];exact qp n.text n.ah 1 10 n.kids.length 52 _ A cap c g o w k1 k2 (fun _ _=>by kernel_rfl) (fun w'=>lK (Lp ⟨n.text.toArray⟩ w')) a0 a1 a2 a3 (hc.cell 31) (hc.cell 32)
 |11,k1,k2,hk,a0=>
  rw[qw 11 n (Tr.fence n.text) 1 hk k1 k2 (by rw[hk];rfl) (by decide)];exact qp n.text n.ah 1 11 n.kids.length 53 _ A cap c g o w k1 k2 (fun _ _=>by kernel_rfl) (fun w'=>lK (Y2 ⟨n.text.toArray⟩ w')) a0 a1 a2 a3 (hc.cell 34) (hc.cell 35)
 |12,k1,k2,hk,a0=>
  rw[qw 12 n (n.text.isEmpty) 0 hk k1 k2 (by rw[hk];rfl) (by decide)];exact qp n.text n.ah 0 12 n.kids.length 48 _ A cap c g o w k1 k2 (fun _ _=>by kernel_rfl) (fun w'=>lK (uW ⟨n.text.toArray⟩ w')) a0 a1 a2 a3 (hc.cell 37) (hc.cell 38)
mutual
def oQ:Nat→Tr.Nd→Bool
 |d,.mk k t c ks=>decide (d≤24)&&(lD (.mk k t c ks)&&sS (k==1) (d+1) ks)
def sS:Bool→Nat→List Tr.Nd→Bool
 |_,_,[]=>true
 |r,d,n::ns=>(!((n.kind==1)==r))&&(oQ d n&&sS r d ns)
end
theorem Vo(d:Nat)(n:Tr.Nd):oQ d n=(decide (d≤24)&&(lD n&&sS (n.kind==1) (d+1) n.kids)):=by cases n;rw[oQ];rfl
theorem NW(r:Bool)(d:Nat):∀(l:List Tr.Nd) (i:Nat) (h:i<l.length),sS r d (l.take (i+1))=(sS r d (l.take i)&&((!((l[i].kind==1)==r))&&oQ d l[i]))
 |[],i,h=>by simp at h
 |x::l,0,h=>by simp[sS]
 |x::l,i+1,h=>by
  simp only[List.take_succ_cons,sS,List.getElem_cons_succ];rw[NW r d l i (by simpa using h)];simp only[Bool.and_assoc]
theorem Vp(r:Bool)(d:Nat):∀(l:List Tr.Nd) (i:Nat) (h:i<l.length),((!((l[i].kind==1)==r))&&oQ d l[i])=false→sS r d l=false
 |[],i,h,_=>by simp at h
 |x::l,0,h,hn=>by
  simp only[List.getElem_cons_zero]at hn;rw[sS,←Bool.and_assoc,hn,Bool.false_and]
 |x::l,i+1,h,hn=>by
  simp only[List.getElem_cons_succ]at hn;rw[sS,Vp r d l i (by simpa using h) hn,Bool.and_false,Bool.and_false]
def aex(c:Nat)(d m:Nat)(n:Tr.Nd)(w:World)(e:Ending)(w':World):Prop:=
 ∃m':Nat,e=.returned (.bool (oQ d n&&decide (m+Tr.count n≤1000)))∧af w' c 70 (jG m')∧Touch (·=c) w w'∧((oQ d n&&decide (m+Tr.count n≤1000))=true→m'=m+Tr.count n)
theorem Zg(m:Nat):(jG (m:Int)).setIfInBounds 39 (.int .i64 ((m:Int)+1))=jG ((m+1:Nat):Int):=by rfl
theorem QE(m:Int):(jG m)[39]?=some (.int .i64 m):=by rfl
theorem abL(W0:World)(c:Nat)(hcW:W0.heap.size≤c)(k:Nat):∀(n:Tr.Nd) (A:Option Addr) (g o cap d m:Nat) (dd:Int) (w:World),dd=d→Tr.count n≤k→
  W0.cell? ⟨g,o,none⟩=some (.int .i64 n.kind)→W0.cell? ⟨g,o+1,none⟩=some (.string ⟨n.text.toArray⟩)→W0.cell? ⟨g,o+2,none⟩=some (.int .i64 n.ah)→W0.cell? ⟨g,o+3,none⟩=some (.slice A n.kids.length cap)→
  aD W0 n.kids (.slice A n.kids.length cap)→n.text.length≤maxLen→af w c 70 (jG m)→Touch (·=c) W0 w→m≤1000→d≤1000→
  Calls Tryz.prog 28 #[.pointer (some ⟨c,0,none⟩),.pointer (some ⟨g,o,none⟩),.int .i64 dd] w (aex c d m n w):=by
 induction k with
 |zero=>intro n _ _ _ _ _ _ _ _ _ h;have:=Tr.bX n;omega
 |succ k ih=>
  intro n A g o cap d m dd w hdd hcn a0 a1 a2 a3 hrep htx hb Vq hm hd;subst hdd;have hgc:g<W0.heap.size:=bL a0;have hne:g≠c:=by omega
  have hlen:=hrep.len;unfold maxLen at htx hlen;have hck:=Tr.aN n;have hnl:=Tr.jF n.kids;have q9:=hid ih;have abM:=hid hrep;have Zh:=hid (Vo d n);have uX:=hid Vq;have HB:=hid hb;have ht1:Touch (·=c) w (w.setCell ⟨c,39,none⟩ (.int .i64 ((m:Int)+1))):=Touch.setCell (S:=(·=c)) (M _ w) (p:=⟨c,39,none⟩) (.inl rfl) _
  have hb1:af (w.setCell ⟨c,39,none⟩ (.int .i64 ((m:Int)+1))) c 70 (jG ((m+1:Nat):Int)):=by
   rw[←Zg];exact hb.put 39 _
  have q39:w.cell? ⟨c,39,none⟩=some (.int .i64 (m:Int)):=(hb.cell 39).trans (QE m);have z39:w.frozen? ⟨c,39,none⟩=false:=hb.frozen 39;have r39:(w.setCell ⟨c,39,none⟩ (.int .i64 ((m:Int)+1))).cell? ⟨c,39,none⟩=some (.int .i64 ((m:Int)+1)):=(hb1.cell 39).trans (QE _);have HT1:=hid ht1;have HB1:=hid hb1;clear ih hrep Vq hb ht1 hb1
  by_cases hm1:m=1000
  ·have lim:decide ((1000:Int)<(m:Int)+1)=true:=dT (by omega)
   have akM:(1000:Int)<(m:Int)+1:=by omega
   have wD:=hid (show(oQ d n&&decide (m+Tr.count n≤1000))=false by
    have:=Tr.bX n;have e:decide (m+Tr.count n≤1000)=false:=dF (by omega);rw[e,Bool.and_false])
   clear hm1 Zh;go_enter Tryz.func28,Tryz.ntmps28;go_wp2
   go_ret;exact⟨m+1,by rw[wD.out];rfl,HB1.out,HT1.out,fun h=>by rw[wD.out]at h;cases h⟩
  have lim:decide ((1000:Int)<(m:Int)+1)=false:=dF (by omega)
  by_cases hd24:24<d
  ·have dl:decide ((24:Int)<(d:Int))=true:=dT (by omega)
   have dln:decide (24<d)=true:=dT (by omega)
   have hch:oQ d n=false:=by
    rw[Zh.out];have:decide (d≤24)=false:=dF (by omega);rw[this];rfl
   have wD:=hid (show(oQ d n&&decide (m+Tr.count n≤1000))=false by rw[hch];rfl);clear hch Zh;go_enter Tryz.func28,Tryz.ntmps28;go_wp2
   go_ret;exact⟨m+1,by rw[wD.out];rfl,HB1.out,HT1.out,fun h=>by rw[wD.out]at h;cases h⟩
  ·have dl:decide ((24:Int)<(d:Int))=false:=dF (by omega)
   have dln:decide (24<d)=false:=dF (by omega);have b0:=(uX.out.trans HT1.out).cell a0 hne;have b1:=(uX.out.trans HT1.out).cell a1 hne;have b2:=(uX.out.trans HT1.out).cell a2 hne;have b3:=(uX.out.trans HT1.out).cell a3 hne;have HOWN:=hid (aew n A cap c g o _ _ HB1.out htx b0 b1 b2 b3);have adW:decide (d≤24)=true:=dT (by omega);have GI:=hid (show oQ d n=(lD n&&sS (n.kind==1) (d+1) n.kids) by rw[Zh.out,adW];rfl);clear Zh adW b0 b1 b2 b3;go_enter Tryz.func28,Tryz.ntmps28;go_wp2_with fail
   refine HOWN.out.mono ?_;rintro _ w2 ⟨rfl,hf2⟩;have hb2:=hf2.blk HB1.out (fun h=>h);have ht2:Touch (·=c) w w2:=HT1.out.trans (hf2.mono (fun _ h=>h.elim));have HB2:=hid hb2;have HT2:=hid ht2;have b0:=(uX.out.trans ht2).cell a0 hne;have b3:=(uX.out.trans ht2).cell a3 hne;clear hf2 hb2 ht2 r39 q39 z39;cases how:lD n with
   |false=>
    have wD:=hid (show(oQ d n&&decide (m+Tr.count n≤1000))=false by rw[GI.out,how];rfl);go_wp2
    go_ret;exact⟨m+1,by rw[wD.out];rfl,HB2.out,HT2.out,fun h=>by rw[wD.out]at h;cases h⟩
   |true=>
    have QF:=hid (show oQ d n=sS (n.kind==1) (d+1) n.kids by rw[GI.out,how];rfl);clear GI how;go_wp2
    go_loopw [35] (fun i wr=>∃(j m':Nat),i=.int .i64 j∧j≤n.kids.length∧Hd (af wr c 70 (jG m'))∧Hd (Touch (·=c) w wr)∧Hd (m'=m+1+Tr.az (n.kids.take j)∧m'≤1000)∧Hd (sS (n.kind==1) (d+1) (n.kids.take j)=true)) (fun i _=>n.kids.length-(intOf i).toNat)
    case atStart=>exact⟨0,m+1,rfl,Nat.zero_le _,HB2.out,HT2.out,⟨by simp[Tr.az],by omega⟩,by simp[sS,Hd]⟩
    case round=>
     obtain⟨j,m',rfl,hj,HB3,HT3,HM,HL⟩:=hrel
     by_cases c1:j<n.kids.length
     ·have d1:decide ((j:Int)<(n.kids.length:Int))=true:=dT (by omega)
      have jo:decide (j<n.kids.length)=true:=dT (by omega);have d1':(j:Int)<(n.kids.length:Int):=by omega
      obtain⟨g',o',sl,rfl,hg',n0,n1,n2,n3,su⟩:=abM.out.get j c1;have Kc:=abM.out.texts j c1;obtain⟨A',cap',rfl⟩:=su.slice;have hne':g'≠c:=by omega
      have e0:=(uX.out.trans HT3.out).cell a0 hne;have e3:=(uX.out.trans HT3.out).cell a3 hne;have x0:=(uX.out.trans HT3.out).cell n0 hne';have hcm:=Tr.cB (List.getElem_mem (l:=n.kids) (n:=j) c1);have hct:=Tr.uA n.kids j c1;have hcl:=Tr.qy n.kids (j+1);have hcj:=Tr.qy n.kids j;have HS:=hid (NW (n.kind==1) (d+1) n.kids j c1);have HN:=hid (Vp (n.kind==1) (d+1) n.kids j c1);have HM0:=HM.out.1;have Zi:=HM.out.2;have HX:=hid (fun(w':World) (hb':af w' c 70 (jG m')) (ht':Touch (·=c) W0 w')=>q9.out n.kids[j] A' g' (o'+j*4) cap' (d+1) m' ((d:Int)+1) w' (by omega) (by omega) n0 n1 n2 n3 su Kc hb' ht' (by omega) (by omega));have yf:=hid hct;clear n0 n1 n2 n3 su q9 abM hct;generalize n.kids[j]=x at*;cases p1:(n.kind==1)with
      |false=>
       rw[p1]at HS HN;cases p2:(x.kind==1)with
       |false=>
        have wD:=hid (show(oQ d n&&decide (m+Tr.count n≤1000))=false by rw[QF.out,p1,HN.out (by rw[p2];rfl)];rfl);go_wp2
        go_quiet (fail)
        go_wp2
        go_ret;exact⟨m',by rw[wD.out];rfl,HB3.out,HT3.out.drewN _,fun h=>by rw[wD.out]at h;cases h⟩
       |true=>
        go_wp2_with fail
        refine kY [([0,1,2,3,4,5,6,7,8,9,10,11,12,13,14,15,16,17,18,19,20,21,22,23,24],25)] [26,27] (by kernel_rfl) (by kernel_rfl) ?_;simp only[tY,pick,List.getElem?_cons_zero,List.getElem?_cons_succ]
        repeat(quiet_step (fail))
        refine wpQuiet_nil ?_;rintro _ ⟨nq,rfl⟩;go_wp2_with fail
        refine(HX.out _ (HB3.out.drewN nq) ((uX.out.trans HT3.out).drewN nq)).mono ?_;rintro _ w5 ⟨m5,rfl,hb5,jU,ES⟩;have eO:=hid hb5;have iW:=hid (HT3.out.trans (Touch.BD jU));clear hb5 jU e0 e3 x0;cases hx:(oQ (d+1) x&&decide (m'+Tr.count x≤1000))with
        |false=>
         have wD:=hid (show(oQ d n&&decide (m+Tr.count n≤1000))=false by
          rcases Bool.and_eq_false_iff.1 hx with hx1|hx1
          ·rw[QF.out,p1,HN.out (by rw[hx1,Bool.and_false]),Bool.false_and]
          ·rw[decide_eq_false_iff_not]at hx1
           have:=yf.out;have e:decide (m+Tr.count n≤1000)=false:=dF (by omega);rw[e,Bool.and_false])
         rw[hx]at ES;go_wp2_with fail
         repeat(quiet_step (fail))
         refine wpQuiet_nil ?_;rintro _ ⟨NP,rfl⟩;go_wp2
         go_ret;exact⟨m5,by rw[wD.out];rfl,eO.out.drewN _,iW.out.drewN _,fun h=>by rw[wD.out]at h;cases h⟩
        |true=>
         rw[hx]at ES;have GJ:=ES rfl;clear ES;obtain⟨hx1,hx2⟩:=Bool.and_eq_true_iff.1 hx;rw[decide_eq_true_eq]at hx2
         have HL5:=hid (show sS false (d+1) (n.kids.take (j+1))=true by
          have hl:=HL.out;rw[p1]at hl;rw[HS.out,hl,p2,hx1];rfl)
         go_wp2_with fail
         repeat(quiet_step (fail))
         refine wpQuiet_nil ?_;rintro _ ⟨NP,rfl⟩;go_wp2
         go_roundw
         case rel=>exact⟨j+1,m5,by go_num,by omega,eO.out.drewN _,iW.out.drewN _,⟨by rw[yf.out];omega,by omega⟩,HL5⟩
         case measure=>simp[intOf];omega
      |true=>
       rw[p1]at HS HN;cases p2:(x.kind==1)with
       |false=>
        go_wp2_with fail
        refine kY [([0,1,2,3,4,5,6,7,8,9,10,11,12,13,14,15,16,17,18,19,20,21,22,23,24],25)] [26,27] (by kernel_rfl) (by kernel_rfl) ?_;simp only[tY,pick,List.getElem?_cons_zero,List.getElem?_cons_succ]
        repeat(quiet_step (fail))
        refine wpQuiet_nil ?_;rintro _ ⟨nq,rfl⟩;go_wp2_with fail
        refine(HX.out _ (HB3.out.drewN nq) ((uX.out.trans HT3.out).drewN nq)).mono ?_;rintro _ w5 ⟨m5,rfl,hb5,jU,ES⟩;have eO:=hid hb5;have iW:=hid (HT3.out.trans (Touch.BD jU));clear hb5 jU e0 e3 x0;cases hx:(oQ (d+1) x&&decide (m'+Tr.count x≤1000))with
        |false=>
         have wD:=hid (show(oQ d n&&decide (m+Tr.count n≤1000))=false by
          rcases Bool.and_eq_false_iff.1 hx with hx1|hx1
          ·rw[QF.out,p1,HN.out (by rw[hx1,Bool.and_false]),Bool.false_and]
          ·rw[decide_eq_false_iff_not]at hx1
           have:=yf.out;have e:decide (m+Tr.count n≤1000)=false:=dF (by omega);rw[e,Bool.and_false])
         rw[hx]at ES;go_wp2_with fail
         repeat(quiet_step (fail))
         refine wpQuiet_nil ?_;rintro _ ⟨NP,rfl⟩;go_wp2
         go_ret;exact⟨m5,by rw[wD.out];rfl,eO.out.drewN _,iW.out.drewN _,fun h=>by rw[wD.out]at h;cases h⟩
        |true=>
         rw[hx]at ES;have GJ:=ES rfl;clear ES;obtain⟨hx1,hx2⟩:=Bool.and_eq_true_iff.1 hx;rw[decide_eq_true_eq]at hx2
         have HL5:=hid (show sS true (d+1) (n.kids.take (j+1))=true by
          have hl:=HL.out;rw[p1]at hl;rw[HS.out,hl,p2,hx1];rfl)
         go_wp2_with fail
         repeat(quiet_step (fail))
         refine wpQuiet_nil ?_;rintro _ ⟨NP,rfl⟩;go_wp2
         go_roundw
         case rel=>exact⟨j+1,m5,by go_num,by omega,eO.out.drewN _,iW.out.drewN _,⟨by rw[yf.out];omega,by omega⟩,HL5⟩
         case measure=>simp[intOf];omega
       |true=>
        have wD:=hid (show(oQ d n&&decide (m+Tr.count n≤1000))=false by rw[QF.out,p1,HN.out (by rw[p2];rfl)];rfl);go_wp2
        go_quiet (fail)
        go_wp2
        go_ret;exact⟨m',by rw[wD.out];rfl,HB3.out,HT3.out.drewN _,fun h=>by rw[wD.out]at h;cases h⟩
     ·have d1:decide ((j:Int)<(n.kids.length:Int))=false:=dF (by omega)
      have jo:decide (j<n.kids.length)=false:=dF (by omega);obtain rfl:j=n.kids.length:=by omega
      have hl:=HL.out;rw[List.take_length]at hl;obtain⟨hmm,hmx⟩:=HM.out;rw[List.take_length]at hmm
      have wD:=hid (show(oQ d n&&decide (m+Tr.count n≤1000))=true by
       have e:decide (m+Tr.count n≤1000)=true:=dT (by omega);rw[QF.out,hl,e];rfl)
      clear hl;go_wp2
      go_ret;exact⟨m',by rw[wD.out];rfl,HB3.out,HT3.out,fun _=>by omega⟩
end
section
open Go.RowKit
attribute [local go_sem] Oper.semAt_some
theorem JH:Tryz.prog.built 70 [(0,.agg o7)]=some (jG 0):=by kernel_rfl
theorem Zj(n:Tr.Nd)(sl:Value)(w:World)(hr:aD w n.kids sl)(ht:n.text.length≤maxLen):
  Calls Tryz.prog 16 #[.agg #[.int .i64 n.kind,.string ⟨n.text.toArray⟩,.int .i64 n.ah,sl]] w fun e w'=>e=.returned (.bool ((n.kind==1)&&(oQ 1 n&&decide (Tr.count n≤1000))))∧ag w w':=by
 obtain⟨A,cap,rfl⟩:=hr.slice;have HR:=hid hr;clear hr;go_enter Tryz.func16,Tryz.ntmps16;go_wp2_with fail
 refine(Ze _).mono ?_;rintro _ w1 ⟨rfl,hf1⟩;have abN:ag w w1:=hf1.pre;have hb1:=hf1.blk (af.new w 24 #[.int .i64 n.kind,.string ⟨n.text.toArray⟩,.int .i64 n.ah,.slice A n.kids.length cap]) (fun h=>h);obtain⟨q0,q1,q2,q3,_,_,_,_,hg⟩:=af.four hb1;have HN:=hid (abL w1 w1.heap.size (Nat.le_refl _) _ n A w.heap.size 0 cap 1 0 1 (w1.alloc (.cells (jG 0) 70)) rfl (Nat.le_refl _) q0 q1 q2 q3 (HR.out.fresh abN) ht (af.new _ _ _) ((M _ _).alloc _) (by omega) (by decide));have aK:=hid abN;have hb2:=hb1.alloc (.cells (jG 0) 70);obtain⟨r0,r1,r2,r3,_,_,_,_,hg2⟩:=af.four hb2;clear hf1 abN hb1 hb2;cases hk:(n.kind==1)with
 |false=>
  go_wp2_with (refine cK [(0,.agg o7)] JH _ rfl rfl rfl (.agg (jG 0)) rfl ?_)
  go_ret;exact⟨ai _ _ (by rw[hk];rfl),aK.out.alloc _⟩
 |true=>
  go_wp2_with (refine cK [(0,.agg o7)] JH _ rfl rfl rfl (.agg (jG 0)) rfl ?_)
  refine HN.out.mono ?_;rintro _ w2 ⟨m',rfl,hb3,ht3,_⟩;rw[Nat.zero_add];have hf2:ag w w2:=aK.out.trans' (Touch.pre ht3) (fun i hi=>by right;have:=aK.out.size;omega);have bW:=hid hf2;clear hf2 hb3 ht3 q0 q1 q2 q3 r0 r1 r2 r3;go_wp2
  go_ret;exact⟨ai _ _ (by rw[hk];rfl),bW.out⟩
end
section
open Go.RowKit
theorem Zk(n:Tr.Nd):lD n=(Tr.dR n.kind n.text&&Tr.bM n.kind n.ah n.kids.length):=by
 unfold lD
 by_cases h1:1≤n.kind
 ·by_cases h2:n.kind≤12
  ·simp[h1,h2]
  ·have:Tr.bM n.kind n.ah n.kids.length=false:=by
    unfold Tr.bM;rw[if_neg (by omega)];split
    ·rfl
    ·rw[if_neg (by omega),if_neg (by omega),if_neg (by omega),if_neg (by omega),if_neg (by omega)]
   simp[this]
 ·have:Tr.bM n.kind n.ah n.kids.length=false:=by
   unfold Tr.bM;rw[if_neg (by omega)];split
   ·rfl
   ·rw[if_neg (by omega),if_neg (by omega),if_neg (by omega),if_neg (by omega),if_neg (by omega)]
  simp[this]
theorem abO(n:Tr.Nd):∀d,oQ d n=(Tr.form n&&decide (d+Tr.depth n≤25)):=by
 induction n using Tr.Nd.ind with
 |h n ih=>
  have hL:∀(r:Bool) (l:List Tr.Nd) (d:Nat),d≤25→(∀x∈l,∀d,oQ d x=(Tr.form x&&decide (d+Tr.depth x≤25)))→sS r d l=(Tr.iV r l&&decide (d+Tr.aX l≤25)):=by
   intro r l
   induction l with
   |nil=>intro d hd _;simp[sS,Tr.iV,Tr.aX,hd]
   |cons x l ihl=>
    intro d hd h;rw[sS,Tr.iV,Tr.aX,h x (by simp) d,ihl d hd (fun y hy=>h y (by simp[hy]))]
    have e:decide (d+max (Tr.depth x) (Tr.aX l)≤25)=(decide (d+Tr.depth x≤25)&&decide (d+Tr.aX l≤25)):=by
     rw[Bool.eq_iff_iff,Bool.and_eq_true,decide_eq_true_iff,decide_eq_true_iff,decide_eq_true_iff];omega
    rw[e,bne];generalize (!((x.kind==1)==r))=a;generalize Tr.form x=b;generalize Tr.iV r l=c;generalize decide (d+Tr.depth x≤25)=p;generalize decide (d+Tr.aX l≤25)=q;cases a<;>cases b<;>cases c<;>cases p<;>cases q<;>rfl
  intro d;rw[Vo,Zk,Tr.kG,Tr.oN]
  by_cases hd:d≤24
  ·rw[hL _ _ (d+1) (by omega) ih]
   have e:decide (d+1+Tr.aX n.kids≤25)=decide (d+(Tr.aX n.kids+1)≤25):=by
    rw[Bool.eq_iff_iff,decide_eq_true_iff,decide_eq_true_iff];omega
   rw[e];simp[hd,Bool.and_assoc]
  ·have e:decide (d+(Tr.aX n.kids+1)≤25)=false:=dF (by omega)
   rw[e];simp[hd]
theorem abP(n:Tr.Nd):((n.kind==1)&&(oQ 1 n&&decide (Tr.count n≤1000)))=Tr.valid n:=by
 rw[abO];unfold Tr.valid;have e2:decide (1+Tr.depth n≤25)=decide (Tr.depth n≤24):=by rw[Bool.eq_iff_iff,decide_eq_true_iff,decide_eq_true_iff];omega
 rw[e2];cases(n.kind==1)<;>cases Tr.form n<;>cases decide (Tr.depth n≤24)<;>cases decide (Tr.count n≤1000)<;>rfl
theorem CQ(n:Tr.Nd)(sl:Value)(w:World)(hr:aD w n.kids sl)(ht:n.text.length≤maxLen):
  Calls Tryz.prog 16 #[.agg #[.int .i64 n.kind,.string ⟨n.text.toArray⟩,.int .i64 n.ah,sl]] w fun e w'=>e=.returned (.bool (Tr.valid n))∧ag w w':=by
 rw[←abP n];exact Zj n sl w hr ht
theorem Lr(n:Tr.Nd)(sl:Value)(w:World)(hr:aD w n.kids sl)(ht:n.text.length≤maxLen)(_hc:Tr.count n≤1000):
  Calls Tryz.prog 16 #[.agg #[.int .i64 n.kind,.string ⟨n.text.toArray⟩,.int .i64 n.ah,sl]] w fun e w'=>e=.returned (.bool (Tr.valid n))∧ag w w':=CQ n sl w hr ht
end
end Go.Proofs.YtcgbccfpcgaikaaGreatDoor
