/- Part 6 of 41 of a proof. No condition. -/
import Derived.Test.YtabjglnjjdcfmaaGreatDoorWe5
set_option maxRecDepth 100000
set_option maxHeartbeats 4000000
namespace Go.Proofs.YtabjglnjjdcfmaaGreatDoor
open _root_.Bool renaming true_and->avK,and_assoc->awz,false_eq_true->avH,eq_iff_iff->avs,false_and->awC,and_false->avD
open _root_.List renaming getElem_cons_succ->avC,getElem?_cons_zero->avo,getElem?_cons_succ->avG,take_length->avm
open _root_.Go.Proofs.Tryz
section
open Go.RowKit
theorem lK{f:Nat}{args:Array Value}{v:Value}{w:W_}(h:C_ f args w λe w'=>e=.returned v/\w'=w):C_ f args w λe w'=>e=.returned v/\ag w w':=
 h.mono λ_ _ h=>⟨h.1,by rw[h.2];exact M _ _⟩
def jG(m:Int):Array Value:=o7.push (V m)
def mJ(k c:Int)(n:Nat)(slots:Int):Bool:=
 if k==1 then(c==(0:Int))&&decide ((n:Int)<=(200:Int))
 else if k==12 then decide ((1:Int)<=c)&&(decide (c<=(16:Int))&&(decide ((1:Int)<=(n:Int))&&(decide ((n:Int)<=(256:Int))&&(((n:Int)%c)==(0:Int)))))
 else(c==(0:Int))&&((n:Int)==slots)
theorem qp(t:List UInt8)(ah slots:Int)(k len:Nat)(fid:Nat)(tx:Bool)(A:Option Addr)(cap c g o:Nat)(w:W_)(aD:1<=k)(hk2:k<=12)(aq:∀(a:Array Value) (w':W_),(callFunc fid a).run Tryz.prog w'=.ok (.enter fid a) w')
  (ct:∀w',C_ fid #[S_ t] w' λe w''=>e=.returned (.bool tx)/\ag w' w'')
  (a0:w.cell? (B_ g o)=some (V (k:Int))) (a1:w.cell? (B_ g (o+1))=some (S_ t)) (a2:w.cell? (B_ g (o+2))=some (V ah)) (a3:w.cell? (B_ g (o+3))=some (.slice A len cap))
  (c1:w.cell? (B_ c (k*3+1))=some (V slots)) (c2:w.cell? (B_ c (k*3+2))=some (.func (.func fid) #[] #[])):
  C_ 57 #[.pointer (A_ c 0),.pointer (A_ g o)] w λe w'=>e=.returned (.bool (tx&&mJ k ah len slots))/\ag w w':=by
 have CT:=I ct;clear ct;have e1:decide ((k:Int)<(1:Int))=false:=dF Zo;have e2:decide ((12:Int)<(k:Int))=false:=dF Zo;have e3:decide (k<1)=false:=dF Zo;have e4:decide (12<k)=false:=dF Zo;have e5:(k:Int)<13:=Zo
 have e6:k<13:=Zo
 go_enter func57,ntmps57;go_wp2_with fail
 refine bK (λW=>ag w W) aF ?_;rintro w1 kH;have aK:=I kH;clear kH;obtain⟨Wx,Wy,Wz,WB⟩:=xW aK a0 a1 a2 a3;have WC:=Touch.cell aK c1 PR;have WE:=Touch.cell aK c2 PR;clear a0 a1 a2 a3 c1 c2;have afq:=cR Wx;have afr:=cR Wy;have afs:=cR Wz;have aft:=cR WB;have afu:=cR WC;have afv:=cR WE;have ag4:=I (lJ (P:=Tryz.prog) w1 (λw hw=>CT _));refine wp_region_quiet_below Pg Pg ?_
 repeat(quiet_step (first|with_reducible exact ag4.out _ _))
 refine wpQuiet_nil ?_;rintro w2 ⟨⟨_,_⟩,afw⟩;have aa:ag w1 w2:=by rw[afw];exact aZ SX
 clear afw afq afr afs aft afu afv;have bW:=I (show ag w1 w2 from qV aa);obtain⟨akA,akB,akC,akD⟩:=xW bW Wx Wy Wz WB;have akE:=Touch.cell bW WC PR;have akF:=Touch.cell bW WE PR;clear Wx Wy Wz WB WC WE;clear aa;cases h1:tx with
 |false=>
  go_wp2
  exact P_
 |true=>
  cases h2:((k:Int)==(1:Int))with
  |false=>
   have QB:((k:Int) !=(1:Int))=true:=atN
   have GH:(k==1)=false:=by have hx:=h2;simp only[beq_eq_false_iff_ne,ne_eq]at hx|-;omega
   cases h3:((k:Int)==(12:Int))with
   |false=>
    have D5:((k:Int) !=(12:Int))=true:=ani
    have Y1:(k==12)=false:=by have hx:=h3;simp only[beq_eq_false_iff_ne,ne_eq]at hx|-;omega
    cases h4:(ah==(0:Int))with
    |false=>
     have QC:(ah !=(0:Int))=true:=atO
     go_wp2
     go_quiet (fail)
     go_wp2
     exact P_
    |true=>
     have QC:(ah !=(0:Int))=false:=atO
     go_wp2
     go_quiet (fail)
     cases h5:((len:Int)==slots)with
     |false=>
      have Zf:((len:Int) !=slots)=true:=atP
      go_wp2
      exact P_
     |true=>
      have Zf:((len:Int) !=slots)=false:=atP
      go_wp2
      exact P_
   |true=>
    have D5:((k:Int) !=(12:Int))=false:=ani
    have Y1:(k==12)=true:=by have hx:=h3;simp only[beq_iff_eq]at hx|-;omega
    cases h6:decide ((1:Int)<=ah)with
    |false=>
     go_wp2
     go_quiet (fail)
     go_wp2
     exact P_
    |true=>
     have h6p:=of_decide_eq_true h6;cases h7:decide (ah<=(16:Int))with
     |false=>
      go_wp2
      go_quiet (fail)
      go_wp2
      exact P_
     |true=>
      have h7p:=of_decide_eq_true h7;cases h8:decide ((1:Int)<=(len:Int))with
      |false=>
       have ak:decide (1<=len)=false:=by have hx:=h8;simp only[decide_eq_false_iff_not]at hx|-;omega
       go_wp2
       go_quiet (fail)
       go_wp2
       exact P_
      |true=>
       have h8p:=of_decide_eq_true h8;have ak:decide (1<=len)=true:=by have hx:=h8;simp only[decide_eq_true_eq]at hx|-;omega
       cases h9:decide ((len:Int)<=(256:Int))with
       |false=>
        have h9n:decide (len<=256)=false:=by have hx:=h9;simp only[decide_eq_false_iff_not]at hx|-;omega
        go_wp2
        go_quiet (fail)
        go_wp2
        exact P_
       |true=>
        have h9p:=of_decide_eq_true h9;have h9n:decide (len<=256)=true:=by have hx:=h9;simp only[decide_eq_true_eq]at hx|-;omega
        go_wp2
        go_quiet (fail)
        cases h10:(((len:Int)%ah)==(0:Int))with
        |false=>
         have abK:(((len:Int)%ah) !=(0:Int))=true:=by rw[bne,h10];rfl
         go_wp2
         exact P_
        |true=>
         have abK:(((len:Int)%ah) !=(0:Int))=false:=by rw[bne,h10];rfl
         go_wp2
         exact P_
  |true=>
   have QB:((k:Int) !=(1:Int))=false:=atN
   have GH:(k==1)=true:=by have hx:=h2;simp only[beq_iff_eq]at hx|-;omega
   cases h11:(ah==(0:Int))with
   |false=>
    have QD:(ah !=(0:Int))=true:=by rw[bne,h11];rfl
    go_wp2
    exact P_
   |true=>
    have QD:(ah !=(0:Int))=false:=by rw[bne,h11];rfl
    cases ac:decide ((len:Int)<=(200:Int))with
    |false=>
     have ah3:decide (len<=200)=false:=by have hx:=ac;simp only[decide_eq_false_iff_not]at hx|-;omega
     go_wp2
     exact P_
    |true=>
     have akL:=of_decide_eq_true ac;have ah3:decide (len<=200)=true:=by have hx:=ac;simp only[decide_eq_true_eq]at hx|-;omega
     go_wp2
     exact P_
def lD(n:Tr.Nd):Bool:=decide (1<=n.QI)&&(decide (n.QI<=12)&&(Tr.dR n.QI n.QG&&Tr.bM n.QI n.ah n.Qx.length))
theorem afx(n:Tr.Nd)(c g o:Nat)(w:W_)(hk:n.QI<1)
  (a0:w.cell? (B_ g o)=some (V n.QI)):
  C_ 57 #[.pointer (A_ c 0),.pointer (A_ g o)] w λe w'=>e=.returned (.bool false)/\ag w w':=by
 have e1:decide (n.QI<(1:Int))=true:=dT Zo;have e2:decide ((12:Int)<n.QI)=false:=dF Zo;clear hk;go_enter func57,ntmps57;go_wp2
 go_quiet (fail)
 go_wp2
 exact auG
theorem afy(n:Tr.Nd)(c g o:Nat)(w:W_)(hk:12<n.QI)
  (a0:w.cell? (B_ g o)=some (V n.QI)):
  C_ 57 #[.pointer (A_ c 0),.pointer (A_ g o)] w λe w'=>e=.returned (.bool false)/\ag w w':=by
 have e1:decide (n.QI<(1:Int))=false:=dF Zo;have e2:decide ((12:Int)<n.QI)=true:=dT Zo;clear hk;go_enter func57,ntmps57;go_wp2
 go_quiet (fail)
 go_wp2
 exact auG
theorem Je(a b:Nat):decide ((a:Int)<=(b:Int))=decide (a<=b):=asg
theorem WG(t:List UInt8):Tr.dR ((4:Nat):Int) t=(t.all nP&&decide ((ByteArray.size ⟨t.toArray⟩:Int)<=(200:Int))):=by
 show(decide (t.length<=200)&&Tr.aU t)=_;have:(ByteArray.size ⟨t.toArray⟩)=t.length:=by show t.toArray.size=_;simp
 rw[this,show decide ((t.length:Int)<=(200:Int))=decide (t.length<=200)from Je t.length 200,Bool.and_comm];rfl
theorem qw(k:Nat)(n:Tr.Nd)(tx:Bool)(slots:Int)(hk:n.QI=k)(h1:1<=k)(h2:k<=12)(ht:Tr.dR n.QI n.QG=tx)
  (hs:(k=5\/k=6\/k=7\/k=8->slots=2)/\(k=9->slots=3)/\(k=10\/k=11->slots=1)/\(k=2\/k=3\/k=4->slots=0)):lD n=(tx&&mJ k n.ah n.Qx.length slots):=by
 unfold lD;rw[ht,hk];have e1:decide ((1:Int)<=(k:Int))=true:=WN
 have e2:decide ((k:Int)<=12)=true:=WN
 rw[e1,e2,avK,avK]
 congr 1
 unfold Tr.bM mJ;generalize n.Qx.length=m;generalize n.ah=c;obtain⟨s1,s2,s3,s4⟩:=hs
 by_cases k12:k=12
 .subst k12
  rw[if_pos (show((12:Nat):Int)=12 from rfl),if_neg (show¬(((12:Nat):Int)==1)=true by decide),if_pos (show(((12:Nat):Int)==12)=true by decide)];have f1:decide ((1:Int)<=(m:Int))=decide (1<=m):=Je 1 m;have f2:decide ((m:Int)<=(256:Int))=decide (m<=256):=Je m 256;show(decide (1<=c)&&decide (c<=16)&&decide (1<=m)&&decide (m<=256)&&decide ((m:Int)%c=0))=(decide (1<=c)&&(decide (c<=16)&&(decide ((1:Int)<=(m:Int))&&(decide ((m:Int)<=(256:Int))&&((m:Int)%c==0)))));rw[f1,f2];simp only[awz];rfl
 .have afz:¬(k:Int)=12:=by omega
  have ag5:((k:Int)==12)=false:=by simpa using afz
  rw[if_neg afz,ag5]
  by_cases hc:c=0
  .subst hc
   simp only[ne_eq,not_true_eq_false,if_false,avH]
   by_cases k1:k=1
   .subst k1
    rw[if_pos (show((1:Nat):Int)=1 from rfl),if_pos (show(((1:Nat):Int)==1)=true by decide)];exact(Je m 200).symm
   .have k1':¬(k:Int)=1:=by omega
    have ah4:((k:Int)==1)=false:=by simpa using k1'
    rw[if_neg k1',ah4];simp only[avH,if_false,BEq.rfl,avK]
    have dn:∀(j:Nat) (sl:Int),sl=j->decide (m=j)=((m:Int)==sl):=by
     intro j sl h;subst h;rw[avs,decide_eq_true_iff,beq_iff_eq];omega
    split
    .exact dn 0 slots (s4 Zo)
    .split
     .exact dn 2 slots (s1 Zo)
     .split
      .exact dn 3 slots (s2 Zo)
      .split
       .exact dn 1 slots (s3 Zo)
       .omega
  .have hc':(c==0)=false:=by simpa using hc
   rw[if_pos hc,hc'];simp
theorem aew(n:Tr.Nd)(A:Option Addr)(cap c g o:Nat)(m:Int)(w:W_)(hc:af w c 95 (jG m))(hm:n.QG.length<=9223372036854775807)
  (a0:w.cell? (B_ g o)=some (V n.QI)) (a1:w.cell? (B_ g (o+1))=some (S_ n.QG)) (a2:w.cell? (B_ g (o+2))=some (V n.ah)) (a3:w.cell? (B_ g (o+3))=some (.slice A n.Qx.length cap)):
  C_ 57 #[.pointer (A_ c 0),.pointer (A_ g o)] w λe w'=>e=.returned (.bool (lD n))/\ag w w':=by
 by_cases h1:n.QI<1
 .have e:lD n=false:=by
   unfold lD;have:decide (1<=n.QI)=false:=WN
   rw[this];rfl
  rw[e];exact afx n c g o w h1 a0
 by_cases h2:12<n.QI
 .have e:lD n=false:=by
   unfold lD;have:decide (n.QI<=12)=false:=WN
   rw[this,awC,avD]
  rw[e];exact afy n c g o w h2 a0
 obtain⟨k,hk⟩:∃k:Nat,n.QI=k:=⟨n.QI.toNat,by omega⟩;have k1:1<=k:=Zo
 have k2:k<=12:=Zo
 rw[hk]at a0
 match k,k1,k2,hk,a0 with
 |1,k1,k2,hk,a0=>
  rw[qw 1 n (n.QG.isEmpty) 0 hk k1 k2 (by rw[hk];rfl) (by decide)];exact qp n.QG n.ah 0 1 n.Qx.length 52 _ A cap c g o w k1 k2 T_ O_ a0 a1 a2 a3 (hc.cell 4) (hc.cell 5)
 |2,k1,k2,hk,a0=>
  rw[qw 2 n (Tr.symbol n.QG) 0 hk k1 k2 (by rw[hk];rfl) (by decide)];exact qp n.QG n.ah 0 2 n.Qx.length 41 _ A cap c g o w k1 k2 T_ (λw'=>lK (Ww ⟨n.QG.toArray⟩ w' aqW)) a0 a1 a2 a3 (hc.cell 7) (hc.cell 8)
 |3,k1,k2,hk,a0=>
  rw[qw 3 n (Tr.isNum n.QG) 0 hk k1 k2 (by rw[hk];rfl) (by decide)];exact qp n.QG n.ah 0 3 n.Qx.length 53 _ A cap c g o w k1 k2 T_ (λw'=>T9 ⟨n.QG.toArray⟩ w' aqW) a0 a1 a2 a3 (hc.cell 10) (hc.cell 11)
 |4,k1,k2,hk,a0=>
  rw[qw 4 n ((n.QG.all nP&&decide ((ByteArray.size ⟨n.QG.toArray⟩:Int)<=(200:Int)))) 0 hk k1 k2 (by rw[hk];exact WG n.QG) (by decide)];exact qp n.QG n.ah 0 4 n.Qx.length 54 _ A cap c g o w k1 k2 T_ (λw'=>lK (Y0 ⟨n.QG.toArray⟩ w' aqW)) a0 a1 a2 a3 (hc.cell 13) (hc.cell 14)
 |5,k1,k2,hk,a0=>
  rw[qw 5 n (n.QG.isEmpty) 2 hk k1 k2 (by rw[hk];rfl) (by decide)];exact qp n.QG n.ah 2 5 n.Qx.length 52 _ A cap c g o w k1 k2 T_ O_ a0 a1 a2 a3 (hc.cell 16) (hc.cell 17)
 |6,k1,k2,hk,a0=>
  rw[qw 6 n (n.QG.isEmpty) 2 hk k1 k2 (by rw[hk];rfl) (by decide)];exact qp n.QG n.ah 2 6 n.Qx.length 52 _ A cap c g o w k1 k2 T_ O_ a0 a1 a2 a3 (hc.cell 19) (hc.cell 20)
 |7,k1,k2,hk,a0=>
  rw[qw 7 n (n.QG.isEmpty) 2 hk k1 k2 (by rw[hk];rfl) (by decide)];exact qp n.QG n.ah 2 7 n.Qx.length 52 _ A cap c g o w k1 k2 T_ O_ a0 a1 a2 a3 (hc.cell 22) (hc.cell 23)
 |8,k1,k2,hk,a0=>
  rw[qw 8 n (n.QG.isEmpty) 2 hk k1 k2 (by rw[hk];rfl) (by decide)];exact qp n.QG n.ah 2 8 n.Qx.length 52 _ A cap c g o w k1 k2 T_ O_ a0 a1 a2 a3 (hc.cell 25) (hc.cell 26)
 |9,k1,k2,hk,a0=>
  rw[qw 9 n (n.QG.isEmpty) 3 hk k1 k2 (by rw[hk];rfl) (by decide)];exact qp n.QG n.ah 3 9 n.Qx.length 52 _ A cap c g o w k1 k2 T_ O_ a0 a1 a2 a3 (hc.cell 28) (hc.cell 29)
 |10,k1,k2,hk,a0=>
  rw[qw 10 n (Tr.eu.contains n.QG) 1 hk k1 k2 (by rw[hk];rfl) (by decide)];exact qp n.QG n.ah 1 10 n.Qx.length 55 _ A cap c g o w k1 k2 T_ (λw'=>lK (Lp ⟨n.QG.toArray⟩ w')) a0 a1 a2 a3 (hc.cell 31) (hc.cell 32)
 |11,k1,k2,hk,a0=>
  rw[qw 11 n (Tr.fence n.QG) 1 hk k1 k2 (by rw[hk];rfl) (by decide)];exact qp n.QG n.ah 1 11 n.Qx.length 56 _ A cap c g o w k1 k2 T_ (λw'=>lK (Y2 ⟨n.QG.toArray⟩ w')) a0 a1 a2 a3 (hc.cell 34) (hc.cell 35)
 |12,k1,k2,hk,a0=>
  rw[qw 12 n (n.QG.isEmpty) 0 hk k1 k2 (by rw[hk];rfl) (by decide)];exact qp n.QG n.ah 0 12 n.Qx.length 52 _ A cap c g o w k1 k2 T_ O_ a0 a1 a2 a3 (hc.cell 37) (hc.cell 38)
mutual
def oQ:Nat->Tr.Nd->Bool
 |d,.mk k t c ks=>decide (d<=24)&&(lD (.mk k t c ks)&&sS (k==1) (d+1) ks)
def sS:Bool->Nat->List Tr.Nd->Bool
 |_,_,[]=>true
 |r,d,n::ns=>(!((n.QI==1)==r))&&(oQ d n&&sS r d ns)
end
theorem Vo(d:Nat)(n:Tr.Nd):oQ d n=(decide (d<=24)&&(lD n&&sS (n.QI==1) (d+1) n.Qx)):=by cases n;rw[oQ];rfl
theorem NW(r:Bool)(d:Nat):∀(l:List Tr.Nd) (i:Nat) (h:i<l.length),sS r d (l.take (i+1))=(sS r d (l.take i)&&((!((l[i].QI==1)==r))&&oQ d l[i]))
 |[],i,h=>by simp at h
 |x::l,0,h=>by simp[sS]
 |x::l,i+1,h=>by
  simp only[List.take_succ_cons,sS,avC];rw[NW r d l i (by simpa using h)];simp only[awz]
theorem Vp(r:Bool)(d:Nat):∀(l:List Tr.Nd) (i:Nat) (h:i<l.length),((!((l[i].QI==1)==r))&&oQ d l[i])=false->sS r d l=false
 |[],i,h,_=>by simp at h
 |x::l,0,h,hn=>by
  simp only[List.getElem_cons_zero]at hn;rw[sS,<-awz,hn,awC]
 |x::l,i+1,h,hn=>by
  simp only[avC]at hn;rw[sS,Vp r d l i (by simpa using h) hn,avD,avD]
def aex(c:Nat)(d m:Nat)(n:Tr.Nd)(w:W_)(e:Ending)(w':W_):Prop:=
 ∃m':Nat,e=.returned (.bool (oQ d n&&decide (m+Tr.count n<=1000)))/\af w' c 95 (jG m')/\Touch (·=c) w w'/\((oQ d n&&decide (m+Tr.count n<=1000))=true->m'=m+Tr.count n)
theorem Zg(m:Nat):(jG (m:Int)).setIfInBounds 39 (V ((m:Int)+1))=jG ((m+1:Nat):Int):=aob
theorem QE(m:Int):(jG m)[39]?=some (V m):=aob
theorem abL(W0:W_)(c:Nat)(hcW:W0.heap.size<=c)(k:Nat):∀(n:Tr.Nd) (A:Option Addr) (g o cap d m:Nat) (dd:Int) (w:W_),dd=d->Tr.count n<=k->
  W0.cell? (B_ g o)=some (V n.QI)->W0.cell? (B_ g (o+1))=some (S_ n.QG)->W0.cell? (B_ g (o+2))=some (V n.ah)->W0.cell? (B_ g (o+3))=some (.slice A n.Qx.length cap)->
  aD W0 n.Qx (.slice A n.Qx.length cap)->n.QG.length<=maxLen->af w c 95 (jG m)->Touch (·=c) W0 w->m<=1000->d<=1000->
  C_ 31 #[.pointer (A_ c 0),.pointer (A_ g o),V dd] w (aex c d m n w):=by
 induction k with
 |zero=>intro n _ _ _ _ _ _ _ _ _ h;have:=Tr.bX n;omega
 |succ k ih=>
  intro n A g o cap d m dd w hdd aB a0 a1 a2 a3 ab an hb Vq hm hd;subst hdd;have hgc:g<W0.heap.size:=bL a0;have hne:g≠c:=Zo
  have hlen:=ab.len;unfold maxLen at an hlen;have au:=Tr.aN n;have aP:=Tr.jF n.Qx;have q9:=I ih;have abM:=I ab;have Zh:=I (Vo d n);have uX:=I Vq;have HB:=I hb;have ad:Touch (·=c) w (w.setCell (B_ c 39) (V ((m:Int)+1))):=Touch.setCell (S:=(·=c)) (M _ w) (p:=B_ c 39) Wh _
  have hb1:af (w.setCell (B_ c 39) (V ((m:Int)+1))) c 95 (jG ((m+1:Nat):Int)):=by
   rw[<-Zg];exact hb.put 39 _
  have q39:w.cell? (B_ c 39)=some (V (m:Int)):=(hb.cell 39).trans (QE m);have z39:w.frozen? (B_ c 39)=false:=hb.frozen 39;have r39:(w.setCell (B_ c 39) (V ((m:Int)+1))).cell? (B_ c 39)=some (V ((m:Int)+1)):=(hb1.cell 39).trans (QE _);have ay:=I ad;have aC:=I hb1;clear ih ab Vq hb ad hb1
  by_cases aL:m=1000
  .have lim:decide ((1000:Int)<(m:Int)+1)=true:=dT Zo
   have akM:(1000:Int)<(m:Int)+1:=Zo
   have wD:=I (show(oQ d n&&decide (m+Tr.count n<=1000))=false by
    have:=Tr.bX n;have e:decide (m+Tr.count n<=1000)=false:=dF Zo;rw[e,avD])
   clear aL Zh;go_enter func31,ntmps31;go_wp2
   exact asB
  have lim:decide ((1000:Int)<(m:Int)+1)=false:=dF Zo
  by_cases hd24:24<d
  .have dl:decide ((24:Int)<(d:Int))=true:=dT Zo
   have dln:decide (24<d)=true:=dT Zo
   have hch:oQ d n=false:=by
    rw[Zh.out];have:decide (d<=24)=false:=dF Zo;rw[this];rfl
   have wD:=I (show(oQ d n&&decide (m+Tr.count n<=1000))=false by rw[hch];rfl);clear hch Zh;go_enter func31,ntmps31;go_wp2
   exact asB
  .have dl:decide ((24:Int)<(d:Int))=false:=dF Zo
   have dln:decide (24<d)=false:=dF Zo;have b0:=(uX.trans ay).cell a0 hne;have b1:=(uX.trans ay).cell a1 hne;have b2:=(uX.trans ay).cell a2 hne;have b3:=(uX.trans ay).cell a3 hne;have ae:=I (aew n A cap c g o _ _ aC an b0 b1 b2 b3);have adW:decide (d<=24)=true:=dT Zo;have GI:=I (show oQ d n=(lD n&&sS (n.QI==1) (d+1) n.Qx) by rw[Zh.out,adW];rfl);clear Zh adW b0 b1 b2 b3;go_enter func31,ntmps31;go_wp2_with fail
   refine ae.mono ?_;rintro _ w2 ⟨rfl,hf2⟩;have hb2:=hf2.QN aC PR;have am:Touch (·=c) w w2:=ay.trans (hf2.mono (λ_ h=>h.elim));have aq:=I hb2;have ao:=I am;have b0:=(uX.trans am).cell a0 hne;have b3:=(uX.trans am).cell a3 hne;clear hf2 hb2 am r39 q39 z39;cases how:lD n with
   |false=>
    have wD:=I (show(oQ d n&&decide (m+Tr.count n<=1000))=false by rw[GI.out,how];rfl);go_wp2
    go_ret;exact⟨m+1,by rw[wD.out];rfl,aq,ao,λh=>by rw[wD.out]at h;cases h⟩
   |true=>
    have QF:=I (show oQ d n=sS (n.QI==1) (d+1) n.Qx by rw[GI.out,how];rfl);clear GI how;go_wp2
    go_loopw [35] (λi wr=>∃(j m':Nat),i=V j/\j<=n.Qx.length/\Hd (af wr c 95 (jG m'))/\Hd (Touch (·=c) w wr)/\Hd (m'=m+1+Tr.az (n.Qx.take j)/\m'<=1000)/\Hd (sS (n.QI==1) (d+1) (n.Qx.take j)=true)) (λi _=>n.Qx.length-(intOf i).toNat)
    case atStart=>exact⟨0,m+1,rfl,Nat.zero_le _,aq,ao,⟨by simp[Tr.az],by omega⟩,by simp[sS,Hd]⟩
    case round=>
     obtain⟨j,m',rfl,hj,ai,aw,HM,HL⟩:=hrel
     by_cases c1:j<n.Qx.length
     .have d1:decide ((j:Int)<(n.Qx.length:Int))=true:=dT Zo
      have jo:decide (j<n.Qx.length)=true:=dT Zo;have aE:(j:Int)<(n.Qx.length:Int):=Zo
      obtain⟨g',o',sl,rfl,hg',n0,n1,n2,n3,su⟩:=abM.get j c1;have Kc:=abM.texts j c1;obtain⟨A',cap',rfl⟩:=su.slice;have aj:g'≠c:=Zo
      have e0:=(uX.trans aw).cell a0 hne;have e3:=(uX.trans aw).cell a3 hne;have x0:=(uX.trans aw).cell n0 aj;have hcm:=Tr.cB (List.getElem_mem (l:=n.Qx) (n:=j) c1);have ag:=Tr.uA n.Qx j c1;have aa:=Tr.qy n.Qx (j+1);have hcj:=Tr.qy n.Qx j;have HS:=I (NW (n.QI==1) (d+1) n.Qx j c1);have HN:=I (Vp (n.QI==1) (d+1) n.Qx j c1);have aG:=HM.out.1;have Zi:=HM.out.2;have HX:=I (λ(w':W_) (hb':af w' c 95 (jG m')) (ht':Touch (·=c) W0 w')=>q9 n.Qx[j] A' g' (o'+j*4) cap' (d+1) m' ((d:Int)+1) w' Zo Zo n0 n1 n2 n3 su Kc hb' ht' Zo Zo);have yf:=I ag;clear n0 n1 n2 n3 su q9 abM ag;generalize n.Qx[j]=x at*;cases p1:(n.QI==1)with
      |false=>
       rw[p1]at HS HN;cases p2:(x.QI==1)with
       |false=>
        have wD:=I aq2;go_wp2
        go_quiet (fail)
        go_wp2
        exact ar5
       |true=>
        go_wp2_with fail
        refine kY [([0,1,2,3,4,5,6,7,8,9,10,11,12,13,14,15,16,17,18,19,20,21,22,23,24],25)] [26,27] Pg Pg ?_;simp only[tY,pick,avo,avG]
        repeat(quiet_step (fail))
        refine wpQuiet_nil ?_;rintro _ ⟨nq,rfl⟩;go_wp2_with fail
        refine(HX _ (ai.drewN nq) ((uX.trans aw).drewN nq)).mono ?_;rintro _ w5 ⟨m5,rfl,al,jU,ES⟩;have eO:=I al;have iW:=I (aw.trans (Touch.BD jU));clear al jU e0 e3 x0;cases hx:(oQ (d+1) x&&decide (m'+Tr.count x<=1000))with
        |false=>
         have wD:=I (show(oQ d n&&decide (m+Tr.count n<=1000))=false by
          rcases Bool.and_eq_false_iff.1 hx with hx1|hx1
          .rw[QF.out,p1,HN.out (by rw[hx1,avD]),awC]
          .rw[decide_eq_false_iff_not]at hx1
           have:=yf.out;have e:decide (m+Tr.count n<=1000)=false:=dF Zo;rw[e,avD])
         rw[hx]at ES;go_wp2_with fail
         repeat(quiet_step (fail))
         refine wpQuiet_nil ?_;rintro _ ⟨NP,rfl⟩;go_wp2
         exact arE
        |true=>
         rw[hx]at ES;have GJ:=ES rfl;clear ES;obtain⟨hx1,hx2⟩:=Bool.and_eq_true_iff.1 hx;rw[decide_eq_true_eq]at hx2
         have ac:=I (show sS false (d+1) (n.Qx.take (j+1))=true by
          have hl:=HL.out;rw[p1]at hl;rw[HS.out,hl,p2,hx1];rfl)
         go_wp2_with fail
         repeat(quiet_step (fail))
         refine wpQuiet_nil ?_;rintro _ ⟨NP,rfl⟩;go_wp2
         go_roundw
         case rel=>exact⟨j+1,m5,by go_num,by omega,eO.drewN _,iW.drewN _,⟨by rw[yf.out];omega,by omega⟩,ac⟩
         case measure=>simp[intOf];omega
      |true=>
       rw[p1]at HS HN;cases p2:(x.QI==1)with
       |false=>
        go_wp2_with fail
        refine kY [([0,1,2,3,4,5,6,7,8,9,10,11,12,13,14,15,16,17,18,19,20,21,22,23,24],25)] [26,27] Pg Pg ?_;simp only[tY,pick,avo,avG]
        repeat(quiet_step (fail))
        refine wpQuiet_nil ?_;rintro _ ⟨nq,rfl⟩;go_wp2_with fail
        refine(HX _ (ai.drewN nq) ((uX.trans aw).drewN nq)).mono ?_;rintro _ w5 ⟨m5,rfl,al,jU,ES⟩;have eO:=I al;have iW:=I (aw.trans (Touch.BD jU));clear al jU e0 e3 x0;cases hx:(oQ (d+1) x&&decide (m'+Tr.count x<=1000))with
        |false=>
         have wD:=I (show(oQ d n&&decide (m+Tr.count n<=1000))=false by
          rcases Bool.and_eq_false_iff.1 hx with hx1|hx1
          .rw[QF.out,p1,HN.out (by rw[hx1,avD]),awC]
          .rw[decide_eq_false_iff_not]at hx1
           have:=yf.out;have e:decide (m+Tr.count n<=1000)=false:=dF Zo;rw[e,avD])
         rw[hx]at ES;go_wp2_with fail
         repeat(quiet_step (fail))
         refine wpQuiet_nil ?_;rintro _ ⟨NP,rfl⟩;go_wp2
         exact arE
        |true=>
         rw[hx]at ES;have GJ:=ES rfl;clear ES;obtain⟨hx1,hx2⟩:=Bool.and_eq_true_iff.1 hx;rw[decide_eq_true_eq]at hx2
         have ac:=I (show sS true (d+1) (n.Qx.take (j+1))=true by
          have hl:=HL.out;rw[p1]at hl;rw[HS.out,hl,p2,hx1];rfl)
         go_wp2_with fail
         repeat(quiet_step (fail))
         refine wpQuiet_nil ?_;rintro _ ⟨NP,rfl⟩;go_wp2
         go_roundw
         case rel=>exact⟨j+1,m5,by go_num,by omega,eO.drewN _,iW.drewN _,⟨by rw[yf.out];omega,by omega⟩,ac⟩
         case measure=>simp[intOf];omega
       |true=>
        have wD:=I aq2;go_wp2
        go_quiet (fail)
        go_wp2
        exact ar5
     .have d1:decide ((j:Int)<(n.Qx.length:Int))=false:=dF Zo
      have jo:decide (j<n.Qx.length)=false:=dF Zo;obtain rfl:j=n.Qx.length:=Zo
      have hl:=HL.out;rw[avm]at hl;obtain⟨ap,hmx⟩:=HM.out;rw[avm]at ap
      have wD:=I (show(oQ d n&&decide (m+Tr.count n<=1000))=true by
       have e:decide (m+Tr.count n<=1000)=true:=dT Zo;rw[QF.out,hl,e];rfl)
      clear hl;go_wp2
      go_ret;exact⟨m',by rw[wD.out];rfl,ai,aw,λ_=>by omega⟩
end
section
open Go.RowKit
attribute [local go_sem] Oper.semAt_some
theorem JH:Tryz.prog.built 95 [(0,.agg o7)]=some (jG 0):=Pg
theorem Zj(n:Tr.Nd)(sl:Value)(w:W_)(hr:aD w n.Qx sl)(ht:n.QG.length<=maxLen):
  C_ 15 #[.agg #[V n.QI,S_ n.QG,V n.ah,sl]] w λe w'=>e=.returned (.bool ((n.QI==1)&&(oQ 1 n&&decide (Tr.count n<=1000))))/\ag w w':=by
 obtain⟨A,cap,rfl⟩:=hr.slice;have HR:=I hr;clear hr;go_enter func15,ntmps15;go_wp2_with fail
 refine(Ze _).mono ?_;rintro _ w1 ⟨rfl,ae⟩;have abN:ag w w1:=ae.pre;have hb1:=ae.QN (af.new w 31 #[V n.QI,S_ n.QG,V n.ah,.slice A n.Qx.length cap]) PR;obtain⟨q0,q1,q2,q3,_,_,_,_,hg⟩:=af.QM hb1;have HN:=I (abL w1 w1.heap.size PD _ n A w.heap.size 0 cap 1 0 1 (w1.alloc (.cells (jG 0) 95)) rfl PD q0 q1 q2 q3 (HR.QH abN) ht aqP Q_ Zo Pf);have aK:=I abN;have hb2:=hb1.alloc (.cells (jG 0) 95);obtain⟨r0,r1,r2,r3,_,_,_,_,hg2⟩:=af.QM hb2;clear ae abN hb1 hb2;cases hk:(n.QI==1)with
 |false=>
  go_wp2_with (refine cK [(0,.agg o7)] JH _ rfl rfl rfl (.agg (jG 0)) rfl ?_)
  go_ret;exact⟨ai _ _ (by rw[hk];rfl),aK.alloc _⟩
 |true=>
  go_wp2_with (refine cK [(0,.agg o7)] JH _ rfl rfl rfl (.agg (jG 0)) rfl ?_)
  refine HN.mono ?_;rintro _ w2 ⟨m',rfl,hb3,ap,_⟩;rw[Nat.zero_add];have hf2:ag w w2:=aK.trans' (Touch.pre ap) (λi hi=>by right;have:=aK.size;omega);have bW:=I hf2;clear hf2 hb3 ap q0 q1 q2 q3 r0 r1 r2 r3;go_wp2
  go_ret;exact⟨ai _ _ (by rw[hk];rfl),bW⟩
end
section
open Go.RowKit
theorem Zk(n:Tr.Nd):lD n=(Tr.dR n.QI n.QG&&Tr.bM n.QI n.ah n.Qx.length):=by
 unfold lD
 by_cases h1:1<=n.QI
 .by_cases h2:n.QI<=12
  .simp[h1,h2]
  .have:Tr.bM n.QI n.ah n.Qx.length=false:=by
    unfold Tr.bM;rw[if_neg (by omega)];split
    .rfl
    .rw[if_neg (by omega),if_neg (by omega),if_neg (by omega),if_neg (by omega),if_neg (by omega)]
   simp[this]
 .have:Tr.bM n.QI n.ah n.Qx.length=false:=by
   unfold Tr.bM;rw[if_neg (by omega)];split
   .rfl
   .rw[if_neg (by omega),if_neg (by omega),if_neg (by omega),if_neg (by omega),if_neg (by omega)]
  simp[this]
theorem abO(n:Tr.Nd):∀d,oQ d n=(Tr.form n&&decide (d+Tr.depth n<=25)):=by
 induction n using Tr.Nd.ind with
 |h n ih=>
  have hL:∀(r:Bool) (l:List Tr.Nd) (d:Nat),d<=25->(∀x∈l,∀d,oQ d x=(Tr.form x&&decide (d+Tr.depth x<=25)))->sS r d l=(Tr.iV r l&&decide (d+Tr.aX l<=25)):=by
   intro r l
   induction l with
   |nil=>intro d hd _;simp[sS,Tr.iV,Tr.aX,hd]
   |cons x l ihl=>
    intro d hd h;rw[sS,Tr.iV,Tr.aX,h x (by simp) d,ihl d hd (λy hy=>h y atw)]
    have e:decide (d+max (Tr.depth x) (Tr.aX l)<=25)=(decide (d+Tr.depth x<=25)&&decide (d+Tr.aX l<=25)):=by
     rw[avs,Bool.and_eq_true,decide_eq_true_iff,decide_eq_true_iff,decide_eq_true_iff];omega
    rw[e,bne];generalize (!((x.QI==1)==r))=a;generalize Tr.form x=b;generalize Tr.iV r l=c;generalize decide (d+Tr.depth x<=25)=p;generalize decide (d+Tr.aX l<=25)=q;cases a<;>cases b<;>cases c<;>cases p<;>cases q<;>rfl
  intro d;rw[Vo,Zk,Tr.kG,Tr.oN]
  by_cases hd:d<=24
  .rw[hL _ _ (d+1) (by omega) ih]
   have e:decide (d+1+Tr.aX n.Qx<=25)=decide (d+(Tr.aX n.Qx+1)<=25):=by
    exact aqw
   rw[e];simp[hd,awz]
  .have e:decide (d+(Tr.aX n.Qx+1)<=25)=false:=dF Zo
   rw[e];simp[hd]
theorem abP(n:Tr.Nd):((n.QI==1)&&(oQ 1 n&&decide (Tr.count n<=1000)))=Tr.valid n:=by
 rw[abO];unfold Tr.valid;have e2:decide (1+Tr.depth n<=25)=decide (Tr.depth n<=24):=asg
 rw[e2];cases(n.QI==1)<;>cases Tr.form n<;>cases decide (Tr.depth n<=24)<;>cases decide (Tr.count n<=1000)<;>rfl
theorem CQ(n:Tr.Nd)(sl:Value)(w:W_)(hr:aD w n.Qx sl)(ht:n.QG.length<=maxLen):
  C_ 15 #[.agg #[V n.QI,S_ n.QG,V n.ah,sl]] w λe w'=>e=.returned (.bool (Tr.valid n))/\ag w w':=by
 rw[<-abP n];exact Zj n sl w hr ht
theorem Lr(n:Tr.Nd)(sl:Value)(w:W_)(hr:aD w n.Qx sl)(ht:n.QG.length<=maxLen)(_hc:Tr.count n<=1000):
  C_ 15 #[.agg #[V n.QI,S_ n.QG,V n.ah,sl]] w λe w'=>e=.returned (.bool (Tr.valid n))/\ag w w':=CQ n sl w hr ht
end
end Go.Proofs.YtabjglnjjdcfmaaGreatDoor
