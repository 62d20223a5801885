/- Part 5 of 48 of a proof. No condition. -/
import Derived.Test.YtnbeemkfmlfgfaaGreatDoorShelf
import Derived.Test.YtnbeemkfmlfgfaaGreatDoorTm2
import Derived.Test.YtnbeemkfmlfgfaaGreatDoorTm1
set_option maxRecDepth 100000
set_option maxHeartbeats 1000000
namespace Go.Proofs.YtnbeemkfmlfgfaaGreatDoor
section
open Go.ChangeShapes Go.WideShapes Go.ChangeAt Go.RowKit
inductive aO(W:World):List Tr.Nd→Value→Prop
 |nil (A:Option Addr) (cap:Nat):aO W [] (.slice A 0 cap)
 |row (g o cap:Nat) (ks:List Tr.Nd) (sl:Nat→Value) (hg:g<W.heap.size) (hl:ks.length≤maxLen) (ht:∀i (hi:i<ks.length),ks[i].text.length≤maxLen)
   (h0:∀i (hi:i<ks.length),W.cell? ⟨g,o+i*4,none⟩=some (.int .i64 ks[i].kind))
   (h1:∀i (hi:i<ks.length),W.cell? ⟨g,o+i*4+1,none⟩=some (.string ⟨ks[i].text.toArray⟩))
   (h2:∀i (hi:i<ks.length),W.cell? ⟨g,o+i*4+2,none⟩=some (.int .i64 ks[i].ai))
   (h3:∀i,i<ks.length→W.cell? ⟨g,o+i*4+3,none⟩=some (sl i))
   (hk:∀i (hi:i<ks.length),aO W ks[i].kids (sl i)):aO W ks (.slice (some ⟨g,o,none⟩) ks.length cap)
def Yo(W:World)(n:Tr.Nd)(v:Value):Prop:=∃sl,v=.agg #[.int .i64 n.kind,.string ⟨n.text.toArray⟩,.int .i64 n.ai,sl]∧aO W n.kids sl
theorem aO.fresh{W W':World}{ks:List Tr.Nd}{v:Value}(h:aO W ks v)(hf:ag W W'):aO W' ks v:=by
 induction h with
 |nil A cap=>exact .nil A cap
 |row g o cap ks sl hg hl ht h0 h1 h2 h3 hk ih=>
  exact .row g o cap ks sl (Nat.lt_of_lt_of_le hg hf.size) hl ht (fun i hi=>hf.cell (h0 i hi) (fun h=>h)) (fun i hi=>hf.cell (h1 i hi) (fun h=>h)) (fun i hi=>hf.cell (h2 i hi) (fun h=>h)) (fun i hi=>hf.cell (h3 i hi) (fun h=>h)) ih
theorem Yo.fresh{W W':World}{n:Tr.Nd}{v:Value}(h:Yo W n v)(hf:ag W W'):Yo W' n v:=by
 obtain⟨sl,h1,h2⟩:=h;exact⟨sl,h1,h2.fresh hf⟩
theorem aO.slice{W:World}{ks:List Tr.Nd}{v:Value}(h:aO W ks v):∃A cap,v=.slice A ks.length cap:=by
 cases h with
 |nil A cap=>exact⟨A,cap,rfl⟩
 |row g o cap _ sl=>exact⟨_,cap,rfl⟩
theorem aO.len{W:World}{ks:List Tr.Nd}{v:Value}(h:aO W ks v):ks.length≤maxLen:=by
 cases h with
 |nil A cap=>exact Nat.zero_le _
 |row g o cap _ sl hg hl=>exact hl
theorem aO.texts{W:World}{ks:List Tr.Nd}{v:Value}(h:aO W ks v)(i:Nat)(hi:i<ks.length):ks[i].text.length≤maxLen:=by
 cases h with
 |nil A cap=>simp at hi
 |row g o cap _ sl hg hl ht=>exact ht i hi
theorem aO.get{W:World}{ks:List Tr.Nd}{A:Option Addr}{len cap:Nat}(h:aO W ks (.slice A len cap))(i:Nat)(hi:i<ks.length):
  ∃g o sl,A=some ⟨g,o,none⟩∧g<W.heap.size∧W.cell? ⟨g,o+i*4,none⟩=some (.int .i64 ks[i].kind)∧W.cell? ⟨g,o+i*4+1,none⟩=some (.string ⟨ks[i].text.toArray⟩)∧
   W.cell? ⟨g,o+i*4+2,none⟩=some (.int .i64 ks[i].ai)∧W.cell? ⟨g,o+i*4+3,none⟩=some sl∧aO W ks[i].kids sl:=by
 generalize hv:Value.slice A len cap=v at h;cases h with
 |nil A cap=>simp at hi
 |row g o cap _ sl hg hl ht h0 h1 h2 h3 hk=>
  cases hv;exact⟨g,o,sl i,rfl,hg,h0 i hi,h1 i hi,h2 i hi,h3 i hi,hk i hi⟩
theorem UF{W:World}{base:Nat}{a:Addr}{cs:List Value}(h:W.cells? base a 4=some cs):∃c0 c1 c2 c3,cs=[c0,c1,c2,c3]∧a.spot=none∧a.block<W.heap.size∧
  W.cell? ⟨a.block,a.off,none⟩=some c0∧W.cell? ⟨a.block,a.off+1,none⟩=some c1∧W.cell? ⟨a.block,a.off+2,none⟩=some c2∧W.cell? ⟨a.block,a.off+3,none⟩=some c3:=by
 obtain⟨_,hl,hc⟩:=World.cells?_some h
 match cs,hl with
 |[c0,c1,c2,c3],_=>
  have e0:=hc 0 (by decide);have e1:=hc 1 (by decide);have e2:=hc 2 (by decide);have e3:=hc 3 (by decide);obtain⟨g,o,s⟩:=a
  have hs:s=none:=by
   cases s with
   |none=>rfl
   |some x=>
    simp only[Addr.add,if_true,List.getElem?_cons_zero]at e0;unfold World.cell? at e0;split at e0
    ·simp at e0
    ·cases e0
  subst hs;have hlt:=bL (a:=⟨g,o,none⟩) (v:=c0) (by simpa[Addr.add]using e0);exact⟨c0,c1,c2,c3,rfl,rfl,hlt,by simpa[Addr.add]using e0,by simpa[Addr.add]using e1,by simpa[Addr.add]using e2,by simpa[Addr.add]using e3⟩
section
variable {H:Type} {enc:TypeId×Value→H}
theorem Ip{w:World}{base:Nat}{sp:Nat→Bool}{hd:Bool}{fuel:Nat}{c0 c1 c2 c3:Value}{y:DataW H×List MemPlace}(h:DataW.trod enc Tryz.prog w base sp hd fuel 31 [c0,c1,c2,c3]=some y):
  ∃(k c:Int) (s:ByteArray) (n:Nat) (z:DataW H×List MemPlace),n<fuel∧c0=.int .i64 k∧c1=.string s∧c2=.int .i64 c∧s.size≤maxLen∧DataW.trod enc Tryz.prog w base sp hd n 29 [c3]=some z:=by
 obtain⟨xs,n,hfuel,_,_,hlen,hf⟩:=DataW.trod_struct Tryz.underlying31 h;have e0:=hf 0 _ rfl;have e1:=hf 1 _ rfl;have e2:=hf 2 _ rfl;have e3:=hf 3 _ rfl
 match xs,hlen with
 |[y0,y1,y2,y3],_=>
  obtain⟨k,g0,_⟩:=DataW.trod_int Tryz.underlying3 (by exact e0);obtain⟨s,g1,_,hsz⟩:=DataW.trod_string Tryz.underlying9 (by exact e1);obtain⟨c,g2,_⟩:=DataW.trod_int Tryz.underlying3 (by exact e2);have hC1:Tryz.prog.cellsOf 3=1:=by kernel_rfl
  have hC2:Tryz.prog.cellsOf 9=1:=by kernel_rfl
  have hC3:Tryz.prog.cellsOf 29=1:=by kernel_rfl
  simp[hC1]at g0
  simp[hC2]at g1
  simp[hC1]at g2
  refine⟨k,c,s,n,y3,by omega,g0,g1,g2,hsz,?_⟩;simpa[hC3]using e3
end
end
section
open Go.RowKit
theorem aV{p:World→Prop}{W:World}(F:World→Prop)(hF:F W)(h:∀W',F W'→p W'):p W:=h W hF
theorem O.p8(w:World)(o o':Obj)(t:TypeId)(cs:Array Value):O (((w.alloc o).alloc o').alloc (.cells cs t)) (w.heap.size+1+1) t cs:=by
 have:=O.new2 (w.alloc o) o' t cs;simpa using this
theorem iN{P:Program}{f:Nat}{args:Array Value}{v:Value}(W:World)(h:∀w,ag W w→Calls P f args w fun e w'=>e=.returned v∧ag w w'):
  ∀d os,Calls P f args (Go.Sort.grow (redrawn W d) os) fun e w''=>e=.returned v∧∃p:Regrown,w''=Go.Sort.grow (redrawn W p.d) p.os:=
 fun _ _=>Calls.regrown_of ((h _ (bE (below_regrown _ _ _))).mono fun _ _ h=>⟨h.1,h.2.below⟩)
theorem aC(a b:ByteArray):(a==b)=(a.data.toList==b.data.toList):=by
 show(a.data==b.data)=_;simp
def BX(n:Tr.Nd)(most:Int):Int:=if(Tr.count n:Int)≤most then most-Tr.count n else-1
def FB(l:List Tr.Nd)(most:Int):Int:=if(1+Tr.aj l:Int)≤most then most-1-Tr.aj l else-1
theorem Qz(a b:Int)(h:a=b):Ending.returned (.int .i64 a)=.returned (.int .i64 b):=by rw[h]
theorem Yp(m:Nat):∀(n:Tr.Nd) (sl:Value) (most:Int) (w:World),Tr.count n≤m→aO w n.kids sl→0≤most→most≤1000000→
  Calls Tryz.prog 34 #[.agg #[.int .i64 n.kind,.string ⟨n.text.toArray⟩,.int .i64 n.ai,sl],.int .i64 most] w fun e w'=>e=.returned (.int .i64 (BX n most))∧ag w w':=by
 induction m with
 |zero=>intro n _ _ _ h;have:=Tr.gQ n;omega
 |succ m ih=>
  intro n sl most w hm hr h0 h1;obtain⟨A,cap,rfl⟩:=hr.slice;have hlen:=hr.len;unfold maxLen at hlen;have jw:=I ih;have HR:=I hr;have hk:Tr.aj n.kids≤m:=by have:=Tr.aI n;omega
  have HN:=I (Tr.aI n);clear ih hr hm;generalize hks:n.kids=ks at*;clear hks;go_enter Tryz.func34,Tryz.ntmps34;go_wp2
  go_loopw [1,5] (fun x i wr=>∃(j:Nat) (cur:Int),i=.int .i64 j∧x=.int .i64 cur∧j≤ks.length∧Hd (cur=FB (ks.take j) most)∧Hd (O wr w.heap.size 31 #[.int .i64 n.kind,.string ⟨n.text.toArray⟩,.int .i64 n.ai,.slice A ks.length cap])∧Hd (ag w wr)) (fun _ i _=>ks.length-(intOf i).toNat)
  case atStart=>exact⟨0,most-1,rfl,by simp,Nat.zero_le _,by unfold FB;simp[Tr.aj,Hd];omega,O.new _ _ _,(M _ w).alloc _⟩
  case round=>
   obtain⟨j,cur,rfl,rfl,hj,HC,HB,HF⟩:=hrel;obtain⟨q0,q1,q2,q3,_,_,_,_,hg⟩:=O.four HB.J;have aeU:-1≤cur∧cur≤1000000:=by rw[HC.J];unfold FB;split<;>omega
   obtain⟨hcl,Iq⟩:=aeU
   by_cases c1:j<ks.length
   ·have d1:decide ((j:Int)<(ks.length:Int))=true:=by simp;omega
    have d1':(j:Int)<(ks.length:Int):=by omega
    by_cases c2:0≤cur
    ·have d2:decide ((0:Int)≤cur)=true:=by simp;omega
     obtain⟨g,o,sl,rfl,hg',m0,m1,m2,m3,wZ⟩:=HR.J.get j c1;have p0:=HF.J.cell m0 (fun h=>h);have p1:=HF.J.cell m1 (fun h=>h);have p2:=HF.J.cell m2 (fun h=>h);have p3:=HF.J.cell m3 (fun h=>h);have hcnt:=Tr.dm (List.getElem_mem (l:=ks) (n:=j) c1);have DW:=I (Tr.oo ks j c1);have FX:=I wZ;clear m0 m1 m2 m3 wZ;generalize ks[j]=x at*;go_wp2_with fail
     refine(jw.J x sl cur _ (by omega) (FX.J.fresh HF.J) c2 Iq).mono ?_;rintro e1 w1 ⟨rfl,hf⟩;have aF:=I hf;have HB1:=I (hf.blk HB.J (fun h=>h));clear hf q0 q1 q2 q3 p0 p1 p2 p3;go_wp2
     go_roundw
     case rel=>
      refine⟨j+1,BX x cur,by go_num,rfl,c1,?_,HB1,HF.J.trans aF.J⟩;unfold Hd;have h1:=HC.J;unfold FB at h1⊢;unfold BX;rw[DW.J];split at h1<;>split<;>split<;>omega
     case measure=>simp[intOf];omega
    ·have d2:decide ((0:Int)≤cur)=false:=by simp;omega
     go_wp2
     go_ret;refine⟨Qz _ _ ?_,HF.J⟩;clear q0 q1 q2 q3;have h1:=HC.J;have h2:=Tr.kV ks j;unfold FB at h1;unfold BX;rw[HN.J];split at h1<;>split<;>omega
   ·have d1:decide ((j:Int)<(ks.length:Int))=false:=by simp;omega
    obtain rfl:j=ks.length:=by omega
    go_wp2
    go_ret;refine⟨Qz _ _ ?_,HF.J⟩;have h1:=HC.J;rw[List.take_length]at h1;rw[h1];unfold FB BX;rw[HN.J];split<;>split<;>omega
theorem af(a b:Bool)(h:a=b):Ending.returned (.bool a)=.returned (.bool b):=by rw[h]
theorem Yq(n:Tr.Nd)(sl:Value)(most:Int)(w:World)(hr:aO w n.kids sl)(h0:0≤most)(h1:most≤1000000):
  Calls Tryz.prog 34 #[.agg #[.int .i64 n.kind,.string ⟨n.text.toArray⟩,.int .i64 n.ai,sl],.int .i64 most] w fun e w'=>e=.returned (.int .i64 (BX n most))∧ag w w':=Yp _ n sl most w (Nat.le_refl _) hr h0 h1
theorem QA(n:Tr.Nd)(sl:Value)(most:Int)(w:World)(hr:aO w n.kids sl)(h0:0≤most)(h1:most≤1000000):
  Calls Tryz.prog 17 #[.agg #[.int .i64 n.kind,.string ⟨n.text.toArray⟩,.int .i64 n.ai,sl],.int .i64 most] w fun e w'=>e=.returned (.bool (decide ((Tr.count n:Int)≤most)))∧ag w w':=by
 have HR:=I hr;clear hr;go_enter Tryz.func17,Tryz.ntmps17;go_wp2_with fail
 refine Calls.mono (Yq n sl most _ (HR.J.fresh bf) h0 h1) ?_;rintro _ w1 ⟨rfl,nO⟩;have aF:=I (show ag w w1 from qW nO);have qY:O w1 (w.heap.size) 31 #[.int .i64 n.kind,.string (⟨n.text.toArray⟩:ByteArray),.int .i64 n.ai,sl]:=Touch.blk nO (by first|exact yz|assumption|exact uW (by assumption)) (fun h=>h);obtain⟨y7,y8,y9,zb,_⟩:=O.four qY;clear nO;go_wp2
 go_ret;refine⟨af _ _ ?_,aF.J⟩;rw[Bool.eq_iff_iff,decide_eq_true_iff,decide_eq_true_iff];unfold BX;split<;>omega
theorem RP(n m:Tr.Nd)(sl sm:Value)(w:World)(hi:∀w',ag w w'→Calls Tryz.prog 33 #[sl,sm] w' fun e w''=>e=.returned (.bool (Tr.qI n.kids m.kids))∧ag w' w''):
  Calls Tryz.prog 15 #[.agg #[.int .i64 n.kind,.string ⟨n.text.toArray⟩,.int .i64 n.ai,sl],.agg #[.int .i64 m.kind,.string ⟨m.text.toArray⟩,.int .i64 m.ai,sm]] w fun e w'=>e=.returned (.bool (Tr.DL n m))∧ag w w':=by
 have HI:=I hi;clear hi;have HE:=I (Tr.UE n m);go_enter Tryz.func15,Tryz.ntmps15;cases h1:(n.kind==m.kind)with
 |false=>
  have xS:(n.kind !=m.kind)=true:=by rw[bne,h1];rfl
  go_wp2
  go_ret;exact⟨af _ _ (by rw[HE.J];simp_all),bf⟩
 |true=>
  have xS:(n.kind !=m.kind)=false:=by rw[bne,h1];rfl
  cases h2:(n.text==m.text)with
  |false=>
   have DX:((⟨n.text.toArray⟩:ByteArray)==(⟨m.text.toArray⟩:ByteArray))=false:=by rw[aC];exact h2
   have UG:((⟨n.text.toArray⟩:ByteArray) !=(⟨m.text.toArray⟩:ByteArray))=true:=by rw[bne,DX];rfl
   go_wp2
   go_ret;exact⟨af _ _ (by rw[HE.J];simp_all),bf⟩
  |true=>
   have DX:((⟨n.text.toArray⟩:ByteArray)==(⟨m.text.toArray⟩:ByteArray))=true:=by rw[aC];exact h2
   have UG:((⟨n.text.toArray⟩:ByteArray) !=(⟨m.text.toArray⟩:ByteArray))=false:=by rw[bne,DX];rfl
   cases h3:(n.ai==m.ai)with
   |false=>
    have xU:(n.ai !=m.ai)=true:=by rw[bne,h3];rfl
    go_wp2
    go_ret;exact⟨af _ _ (by rw[HE.J];simp_all),bf⟩
   |true=>
    have xU:(n.ai !=m.ai)=false:=by rw[bne,h3];rfl
    go_wp2_with fail
    refine Calls.mono (HI.J _ bf) ?_;rintro _ w3 ⟨rfl,hfw3⟩;have bC:=I (show ag w w3 from qW hfw3);have Ir:O w3 (w.heap.size) 31 #[.int .i64 n.kind,.string (⟨n.text.toArray⟩:ByteArray),.int .i64 n.ai,sl]:=Touch.blk hfw3 (by first|exact yz|assumption|exact uW (by assumption)) (fun h=>h);have aeq:O w3 (w.heap.size+1) 31 #[.int .i64 m.kind,.string (⟨m.text.toArray⟩:ByteArray),.int .i64 m.ai,sm]:=Touch.blk hfw3 (by first|exact yz|assumption|exact uW (by assumption)) (fun h=>h);obtain⟨QB,QC,QD,QE,_⟩:=O.four Ir;obtain⟨ahl,ahm,ahn,aho,_⟩:=O.four aeq;clear hfw3;go_wp2
    go_ret;exact⟨af _ _ (by rw[HE.J];simp_all),(lK bC.J)⟩
theorem MO:∀(xs ys:List Tr.Nd) (k:Nat) (hx:k<xs.length) (hy:k<ys.length),Tr.qI (xs.take (k+1)) (ys.take (k+1))=(Tr.qI (xs.take k) (ys.take k)&&Tr.DL xs[k] ys[k])
 |x::xs,y::ys,0,_,_=>by simp[Tr.qI]
 |x::xs,y::ys,k+1,hx,hy=>by
  simp only[List.take_succ_cons,Tr.qI,List.getElem_cons_succ];rw[MO xs ys k (by simpa using hx) (by simpa using hy),Bool.and_assoc]
 |[],_,_,hx,_=>by simp at hx
 |_::_,[],_,_,hy=>by simp at hy
theorem UH:∀(xs ys:List Tr.Nd) (k:Nat) (hx:k<xs.length) (hy:k<ys.length),Tr.DL xs[k] ys[k]=false→Tr.qI xs ys=false
 |x::xs,y::ys,0,_,_,h=>by simp only[List.getElem_cons_zero]at h;rw[Tr.qI,h,Bool.false_and]
 |x::xs,y::ys,k+1,hx,hy,h=>by
  simp only[List.getElem_cons_succ]at h;rw[Tr.qI,UH xs ys k (by simpa using hx) (by simpa using hy) h,Bool.and_false]
 |[],_,_,hx,_,_=>by simp at hx
 |_::_,[],_,_,hy,_=>by simp at hy
theorem UI(ks ls:List Tr.Nd)(v1 v2:Value)(w:World)(h1:aO w ks v1)(h2:aO w ls v2)
  (hi:∀x∈ks,∀(y:Tr.Nd) (sx sy:Value) (w':World),aO w' x.kids sx→aO w' y.kids sy→Calls Tryz.prog 15 #[.agg #[.int .i64 x.kind,.string ⟨x.text.toArray⟩,.int .i64 x.ai,sx],.agg #[.int .i64 y.kind,.string ⟨y.text.toArray⟩,.int .i64 y.ai,sy]] w' fun e w''=>e=.returned (.bool (Tr.DL x y))∧ag w' w''):
  Calls Tryz.prog 33 #[v1,v2] w fun e w'=>e=.returned (.bool (Tr.qI ks ls))∧ag w w':=by
 have HI:=I hi;clear hi;have hlen:=h1.len;unfold maxLen at hlen;obtain⟨A,cap,rfl⟩:=h1.slice;obtain⟨B,cbp,rfl⟩:=h2.slice;have HR1:=I h1;have HR2:=I h2;clear h1 h2;have zZ:=I (Tr.Qx ks ls)
 by_cases c0:ks.length=ls.length
 ·have b0:((ks.length:Int)==(ls.length:Int))=true:=by rw[c0];simp
  have b0':((ks.length:Int) !=(ls.length:Int))=false:=by rw[bne,b0];rfl
  have C0:=I c0;clear c0;go_enter Tryz.func33,Tryz.ntmps33;go_wp2
  go_loopw [5] (fun i wr=>∃j:Nat,i=.int .i64 j∧j≤ks.length∧Hd (Tr.qI (ks.take j) (ls.take j)=true)∧Hd (ag w wr)) (fun i _=>ks.length-(intOf i).toNat)
  case atStart=>exact⟨0,rfl,Nat.zero_le _,by simp[Tr.qI,Hd],M _ _⟩
  case round=>
   obtain⟨j,rfl,hj,HA,HF⟩:=hrel
   by_cases c1:j<ks.length
   ·have d1:decide ((j:Int)<(ks.length:Int))=true:=by simp;omega
    have d1':(j:Int)<(ks.length:Int):=by omega
    have c1y:j<ls.length:=by rw[←C0.J];exact c1
    have d1y:(j:Int)<(ls.length:Int):=by omega
    obtain⟨g,o,sx,rfl,hg,m0,m1,m2,m3,wZ⟩:=HR1.J.get j c1;obtain⟨g',o',sy,rfl,hg',n0,n1,n2,n3,hrl⟩:=HR2.J.get j c1y;have HS:=I (MO ks ls j c1 c1y);have HN:=I (UH ks ls j c1 c1y);have HX:=I (HI.J ks[j] (List.getElem_mem c1) ls[j] sx sy);have a0:=HF.J.cell m0 (fun h=>h);have a1:=HF.J.cell m1 (fun h=>h);have a2:=HF.J.cell m2 (fun h=>h);have a3:=HF.J.cell m3 (fun h=>h);have b0:=HF.J.cell n0 (fun h=>h);have b1:=HF.J.cell n1 (fun h=>h);have b2:=HF.J.cell n2 (fun h=>h);have b3:=HF.J.cell n3 (fun h=>h);have FX:=I wZ;have HRL:=I hrl;clear m0 m1 m2 m3 n0 n1 n2 n3 wZ hrl HI HR1 HR2;generalize ks[j]=x at*;generalize ls[j]=y at*;go_wp2_with fail
    refine aV (fun W=>ag wr W) bf ?_;rintro w4 p9;have dw:=I p9;clear p9;obtain⟨BZ,Ca,Cb,Cc⟩:=yD dw.J a0 a1 a2 a3;obtain⟨RQ,RS,RU,RV⟩:=yD dw.J b0 b1 b2 b3;clear a0 a1 a2 a3 b0 b1 b2 b3;have MP:=cR BZ;have MQ:=cR Ca;have MR:=cR Cb;have MS:=cR Cc;have acY:=cR RQ;have acZ:=cR RS;have ac0:=cR RU;have ac1:=cR RV;have RX:=I (iN (P:=Tryz.prog) w4 (fun w hw=>HX.J _ (FX.J.fresh (Touch.trans (HF.J.trans dw.J) hw)) (HRL.J.fresh (Touch.trans (HF.J.trans dw.J) hw))));refine wp_region_quiet_below (by kernel_rfl) (by kernel_rfl) ?_
    repeat(quiet_step (first|with_reducible exact RX.J _ _))
    refine wpQuiet_nil ?_;rintro w5 ⟨⟨_,_⟩,MU⟩;have uA:ag w4 w5:=by rw[MU];exact bE (below_regrown _ _ _)
    clear MU MP MQ MR MS acY acZ ac0 ac1;have dA:=I (show ag w4 w5 from qW uA);obtain⟨RY,RZ,R3,R4⟩:=yD dA.J BZ Ca Cb Cc;obtain⟨air,ais,ait,aiu⟩:=yD dA.J RQ RS RU RV;clear BZ Ca Cb Cc RQ RS RU RV;clear uA;cases h4:Tr.DL x y with
    |false=>
     go_wp2
     go_ret;exact⟨by rw[HN.J (by assumption)];rfl,(HF.J.trans (dw.J.trans dA.J))⟩
    |true=>
     go_wp2
     go_roundw
     case rel=>exact⟨j+1,by go_num,c1,by unfold Hd;rw[HS.J,HA.J];simpa using(by assumption),(HF.J.trans (dw.J.trans dA.J))⟩
     case measure=>simp[intOf];omega
   ·have d1:decide ((j:Int)<(ks.length:Int))=false:=by simp;omega
    obtain rfl:j=ks.length:=by omega
    go_wp2
    go_ret;refine⟨?_,HF.J⟩;have:=HA.J;rw[List.take_length,C0.J,List.take_length]at this;rw[this];rfl
 ·have b0:((ks.length:Int)==(ls.length:Int))=false:=by rw[beq_eq_false_iff_ne];omega
  have b0':((ks.length:Int) !=(ls.length:Int))=true:=by rw[bne,b0];rfl
  have mK:=I (zZ.J c0);clear c0;go_enter Tryz.func33,Tryz.ntmps33;go_wp2
  go_ret;exact⟨by rw[mK.J];rfl,M _ _⟩
theorem Kz(m:Nat):∀(n:Tr.Nd) (y:Tr.Nd) (sl sm:Value) (w:World),Tr.count n≤m→aO w n.kids sl→aO w y.kids sm→
  Calls Tryz.prog 15 #[.agg #[.int .i64 n.kind,.string ⟨n.text.toArray⟩,.int .i64 n.ai,sl],.agg #[.int .i64 y.kind,.string ⟨y.text.toArray⟩,.int .i64 y.ai,sm]] w fun e w'=>e=.returned (.bool (Tr.DL n y))∧ag w w':=by
 induction m with
 |zero=>intro n _ _ _ _ h;have:=Tr.gQ n;omega
 |succ m ih=>
  intro n y sl sm w hc h1 h2;refine RP n y sl sm w fun w' hf=>UI n.kids y.kids sl sm w' (h1.fresh hf) (h2.fresh hf) fun x hx z sx sz w'' g1 g2=>ih x z sx sz w'' ?_ g1 g2
  have:=Tr.dm hx;have:=Tr.aI n;omega
theorem oq(l:List UInt8)(j:Nat)(h:j<l.length)(p:UInt8→Bool):(l.take (j+1)).all p=((l.take j).all p&&p l[j]):=by
 rw[List.take_add_one,List.getElem?_eq_getElem h,List.all_append];simp only[Option.toList_some,List.all_cons,List.all_nil,Bool.and_true]
theorem uG(l:List UInt8)(j:Nat)(h:j<l.length)(p:UInt8→Bool)(hn:p l[j]=false):l.all p=false:=by
 rw[List.all_eq_false];exact⟨l[j],List.getElem_mem _,by rw[hn];decide⟩
theorem bD(s:ByteArray):s.toList.isEmpty=(s.data.toList==[]):=by
 rw[ByteArray.toList_eq];cases s.data.toList<;>rfl
theorem lD(s:ByteArray)(p:UInt8→Bool)(j:Nat)(hj:j≤s.size)(hn:¬j<s.size)(h:(s.data.toList.take j).all p=true):s.data.toList.all p=true:=by
 have:s.data.toList.length=s.size:=by simp
 rwa [List.take_of_length_le (by omega)]at h
theorem Md:∀n:Fin 256,Tr.letter (UInt8.ofNat n.1)=(!decide (bits .or .u8 (n.1:Int) 32<(97:Int))&&!decide ((122:Int)<bits .or .u8 (n.1:Int) 32)):=by decide+kernel
theorem DY(b:UInt8):Tr.letter b=(!decide (bits .or .u8 (b.toNat:Int) 32<(97:Int))&&!decide ((122:Int)<bits .or .u8 (b.toNat:Int) 32)):=by
 have:=Md ⟨b.toNat,b.toNat_lt⟩;simpa using this
theorem UJ:∀n:Fin 256,Tr.digit (UInt8.ofNat n.1)=(!decide ((n.1:Int)<(48:Int))&&!decide ((57:Int)<(n.1:Int))):=by decide+kernel
theorem GK(b:UInt8):Tr.digit b=(!decide ((b.toNat:Int)<(48:Int))&&!decide ((57:Int)<(b.toNat:Int))):=by
 have:=UJ ⟨b.toNat,b.toNat_lt⟩;simpa using this
def mW(b:UInt8):Bool:=decide (32≤b)&&decide (b≤126)
theorem UK:∀n:Fin 256,mW (UInt8.ofNat n.1)=(!decide ((n.1:Int)<(32:Int))&&!decide ((126:Int)<(n.1:Int))):=by decide+kernel
theorem xy(b:UInt8):mW b=(!decide ((b.toNat:Int)<(32:Int))&&!decide ((126:Int)<(b.toNat:Int))):=by
 have:=UK ⟨b.toNat,b.toNat_lt⟩;simpa using this
theorem FY(s:ByteArray)(w:World)(hm:s.size≤9223372036854775807):
  Calls Tryz.prog 141 #[.string s] w fun e w'=>e=.returned (.bool (s.data.toList.all Tr.letter))∧w'=w:=by
 go_enter Tryz.func141,Tryz.ntmps141;go_wp2
 go_loopw [3] (fun i wr=>∃j:Nat,i=.int .i64 j∧j≤s.size∧Hd ((s.data.toList.take j).all Tr.letter=true)∧wr=w) (fun i _=>s.size-(intOf i).toNat)
 case atStart=>exact⟨0,rfl,Nat.zero_le _,by simp[Hd],rfl⟩
 case round=>
  obtain⟨j,rfl,hj,HA,rfl⟩:=hrel
  by_cases c1:j<s.size
  ·have d1:decide ((j:Int)<(s.size:Int))=true:=by simp;omega
   have d1':(j:Int)<(s.size:Int):=by omega
   obtain⟨b,hb⟩:∃b,s[j]'c1=b:=⟨_,rfl⟩;have hst:=oq s.data.toList j (by simpa using c1) Tr.letter;have hno:=uG s.data.toList j (by simpa using c1) Tr.letter;have hbl:s.data.toList[j]'(by simpa using c1)=b:=hb;rw[hbl]at hst hno;have HS:=I hst;have HN:=I hno;clear hst hno hbl;cases h1:decide ((bits .or .u8 (b.toNat:Int) (32:Int))<(97:Int))with
   |false=>
    cases h2:decide ((122:Int)<(bits .or .u8 (b.toNat:Int) (32:Int)))with
    |false=>
     go_wp2
     go_roundw
     case rel=>exact⟨j+1,by go_num,c1,by unfold Hd;rw[HS.J,HA.J];rw[DY];simp_all,trivial⟩
     case measure=>simp[intOf];omega
    |true=>
     go_wp2
     go_ret;exact⟨by rw[HN.J (by rw[DY];simp_all)];rfl,rfl⟩
   |true=>
    go_wp2
    go_ret;exact⟨by rw[HN.J (by rw[DY];simp_all)];rfl,rfl⟩
  ·have d1:decide ((j:Int)<(s.size:Int))=false:=by simp;omega
   go_wp2
   go_ret;exact⟨by rw[lD s Tr.letter j hj c1 HA.J];rfl,rfl⟩
theorem R5(s:ByteArray)(w:World)(hm:s.size≤9223372036854775807):
  Calls Tryz.prog 155 #[.string s] w fun e w'=>e=.returned (.bool (s.data.toList.all Tr.digit&&!(s.data.toList==[])))∧w'=w:=by
 go_enter Tryz.func155,Tryz.ntmps155;go_wp2
 go_loopw [3] (fun i wr=>∃j:Nat,i=.int .i64 j∧j≤s.size∧Hd ((s.data.toList.take j).all Tr.digit=true)∧wr=w) (fun i _=>s.size-(intOf i).toNat)
 case atStart=>exact⟨0,rfl,Nat.zero_le _,by simp[Hd],rfl⟩
 case round=>
  obtain⟨j,rfl,hj,HA,rfl⟩:=hrel
  by_cases c1:j<s.size
  ·have d1:decide ((j:Int)<(s.size:Int))=true:=by simp;omega
   have d1':(j:Int)<(s.size:Int):=by omega
   obtain⟨b,hb⟩:∃b,s[j]'c1=b:=⟨_,rfl⟩;have hst:=oq s.data.toList j (by simpa using c1) Tr.digit;have hno:=uG s.data.toList j (by simpa using c1) Tr.digit;have hbl:s.data.toList[j]'(by simpa using c1)=b:=hb;rw[hbl]at hst hno;have HS:=I hst;have HN:=I hno;clear hst hno hbl;cases h3:decide ((b.toNat:Int)<(48:Int))with
   |false=>
    cases h4:decide ((57:Int)<(b.toNat:Int))with
    |false=>
     have UL:decide (57<b.toNat)=false:=by have hx:=h4;simp only[decide_eq_false_iff_not]at hx⊢;omega
     go_wp2
     go_roundw
     case rel=>exact⟨j+1,by go_num,c1,by unfold Hd;rw[HS.J,HA.J];rw[GK];simp_all,trivial⟩
     case measure=>simp[intOf];omega
    |true=>
     have UL:decide (57<b.toNat)=true:=by have hx:=h4;simp only[decide_eq_true_eq]at hx⊢;omega
     go_wp2
     go_ret;exact⟨by rw[HN.J (by rw[GK];simp_all)];rfl,rfl⟩
   |true=>
    go_wp2
    go_ret;exact⟨by rw[HN.J (by rw[GK];simp_all)];rfl,rfl⟩
  ·have d1:decide ((j:Int)<(s.size:Int))=false:=by simp;omega
   cases h5:(s.data.toList==([]:List UInt8))with
   |false=>
    have DZ:(s==(⟨#[]⟩:ByteArray))=false:=by rw[aC];exact h5
    have UM:(s !=(⟨#[]⟩:ByteArray))=true:=by rw[bne,DZ];rfl
    have h5e:(ByteArray.toList s).isEmpty=false:=by rw[bD];exact h5
    go_wp2
    go_ret;exact⟨af _ _ (Eq.symm (by rw[lD s Tr.digit j hj c1 HA.J,Bool.true_and];simp only[*];rfl)),rfl⟩
   |true=>
    have DZ:(s==(⟨#[]⟩:ByteArray))=true:=by rw[aC];exact h5
    have UM:(s !=(⟨#[]⟩:ByteArray))=false:=by rw[bne,DZ];rfl
    have h5e:(ByteArray.toList s).isEmpty=true:=by rw[bD];exact h5
    go_wp2
    go_ret;exact⟨af _ _ (Eq.symm (by rw[lD s Tr.digit j hj c1 HA.J,Bool.true_and];simp only[*];rfl)),rfl⟩
theorem UN(s:ByteArray)(w:World)(hm:s.size≤9223372036854775807):
  Calls Tryz.prog 92 #[.string s] w fun e w'=>e=.returned (.bool (s.data.toList.all mW&&decide ((s.size:Int)≤(200:Int))))∧w'=w:=by
 go_enter Tryz.func92,Tryz.ntmps92;go_wp2
 go_loopw [3] (fun i wr=>∃j:Nat,i=.int .i64 j∧j≤s.size∧Hd ((s.data.toList.take j).all mW=true)∧wr=w) (fun i _=>s.size-(intOf i).toNat)
 case atStart=>exact⟨0,rfl,Nat.zero_le _,by simp[Hd],rfl⟩
 case round=>
  obtain⟨j,rfl,hj,HA,rfl⟩:=hrel
  by_cases c1:j<s.size
  ·have d1:decide ((j:Int)<(s.size:Int))=true:=by simp;omega
   have d1':(j:Int)<(s.size:Int):=by omega
   obtain⟨b,hb⟩:∃b,s[j]'c1=b:=⟨_,rfl⟩;have hst:=oq s.data.toList j (by simpa using c1) mW;have hno:=uG s.data.toList j (by simpa using c1) mW;have hbl:s.data.toList[j]'(by simpa using c1)=b:=hb;rw[hbl]at hst hno;have HS:=I hst;have HN:=I hno;clear hst hno hbl;cases h6:decide ((b.toNat:Int)<(32:Int))with
   |false=>
    cases h7:decide ((126:Int)<(b.toNat:Int))with
    |false=>
     have MV:decide (126<b.toNat)=false:=by have hx:=h7;simp only[decide_eq_false_iff_not]at hx⊢;omega
     go_wp2
     go_roundw
     case rel=>exact⟨j+1,by go_num,c1,by unfold Hd;rw[HS.J,HA.J];rw[xy];simp_all,trivial⟩
     case measure=>simp[intOf];omega
    |true=>
     have MV:decide (126<b.toNat)=true:=by have hx:=h7;simp only[decide_eq_true_eq]at hx⊢;omega
     go_wp2
     go_ret;exact⟨by rw[HN.J (by rw[xy];simp_all)];rfl,rfl⟩
   |true=>
    go_wp2
    go_ret;exact⟨by rw[HN.J (by rw[xy];simp_all)];rfl,rfl⟩
  ·have d1:decide ((j:Int)<(s.size:Int))=false:=by simp;omega
   cases h8:decide ((s.size:Int)≤(200:Int))with
   |false=>
    go_wp2
    go_ret;exact⟨af _ _ (Eq.symm (by rw[lD s mW j hj c1 HA.J,Bool.true_and];assumption)),rfl⟩
   |true=>
    go_wp2
    go_ret;exact⟨af _ _ (Eq.symm (by rw[lD s mW j hj c1 HA.J,Bool.true_and];assumption)),rfl⟩
theorem Iu(s:ByteArray)(w:World):
  Calls Tryz.prog 93 #[.string s] w fun e w'=>e=.returned (.bool (Tr.fJ.contains s.data.toList))∧w'=w:=by
 go_enter Tryz.func93,Tryz.ntmps93;cases h9:(s.data.toList==([104,97,116]:List UInt8))with
 |false=>
  have h9s:(s==(⟨#[104,97,116]⟩:ByteArray))=false:=by rw[aC];exact h9
  have h9t:(s !=(⟨#[104,97,116]⟩:ByteArray))=true:=by rw[bne,h9s];rfl
  have h9l:(ByteArray.toList s==[104,97,116])=false:=by rw[ByteArray.toList_eq];exact h9
  cases h10:(s.data.toList==([98,97,114]:List UInt8))with
  |false=>
   have GL:(s==(⟨#[98,97,114]⟩:ByteArray))=false:=by rw[aC];exact h10
   have Yr:(s !=(⟨#[98,97,114]⟩:ByteArray))=true:=by rw[bne,GL];rfl
   have Yt:(ByteArray.toList s==[98,97,114])=false:=by rw[ByteArray.toList_eq];exact h10
   cases h11:(s.data.toList==([118,101,99]:List UInt8))with
   |false=>
    have GM:(s==(⟨#[118,101,99]⟩:ByteArray))=false:=by rw[aC];exact h11
    have Yu:(s !=(⟨#[118,101,99]⟩:ByteArray))=true:=by rw[bne,GM];rfl
    have Yv:(ByteArray.toList s==[118,101,99])=false:=by rw[ByteArray.toList_eq];exact h11
    cases h12:(s.data.toList==([100,111,116]:List UInt8))with
    |false=>
     have zl:(s==(⟨#[100,111,116]⟩:ByteArray))=false:=by rw[aC];exact h12
     have MW:(s !=(⟨#[100,111,116]⟩:ByteArray))=true:=by rw[bne,zl];rfl
     have Yw:(ByteArray.toList s==[100,111,116])=false:=by rw[ByteArray.toList_eq];exact h12
     cases rH:(s.data.toList==([116,105,108,100,101]:List UInt8))with
     |false=>
      have GN:(s==(⟨#[116,105,108,100,101]⟩:ByteArray))=false:=by rw[aC];exact rH
      have Yx:(s !=(⟨#[116,105,108,100,101]⟩:ByteArray))=true:=by rw[bne,GN];rfl
      have Yy:(ByteArray.toList s==[116,105,108,100,101])=false:=by rw[ByteArray.toList_eq];exact rH
      cases yF:(s.data.toList==([99,104,101,99,107]:List UInt8))with
      |false=>
       have GQ:(s==(⟨#[99,104,101,99,107]⟩:ByteArray))=false:=by rw[aC];exact yF
       have Yz:(s !=(⟨#[99,104,101,99,107]⟩:ByteArray))=true:=by rw[bne,GQ];rfl
       have YA:(ByteArray.toList s==[99,104,101,99,107])=false:=by rw[ByteArray.toList_eq];exact yF
       go_wp2
       go_ret;exact⟨af _ _ (by simp only[Tr.fJ,List.contains_cons,List.contains_nil, *]<;>rfl),rfl⟩
      |true=>
       have GQ:(s==(⟨#[99,104,101,99,107]⟩:ByteArray))=true:=by rw[aC];exact yF
       have Yz:(s !=(⟨#[99,104,101,99,107]⟩:ByteArray))=false:=by rw[bne,GQ];rfl
       have YA:(ByteArray.toList s==[99,104,101,99,107])=true:=by rw[ByteArray.toList_eq];exact yF
       go_wp2
       go_ret;exact⟨af _ _ (by simp only[Tr.fJ,List.contains_cons,List.contains_nil, *]<;>rfl),rfl⟩
     |true=>
      have GN:(s==(⟨#[116,105,108,100,101]⟩:ByteArray))=true:=by rw[aC];exact rH
      have Yx:(s !=(⟨#[116,105,108,100,101]⟩:ByteArray))=false:=by rw[bne,GN];rfl
      have Yy:(ByteArray.toList s==[116,105,108,100,101])=true:=by rw[ByteArray.toList_eq];exact rH
      go_wp2
      go_ret;exact⟨af _ _ (by simp only[Tr.fJ,List.contains_cons,List.contains_nil, *]<;>rfl),rfl⟩
    |true=>
     have zl:(s==(⟨#[100,111,116]⟩:ByteArray))=true:=by rw[aC];exact h12
     have MW:(s !=(⟨#[100,111,116]⟩:ByteArray))=false:=by rw[bne,zl];rfl
     have Yw:(ByteArray.toList s==[100,111,116])=true:=by rw[ByteArray.toList_eq];exact h12
     go_wp2
     go_ret;exact⟨af _ _ (by simp only[Tr.fJ,List.contains_cons,List.contains_nil, *]<;>rfl),rfl⟩
   |true=>
    have GM:(s==(⟨#[118,101,99]⟩:ByteArray))=true:=by rw[aC];exact h11
    have Yu:(s !=(⟨#[118,101,99]⟩:ByteArray))=false:=by rw[bne,GM];rfl
    have Yv:(ByteArray.toList s==[118,101,99])=true:=by rw[ByteArray.toList_eq];exact h11
    go_wp2
    go_ret;exact⟨af _ _ (by simp only[Tr.fJ,List.contains_cons,List.contains_nil, *]<;>rfl),rfl⟩
  |true=>
   have GL:(s==(⟨#[98,97,114]⟩:ByteArray))=true:=by rw[aC];exact h10
   have Yr:(s !=(⟨#[98,97,114]⟩:ByteArray))=false:=by rw[bne,GL];rfl
   have Yt:(ByteArray.toList s==[98,97,114])=true:=by rw[ByteArray.toList_eq];exact h10
   go_wp2
   go_ret;exact⟨af _ _ (by simp only[Tr.fJ,List.contains_cons,List.contains_nil, *]<;>rfl),rfl⟩
 |true=>
  have h9s:(s==(⟨#[104,97,116]⟩:ByteArray))=true:=by rw[aC];exact h9
  have h9t:(s !=(⟨#[104,97,116]⟩:ByteArray))=false:=by rw[bne,h9s];rfl
  have h9l:(ByteArray.toList s==[104,97,116])=true:=by rw[ByteArray.toList_eq];exact h9
  go_wp2
  go_ret;exact⟨af _ _ (by simp only[Tr.fJ,List.contains_cons,List.contains_nil, *]<;>rfl),rfl⟩
theorem Py(s:ByteArray)(w:World):
  Calls Tryz.prog 143 #[.string s] w fun e w'=>e=.returned (.bool (Tr.keywords.contains s.data.toList))∧w'=w:=by
 go_enter Tryz.func143,Tryz.ntmps143;cases vI:(s.data.toList==([102,114,97,99]:List UInt8))with
 |false=>
  have zm:(s==(⟨#[102,114,97,99]⟩:ByteArray))=false:=by rw[aC];exact vI
  have MX:(s !=(⟨#[102,114,97,99]⟩:ByteArray))=true:=by rw[bne,zm];rfl
  have YB:(ByteArray.toList s==[102,114,97,99])=false:=by rw[ByteArray.toList_eq];exact vI
  cases h16:(s.data.toList==([114,111,111,116]:List UInt8))with
  |false=>
   have GR:(s==(⟨#[114,111,111,116]⟩:ByteArray))=false:=by rw[aC];exact h16
   have YC:(s !=(⟨#[114,111,111,116]⟩:ByteArray))=true:=by rw[bne,GR];rfl
   have YD:(ByteArray.toList s==[114,111,111,116])=false:=by rw[ByteArray.toList_eq];exact h16
   cases rY:(s.data.toList==([109,97,116,114,105,120]:List UInt8))with
   |false=>
    have uX:(s==(⟨#[109,97,116,114,105,120]⟩:ByteArray))=false:=by rw[aC];exact rY
    have GU:(s !=(⟨#[109,97,116,114,105,120]⟩:ByteArray))=true:=by rw[bne,uX];rfl
    have YE:(ByteArray.toList s==[109,97,116,114,105,120])=false:=by rw[ByteArray.toList_eq];exact rY
    cases h18:(s.data.toList==([102,101,110,99,101]:List UInt8))with
    |false=>
     have GV:(s==(⟨#[102,101,110,99,101]⟩:ByteArray))=false:=by rw[aC];exact h18
     have YF:(s !=(⟨#[102,101,110,99,101]⟩:ByteArray))=true:=by rw[bne,GV];rfl
     have YG:(ByteArray.toList s==[102,101,110,99,101])=false:=by rw[ByteArray.toList_eq];exact h18
     go_wp2
     go_ret;exact⟨af _ _ (by simp only[Tr.keywords,List.contains_cons,List.contains_nil, *]<;>rfl),rfl⟩
    |true=>
     have GV:(s==(⟨#[102,101,110,99,101]⟩:ByteArray))=true:=by rw[aC];exact h18
     have YF:(s !=(⟨#[102,101,110,99,101]⟩:ByteArray))=false:=by rw[bne,GV];rfl
     have YG:(ByteArray.toList s==[102,101,110,99,101])=true:=by rw[ByteArray.toList_eq];exact h18
     go_wp2
     go_ret;exact⟨af _ _ (by simp only[Tr.keywords,List.contains_cons,List.contains_nil, *]<;>rfl),rfl⟩
   |true=>
    have uX:(s==(⟨#[109,97,116,114,105,120]⟩:ByteArray))=true:=by rw[aC];exact rY
    have GU:(s !=(⟨#[109,97,116,114,105,120]⟩:ByteArray))=false:=by rw[bne,uX];rfl
    have YE:(ByteArray.toList s==[109,97,116,114,105,120])=true:=by rw[ByteArray.toList_eq];exact rY
    go_wp2
    go_ret;exact⟨af _ _ (by simp only[Tr.keywords,List.contains_cons,List.contains_nil, *]<;>rfl),rfl⟩
  |true=>
   have GR:(s==(⟨#[114,111,111,116]⟩:ByteArray))=true:=by rw[aC];exact h16
   have YC:(s !=(⟨#[114,111,111,116]⟩:ByteArray))=false:=by rw[bne,GR];rfl
   have YD:(ByteArray.toList s==[114,111,111,116])=true:=by rw[ByteArray.toList_eq];exact h16
   go_wp2
   go_ret;exact⟨af _ _ (by simp only[Tr.keywords,List.contains_cons,List.contains_nil, *]<;>rfl),rfl⟩
 |true=>
  have zm:(s==(⟨#[102,114,97,99]⟩:ByteArray))=true:=by rw[aC];exact vI
  have MX:(s !=(⟨#[102,114,97,99]⟩:ByteArray))=false:=by rw[bne,zm];rfl
  have YB:(ByteArray.toList s==[102,114,97,99])=true:=by rw[ByteArray.toList_eq];exact vI
  go_wp2
  go_ret;exact⟨af _ _ (by simp only[Tr.keywords,List.contains_cons,List.contains_nil, *]<;>rfl),rfl⟩
theorem sw(s:ByteArray)(w:World):
  Calls Tryz.prog 90 #[.string s] w fun e w'=>e=.returned (.bool (s.data.toList.isEmpty))∧w'=w:=by
 go_enter Tryz.func90,Tryz.ntmps90;cases h19:(s.data.toList==([]:List UInt8))with
 |false=>
  have zn:(s==(⟨#[]⟩:ByteArray))=false:=by rw[aC];exact h19
  have MZ:(s !=(⟨#[]⟩:ByteArray))=true:=by rw[bne,zn];rfl
  have YH:(ByteArray.toList s).isEmpty=false:=by rw[bD];exact h19
  go_wp2
  go_ret;exact⟨af _ _ (by cases hs:s.data.toList<;>simp_all),rfl⟩
 |true=>
  have zn:(s==(⟨#[]⟩:ByteArray))=true:=by rw[aC];exact h19
  have MZ:(s !=(⟨#[]⟩:ByteArray))=false:=by rw[bne,zn];rfl
  have YH:(ByteArray.toList s).isEmpty=true:=by rw[bD];exact h19
  go_wp2
  go_ret;exact⟨af _ _ (by cases hs:s.data.toList<;>simp_all),rfl⟩
end
end Go.Proofs.YtnbeemkfmlfgfaaGreatDoor
