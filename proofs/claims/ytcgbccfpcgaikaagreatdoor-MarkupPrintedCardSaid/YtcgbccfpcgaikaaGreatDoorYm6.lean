/- Part 6 of 46 of a proof. No condition. -/
import Derived.Test.YtcgbccfpcgaikaaGreatDoorShelf
import Derived.Test.YtcgbccfpcgaikaaGreatDoorYm3
import Derived.Test.YtcgbccfpcgaikaaGreatDoorYm1
set_option maxRecDepth 100000
set_option maxHeartbeats 1000000
namespace Go.Proofs.YtcgbccfpcgaikaaGreatDoor
section
open Go.ChangeShapes Go.WideShapes Go.ChangeAt Go.RowKit
inductive aD(W:World):List Tr.Nd→Value→Prop
 |nil (A:Option Addr) (cap:Nat):aD W [] (.slice A 0 cap)
 |row (g o cap:Nat) (ks:List Tr.Nd) (sl:Nat→Value) (hg:g<W.heap.size) (hl:ks.length≤maxLen) (ht:∀i (hi:i<ks.length),ks[i].text.length≤maxLen)
   (h0:∀i (hi:i<ks.length),W.cell? ⟨g,o+i*4,none⟩=some (.int .i64 ks[i].kind))
   (h1:∀i (hi:i<ks.length),W.cell? ⟨g,o+i*4+1,none⟩=some (.string ⟨ks[i].text.toArray⟩))
   (h2:∀i (hi:i<ks.length),W.cell? ⟨g,o+i*4+2,none⟩=some (.int .i64 ks[i].ah))
   (h3:∀i,i<ks.length→W.cell? ⟨g,o+i*4+3,none⟩=some (sl i))
   (hk:∀i (hi:i<ks.length),aD W ks[i].kids (sl i)):aD W ks (.slice (some ⟨g,o,none⟩) ks.length cap)
def V9(W:World)(n:Tr.Nd)(v:Value):Prop:=∃sl,v=.agg #[.int .i64 n.kind,.string ⟨n.text.toArray⟩,.int .i64 n.ah,sl]∧aD W n.kids sl
theorem aD.fresh{W W':World}{ks:List Tr.Nd}{v:Value}(h:aD W ks v)(hf:ag W W'):aD W' ks v:=by
 induction h with
 |nil A cap=>exact .nil A cap
 |row g o cap ks sl hg hl ht h0 h1 h2 h3 hk ih=>
  exact .row g o cap ks sl (Nat.lt_of_lt_of_le hg hf.size) hl ht (fun i hi=>hf.cell (h0 i hi) (fun h=>h)) (fun i hi=>hf.cell (h1 i hi) (fun h=>h)) (fun i hi=>hf.cell (h2 i hi) (fun h=>h)) (fun i hi=>hf.cell (h3 i hi) (fun h=>h)) ih
theorem V9.fresh{W W':World}{n:Tr.Nd}{v:Value}(h:V9 W n v)(hf:ag W W'):V9 W' n v:=by
 obtain⟨sl,h1,h2⟩:=h;exact⟨sl,h1,h2.fresh hf⟩
theorem aD.slice{W:World}{ks:List Tr.Nd}{v:Value}(h:aD W ks v):∃A cap,v=.slice A ks.length cap:=by
 cases h with
 |nil A cap=>exact⟨A,cap,rfl⟩
 |row g o cap _ sl=>exact⟨_,cap,rfl⟩
theorem aD.len{W:World}{ks:List Tr.Nd}{v:Value}(h:aD W ks v):ks.length≤maxLen:=by
 cases h with
 |nil A cap=>exact Nat.zero_le _
 |row g o cap _ sl hg hl=>exact hl
theorem aD.texts{W:World}{ks:List Tr.Nd}{v:Value}(h:aD W ks v)(i:Nat)(hi:i<ks.length):ks[i].text.length≤maxLen:=by
 cases h with
 |nil A cap=>simp at hi
 |row g o cap _ sl hg hl ht=>exact ht i hi
theorem aD.get{W:World}{ks:List Tr.Nd}{A:Option Addr}{len cap:Nat}(h:aD W ks (.slice A len cap))(i:Nat)(hi:i<ks.length):
  ∃g o sl,A=some ⟨g,o,none⟩∧g<W.heap.size∧W.cell? ⟨g,o+i*4,none⟩=some (.int .i64 ks[i].kind)∧W.cell? ⟨g,o+i*4+1,none⟩=some (.string ⟨ks[i].text.toArray⟩)∧
   W.cell? ⟨g,o+i*4+2,none⟩=some (.int .i64 ks[i].ah)∧W.cell? ⟨g,o+i*4+3,none⟩=some sl∧aD W ks[i].kids sl:=by
 generalize hv:Value.slice A len cap=v at h;cases h with
 |nil A cap=>simp at hi
 |row g o cap _ sl hg hl ht h0 h1 h2 h3 hk=>
  cases hv;exact⟨g,o,sl i,rfl,hg,h0 i hi,h1 i hi,h2 i hi,h3 i hi,hk i hi⟩
theorem YT{W:World}{base:Nat}{a:Addr}{cs:List Value}(h:W.cells? base a 4=some cs):∃c0 c1 c2 c3,cs=[c0,c1,c2,c3]∧a.spot=none∧a.block<W.heap.size∧
  W.cell? ⟨a.block,a.off,none⟩=some c0∧W.cell? ⟨a.block,a.off+1,none⟩=some c1∧W.cell? ⟨a.block,a.off+2,none⟩=some c2∧W.cell? ⟨a.block,a.off+3,none⟩=some c3:=by
 obtain⟨_,hl,hc⟩:=World.cells?_some h
 match cs,hl with
 |[c0,c1,c2,c3],_=>
  have e0:=hc 0 (by decide);have e1:=hc 1 (by decide);have e2:=hc 2 (by decide);have e3:=hc 3 (by decide);obtain⟨g,o,s⟩:=a
  have hs:s=none:=by
   cases s with
   |none=>rfl
   |some x=>
    simp only[Addr.add,if_true,List.getElem?_cons_zero]at e0;unfold World.cell? at e0;split at e0
    ·simp at e0
    ·cases e0
  subst hs;have hlt:=bL (a:=⟨g,o,none⟩) (v:=c0) (by simpa[Addr.add]using e0);exact⟨c0,c1,c2,c3,rfl,rfl,hlt,by simpa[Addr.add]using e0,by simpa[Addr.add]using e1,by simpa[Addr.add]using e2,by simpa[Addr.add]using e3⟩
section
variable {H:Type} {enc:TypeId×Value→H}
theorem Ll{w:World}{base:Nat}{sp:Nat→Bool}{hd:Bool}{fuel:Nat}{c0 c1 c2 c3:Value}{y:DataW H×List MemPlace}(h:DataW.trod enc Tryz.prog w base sp hd fuel 24 [c0,c1,c2,c3]=some y):
  ∃(k c:Int) (s:ByteArray) (n:Nat) (z:DataW H×List MemPlace),n<fuel∧c0=.int .i64 k∧c1=.string s∧c2=.int .i64 c∧s.size≤maxLen∧DataW.trod enc Tryz.prog w base sp hd n 22 [c3]=some z:=by
 obtain⟨xs,n,hfuel,_,_,hlen,hf⟩:=DataW.trod_struct Tryz.underlying24 h;have e0:=hf 0 _ rfl;have e1:=hf 1 _ rfl;have e2:=hf 2 _ rfl;have e3:=hf 3 _ rfl
 match xs,hlen with
 |[y0,y1,y2,y3],_=>
  obtain⟨k,g0,_⟩:=DataW.trod_int Tryz.underlying3 (by exact e0);obtain⟨s,g1,_,hsz⟩:=DataW.trod_string Tryz.underlying9 (by exact e1);obtain⟨c,g2,_⟩:=DataW.trod_int Tryz.underlying3 (by exact e2);have hC1:Tryz.prog.cellsOf 3=1:=by kernel_rfl
  have hC2:Tryz.prog.cellsOf 9=1:=by kernel_rfl
  have hC3:Tryz.prog.cellsOf 22=1:=by kernel_rfl
  simp[hC1]at g0
  simp[hC2]at g1
  simp[hC1]at g2
  refine⟨k,c,s,n,y3,by omega,g0,g1,g2,hsz,?_⟩;simpa[hC3]using e3
theorem Wh{w:World}{base:Nat}{sp:Nat→Bool}{hd:Bool}:∀(fuel:Nat) (cs:List Value) (y:DataW H×List MemPlace),DataW.trod enc Tryz.prog w base sp hd fuel 22 cs=some y→∃ks v,cs=[v]∧aD w ks v:=by
 intro fuel
 induction fuel using Nat.strongRecOn with
 |_ fuel ih=>
  intro cs y h
  rcases DataW.trod_slice Tryz.underlying22 h with⟨rfl,_⟩|⟨a,len,cap,elems,rest,n,hn,rfl,_,hb,hl,hm,hlen,hel,_,_⟩
  ·exact⟨[],_,rfl,.nil _ _⟩
  ·have hC:Tryz.prog.cellsOf 24=4:=by kernel_rfl
   rw[hC]at hel
   have each:∀i,i<len→∃(t:Tr.Nd) (sl:Value),a.spot=none∧a.block<w.heap.size∧w.cell? ⟨a.block,a.off+i*4,none⟩=some (.int .i64 t.kind)∧w.cell? ⟨a.block,a.off+i*4+1,none⟩=some (.string ⟨t.text.toArray⟩)∧
     w.cell? ⟨a.block,a.off+i*4+2,none⟩=some (.int .i64 t.ah)∧w.cell? ⟨a.block,a.off+i*4+3,none⟩=some sl∧aD w t.kids sl∧t.text.length≤maxLen:=by
    intro i hi;have h0:=hel i hi;rw[List.getElem?_eq_getElem (by omega),Option.bind_eq_some_iff]at h0;obtain⟨cs',hcs,hy⟩:=h0;obtain⟨c0,c1,c2,c3,rfl,hs,hlt,e0,e1,e2,e3⟩:=YT hcs;obtain⟨k,c,s,m,z,hm',rfl,rfl,rfl,hsz,hz⟩:=Ll hy;obtain⟨ks,v,hv,hr⟩:=ih m (by omega) _ _ hz;cases hv
    have hsp:a.spot=none∨0<i:=by
     rcases Nat.eq_zero_or_pos i with h|h
     ·subst h;left;simpa[Addr.add]using hs
     ·exact .inr h
    have hblk:(a.add (i*4)).block=a.block:=by unfold Addr.add;split<;>rfl
    have hoff:(a.add (i*4)).off=a.off+i*4:=by
     unfold Addr.add;split
     ·omega
     ·rfl
    rw[hblk,hoff]at e0 e1 e2 e3;rw[hblk]at hlt
    have hs0:a.spot=none:=by
     rcases hsp with h|h
     ·exact h
     ·have h00:=hel 0 (by omega)
      rw[List.getElem?_eq_getElem (by omega),Option.bind_eq_some_iff]at h00;obtain⟨cs0,ahH,_⟩:=h00;obtain⟨_,_,_,_,_,hs',_⟩:=YT ahH;simpa[Addr.add]using hs'
    exact⟨.mk k s.data.toList c ks,c3,hs0,hlt,e0,e1,e2,e3,hr,by show s.data.toList.length≤maxLen;simpa using hsz⟩
   cases hl0:len with
   |zero=>subst hl0;exact⟨[],_,rfl,.nil _ _⟩
   |succ l=>
    rw[←hl0];have hpos:0<len:=by omega
    have he:∃f:Nat→Tr.Nd×Value,∀i,i<len→w.cell? ⟨a.block,a.off+i*4,none⟩=some (.int .i64 (f i).1.kind)∧w.cell? ⟨a.block,a.off+i*4+1,none⟩=some (.string ⟨(f i).1.text.toArray⟩)∧
     w.cell? ⟨a.block,a.off+i*4+2,none⟩=some (.int .i64 (f i).1.ah)∧w.cell? ⟨a.block,a.off+i*4+3,none⟩=some (f i).2∧aD w (f i).1.kids (f i).2∧(f i).1.text.length≤maxLen:=by
     refine⟨fun i=>if h:i<len then⟨Classical.choose (each i h),Classical.choose (Classical.choose_spec (each i h))⟩else⟨.mk 0 [] 0 [],.bool false⟩,fun i hi=>?_⟩;simp only[dif_pos hi];exact(Classical.choose_spec (Classical.choose_spec (each i hi))).2.2
    obtain⟨f,hf⟩:=he;obtain⟨_,_,hs,hlt,_⟩:=each 0 hpos;obtain⟨g,o,s⟩:=a;simp only at hs hlt hf;subst hs;have hln:((List.range len).map fun i=>(f i).1).length=len:=by simp
    refine⟨(List.range len).map fun i=>(f i).1,_,rfl,?_⟩
    have:=aD.row (W:=w) g o cap ((List.range len).map fun i=>(f i).1) (fun i=>(f i).2) hlt (by rw[hln];omega) (fun i hi=>by simpa using(hf i (by simpa using hi)).2.2.2.2.2)
     (fun i hi=>by simpa using(hf i (by simpa using hi)).1) (fun i hi=>by simpa using(hf i (by simpa using hi)).2.1) (fun i hi=>by simpa using(hf i (by simpa using hi)).2.2.1)
     (fun i hi=>by simpa using(hf i (by simpa using hi)).2.2.2.1) (fun i hi=>by simpa using(hf i (by simpa using hi)).2.2.2.2.1)
    rw[hln]at this;exact this
theorem YU{w:World}{base b0:Nat}{sp:Nat→Bool}{hd:Bool}{v:Value}{d:DataW H}{p:List MemPlace}(hv:Value.okWide Tryz.prog w .any b0 24 v)(h:DataW.Trod enc Tryz.prog w base sp hd 24 v d p):
  ∃n,V9 w n v∧n.text.length≤maxLen:=by
 obtain⟨cs,rfl,hsz⟩:=okWide_struct Tryz.underlying24 hv;have hC:Tryz.prog.cellsOf 24=4:=by kernel_rfl
 rw[hC]at hsz;obtain⟨fuel,hf⟩:=h;obtain⟨l,rfl⟩:∃l:List Value,cs=l.toArray:=⟨cs.toList,by simp⟩
 match l,hsz with
 |[c0,c1,c2,c3],_=>
  obtain⟨k,c,s,m,z,_,rfl,rfl,rfl,hsz,hz⟩:=Ll hf;obtain⟨ks,v,hv,hr⟩:=Wh m _ _ hz;cases hv;exact⟨.mk k s.data.toList c ks,⟨c3,rfl,hr⟩,by show s.data.toList.length≤maxLen;simpa using hsz⟩
end
end
section
open Go.RowKit
theorem bK{p:World→Prop}{W:World}(F:World→Prop)(hF:F W)(h:∀W',F W'→p W'):p W:=h W hF
theorem lJ{P:Program}{f:Nat}{args:Array Value}{v:Value}(W:World)(h:∀w,ag W w→Calls P f args w fun e w'=>e=.returned v∧ag w w'):
  ∀d os,Calls P f args (Go.Sort.grow (redrawn W d) os) fun e w''=>e=.returned v∧∃p:Regrown,w''=Go.Sort.grow (redrawn W p.d) p.os:=
 fun _ _=>Calls.regrown_of ((h _ (aZ (below_regrown _ _ _))).mono fun _ _ h=>⟨h.1,h.2.below⟩)
theorem bS(a b:ByteArray):(a==b)=(a.data.toList==b.data.toList):=by
 show(a.data==b.data)=_;simp
def EP(n:Tr.Nd)(most:Int):Int:=if(Tr.count n:Int)≤most then most-Tr.count n else-1
def Jd(l:List Tr.Nd)(most:Int):Int:=if(1+Tr.az l:Int)≤most then most-1-Tr.az l else-1
theorem Vi(a b:Int)(h:a=b):Ending.returned (.int .i64 a)=.returned (.int .i64 b):=by rw[h]
theorem abx(m:Nat):∀(n:Tr.Nd) (sl:Value) (most:Int) (w:World),Tr.count n≤m→aD w n.kids sl→0≤most→most≤1000000→
  Calls Tryz.prog 12 #[.agg #[.int .i64 n.kind,.string ⟨n.text.toArray⟩,.int .i64 n.ah,sl],.int .i64 most] w fun e w'=>e=.returned (.int .i64 (EP n most))∧ag w w':=by
 induction m with
 |zero=>intro n _ _ _ h;have:=Tr.bX n;omega
 |succ m ih=>
  intro n sl most w hm hr h0 h1;obtain⟨A,cap,rfl⟩:=hr.slice;have hlen:=hr.len;unfold maxLen at hlen;have q9:=hid ih;have HR:=hid hr;have hk:Tr.az n.kids≤m:=by have:=Tr.aN n;omega
  have HN:=hid (Tr.aN n);clear ih hr hm;generalize hks:n.kids=ks at*;clear hks;go_enter Tryz.func12,Tryz.ntmps12;go_wp2
  go_loopw [1,5] (fun x i wr=>∃(j:Nat) (cur:Int),i=.int .i64 j∧x=.int .i64 cur∧j≤ks.length∧Hd (cur=Jd (ks.take j) most)∧Hd (af wr w.heap.size 24 #[.int .i64 n.kind,.string ⟨n.text.toArray⟩,.int .i64 n.ah,.slice A ks.length cap])∧Hd (ag w wr)) (fun _ i _=>ks.length-(intOf i).toNat)
  case atStart=>exact⟨0,most-1,rfl,by simp,Nat.zero_le _,by unfold Jd;simp[Tr.az,Hd];omega,af.new _ _ _,(M _ w).alloc _⟩
  case round=>
   obtain⟨j,cur,rfl,rfl,hj,HC,HB,HF⟩:=hrel;obtain⟨q0,q1,q2,q3,_,_,_,_,hg⟩:=af.four HB.out;have ahI:-1≤cur∧cur≤1000000:=by rw[HC.out];unfold Jd;split<;>omega
   obtain⟨hcl,Lm⟩:=ahI
   by_cases c1:j<ks.length
   ·have d1:decide ((j:Int)<(ks.length:Int))=true:=by simp;omega
    have d1':(j:Int)<(ks.length:Int):=by omega
    by_cases c2:0≤cur
    ·have d2:decide ((0:Int)≤cur)=true:=by simp;omega
     obtain⟨g,o,sl,rfl,hg',m0,m1,m2,m3,su⟩:=HR.out.get j c1;have p0:=HF.out.cell m0 (fun h=>h);have p1:=HF.out.cell m1 (fun h=>h);have p2:=HF.out.cell m2 (fun h=>h);have p3:=HF.out.cell m3 (fun h=>h);have hcnt:=Tr.cB (List.getElem_mem (l:=ks) (n:=j) c1);have nK:=hid (Tr.uA ks j c1);have JD:=hid su;clear m0 m1 m2 m3 su;generalize ks[j]=x at*;go_wp2_with fail
     refine(q9.out x sl cur _ (by omega) (JD.out.fresh HF.out) c2 Lm).mono ?_;rintro e1 w1 ⟨rfl,hf⟩;have aK:=hid hf;have HB1:=hid (hf.blk HB.out (fun h=>h));clear hf q0 q1 q2 q3 p0 p1 p2 p3;go_wp2
     go_roundw
     case rel=>
      refine⟨j+1,EP x cur,by go_num,rfl,c1,?_,HB1,HF.out.trans aK.out⟩;unfold Hd;have h1:=HC.out;unfold Jd at h1⊢;unfold EP;rw[nK.out];split at h1<;>split<;>split<;>omega
     case measure=>simp[intOf];omega
    ·have d2:decide ((0:Int)≤cur)=false:=by simp;omega
     go_wp2
     go_ret;refine⟨Vi _ _ ?_,HF.out⟩;clear q0 q1 q2 q3;have h1:=HC.out;have h2:=Tr.qy ks j;unfold Jd at h1;unfold EP;rw[HN.out];split at h1<;>split<;>omega
   ·have d1:decide ((j:Int)<(ks.length:Int))=false:=by simp;omega
    obtain rfl:j=ks.length:=by omega
    go_wp2
    go_ret;refine⟨Vi _ _ ?_,HF.out⟩;have h1:=HC.out;rw[List.take_length]at h1;rw[h1];unfold Jd EP;rw[HN.out];split<;>split<;>omega
theorem ai(a b:Bool)(h:a=b):Ending.returned (.bool a)=.returned (.bool b):=by rw[h]
theorem aby(n:Tr.Nd)(sl:Value)(most:Int)(w:World)(hr:aD w n.kids sl)(h0:0≤most)(h1:most≤1000000):
  Calls Tryz.prog 12 #[.agg #[.int .i64 n.kind,.string ⟨n.text.toArray⟩,.int .i64 n.ah,sl],.int .i64 most] w fun e w'=>e=.returned (.int .i64 (EP n most))∧ag w w':=abx _ n sl most w (Nat.le_refl _) hr h0 h1
theorem aes(n:Tr.Nd)(sl:Value)(most:Int)(w:World)(hr:aD w n.kids sl)(h0:0≤most)(h1:most≤1000000):
  Calls Tryz.prog 5 #[.agg #[.int .i64 n.kind,.string ⟨n.text.toArray⟩,.int .i64 n.ah,sl],.int .i64 most] w fun e w'=>e=.returned (.bool (decide ((Tr.count n:Int)≤most)))∧ag w w':=by
 have HR:=hid hr;clear hr;go_enter Tryz.func5,Tryz.ntmps5;go_wp2_with fail
 refine Calls.mono (aby n sl most _ (HR.out.fresh aF) h0 h1) ?_;rintro _ w1 ⟨rfl,kH⟩;have aK:=hid (show ag w w1 from qV kH);have bP:af w1 (w.heap.size) 24 #[.int .i64 n.kind,.string (⟨n.text.toArray⟩:ByteArray),.int .i64 n.ah,sl]:=Touch.blk kH (by first|exact bH|assumption|exact bD (by assumption)) (fun h=>h);obtain⟨dN,dO,dP,dQ,_⟩:=af.four bP;clear kH;go_wp2
 go_ret;refine⟨ai _ _ ?_,aK.out⟩;rw[Bool.eq_iff_iff,decide_eq_true_iff,decide_eq_true_iff];unfold EP;split<;>omega
theorem Wi(n m:Tr.Nd)(sl sm:Value)(w:World)(hi:∀w',ag w w'→Calls Tryz.prog 24 #[sl,sm] w' fun e w''=>e=.returned (.bool (Tr.rY n.kids m.kids))∧ag w' w''):
  Calls Tryz.prog 11 #[.agg #[.int .i64 n.kind,.string ⟨n.text.toArray⟩,.int .i64 n.ah,sl],.agg #[.int .i64 m.kind,.string ⟨m.text.toArray⟩,.int .i64 m.ah,sm]] w fun e w'=>e=.returned (.bool (Tr.Gj n m))∧ag w w':=by
 have HI:=hid hi;clear hi;have HE:=hid (Tr.YH n m);go_enter Tryz.func11,Tryz.ntmps11;cases h1:(n.kind==m.kind)with
 |false=>
  have Gy:(n.kind !=m.kind)=true:=by rw[bne,h1];rfl
  go_wp2
  go_ret;exact⟨ai _ _ (by rw[HE.out];simp_all),aF⟩
 |true=>
  have Gy:(n.kind !=m.kind)=false:=by rw[bne,h1];rfl
  cases h2:(n.text==m.text)with
  |false=>
   have Qr:((⟨n.text.toArray⟩:ByteArray)==(⟨m.text.toArray⟩:ByteArray))=false:=by rw[bS];exact h2
   have h2t:((⟨n.text.toArray⟩:ByteArray) !=(⟨m.text.toArray⟩:ByteArray))=true:=by rw[bne,Qr];rfl
   go_wp2
   go_ret;exact⟨ai _ _ (by rw[HE.out];simp_all),aF⟩
  |true=>
   have Qr:((⟨n.text.toArray⟩:ByteArray)==(⟨m.text.toArray⟩:ByteArray))=true:=by rw[bS];exact h2
   have h2t:((⟨n.text.toArray⟩:ByteArray) !=(⟨m.text.toArray⟩:ByteArray))=false:=by rw[bne,Qr];rfl
   cases h3:(n.ah==m.ah)with
   |false=>
    have D5:(n.ah !=m.ah)=true:=by rw[bne,h3];rfl
    go_wp2
    go_ret;exact⟨ai _ _ (by rw[HE.out];simp_all),aF⟩
   |true=>
    have D5:(n.ah !=m.ah)=false:=by rw[bne,h3];rfl
    go_wp2_with fail
    refine Calls.mono (HI.out _ aF) ?_;rintro _ w3 ⟨rfl,hfw3⟩;have bJ:=hid (show ag w w3 from qV hfw3);have jB:af w3 (w.heap.size) 24 #[.int .i64 n.kind,.string (⟨n.text.toArray⟩:ByteArray),.int .i64 n.ah,sl]:=Touch.blk hfw3 (by first|exact bH|assumption|exact bD (by assumption)) (fun h=>h);have uM:af w3 (w.heap.size+1) 24 #[.int .i64 m.kind,.string (⟨m.text.toArray⟩:ByteArray),.int .i64 m.ah,sm]:=Touch.blk hfw3 (by first|exact bH|assumption|exact bD (by assumption)) (fun h=>h);obtain⟨mF,mG,mH,mI,_⟩:=af.four jB;obtain⟨xy,xA,xB,xC,_⟩:=af.four uM;clear hfw3;go_wp2
    go_ret;exact⟨ai _ _ (by rw[HE.out];simp_all),(kV bJ.out)⟩
theorem Qs:∀(xs ys:List Tr.Nd) (k:Nat) (hx:k<xs.length) (hy:k<ys.length),Tr.rY (xs.take (k+1)) (ys.take (k+1))=(Tr.rY (xs.take k) (ys.take k)&&Tr.Gj xs[k] ys[k])
 |x::xs,y::ys,0,_,_=>by simp[Tr.rY]
 |x::xs,y::ys,k+1,hx,hy=>by
  simp only[List.take_succ_cons,Tr.rY,List.getElem_cons_succ];rw[Qs xs ys k (by simpa using hx) (by simpa using hy),Bool.and_assoc]
 |[],_,_,hx,_=>by simp at hx
 |_::_,[],_,_,hy=>by simp at hy
theorem YV:∀(xs ys:List Tr.Nd) (k:Nat) (hx:k<xs.length) (hy:k<ys.length),Tr.Gj xs[k] ys[k]=false→Tr.rY xs ys=false
 |x::xs,y::ys,0,_,_,h=>by simp only[List.getElem_cons_zero]at h;rw[Tr.rY,h,Bool.false_and]
 |x::xs,y::ys,k+1,hx,hy,h=>by
  simp only[List.getElem_cons_succ]at h;rw[Tr.rY,YV xs ys k (by simpa using hx) (by simpa using hy) h,Bool.and_false]
 |[],_,_,hx,_,_=>by simp at hx
 |_::_,[],_,_,hy,_=>by simp at hy
theorem YW(ks ls:List Tr.Nd)(v1 v2:Value)(w:World)(h1:aD w ks v1)(h2:aD w ls v2)
  (hi:∀x∈ks,∀(y:Tr.Nd) (sx sy:Value) (w':World),aD w' x.kids sx→aD w' y.kids sy→Calls Tryz.prog 11 #[.agg #[.int .i64 x.kind,.string ⟨x.text.toArray⟩,.int .i64 x.ah,sx],.agg #[.int .i64 y.kind,.string ⟨y.text.toArray⟩,.int .i64 y.ah,sy]] w' fun e w''=>e=.returned (.bool (Tr.Gj x y))∧ag w' w''):
  Calls Tryz.prog 24 #[v1,v2] w fun e w'=>e=.returned (.bool (Tr.rY ks ls))∧ag w w':=by
 have HI:=hid hi;clear hi;have hlen:=h1.len;unfold maxLen at hlen;obtain⟨A,cap,rfl⟩:=h1.slice;obtain⟨B,cbp,rfl⟩:=h2.slice;have HR1:=hid h1;have HR2:=hid h2;clear h1 h2;have yV:=hid (Tr.Vf ks ls)
 by_cases c0:ks.length=ls.length
 ·have b0:((ks.length:Int)==(ls.length:Int))=true:=by rw[c0];simp
  have b0':((ks.length:Int) !=(ls.length:Int))=false:=by rw[bne,b0];rfl
  have C0:=hid c0;clear c0;go_enter Tryz.func24,Tryz.ntmps24;go_wp2
  go_loopw [5] (fun i wr=>∃j:Nat,i=.int .i64 j∧j≤ks.length∧Hd (Tr.rY (ks.take j) (ls.take j)=true)∧Hd (ag w wr)) (fun i _=>ks.length-(intOf i).toNat)
  case atStart=>exact⟨0,rfl,Nat.zero_le _,by simp[Tr.rY,Hd],M _ _⟩
  case round=>
   obtain⟨j,rfl,hj,HA,HF⟩:=hrel
   by_cases c1:j<ks.length
   ·have d1:decide ((j:Int)<(ks.length:Int))=true:=by simp;omega
    have d1':(j:Int)<(ks.length:Int):=by omega
    have c1y:j<ls.length:=by rw[←C0.out];exact c1
    have d1y:(j:Int)<(ls.length:Int):=by omega
    obtain⟨g,o,sx,rfl,hg,m0,m1,m2,m3,su⟩:=HR1.out.get j c1;obtain⟨g',o',sy,rfl,hg',n0,n1,n2,n3,hrl⟩:=HR2.out.get j c1y;have HS:=hid (Qs ks ls j c1 c1y);have HN:=hid (YV ks ls j c1 c1y);have HX:=hid (HI.out ks[j] (List.getElem_mem c1) ls[j] sx sy);have a0:=HF.out.cell m0 (fun h=>h);have a1:=HF.out.cell m1 (fun h=>h);have a2:=HF.out.cell m2 (fun h=>h);have a3:=HF.out.cell m3 (fun h=>h);have b0:=HF.out.cell n0 (fun h=>h);have b1:=HF.out.cell n1 (fun h=>h);have b2:=HF.out.cell n2 (fun h=>h);have b3:=HF.out.cell n3 (fun h=>h);have JD:=hid su;have HRL:=hid hrl;clear m0 m1 m2 m3 n0 n1 n2 n3 su hrl HI HR1 HR2;generalize ks[j]=x at*;generalize ls[j]=y at*;go_wp2_with fail
    refine bK (fun W=>ag wr W) aF ?_;rintro w4 ER;have eZ:=hid ER;clear ER;obtain⟨Wj,Wl,Wm,Wn⟩:=xW eZ.out a0 a1 a2 a3;obtain⟨Wo,Wp,Wq,Ws⟩:=xW eZ.out b0 b1 b2 b3;clear a0 a1 a2 a3 b0 b1 b2 b3;have aff:=cR Wj;have afg:=cR Wl;have afh:=cR Wm;have afi:=cR Wn;have afj:=cR Wo;have afk:=cR Wp;have afl:=cR Wq;have afm:=cR Ws;have ag3:=hid (lJ (P:=Tryz.prog) w4 (fun w hw=>HX.out _ (JD.out.fresh (Touch.trans (HF.out.trans eZ.out) hw)) (HRL.out.fresh (Touch.trans (HF.out.trans eZ.out) hw))));refine wp_region_quiet_below (by kernel_rfl) (by kernel_rfl) ?_
    repeat(quiet_step (first|with_reducible exact ag3.out _ _))
    refine wpQuiet_nil ?_;rintro w5 ⟨⟨_,_⟩,afn⟩;have Qt:ag w4 w5:=by rw[afn];exact aZ (below_regrown _ _ _)
    clear afn aff afg afh afi afj afk afl afm;have eY:=hid (show ag w4 w5 from qV Qt);obtain⟨aks,akt,aku,akv⟩:=xW eY.out Wj Wl Wm Wn;obtain⟨akw,akx,aky,akz⟩:=xW eY.out Wo Wp Wq Ws;clear Wj Wl Wm Wn Wo Wp Wq Ws;clear Qt;cases h4:Tr.Gj x y with
    |false=>
     go_wp2
     go_ret;exact⟨by rw[HN.out (by assumption)];rfl,(HF.out.trans (eZ.out.trans eY.out))⟩
    |true=>
     go_wp2
     go_roundw
     case rel=>exact⟨j+1,by go_num,c1,by unfold Hd;rw[HS.out,HA.out];simpa using(by assumption),(HF.out.trans (eZ.out.trans eY.out))⟩
     case measure=>simp[intOf];omega
   ·have d1:decide ((j:Int)<(ks.length:Int))=false:=by simp;omega
    obtain rfl:j=ks.length:=by omega
    go_wp2
    go_ret;refine⟨?_,HF.out⟩;have:=HA.out;rw[List.take_length,C0.out,List.take_length]at this;rw[this];rfl
 ·have b0:((ks.length:Int)==(ls.length:Int))=false:=by rw[beq_eq_false_iff_ne];omega
  have b0':((ks.length:Int) !=(ls.length:Int))=true:=by rw[bne,b0];rfl
  have lg:=hid (yV.out c0);clear c0;go_enter Tryz.func24,Tryz.ntmps24;go_wp2
  go_ret;exact⟨by rw[lg.out];rfl,M _ _⟩
theorem YX(m:Nat):∀(n:Tr.Nd) (y:Tr.Nd) (sl sm:Value) (w:World),Tr.count n≤m→aD w n.kids sl→aD w y.kids sm→
  Calls Tryz.prog 11 #[.agg #[.int .i64 n.kind,.string ⟨n.text.toArray⟩,.int .i64 n.ah,sl],.agg #[.int .i64 y.kind,.string ⟨y.text.toArray⟩,.int .i64 y.ah,sm]] w fun e w'=>e=.returned (.bool (Tr.Gj n y))∧ag w w':=by
 induction m with
 |zero=>intro n _ _ _ _ h;have:=Tr.bX n;omega
 |succ m ih=>
  intro n y sl sm w hc h1 h2;refine Wi n y sl sm w fun w' hf=>YW n.kids y.kids sl sm w' (h1.fresh hf) (h2.fresh hf) fun x hx z sx sz w'' g1 g2=>ih x z sx sz w'' ?_ g1 g2
  have:=Tr.cB hx;have:=Tr.aN n;omega
theorem sw(l:List UInt8)(j:Nat)(h:j<l.length)(p:UInt8→Bool):(l.take (j+1)).all p=((l.take j).all p&&p l[j]):=by
 rw[List.take_add_one,List.getElem?_eq_getElem h,List.all_append];simp only[Option.toList_some,List.all_cons,List.all_nil,Bool.and_true]
theorem zT(l:List UInt8)(j:Nat)(h:j<l.length)(p:UInt8→Bool)(hn:p l[j]=false):l.all p=false:=by
 rw[List.all_eq_false];exact⟨l[j],List.getElem_mem _,by rw[hn];decide⟩
theorem uC(s:ByteArray):s.toList.isEmpty=(s.data.toList==[]):=by
 rw[ByteArray.toList_eq];cases s.data.toList<;>rfl
theorem nD(s:ByteArray)(p:UInt8→Bool)(j:Nat)(hj:j≤s.size)(hn:¬j<s.size)(h:(s.data.toList.take j).all p=true):s.data.toList.all p=true:=by
 have:s.data.toList.length=s.size:=by simp
 rwa [List.take_of_length_le (by omega)]at h
theorem Pb:∀n:Fin 256,Tr.letter (UInt8.ofNat n.1)=(!decide (bits .or .u8 (n.1:Int) 32<(97:Int))&&!decide ((122:Int)<bits .or .u8 (n.1:Int) 32)):=by decide+kernel
theorem Gz(b:UInt8):Tr.letter b=(!decide (bits .or .u8 (b.toNat:Int) 32<(97:Int))&&!decide ((122:Int)<bits .or .u8 (b.toNat:Int) 32)):=by
 have:=Pb ⟨b.toNat,b.toNat_lt⟩;simpa using this
theorem YY:∀n:Fin 256,Tr.digit (UInt8.ofNat n.1)=(!decide ((n.1:Int)<(48:Int))&&!decide ((57:Int)<(n.1:Int))):=by decide+kernel
theorem Ka(b:UInt8):Tr.digit b=(!decide ((b.toNat:Int)<(48:Int))&&!decide ((57:Int)<(b.toNat:Int))):=by
 have:=YY ⟨b.toNat,b.toNat_lt⟩;simpa using this
def nP(b:UInt8):Bool:=decide (32≤b)&&decide (b≤126)
theorem YZ:∀n:Fin 256,nP (UInt8.ofNat n.1)=(!decide ((n.1:Int)<(32:Int))&&!decide ((126:Int)<(n.1:Int))):=by decide+kernel
theorem y9(b:UInt8):nP b=(!decide ((b.toNat:Int)<(32:Int))&&!decide ((126:Int)<(b.toNat:Int))):=by
 have:=YZ ⟨b.toNat,b.toNat_lt⟩;simpa using this
theorem JE(s:ByteArray)(w:World)(hm:s.size≤9223372036854775807):
  Calls Tryz.prog 90 #[.string s] w fun e w'=>e=.returned (.bool (s.data.toList.all Tr.letter))∧w'=w:=by
 go_enter Tryz.func90,Tryz.ntmps90;go_wp2
 go_loopw [3] (fun i wr=>∃j:Nat,i=.int .i64 j∧j≤s.size∧Hd ((s.data.toList.take j).all Tr.letter=true)∧wr=w) (fun i _=>s.size-(intOf i).toNat)
 case atStart=>exact⟨0,rfl,Nat.zero_le _,by simp[Hd],rfl⟩
 case round=>
  obtain⟨j,rfl,hj,HA,rfl⟩:=hrel
  by_cases c1:j<s.size
  ·have d1:decide ((j:Int)<(s.size:Int))=true:=by simp;omega
   have d1':(j:Int)<(s.size:Int):=by omega
   obtain⟨b,hb⟩:∃b,s[j]'c1=b:=⟨_,rfl⟩;have hst:=sw s.data.toList j (by simpa using c1) Tr.letter;have hno:=zT s.data.toList j (by simpa using c1) Tr.letter;have hbl:s.data.toList[j]'(by simpa using c1)=b:=hb;rw[hbl]at hst hno;have HS:=hid hst;have HN:=hid hno;clear hst hno hbl;cases h1:decide ((bits .or .u8 (b.toNat:Int) (32:Int))<(97:Int))with
   |false=>
    cases h2:decide ((122:Int)<(bits .or .u8 (b.toNat:Int) (32:Int)))with
    |false=>
     go_wp2
     go_roundw
     case rel=>exact⟨j+1,by go_num,c1,by unfold Hd;rw[HS.out,HA.out];rw[Gz];simp_all,trivial⟩
     case measure=>simp[intOf];omega
    |true=>
     go_wp2
     go_ret;exact⟨by rw[HN.out (by rw[Gz];simp_all)];rfl,rfl⟩
   |true=>
    go_wp2
    go_ret;exact⟨by rw[HN.out (by rw[Gz];simp_all)];rfl,rfl⟩
  ·have d1:decide ((j:Int)<(s.size:Int))=false:=by simp;omega
   go_wp2
   go_ret;exact⟨by rw[nD s Tr.letter j hj c1 HA.out];rfl,rfl⟩
theorem Wt(s:ByteArray)(w:World)(hm:s.size≤9223372036854775807):
  Calls Tryz.prog 94 #[.string s] w fun e w'=>e=.returned (.bool (s.data.toList.all Tr.digit&&!(s.data.toList==[])))∧w'=w:=by
 go_enter Tryz.func94,Tryz.ntmps94;go_wp2
 go_loopw [3] (fun i wr=>∃j:Nat,i=.int .i64 j∧j≤s.size∧Hd ((s.data.toList.take j).all Tr.digit=true)∧wr=w) (fun i _=>s.size-(intOf i).toNat)
 case atStart=>exact⟨0,rfl,Nat.zero_le _,by simp[Hd],rfl⟩
 case round=>
  obtain⟨j,rfl,hj,HA,rfl⟩:=hrel
  by_cases c1:j<s.size
  ·have d1:decide ((j:Int)<(s.size:Int))=true:=by simp;omega
   have d1':(j:Int)<(s.size:Int):=by omega
   obtain⟨b,hb⟩:∃b,s[j]'c1=b:=⟨_,rfl⟩;have hst:=sw s.data.toList j (by simpa using c1) Tr.digit;have hno:=zT s.data.toList j (by simpa using c1) Tr.digit;have hbl:s.data.toList[j]'(by simpa using c1)=b:=hb;rw[hbl]at hst hno;have HS:=hid hst;have HN:=hid hno;clear hst hno hbl;cases h3:decide ((b.toNat:Int)<(48:Int))with
   |false=>
    cases h4:decide ((57:Int)<(b.toNat:Int))with
    |false=>
     have h4n:decide (57<b.toNat)=false:=by have hx:=h4;simp only[decide_eq_false_iff_not]at hx⊢;omega
     go_wp2
     go_roundw
     case rel=>exact⟨j+1,by go_num,c1,by unfold Hd;rw[HS.out,HA.out];rw[Ka];simp_all,trivial⟩
     case measure=>simp[intOf];omega
    |true=>
     have h4n:decide (57<b.toNat)=true:=by have hx:=h4;simp only[decide_eq_true_eq]at hx⊢;omega
     go_wp2
     go_ret;exact⟨by rw[HN.out (by rw[Ka];simp_all)];rfl,rfl⟩
   |true=>
    go_wp2
    go_ret;exact⟨by rw[HN.out (by rw[Ka];simp_all)];rfl,rfl⟩
  ·have d1:decide ((j:Int)<(s.size:Int))=false:=by simp;omega
   cases h5:(s.data.toList==([]:List UInt8))with
   |false=>
    have h5s:(s==(⟨#[]⟩:ByteArray))=false:=by rw[bS];exact h5
    have h5t:(s !=(⟨#[]⟩:ByteArray))=true:=by rw[bne,h5s];rfl
    have h5e:(ByteArray.toList s).isEmpty=false:=by rw[uC];exact h5
    go_wp2
    go_ret;exact⟨ai _ _ (Eq.symm (by rw[nD s Tr.digit j hj c1 HA.out,Bool.true_and];simp only[*];rfl)),rfl⟩
   |true=>
    have h5s:(s==(⟨#[]⟩:ByteArray))=true:=by rw[bS];exact h5
    have h5t:(s !=(⟨#[]⟩:ByteArray))=false:=by rw[bne,h5s];rfl
    have h5e:(ByteArray.toList s).isEmpty=true:=by rw[uC];exact h5
    go_wp2
    go_ret;exact⟨ai _ _ (Eq.symm (by rw[nD s Tr.digit j hj c1 HA.out,Bool.true_and];simp only[*];rfl)),rfl⟩
theorem Y0(s:ByteArray)(w:World)(hm:s.size≤9223372036854775807):
  Calls Tryz.prog 51 #[.string s] w fun e w'=>e=.returned (.bool (s.data.toList.all nP&&decide ((s.size:Int)≤(200:Int))))∧w'=w:=by
 go_enter Tryz.func51,Tryz.ntmps51;go_wp2
 go_loopw [3] (fun i wr=>∃j:Nat,i=.int .i64 j∧j≤s.size∧Hd ((s.data.toList.take j).all nP=true)∧wr=w) (fun i _=>s.size-(intOf i).toNat)
 case atStart=>exact⟨0,rfl,Nat.zero_le _,by simp[Hd],rfl⟩
 case round=>
  obtain⟨j,rfl,hj,HA,rfl⟩:=hrel
  by_cases c1:j<s.size
  ·have d1:decide ((j:Int)<(s.size:Int))=true:=by simp;omega
   have d1':(j:Int)<(s.size:Int):=by omega
   obtain⟨b,hb⟩:∃b,s[j]'c1=b:=⟨_,rfl⟩;have hst:=sw s.data.toList j (by simpa using c1) nP;have hno:=zT s.data.toList j (by simpa using c1) nP;have hbl:s.data.toList[j]'(by simpa using c1)=b:=hb;rw[hbl]at hst hno;have HS:=hid hst;have HN:=hid hno;clear hst hno hbl;cases h6:decide ((b.toNat:Int)<(32:Int))with
   |false=>
    cases h7:decide ((126:Int)<(b.toNat:Int))with
    |false=>
     have Qu:decide (126<b.toNat)=false:=by have hx:=h7;simp only[decide_eq_false_iff_not]at hx⊢;omega
     go_wp2
     go_roundw
     case rel=>exact⟨j+1,by go_num,c1,by unfold Hd;rw[HS.out,HA.out];rw[y9];simp_all,trivial⟩
     case measure=>simp[intOf];omega
    |true=>
     have Qu:decide (126<b.toNat)=true:=by have hx:=h7;simp only[decide_eq_true_eq]at hx⊢;omega
     go_wp2
     go_ret;exact⟨by rw[HN.out (by rw[y9];simp_all)];rfl,rfl⟩
   |true=>
    go_wp2
    go_ret;exact⟨by rw[HN.out (by rw[y9];simp_all)];rfl,rfl⟩
  ·have d1:decide ((j:Int)<(s.size:Int))=false:=by simp;omega
   cases h8:decide ((s.size:Int)≤(200:Int))with
   |false=>
    go_wp2
    go_ret;exact⟨ai _ _ (Eq.symm (by rw[nD s nP j hj c1 HA.out,Bool.true_and];assumption)),rfl⟩
   |true=>
    go_wp2
    go_ret;exact⟨ai _ _ (Eq.symm (by rw[nD s nP j hj c1 HA.out,Bool.true_and];assumption)),rfl⟩
theorem Lp(s:ByteArray)(w:World):
  Calls Tryz.prog 52 #[.string s] w fun e w'=>e=.returned (.bool (Tr.eu.contains s.data.toList))∧w'=w:=by
 go_enter Tryz.func52,Tryz.ntmps52;cases h9:(s.data.toList==([104,97,116]:List UInt8))with
 |false=>
  have h9s:(s==(⟨#[104,97,116]⟩:ByteArray))=false:=by rw[bS];exact h9
  have h9t:(s !=(⟨#[104,97,116]⟩:ByteArray))=true:=by rw[bne,h9s];rfl
  have h9l:(ByteArray.toList s==[104,97,116])=false:=by rw[ByteArray.toList_eq];exact h9
  cases h10:(s.data.toList==([98,97,114]:List UInt8))with
  |false=>
   have abz:(s==(⟨#[98,97,114]⟩:ByteArray))=false:=by rw[bS];exact h10
   have ahJ:(s !=(⟨#[98,97,114]⟩:ByteArray))=true:=by rw[bne,abz];rfl
   have ahK:(ByteArray.toList s==[98,97,114])=false:=by rw[ByteArray.toList_eq];exact h10
   cases h11:(s.data.toList==([118,101,99]:List UInt8))with
   |false=>
    have abA:(s==(⟨#[118,101,99]⟩:ByteArray))=false:=by rw[bS];exact h11
    have ahL:(s !=(⟨#[118,101,99]⟩:ByteArray))=true:=by rw[bne,abA];rfl
    have ahM:(ByteArray.toList s==[118,101,99])=false:=by rw[ByteArray.toList_eq];exact h11
    cases h12:(s.data.toList==([100,111,116]:List UInt8))with
    |false=>
     have abB:(s==(⟨#[100,111,116]⟩:ByteArray))=false:=by rw[bS];exact h12
     have ahN:(s !=(⟨#[100,111,116]⟩:ByteArray))=true:=by rw[bne,abB];rfl
     have ahO:(ByteArray.toList s==[100,111,116])=false:=by rw[ByteArray.toList_eq];exact h12
     cases JF:(s.data.toList==([116,105,108,100,101]:List UInt8))with
     |false=>
      have abC:(s==(⟨#[116,105,108,100,101]⟩:ByteArray))=false:=by rw[bS];exact JF
      have ahP:(s !=(⟨#[116,105,108,100,101]⟩:ByteArray))=true:=by rw[bne,abC];rfl
      have ahQ:(ByteArray.toList s==[116,105,108,100,101])=false:=by rw[ByteArray.toList_eq];exact JF
      cases GA:(s.data.toList==([99,104,101,99,107]:List UInt8))with
      |false=>
       have abD:(s==(⟨#[99,104,101,99,107]⟩:ByteArray))=false:=by rw[bS];exact GA
       have ahR:(s !=(⟨#[99,104,101,99,107]⟩:ByteArray))=true:=by rw[bne,abD];rfl
       have ahS:(ByteArray.toList s==[99,104,101,99,107])=false:=by rw[ByteArray.toList_eq];exact GA
       go_wp2
       go_ret;exact⟨ai _ _ (by simp only[Tr.eu,List.contains_cons,List.contains_nil, *]<;>rfl),rfl⟩
      |true=>
       have abD:(s==(⟨#[99,104,101,99,107]⟩:ByteArray))=true:=by rw[bS];exact GA
       have ahR:(s !=(⟨#[99,104,101,99,107]⟩:ByteArray))=false:=by rw[bne,abD];rfl
       have ahS:(ByteArray.toList s==[99,104,101,99,107])=true:=by rw[ByteArray.toList_eq];exact GA
       go_wp2
       go_ret;exact⟨ai _ _ (by simp only[Tr.eu,List.contains_cons,List.contains_nil, *]<;>rfl),rfl⟩
     |true=>
      have abC:(s==(⟨#[116,105,108,100,101]⟩:ByteArray))=true:=by rw[bS];exact JF
      have ahP:(s !=(⟨#[116,105,108,100,101]⟩:ByteArray))=false:=by rw[bne,abC];rfl
      have ahQ:(ByteArray.toList s==[116,105,108,100,101])=true:=by rw[ByteArray.toList_eq];exact JF
      go_wp2
      go_ret;exact⟨ai _ _ (by simp only[Tr.eu,List.contains_cons,List.contains_nil, *]<;>rfl),rfl⟩
    |true=>
     have abB:(s==(⟨#[100,111,116]⟩:ByteArray))=true:=by rw[bS];exact h12
     have ahN:(s !=(⟨#[100,111,116]⟩:ByteArray))=false:=by rw[bne,abB];rfl
     have ahO:(ByteArray.toList s==[100,111,116])=true:=by rw[ByteArray.toList_eq];exact h12
     go_wp2
     go_ret;exact⟨ai _ _ (by simp only[Tr.eu,List.contains_cons,List.contains_nil, *]<;>rfl),rfl⟩
   |true=>
    have abA:(s==(⟨#[118,101,99]⟩:ByteArray))=true:=by rw[bS];exact h11
    have ahL:(s !=(⟨#[118,101,99]⟩:ByteArray))=false:=by rw[bne,abA];rfl
    have ahM:(ByteArray.toList s==[118,101,99])=true:=by rw[ByteArray.toList_eq];exact h11
    go_wp2
    go_ret;exact⟨ai _ _ (by simp only[Tr.eu,List.contains_cons,List.contains_nil, *]<;>rfl),rfl⟩
  |true=>
   have abz:(s==(⟨#[98,97,114]⟩:ByteArray))=true:=by rw[bS];exact h10
   have ahJ:(s !=(⟨#[98,97,114]⟩:ByteArray))=false:=by rw[bne,abz];rfl
   have ahK:(ByteArray.toList s==[98,97,114])=true:=by rw[ByteArray.toList_eq];exact h10
   go_wp2
   go_ret;exact⟨ai _ _ (by simp only[Tr.eu,List.contains_cons,List.contains_nil, *]<;>rfl),rfl⟩
 |true=>
  have h9s:(s==(⟨#[104,97,116]⟩:ByteArray))=true:=by rw[bS];exact h9
  have h9t:(s !=(⟨#[104,97,116]⟩:ByteArray))=false:=by rw[bne,h9s];rfl
  have h9l:(ByteArray.toList s==[104,97,116])=true:=by rw[ByteArray.toList_eq];exact h9
  go_wp2
  go_ret;exact⟨ai _ _ (by simp only[Tr.eu,List.contains_cons,List.contains_nil, *]<;>rfl),rfl⟩
theorem TZ(s:ByteArray)(w:World):
  Calls Tryz.prog 92 #[.string s] w fun e w'=>e=.returned (.bool (Tr.keywords.contains s.data.toList))∧w'=w:=by
 go_enter Tryz.func92,Tryz.ntmps92;cases GD:(s.data.toList==([102,114,97,99]:List UInt8))with
 |false=>
  have abE:(s==(⟨#[102,114,97,99]⟩:ByteArray))=false:=by rw[bS];exact GD
  have ahT:(s !=(⟨#[102,114,97,99]⟩:ByteArray))=true:=by rw[bne,abE];rfl
  have ahU:(ByteArray.toList s==[102,114,97,99])=false:=by rw[ByteArray.toList_eq];exact GD
  cases h16:(s.data.toList==([114,111,111,116]:List UInt8))with
  |false=>
   have abF:(s==(⟨#[114,111,111,116]⟩:ByteArray))=false:=by rw[bS];exact h16
   have ahV:(s !=(⟨#[114,111,111,116]⟩:ByteArray))=true:=by rw[bne,abF];rfl
   have ahW:(ByteArray.toList s==[114,111,111,116])=false:=by rw[ByteArray.toList_eq];exact h16
   cases GG:(s.data.toList==([109,97,116,114,105,120]:List UInt8))with
   |false=>
    have abG:(s==(⟨#[109,97,116,114,105,120]⟩:ByteArray))=false:=by rw[bS];exact GG
    have ahX:(s !=(⟨#[109,97,116,114,105,120]⟩:ByteArray))=true:=by rw[bne,abG];rfl
    have ahY:(ByteArray.toList s==[109,97,116,114,105,120])=false:=by rw[ByteArray.toList_eq];exact GG
    cases h18:(s.data.toList==([102,101,110,99,101]:List UInt8))with
    |false=>
     have abH:(s==(⟨#[102,101,110,99,101]⟩:ByteArray))=false:=by rw[bS];exact h18
     have ahZ:(s !=(⟨#[102,101,110,99,101]⟩:ByteArray))=true:=by rw[bne,abH];rfl
     have ah0:(ByteArray.toList s==[102,101,110,99,101])=false:=by rw[ByteArray.toList_eq];exact h18
     go_wp2
     go_ret;exact⟨ai _ _ (by simp only[Tr.keywords,List.contains_cons,List.contains_nil, *]<;>rfl),rfl⟩
    |true=>
     have abH:(s==(⟨#[102,101,110,99,101]⟩:ByteArray))=true:=by rw[bS];exact h18
     have ahZ:(s !=(⟨#[102,101,110,99,101]⟩:ByteArray))=false:=by rw[bne,abH];rfl
     have ah0:(ByteArray.toList s==[102,101,110,99,101])=true:=by rw[ByteArray.toList_eq];exact h18
     go_wp2
     go_ret;exact⟨ai _ _ (by simp only[Tr.keywords,List.contains_cons,List.contains_nil, *]<;>rfl),rfl⟩
   |true=>
    have abG:(s==(⟨#[109,97,116,114,105,120]⟩:ByteArray))=true:=by rw[bS];exact GG
    have ahX:(s !=(⟨#[109,97,116,114,105,120]⟩:ByteArray))=false:=by rw[bne,abG];rfl
    have ahY:(ByteArray.toList s==[109,97,116,114,105,120])=true:=by rw[ByteArray.toList_eq];exact GG
    go_wp2
    go_ret;exact⟨ai _ _ (by simp only[Tr.keywords,List.contains_cons,List.contains_nil, *]<;>rfl),rfl⟩
  |true=>
   have abF:(s==(⟨#[114,111,111,116]⟩:ByteArray))=true:=by rw[bS];exact h16
   have ahV:(s !=(⟨#[114,111,111,116]⟩:ByteArray))=false:=by rw[bne,abF];rfl
   have ahW:(ByteArray.toList s==[114,111,111,116])=true:=by rw[ByteArray.toList_eq];exact h16
   go_wp2
   go_ret;exact⟨ai _ _ (by simp only[Tr.keywords,List.contains_cons,List.contains_nil, *]<;>rfl),rfl⟩
 |true=>
  have abE:(s==(⟨#[102,114,97,99]⟩:ByteArray))=true:=by rw[bS];exact GD
  have ahT:(s !=(⟨#[102,114,97,99]⟩:ByteArray))=false:=by rw[bne,abE];rfl
  have ahU:(ByteArray.toList s==[102,114,97,99])=true:=by rw[ByteArray.toList_eq];exact GD
  go_wp2
  go_ret;exact⟨ai _ _ (by simp only[Tr.keywords,List.contains_cons,List.contains_nil, *]<;>rfl),rfl⟩
theorem uW(s:ByteArray)(w:World):
  Calls Tryz.prog 48 #[.string s] w fun e w'=>e=.returned (.bool (s.data.toList.isEmpty))∧w'=w:=by
 go_enter Tryz.func48,Tryz.ntmps48;cases h19:(s.data.toList==([]:List UInt8))with
 |false=>
  have abI:(s==(⟨#[]⟩:ByteArray))=false:=by rw[bS];exact h19
  have ah1:(s !=(⟨#[]⟩:ByteArray))=true:=by rw[bne,abI];rfl
  have ah2:(ByteArray.toList s).isEmpty=false:=by rw[uC];exact h19
  go_wp2
  go_ret;exact⟨ai _ _ (by cases hs:s.data.toList<;>simp_all),rfl⟩
 |true=>
  have abI:(s==(⟨#[]⟩:ByteArray))=true:=by rw[bS];exact h19
  have ah1:(s !=(⟨#[]⟩:ByteArray))=false:=by rw[bne,abI];rfl
  have ah2:(ByteArray.toList s).isEmpty=true:=by rw[uC];exact h19
  go_wp2
  go_ret;exact⟨ai _ _ (by cases hs:s.data.toList<;>simp_all),rfl⟩
end
end Go.Proofs.YtcgbccfpcgaikaaGreatDoor
