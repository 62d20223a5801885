/- Part 12 of 48 of a proof. No condition. -/
import Derived.Test.YtnbeemkfmlfgfaaGreatDoorTm11
import Derived.Test.YtnbeemkfmlfgfaaGreatDoorTm3
set_option maxRecDepth 100000
set_option maxHeartbeats 1000000
namespace Go.Proofs.YtnbeemkfmlfgfaaGreatDoor
section
open Go.ChangeShapes Go.WideShapes Go.ChangeAt Go.RowKit
open U (E aA)
theorem Co:(Tryz.prog.info? 45).map (fun i=>(i.zero,i.size,i.bytes))=some (some (.agg Z),4,80):=by kernel_rfl
theorem Y7:(Tryz.prog.info? 79).map (fun i=>(i.zero,i.size,i.bytes))=some (some (.agg #[.string ⟨#[]⟩,.string ⟨#[]⟩]),2,32):=by kernel_rfl
def dW(W:World)(ats:aA)(v:Value):Prop:=∃A cap,v=.slice A ats.length cap∧(ats.length≤maxLen∧ats.length≤cap)∧(∀x∈ats,x.1.length≤maxLen∧x.2.length≤maxLen)∧
 (ats=[]∨∃g o,A=some ⟨g,o,none⟩∧g<W.heap.size∧∀i (hi:i<ats.length),W.cell? ⟨g,o+i*2,none⟩=some (.string ⟨ats[i].1.toArray⟩)∧W.cell? ⟨g,o+i*2+1,none⟩=some (.string ⟨ats[i].2.toArray⟩))
theorem dW.nil(W:World)(A:Option Addr)(cap:Nat):dW W [] (.slice A 0 cap):=⟨A,cap,rfl,⟨Nat.zero_le _,Nat.zero_le _⟩,(fun _ h=>by cases h),.inl rfl⟩
theorem dW.fresh{W W':World}{ats:aA}{v:Value}(h:dW W ats v)(hf:ag W W'):dW W' ats v:=by
 obtain⟨A,cap,h1,h2,h3,h4⟩:=h;refine⟨A,cap,h1,h2,h3,h4.imp id ?_⟩;rintro⟨g,o,hA,hg,hc⟩;exact⟨g,o,hA,Nat.lt_of_lt_of_le hg hf.size,fun i hi=>⟨hf.cell (hc i hi).1 (fun h=>h),hf.cell (hc i hi).2 (fun h=>h)⟩⟩
theorem dW.slice{W:World}{ats:aA}{v:Value}(h:dW W ats v):∃A cap,v=.slice A ats.length cap:=by
 obtain⟨A,cap,h1,_⟩:=h;exact⟨A,cap,h1⟩
theorem dW.get{W:World}{ats:aA}{A:Option Addr}{len cap:Nat}(h:dW W ats (.slice A len cap))(i:Nat)(hi:i<ats.length):
  ∃g o,A=some ⟨g,o,none⟩∧g<W.heap.size∧W.cell? ⟨g,o+i*2,none⟩=some (.string ⟨ats[i].1.toArray⟩)∧W.cell? ⟨g,o+i*2+1,none⟩=some (.string ⟨ats[i].2.toArray⟩)∧ats[i].1.length≤maxLen∧ats[i].2.length≤maxLen:=by
 obtain⟨A',cap',h1,h2,h3,h4⟩:=h;cases h1
 rcases h4 with h4|⟨g,o,hA,hg,hc⟩
 ·rw[h4]at hi;simp at hi
 ·exact⟨g,o,hA,hg,(hc i hi).1,(hc i hi).2,h3 _ (List.getElem_mem hi)⟩
inductive dL(W:World):List E→Value→Prop
 |nil (A:Option Addr) (cap:Nat):dL W [] (.slice A 0 cap)
 |row (g o cap:Nat) (es:List E) (al sl:Nat→Value) (hg:g<W.heap.size) (hl:es.length≤maxLen) (ht:∀i (hi:i<es.length),es[i].name.length≤maxLen∧es[i].text.length≤maxLen)
   (h0:∀i (hi:i<es.length),W.cell? ⟨g,o+i*4,none⟩=some (.string ⟨es[i].name.toArray⟩))
   (h1:∀i,i<es.length→W.cell? ⟨g,o+i*4+1,none⟩=some (al i))
   (h2:∀i,i<es.length→W.cell? ⟨g,o+i*4+2,none⟩=some (sl i))
   (h3:∀i (hi:i<es.length),W.cell? ⟨g,o+i*4+3,none⟩=some (.string ⟨es[i].text.toArray⟩))
   (ha:∀i (hi:i<es.length),dW W es[i].attrs (al i)) (hk:∀i (hi:i<es.length),dL W es[i].kids (sl i)):dL W es (.slice (some ⟨g,o,none⟩) es.length cap)
theorem dL.fresh{W W':World}{es:List E}{v:Value}(h:dL W es v)(hf:ag W W'):dL W' es v:=by
 induction h with
 |nil A cap=>exact .nil A cap
 |row g o cap es al sl hg hl ht h0 h1 h2 h3 ha hk ih=>
  exact .row g o cap es al sl (Nat.lt_of_lt_of_le hg hf.size) hl ht (fun i hi=>hf.cell (h0 i hi) (fun h=>h)) (fun i hi=>hf.cell (h1 i hi) (fun h=>h)) (fun i hi=>hf.cell (h2 i hi) (fun h=>h)) (fun i hi=>hf.cell (h3 i hi) (fun h=>h)) (fun i hi=>(ha i hi).fresh hf) ih
theorem dL.slice{W:World}{es:List E}{v:Value}(h:dL W es v):∃A cap,v=.slice A es.length cap:=by
 cases h with
 |nil A cap=>exact⟨A,cap,rfl⟩
 |row g o cap=>exact⟨_,cap,rfl⟩
theorem dL.len{W:World}{es:List E}{v:Value}(h:dL W es v):es.length≤maxLen:=by
 cases h with
 |nil A cap=>exact Nat.zero_le _
 |row g o cap _ al sl hg hl=>exact hl
def bN(W:World)(e:E)(va vk:Value):Prop:=dW W e.attrs va∧dL W e.kids vk∧e.name.length≤maxLen∧e.text.length≤maxLen
abbrev ev(e:E)(va vk:Value):Value:=.agg #[.string ⟨e.name.toArray⟩,va,vk,.string ⟨e.text.toArray⟩]
theorem bN.fresh{W W':World}{e:E}{va vk:Value}(h:bN W e va vk)(hf:ag W W'):bN W' e va vk:=⟨h.1.fresh hf,h.2.1.fresh hf,h.2.2⟩
theorem dL.get{W:World}{es:List E}{A:Option Addr}{len cap:Nat}(h:dL W es (.slice A len cap))(i:Nat)(hi:i<es.length):
  ∃g o va vk,A=some ⟨g,o,none⟩∧g<W.heap.size∧W.cell? ⟨g,o+i*4,none⟩=some (.string ⟨es[i].name.toArray⟩)∧W.cell? ⟨g,o+i*4+1,none⟩=some va∧W.cell? ⟨g,o+i*4+2,none⟩=some vk∧
   W.cell? ⟨g,o+i*4+3,none⟩=some (.string ⟨es[i].text.toArray⟩)∧bN W es[i] va vk:=by
 generalize hv:Value.slice A len cap=v at h;cases h with
 |nil A cap=>simp at hi
 |row g o cap _ al sl hg hl ht h0 h1 h2 h3 ha hk=>
  cases hv;exact⟨g,o,al i,sl i,rfl,hg,h0 i hi,h1 i hi,h2 i hi,h3 i hi,ha i hi,hk i hi,ht i hi⟩
section
variable {H:Type} {enc:TypeId×Value→H}
end
end
section
open Go.RowKit
open U (E aA)
def aZ(S:Nat→Prop)(w:World)(P:World→Prop):Prop:=∀W',Touch S w W'→P W'
theorem aZ.now{S:Nat→Prop}{w:World}{P:World→Prop}(h:aZ S w P):P w:=h w (M _ _)
theorem Touch.join{S S1 S2:Nat→Prop}{a b c:World}(h:Touch S1 a b)(k:Touch S2 b c)(h1:∀i,i<a.heap.size→S1 i→S i)(h2:∀i,i<a.heap.size→S2 i→S i):Touch S a c:=
 ⟨k.os.trans h.os,k.tape.trans h.tape,k.output.trans h.output,Nat.le_trans h.size k.size,fun i hi hn=>
  (k.block i (Nat.lt_of_lt_of_le hi h.size) (fun hs=>hn (h2 i hi hs))).trans (h.block i hi (fun hs=>hn (h1 i hi hs)))⟩
theorem aZ.step{S S1 S2:Nat→Prop}{w w1:World}{P:World→Prop}(h:aZ S w P)(ht:Touch S1 w w1)(h1:∀i,i<w.heap.size→S1 i→S i)(h2:∀i,i<w.heap.size→S2 i→S i):aZ S2 w1 P:=
 fun W' hW=>h W' (ht.join hW h1 h2)
theorem aZ.fresh{S:Nat→Prop}{w w1:World}{P:World→Prop}(h:aZ S w P)(ht:ag w w1):aZ S w1 P:=h.step ht (fun _ _ h=>h.elim) (fun _ _ h=>h)
theorem aZ.mono{S S':Nat→Prop}{w:World}{P:World→Prop}(h:aZ S w P)(hS:∀i,i<w.heap.size→S' i→S i):aZ S' w P:=h.step (M (fun _=>False) w) (fun _ _ h=>h.elim) hS
theorem aZ.imp{S:Nat→Prop}{w:World}{P Q:World→Prop}(h:aZ S w P)(hPQ:∀W,P W→Q W):aZ S w Q:=fun W hW=>hPQ W (h W hW)
theorem aZ.and{S:Nat→Prop}{w:World}{P Q:World→Prop}(h:aZ S w P)(h':aZ S w Q):aZ S w fun W=>P W∧Q W:=fun W hW=>⟨h W hW,h' W hW⟩
def Made(w w':World)(P:World→Prop):Prop:=ag w w'∧aZ (fun k=>k<w.heap.size) w' P
def kW(W:World):List E→List Value→Prop
 |[],cs=>cs=[]
 |e::es,cs=>∃va vk ds,cs=.string ⟨e.name.toArray⟩::va::vk::.string ⟨e.text.toArray⟩::ds∧bN W e va vk∧kW W es ds
theorem kW.length{W:World}:∀{es:List E} {cs:List Value},kW W es cs→cs.length=es.length*4
 |[],cs,h=>by rw[show cs=[]from h];rfl
 |e::es,cs,⟨va,vk,ds,h,_,hd⟩=>by
  have:=kW.length hd;rw[h];simp only[List.length_cons];omega
theorem kW.append{W:World}:∀{es fs:List E} {cs ds:List Value},kW W es cs→kW W fs ds→kW W (es++fs) (cs++ds)
 |[],_,cs,_,h,h'=>by rw[show cs=[]from h];exact h'
 |_::_,_,_,_,⟨va,vk,cs,h,hr,hd⟩,h'=>⟨va,vk,cs++_,by rw[h];rfl,hr,hd.append h'⟩
theorem kW.one{W:World}{e:E}{va vk:Value}(h:bN W e va vk):kW W [e] [.string ⟨e.name.toArray⟩,va,vk,.string ⟨e.text.toArray⟩]:=⟨va,vk,[],rfl,h,rfl⟩
theorem kW.get{W:World}:∀{es:List E} {cs:List Value},kW W es cs→∀i (hi:i<es.length),∃va vk,cs[i*4]?=some (.string ⟨es[i].name.toArray⟩)∧cs[i*4+1]?=some va∧cs[i*4+2]?=some vk∧cs[i*4+3]?=some (.string ⟨es[i].text.toArray⟩)∧bN W es[i] va vk
 |[],_,_,i,hi=>by simp at hi
 |e::es,cs,⟨va,vk,ds,h,hr,hd⟩,i,hi=>by
  subst h;cases i with
  |zero=>exact⟨va,vk,rfl,rfl,rfl,rfl,hr⟩
  |succ i=>
   obtain⟨a,k,g0,g1,g2,g3,g4⟩:=hd.get i (by simpa using hi);refine⟨a,k,?_,?_,?_,?_,g4⟩
   ·rw[show(i+1)*4=i*4+4 by omega];exact g0
   ·rw[show(i+1)*4+1=i*4+1+4 by omega];exact g1
   ·rw[show(i+1)*4+2=i*4+2+4 by omega];exact g2
   ·rw[show(i+1)*4+3=i*4+3+4 by omega];exact g3
theorem kW.rep{W:World}{es:List E}{cs:List Value}{g cap:Nat}(h:kW W es cs)(hg:g<W.heap.size)(hl:es.length≤maxLen)(hc:∀j u,cs[j]?=some u→W.cell? ⟨g,j,none⟩=some u):dL W es (.slice (some ⟨g,0,none⟩) es.length cap):=by
 refine dL.row g 0 cap es (fun i=>(cs[i*4+1]?).getD (.bool false)) (fun i=>(cs[i*4+2]?).getD (.bool false)) hg hl ?_ ?_ ?_ ?_ ?_ ?_ ?_
 all_goals (intro i hi;obtain⟨va,vk,g0,g1,g2,g3,g4⟩:=h.get i hi)
 ·exact g4.2.2
 ·rw[Nat.zero_add];exact hc _ _ g0
 ·rw[Nat.zero_add,g1];exact hc _ _ g1
 ·rw[Nat.zero_add,g2];exact hc _ _ g2
 ·rw[Nat.zero_add];exact hc _ _ g3
 ·rw[g1];exact g4.1
 ·rw[g2];exact g4.2.1
theorem kW.own{W:World}{es:List E}{cs:List Value}{B t:Nat}{v:Value}(h:kW W es cs)(ho:W.ownsRow B t 4 v es.length cs):dL W es v:=by
 rcases ho.2 with⟨rfl,h0⟩|⟨g,cap,cur,rfl,hB,hb,h1,h2,_⟩
 ·rw[List.length_eq_zero_iff.1 h0]
  exact .nil _ _
 ·exact h.rep (ho.lt g rfl).2 (Nat.le_trans h1 h2) fun j u hu=>by
   have:=ho.cells (g:=g) rfl j u hu;rw[Addr.add_mid,Nat.zero_add]at this;exact this
theorem rT{W:World}{B e size n:Nat}{v:Value}{xs:List Value}(h:W.ownsRow B e size v n xs):∃A c,v=.slice A n c:=by
 rcases h.2 with⟨h1,h2⟩|⟨g,cap,cur,h1,_⟩
 ·exact⟨none,0,by rw[h1,h2]⟩
 ·exact⟨_,_,h1⟩
def dO(B:Nat)(w:World)(es:List E)(v:Value):Prop:=B≤w.heap.size∧∃cs,w.ownsRow B 45 4 v es.length cs∧aZ (fun k=>v.ownBlock=some k∨k<B) w fun W=>kW W es cs
theorem dO.nil{B:Nat}{w:World}(hB:B≤w.heap.size):dO B w [] (.slice none 0 0):=⟨hB,[],World.ownsRow_nil _ _ _ _,fun _ _=>rfl⟩
theorem dO.jE{B:Nat}{w:World}{es:List E}{v:Value}(h:dO B w es v):∀k,v.ownBlock=some k→B≤k∧k<w.heap.size:=fun k hk=>by
 obtain⟨_,cs,h1,_⟩:=h;exact h1.lt k hk
theorem dO.slice{B:Nat}{w:World}{es:List E}{v:Value}(h:dO B w es v):∃A cap,v=.slice A es.length cap:=by
 obtain⟨_,cs,h1,_⟩:=h;exact rT h1
theorem dO.mv{B:Nat}{w w1:World}{es:List E}{v:Value}{S:Nat→Prop}(h:dO B w es v)(ht:Touch S w w1)(hS:∀k,S k→k<w.heap.size→k<B):dO B w1 es v:=by
 obtain⟨hB,cs,h1,h2⟩:=h;refine⟨Nat.le_trans hB ht.size,cs,fI h1 ht fun k hk hs=>?_,h2.step ht (fun i hi hs=>.inr (hS i hs hi)) (fun _ _ h=>h)⟩;have h3:=h1.lt k hk;have:=hS k hs h3.2;omega
theorem dO.fresh{B:Nat}{w w1:World}{es:List E}{v:Value}(h:dO B w es v)(ht:ag w w1):dO B w1 es v:=h.mv ht fun _ h=>h.elim
theorem dO.rep{B:Nat}{w:World}{es:List E}{v:Value}(h:dO B w es v):dL w es v:=by
 obtain⟨_,cs,h1,h2⟩:=h;exact h2.now.own h1
theorem dO.done{B:Nat}{w:World}{es:List E}{v:Value}(h:dO B w es v):aZ (fun k=>k<B) w fun W=>dL W es v:=fun _ hW=>(h.mv hW fun _ h _=>h).rep
theorem dL.oneCell{W:World}{es:List E}{v:Value}(h:dL W es v):v.oneCell'=true:=by
 obtain⟨A,cap,rfl⟩:=h.slice;rfl
theorem dW.oneCell{W:World}{ats:aA}{v:Value}(h:dW W ats v):v.oneCell'=true:=by
 obtain⟨A,cap,rfl⟩:=h.slice;rfl
section
variable {w:World} {ops:Array Oper} {rest:List Oper} {o:Oper} {a:Act} {Q:Exit→Act→World→Prop}
theorem mY(hgd:o.guard=none)(s x:Operand)
  (ho:o.op=.call {callee:=.builtin .append,args:=#[s,x],argTypes:=#[43,43]})
  {B n g:Nat} {es:List E} {v:Value} (h:dO B w es v) (hn:es.length=n) (hs:a.eval s=v) (e:E) {va vk:Value} (hb:O w g 45 #[.string ⟨e.name.toArray⟩,va,vk,.string ⟨e.text.toArray⟩]) (hx:a.eval x=.slice (some ⟨g,0,none⟩) 1 1)
  (w0:Nat) (hB:B≤w0) (hown:∀k,v.ownBlock=some k→k<w0) (z8:aZ (fun k=>k<w0) w fun W=>bN W e va vk) (hlen:n<2^40)
  (hK:∀A cp w',dO B w' (es++[e]) (.slice A (n+1) cp)→Touch (fun k=>v.ownBlock=some k) w w'→((Value.slice A (n+1) cp).ownBlock=v.ownBlock∨(Value.slice A (n+1) cp).ownBlock=some w.heap.size)→wpList Tryz.prog ops Q rest (a.put o.dst (.slice A (n+1) cp)) w'):wpList Tryz.prog ops Q (o::rest) a w:=by
 subst hn;obtain⟨hBw,cs,h1,h2⟩:=h;obtain⟨i,hi,hz0,hz1,hz2⟩:=info_parts Co;have hv:=z8.now
 have h3:∀u∈[Value.string ⟨e.name.toArray⟩,va,vk,.string ⟨e.text.toArray⟩],u.oneCell'=true:=by
  intro u hu;simp only[List.mem_cons,List.not_mem_nil,or_false]at hu
  rcases hu with rfl|rfl|rfl|rfl
  ·rfl
  ·exact hv.1.oneCell
  ·exact hv.2.1.oneCell
  ·rfl
 refine jT _ hgd s x 43 ho B 45 i _ 4 80 Tryz.underlying43 hi hz0 hz1 hz2 rfl (by decide) v es.length cs hs h1 _ 1 _ hx (Src.xR hb rfl) h3 (by simp only[maxLen];omega) (by omega) hBw fun v' w' ho' hgr hv'=>?_
 obtain⟨A,cp,rfl⟩:=rT ho';have ht:Touch (fun k=>v.ownBlock=some k) w w':=Touch.grown (M _ _) hgr fun k hk=>.inl hk
 refine hK A cp w' ⟨Nat.le_trans hBw hgr.size,_,by rw[List.length_append];exact ho',?_⟩ ht hv'
 have hS:∀i,i<w.heap.size→((Value.slice A (es.length+1) cp).ownBlock=some i∨i<B)→(v.ownBlock=some i∨i<B):=fun i hi hs=>by
  rcases hs with hs|hs
  ·rcases hv' with h6|h6<;>rw[h6]at hs
   ·exact .inl hs
   ·cases hs;omega
  ·exact .inr hs
 refine((h2.step ht (fun i _ hs=>.inl hs) hS).and (z8.step ht (fun i hi hs=>hown i hs) fun i hi hs=>?_)).imp fun W ⟨h6,h7⟩=>h6.append (kW.one h7)
 rcases hS i hi hs with h6|h6
 ·exact hown i h6
 ·omega
end
theorem kC(a b:List UInt8)(p:Bool)(h:(a==b)=p):((⟨a.toArray⟩:ByteArray)==(⟨b.toArray⟩:ByteArray))=p:=by
 rw[aC,←h]
theorem Vl(x nm:List UInt8)(y:ByteArray)(p:Nat)(w:World)(hp:w.cell? ⟨p,0,none⟩=some (.string ⟨nm.toArray⟩)):
  Calls Tryz.prog 182 #[.agg #[.string ⟨x.toArray⟩,.string y],.pointer (some ⟨p,0,none⟩)] w fun e w'=>e=.returned (.bool (x==nm))∧ag w w':=by
 have hlt:=bL hp;go_enter Tryz.func182,Tryz.ntmps182;go_wp2
 go_ret;exact⟨rfl,bf⟩
theorem Cq{α:Type}(l:List α)(j:Nat)(h:j<l.length)(p:α→Bool):(l.take (j+1)).any p=((l.take j).any p||p l[j]):=by
 rw[List.take_add_one,List.getElem?_eq_getElem h,List.any_append];simp only[Option.toList_some,List.any_cons,List.any_nil,Bool.or_false]
theorem SC(ats:aA)(nm:List UInt8)(p:Nat)(va:Value)(w:World)(ha:dW w ats va)(hp:w.cell? ⟨p,0,none⟩=some (.string ⟨nm.toArray⟩)):
  Calls Tryz.prog 205 #[va,.func (.func 182) #[] #[.pointer (some ⟨p,0,none⟩)]] w fun e w'=>∃k:Int,e=.returned (.int .i64 k)∧decide (0≤k)=ats.any (fun x=>x.1==nm)∧ag w w':=by
 have hl1:ats.length≤maxLen:=by obtain⟨_,_,_,h,_⟩:=ha;exact h.1
 unfold maxLen at hl1;obtain⟨A,ca,rfl⟩:=ha.slice;have HA:=I ha;have HP:=I hp;clear ha hp;go_enter Tryz.func205,Tryz.ntmps205;go_wp2
 go_loopw [8] (fun i wr=>∃j:Nat,i=.int .i64 j∧j≤ats.length∧Hd ((ats.take j).any (fun x=>x.1==nm)=false)∧Hd (ag w wr)) (fun i _=>ats.length-(intOf i).toNat)
 case atStart=>exact⟨0,rfl,Nat.zero_le _,by simp[Hd],M _ _⟩
 case round=>
  obtain⟨j,rfl,hj,HT,HF⟩:=hrel
  by_cases c1:j<ats.length
  ·have d1:decide ((j:Int)<(ats.length:Int))=true:=dT (by omega)
   have d1':(j:Int)<(ats.length:Int):=by omega
   obtain⟨g,o,rfl,hg,m0,m1,_,_⟩:=HA.J.get j c1;have e0:=HF.J.cell m0 (fun h=>h);have f0:=HF.J.cell m1 (fun h=>h);clear m0 m1;have HS:=I (Cq ats j c1 (fun x=>x.1==nm));have HIN:=I (show(ats[j].1==nm)=true→ats.any (fun x=>x.1==nm)=true from fun h=>List.any_eq_true.2 ⟨ats[j],List.getElem_mem c1,h⟩);generalize ats[j]=x at*;go_wp2_with fail
   refine(Vl x.1 nm _ p _ (HF.J.cell HP.J fun h=>h)).mono ?_;rintro _ w1 ⟨rfl,hf⟩;have aF:=I (HF.J.trans hf);clear hf;cases h4:x.1==nm with
   |true=>
    have HI2:=I (HIN.J h4);clear h4;go_wp2
    go_ret;exact⟨_,rfl,by rw[HI2.J];exact dT (by omega),aF.J⟩
   |false=>
    have HS2:=I (show(ats.take (j+1)).any (fun x=>x.1==nm)=false by rw[HS.J,HT.J,h4];rfl);clear h4;go_wp2
    go_roundw
    case rel=>exact⟨j+1,by go_num,c1,HS2,aF⟩
    case measure=>simp[intOf];omega
  ·have d1:decide ((j:Int)<(ats.length:Int))=false:=dF (by omega)
   obtain rfl:j=ats.length:=by omega
   go_wp2
   go_ret;refine⟨_,rfl,?_,HF.J⟩;have:=HT.J;rw[List.take_length]at this;rw[this];rfl
theorem Mj(ats:aA)(nm:List UInt8)(p:Nat)(va:Value)(w:World)(ha:dW w ats va)(hp:w.cell? ⟨p,0,none⟩=some (.string ⟨nm.toArray⟩)):
  Calls Tryz.prog 181 #[va,.func (.func 182) #[] #[.pointer (some ⟨p,0,none⟩)]] w fun e w'=>e=.returned (.bool (ats.any (fun x=>x.1==nm)))∧ag w w':=by
 obtain⟨A,ca,rfl⟩:=ha.slice;have HA:=I ha;have HP:=I hp;clear ha hp;go_enter Tryz.func181,Tryz.ntmps181;go_wp2_with fail
 refine(SC ats nm p _ _ HA.J HP.J).mono ?_;rintro _ w1 ⟨k,rfl,hk,hf⟩;have HF:=I hf;have HK:=I hk;clear hf hk;go_wp2
 go_ret;exact⟨af _ _ HK.J,HF.J⟩
theorem G5(ats:aA)(nm:List UInt8)(va:Value)(w:World)(ha:dW w ats va):
  Calls Tryz.prog 135 #[va,.string ⟨nm.toArray⟩] w fun e w'=>e=.returned (.bool (ats.any (fun x=>x.1==nm)))∧ag w w':=by
 obtain⟨A,ca,rfl⟩:=ha.slice;have HA:=I ha;clear ha;go_enter Tryz.func135,Tryz.ntmps135;go_wp2_with fail
 refine(Mj ats nm w.heap.size _ _ (by exact HA.J.fresh bf) (by exact(O.new _ _ _).cell 0)).mono ?_;rintro _ w1 ⟨rfl,hf⟩;have HF:=I (show ag w w1 from qW hf);clear hf;go_wp2
 go_ret;exact⟨rfl,HF.J⟩
def uS(w:World)(b:Nat):Prop:=∀o x,w.cell? ⟨b,o,none⟩≠some (.string x)
theorem uS.int{w:World}{c:Nat}{k:Int}(h:O w c 3 #[.int .i64 k]):uS w c:=by
 intro o x hx;rw[h.cell]at hx
 match o with
 |0=>cases hx
 |_+1=>cases hx
theorem dW.turn{S:Nat→Prop}{W W':World}{ats:aA}{v:Value}(h:dW W ats v)(ht:Touch S W W')(hS:∀b,S b→uS W b):dW W' ats v:=by
 obtain⟨A,cap,h1,h2,h3,h4⟩:=h;refine⟨A,cap,h1,h2,h3,h4.imp id ?_⟩;rintro⟨g,o,hA,hg,hc⟩;refine⟨g,o,hA,Nat.lt_of_lt_of_le hg ht.size,fun i hi=>?_⟩;have hn:¬S g:=fun hs=>hS g hs _ _ (hc i hi).1
 exact⟨ht.cell (hc i hi).1 hn,ht.cell (hc i hi).2 hn⟩
theorem dL.turn{S:Nat→Prop}{W W':World}{es:List E}{v:Value}(h:dL W es v)(ht:Touch S W W')(hS:∀b,S b→uS W b):dL W' es v:=by
 induction h with
 |nil A cap=>exact .nil A cap
 |row g o cap es al sl hg hl htx h0 h1 h2 h3 ha hk ih=>
  have hn:∀i,i<es.length→¬S g:=fun i hi hs=>hS g hs _ _ (h0 i hi)
  exact .row g o cap es al sl (Nat.lt_of_lt_of_le hg ht.size) hl htx (fun i hi=>ht.cell (h0 i hi) (hn i hi)) (fun i hi=>ht.cell (h1 i hi) (hn i hi)) (fun i hi=>ht.cell (h2 i hi) (hn i hi)) (fun i hi=>ht.cell (h3 i hi) (hn i hi)) (fun i hi=>(ha i hi).turn ht hS) ih
theorem bN.turn{S:Nat→Prop}{W W':World}{e:E}{va vk:Value}(h:bN W e va vk)(ht:Touch S W W')(hS:∀b,S b→uS W b):bN W' e va vk:=⟨h.1.turn ht hS,h.2.1.turn ht hS,h.2.2⟩
theorem dW.take{W:World}{ats:aA}{A:Option Addr}{len cap:Nat}(h:dW W ats (.slice A len cap))(i:Nat)(hi:i≤ats.length):dW W (ats.take i) (.slice A i cap):=by
 obtain⟨A',cap',h1,h2,h3,h4⟩:=h;cases h1;have hln:(ats.take i).length=i:=by rw[List.length_take];omega
 refine⟨A,cap,by rw[hln],⟨by rw[hln];omega,by rw[hln];omega⟩,fun x hx=>h3 x (List.mem_of_mem_take hx),?_⟩
 rcases h4 with rfl|⟨g,o,hA,hg,hc⟩
 ·exact .inl (by simp)
 ·refine .inr ⟨g,o,hA,hg,fun k hk=>?_⟩
  have:=hc k (by omega);simpa using this
theorem dW.cap{W:World}{ats:aA}{A:Option Addr}{len cap:Nat}(h:dW W ats (.slice A len cap)):ats.length≤cap:=by
 obtain⟨A',cap',h1,h2,h3,h4⟩:=h;cases h1;exact h2.2
def fC(w:World)(g o:Nat)(e:E)(va vk:Value):Prop:=g<w.heap.size∧w.cell? ⟨g,o,none⟩=some (.string ⟨e.name.toArray⟩)∧w.cell? ⟨g,o+1,none⟩=some va∧w.cell? ⟨g,o+2,none⟩=some vk∧w.cell? ⟨g,o+3,none⟩=some (.string ⟨e.text.toArray⟩)∧bN w e va vk
theorem fC.turn{S:Nat→Prop}{w w':World}{g o:Nat}{e:E}{va vk:Value}(h:fC w g o e va vk)(ht:Touch S w w')(hS:∀b,S b→uS w b):fC w' g o e va vk:=by
 have hn:¬S g:=fun hs=>hS g hs _ _ h.2.1
 exact⟨Nat.lt_of_lt_of_le h.1 ht.size,ht.cell h.2.1 hn,ht.cell h.2.2.1 hn,ht.cell h.2.2.2.1 hn,ht.cell h.2.2.2.2.1 hn,h.2.2.2.2.2.turn ht hS⟩
theorem fC.fresh{w w':World}{g o:Nat}{e:E}{va vk:Value}(h:fC w g o e va vk)(ht:ag w w'):fC w' g o e va vk:=h.turn ht fun _ hf=>hf.elim
theorem fC.ne{w:World}{g o:Nat}{e:E}{va vk:Value}(h:fC w g o e va vk){c:Nat}(hc:uS w c):g≠c:=fun he=>hc o _ (he▸h.2.1)
theorem dL.ru{W:World}{es:List E}{A:Option Addr}{len cap:Nat}(h:dL W es (.slice A len cap))(i:Nat)(hi:i<es.length):
  ∃g o va vk,A=some ⟨g,o,none⟩∧fC W g (o+i*4) es[i] va vk:=by
 obtain⟨g,o,va,vk,hA,hg,h0,h1,h2,h3,hr⟩:=h.get i hi;exact⟨g,o,va,vk,hA,hg,h0,h1,h2,h3,hr⟩
namespace U
def nY(d k:Nat)(e:E):Bool:=proper e&&decide (d+depth e≤65)&&decide (k+count e≤3000)
def ry(d k:Nat)(l:List E):Bool:=jI l&&decide (d+aP l≤65)&&decide (k+aj l≤3000)
theorem Y8(e:E):nY 1 0 e=valid e:=by
 unfold nY valid;rw[Bool.eq_iff_iff];simp only[Bool.and_eq_true,decide_eq_true_eq,Nat.zero_add];constructor
 ·rintro⟨⟨h1,h2⟩,h3⟩;exact⟨⟨h1,h3⟩,by omega⟩
 ·rintro⟨⟨h1,h2⟩,h3⟩;exact⟨⟨h1,by omega⟩,h2⟩
theorem abZ(d k:Nat)(e:E):nY d k e=(decide (k+1≤3000)&&decide (d≤64)&&pM e&&ry (d+1) (k+1) e.kids):=by
 unfold nY ry;rw[mX,mP,aI,Bool.eq_iff_iff];simp only[Bool.and_eq_true,decide_eq_true_eq];constructor
 ·rintro⟨⟨⟨h1,h2⟩,h3⟩,h4⟩;exact⟨⟨⟨by omega,by omega⟩,h1⟩,⟨h2,by omega⟩,by omega⟩
 ·rintro⟨⟨⟨h1,h2⟩,h3⟩,⟨h4,h5⟩,h6⟩;exact⟨⟨⟨h3,h4⟩,by omega⟩,by omega⟩
theorem SE(d k:Nat)(l:List E)(j:Nat)(h:j<l.length):ry d k (l.take (j+1))=(ry d k (l.take j)&&nY d (k+aj (l.take j)) l[j]):=by
 unfold ry nY;rw[kZ,kZ,xJ l j h,oo l j h,List.take_add_one,List.getElem?_eq_getElem h,List.all_append];simp only[Option.toList_some,List.all_cons,List.all_nil,Bool.and_true];rw[Bool.eq_iff_iff];simp only[Bool.and_eq_true,decide_eq_true_eq];constructor
 ·rintro⟨⟨⟨h1,h2⟩,h3⟩,h4⟩;exact⟨⟨⟨h1,by omega⟩,by omega⟩,⟨h2,by omega⟩,by omega⟩
 ·rintro⟨⟨⟨h1,h2⟩,h3⟩,⟨h4,h5⟩,h6⟩;exact⟨⟨⟨h1,h4⟩,by omega⟩,by omega⟩
theorem Y9(d k:Nat)(l:List E)(j:Nat)(h:ry d k (l.take j)=false):ry d k l=false:=by
 rw[←Bool.not_eq_true]at h⊢;intro h';apply h
 unfold ry at h'⊢;simp only[Bool.and_eq_true,decide_eq_true_eq]at h'⊢;obtain⟨⟨h1,h2⟩,h3⟩:=h';have:=kV l j
 have hd:aP (l.take j)≤aP l:=by
  have e:l=l.take j++l.drop j:=(List.take_append_drop j l).symm;have:=vZ (l.take j) (l.drop j);rw[←e]at this;omega
 refine⟨⟨?_,by omega⟩,by omega⟩;rw[kZ]at h1⊢;rw[List.all_eq_true]at h1⊢;exact fun x hx=>h1 x (List.mem_of_mem_take hx)
theorem PY:dQ []=true:=rfl
theorem Eb(l:aA)(j:Nat)(h:j<l.length):dQ (l.take (j+1))=(dQ (l.take j)&&(eG l[j].1&&bG l[j].2&&!(l.take j).any (fun x=>x.1==l[j].1))):=by
 unfold dQ;rw[List.take_add_one,List.getElem?_eq_getElem h,List.all_append,List.map_append];simp only[Option.toList_some,List.all_cons,List.all_nil,Bool.and_true,List.map_cons,List.map_nil];rw[Bool.eq_iff_iff];simp only[Bool.and_eq_true,decide_eq_true_eq,Bool.not_eq_true',List.any_eq_false,List.nodup_append,List.mem_map,List.mem_singleton,beq_iff_eq];constructor
 ·rintro⟨⟨h1,h2,h3⟩,h4,h5,h6⟩
  refine⟨⟨h1,h4⟩,⟨h2,h3⟩,fun x hx he=>?_⟩;exact h6 _ ⟨x,hx,rfl⟩ _ rfl he
 ·rintro⟨⟨h1,h4⟩,⟨h2,h3⟩,h5⟩
  refine⟨⟨h1,h2,h3⟩,h4,by simp,?_⟩;rintro _ ⟨x,hx,rfl⟩ _ rfl he;exact h5 x hx he
theorem yN(l:aA)(j:Nat)(h:dQ (l.take j)=false):dQ l=false:=by
 rw[←Bool.not_eq_true]at h⊢;intro h';apply h
 unfold dQ at h'⊢;simp only[Bool.and_eq_true,decide_eq_true_eq]at h'⊢;obtain⟨h1,h2⟩:=h';refine⟨?_,?_⟩
 ·rw[List.all_eq_true]at h1⊢
  exact fun x hx=>h1 x (List.mem_of_mem_take hx)
 ·rw[List.map_take]
  exact(List.take_sublist _ _).nodup h2
end U
end
section
open Go.RowKit
theorem IE{P:Program}{Q:Exit→Act→World→Prop}{id:Nat}{a:Act}{w:World}{l:List Oper}(p:bq)(ns:List Nat)(t:Nat)(fin:Array Bool)(C2:World→Prop)(p2:bq)(NG:List Nat)(G6:Array Bool)(hm:P.follows .mixedOrders=true)(hQ:∀c a d v w,Q (.panic c) (Act.put a d v) w→Q (.panic c) a w)
  (hB:(Region.noSelect l.toArray&&decide (p.len+(p2.len+1)=l.toArray.size)&&p.within ns&&nH .any l.toArray fin p (Array.replicate l.toArray.size false)&&pJ .any l.toArray ns (some t) (Array.replicate l.toArray.size false)&&
   decide (Region.ready .any l.toArray fin=[t])&&!ns.contains t&&p2.within NG&&nH .any l.toArray G6 p2 (fin.setIfInBounds t true)&&pJ .any l.toArray NG none (fin.setIfInBounds t true)&&(Region.ready .any l.toArray G6).isEmpty)=true)
  (h:iD P l Q (fun w'=>∃p:Regrown,w'=Go.Sort.grow (redrawn w p.d) p.os) (fun a' w'=>wpList P l.toArray (Exit.then (fun a'' w''=>C2 w''∧iD P l Q C2 (fun a3 w3=>Q .normal a3 w3) p2 a'' w'') Q) (pick l [t]) a' w') p a (w.drewN 1)):(Code.region id l.toArray true).wp P Q a w:=by
 simp only[Bool.and_eq_true,decide_eq_true_eq,Bool.not_eq_true',List.isEmpty_iff]at hB;obtain⟨⟨⟨⟨⟨⟨⟨⟨⟨⟨hsel,hn⟩,hin⟩,hp⟩,hs⟩,hr⟩,ht⟩,hin2⟩,hp2⟩,hs2⟩,hr2⟩:=hB;refine wp_region_any hm ?_;rw[←hn];rw[←hn]at hp hs
 have hz:nV .any l.toArray ns (Array.replicate (p.len+(p2.len+1)) false) (Array.replicate (p.len+(p2.len+1)) false):=
  ⟨⟨by simp[hn],fun j oj _ hl=>by rw[vH]at hl;cases hl⟩,fun _ h=>h,fun _ h=>.inl h⟩
 have hz':=xu p _ hin hz hp;have htr:t∈Region.ready .any l.toArray fin:=by rw[hr];simp
 have htn:t∉ns:=by
  intro hx;rw[List.contains_iff_mem.2 hx]at ht;cases ht
 obtain⟨_,ot,hot,_⟩:=mem_ready.1 htr;have:=lM (P:=P) (Q:=Q) (fin:=fin) hsel hQ hs (by rw[hr];intro j hj;rw[List.mem_singleton.1 hj];exact htn) p _ a (w.drewN 1) hin hz hp (pE.drew w) h;refine nW (g:=p2.len+1) (fun listed' a' w' _ hL=>?_) p.len _ a _ (pE.drew w) this;refine wpAny_all (rs:=[t]) (by rw[hL.1];exact hr) (by simp) (fun i hi=>?_);rw[List.mem_singleton.1 hi,hL.1];refine wpOp_mono (fun a'' w'' h''=>?_) (kM hot hL.2);have hz2:nV .any l.toArray NG (fin.setIfInBounds t true) (fin.setIfInBounds t true):=⟨hz'.closed.put htr,fun _ h=>h,fun _ h=>.inl h⟩;have h2:=lM (P:=P) (Q:=Q) (fin:=G6) hsel hQ hs2 (by rw[hr2];simp) p2 _ a'' w'' hin2 hz2 hp2 h''.1 h''.2;exact nW (g:=0) (fun listed' a' w' _ hL=>wpAny_done (by rw[hL.1];exact hr2) hL.2 0) p2.len _ a'' _ h''.1 h2
theorem iY{P:Program}{Q:Exit→Act→World→Prop}{C C2:World→Prop}{L2:Act→World→Prop}{p2:bq}{l:List Oper}{t:Nat}{o:Oper}{a:Act}{w:World}(ho:l[t]?=some o)
  (h:∀K:Act→World→Prop,(∀a w,C2 w→iD P l Q C2 L2 p2 a w→K a w)→wpList P l.toArray (Exit.then K Q) [o] a w):iD P l Q C (fun a' w'=>wpList P l.toArray (Exit.then (fun a'' w''=>C2 w''∧iD P l Q C2 L2 p2 a'' w'') Q) (pick l [t]) a' w') .nil a w:=by
 unfold iD;have hp:pick l [t]=[o]:=by simp[pick,ho]
 rw[hp];exact h _ (fun _ _ h1 h2=>⟨h1,h2⟩)
theorem fu{P:Program}{Q:Exit→Act→World→Prop}{id:Nat}{a:Act}{w:World}{l:List Oper}(C:World→Prop)(p:bq)(ns:List Nat)(t:Nat)(fin:Array Bool)(C2:World→Prop)(p2:bq)(NG:List Nat)(G6:Array Bool)(hm:P.follows .mixedOrders=true)(hQ:∀c a d v w,Q (.panic c) (Act.put a d v) w→Q (.panic c) a w)
  (hB:(Region.noSelect l.toArray&&decide (p.len+(p2.len+1)=l.toArray.size)&&p.within ns&&nH .any l.toArray fin p (Array.replicate l.toArray.size false)&&pJ .any l.toArray ns (some t) (Array.replicate l.toArray.size false)&&
   decide (Region.ready .any l.toArray fin=[t])&&!ns.contains t&&p2.within NG&&nH .any l.toArray G6 p2 (fin.setIfInBounds t true)&&pJ .any l.toArray NG none (fin.setIfInBounds t true)&&(Region.ready .any l.toArray G6).isEmpty)=true)
  (hC:C (w.drewN 1)) (h:iD P l Q C (fun a' w'=>wpList P l.toArray (Exit.then (fun a'' w''=>C2 w''∧iD P l Q C2 (fun a3 w3=>Q .normal a3 w3) p2 a'' w'') Q) (pick l [t]) a' w') p a (w.drewN 1)):(Code.region id l.toArray true).wp P Q a w:=by
 simp only[Bool.and_eq_true,decide_eq_true_eq,Bool.not_eq_true',List.isEmpty_iff]at hB;obtain⟨⟨⟨⟨⟨⟨⟨⟨⟨⟨hsel,hn⟩,hin⟩,hp⟩,hs⟩,hr⟩,ht⟩,hin2⟩,hp2⟩,hs2⟩,hr2⟩:=hB;refine wp_region_any hm ?_;rw[←hn];rw[←hn]at hp hs
 have hz:nV .any l.toArray ns (Array.replicate (p.len+(p2.len+1)) false) (Array.replicate (p.len+(p2.len+1)) false):=
  ⟨⟨by simp[hn],fun j oj _ hl=>by rw[vH]at hl;cases hl⟩,fun _ h=>h,fun _ h=>.inl h⟩
 have hz':=xu p _ hin hz hp;have htr:t∈Region.ready .any l.toArray fin:=by rw[hr];simp
 have htn:t∉ns:=by
  intro hx;rw[List.contains_iff_mem.2 hx]at ht;cases ht
 obtain⟨_,ot,hot,_⟩:=mem_ready.1 htr;have:=lM (P:=P) (Q:=Q) (fin:=fin) hsel hQ hs (by rw[hr];intro j hj;rw[List.mem_singleton.1 hj];exact htn) p _ a (w.drewN 1) hin hz hp hC h;refine nW (g:=p2.len+1) (fun listed' a' w' _ hL=>?_) p.len _ a _ hC this;refine wpAny_all (rs:=[t]) (by rw[hL.1];exact hr) (by simp) (fun i hi=>?_);rw[List.mem_singleton.1 hi,hL.1];refine wpOp_mono (fun a'' w'' h''=>?_) (kM hot hL.2);have hz2:nV .any l.toArray NG (fin.setIfInBounds t true) (fin.setIfInBounds t true):=⟨hz'.closed.put htr,fun _ h=>h,fun _ h=>.inl h⟩;have h2:=lM (P:=P) (Q:=Q) (fin:=G6) hsel hQ hs2 (by rw[hr2];simp) p2 _ a'' w'' hin2 hz2 hp2 h''.1 h''.2;exact nW (g:=0) (fun listed' a' w' _ hL=>wpAny_done (by rw[hL.1];exact hr2) hL.2 0) p2.len _ a'' _ h''.1 h2
structure Turned(S:Nat→Prop)(w0:World) where
 W:World
 ht:Touch S w0 W
instance{S:Nat→Prop}{w0:World}:Nonempty (Turned S w0):=⟨⟨w0,M _ _⟩⟩
theorem cT{S:Nat→Prop}{w0:World}{b i:Nat}{v:Value}(h:w0.cell? ⟨b,i,none⟩=some v)(hS:¬S b)(x:Turned S w0):x.W.cell? ⟨b,i,none⟩=some v:=x.ht.cell h hS
end
section
open Go.RowKit
open Xp (Rs aX)
structure Xr(S:ByteArray)(g:Nat)(l:List UInt8)(c:Nat)(w:World):Prop where
 blk:O w g 121 #[.string S,.int .i64 ((S.size-l.length:Nat):Int),.int .i64 (c:Int)]
 nK:aX l S.data.toList
def QO(k:Nat):List PanicEntry:=[{v:=.iface 122 (.int .i64 (k:Int)),recovered:=false}]
def XS(S:ByteArray)(g:Nat)(w:World)(l:List UInt8)(e:Ending)(w':World):Prop:=e=.panicked (QO (S.size-l.length))∧Touch (fun b=>b=g) w w'
theorem Xr.fresh{S:ByteArray}{g:Nat}{l:List UInt8}{c:Nat}{w w':World}(h:Xr S g l c w)(hf:ag w w'):Xr S g l c w':=⟨hf.blk h.blk fun h=>h,h.nK⟩
theorem Xr.move{S:ByteArray}{g:Nat}{l:List UInt8}{c:Nat}{w w':World}{X:Nat→Prop}(h:Xr S g l c w)(ht:Touch X w w')(hg:¬X g):Xr S g l c w':=⟨ht.blk h.blk hg,h.nK⟩
theorem Xr.lt{S:ByteArray}{g:Nat}{l:List UInt8}{c:Nat}{w:World}(h:Xr S g l c w):g<w.heap.size:=h.blk.lt
theorem Xr.len{S:ByteArray}{g:Nat}{l:List UInt8}{c:Nat}{w:World}(h:Xr S g l c w):l.length≤S.size:=by
 have:=h.nK.len;simpa using this
theorem uZ{S:ByteArray}{b:UInt8}{l:List UInt8}(h:aX (b::l) S.data.toList):∃hk:S.size-(b::l).length<S.size,S[S.size-(b::l).length]'hk=b∧S.size-(b::l).length+1=S.size-l.length:=by
 obtain⟨p,hp⟩:=h;have hl:S.data.toList.length=S.size:=by simp
 have hl2:S.size=p.length+(l.length+1):=by rw[←hl,hp,List.length_append,List.length_cons]
 have hk:S.size-(b::l).length=p.length:=by rw[List.length_cons];omega
 refine⟨by rw[hk];omega,?_,by rw[List.length_cons];omega⟩;have h1:=MN S (S.size-(b::l).length) (by rw[hk];omega);rw[←h1]
 have:∀(k:Nat) (hk2:k<S.data.toList.length),k=p.length→S.data.toList[k]=b:=by
  intro k hk2 e;subst e;simp only[hp];rw[List.getElem_append_right (Nat.le_refl _)];simp
 exact this _ _ hk
theorem fV{w:World}{g:Nat}{t:TypeId}{x0 x1 x2:Value}(h:O w g t #[x0,x1,x2]):
  w.cell? ⟨g,0,none⟩=some x0∧w.cell? ⟨g,1,none⟩=some x1∧w.cell? ⟨g,2,none⟩=some x2∧w.frozen? ⟨g,0,none⟩=false∧w.frozen? ⟨g,1,none⟩=false∧w.frozen? ⟨g,2,none⟩=false∧g<w.heap.size:=
 ⟨h.cell 0,h.cell 1,h.cell 2,h.frozen 0,h.frozen 1,h.frozen 2,h.lt⟩
theorem Xr.qh{S:ByteArray}{g:Nat}{b:UInt8}{l:List UInt8}{c:Nat}{w:World}(h:Xr S g (b::l) c w):Xr S g l c (w.setCell ⟨g,1,none⟩ (.int .i64 (((S.size-(b::l).length:Nat):Int)+1))):=by
 obtain⟨hk,_,hk2⟩:=uZ h.nK;refine⟨?_,(aX.cons b).trans h.nK⟩;have:=h.blk.put 1 (.int .i64 (((S.size-(b::l).length:Nat):Int)+1));rw[show(((S.size-(b::l).length:Nat):Int)+1)=((S.size-l.length:Nat):Int) by rw[←hk2];rfl]at this⊢;exact this
theorem iq(S:ByteArray)(g:Nat)(l:List UInt8)(c:Nat)(w:World)(h:Xr S g l c w):Calls Tryz.prog 111 #[.pointer (some ⟨g,0,none⟩)] w fun e w'=>e=.panicked (QO (S.size-l.length))∧w'=w:=by
 obtain⟨q0,q1,q2,_,_,_,_⟩:=fV h.blk;unfold QO;generalize S.size-l.length=k at*;go_enter Tryz.func111,Tryz.ntmps111;go_wp2_with fail
 exact⟨rfl,rfl,rfl⟩
end
end Go.Proofs.YtnbeemkfmlfgfaaGreatDoor
