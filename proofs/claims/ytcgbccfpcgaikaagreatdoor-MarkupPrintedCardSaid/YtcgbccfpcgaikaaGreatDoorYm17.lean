/- Part 17 of 46 of a proof. No condition. -/
import Derived.Test.YtcgbccfpcgaikaaGreatDoorYm16
import Derived.Test.YtcgbccfpcgaikaaGreatDoorYm4
set_option maxRecDepth 100000
set_option maxHeartbeats 1000000
namespace Go.Proofs.YtcgbccfpcgaikaaGreatDoor
section
open Go.RowKit
open U (E aJ)
def dz(S:Nat→Prop)(w:World)(P:World→Prop):Prop:=∀W',Touch S w W'→P W'
theorem dz.now{S:Nat→Prop}{w:World}{P:World→Prop}(h:dz S w P):P w:=h w (M _ _)
theorem Touch.join{S S1 S2:Nat→Prop}{a b c:World}(h:Touch S1 a b)(k:Touch S2 b c)(h1:∀i,i<a.heap.size→S1 i→S i)(h2:∀i,i<a.heap.size→S2 i→S i):Touch S a c:=
 ⟨k.os.trans h.os,k.tape.trans h.tape,k.output.trans h.output,Nat.le_trans h.size k.size,fun i hi hn=>
  (k.block i (Nat.lt_of_lt_of_le hi h.size) (fun hs=>hn (h2 i hi hs))).trans (h.block i hi (fun hs=>hn (h1 i hi hs)))⟩
theorem dz.step{S S1 S2:Nat→Prop}{w w1:World}{P:World→Prop}(h:dz S w P)(ht:Touch S1 w w1)(h1:∀i,i<w.heap.size→S1 i→S i)(h2:∀i,i<w.heap.size→S2 i→S i):dz S2 w1 P:=
 fun W' hW=>h W' (ht.join hW h1 h2)
theorem dz.fresh{S:Nat→Prop}{w w1:World}{P:World→Prop}(h:dz S w P)(ht:ag w w1):dz S w1 P:=h.step ht (fun _ _ h=>h.elim) (fun _ _ h=>h)
theorem dz.mono{S S':Nat→Prop}{w:World}{P:World→Prop}(h:dz S w P)(hS:∀i,i<w.heap.size→S' i→S i):dz S' w P:=h.step (M (fun _=>False) w) (fun _ _ h=>h.elim) hS
theorem dz.imp{S:Nat→Prop}{w:World}{P Q:World→Prop}(h:dz S w P)(hPQ:∀W,P W→Q W):dz S w Q:=fun W hW=>hPQ W (h W hW)
theorem dz.and{S:Nat→Prop}{w:World}{P Q:World→Prop}(h:dz S w P)(h':dz S w Q):dz S w fun W=>P W∧Q W:=fun W hW=>⟨h W hW,h' W hW⟩
def Made(w w':World)(P:World→Prop):Prop:=ag w w'∧dz (fun k=>k<w.heap.size) w' P
def kC(W:World):List E→List Value→Prop
 |[],cs=>cs=[]
 |e::es,cs=>∃va vk ds,cs=.string ⟨e.name.toArray⟩::va::vk::.string ⟨e.text.toArray⟩::ds∧jd W e va vk∧kC W es ds
theorem kC.length{W:World}:∀{es:List E} {cs:List Value},kC W es cs→cs.length=es.length*4
 |[],cs,h=>by rw[show cs=[]from h];rfl
 |e::es,cs,⟨va,vk,ds,h,_,hd⟩=>by
  have:=kC.length hd;rw[h];simp only[List.length_cons];omega
theorem kC.append{W:World}:∀{es fs:List E} {cs ds:List Value},kC W es cs→kC W fs ds→kC W (es++fs) (cs++ds)
 |[],_,cs,_,h,h'=>by rw[show cs=[]from h];exact h'
 |_::_,_,_,_,⟨va,vk,cs,h,hr,hd⟩,h'=>⟨va,vk,cs++_,by rw[h];rfl,hr,hd.append h'⟩
theorem kC.one{W:World}{e:E}{va vk:Value}(h:jd W e va vk):kC W [e] [.string ⟨e.name.toArray⟩,va,vk,.string ⟨e.text.toArray⟩]:=⟨va,vk,[],rfl,h,rfl⟩
theorem kC.get{W:World}:∀{es:List E} {cs:List Value},kC W es cs→∀i (hi:i<es.length),∃va vk,cs[i*4]?=some (.string ⟨es[i].name.toArray⟩)∧cs[i*4+1]?=some va∧cs[i*4+2]?=some vk∧cs[i*4+3]?=some (.string ⟨es[i].text.toArray⟩)∧jd W es[i] va vk
 |[],_,_,i,hi=>by simp at hi
 |e::es,cs,⟨va,vk,ds,h,hr,hd⟩,i,hi=>by
  subst h;cases i with
  |zero=>exact⟨va,vk,rfl,rfl,rfl,rfl,hr⟩
  |succ i=>
   obtain⟨a,k,g0,g1,g2,g3,g4⟩:=hd.get i (by simpa using hi);refine⟨a,k,?_,?_,?_,?_,g4⟩
   ·rw[show(i+1)*4=i*4+4 by omega];exact g0
   ·rw[show(i+1)*4+1=i*4+1+4 by omega];exact g1
   ·rw[show(i+1)*4+2=i*4+2+4 by omega];exact g2
   ·rw[show(i+1)*4+3=i*4+3+4 by omega];exact g3
theorem kC.rep{W:World}{es:List E}{cs:List Value}{g cap:Nat}(h:kC W es cs)(hg:g<W.heap.size)(hl:es.length≤maxLen)(hc:∀j u,cs[j]?=some u→W.cell? ⟨g,j,none⟩=some u):gK W es (.slice (some ⟨g,0,none⟩) es.length cap):=by
 refine gK.row g 0 cap es (fun i=>(cs[i*4+1]?).getD (.bool false)) (fun i=>(cs[i*4+2]?).getD (.bool false)) hg hl ?_ ?_ ?_ ?_ ?_ ?_ ?_
 all_goals (intro i hi;obtain⟨va,vk,g0,g1,g2,g3,g4⟩:=h.get i hi)
 ·exact g4.2.2
 ·rw[Nat.zero_add];exact hc _ _ g0
 ·rw[Nat.zero_add,g1];exact hc _ _ g1
 ·rw[Nat.zero_add,g2];exact hc _ _ g2
 ·rw[Nat.zero_add];exact hc _ _ g3
 ·rw[g1];exact g4.1
 ·rw[g2];exact g4.2.1
theorem kC.own{W:World}{es:List E}{cs:List Value}{B t:Nat}{v:Value}(h:kC W es cs)(ho:W.ownsRow B t 4 v es.length cs):gK W es v:=by
 rcases ho.2 with⟨rfl,h0⟩|⟨g,cap,cur,rfl,hB,hb,h1,h2,_⟩
 ·rw[List.length_eq_zero_iff.1 h0]
  exact .nil _ _
 ·exact h.rep (ho.lt g rfl).2 (Nat.le_trans h1 h2) fun j u hu=>by
   have:=ho.cells (g:=g) rfl j u hu;rw[Addr.add_mid,Nat.zero_add]at this;exact this
theorem mK{W:World}{B e size n:Nat}{v:Value}{xs:List Value}(h:W.ownsRow B e size v n xs):∃A c,v=.slice A n c:=by
 rcases h.2 with⟨h1,h2⟩|⟨g,cap,cur,h1,_⟩
 ·exact⟨none,0,by rw[h1,h2]⟩
 ·exact⟨_,_,h1⟩
def fQ(B:Nat)(w:World)(es:List E)(v:Value):Prop:=B≤w.heap.size∧∃cs,w.ownsRow B 55 4 v es.length cs∧dz (fun k=>v.ownBlock=some k∨k<B) w fun W=>kC W es cs
theorem fQ.nil{B:Nat}{w:World}(hB:B≤w.heap.size):fQ B w [] (.slice none 0 0):=⟨hB,[],World.ownsRow_nil _ _ _ _,fun _ _=>rfl⟩
theorem fQ.pY{B:Nat}{w:World}{es:List E}{v:Value}(h:fQ B w es v):∀k,v.ownBlock=some k→B≤k∧k<w.heap.size:=fun k hk=>by
 obtain⟨_,cs,h1,_⟩:=h;exact h1.lt k hk
theorem fQ.slice{B:Nat}{w:World}{es:List E}{v:Value}(h:fQ B w es v):∃A cap,v=.slice A es.length cap:=by
 obtain⟨_,cs,h1,_⟩:=h;exact mK h1
theorem fQ.mv{B:Nat}{w w1:World}{es:List E}{v:Value}{S:Nat→Prop}(h:fQ B w es v)(ht:Touch S w w1)(hS:∀k,S k→k<w.heap.size→k<B):fQ B w1 es v:=by
 obtain⟨hB,cs,h1,h2⟩:=h;refine⟨Nat.le_trans hB ht.size,cs,aQ h1 ht fun k hk hs=>?_,h2.step ht (fun i hi hs=>.inr (hS i hs hi)) (fun _ _ h=>h)⟩;have h3:=h1.lt k hk;have:=hS k hs h3.2;omega
theorem fQ.fresh{B:Nat}{w w1:World}{es:List E}{v:Value}(h:fQ B w es v)(ht:ag w w1):fQ B w1 es v:=h.mv ht fun _ h=>h.elim
theorem fQ.rep{B:Nat}{w:World}{es:List E}{v:Value}(h:fQ B w es v):gK w es v:=by
 obtain⟨_,cs,h1,h2⟩:=h;exact h2.now.own h1
theorem fQ.done{B:Nat}{w:World}{es:List E}{v:Value}(h:fQ B w es v):dz (fun k=>k<B) w fun W=>gK W es v:=fun _ hW=>(h.mv hW fun _ h _=>h).rep
theorem gK.oneCell{W:World}{es:List E}{v:Value}(h:gK W es v):v.oneCell'=true:=by
 obtain⟨A,cap,rfl⟩:=h.slice;rfl
theorem gJ.oneCell{W:World}{ats:aJ}{v:Value}(h:gJ W ats v):v.oneCell'=true:=by
 obtain⟨A,cap,rfl⟩:=h.slice;rfl
section
variable {w:World} {ops:Array Oper} {rest:List Oper} {o:Oper} {a:Act} {Q:Exit→Act→World→Prop}
theorem zY(hgd:o.guard=none)(s x:Operand)
  (ho:o.op=.call {callee:=.builtin .append,args:=#[s,x],argTypes:=#[53,53]})
  {B n g:Nat} {es:List E} {v:Value} (h:fQ B w es v) (hn:es.length=n) (hs:a.eval s=v) (e:E) {va vk:Value} (hb:af w g 55 #[.string ⟨e.name.toArray⟩,va,vk,.string ⟨e.text.toArray⟩]) (hx:a.eval x=.slice (some ⟨g,0,none⟩) 1 1)
  (w0:Nat) (hB:B≤w0) (hown:∀k,v.ownBlock=some k→k<w0) (FZ:dz (fun k=>k<w0) w fun W=>jd W e va vk) (hlen:n<2^40)
  (hK:∀A cp w',fQ B w' (es++[e]) (.slice A (n+1) cp)→Touch (fun k=>v.ownBlock=some k) w w'→((Value.slice A (n+1) cp).ownBlock=v.ownBlock∨(Value.slice A (n+1) cp).ownBlock=some w.heap.size)→wpList Tryz.prog ops Q rest (a.put o.dst (.slice A (n+1) cp)) w'):wpList Tryz.prog ops Q (o::rest) a w:=by
 subst hn;obtain⟨hBw,cs,h1,h2⟩:=h;obtain⟨i,hi,hz0,hz1,hz2⟩:=info_parts E8;have hv:=FZ.now
 have h3:∀u∈[Value.string ⟨e.name.toArray⟩,va,vk,.string ⟨e.text.toArray⟩],u.oneCell'=true:=by
  intro u hu;simp only[List.mem_cons,List.not_mem_nil,or_false]at hu
  rcases hu with rfl|rfl|rfl|rfl
  ·rfl
  ·exact hv.1.oneCell
  ·exact hv.2.1.oneCell
  ·rfl
 refine iL _ hgd s x 53 ho B 55 i _ 4 80 Tryz.underlying53 hi hz0 hz1 hz2 rfl (by decide) v es.length cs hs h1 _ 1 _ hx (Src.uT hb rfl) h3 (by simp only[maxLen];omega) (by omega) hBw fun v' w' ho' hgr hv'=>?_
 obtain⟨A,cp,rfl⟩:=mK ho';have ht:Touch (fun k=>v.ownBlock=some k) w w':=Touch.grown (M _ _) hgr fun k hk=>.inl hk
 refine hK A cp w' ⟨Nat.le_trans hBw hgr.size,_,by rw[List.length_append];exact ho',?_⟩ ht hv'
 have hS:∀i,i<w.heap.size→((Value.slice A (es.length+1) cp).ownBlock=some i∨i<B)→(v.ownBlock=some i∨i<B):=fun i hi hs=>by
  rcases hs with hs|hs
  ·rcases hv' with h6|h6<;>rw[h6]at hs
   ·exact .inl hs
   ·cases hs;omega
  ·exact .inr hs
 refine((h2.step ht (fun i _ hs=>.inl hs) hS).and (FZ.step ht (fun i hi hs=>hown i hs) fun i hi hs=>?_)).imp fun W ⟨h6,h7⟩=>h6.append (kC.one h7)
 rcases hS i hi hs with h6|h6
 ·exact hown i h6
 ·omega
end
theorem ko(a b:List UInt8)(p:Bool)(h:(a==b)=p):((⟨a.toArray⟩:ByteArray)==(⟨b.toArray⟩:ByteArray))=p:=by
 rw[bS,←h]
theorem ZM(x nm:List UInt8)(y:ByteArray)(p:Nat)(w:World)(hp:w.cell? ⟨p,0,none⟩=some (.string ⟨nm.toArray⟩)):
  Calls Tryz.prog 146 #[.agg #[.string ⟨x.toArray⟩,.string y],.pointer (some ⟨p,0,none⟩)] w fun e w'=>e=.returned (.bool (x==nm))∧ag w w':=by
 have hlt:=bL hp;go_enter Tryz.func146,Tryz.ntmps146;go_wp2
 go_ret;exact⟨rfl,aF⟩
theorem Rb{α:Type}(l:List α)(j:Nat)(h:j<l.length)(p:α→Bool):(l.take (j+1)).any p=((l.take j).any p||p l[j]):=by
 rw[List.take_add_one,List.getElem?_eq_getElem h,List.any_append];simp only[Option.toList_some,List.any_cons,List.any_nil,Bool.or_false]
theorem Xj(ats:aJ)(nm:List UInt8)(p:Nat)(va:Value)(w:World)(ha:gJ w ats va)(hp:w.cell? ⟨p,0,none⟩=some (.string ⟨nm.toArray⟩)):
  Calls Tryz.prog 157 #[va,.func (.func 146) #[] #[.pointer (some ⟨p,0,none⟩)]] w fun e w'=>∃k:Int,e=.returned (.int .i64 k)∧decide (0≤k)=ats.any (fun x=>x.1==nm)∧ag w w':=by
 have hl1:ats.length≤maxLen:=by obtain⟨_,_,_,h,_⟩:=ha;exact h.1
 unfold maxLen at hl1;obtain⟨A,ca,rfl⟩:=ha.slice;have HA:=hid ha;have HP:=hid hp;clear ha hp;go_enter Tryz.func157,Tryz.ntmps157;go_wp2
 go_loopw [8] (fun i wr=>∃j:Nat,i=.int .i64 j∧j≤ats.length∧Hd ((ats.take j).any (fun x=>x.1==nm)=false)∧Hd (ag w wr)) (fun i _=>ats.length-(intOf i).toNat)
 case atStart=>exact⟨0,rfl,Nat.zero_le _,by simp[Hd],M _ _⟩
 case round=>
  obtain⟨j,rfl,hj,HT,HF⟩:=hrel
  by_cases c1:j<ats.length
  ·have d1:decide ((j:Int)<(ats.length:Int))=true:=dT (by omega)
   have d1':(j:Int)<(ats.length:Int):=by omega
   obtain⟨g,o,rfl,hg,m0,m1,_,_⟩:=HA.out.get j c1;have e0:=HF.out.cell m0 (fun h=>h);have f0:=HF.out.cell m1 (fun h=>h);clear m0 m1;have HS:=hid (Rb ats j c1 (fun x=>x.1==nm));have Rc:=hid (show(ats[j].1==nm)=true→ats.any (fun x=>x.1==nm)=true from fun h=>List.any_eq_true.2 ⟨ats[j],List.getElem_mem c1,h⟩);generalize ats[j]=x at*;go_wp2_with fail
   refine(ZM x.1 nm _ p _ (HF.out.cell HP.out fun h=>h)).mono ?_;rintro _ w1 ⟨rfl,hf⟩;have aK:=hid (HF.out.trans hf);clear hf;cases h4:x.1==nm with
   |true=>
    have HI2:=hid (Rc.out h4);clear h4;go_wp2
    go_ret;exact⟨_,rfl,by rw[HI2.out];exact dT (by omega),aK.out⟩
   |false=>
    have HS2:=hid (show(ats.take (j+1)).any (fun x=>x.1==nm)=false by rw[HS.out,HT.out,h4];rfl);clear h4;go_wp2
    go_roundw
    case rel=>exact⟨j+1,by go_num,c1,HS2,aK⟩
    case measure=>simp[intOf];omega
  ·have d1:decide ((j:Int)<(ats.length:Int))=false:=dF (by omega)
   obtain rfl:j=ats.length:=by omega
   go_wp2
   go_ret;refine⟨_,rfl,?_,HF.out⟩;have:=HT.out;rw[List.take_length]at this;rw[this];rfl
theorem Pn(ats:aJ)(nm:List UInt8)(p:Nat)(va:Value)(w:World)(ha:gJ w ats va)(hp:w.cell? ⟨p,0,none⟩=some (.string ⟨nm.toArray⟩)):
  Calls Tryz.prog 145 #[va,.func (.func 146) #[] #[.pointer (some ⟨p,0,none⟩)]] w fun e w'=>e=.returned (.bool (ats.any (fun x=>x.1==nm)))∧ag w w':=by
 obtain⟨A,ca,rfl⟩:=ha.slice;have HA:=hid ha;have HP:=hid hp;clear ha hp;go_enter Tryz.func145,Tryz.ntmps145;go_wp2_with fail
 refine(Xj ats nm p _ _ HA.out HP.out).mono ?_;rintro _ w1 ⟨k,rfl,hk,hf⟩;have HF:=hid hf;have HK:=hid hk;clear hf hk;go_wp2
 go_ret;exact⟨ai _ _ HK.out,HF.out⟩
theorem Kj(ats:aJ)(nm:List UInt8)(va:Value)(w:World)(ha:gJ w ats va):
  Calls Tryz.prog 117 #[va,.string ⟨nm.toArray⟩] w fun e w'=>e=.returned (.bool (ats.any (fun x=>x.1==nm)))∧ag w w':=by
 obtain⟨A,ca,rfl⟩:=ha.slice;have HA:=hid ha;clear ha;go_enter Tryz.func117,Tryz.ntmps117;go_wp2_with fail
 refine(Pn ats nm w.heap.size _ _ (by exact HA.out.fresh aF) (by exact(af.new _ _ _).cell 0)).mono ?_;rintro _ w1 ⟨rfl,hf⟩;have HF:=hid (show ag w w1 from qV hf);clear hf;go_wp2
 go_ret;exact⟨rfl,HF.out⟩
def wS(w:World)(b:Nat):Prop:=∀o x,w.cell? ⟨b,o,none⟩≠some (.string x)
theorem wS.int{w:World}{c:Nat}{k:Int}(h:af w c 3 #[.int .i64 k]):wS w c:=by
 intro o x hx;rw[h.cell]at hx
 match o with
 |0=>cases hx
 |_+1=>cases hx
theorem gJ.turn{S:Nat→Prop}{W W':World}{ats:aJ}{v:Value}(h:gJ W ats v)(ht:Touch S W W')(hS:∀b,S b→wS W b):gJ W' ats v:=by
 obtain⟨A,cap,h1,h2,h3,h4⟩:=h;refine⟨A,cap,h1,h2,h3,h4.imp id ?_⟩;rintro⟨g,o,hA,hg,hc⟩;refine⟨g,o,hA,Nat.lt_of_lt_of_le hg ht.size,fun i hi=>?_⟩;have hn:¬S g:=fun hs=>hS g hs _ _ (hc i hi).1
 exact⟨ht.cell (hc i hi).1 hn,ht.cell (hc i hi).2 hn⟩
theorem gK.turn{S:Nat→Prop}{W W':World}{es:List E}{v:Value}(h:gK W es v)(ht:Touch S W W')(hS:∀b,S b→wS W b):gK W' es v:=by
 induction h with
 |nil A cap=>exact .nil A cap
 |row g o cap es al sl hg hl htx h0 h1 h2 h3 ha hk ih=>
  have hn:∀i,i<es.length→¬S g:=fun i hi hs=>hS g hs _ _ (h0 i hi)
  exact .row g o cap es al sl (Nat.lt_of_lt_of_le hg ht.size) hl htx (fun i hi=>ht.cell (h0 i hi) (hn i hi)) (fun i hi=>ht.cell (h1 i hi) (hn i hi)) (fun i hi=>ht.cell (h2 i hi) (hn i hi)) (fun i hi=>ht.cell (h3 i hi) (hn i hi)) (fun i hi=>(ha i hi).turn ht hS) ih
theorem jd.turn{S:Nat→Prop}{W W':World}{e:E}{va vk:Value}(h:jd W e va vk)(ht:Touch S W W')(hS:∀b,S b→wS W b):jd W' e va vk:=⟨h.1.turn ht hS,h.2.1.turn ht hS,h.2.2⟩
theorem gJ.take{W:World}{ats:aJ}{A:Option Addr}{len cap:Nat}(h:gJ W ats (.slice A len cap))(i:Nat)(hi:i≤ats.length):gJ W (ats.take i) (.slice A i cap):=by
 obtain⟨A',cap',h1,h2,h3,h4⟩:=h;cases h1;have hln:(ats.take i).length=i:=by rw[List.length_take];omega
 refine⟨A,cap,by rw[hln],⟨by rw[hln];omega,by rw[hln];omega⟩,fun x hx=>h3 x (List.mem_of_mem_take hx),?_⟩
 rcases h4 with rfl|⟨g,o,hA,hg,hc⟩
 ·exact .inl (by simp)
 ·refine .inr ⟨g,o,hA,hg,fun k hk=>?_⟩
  have:=hc k (by omega);simpa using this
theorem gJ.cap{W:World}{ats:aJ}{A:Option Addr}{len cap:Nat}(h:gJ W ats (.slice A len cap)):ats.length≤cap:=by
 obtain⟨A',cap',h1,h2,h3,h4⟩:=h;cases h1;exact h2.2
def gZ(w:World)(g o:Nat)(e:E)(va vk:Value):Prop:=g<w.heap.size∧w.cell? ⟨g,o,none⟩=some (.string ⟨e.name.toArray⟩)∧w.cell? ⟨g,o+1,none⟩=some va∧w.cell? ⟨g,o+2,none⟩=some vk∧w.cell? ⟨g,o+3,none⟩=some (.string ⟨e.text.toArray⟩)∧jd w e va vk
theorem gZ.turn{S:Nat→Prop}{w w':World}{g o:Nat}{e:E}{va vk:Value}(h:gZ w g o e va vk)(ht:Touch S w w')(hS:∀b,S b→wS w b):gZ w' g o e va vk:=by
 have hn:¬S g:=fun hs=>hS g hs _ _ h.2.1
 exact⟨Nat.lt_of_lt_of_le h.1 ht.size,ht.cell h.2.1 hn,ht.cell h.2.2.1 hn,ht.cell h.2.2.2.1 hn,ht.cell h.2.2.2.2.1 hn,h.2.2.2.2.2.turn ht hS⟩
theorem gZ.fresh{w w':World}{g o:Nat}{e:E}{va vk:Value}(h:gZ w g o e va vk)(ht:ag w w'):gZ w' g o e va vk:=h.turn ht fun _ hf=>hf.elim
theorem gZ.ne{w:World}{g o:Nat}{e:E}{va vk:Value}(h:gZ w g o e va vk){c:Nat}(hc:wS w c):g≠c:=fun he=>hc o _ (he▸h.2.1)
theorem gK.yw{W:World}{es:List E}{A:Option Addr}{len cap:Nat}(h:gK W es (.slice A len cap))(i:Nat)(hi:i<es.length):
  ∃g o va vk,A=some ⟨g,o,none⟩∧gZ W g (o+i*4) es[i] va vk:=by
 obtain⟨g,o,va,vk,hA,hg,h0,h1,h2,h3,hr⟩:=h.get i hi;exact⟨g,o,va,vk,hA,hg,h0,h1,h2,h3,hr⟩
namespace U
def oU(d k:Nat)(e:E):Bool:=proper e&&decide (d+depth e≤65)&&decide (k+count e≤3000)
def sW(d k:Nat)(l:List E):Bool:=uE l&&decide (d+aX l≤65)&&decide (k+az l≤3000)
theorem ab'(e:E):oU 1 0 e=valid e:=by
 unfold oU valid;rw[Bool.eq_iff_iff];simp only[Bool.and_eq_true,decide_eq_true_eq,Nat.zero_add];constructor
 ·rintro⟨⟨h1,h2⟩,h3⟩;exact⟨⟨h1,h3⟩,by omega⟩
 ·rintro⟨⟨h1,h2⟩,h3⟩;exact⟨⟨h1,by omega⟩,h2⟩
theorem aeS(d k:Nat)(e:E):oU d k e=(decide (k+1≤3000)&&decide (d≤64)&&qF e&&sW (d+1) (k+1) e.kids):=by
 unfold oU sW;rw[sD,oN,aN,Bool.eq_iff_iff];simp only[Bool.and_eq_true,decide_eq_true_eq];constructor
 ·rintro⟨⟨⟨h1,h2⟩,h3⟩,h4⟩;exact⟨⟨⟨by omega,by omega⟩,h1⟩,⟨h2,by omega⟩,by omega⟩
 ·rintro⟨⟨⟨h1,h2⟩,h3⟩,⟨h4,h5⟩,h6⟩;exact⟨⟨⟨h3,h4⟩,by omega⟩,by omega⟩
theorem Xk(d k:Nat)(l:List E)(j:Nat)(h:j<l.length):sW d k (l.take (j+1))=(sW d k (l.take j)&&oU d (k+az (l.take j)) l[j]):=by
 unfold sW oU;rw[o8,o8,Dy l j h,uA l j h,List.take_add_one,List.getElem?_eq_getElem h,List.all_append];simp only[Option.toList_some,List.all_cons,List.all_nil,Bool.and_true];rw[Bool.eq_iff_iff];simp only[Bool.and_eq_true,decide_eq_true_eq];constructor
 ·rintro⟨⟨⟨h1,h2⟩,h3⟩,h4⟩;exact⟨⟨⟨h1,by omega⟩,by omega⟩,⟨h2,by omega⟩,by omega⟩
 ·rintro⟨⟨⟨h1,h2⟩,h3⟩,⟨h4,h5⟩,h6⟩;exact⟨⟨⟨h1,h4⟩,by omega⟩,by omega⟩
theorem acd(d k:Nat)(l:List E)(j:Nat)(h:sW d k (l.take j)=false):sW d k l=false:=by
 rw[←Bool.not_eq_true]at h⊢;intro h';apply h
 unfold sW at h'⊢;simp only[Bool.and_eq_true,decide_eq_true_eq]at h'⊢;obtain⟨⟨h1,h2⟩,h3⟩:=h';have:=qy l j
 have hd:aX (l.take j)≤aX l:=by
  have e:l=l.take j++l.drop j:=(List.take_append_drop j l).symm;have:=EY (l.take j) (l.drop j);rw[←e]at this;omega
 refine⟨⟨?_,by omega⟩,by omega⟩;rw[o8]at h1⊢;rw[List.all_eq_true]at h1⊢;exact fun x hx=>h1 x (List.mem_of_mem_take hx)
theorem UC:jY []=true:=rfl
theorem Re(l:aJ)(j:Nat)(h:j<l.length):jY (l.take (j+1))=(jY (l.take j)&&(jH l[j].1&&fu l[j].2&&!(l.take j).any (fun x=>x.1==l[j].1))):=by
 unfold jY;rw[List.take_add_one,List.getElem?_eq_getElem h,List.all_append,List.map_append];simp only[Option.toList_some,List.all_cons,List.all_nil,Bool.and_true,List.map_cons,List.map_nil];rw[Bool.eq_iff_iff];simp only[Bool.and_eq_true,decide_eq_true_eq,Bool.not_eq_true',List.any_eq_false,List.nodup_append,List.mem_map,List.mem_singleton,beq_iff_eq];constructor
 ·rintro⟨⟨h1,h2,h3⟩,h4,h5,h6⟩
  refine⟨⟨h1,h4⟩,⟨h2,h3⟩,fun x hx he=>?_⟩;exact h6 _ ⟨x,hx,rfl⟩ _ rfl he
 ·rintro⟨⟨h1,h4⟩,⟨h2,h3⟩,h5⟩
  refine⟨⟨h1,h2,h3⟩,h4,by simp,?_⟩;rintro _ ⟨x,hx,rfl⟩ _ rfl he;exact h5 x hx he
theorem E9(l:aJ)(j:Nat)(h:jY (l.take j)=false):jY l=false:=by
 rw[←Bool.not_eq_true]at h⊢;intro h';apply h
 unfold jY at h'⊢;simp only[Bool.and_eq_true,decide_eq_true_eq]at h'⊢;obtain⟨h1,h2⟩:=h';refine⟨?_,?_⟩
 ·rw[List.all_eq_true]at h1⊢
  exact fun x hx=>h1 x (List.mem_of_mem_take hx)
 ·rw[List.map_take]
  exact(List.take_sublist _ _).nodup h2
end U
end
section
open Go.RowKit
theorem LG{P:Program}{Q:Exit→Act→World→Prop}{id:Nat}{a:Act}{w:World}{l:List Oper}(p:gq)(ns:List Nat)(t:Nat)(fin:Array Bool)(C2:World→Prop)(p2:gq)(Rf:List Nat)(Kk:Array Bool)(hm:P.follows .mixedOrders=true)(hQ:∀c a d v w,Q (.panic c) (Act.put a d v) w→Q (.panic c) a w)
  (hB:(Region.noSelect l.toArray&&decide (p.len+(p2.len+1)=l.toArray.size)&&p.within ns&&nZ .any l.toArray fin p (Array.replicate l.toArray.size false)&&qi .any l.toArray ns (some t) (Array.replicate l.toArray.size false)&&
   decide (Region.ready .any l.toArray fin=[t])&&!ns.contains t&&p2.within Rf&&nZ .any l.toArray Kk p2 (fin.setIfInBounds t true)&&qi .any l.toArray Rf none (fin.setIfInBounds t true)&&(Region.ready .any l.toArray Kk).isEmpty)=true)
  (h:fK P l Q (fun w'=>∃p:Regrown,w'=Go.Sort.grow (redrawn w p.d) p.os) (fun a' w'=>wpList P l.toArray (Exit.then (fun a'' w''=>C2 w''∧fK P l Q C2 (fun a3 w3=>Q .normal a3 w3) p2 a'' w'') Q) (pick l [t]) a' w') p a (w.drewN 1)):(Code.region id l.toArray true).wp P Q a w:=by
 simp only[Bool.and_eq_true,decide_eq_true_eq,Bool.not_eq_true',List.isEmpty_iff]at hB;obtain⟨⟨⟨⟨⟨⟨⟨⟨⟨⟨hsel,hn⟩,hin⟩,hp⟩,hs⟩,hr⟩,ht⟩,hin2⟩,hp2⟩,hs2⟩,hr2⟩:=hB;refine wp_region_any hm ?_;rw[←hn];rw[←hn]at hp hs
 have hz:nC .any l.toArray ns (Array.replicate (p.len+(p2.len+1)) false) (Array.replicate (p.len+(p2.len+1)) false):=
  ⟨⟨by simp[hn],fun j oj _ hl=>by rw[qB]at hl;cases hl⟩,fun _ h=>h,fun _ h=>.inl h⟩
 have hz':=y7 p _ hin hz hp;have htr:t∈Region.ready .any l.toArray fin:=by rw[hr];simp
 have htn:t∉ns:=by
  intro hx;rw[List.contains_iff_mem.2 hx]at ht;cases ht
 obtain⟨_,ot,hot,_⟩:=mem_ready.1 htr;have:=lG (P:=P) (Q:=Q) (fin:=fin) hsel hQ hs (by rw[hr];intro j hj;rw[List.mem_singleton.1 hj];exact htn) p _ a (w.drewN 1) hin hz hp (mE.drew w) h;refine nL (g:=p2.len+1) (fun listed' a' w' _ hL=>?_) p.len _ a _ (mE.drew w) this;refine wpAny_all (rs:=[t]) (by rw[hL.1];exact hr) (by simp) (fun i hi=>?_);rw[List.mem_singleton.1 hi,hL.1];refine wpOp_mono (fun a'' w'' h''=>?_) (jD hot hL.2);have hz2:nC .any l.toArray Rf (fin.setIfInBounds t true) (fin.setIfInBounds t true):=⟨hz'.closed.put htr,fun _ h=>h,fun _ h=>.inl h⟩;have h2:=lG (P:=P) (Q:=Q) (fin:=Kk) hsel hQ hs2 (by rw[hr2];simp) p2 _ a'' w'' hin2 hz2 hp2 h''.1 h''.2;exact nL (g:=0) (fun listed' a' w' _ hL=>wpAny_done (by rw[hL.1];exact hr2) hL.2 0) p2.len _ a'' _ h''.1 h2
theorem BU{P:Program}{Q:Exit→Act→World→Prop}{C C2:World→Prop}{L2:Act→World→Prop}{p2:gq}{l:List Oper}{t:Nat}{o:Oper}{a:Act}{w:World}(ho:l[t]?=some o)
  (h:∀K:Act→World→Prop,(∀a w,C2 w→fK P l Q C2 L2 p2 a w→K a w)→wpList P l.toArray (Exit.then K Q) [o] a w):fK P l Q C (fun a' w'=>wpList P l.toArray (Exit.then (fun a'' w''=>C2 w''∧fK P l Q C2 L2 p2 a'' w'') Q) (pick l [t]) a' w') .nil a w:=by
 unfold fK;have hp:pick l [t]=[o]:=by simp[pick,ho]
 rw[hp];exact h _ (fun _ _ h1 h2=>⟨h1,h2⟩)
theorem CW{P:Program}{Q:Exit→Act→World→Prop}{id:Nat}{a:Act}{w:World}{l:List Oper}(C:World→Prop)(p:gq)(ns:List Nat)(t:Nat)(fin:Array Bool)(C2:World→Prop)(p2:gq)(Rf:List Nat)(Kk:Array Bool)(hm:P.follows .mixedOrders=true)(hQ:∀c a d v w,Q (.panic c) (Act.put a d v) w→Q (.panic c) a w)
  (hB:(Region.noSelect l.toArray&&decide (p.len+(p2.len+1)=l.toArray.size)&&p.within ns&&nZ .any l.toArray fin p (Array.replicate l.toArray.size false)&&qi .any l.toArray ns (some t) (Array.replicate l.toArray.size false)&&
   decide (Region.ready .any l.toArray fin=[t])&&!ns.contains t&&p2.within Rf&&nZ .any l.toArray Kk p2 (fin.setIfInBounds t true)&&qi .any l.toArray Rf none (fin.setIfInBounds t true)&&(Region.ready .any l.toArray Kk).isEmpty)=true)
  (hC:C (w.drewN 1)) (h:fK P l Q C (fun a' w'=>wpList P l.toArray (Exit.then (fun a'' w''=>C2 w''∧fK P l Q C2 (fun a3 w3=>Q .normal a3 w3) p2 a'' w'') Q) (pick l [t]) a' w') p a (w.drewN 1)):(Code.region id l.toArray true).wp P Q a w:=by
 simp only[Bool.and_eq_true,decide_eq_true_eq,Bool.not_eq_true',List.isEmpty_iff]at hB;obtain⟨⟨⟨⟨⟨⟨⟨⟨⟨⟨hsel,hn⟩,hin⟩,hp⟩,hs⟩,hr⟩,ht⟩,hin2⟩,hp2⟩,hs2⟩,hr2⟩:=hB;refine wp_region_any hm ?_;rw[←hn];rw[←hn]at hp hs
 have hz:nC .any l.toArray ns (Array.replicate (p.len+(p2.len+1)) false) (Array.replicate (p.len+(p2.len+1)) false):=
  ⟨⟨by simp[hn],fun j oj _ hl=>by rw[qB]at hl;cases hl⟩,fun _ h=>h,fun _ h=>.inl h⟩
 have hz':=y7 p _ hin hz hp;have htr:t∈Region.ready .any l.toArray fin:=by rw[hr];simp
 have htn:t∉ns:=by
  intro hx;rw[List.contains_iff_mem.2 hx]at ht;cases ht
 obtain⟨_,ot,hot,_⟩:=mem_ready.1 htr;have:=lG (P:=P) (Q:=Q) (fin:=fin) hsel hQ hs (by rw[hr];intro j hj;rw[List.mem_singleton.1 hj];exact htn) p _ a (w.drewN 1) hin hz hp hC h;refine nL (g:=p2.len+1) (fun listed' a' w' _ hL=>?_) p.len _ a _ hC this;refine wpAny_all (rs:=[t]) (by rw[hL.1];exact hr) (by simp) (fun i hi=>?_);rw[List.mem_singleton.1 hi,hL.1];refine wpOp_mono (fun a'' w'' h''=>?_) (jD hot hL.2);have hz2:nC .any l.toArray Rf (fin.setIfInBounds t true) (fin.setIfInBounds t true):=⟨hz'.closed.put htr,fun _ h=>h,fun _ h=>.inl h⟩;have h2:=lG (P:=P) (Q:=Q) (fin:=Kk) hsel hQ hs2 (by rw[hr2];simp) p2 _ a'' w'' hin2 hz2 hp2 h''.1 h''.2;exact nL (g:=0) (fun listed' a' w' _ hL=>wpAny_done (by rw[hL.1];exact hr2) hL.2 0) p2.len _ a'' _ h''.1 h2
structure Turned(S:Nat→Prop)(w0:World) where
 W:World
 ht:Touch S w0 W
instance{S:Nat→Prop}{w0:World}:Nonempty (Turned S w0):=⟨⟨w0,M _ _⟩⟩
theorem cT{S:Nat→Prop}{w0:World}{b i:Nat}{v:Value}(h:w0.cell? ⟨b,i,none⟩=some v)(hS:¬S b)(x:Turned S w0):x.W.cell? ⟨b,i,none⟩=some v:=x.ht.cell h hS
end
section
open Go.RowKit
open Xp (Rs bQ)
structure Xr(S:ByteArray)(g:Nat)(l:List UInt8)(c:Nat)(w:World):Prop where
 blk:af w g 95 #[.string S,.int .i64 ((S.size-l.length:Nat):Int),.int .i64 (c:Int)]
 Ef:bQ l S.data.toList
def flt(k:Nat):List PanicEntry:=[{v:=.iface 96 (.int .i64 (k:Int)),recovered:=false}]
def XS(S:ByteArray)(g:Nat)(w:World)(l:List UInt8)(e:Ending)(w':World):Prop:=e=.panicked (flt (S.size-l.length))∧Touch (fun b=>b=g) w w'
theorem Xr.fresh{S:ByteArray}{g:Nat}{l:List UInt8}{c:Nat}{w w':World}(h:Xr S g l c w)(hf:ag w w'):Xr S g l c w':=⟨hf.blk h.blk fun h=>h,h.Ef⟩
theorem Xr.move{S:ByteArray}{g:Nat}{l:List UInt8}{c:Nat}{w w':World}{X:Nat→Prop}(h:Xr S g l c w)(ht:Touch X w w')(hg:¬X g):Xr S g l c w':=⟨ht.blk h.blk hg,h.Ef⟩
theorem Xr.lt{S:ByteArray}{g:Nat}{l:List UInt8}{c:Nat}{w:World}(h:Xr S g l c w):g<w.heap.size:=h.blk.lt
theorem Xr.len{S:ByteArray}{g:Nat}{l:List UInt8}{c:Nat}{w:World}(h:Xr S g l c w):l.length≤S.size:=by
 have:=h.Ef.len;simpa using this
theorem BV{S:ByteArray}{b:UInt8}{l:List UInt8}(h:bQ (b::l) S.data.toList):∃hk:S.size-(b::l).length<S.size,S[S.size-(b::l).length]'hk=b∧S.size-(b::l).length+1=S.size-l.length:=by
 obtain⟨p,hp⟩:=h;have hl:S.data.toList.length=S.size:=by simp
 have hl2:S.size=p.length+(l.length+1):=by rw[←hl,hp,List.length_append,List.length_cons]
 have hk:S.size-(b::l).length=p.length:=by rw[List.length_cons];omega
 refine⟨by rw[hk];omega,?_,by rw[List.length_cons];omega⟩;have h1:=abu S (S.size-(b::l).length) (by rw[hk];omega);rw[←h1]
 have:∀(k:Nat) (hk2:k<S.data.toList.length),k=p.length→S.data.toList[k]=b:=by
  intro k hk2 e;subst e;simp only[hp];rw[List.getElem_append_right (Nat.le_refl _)];simp
 exact this _ _ hk
theorem fM{w:World}{g:Nat}{t:TypeId}{x0 x1 x2:Value}(h:af w g t #[x0,x1,x2]):
  w.cell? ⟨g,0,none⟩=some x0∧w.cell? ⟨g,1,none⟩=some x1∧w.cell? ⟨g,2,none⟩=some x2∧w.frozen? ⟨g,0,none⟩=false∧w.frozen? ⟨g,1,none⟩=false∧w.frozen? ⟨g,2,none⟩=false∧g<w.heap.size:=
 ⟨h.cell 0,h.cell 1,h.cell 2,h.frozen 0,h.frozen 1,h.frozen 2,h.lt⟩
theorem Xr.wG{S:ByteArray}{g:Nat}{b:UInt8}{l:List UInt8}{c:Nat}{w:World}(h:Xr S g (b::l) c w):Xr S g l c (w.setCell ⟨g,1,none⟩ (.int .i64 (((S.size-(b::l).length:Nat):Int)+1))):=by
 obtain⟨hk,_,hk2⟩:=BV h.Ef;refine⟨?_,(bQ.cons b).trans h.Ef⟩;have:=h.blk.put 1 (.int .i64 (((S.size-(b::l).length:Nat):Int)+1));rw[show(((S.size-(b::l).length:Nat):Int)+1)=((S.size-l.length:Nat):Int) by rw[←hk2];rfl]at this⊢;exact this
theorem qJ(S:ByteArray)(g:Nat)(l:List UInt8)(c:Nat)(w:World)(h:Xr S g l c w):Calls Tryz.prog 81 #[.pointer (some ⟨g,0,none⟩)] w fun e w'=>e=.panicked (flt (S.size-l.length))∧w'=w:=by
 obtain⟨q0,q1,q2,_,_,_,_⟩:=fM h.blk;unfold flt;generalize S.size-l.length=k at*;go_enter Tryz.func81,Tryz.ntmps81;go_wp2_with fail
 exact⟨rfl,rfl,rfl⟩
end
end Go.Proofs.YtcgbccfpcgaikaaGreatDoor
