/- Part 24 of 46 of a proof. No condition. -/
import Derived.Laws.Concat
import Derived.Test.YtcgbccfpcgaikaaGreatDoorYm23
set_option maxRecDepth 100000
set_option maxHeartbeats 4000000
namespace Go.Proofs.YtcgbccfpcgaikaaGreatDoor
section
open Go.RowKit
open Xp (Rs bQ white bB aR kz ZG ab5)
open U (E aJ)
theorem UJ(pe pa pr pv:Addr)(w:World):
  CallsD Tryz.prog 38 #[.pointer (some pe),.pointer (some pa),.pointer (some pr),.pointer (some pv)] .returning w fun e u' w'=>
   e=.returned (.tuple #[])∧u'=.returning∧w'=w:=by
 refine callsD_of_wpS Tryz.func38 rfl fun c₀ cs hu=>?_
 apply wpS_seq
 apply wpS_region
 simp[wpOpsS,go_sem,recoverD,hu,Tryz.ntmps38,Exit.thenS]
 refine wpS_of_wp ?_;show Code.wp Tryz.prog _ _ {tmps:=#[.pointer (some pe),.pointer (some pa),.pointer (some pr),.pointer (some pv),undef,undef,undef,.nilIface,undef,undef,undef,undef,undef,undef,undef,undef,undef,undef,undef],defers:=[]} w;go_wp2_with fail
 cases c₀;simp_all [bodyPostS,results,Tryz.results38]
theorem A7{w:World}{n:Nat}(hn:w.heap.size=n)(t:TypeId)(cs:Array Value):af (w.alloc (.cells cs t)) n t cs:=hn▸af.new w t cs
theorem XF(S:ByteArray)(x:E)(l9:List UInt8)(c9:Nat)(w:World)(hS:S.size≤1099511627776)(hr:kz S.data.toList=.ok x l9 c9):Calls Tryz.prog 22 #[.string S] w fun e w'=>∃va vk,e=.returned (.tuple #[ev x va vk,.int .i64 0,.int .i64 0])∧Made w w' fun W=>jd W x va vk:=by
 have HRR:=hid hr;clear hr;have hmf:∀(fn:Fn) (first cap:Array Value) (w:World),(Instr.makeFunc fn first cap).run Tryz.prog w=.ok (.func fn first cap) w:=fun _ _ _ _=>rfl
 have F7:=hid (show af (((((w.alloc (.cells Z 55)).alloc (.cells #[.int .i64 0] 3)).alloc (.cells #[.int .i64 0] 28)).alloc (.cells #[.string S,.int .i64 0,.int .i64 0] 95)).alloc (.cells #[.pointer (some ⟨w.heap.size+1+1+1,0,none⟩)] 93)) w.heap.size 55 Z from((((af.new w _ _).alloc _).alloc _).alloc _).alloc _);have HA0:=hid (show af (((((w.alloc (.cells Z 55)).alloc (.cells #[.int .i64 0] 3)).alloc (.cells #[.int .i64 0] 28)).alloc (.cells #[.string S,.int .i64 0,.int .i64 0] 95)).alloc (.cells #[.pointer (some ⟨w.heap.size+1+1+1,0,none⟩)] 93)) (w.heap.size+1) 3 #[.int .i64 0]from(((A7 (by simp) _ _).alloc _).alloc _).alloc _);have jV:=hid (show af (((((w.alloc (.cells Z 55)).alloc (.cells #[.int .i64 0] 3)).alloc (.cells #[.int .i64 0] 28)).alloc (.cells #[.string S,.int .i64 0,.int .i64 0] 95)).alloc (.cells #[.pointer (some ⟨w.heap.size+1+1+1,0,none⟩)] 93)) (w.heap.size+1+1) 28 #[.int .i64 0]from((A7 (by simp) _ _).alloc _).alloc _);have HG0:=hid (show af (((((w.alloc (.cells Z 55)).alloc (.cells #[.int .i64 0] 3)).alloc (.cells #[.int .i64 0] 28)).alloc (.cells #[.string S,.int .i64 0,.int .i64 0] 95)).alloc (.cells #[.pointer (some ⟨w.heap.size+1+1+1,0,none⟩)] 93)) (w.heap.size+1+1+1) 95 #[.string S,.int .i64 0,.int .i64 0]from(A7 (by simp) _ _).alloc _);have HP0:=hid (show af (((((w.alloc (.cells Z 55)).alloc (.cells #[.int .i64 0] 3)).alloc (.cells #[.int .i64 0] 28)).alloc (.cells #[.string S,.int .i64 0,.int .i64 0] 95)).alloc (.cells #[.pointer (some ⟨w.heap.size+1+1+1,0,none⟩)] 93)) (w.heap.size+1+1+1+1) 93 #[.pointer (some ⟨w.heap.size+1+1+1,0,none⟩)]from A7 (by simp) _ _);have jQ:=hid (show ag w (((((w.alloc (.cells Z 55)).alloc (.cells #[.int .i64 0] 3)).alloc (.cells #[.int .i64 0] 28)).alloc (.cells #[.string S,.int .i64 0,.int .i64 0] 95)).alloc (.cells #[.pointer (some ⟨w.heap.size+1+1+1,0,none⟩)] 93))from(((((M _ w).alloc _).alloc _).alloc _).alloc _).alloc _)
 go_enter_defers Tryz.func22,Tryz.ntmps22
 go_wp2_with fail
 generalize (((((w.alloc (.cells Z 55)).alloc (.cells #[.int .i64 0] 3)).alloc (.cells #[.int .i64 0] 28)).alloc (.cells #[.string S,.int .i64 0,.int .i64 0] 95)).alloc (.cells #[.pointer (some ⟨w.heap.size+1+1+1,0,none⟩)] 93))=w5 at F7 HA0 jV HG0 HP0 jQ⊢;have HX0:=hid (show Xr S (w.heap.size+1+1+1) S.data.toList 0 w5 from⟨by rw[show S.size-S.data.toList.length=0 by simp];exact HG0.out,bQ.refl _⟩);clear HG0;refine(acy S (w.heap.size+1+1+1) S.data.toList w5 hS ⟨_,_,_,HRR.out⟩ HX0.out).mono ?_;intro e w6 he;obtain⟨en,lF,qm,uh⟩:=x;rw[HRR.out]at he;obtain⟨ea,ek,rfl,ht,hst,hx⟩:=he;obtain⟨Aa,ca,Ht⟩:=hst.now.1.slice;obtain⟨Ab,cb,jW⟩:=hst.now.2.1.slice;simp only[E.kids,E.attrs]at Ht jW;subst Ht jW;unfold ev;simp only[E.name,E.text];have HE6:=hid (ht.blk F7.out fun h=>by omega);have HA6:=hid (ht.blk HA0.out fun h=>by omega);have Ei:=hid (ht.blk jV.out fun h=>by omega);have fI:=hid (jQ.out.trans' ht fun k hk=>.inr (by omega));have nV:=hid (show dz (fun k=>k<w5.heap.size) w6 fun W=>jd W (.mk en lF qm uh) (.slice Aa lF.length ca) (.slice Ab qm.length cb)from hst);have hsz:=HP0.out.lt;clear ht hst hx F7 HA0 jV HP0 jQ HX0;obtain⟨e0,e1,e2,e3,y0,y1,y2,y3,hlb⟩:=af.four HE6.out;have a0:w6.cell? ⟨w.heap.size+1,0,none⟩=some (.int .i64 0):=HA6.out.cell 0;have a1:=HA6.out.frozen 0;have r0:w6.cell? ⟨w.heap.size+1+1,0,none⟩=some (.int .i64 0):=Ei.out.cell 0;have r1:=Ei.out.frozen 0;go_wp2_with fail
 refine leaves_cons (f:=38) (args:=#[.pointer (some ⟨w.heap.size,0,none⟩),.pointer (some ⟨w.heap.size+1,0,none⟩),.pointer (some ⟨w.heap.size+1+1,0,none⟩),.pointer (some ⟨w.heap.size+1+1+1+1,0,none⟩)]) (by simp) (by simp[go_sem]) ?_;refine(UJ _ _ _ _ _).mono ?_;rintro e u' w7 ⟨rfl,rfl,hw⟩;clear e0 e1 e2 e3 y0 y1 y2 y3 hlb a0 a1 r0 r1;replace hw:w7=((aO w6 w.heap.size (.string ⟨en.toArray⟩) (.slice Aa lF.length ca) (.slice Ab qm.length cb) (.string ⟨uh.toArray⟩)).setCell ⟨w.heap.size+1,0,none⟩ (.int .i64 0)).setCell ⟨w.heap.size+1+1,0,none⟩ (.int .i64 0):=hw;have hE7:af w7 w.heap.size 55 #[.string ⟨en.toArray⟩,.slice Aa lF.length ca,.slice Ab qm.length cb,.string ⟨uh.toArray⟩]:=by rw[hw];exact((HE6.out.gH _ _ _ _).far (p:=⟨w.heap.size+1,0,none⟩) (by show w.heap.size≠w.heap.size+1;omega) _).far (p:=⟨w.heap.size+1+1,0,none⟩) (by show w.heap.size≠w.heap.size+1+1;omega) _
 have hA7:af w7 (w.heap.size+1) 3 #[.int .i64 0]:=by rw[hw];exact((HA6.out.uJ (by omega) _ _ _ _).put 0 _).far (p:=⟨w.heap.size+1+1,0,none⟩) (by show w.heap.size+1≠w.heap.size+1+1;omega) _
 have hR7:af w7 (w.heap.size+1+1) 28 #[.int .i64 0]:=by rw[hw];exact(((Ei.out.uJ (by omega) _ _ _ _).far (p:=⟨w.heap.size+1,0,none⟩) (by show w.heap.size+1+1≠w.heap.size+1;omega) _).put 0 _)
 have hT7:Touch (fun k=>k=w.heap.size∨k=w.heap.size+1∨k=w.heap.size+1+1) w6 w7:=by rw[hw];exact(((M (fun k=>k=w.heap.size∨k=w.heap.size+1∨k=w.heap.size+1+1) w6).aO (.inl (.inl rfl)) _ _ _ _).setCell (p:=⟨w.heap.size+1,0,none⟩) (.inl (.inr (.inl rfl))) _).setCell (p:=⟨w.heap.size+1+1,0,none⟩) (.inl (.inr (.inr rfl))) _
 clear hw HE6 HA6 Ei;obtain⟨e0,e1,e2,e3,_⟩:=af.four hE7;have a0:w7.cell? ⟨w.heap.size+1,0,none⟩=some (.int .i64 0):=hA7.cell 0;have r0:w7.cell? ⟨w.heap.size+1+1,0,none⟩=some (.int .i64 0):=hR7.cell 0;refine⟨.tuple #[.agg #[.string ⟨en.toArray⟩,.slice Aa lF.length ca,.slice Ab qm.length cb,.string ⟨uh.toArray⟩],.int .i64 0,.int .i64 0],by simp[results,Tryz.results22,go_sem,e0,e1,e2,e3,a0,r0],?_⟩;exact⟨.slice Aa lF.length ca,.slice Ab qm.length cb,rfl,fI.out.trans' hT7 fun k hk=>.inr (by omega),nV.out.step hT7 (fun i _ hi=>by show i<w5.heap.size;omega) fun i _ hi=>by show i<w5.heap.size;omega⟩
end
section
open Go.RowKit
abbrev Low(W0 w:World):Prop:=Touch (fun k=>W0.heap.size≤k) W0 w
theorem afZ{W0:World}{q:Addr}{v:Value}(h:W0.cell? q=some v):¬W0.heap.size≤q.block:=by
 have:=bL (a:=q) (v:=v) h;omega
theorem Low.cell{W0 w:World}(hl:Low W0 w){q:Addr}{v:Value}(h:W0.cell? q=some v):w.cell? q=some v:=Touch.cell hl h (afZ h)
theorem aT{w w':World}{a b c d:Addr}{x y z u:Value}(h:Low w w')(h0:w.cell? a=some x)(h1:w.cell? b=some y)(h2:w.cell? c=some z)(h3:w.cell? d=some u):
  w'.cell? a=some x∧w'.cell? b=some y∧w'.cell? c=some z∧w'.cell? d=some u:=⟨h.cell h0,h.cell h1,h.cell h2,h.cell h3⟩
theorem Low.fresh{W0 w w':World}(hl:Low W0 w)(hf:ag w w'):Low W0 w':=hl.trans' hf fun _ h=>h.elim
theorem aD.low{W0 w:World}{ks:List Tr.Nd}{v:Value}(h:aD W0 ks v)(hl:Low W0 w):aD w ks v:=by
 induction h with
 |nil A cap=>exact .nil A cap
 |row g o cap ks sl hg hln ht h0 h1 h2 h3 hk ih=>
  exact .row g o cap ks sl (Nat.lt_of_lt_of_le hg hl.size) hln ht (fun i hi=>hl.cell (h0 i hi)) (fun i hi=>hl.cell (h1 i hi)) (fun i hi=>hl.cell (h2 i hi)) (fun i hi=>hl.cell (h3 i hi)) ih
abbrev nv(n:Tr.Nd)(sl:Value):Value:=.agg #[.int .i64 n.kind,.string ⟨n.text.toArray⟩,.int .i64 n.ah,sl]
theorem fe{w:World}{B e size n g:Nat}{v:Value}{xs:List Value}(h:w.ownsRow B e size v n xs)(hg:v.ownBlock=some g):B≤g∧∃cur,w.heap[g]?=some (.cells cur e (0,0)):=by
 rcases h.2 with⟨h1,_⟩|⟨g',cap,cur,h1,h2,h3,_⟩
 ·rw[h1]at hg;cases hg
 ·rw[h1]at hg
  simp only[Value.ownBlock,Option.some.injEq]at hg;subst hg;exact⟨h2,cur,h3⟩
end
section
open Go.RowKit
open Tr (Nd)
theorem aag:(Tryz.prog.info? 24).map (fun i=>(i.zero,i.size,i.bytes))=some (some (.agg ZN),4,56):=by kernel_rfl
def nW(w w':World)(n:Nd)(v:Value):Prop:=∃sl,v=nv n sl∧ag w w'∧n.text.length≤maxLen∧dz (fun k=>k<w.heap.size) w' fun W=>aD W n.kids sl
theorem gQ.one{W:World}{n:Nd}{sl:Value}(h:aD W n.kids sl)(ht:n.text.length≤maxLen):gQ W [n] [.int .i64 n.kind,.string ⟨n.text.toArray⟩,.int .i64 n.ah,sl]:=⟨sl,[],rfl,h,ht,rfl⟩
def ja(B:Nat)(w:World)(ns:List Nd)(v:Value):Prop:=B≤w.heap.size∧∃cs,w.ownsRow B 24 4 v ns.length cs∧dz (fun k=>v.ownBlock=some k∨k<B) w fun W=>gQ W ns cs
theorem ja.nil{B:Nat}{w:World}(hB:B≤w.heap.size):ja B w [] (.slice none 0 0):=⟨hB,[],World.ownsRow_nil _ _ _ _,fun _ _=>rfl⟩
theorem ja.pY{B:Nat}{w:World}{ns:List Nd}{v:Value}(h:ja B w ns v):∀k,v.ownBlock=some k→B≤k∧k<w.heap.size:=fun k hk=>by
 obtain⟨_,cs,h1,_⟩:=h;exact h1.lt k hk
theorem ja.slice{B:Nat}{w:World}{ns:List Nd}{v:Value}(h:ja B w ns v):∃A cap,v=.slice A ns.length cap:=by
 obtain⟨_,cs,h1,_⟩:=h;exact mK h1
theorem ja.mv{B:Nat}{w w1:World}{ns:List Nd}{v:Value}{S:Nat→Prop}(h:ja B w ns v)(ht:Touch S w w1)(hS:∀k,S k→k<w.heap.size→k<B):ja B w1 ns v:=by
 obtain⟨hB,cs,h1,h2⟩:=h;refine⟨Nat.le_trans hB ht.size,cs,aQ h1 ht fun k hk hs=>?_,h2.step ht (fun i hi hs=>.inr (hS i hs hi)) (fun _ _ h=>h)⟩;have h3:=h1.lt k hk;have:=hS k hs h3.2;omega
theorem ja.fresh{B:Nat}{w w1:World}{ns:List Nd}{v:Value}(h:ja B w ns v)(ht:ag w w1):ja B w1 ns v:=h.mv ht fun _ h=>h.elim
theorem ja.rep{B:Nat}{w:World}{ns:List Nd}{v:Value}(h:ja B w ns v):aD w ns v:=by
 obtain⟨_,cs,h1,h2⟩:=h;exact h2.now.own h1
theorem ja.done{B:Nat}{w:World}{ns:List Nd}{v:Value}(h:ja B w ns v):dz (fun k=>k<B) w fun W=>aD W ns v:=fun _ hW=>(h.mv hW fun _ h _=>h).rep
section
variable {w:World} {ops:Array Oper} {rest:List Oper} {o:Oper} {a:Act} {Q:Exit→Act→World→Prop}
theorem qM(hgd:o.guard=none)(s x:Operand)
  (ho:o.op=.call {callee:=.builtin .append,args:=#[s,x],argTypes:=#[22,22]})
  {B n g:Nat} {ns:List Nd} {v:Value} (h:ja B w ns v) (hn:ns.length=n) (hs:a.eval s=v) (m:Nd) {sl:Value} (hb:af w g 24 #[.int .i64 m.kind,.string ⟨m.text.toArray⟩,.int .i64 m.ah,sl]) (hx:a.eval x=.slice (some ⟨g,0,none⟩) 1 1)
  (w0:Nat) (hB:B≤w0) (hown:∀k,v.ownBlock=some k→k<w0) (htl:m.text.length≤maxLen) (FZ:dz (fun k=>k<w0) w fun W=>aD W m.kids sl) (hlen:n<2^40)
  (hK:∀A cp w',ja B w' (ns++[m]) (.slice A (n+1) cp)→Touch (fun k=>v.ownBlock=some k) w w'→((Value.slice A (n+1) cp).ownBlock=v.ownBlock∨(Value.slice A (n+1) cp).ownBlock=some w.heap.size)→wpList Tryz.prog ops Q rest (a.put o.dst (.slice A (n+1) cp)) w'):wpList Tryz.prog ops Q (o::rest) a w:=by
 subst hn;obtain⟨hBw,cs,h1,h2⟩:=h;obtain⟨i,hi,hz0,hz1,hz2⟩:=info_parts aag;have hv:=FZ.now
 have h3:∀u∈[Value.int .i64 m.kind,.string ⟨m.text.toArray⟩,.int .i64 m.ah,sl],u.oneCell'=true:=by
  intro u hu;simp only[List.mem_cons,List.not_mem_nil,or_false]at hu
  rcases hu with rfl|rfl|rfl|rfl
  ·rfl
  ·rfl
  ·rfl
  ·exact hv.oneCell
 refine iL _ hgd s x 22 ho B 24 i _ 4 56 Tryz.underlying22 hi hz0 hz1 hz2 rfl (by decide) v ns.length cs hs h1 _ 1 _ hx (Src.uT hb rfl) h3 (by simp only[maxLen];omega) (by omega) hBw fun v' w' ho' hgr hv'=>?_
 obtain⟨A,cp,rfl⟩:=mK ho';have ht:Touch (fun k=>v.ownBlock=some k) w w':=Touch.grown (M _ _) hgr fun k hk=>.inl hk
 refine hK A cp w' ⟨Nat.le_trans hBw hgr.size,_,by rw[List.length_append];exact ho',?_⟩ ht hv'
 have hS:∀i,i<w.heap.size→((Value.slice A (ns.length+1) cp).ownBlock=some i∨i<B)→(v.ownBlock=some i∨i<B):=fun i hi hs=>by
  rcases hs with hs|hs
  ·rcases hv' with h6|h6<;>rw[h6]at hs
   ·exact .inl hs
   ·cases hs;omega
  ·exact .inr hs
 refine((h2.step ht (fun i _ hs=>.inl hs) hS).and (FZ.step ht (fun i hi hs=>hown i hs) fun i hi hs=>?_)).imp fun W ⟨h6,h7⟩=>h6.append (gQ.one h7 htl)
 rcases hS i hi hs with h6|h6
 ·exact hown i h6
 ·omega
end
end
namespace U
open Tr (Nd)
def nO(n:Bytes):Int:=if n=yt then 2 else if n=yu then 2 else if n=CU then 3 else if n=qG then 4 else 0
def fJ:aJ→Bytes→Bytes
 |[],_=>[]
 |x::l,nm=>if x.1=nm then x.2 else fJ l nm
def kK:Nd:=.mk 1 [] 0 []
def Jf:Nd:=.mk 0 [] 0 []
def nX(k:Int)(t:Bytes)(s:Nat):Bool:=Tr.valid (.mk 1 [] 0 [.mk k t 0 (List.replicate s kK)])
def L8(nm:Bytes)(n:Nat):Bool:=
 if nm=gU then true else if nm=aj then true else if nm=bq then true
 else if nm=bE then decide (1≤n)
 else if nm=dU then decide (1≤n)&&decide (n≤16)
 else if nm=lq then decide (n=2)else if nm=fZ then decide (n=2)else if nm=mW then decide (n=2)else if nm=mX then decide (n=2)
 else if nm=gN then decide (n=3)
 else if nm=fV then decide (n=1)else if nm=bI then decide (n=1)else if nm=aV then decide (n=1)
 else false
def nQ(nm:Bytes):Nat:=if nm=bI then 1 else if nm=aV then 2 else 0
def XG(nm:Bytes)(a:aJ):Bool:=
 if nm=bI then nX 10 (fJ a ji) 1
 else if nm=aV then decide ((fJ a qH).length=1)&&decide ((fJ a nR).length=1)&&nX 11 (fJ a qH++fJ a nR) 1
 else true
def lD:E→Bool
 |.mk n a ks t=>
  if nO n≠0 then(if n=yt then qX t else if n=yu then !qX t else true)&&a.isEmpty&&ks.isEmpty&&nX (nO n) t 0
  else t.isEmpty&&L8 n ks.length&&XG n a&&decide (a.length=nQ n)
def Ff:E→E→Bool
 |.mk n _ ks _,.mk m _ ls _=>
  if n=gU∨n=aj∨n=bq then !(decide (m=gU)||decide (m=aj)||decide (m=bq)||decide (m=dU))
  else if n=bE then decide (m=dU)&&(match ks with|.mk _ _ js _::_=>decide (ls.length=js.length)|[]=>false)
  else if n=dU then decide (m=bq)
  else decide (m=aj)
mutual
def oq:E→Bool
 |.mk n a ks t=>lD (.mk n a ks t)&&L9 (.mk n a ks t) ks
def L9(p:E):List E→Bool
 |[]=>true
 |x::xs=>Ff p x&&oq x&&L9 p xs
end
mutual
def vis:Bool→Nat→E→Bool×Nat
 |adm,k,.mk n a ks t=>if adm&&lD (.mk n a ks t)then af0 (.mk n a ks t) (k+1) ks else(false,k+1)
def af0:E→Nat→List E→Bool×Nat
 |_,k,[]=>(true,k)
 |p,k,x::xs=>match vis (Ff p x) k x with
  |(true,k')=>af0 p k' xs
  |(false,k')=>(false,k')
end
theorem uj(e:E):oq e=(lD e&&L9 e e.kids):=by cases e;rw[oq];rfl
theorem vY(p:E)(l:List E):L9 p l=l.all fun x=>Ff p x&&oq x:=by
 induction l with
 |nil=>rw[L9];rfl
 |cons x l ih=>rw[L9,ih,List.all_cons]
def aah(e:E):Int×Bool:=if(vis (decide (e.name=gU)) 0 e).1 then(0,false)else(((vis (decide (e.name=gU)) 0 e).2:Int)-1,true)
def Rw(n:Bytes):Int:=if n=lq then 5 else if n=mW then 7 else if n=mX then 8 else if n=gN then 9 else 0
def mkN(n:Bytes)(a:aJ)(t:Bytes)(rs cs:List Nd)(c:Nat):Nd:=
 if nO n≠0 then .mk (nO n) t 0 []
 else if n=fV then .mk 6 [] 0 (kK::rs.take 1)
 else if n=fZ then .mk 6 [] 0 ((rs.drop 1).take 1++rs.take 1)
 else if n=bI then .mk 10 (fJ a ji) 0 (rs.take 1)
 else if n=aV then .mk 11 (fJ a qH++fJ a nR) 0 (rs.take 1)
 else if n=bE then .mk 12 [] c cs
 else .mk (Rw n) [] 0 rs
def wT:List E→Nat
 |.mk _ _ ks _::_=>ks.length
 |[]=>0
mutual
def dX:E→Nd
 |.mk n a ks t=>mkN n a t (iN ks) (jL ks) (wT ks)
def bN:List E→List Nd
 |[]=>[]
 |x::xs=>dX x::bN xs
def iN:List E→List Nd
 |[]=>[]
 |.mk _ _ ks _::xs=>.mk 1 [] 0 (bN ks)::iN xs
def jL:List E→List Nd
 |[]=>[]
 |.mk _ _ ks _::xs=>iN ks++jL xs
end
def eG(e:E):Nd:=.mk 1 [] 0 (bN e.kids)
theorem zi(e:E):dX e=mkN e.name e.attrs e.text (iN e.kids) (jL e.kids) (wT e.kids):=by cases e;rw[dX];rfl
theorem Fg(l:List E):bN l=l.map dX:=by
 induction l with
 |nil=>rw[bN];rfl
 |cons x l ih=>rw[bN,ih];rfl
theorem sK(l:List E):iN l=l.map eG:=by
 induction l with
 |nil=>rw[iN];rfl
 |cons x l ih=>cases x;rw[iN,ih];rfl
theorem Fh(l:List E):jL l=l.flatMap fun x=>iN x.kids:=by
 induction l with
 |nil=>rw[jL];rfl
 |cons x l ih=>cases x;rw[jL,ih,List.flatMap_cons];rfl
def XH(e:E):Nd×Int×Int:=if valid e then(if(aah e).2 then(Jf,(aah e).1,19)else if Tr.valid (eG e)then(eG e,0,0)else(Jf,0,6))else(Jf,0,1)
end U
section
open Go.RowKit
open Tr (Nd)
open U (E aJ nO fJ)
theorem Ad(n:List UInt8):nO n=if(n==([109,105]:List UInt8))=true then 2 else if(n==([109,111]:List UInt8))=true then 2 else if(n==([109,110]:List UInt8))=true then 3 else if(n==([109,116,101,120,116]:List UInt8))=true then 4 else 0:=by
 unfold nO;simp only[beq_iff_eq,U.yt,U.yu,U.CU,U.qG];rfl
theorem Rx(n:List UInt8)(w:World):Calls Tryz.prog 125 #[.string ⟨n.toArray⟩] w fun e w'=>e=.returned (.int .i64 (nO n))∧w'=w:=by
 go_enter Tryz.func125,Tryz.ntmps125;cases h1:(n==([109,105]:List UInt8))with
 |false=>
  have QK:((⟨n.toArray⟩:ByteArray)==(⟨#[109,105]⟩:ByteArray))=false:=by rw[bS];exact h1
  have h1t:((⟨n.toArray⟩:ByteArray) !=(⟨#[109,105]⟩:ByteArray))=true:=by rw[bne,QK];rfl
  have h1l:(ByteArray.toList (⟨n.toArray⟩:ByteArray)==[109,105])=false:=by rw[ByteArray.toList_eq];exact h1
  cases h2:(n==([109,111]:List UInt8))with
  |false=>
   have Qr:((⟨n.toArray⟩:ByteArray)==(⟨#[109,111]⟩:ByteArray))=false:=by rw[bS];exact h2
   have h2t:((⟨n.toArray⟩:ByteArray) !=(⟨#[109,111]⟩:ByteArray))=true:=by rw[bne,Qr];rfl
   have h2l:(ByteArray.toList (⟨n.toArray⟩:ByteArray)==[109,111])=false:=by rw[ByteArray.toList_eq];exact h2
   cases h3:(n==([109,110]:List UInt8))with
   |false=>
    have h3s:((⟨n.toArray⟩:ByteArray)==(⟨#[109,110]⟩:ByteArray))=false:=by rw[bS];exact h3
    have h3t:((⟨n.toArray⟩:ByteArray) !=(⟨#[109,110]⟩:ByteArray))=true:=by rw[bne,h3s];rfl
    have h3l:(ByteArray.toList (⟨n.toArray⟩:ByteArray)==[109,110])=false:=by rw[ByteArray.toList_eq];exact h3
    cases h4:(n==([109,116,101,120,116]:List UInt8))with
    |false=>
     have QO:((⟨n.toArray⟩:ByteArray)==(⟨#[109,116,101,120,116]⟩:ByteArray))=false:=by rw[bS];exact h4
     have h4t:((⟨n.toArray⟩:ByteArray) !=(⟨#[109,116,101,120,116]⟩:ByteArray))=true:=by rw[bne,QO];rfl
     have h4l:(ByteArray.toList (⟨n.toArray⟩:ByteArray)==[109,116,101,120,116])=false:=by rw[ByteArray.toList_eq];exact h4
     go_wp2
     go_ret;exact⟨show _=Ending.returned (.int .i64 (nO n))from by rw[Ad];simp only[*]<;>rfl,rfl⟩
    |true=>
     have QO:((⟨n.toArray⟩:ByteArray)==(⟨#[109,116,101,120,116]⟩:ByteArray))=true:=by rw[bS];exact h4
     have h4t:((⟨n.toArray⟩:ByteArray) !=(⟨#[109,116,101,120,116]⟩:ByteArray))=false:=by rw[bne,QO];rfl
     have h4l:(ByteArray.toList (⟨n.toArray⟩:ByteArray)==[109,116,101,120,116])=true:=by rw[ByteArray.toList_eq];exact h4
     go_wp2
     go_ret;exact⟨show _=Ending.returned (.int .i64 (nO n))from by rw[Ad];simp only[*]<;>rfl,rfl⟩
   |true=>
    have h3s:((⟨n.toArray⟩:ByteArray)==(⟨#[109,110]⟩:ByteArray))=true:=by rw[bS];exact h3
    have h3t:((⟨n.toArray⟩:ByteArray) !=(⟨#[109,110]⟩:ByteArray))=false:=by rw[bne,h3s];rfl
    have h3l:(ByteArray.toList (⟨n.toArray⟩:ByteArray)==[109,110])=true:=by rw[ByteArray.toList_eq];exact h3
    go_wp2
    go_ret;exact⟨show _=Ending.returned (.int .i64 (nO n))from by rw[Ad];simp only[*]<;>rfl,rfl⟩
  |true=>
   have Qr:((⟨n.toArray⟩:ByteArray)==(⟨#[109,111]⟩:ByteArray))=true:=by rw[bS];exact h2
   have h2t:((⟨n.toArray⟩:ByteArray) !=(⟨#[109,111]⟩:ByteArray))=false:=by rw[bne,Qr];rfl
   have h2l:(ByteArray.toList (⟨n.toArray⟩:ByteArray)==[109,111])=true:=by rw[ByteArray.toList_eq];exact h2
   go_wp2
   go_ret;exact⟨show _=Ending.returned (.int .i64 (nO n))from by rw[Ad];simp only[*]<;>rfl,rfl⟩
 |true=>
  have QK:((⟨n.toArray⟩:ByteArray)==(⟨#[109,105]⟩:ByteArray))=true:=by rw[bS];exact h1
  have h1t:((⟨n.toArray⟩:ByteArray) !=(⟨#[109,105]⟩:ByteArray))=false:=by rw[bne,QK];rfl
  have h1l:(ByteArray.toList (⟨n.toArray⟩:ByteArray)==[109,105])=true:=by rw[ByteArray.toList_eq];exact h1
  go_wp2
  go_ret;exact⟨show _=Ending.returned (.int .i64 (nO n))from by rw[Ad];simp only[*]<;>rfl,rfl⟩
theorem uG(n:List UInt8)(k:Int)(h:nO n=k)(w:World):Calls Tryz.prog 125 #[.string ⟨n.toArray⟩] w fun e w'=>e=.returned (.int .i64 k)∧w'=w:=h▸Rx n w
theorem Ry(t:List UInt8)(w:World):Calls Tryz.prog 111 #[.string ⟨t.toArray⟩] w fun e w'=>e=.returned (.bool (U.qX t))∧w'=w:=Dz ⟨t.toArray⟩ w
theorem Pt(t:List UInt8)(w:World):Calls Tryz.prog 111 #[.string ⟨t.toArray⟩] w fun e w'=>e=.returned (.bool (U.qX t))∧ag w w':=
 (Ry t w).mono fun _ _ h=>⟨h.1,by rw[h.2];exact M _ _⟩
theorem XI(a:aJ)(nm:List UInt8)(j:Nat)(h:j<a.length)(hn:(a.take j).any (fun x=>x.1==nm)=false):(a[j].1=nm→fJ a nm=a[j].2)∧(a[j].1≠nm→(a.take (j+1)).any (fun x=>x.1==nm)=false):=by
 induction a generalizing j with
 |nil=>simp at h
 |cons x a ih=>
  cases j with
  |zero=>
   refine⟨fun hx=>?_,fun hx=>?_⟩
   ·rw[fJ,if_pos (by simpa using hx)];rfl
   ·simpa using hx
  |succ j=>
   simp only[List.take_succ_cons,List.any_cons,Bool.or_eq_false_iff,List.getElem_cons_succ]at hn⊢;have:=ih j (by simpa using h) hn.2;refine⟨fun hx=>?_,fun hx=>⟨hn.1,this.2 hx⟩⟩;rw[fJ,if_neg (by simpa using hn.1)];exact this.1 hx
theorem XJ(a:aJ)(nm:List UInt8)(hn:a.any (fun x=>x.1==nm)=false):fJ a nm=[]:=by
 induction a with
 |nil=>rfl
 |cons x a ih=>
  simp only[List.any_cons,Bool.or_eq_false_iff]at hn;rw[fJ,if_neg (by simpa using hn.1)];exact ih hn.2
theorem zl(e:E)(nm:List UInt8)(g o:Nat)(va vk:Value)(w:World)(he:gZ w g o e va vk):Calls Tryz.prog 127 #[.pointer (some ⟨g,o,none⟩),.string ⟨nm.toArray⟩] w fun x w'=>x=.returned (.string ⟨(fJ e.attrs nm).toArray⟩)∧ag w w':=by
 obtain⟨n,ats,ks,t⟩:=e;obtain⟨A,ca,hva⟩:=he.2.2.2.2.2.1.slice;replace hva:va=.slice A ats.length ca:=hva;subst hva;have hl1:ats.length≤maxLen:=by obtain⟨_,_,_,h,_⟩:=he.2.2.2.2.2.1;exact h.1
 unfold maxLen at hl1;have HA:=hid (show gJ w ats _ from he.2.2.2.2.2.1);obtain⟨hg,_,h1,_⟩:=he;show Calls _ _ _ _ (fun x w'=>x=.returned (.string ⟨(fJ ats nm).toArray⟩)∧ag w w');go_enter Tryz.func127,Tryz.ntmps127;go_wp2_with fail
 clear hg h1
 go_loopw [12] (fun i wr=>∃j:Nat,i=.int .i64 j∧j≤ats.length∧Hd ((ats.take j).any (fun x=>x.1==nm)=false)∧Hd (ag w wr)) (fun i _=>ats.length-(intOf i).toNat)
 case atStart=>exact⟨0,rfl,Nat.zero_le _,by simp[Hd],M _ _⟩
 case round=>
  obtain⟨j,rfl,hj,HT,HF⟩:=hrel
  by_cases c1:j<ats.length
  ·have d1:decide ((j:Int)<(ats.length:Int))=true:=dT (by omega)
   have d1':(j:Int)<(ats.length:Int):=by omega
   obtain⟨g,o,rfl,hg,m0,m1,_,_⟩:=HA.out.get j c1;have e0:=HF.out.cell m0 (fun h=>h);have f0:=HF.out.cell m1 (fun h=>h);clear m0 m1;have HS:=hid (XI ats nm j c1 HT.out);generalize ats[j]=x at*;cases h4:decide (x.1=nm)with
   |true=>
    have e1:(x.1==nm)=true:=by simpa using h4
    have HV:=hid (HS.out.1 (of_decide_eq_true h4));clear h4;go_wp2
    refine bodyPost_ret (results_tmp rfl _ _ _) rfl ?_;exact⟨by rw[HV.out];rfl,kV HF.out⟩
   |false=>
    have e1:(x.1==nm)=false:=by simpa using h4
    have HV:=hid (HS.out.2 (of_decide_eq_false h4));clear h4;go_wp2
    go_roundw
    case rel=>exact⟨j+1,by go_num,c1,HV,kV HF.out⟩
    case measure=>simp[intOf];omega
  ·have d1:decide ((j:Int)<(ats.length:Int))=false:=dF (by omega)
   obtain rfl:j=ats.length:=by omega
   have HV:=hid (XJ ats nm (by have:=HT.out;rwa [List.take_length]at this));go_wp2
   go_ret;exact⟨by rw[HV.out];rfl,HF.out⟩
theorem Hu(ks:List Nd)(A:Option Addr)(cap:Nat)(w:World)(hr:aD w ks (.slice A ks.length cap)):
  Calls Tryz.prog 151 #[.slice A ks.length cap] w fun e w'=>e=.returned (.bool (Tr.valid (.mk 1 [] 0 ks)))∧ag w w':=by
 have HR:=hid hr;clear hr;go_enter Tryz.func151,Tryz.ntmps151;go_wp2_with fail
 refine(CQ (.mk 1 [] 0 ks) _ _ HR.out (Nat.zero_le _)).mono ?_;rintro _ w2 ⟨rfl,hf2⟩;have bW:=hid hf2;clear hf2;go_wp2
 go_ret;exact⟨rfl,bW.out⟩
end
section
open Go.RowKit
open Tr (Nd)
theorem aD.acz{W:World}{g:Nat}{k c:Int}{s:List UInt8}{ks:List Nd}{v:Value}(h:af W g 24 #[.int .i64 k,.string ⟨s.toArray⟩,.int .i64 c,v])(hs:s.length≤maxLen)(hk:aD W ks v):aD W [.mk k s c ks] (.slice (some ⟨g,0,none⟩) 1 1):=by
 refine aD.row g 0 1 [.mk k s c ks] (fun _=>v) h.lt (show 1≤maxLen by decide) ?_ ?_ ?_ ?_ ?_ ?_
 all_goals (intro i hi;obtain rfl:i=0:=by simpa using hi)
 ·exact hs
 ·exact h.cell 0
 ·exact h.cell 1
 ·exact h.cell 2
 ·exact h.cell 3
 ·exact hk
theorem aD.acA{W:World}{g:Nat}{k c k' c':Int}{s s':List UInt8}{ks ks':List Nd}{v v':Value}(h:af W g 24 #[.int .i64 k,.string ⟨s.toArray⟩,.int .i64 c,v,.int .i64 k',.string ⟨s'.toArray⟩,.int .i64 c',v'])(hs:s.length≤maxLen)(hs':s'.length≤maxLen)
  (hk:aD W ks v) (hk':aD W ks' v'):aD W [.mk k s c ks,.mk k' s' c' ks'] (.slice (some ⟨g,0,none⟩) 2 2):=by
 refine aD.row g 0 2 [.mk k s c ks,.mk k' s' c' ks'] (fun i=>if i=0 then v else v') h.lt (show 2≤maxLen by decide) ?_ ?_ ?_ ?_ ?_ ?_
 all_goals (intro i hi;have hi2:i<2:=(by simpa using hi);obtain rfl|rfl:i=0∨i=1:=by omega)
 ·exact hs
 ·exact hs'
 ·exact h.cell 0
 ·exact h.cell 4
 ·exact h.cell 1
 ·exact h.cell 5
 ·exact h.cell 2
 ·exact h.cell 6
 ·exact h.cell 3
 ·exact h.cell 7
 ·exact hk
 ·exact hk'
end
section
open Go.RowKit
open Tr (Nd)
open U (E aJ nO fJ kK nX)
theorem aai(j:Nat):List.replicate j kK++[kK]=List.replicate (j+1) kK:=by
 rw[List.replicate_succ']
theorem A9(k:Int)(t:List UInt8)(s:Nat)(hs:s≤8)(ht:t.length≤maxLen)(w:World):Calls Tryz.prog 126 #[.int .i64 k,.string ⟨t.toArray⟩,.int .i64 (s:Int)] w fun e w'=>e=.returned (.bool (nX k t s))∧ag w w':=by
 have HT:=hid ht;clear ht;go_enter Tryz.func126,Tryz.ntmps126;go_wp2_with fail
 have HB0:=hid (af.new w 24 #[.int .i64 k,.string ⟨t.toArray⟩,.int .i64 0,.slice none 0 0]);have jQ:=hid ((M (fun _=>False) w).alloc (.cells #[.int .i64 k,.string ⟨t.toArray⟩,.int .i64 0,.slice none 0 0] 24));have HG0:=hid (ja.nil (B:=w.heap.size+1) (w:=w.alloc (.cells #[.int .i64 k,.string ⟨t.toArray⟩,.int .i64 0,.slice none 0 0] 24)) (by simp));generalize (w.alloc (.cells #[.int .i64 k,.string ⟨t.toArray⟩,.int .i64 0,.slice none 0 0] 24))=W1 at*
 go_loopw [12] (fun i wr=>∃(j:Nat) (A:Option Addr) (c:Nat),i=.int .i64 j∧j≤s∧Hd (af wr w.heap.size 24 #[.int .i64 k,.string ⟨t.toArray⟩,.int .i64 0,.slice A j c])∧Hd (ja (w.heap.size+1) wr (List.replicate j kK) (.slice A j c))∧Hd (ag w wr)) (fun i _=>s-(intOf i).toNat)
 case atStart=>exact⟨0,none,0,rfl,Nat.zero_le _,HB0,HG0,jQ⟩
 case round=>
  obtain⟨j,A,c,rfl,hj,HB,HG,HF⟩:=hrel;rename_i wr _
  by_cases c1:j<s
  ·have d1:decide ((j:Int)<(s:Int))=true:=dT (by omega)
   have jo:decide (j<s)=true:=dT c1;have d1':(j:Int)<(s:Int):=by omega
   obtain⟨q0,q1,q2,q3,z0,z1,z2,z3,hlt⟩:=af.four HB.out;have HOW:=hid HG.out.pY;have lg:=hid (show(List.replicate j kK).length=j from List.length_replicate);have kW:=hid (af.new wr 24 #[.int .i64 1,.string ⟨#[]⟩,.int .i64 0,.slice none 0 0]);have eY:=hid ((M (fun _=>False) wr).alloc (.cells #[.int .i64 1,.string ⟨#[]⟩,.int .i64 0,.slice none 0 0] 24));have xI:=hid HG.out.1
   go_wp2_with (at_builtin;go_loud (refine qM rfl (.tmp 15) (.tmp 17) rfl (HG.out.fresh eY.out) lg.out (by simp[Act.eval]) kK kW.out (by simp[Act.eval]) wr.heap.size xI.out (fun k hk=>(HOW.out k hk).2) (Nat.zero_le _) (fun W _=>aD.nil _ _) (by omega) ?_);intro A8 c8 w8 jI bR _;refine jw.mk ?_)
   have wI:=hid (show ja (w.heap.size+1) w8 (List.replicate (j+1) kK) (.slice A8 (j+1) c8) by rw[←aai];exact jI);have lT:=hid (bR.blk (eY.out.blk HB.out fun h=>h) fun h=>by have:=(HOW.out _ h).1;omega);have mZ:=hid (show ag w w8 from(HF.out.trans eY.out).trans' bR fun k hk=>.inr (by have:=(HOW.out _ hk).1;omega));clear jI bR q0 q1 q2 q3 z0 z1 z2 z3 hlt;obtain⟨q0,q1,q2,q3,z0,z1,z2,z3,hlt⟩:=af.four lT.out;refine jw.go ?_;go_wp2
   go_roundw
   case rel=>exact⟨j+1,A8,c8,by go_num,c1,hid (lT.out.put 3 _),hid (wI.out.mv ((M (fun k=>k=w.heap.size) w8).setCell (p:=⟨w.heap.size,3,none⟩) (.inl rfl) (.slice A8 (j+1) c8)) (fun k hk _=>by omega)),hid (mZ.out.setCell (p:=⟨w.heap.size,3,none⟩) (.inr (Nat.le_refl _)) _)⟩
   case measure=>simp[intOf];omega
  ·have d1:decide ((j:Int)<(s:Int))=false:=dF (by omega)
   have jo:decide (j<s)=false:=dF c1;obtain rfl:j=s:=by omega
   obtain⟨q0,q1,q2,q3,z0,z1,z2,z3,hlt⟩:=af.four HB.out;go_wp2_with fail
   have hr:=aD.acz (k:=k) (c:=0) (s:=t) (ks:=List.replicate j kK) (af.new wr 24 #[.int .i64 k,.string ⟨t.toArray⟩,.int .i64 0,.slice A j c]) HT.out (HG.out.rep.fresh ((M _ wr).alloc _));refine(Hu [.mk k t 0 (List.replicate j kK)] _ _ _ hr).mono ?_;rintro _ w3 ⟨rfl,hf3⟩;have bJ:=hid (HF.out.trans (Touch.pre hf3));clear hf3 hr;go_wp2
   go_ret;exact⟨rfl,bJ.out⟩
end
section
open Go.RowKit
open Tr (Nd)
open U (E aJ nO fJ kK nX qX)
def Oy:List (List UInt8):=[U.yt,U.yu,U.CU,U.qG,U.gU,U.aj,U.bq,U.bE,U.dU,U.lq,U.fZ,U.mW,U.mX,U.gN,U.fV,U.bI,U.aV]
theorem Hw{n:List UInt8}{a:aJ}{ks:List E}{t:List UInt8}(h:U.lD (.mk n a ks t)=true):n∈Oy:=by
 by_cases hn:n∈Oy
 ·exact hn
 ·simp only[Oy,List.mem_cons,not_or]at hn
  obtain⟨h1,h2,h3,h4,h5,h6,h7,h8,h9,h10,h11,h12,JF,GA,GD,h16,GG,_⟩:=hn;simp only[U.lD,nO,U.L8,if_neg h1,if_neg h2,if_neg h3,if_neg h4,if_neg h5,if_neg h6,if_neg h7,if_neg h8,if_neg h9,if_neg h10,if_neg h11,if_neg h12,if_neg JF,if_neg GA,if_neg GD,if_neg h16,if_neg GG]at h;simp at h
theorem acB(e:E)(g o:Nat)(va vk:Value)(w:World)(he:gZ w g o e va vk)(hal:(fJ e.attrs U.ji).length≤maxLen)(hok:U.lD e=true):Calls Tryz.prog 83 #[.pointer (some ⟨g,o,none⟩)] w fun x w'=>x=.returned (.bool true)∧ag w w':=by
 obtain⟨n,a,ks,t⟩:=e;obtain⟨A,ca,hva⟩:=he.2.2.2.2.2.1.slice;obtain⟨B,cb,hvb⟩:=he.2.2.2.2.2.2.1.slice;replace hva:va=.slice A a.length ca:=hva;replace hvb:vk=.slice B ks.length cb:=hvb;subst hva;subst hvb;have wL:=hid (show t.length≤maxLen from he.2.2.2.2.2.2.2.2);have HE:=hid he;obtain⟨_,a0,a1,a2,a3,_⟩:=he;simp only[E.name,E.text]at a0 a3;have Hy:=hid (fun(W:World)=>Rx n W);have hn:=Hw hok;simp only[Oy,List.mem_cons,List.not_mem_nil,or_false]at hn
 rcases hn with rfl|rfl|rfl|rfl|rfl|rfl|rfl|rfl|rfl|rfl|rfl|rfl|rfl|rfl|rfl|rfl|rfl
 all_goals simp[U.lD,nO,U.L8,U.XG,U.nQ,U.yt,U.yu,U.CU,U.qG,U.gU,U.aj,U.bq,U.bE,U.dU,U.lq,U.fZ,U.mW,U.mX,U.gN,U.fV,U.bI,U.aV]at hok a0 Hy
 iterate 2
  obtain⟨⟨⟨hlt,rfl⟩,rfl⟩,hv⟩:=hok;have C0:=hid (lJ (P:=Tryz.prog) w (fun w hw=>Pt t _));rw[hlt]at C0;simp only[List.length_nil]at a1 a2;go_enter Tryz.func83,Tryz.ntmps83;go_wp2_with fail
  refine(Hy.out _).mono ?_;rintro _ w1 ⟨rfl,hq⟩;replace hq:=hq.symm;subst hq;go_wp2_with fail
  have ga0:=cell_regrown a0;have ga1:=cell_regrown a1;have ga2:=cell_regrown a2;have ga3:=cell_regrown a3;refine wp_region_quiet_below (by kernel_rfl) (by kernel_rfl) ?_
  repeat(with_reducible refine wpQuiet_step (fun K hK=>?_);go_simp;first|(refine hK _ ?_;clear hK K)|(apply Exists.intro;refine⟨fun _=>?_,hK _ ?_⟩;(first|with_reducible exact C0.out _ _);clear hK K))
  refine wpQuiet_nil ?_;rintro w3 ⟨⟨_,_⟩,hW⟩;have bJ:=hid (show ag w w3 by rw[hW];exact aZ (below_regrown _ _ _));replace a0:=bJ.out.cell a0 (fun h=>h);replace a1:=bJ.out.cell a1 (fun h=>h);replace a2:=bJ.out.cell a2 (fun h=>h);replace a3:=bJ.out.cell a3 (fun h=>h);clear hW ga0 ga1 ga2 ga3 C0;go_wp2_with fail
  refine(A9 _ t 0 (by decide) wL.out _).mono ?_;rintro _ w2 ⟨rfl,hf⟩;rw[hv];have HF:=hid (bJ.out.trans hf);go_wp2_with fail
  go_ret;exact⟨rfl,(by first|exact HF.out|exact HF.out.alloc _|exact(HF.out.alloc _).alloc _|exact HF.out.drewN _|exact(HF.out.alloc _).drewN _|exact((HF.out.alloc _).alloc _).drewN _)⟩
 iterate 2
  obtain⟨⟨rfl,rfl⟩,hv⟩:=hok;simp only[List.length_nil]at a1 a2;go_enter Tryz.func83,Tryz.ntmps83;go_wp2_with fail
  refine(Hy.out _).mono ?_;rintro _ w1 ⟨rfl,hq⟩;replace hq:=hq.symm;subst hq;go_wp2_with fail
  refine wp_region_quiet_lit (by kernel_rfl) (by kernel_rfl) ?_
  repeat(with_reducible refine wpQuiet_step (fun K hK=>?_);go_simp;first|(refine hK _ ?_;clear hK K)|(apply Exists.intro;refine⟨fun _=>?_,hK _ ?_⟩;(fail);clear hK K))
  refine wpQuiet_nil ?_;rintro _ ⟨nq,rfl⟩;go_wp2_with fail
  refine(A9 _ t 0 (by decide) wL.out _).mono ?_;rintro _ w2 ⟨rfl,hf⟩;rw[hv];have HF:=hid (show ag w w2 from Touch.BD hf);go_wp2_with fail
  go_ret;exact⟨rfl,(by first|exact HF.out|exact HF.out.alloc _|exact(HF.out.alloc _).alloc _|exact HF.out.drewN _|exact(HF.out.alloc _).drewN _|exact((HF.out.alloc _).alloc _).drewN _)⟩
 iterate 11
  first
   |(obtain⟨rfl,rfl⟩:=hok)
   |(obtain⟨⟨rfl,h1,h2⟩,rfl⟩:=hok;have d1:decide ((1:Int)≤(ks.length:Int))=true:=dT (by omega);have d2:decide ((ks.length:Int)≤(16:Int))=true:=dT (by omega);have jo:decide (1≤ks.length)=true:=dT h1;have d2n:decide (ks.length≤16)=true:=dT h2)
   |(obtain⟨⟨rfl,h1⟩,rfl⟩:=hok;rw[h1]at a2)
   |(obtain⟨⟨rfl,h1⟩,rfl⟩:=hok;have d1:decide ((1:Int)≤(ks.length:Int))=true:=dT (by omega);have jo:decide (1≤ks.length)=true:=dT h1)
  simp only[List.length_nil]at a1;replace a3:w.cell? ⟨g,o+3,none⟩=some (.string ⟨#[]⟩):=a3;go_enter Tryz.func83,Tryz.ntmps83;go_wp2_with fail
  refine(Hy.out _).mono ?_;rintro _ w1 ⟨rfl,hq⟩;replace hq:=hq.symm;subst hq;go_wp2_with fail
  refine wp_region_quiet_lit (by kernel_rfl) (by kernel_rfl) ?_
  repeat(with_reducible refine wpQuiet_step (fun K hK=>?_);go_simp;first|(refine hK _ ?_;clear hK K)|(apply Exists.intro;refine⟨fun _=>?_,hK _ ?_⟩;(fail);clear hK K))
  refine wpQuiet_nil ?_;rintro _ ⟨nq,rfl⟩;go_wp2_with fail
  go_ret;exact⟨rfl,aF⟩
 rotate_left
 focus
  obtain⟨⟨⟨rfl,h1⟩,⟨hla,hlb⟩,hv⟩,h2⟩:=hok;rw[h1]at a2;rw[h2]at a1;replace a3:w.cell? ⟨g,o+3,none⟩=some (.string ⟨#[]⟩):=a3;have Hz:=hid (fun(W:World) (h:ag w W)=>zl _ U.qH g o _ _ W (HE.out.fresh h));have kW:=hid (fun(W:World) (h:ag w W)=>zl _ U.nR g o _ _ W (HE.out.fresh h));simp only[E.attrs]at Hz kW;generalize fJ a U.qH=av at*;generalize fJ a U.nR=bv at*;have ak5:((av.length:Int)==(1:Int))=true:=by rw[hla];rfl
  have ak6:((bv.length:Int)==(1:Int))=true:=by rw[hlb];rfl
  have hadd:=fun W:World=>run_string_add_lists (P:=Tryz.prog) W av bv (by omega) (by omega)
  go_enter Tryz.func83,Tryz.ntmps83;go_wp2_with fail
  refine(Hy.out _).mono ?_;rintro _ w1 ⟨rfl,hq⟩;replace hq:=hq.symm;subst hq;go_wp2_with fail
  refine wp_region_quiet_lit (by kernel_rfl) (by kernel_rfl) ?_
  repeat(with_reducible refine wpQuiet_step (fun K hK=>?_);go_simp;first|(refine hK _ ?_;clear hK K)|(apply Exists.intro;refine⟨fun _=>?_,hK _ ?_⟩;(fail);clear hK K))
  refine wpQuiet_nil ?_;rintro _ ⟨nq,rfl⟩;go_wp2_with fail
  refine(Hz.out _ aF).mono ?_;rintro _ w2 ⟨rfl,hf⟩;replace hf:=show ag w w2 from Touch.BD hf
  replace a0:=hf.cell a0 (fun h=>h);replace a1:=hf.cell a1 (fun h=>h);replace a2:=hf.cell a2 (fun h=>h);replace a3:=hf.cell a3 (fun h=>h);have HF:=hid hf;clear hf;go_wp2_with fail
  refine(kW.out _ (by first|exact HF.out|exact HF.out.alloc _|exact(HF.out.alloc _).alloc _|exact HF.out.drewN _|exact(HF.out.alloc _).drewN _|exact((HF.out.alloc _).alloc _).drewN _)).mono ?_;rintro _ w3 ⟨rfl,hf3⟩;have hf:=HF.out.trans hf3;replace a0:=hf3.cell a0 (fun h=>h);replace a1:=hf3.cell a1 (fun h=>h);replace a2:=hf3.cell a2 (fun h=>h);replace a3:=hf3.cell a3 (fun h=>h);have bJ:=hid hf;clear hf hf3;go_wp2_with fail
  refine(A9 11 (av++bv) 1 (by decide) (by unfold maxLen;rw[List.length_append];omega) _).mono ?_;rintro _ w4 ⟨rfl,jf⟩;rw[hv];have hf:=bJ.out.trans jf;replace a0:=jf.cell a0 (fun h=>h);replace a1:=jf.cell a1 (fun h=>h);replace a2:=jf.cell a2 (fun h=>h);replace a3:=jf.cell a3 (fun h=>h);replace HF:=hid hf;clear hf jf;go_wp2_with fail
  go_ret;exact⟨rfl,(by first|exact HF.out|exact HF.out.alloc _|exact(HF.out.alloc _).alloc _|exact HF.out.drewN _|exact(HF.out.alloc _).drewN _|exact((HF.out.alloc _).alloc _).drewN _)⟩
 obtain⟨⟨⟨rfl,h1⟩,hv⟩,h2⟩:=hok;rw[h1]at a2;rw[h2]at a1;replace a3:w.cell? ⟨g,o+3,none⟩=some (.string ⟨#[]⟩):=a3;have Hz:=hid (fun(W:World) (h:ag w W)=>zl _ U.ji g o _ _ W (HE.out.fresh h));simp only[E.attrs]at Hz hal;have Rt:=hid hal;clear hal;generalize fJ a U.ji=av at*;go_enter Tryz.func83,Tryz.ntmps83;go_wp2_with fail
 refine(Hy.out _).mono ?_;rintro _ w1 ⟨rfl,hq⟩;replace hq:=hq.symm;subst hq;go_wp2_with fail
 refine wp_region_quiet_lit (by kernel_rfl) (by kernel_rfl) ?_
 repeat(with_reducible refine wpQuiet_step (fun K hK=>?_);go_simp;first|(refine hK _ ?_;clear hK K)|(apply Exists.intro;refine⟨fun _=>?_,hK _ ?_⟩;(fail);clear hK K))
 refine wpQuiet_nil ?_;rintro _ ⟨nq,rfl⟩;go_wp2_with fail
 refine(Hz.out _ aF).mono ?_;rintro _ w2 ⟨rfl,hf⟩;replace hf:=show ag w w2 from Touch.BD hf
 replace a0:=hf.cell a0 (fun h=>h);replace a1:=hf.cell a1 (fun h=>h);replace a2:=hf.cell a2 (fun h=>h);replace a3:=hf.cell a3 (fun h=>h);have HF:=hid hf;clear hf;go_wp2_with fail
 refine(A9 10 av 1 (by decide) Rt.out _).mono ?_;rintro _ w4 ⟨rfl,jf⟩;rw[hv];have hf:=HF.out.trans jf;replace a0:=jf.cell a0 (fun h=>h);replace a1:=jf.cell a1 (fun h=>h);replace a2:=jf.cell a2 (fun h=>h);replace a3:=jf.cell a3 (fun h=>h);replace HF:=hid hf;clear hf jf;go_wp2_with fail
 go_ret;exact⟨rfl,(by first|exact HF.out|exact HF.out.alloc _|exact(HF.out.alloc _).alloc _|exact HF.out.drewN _|exact(HF.out.alloc _).drewN _|exact((HF.out.alloc _).alloc _).drewN _)⟩
end
end Go.Proofs.YtcgbccfpcgaikaaGreatDoor
