/- Part 15 of 48 of a proof. No condition. -/
import Derived.Laws.IdiomStrings
import Derived.Laws.BytesArg
import Derived.Lib.ConvBytes
import Derived.Test.YtnbeemkfmlfgfaaGreatDoorTm14
set_option maxRecDepth 100000
set_option maxHeartbeats 4000000
namespace Go.Proofs.YtnbeemkfmlfgfaaGreatDoor
section
open Go.RowKit
open Xp (Rs aX gZ bn bY)
namespace Xp
theorem NI(c:Nat):∀(l p:List UInt8) (x:UInt8) (l2:List UInt8) (c2:Nat),bn c p l=.ok x l2 c2→l2.length<l.length
 |[],p,x,l2,c2,h=>by rw[bn]at h;cases h
 |b::l,p,x,l2,c2,h=>by
  rw[bn]at h;split at h
  ·cases h;rw[List.length_cons];omega
  ·split at h
   ·have:=NI c l _ x l2 c2 h
    rw[List.length_cons];omega
   ·cases h
theorem xA{n c:Nat}{l:List UInt8}{x:UInt8}{l2:List UInt8}{c2:Nat}(h:gZ n c l=.ok x l2 c2):l2.length<l.length:=by
 cases l with
 |nil=>cases h
 |cons b l=>
  have h:(if 200≤n∨b=60∨U.aK b=false then Rs.bad (b::l)else if b=38 then bn c [] (b::l)else .ok b l c)=.ok x l2 c2:=h;split at h
  ·cases h
  ·split at h
   ·exact NI c _ _ _ _ _ h
   ·cases h;rw[List.length_cons];omega
theorem BH{n c:Nat}{l:List UInt8}{x:UInt8}{l2:List UInt8}{c2:Nat}(h:gZ n c l=.ok x l2 c2):n<200:=by
 cases l with
 |nil=>cases h
 |cons b l=>
  have h:(if 200≤n∨b=60∨U.aK b=false then Rs.bad (b::l)else if b=38 then bn c [] (b::l)else .ok b l c)=.ok x l2 c2:=h;split at h
  ·cases h
  ·rename_i hn
   simp only[not_or]at hn;omega
theorem KR(c:Nat):∀(l p:List UInt8) (x:UInt8) (l2:List UInt8) (c2:Nat),bn c p l=.ok x l2 c2→c2=c
 |[],p,x,l2,c2,h=>by rw[bn]at h;cases h
 |b::l,p,x,l2,c2,h=>by
  rw[bn]at h;split at h
  ·cases h;rfl
  ·split at h
   ·exact KR c l _ x l2 c2 h
   ·cases h
theorem KS{n c:Nat}{l:List UInt8}{x:UInt8}{l2:List UInt8}{c2:Nat}(h:gZ n c l=.ok x l2 c2):c2=c:=by
 cases l with
 |nil=>cases h
 |cons b l=>
  have h:(if 200≤n∨b=60∨U.aK b=false then Rs.bad (b::l)else if b=38 then bn c [] (b::l)else .ok b l c)=.ok x l2 c2:=h;split at h
  ·cases h
  ·split at h
   ·exact KR c _ _ _ _ _ h
   ·cases h;rfl
theorem PZ(q:UInt8)(c:Nat):∀(m f:Nat) (acc l:List UInt8),l.length≤m→l.length<f→bY q c f acc l=bY q c (l.length+1) acc l:=by
 intro m
 induction m with
 |zero=>
  intro f acc l hm hf;obtain⟨f,rfl⟩:∃k,f=k+1:=⟨f-1,by omega⟩;have:l=[]:=List.length_eq_zero_iff.1 (by omega);subst this;rw[bY,bY]
 |succ m ih=>
  intro f acc l hm hf;obtain⟨f,rfl⟩:∃k,f=k+1:=⟨f-1,by omega⟩;cases l with
  |nil=>rw[bY,bY]
  |cons b l=>
   rw[bY,bY];split
   ·rfl
   ·cases hc:gZ acc.length c (b::l)with
    |bad l2=>rfl
    |ok x l2 c2=>
     have h1:=xA hc;rw[List.length_cons]at hm hf h1
     dsimp only
     rw[ih f (acc++[x]) l2 (by omega) (by omega),ih (b::l).length (acc++[x]) l2 (by omega) (by rw[List.length_cons];omega)]
theorem II(q:UInt8)(c:Nat)(f:Nat)(acc l:List UInt8)(h:l.length<f):bY q c f acc l=bY q c (l.length+1) acc l:=PZ q c _ f acc l (Nat.le_refl _) h
def fZ(q:UInt8)(c:Nat)(acc l:List UInt8):Rs (List UInt8):=bY q c (l.length+1) acc l
theorem sI(q:UInt8)(c:Nat)(acc:List UInt8):fZ q c acc []=.bad []:=by unfold fZ;rw[bY]
theorem xY(q:UInt8)(c:Nat)(acc l:List UInt8):fZ q c acc (q::l)=.ok acc (q::l) c:=by unfold fZ;rw[bY];exact if_pos rfl
theorem Ag{q:UInt8}{c:Nat}{acc l:List UInt8}{b:UInt8}(hb:¬b=q){l2:List UInt8}(hc:gZ acc.length c (b::l)=.bad l2):fZ q c acc (b::l)=.bad l2:=by unfold fZ;rw[bY,if_neg hb,hc]
theorem wm{q:UInt8}{c:Nat}{acc l:List UInt8}{b:UInt8}(hb:¬b=q){x:UInt8}{l2:List UInt8}{c2:Nat}(hc:gZ acc.length c (b::l)=.ok x l2 c2):fZ q c acc (b::l)=fZ q c (acc++[x]) l2:=by
 unfold fZ;rw[bY,if_neg hb,hc];exact II q c _ _ _ (xA hc)
end Xp
def afg(B:Nat)(w:World)(acc:List UInt8)(v:Value):Prop:=(acc=[]∧v=.slice none 0 0)∨
 ∃g cap cur fz,v=.slice (some ⟨g,0,none⟩) acc.length cap∧B≤g∧w.heap[g]?=some (.cells cur 5 fz)∧(fz.2=0∨cap≤fz.1)∧acc.length≤cap∧cap≤maxLen∧cur.size=cap∧cur.toList.take acc.length=Lib.byteCells acc
def lT(B:Nat)(w:World)(acc:List UInt8)(v:Value):Prop:=B≤w.heap.size∧afg B w acc v
theorem lT.nil{B:Nat}{w:World}(hB:B≤w.heap.size):lT B w [] (.slice none 0 0):=⟨hB,.inl ⟨rfl,rfl⟩⟩
theorem lT.jE{B:Nat}{w:World}{acc:List UInt8}{v:Value}(h:lT B w acc v):∀k,v.ownBlock=some k→B≤k∧k<w.heap.size:=by
 intro k hk
 rcases h.2 with⟨_,rfl⟩|⟨g,cap,cur,fz,rfl,hb,hg,_⟩
 ·cases hk
 ·cases hk
  exact⟨hb,(Array.getElem?_eq_some_iff.1 hg).1⟩
theorem lT.mv{B:Nat}{w w1:World}{acc:List UInt8}{v:Value}{S:Nat→Prop}(h:lT B w acc v)(ht:Touch S w w1)(hS:∀k,S k→k<w.heap.size→k<B):lT B w1 acc v:=by
 refine⟨Nat.le_trans h.1 ht.size,?_⟩
 rcases h.2 with h|⟨g,cap,cur,fz,rfl,hb,hg,r⟩
 ·exact .inl h
 ·have hl:=(Array.getElem?_eq_some_iff.1 hg).1
  exact .inr ⟨g,cap,cur,fz,rfl,hb,(ht.block g hl fun hs=>by have:=hS g hs hl;omega).trans hg,r⟩
theorem lT.fresh{B:Nat}{w w1:World}{acc:List UInt8}{v:Value}(h:lT B w acc v)(ht:ag w w1):lT B w1 acc v:=h.mv ht fun _ h=>h.elim
theorem lT.slice{B:Nat}{w:World}{acc:List UInt8}{v:Value}(h:lT B w acc v):∃A cap,v=.slice A acc.length cap:=by
 rcases h.2 with⟨rfl,rfl⟩|⟨g,cap,cur,fz,rfl,_⟩
 ·exact⟨none,0,rfl⟩
 ·exact⟨_,_,rfl⟩
theorem lT.conv(w:World)(s:ByteArray)(hs:s.size≤1099511627776):lT w.heap.size (Lib.bytesWorld w 5 s) s.data.toList (.slice (some ⟨w.heap.size,0,none⟩) s.size (grownCap w s.size 0 5))∧ag w (Lib.bytesWorld w 5 s):=by
 have hge:=grownCap_ge w s.size 0 5;have hcm:grownCap w s.size 0 5≤maxLen:=grownCap_le_maxLen w s.size 0 5 (by simp only[maxLen];omega);have hl:s.data.toList.length=s.size:=by simp
 have hcs:(Lib.bytesCells w 5 s).size=grownCap w s.size 0 5:=by
  unfold Lib.bytesCells;rw[Array.size_append,Array.size_map,Array.size_replicate];show s.size+_=_;omega
 refine⟨⟨by rw[Lib.bytesWorld_size];omega,.inr ⟨w.heap.size,grownCap w s.size 0 5,_,_,by rw[hl],Nat.le_refl _,Lib.bytesWorld_at_new w 5 s,.inr (by rw[hcs];exact Nat.le_refl _),by rw[hl];exact hge,hcm,hcs,?_⟩⟩,?_⟩
 ·unfold Lib.bytesCells
  rw[Array.toList_append,hl,List.take_append_of_le_length (by simp)];rw[List.take_of_length_le (by simp)];simp[Lib.byteCells]
 ·refine⟨?_,?_,?_,by rw[Lib.bytesWorld_size];omega,fun k hk _=>Lib.bytesWorld_at_old w 5 s k hk⟩
  all_goals
   unfold Lib.bytesWorld World.freeze;split<;>rfl
section
variable {w:World} {ops:Array Oper} {rest:List Oper} {o:Oper} {a:Act} {Q:Exit→Act→World→Prop}
theorem IJ{P:Program}{t ty e:TypeId}{i:TypeInfo}(ht:P.underlying t=some (.slice e))(hi:P.info? e=some i)(hs1:i.size=1){g n cap:Nat}{cur:Array Value}{fz:Nat×Nat}(hg:w.heap[g]?=some (.cells cur e fz))(hfz:fz.2=0∨cap≤fz.1)(hcs:cur.size=cap)
  (ad:Addr) (u:Value) (hu:w.cell? ad=some u) (h1:u.oneCell'=true) (hroom:n+1≤cap):
  (Builtin.append_ #[t,t] ty #[.slice (some ⟨g,0,none⟩) n cap,.slice (some ad) 1 1]).run P w=.ok (.slice (some ⟨g,0,none⟩) (n+1) cap) (w.setCell ⟨g,n,none⟩ u):=by
 have hf:=run_firstCells_some (P:=P) w 1 1 ad 1 1 [u] rfl (fun j x hx=>by
  match j,hx with
  |0,hx=>
   cases hx;have:ad.add 0=ad:=by unfold Addr.add;split<;>simp_all
   rw[this];exact hu)
 have hadd:(⟨g,n,none⟩:Addr).add 0=⟨g,n,none⟩:=by unfold Addr.add;split<;>simp_all
 have hcell:w.cell? ⟨g,n,none⟩=some cur[n]:=by
  have hi:n<cur.size:=by omega
  simp[World.cell?,hg,hi]
 have hfro:w.frozen? ⟨g,n,none⟩=false:=by
  obtain⟨lo,hi'⟩:=fz;simp only[World.frozen?,hg,Bool.and_eq_false_iff,decide_eq_false_iff_not]
  rcases hfz with h|h
  ·right;simp only at h;omega
  ·left;simp only at h;omega
 have hst:(store ((⟨g,n,none⟩:Addr).add 0) u).run P w=.ok () (w.setCell ⟨g,n,none⟩ u):=by
  rw[hadd,run_store P w _ u _ h1,hcell];simp[hfro]
 have NJ:(storeCells ⟨g,n,none⟩ [u] 0).run P w=.ok () (w.setCell ⟨g,n,none⟩ u):=by
  simp only[storeCells,Sem.run_bind,hst,Result.andThen_ok];rfl
 simp[Builtin.append_,run_underlying ht,sizeOf,typeInfo,hi,hs1,Builtin.lenOf,hroom,hf,Addr.add_lit,NJ]
theorem wpList_append_byte(hgd:o.guard=none)(s x:Operand)
  (ho:o.op=.call {callee:=.builtin .append,args:=#[s,x],argTypes:=#[65,65]})
  {B n g:Nat} {acc:List UInt8} {v:Value} (h:lT B w acc v) (hn:acc.length=n) (hs:a.eval s=v) (b:UInt8) (hb:O w g 5 #[.int .u8 (b.toNat:Int)]) (hx:a.eval x=.slice (some ⟨g,0,none⟩) 1 1) (hlen:n<2^40)
  (hK:∀A cp w',lT B w' (acc++[b]) (.slice A (n+1) cp)→Touch (fun k=>v.ownBlock=some k) w w'→wpList Tryz.prog ops Q rest (a.put o.dst (.slice A (n+1) cp)) w'):wpList Tryz.prog ops Q (o::rest) a w:=by
 subst hn;obtain⟨hBw,hOw⟩:=h;obtain⟨i,hi,hz0,hz1,hz2⟩:=info_parts MJ
 have own:∀v',w.ownsRow B 5 1 v' acc.length (Lib.byteCells acc)→v'=v→wpList Tryz.prog ops Q (o::rest) a w:=by
  intro v' h1 hv';subst hv';refine jT _ hgd s x 65 ho B 5 i _ 1 1 Tryz.underlying65 hi hz0 hz1 hz2 rfl (by decide) v' acc.length (Lib.byteCells acc) hs h1 _ 1 _ hx (Src.xR hb rfl) (by simp[Value.oneCell']) (by simp only[maxLen];omega) (by omega) hBw fun v2 w' ho' hgr hv2=>?_
  obtain⟨A,cp,rfl⟩:=rT ho';have ht:Touch (fun k=>v'.ownBlock=some k) w w':=Touch.grown (M _ _) hgr fun k hk=>.inl hk
  refine hK A cp w' ⟨Nat.le_trans hBw hgr.size,?_⟩ ht
  rcases ho'.2 with⟨h1,h2⟩|⟨g',cap,cur,h1,hB,hg',hn',hc',hcs',Iq⟩
  ·omega
  ·refine .inr ⟨g',cap,cur,(0,0),by rw[h1,List.length_append];rfl,hB,hg',.inl rfl,by rw[List.length_append];exact hn',hc',by simpa using hcs',?_⟩
   rw[List.length_append];simp only[Nat.mul_one]at Iq;rw[byteCells_snoc];exact Iq
 rcases hOw with⟨rfl,rfl⟩|⟨g',cap,cur,fz,rfl,hB,hg',hfz,hn',hc',hcs',Iq⟩
 ·exact own _ (World.ownsRow_nil _ _ _ _) rfl
 ·by_cases hroom:acc.length+1≤cap
  ·have hr:=IJ (P:=Tryz.prog) (ty:=o.type) Tryz.underlying65 hi hz1 hg' hfz hcs' ⟨g,0,none⟩ (.int .u8 (b.toNat:Int)) (by rw[hb.cell];rfl) rfl hroom
   refine wpList_plain hgd fun K hKK=>?_
   unfold Oper.wp execOp;simp only[ho,resolve,invoke,builtin,Sem.run_bind,Sem.run_pure,Result.andThen_ok,List.map_toArray,List.map_cons,List.map_nil,hs,hx,hr];refine hKK _ _ (hK (some ⟨g',0,none⟩) cap _ ⟨?_,.inr ⟨g',cap,cur.setIfInBounds acc.length (.int .u8 (b.toNat:Int)),fz,by rw[List.length_append];rfl,hB,?_,hfz,by rw[List.length_append];exact hroom,hc',by rw[Array.size_setIfInBounds];exact hcs',?_⟩⟩ ?_)
   ·simpa[World.setCell]using hBw
   ·simp[World.setCell,Array.getElem?_modify,hg']
   ·rw[Array.toList_setIfInBounds,List.length_append,byteCells_snoc,←Iq]
    show(cur.toList.set acc.length _).take (acc.length+1)=_;rw[List.take_add_one,List.take_set_of_le (Nat.le_refl _),List.getElem?_set_self (by simpa using(by omega:acc.length<cur.size))];rfl
   ·exact(M (fun k=>Value.ownBlock (.slice (some ⟨g',0,none⟩) acc.length cap)=some k) w).setCell (p:=⟨g',acc.length,none⟩) (.inl rfl) _
  ·have hxl:(Lib.byteCells acc).length=acc.length:=Lib.byteCells_length acc
   have holds:∀j u,(Lib.byteCells acc)[j]?=some u→w.cell? ((⟨g',0,none⟩:Addr).add j)=some u:=by
    intro j u hu;rw[Addr.add_mid,Nat.zero_add,cell_of_row w g' j cur 5 fz hg'];rw[←Iq,List.getElem?_take]at hu;split at hu
    ·simpa using hu
    ·cases hu
   have hge:=grownCap_ge w (acc.length+1) cap 5;have hcm:grownCap w (acc.length+1) cap 5≤maxLen:=grownCap_le_maxLen w (acc.length+1) cap 5 (by simp only[maxLen];omega)
   have hr:=run_append_grow (P:=Tryz.prog) w 65 o.type 5 i _ Tryz.underlying65 hi hz0 ⟨g',0,none⟩ acc.length cap (Lib.byteCells acc) (by rw[hz1,hxl,Nat.mul_one]) holds ⟨g,0,none⟩ 1 1 [.int .u8 (b.toNat:Int)] (by rw[hz1];rfl) (fun j u hu=>by
    match j,hu with
    |0,hu=>cases hu;rw[Addr.add_mid,Nat.zero_add,hb.cell];rfl) (by omega) (by simp only[maxLen]at hc';omega) (by rw[hz2];exact growslice_fits (by omega) (by omega))
   refine wpList_plain hgd fun K hKK=>?_
   unfold Oper.wp execOp;simp only[ho,resolve,invoke,builtin,Sem.run_bind,Sem.run_pure,Result.andThen_ok,List.map_toArray,List.map_cons,List.map_nil,hs,hx,hr];refine hKK _ _ (hK (some ⟨w.heap.size,0,none⟩) _ _ ⟨?_,.inr ⟨w.heap.size,_,_,(0,0),by rw[List.length_append];rfl,hBw,heap_alloc_new w.drew _,.inl rfl,by rw[List.length_append];exact hge,hcm,?_,?_⟩⟩ ?_)
   ·have:(w.drew).heap.size=w.heap.size:=rfl
    simp
    omega
   ·simp only[Array.size_append,List.size_toArray,size_zeroCells,hxl]
    have:(Value.int IntKind.u8 0).cells.size=1:=rfl;simp only[List.length_cons,List.length_nil,this];omega
   ·rw[List.length_append,byteCells_snoc,Array.toList_append,Array.toList_append]
    rw[List.take_append_of_le_length (by simp[hxl]),List.take_of_length_le (by simp[hxl])]
   ·exact((M _ _).drewN 1).alloc _
end
theorem lT.str{B:Nat}{w:World}{acc:List UInt8}{A:Option Addr}{n cap:Nat}(h:lT B w acc (.slice A n cap))(hn:acc.length=n):(convert 65 9 (.slice A n cap)).run Tryz.prog w=.ok (.string ⟨acc.toArray⟩) w:=by
 subst hn
 rcases h.2 with⟨h2,h1⟩|⟨g,cap',cur,fz,h1,hB,hg,_,_,_,_,Iq⟩
 ·injection h1 with e1 e2 e3
  subst e1;subst h2;exact run_convert_bytes_nil w 65 5 Tryz.underlying65 Tryz.underlying5 _ _ _ Tryz.underlying9
 ·cases h1
  refine run_convert_bytes_back w 65 9 5 ⟨g,0,none⟩ cap acc Tryz.underlying65 Tryz.underlying5 Tryz.underlying9 fun j hj=>?_
  rw[Addr.add_mid,Nat.zero_add,cell_of_row w g j cur 5 fz hg];have h3:(Lib.byteCells acc)[j]?=some (.int .u8 (acc[j].toNat:Int)):=by simp[Lib.byteCells,hj]
  rw[←Iq,List.getElem?_take]at h3;rw[if_pos hj]at h3;simpa using h3
end
section
open Go.RowKit
open Xp (Rs aX gZ bn bY aL jy)
open U (E aA)
def XA(S:ByteArray)(g:Nat)(w:World)(r:Rs (List UInt8×List UInt8))(e:Ending)(w':World):Prop:=match r with
 |.ok x l' c'=>e=.returned (.agg #[.string ⟨x.1.toArray⟩,.string ⟨x.2.toArray⟩])∧Touch (fun b=>b=g) w w'∧Xr S g l' c' w'
 |.bad l'=>XS S g w l' e w'
theorem O.Ee{w:World}{g:Nat}{t:TypeId}{x0 x1:Value}(h:O w g t #[x0,x1]):
  w.cell? ⟨g,0,none⟩=some x0∧w.cell? ⟨g,1,none⟩=some x1∧w.frozen? ⟨g,0,none⟩=false∧w.frozen? ⟨g,1,none⟩=false∧g<w.heap.size:=⟨h.cell 0,h.cell 1,h.frozen 0,h.frozen 1,h.lt⟩
def uK(nm:List UInt8)(c:Nat):Rs (List UInt8)→Rs (List UInt8×List UInt8)
 |.bad l4=>.bad l4
 |.ok v l4 _=>.ok (nm,v) (l4.drop 1) c
def uL(nm:List UInt8)(c:Nat):Rs Unit→Rs (List UInt8×List UInt8)
 |.bad l3=>.bad l3
 |.ok _ l3 _=>uK nm c (Xp.fZ 34 c [] l3)
def Mw(aB:aA)(nm:List UInt8)(c:Nat):List UInt8→Rs (List UInt8×List UInt8)
 |[]=>.bad []
 |b::l2=>if b≠61∨aB.any (fun x=>x.1==nm)=true then .bad (b::l2)else uL nm c (aL 34 c l2)
theorem sJ{aB:aA}{c:Nat}{l l1:List UInt8}(h:jy c l=.bad l1):Xp.gH aB c l=.bad l1:=by unfold Xp.gH;rw[h]
theorem ve{aB:aA}{c:Nat}{l nm l1:List UInt8}{c1:Nat}(h:jy c l=.ok nm l1 c1):Xp.gH aB c l=Mw aB nm c l1:=by
 unfold Xp.gH;rw[h];cases l1 with
 |nil=>rfl
 |cons b l2=>
  show(if _ then _ else _)=(if _ then _ else _);split
  ·rfl
  ·cases he:aL 34 c l2 with
   |bad l3=>rfl
   |ok u l3 c3=>
    cases ht:bY 34 c (l3.length+1) [] l3 with
    |bad l4=>simp only[uL,uK,Xp.fZ,ht]
    |ok v l4 c4=>simp only[uL,uK,Xp.fZ,ht]
theorem Vq{c:Nat}{l x l1:List UInt8}{c1:Nat}(h:jy c l=.ok x l1 c1):c1=c:=by
 cases l with
 |nil=>cases h
 |cons b l=>
  have h:(if U.letter b=true then Rs.ok ((b::l).takeWhile U.inner) ((b::l).dropWhile U.inner) c else .bad (b::l))=.ok x l1 c1:=h;split at h
  ·cases h;rfl
  ·cases h
theorem Vr(S:ByteArray)(g c:Nat)(l:List UInt8)(aB:aA)(va:Value)(w:World)(hS:S.size≤1099511627776)(has:aZ (fun b=>b=g) w fun W=>dW W aB va)(h:Xr S g l c w):Calls Tryz.prog 168 #[.pointer (some ⟨g,0,none⟩),va] w fun e w'=>XA S g w (Xp.gH aB c l) e w':=by
 have HX:=I h;have HAS:=I has;have hg0:=h.lt;obtain⟨A0,Vs,hva⟩:=has.now.slice;subst hva;clear h has;have dh:=I ((M (fun _=>False) w).alloc (.cells #[.string ⟨#[]⟩,.string ⟨#[]⟩] 79));have gm:=I (O.new w 79 #[.string ⟨#[]⟩,.string ⟨#[]⟩]);cases hnm:jy c l with
 |bad l1=>
  have aG:=I (show Xp.gH aB c l=.bad l1 from sJ hnm);go_enter Tryz.func168,Tryz.ntmps168;go_wp2_with fail
  refine(Bb S g c l _ hS (HX.J.fresh dh.J)).mono ?_;intro e w1 he;rw[hnm]at he;obtain⟨rfl,ht⟩:=he;refine⟨rfl,(?_:XA S g w (Xp.gH aB c l) _ _)⟩;rw[aG.J];exact⟨rfl,(dh.J.mono fun _ h=>h.elim).trans ht⟩
 |ok nm l1 c1=>
 have hc1:=Vq hnm;subst hc1;have ng:=I hnm;have HA1:=I (show Xp.gH aB c1 l=Mw aB nm c1 l1 from ve hnm);clear hnm;go_enter Tryz.func168,Tryz.ntmps168;go_wp2_with fail
 refine(Bb S g c1 l _ hS (HX.J.fresh dh.J)).mono ?_;intro e w1 he;rw[ng.J]at he;obtain⟨rfl,ht,hx⟩:=he;have bS:=I hx;have HT1:=I (show Touch (fun b=>b=g) w w1 from(dh.J.mono fun _ h=>h.elim).trans ht);have HR1:=I (ht.blk gm.J fun h=>by omega);clear ht hx dh gm HX ng;cases l1 with
 |nil=>
  have aG:=I (show Xp.gH aB c1 l=.bad []from HA1.J);go_wp2_with fail
  refine(iZ S g c1 _ bS.J).mono ?_;rintro _ w2 ⟨rfl,ht⟩;refine⟨rfl,(?_:XA S g w (Xp.gH aB c1 l) _ _)⟩;rw[aG.J];exact⟨rfl,HT1.J.trans ht⟩
 |cons b l2=>
 by_cases hb:b=61
 rotate_left
 focus
  have hbn:((b.toNat:Int) !=(61:Int))=true:=jU b 61 hb;have aG:=I (show Xp.gH aB c1 l=.bad (b::l2) by rw[HA1.J];exact if_pos (.inl hb));clear hb;go_wp2_with fail
  refine(bK S g c1 b l2 _ bS.J).mono ?_;rintro _ w2 ⟨rfl,hf⟩;have eT:=I (bS.J.fresh hf);have HT2:=I (HT1.J.trans (hf.mono fun _ h=>h.elim));clear hf;go_wp2_with fail
  refine(iq S g (b::l2) c1 _ eT.J).mono ?_;rintro _ w3 ⟨rfl,rfl⟩;refine⟨rfl,(?_:XA S g w (Xp.gH aB c1 l) _ _)⟩;rw[aG.J];exact⟨rfl,HT2.J⟩
 have hbn:((b.toNat:Int) !=(61:Int))=false:=jm b 61 hb;have afh:=I hb;clear hb;go_wp2_with fail
 refine(bK S g c1 b l2 _ bS.J).mono ?_;rintro _ w2 ⟨rfl,hf⟩;have eT:=I (bS.J.fresh hf);have HT2:=I (HT1.J.trans (hf.mono fun _ h=>h.elim));have HR2:=I (hf.blk HR1.J fun h=>h);clear hf bS HR1;go_wp2_with fail
 refine(G5 aB nm _ _ (HAS.J _ HT2.J)).mono ?_;rintro _ w3 ⟨rfl,hf⟩;have iP:=I (eT.J.fresh hf);have HT3:=I (HT2.J.trans (hf.mono fun _ h=>h.elim));have HR3:=I (hf.blk HR2.J fun h=>h);clear hf eT HR2 HT1 HT2;cases hh:aB.any (fun x=>x.1==nm)with
 |true=>
  have aG:=I (show Xp.gH aB c1 l=.bad (b::l2) by rw[HA1.J];exact if_pos (.inr hh));go_wp2_with fail
  refine(iq S g (b::l2) c1 _ iP.J).mono ?_;rintro _ w4 ⟨rfl,rfl⟩;refine⟨rfl,(?_:XA S g w (Xp.gH aB c1 l) _ _)⟩;rw[aG.J];exact⟨rfl,HT3.J⟩
 |false=>
 have HA2:=I (show Xp.gH aB c1 l=uL nm c1 (aL 34 c1 l2) by
  rw[HA1.J];exact if_neg (by rintro(h|h);exact h afh.J;rw[hh]at h;cases h))
 clear HA1 hh;obtain⟨q0,q1,q2,f0,f1,f2,hg⟩:=fV iP.J.blk;have hle:=iP.J.len;have hw:IntKind.i64.wrap (((S.size-(b::l2).length:Nat):Int)+1)=((S.size-(b::l2).length:Nat):Int)+1:=IntWalk.i64_in _ (by omega);have gD:=I iP.J.qh;have iU:=I (HT3.J.setCell (p:=⟨g,1,none⟩) (.inl rfl) (.int .i64 (((S.size-(b::l2).length:Nat):Int)+1)));have HR4:=I (HR3.J.far (p:=⟨g,1,none⟩) (by show _≠g;omega) (.int .i64 (((S.size-(b::l2).length:Nat):Int)+1)));generalize S.size-(b::l2).length=k at*;go_wp2_with fail
 generalize (w3.setCell ⟨g,1,none⟩ (.int .i64 ((k:Int)+1)))=w4 at gD iU HR4⊢;clear q0 q1 q2 f0 f1 f2 hg hle hw iP HT3 HR3;have adn:=I (show Calls Tryz.prog 109 #[.pointer (some ⟨g,0,none⟩),.int .u8 34] w4 fun e w'=>XU S g w4 (aL 34 c1 l2) e w' from qb S g c1 34 l2 w4 hS gD.J);refine adn.J.mono ?_;intro e w5 he;cases hr:aL 34 c1 l2 with
 |bad l3=>
  have aG:=I (show Xp.gH aB c1 l=.bad l3 by rw[HA2.J,hr];rfl);rw[hr]at he;obtain⟨rfl,ht⟩:=he;refine⟨rfl,(?_:XA S g w (Xp.gH aB c1 l) _ _)⟩;rw[aG.J];exact⟨rfl,iU.J.trans ht⟩
 |ok u l3 c3=>
 have hc3:=rU hr;subst hc3;have Vt:=I (show Xp.gH aB c3 l=uK nm c3 (Xp.fZ 34 c3 [] l3) by rw[HA2.J,hr];rfl);rw[hr]at he;obtain⟨rfl,ht,hx⟩:=he;have dI:=I hx;have eu:=I (iU.J.trans ht);have qj:=I (ht.blk HR4.J fun h=>by omega);have hbase:w.heap.size+1≤w5.heap.size:=by have:=qj.J.lt;omega
 clear ht hx hr gD iU HR4 HA2 adn;obtain⟨c,rfl⟩:∃c,c=c3:=⟨_,rfl⟩;go_wp2
 go_loopw [6] (fun v wr=>∃(acc l1:List UInt8) (A:Option Addr) (n cp:Nat),v=.slice A n cp∧Hd (acc.length=n)∧n≤1000∧Hd (Xp.fZ 34 c [] l3=Xp.fZ 34 c acc l1)∧Hd (lT (w.heap.size+1) wr acc (.slice A n cp))∧Hd (Touch (fun b=>b=g) w wr)∧Hd (Xr S g l1 c wr)∧Hd (O wr w.heap.size 79 #[.string ⟨#[]⟩,.string ⟨#[]⟩])) (fun _ wr=>S.size-posOf g wr)
 case atStart=>exact⟨[],l3,none,0,0,rfl,I rfl,by omega,I rfl,lT.nil hbase,eu,dI,qj⟩
 case round=>
  obtain⟨acc,l1,A,n,cp,rfl,kr,hn,jM,HG,HT,HX,HR⟩:=hrel;rename_i wr _;have HP:=I (jY HX.J);have hgs:=HX.J.lt;cases l1 with
  |nil=>
   have aG:=I (show Xp.gH aB c l=.bad [] by rw[Vt.J,jM.J,Xp.sI];rfl);go_wp2_with fail
   refine(iZ S g c _ HX.J).mono ?_;rintro _ w9 ⟨rfl,eY⟩;refine⟨rfl,(?_:XA S g w (Xp.gH aB c l) _ _)⟩;rw[aG.J];exact⟨rfl,HT.J.trans eY⟩
  |cons b l2=>
   by_cases hb:b=34
   ·have hbn:((b.toNat:Int) !=(34:Int))=false:=jm b 34 hb
    have Ef:=I (show Xp.fZ 34 c [] l3=.ok acc (34::l2) c by rw[jM.J,hb];exact Xp.xY 34 c acc l2);have HBQ:=I hb;clear hb;go_wp2_with fail
    refine(bK S g c b l2 _ HX.J).mono ?_;rintro _ w9 ⟨rfl,fE⟩;have jc:=I (HX.J.fresh fE);have bU:=I (HT.J.trans (fE.mono fun _ h=>h.elim));have uo:=I (fE.blk HR.J fun h=>h);have iE:=I (HG.J.fresh fE);have aG:=I (show Xp.gH aB c l=.ok (nm,acc) l2 c by rw[Vt.J,Ef.J];rfl);clear fE;obtain⟨q0,q1,q2,f0,f1,f2,hg⟩:=fV jc.J.blk;have hle:=jc.J.len;have hw:IntKind.i64.wrap (((S.size-(b::l2).length:Nat):Int)+1)=((S.size-(b::l2).length:Nat):Int)+1:=IntWalk.i64_in _ (by omega);have lC:=I jc.J.qh;have gq:=I (bU.J.setCell (p:=⟨g,1,none⟩) (.inl rfl) (.int .i64 (((S.size-(b::l2).length:Nat):Int)+1)));have QT:=I (uo.J.far (p:=⟨g,1,none⟩) (by show _≠g;omega) (.int .i64 (((S.size-(b::l2).length:Nat):Int)+1)));have hcv:=(iE.J.mv ((M (fun b=>b=g) w9).setCell (p:=⟨g,1,none⟩) (.inl rfl) (.int .i64 (((S.size-(b::l2).length:Nat):Int)+1))) fun k hk _=>by omega).str kr.J;generalize S.size-(b::l2).length=k at*;obtain⟨y0,y1,z0,z1,hgr⟩:=O.Ee uo.J;have aiW:w.heap.size≠g:=by omega
    have aix:g≠w.heap.size:=by omega
    go_wp2_with fail
    have QU:=I (show O _ w.heap.size 79 #[.string ⟨nm.toArray⟩,.string ⟨acc.toArray⟩]from(QT.J.put 0 (.string ⟨nm.toArray⟩)).put 1 (.string ⟨acc.toArray⟩));have Ah:=I (((M (fun k=>k=w.heap.size) (w9.setCell ⟨g,1,none⟩ (.int .i64 ((k:Int)+1)))).setCell (p:=⟨w.heap.size,0,none⟩) (.inl rfl) (.string ⟨nm.toArray⟩)).setCell (p:=⟨w.heap.size,1,none⟩) (.inl rfl) (.string ⟨acc.toArray⟩));obtain⟨r0,r1,_⟩:=O.Ee QU.J;refine bodyPost_ret (v:=.agg #[.string ⟨nm.toArray⟩,.string ⟨acc.toArray⟩]) (by simp[results,Tryz.results168,go_sem,r0,r1]) rfl ?_;rw[aG.J];exact⟨rfl,gq.J.trans' Ah.J fun k hk=>.inr (by omega),lC.J.move Ah.J (by omega)⟩
   ·have hbn:((b.toNat:Int) !=(34:Int))=true:=jU b 34 hb
    cases hr:gZ n c (b::l2)with
    |bad l7=>
     have aG:=I (show Xp.gH aB c l=.bad l7 by rw[Vt.J,jM.J,Xp.Ag hb (by rw[kr.J];exact hr)];rfl);clear hb;go_wp2_with fail
     refine(bK S g c b l2 _ HX.J).mono ?_;rintro _ w9 ⟨rfl,fE⟩;have jc:=I (HX.J.fresh fE);have bU:=I (HT.J.trans (fE.mono fun _ h=>h.elim));clear fE;go_wp2_with fail
     refine(Af S g c n (b::l2) _ hS (by omega) jc.J).mono ?_;intro e w3 he;rw[hr]at he;obtain⟨rfl,ht⟩:=he;refine⟨rfl,(?_:XA S g w (Xp.gH aB c l) _ _)⟩;rw[aG.J];exact⟨rfl,bU.J.trans ht⟩
    |ok x l7 c7=>
     have IK:=I (show Xp.fZ 34 c [] l3=Xp.fZ 34 c (acc++[x]) l7 by rw[jM.J];exact Xp.wm hb (by rw[kr.J];exact hr));have hn2:=Xp.BH hr;have hlt:=Xp.xA hr;have hc7:=Xp.KS hr;subst hc7;have HRR:=I hr;have yH:=I hlt;clear hb hr hlt;go_wp2_with fail
     refine(bK S g c7 b l2 _ HX.J).mono ?_;rintro _ w9 ⟨rfl,fE⟩;have jc:=I (HX.J.fresh fE);have bU:=I (HT.J.trans (fE.mono fun _ h=>h.elim));have iE:=I (HG.J.fresh fE);have uo:=I (fE.blk HR.J fun h=>h);clear fE;go_wp2_with fail
     refine(Af S g c7 n (b::l2) _ hS (by omega) jc.J).mono ?_;intro e w3 he;rw[HRR.J]at he;obtain⟨rfl,ht,hx⟩:=he;have iP:=I (hx.fresh ((M _ w3).alloc (.cells #[.int .u8 (x.toNat:Int)] 5)));have HT3:=I ((bU.J.trans ht).alloc (.cells #[.int .u8 (x.toNat:Int)] 5));have Vu:=I ((iE.J.mv ht fun k hk _=>by omega).fresh ((M _ w3).alloc (.cells #[.int .u8 (x.toNat:Int)] 5)));have dX:=I (O.new w3 5 #[.int .u8 (x.toNat:Int)]);have HR3:=I ((ht.blk uo.J fun h=>by omega).alloc (.cells #[.int .u8 (x.toNat:Int)] 5));clear ht hx
     go_wp2_with (at_builtin;go_loud (refine wpList_append_byte rfl (.tmp 31) (.tmp 36) rfl Vu.J kr.J (by simp[Act.eval]) x dX.J (by simp[Act.eval]) (by omega) ?_);intro A8 c8 w8 gJ bW;refine iC.mk ?_)
     have HOW:=I Vu.J.jE;have qM:=I (iP.J.move bW fun h=>by have:=(HOW.J _ h).1;omega);have oC:=I (show Touch (fun b=>b=g) w w8 from HT3.J.trans' bW fun k hk=>.inr (by have:=(HOW.J _ hk).1;omega));have nT:=I gJ;have qF:=I (bW.blk HR3.J fun h=>by have:=(HOW.J _ h).1;omega);have HM:=I (jY qM.J);clear gJ bW;refine iC.go ?_;go_wp2
     go_roundw
     case rel=>exact⟨acc++[x],l7,A8,n+1,c8,rfl,I (by rw[List.length_append,kr.J];rfl),by omega,IK,nT,oC,qM,qF⟩
     case measure=>
      rw[HM.J,HP.J];have h1:=HX.J.len;have h2:=yH.J;rw[List.length_cons]at*;omega
end
section
open Go.RowKit
open Xp (Rs aX gZ bY)
open U (E aA)
namespace Xp
theorem KT(q:UInt8)(c:Nat):∀(m:Nat) (l acc v l2:List UInt8) (c2:Nat),l.length≤m→fZ q c acc l=.ok v l2 c2→v.length+l2.length≤acc.length+l.length:=by
 intro m
 induction m with
 |zero=>
  intro l acc v l2 c2 hm h;have:l=[]:=List.length_eq_zero_iff.1 (by omega);subst this;rw[sI]at h;cases h
 |succ m ih=>
  intro l acc v l2 c2 hm h;cases l with
  |nil=>rw[sI]at h;cases h
  |cons b l=>
   by_cases hb:b=q
   ·subst hb
    rw[xY]at h;cases h;exact Nat.le_refl _
   ·cases hc:gZ acc.length c (b::l)with
    |bad l3=>rw[Ag hb hc]at h;cases h
    |ok x l3 c3=>
     rw[wm hb hc]at h;have h1:=xA hc;rw[List.length_cons]at hm h1⊢;have:=ih l3 (acc++[x]) v l2 c2 (by omega) h;rw[List.length_append]at this;simp only[List.length_cons,List.length_nil]at this;omega
end Xp
theorem Eg{c:Nat}{l x l1:List UInt8}{c1:Nat}(h:Xp.jy c l=.ok x l1 c1):x.length≤l.length∧l1.length≤l.length:=by
 cases l with
 |nil=>cases h
 |cons b l=>
  have h:(if U.letter b=true then Rs.ok ((b::l).takeWhile U.inner) ((b::l).dropWhile U.inner) c else .bad (b::l))=.ok x l1 c1:=h;split at h
  ·cases h
   have h1:((b::l).takeWhile U.inner++(b::l).dropWhile U.inner).length=(b::l).length:=by rw[List.takeWhile_append_dropWhile]
   rw[List.length_append]at h1;omega
  ·cases h
theorem Vv{aB:aA}{c:Nat}{l:List UInt8}{x:List UInt8×List UInt8}{l1:List UInt8}{c1:Nat}(h:Xp.gH aB c l=.ok x l1 c1):x.1.length≤l.length∧x.2.length≤l.length∧c1=c:=by
 cases hn:Xp.jy c l with
 |bad l2=>rw[sJ hn]at h;cases h
 |ok nm l2 c2=>
  rw[ve hn]at h;have hl:=Eg hn;cases l2 with
  |nil=>cases h
  |cons b l3=>
   have h:(if b≠61∨aB.any (fun x=>x.1==nm)=true then Rs.bad (b::l3)else uL nm c (Xp.aL 34 c l3))=.ok x l1 c1:=h;split at h
   ·cases h
   ·cases he:Xp.aL 34 c l3 with
    |bad l4=>rw[he]at h;cases h
    |ok u l4 c4=>
     rw[he]at h;have h:uK nm c (Xp.fZ 34 c [] l4)=.ok x l1 c1:=h;have h4:=(Xp.lg 34 c l3).len;rw[he]at h4;have h4:l4.length≤l3.length:=h4;cases ht:Xp.fZ 34 c [] l4 with
     |bad l5=>rw[ht]at h;cases h
     |ok v l5 c5=>
      rw[ht]at h;cases h;have h5:=Xp.KT 34 c _ l4 [] v l5 c5 (Nat.le_refl _) ht;have h6:=hl.2;simp only[List.length_cons,List.length_nil]at h5 h6;exact⟨hl.1,by show v.length≤_;omega,rfl⟩
def zA(aB:aA):List Value:=aB.flatMap fun x=>[.string ⟨x.1.toArray⟩,.string ⟨x.2.toArray⟩]
theorem IL:∀(aB:aA) (i:Nat) (hi:i<aB.length),(zA aB)[i*2]?=some (.string ⟨aB[i].1.toArray⟩)∧(zA aB)[i*2+1]?=some (.string ⟨aB[i].2.toArray⟩)
 |[],i,h=>by simp at h
 |x::l,0,_=>⟨rfl,rfl⟩
 |x::l,i+1,h=>by
  have:=IL l i (by simpa using h);rw[show(i+1)*2=i*2+2 by omega,show i*2+2+1=i*2+1+2 by omega];exact this
def lU(B:Nat)(w:World)(aB:aA)(v:Value):Prop:=B≤w.heap.size∧(∀x∈aB,x.1.length≤maxLen∧x.2.length≤maxLen)∧w.ownsRow B 79 2 v aB.length (zA aB)
theorem lU.nil{B:Nat}{w:World}(hB:B≤w.heap.size):lU B w [] (.slice none 0 0):=⟨hB,(fun _ h=>by cases h),World.ownsRow_nil _ _ _ _⟩
theorem lU.jE{B:Nat}{w:World}{aB:aA}{v:Value}(h:lU B w aB v):∀k,v.ownBlock=some k→B≤k∧k<w.heap.size:=fun k hk=>h.2.2.lt k hk
theorem lU.mv{B:Nat}{w w1:World}{aB:aA}{v:Value}{S:Nat→Prop}(h:lU B w aB v)(ht:Touch S w w1)(hS:∀k,S k→k<w.heap.size→k<B):lU B w1 aB v:=by
 refine⟨Nat.le_trans h.1 ht.size,h.2.1,fI h.2.2 ht fun k hk hs=>?_⟩;have h3:=h.2.2.lt k hk;have:=hS k hs h3.2;omega
theorem lU.fresh{B:Nat}{w w1:World}{aB:aA}{v:Value}(h:lU B w aB v)(ht:ag w w1):lU B w1 aB v:=h.mv ht fun _ h=>h.elim
theorem lU.slice{B:Nat}{w:World}{aB:aA}{v:Value}(h:lU B w aB v):∃A cap,v=.slice A aB.length cap:=rT h.2.2
theorem lU.rep{B:Nat}{w:World}{aB:aA}{v:Value}(h:lU B w aB v):dW w aB v:=by
 obtain⟨_,hx,ho⟩:=h
 rcases ho.2 with⟨rfl,h0⟩|⟨g,cap,cur,rfl,hB,hb,h1,h2,_⟩
 ·have:aB=[]:=List.length_eq_zero_iff.1 h0
  subst this;exact dW.nil _ _ _
 ·refine⟨_,cap,rfl,⟨Nat.le_trans h1 h2,h1⟩,hx,.inr ⟨g,0,rfl,(ho.lt g rfl).2,fun i hi=>?_⟩⟩
  obtain⟨c0,c1⟩:=IL aB i hi;have e0:=ho.cells (g:=g) rfl _ _ c0;have e1:=ho.cells (g:=g) rfl _ _ c1;rw[Addr.add_mid,Nat.zero_add]at e0 e1;rw[Nat.zero_add];exact⟨e0,e1⟩
theorem lU.NK{B:Nat}{w:World}{aB:aA}{v:Value}(h:lU B w aB v):aZ (fun k=>k<B) w fun W=>dW W aB v:=fun _ hW=>(h.mv hW fun _ h _=>h).rep
section
variable {w:World} {ops:Array Oper} {rest:List Oper} {o:Oper} {a:Act} {Q:Exit→Act→World→Prop}
theorem xZ(hgd:o.guard=none)(s x:Operand)
  (ho:o.op=.call {callee:=.builtin .append,args:=#[s,x],argTypes:=#[42,42]})
  {B n g:Nat} {aB:aA} {v:Value} (h:lU B w aB v) (hn:aB.length=n) (hs:a.eval s=v) (y:List UInt8×List UInt8) (hy:y.1.length≤maxLen∧y.2.length≤maxLen) (hb:O w g 79 #[.string ⟨y.1.toArray⟩,.string ⟨y.2.toArray⟩]) (hx:a.eval x=.slice (some ⟨g,0,none⟩) 1 1) (hlen:n<2^40)
  (hK:∀A cp w',lU B w' (aB++[y]) (.slice A (n+1) cp)→Touch (fun k=>v.ownBlock=some k) w w'→wpList Tryz.prog ops Q rest (a.put o.dst (.slice A (n+1) cp)) w'):wpList Tryz.prog ops Q (o::rest) a w:=by
 subst hn;obtain⟨hBw,hall,h1⟩:=h;obtain⟨i,hi,hz0,hz1,hz2⟩:=info_parts Y7;refine jT _ hgd s x 42 ho B 79 i _ 2 32 Tryz.underlying42 hi hz0 hz1 hz2 rfl (by decide) v aB.length (zA aB) hs h1 _ 1 _ hx (Src.xR hb rfl) (by simp[Value.oneCell']) (by simp only[maxLen];omega) (by omega) hBw fun v' w' ho' hgr hv'=>?_
 obtain⟨A,cp,rfl⟩:=rT ho';have ht:Touch (fun k=>v.ownBlock=some k) w w':=Touch.grown (M _ _) hgr fun k hk=>.inl hk
 refine hK A cp w' ⟨Nat.le_trans hBw hgr.size,fun z hz=>?_,?_⟩ ht
 ·rcases List.mem_append.1 hz with hz|hz
  ·exact hall z hz
  ·rw[List.mem_singleton.1 hz];exact hy
 ·rw[List.length_append]
  have:zA (aB++[y])=zA aB++[.string ⟨y.1.toArray⟩,.string ⟨y.2.toArray⟩]:=by unfold zA;rw[List.flatMap_append];rfl
  rw[this];exact ho'
end
def oK(w:World)(g o:Nat)(x0 x1 x2 x3:Value):World:=(((w.setCell ⟨g,o,none⟩ x0).setCell ⟨g,o+1,none⟩ x1).setCell ⟨g,o+2,none⟩ x2).setCell ⟨g,o+3,none⟩ x3
theorem x8(w:World)(g o:Nat)(x0 x1 x2 x3:Value):Touch (fun k=>k=g) w (oK w g o x0 x1 x2 x3):=
 ((((M (fun k=>k=g) w).setCell (p:=⟨g,o,none⟩) (.inl rfl) _).setCell (p:=⟨g,o+1,none⟩) (.inl rfl) _).setCell (p:=⟨g,o+2,none⟩) (.inl rfl) _).setCell (p:=⟨g,o+3,none⟩) (.inl rfl) _
theorem Vw{w:World}{B t g n cap:Nat}{xs:List Value}{z0 z1 z2 z3:Value}(h:w.ownsRow B t 4 (.slice (some ⟨g,0,none⟩) (n+1) cap) (n+1) (xs++[z0,z1,z2,z3]))(y0 y1 y2 y3:Value):
  (oK w g (n*4) y0 y1 y2 y3).ownsRow B t 4 (.slice (some ⟨g,0,none⟩) (n+1) cap) (n+1) (xs++[y0,y1,y2,y3]):=by
 have hl:xs.length=n*4:=by have:=h.1;rw[List.length_append]at this;simp only[List.length_cons,List.length_nil]at this;omega
 have h1:=(((((h.stored (n*4) y0).1.stored (n*4+1) y1).1).stored (n*4+2) y2).1.stored (n*4+3) y3).1
 have e:((((xs++[z0,z1,z2,z3]).set (n*4) y0).set (n*4+1) y1).set (n*4+2) y2).set (n*4+3) y3=xs++[y0,y1,y2,y3]:=by
  rw[List.set_append_right _ _ (by omega),List.set_append_right _ _ (by omega),List.set_append_right _ _ (by omega),List.set_append_right _ _ (by omega),show n*4-xs.length=0 by omega,show n*4+1-xs.length=1 by omega,show n*4+2-xs.length=2 by omega,show n*4+3-xs.length=3 by omega];rfl
 rw[e]at h1;exact h1
def uM(B:Nat)(w:World)(es:List E)(e:E)(va vk v:Value):Prop:=B≤w.heap.size∧∃cs0,w.ownsRow B 45 4 v (es.length+1) (cs0++[.string ⟨#[]⟩,.slice none 0 0,.slice none 0 0,.string ⟨#[]⟩])∧
 aZ (fun k=>v.ownBlock=some k∨k<B) w fun W=>kW W es cs0∧bN W e va vk
theorem uM.mv{B:Nat}{w w1:World}{es:List E}{e:E}{va vk v:Value}{S:Nat→Prop}(h:uM B w es e va vk v)(ht:Touch S w w1)(hS:∀k,S k→k<w.heap.size→k<B):uM B w1 es e va vk v:=by
 obtain⟨hB,cs,h1,h2⟩:=h;refine⟨Nat.le_trans hB ht.size,cs,fI h1 ht fun k hk hs=>?_,h2.step ht (fun i hi hs=>.inr (hS i hs hi)) (fun _ _ h=>h)⟩;have h3:=h1.lt k hk;have:=hS k hs h3.2;omega
theorem uM.cells{B n:Nat}{w:World}{es:List E}{e:E}{va vk v:Value}(h:uM B w es e va vk v)(hn:es.length=n):∃g cap,v=.slice (some ⟨g,0,none⟩) (n+1) cap∧n+1≤cap∧B≤g∧g<w.heap.size∧
  w.cell? ⟨g,n*4,none⟩=some (.string ⟨#[]⟩)∧w.cell? ⟨g,n*4+1,none⟩=some (.slice none 0 0)∧w.cell? ⟨g,n*4+2,none⟩=some (.slice none 0 0)∧w.cell? ⟨g,n*4+3,none⟩=some (.string ⟨#[]⟩)∧
  w.frozen? ⟨g,n*4,none⟩=false∧w.frozen? ⟨g,n*4+1,none⟩=false∧w.frozen? ⟨g,n*4+2,none⟩=false∧w.frozen? ⟨g,n*4+3,none⟩=false:=by
 subst hn;obtain⟨hB,cs,h1,h2⟩:=h;have hl:cs.length=es.length*4:=by have:=h1.1;rw[List.length_append]at this;simp only[List.length_cons,List.length_nil]at this;omega
 obtain⟨g,cap,rfl,hcap,hb⟩:∃g cap,v=.slice (some ⟨g,0,none⟩) (es.length+1) cap∧es.length+1≤cap∧B≤g:=by
  rcases h1.2 with⟨_,h0⟩|⟨g,cap,cur,e,hb,_,h5,_⟩
  ·omega
  ·exact⟨g,cap,e,h5,hb⟩
 have hc:∀i z,([Value.string ⟨#[]⟩,.slice none 0 0,.slice none 0 0,.string ⟨#[]⟩])[i]?=some z→i<4→w.cell? ⟨g,es.length*4+i,none⟩=some z:=fun i z hz hi4=>by
  rw[h1.cellAt _ (by omega),List.getElem?_append_right (by omega),show es.length*4+i-cs.length=i by omega];exact hz
 exact⟨g,cap,rfl,hcap,hb,(h1.lt g rfl).2,hc 0 _ rfl (by omega),hc 1 _ rfl (by omega),hc 2 _ rfl (by omega),hc 3 _ rfl (by omega),h1.frozenAt _,h1.frozenAt _,h1.frozenAt _,h1.frozenAt _⟩
theorem uM.put{B n:Nat}{w:World}{es:List E}{e:E}{va vk:Value}{g cap:Nat}(h:uM B w es e va vk (.slice (some ⟨g,0,none⟩) (n+1) cap))(hn:es.length=n):
  dO B (oK w g (n*4) (.string ⟨e.name.toArray⟩) va vk (.string ⟨e.text.toArray⟩)) (es++[e]) (.slice (some ⟨g,0,none⟩) (n+1) cap):=by
 subst hn;obtain⟨hB,cs,h1,h2⟩:=h;refine⟨Nat.le_trans hB (x8 w g _ _ _ _ _).size,_,by rw[List.length_append];exact Vw h1 _ _ _ _,?_⟩;refine(h2.step (x8 w g _ _ _ _ _) (fun i _ hs=>.inl (by subst hs;rfl)) (fun _ _ h=>h)).imp fun W ⟨g1,g2⟩=>g1.append (kW.one g2)
section
variable {w:World} {ops:Array Oper} {rest:List Oper} {o:Oper} {a:Act} {Q:Exit→Act→World→Prop}
theorem o8(hgd:o.guard=none)(s x:Operand)
  (ho:o.op=.call {callee:=.builtin .append,args:=#[s,x],argTypes:=#[43,43]})
  {B n g:Nat} {es:List E} {v:Value} (h:dO B w es v) (hn:es.length=n) (hs:a.eval s=v) (e:E) {va vk:Value} (hb:O w g 45 Z) (hx:a.eval x=.slice (some ⟨g,0,none⟩) 1 1)
  (w0:Nat) (hB:B≤w0) (hown:∀k,v.ownBlock=some k→k<w0) (z8:aZ (fun k=>k<w0) w fun W=>bN W e va vk) (hlen:n<2^40)
  (hK:∀A cp w',uM B w' es e va vk (.slice A (n+1) cp)→Touch (fun k=>v.ownBlock=some k) w w'→wpList Tryz.prog ops Q rest (a.put o.dst (.slice A (n+1) cp)) w'):wpList Tryz.prog ops Q (o::rest) a w:=by
 subst hn;obtain⟨hBw,cs,h1,h2⟩:=h;obtain⟨i,hi,hz0,hz1,hz2⟩:=info_parts Co;have h3:∀u∈[Value.string ⟨#[]⟩,.slice none 0 0,.slice none 0 0,.string ⟨#[]⟩],u.oneCell'=true:=by simp[Value.oneCell']
 refine jT _ hgd s x 43 ho B 45 i _ 4 80 Tryz.underlying43 hi hz0 hz1 hz2 rfl (by decide) v es.length cs hs h1 _ 1 _ hx (Src.xR hb rfl) h3 (by simp only[maxLen];omega) (by omega) hBw fun v' w' ho' hgr hv'=>?_
 obtain⟨A,cp,rfl⟩:=rT ho';have ht:Touch (fun k=>v.ownBlock=some k) w w':=Touch.grown (M _ _) hgr fun k hk=>.inl hk
 refine hK A cp w' ⟨Nat.le_trans hBw hgr.size,_,ho',?_⟩ ht
 have hS:∀i,i<w.heap.size→((Value.slice A (es.length+1) cp).ownBlock=some i∨i<B)→(v.ownBlock=some i∨i<B):=fun i hi hs=>by
  rcases hs with hs|hs
  ·rcases hv' with h6|h6<;>rw[h6]at hs
   ·exact .inl hs
   ·cases hs;omega
  ·exact .inr hs
 refine(h2.step ht (fun i _ hs=>.inl hs) hS).and (z8.step ht (fun i hi hs=>hown i hs) fun i hi hs=>?_)
 rcases hS i hi hs with h6|h6
 ·exact hown i h6
 ·omega
end
end
end Go.Proofs.YtnbeemkfmlfgfaaGreatDoor
