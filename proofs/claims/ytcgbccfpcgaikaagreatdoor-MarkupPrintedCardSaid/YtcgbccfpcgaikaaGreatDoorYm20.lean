/- Part 20 of 46 of a proof. No condition. -/
import Derived.Laws.IdiomStrings
import Derived.Laws.BytesArg
import Derived.Lib.ConvBytes
import Derived.Test.YtcgbccfpcgaikaaGreatDoorYm19
set_option maxRecDepth 100000
set_option maxHeartbeats 4000000
namespace Go.Proofs.YtcgbccfpcgaikaaGreatDoor
section
open Go.RowKit
open Xp (Rs bQ jk eT jl)
namespace Xp
theorem Ri(c:Nat):∀(l p:List UInt8) (x:UInt8) (l2:List UInt8) (c2:Nat),eT c p l=.ok x l2 c2→l2.length<l.length
 |[],p,x,l2,c2,h=>by rw[eT]at h;cases h
 |b::l,p,x,l2,c2,h=>by
  rw[eT]at h;split at h
  ·cases h;rw[List.length_cons];omega
  ·split at h
   ·have:=Ri c l _ x l2 c2 h
    rw[List.length_cons];omega
   ·cases h
theorem BZ{n c:Nat}{l:List UInt8}{x:UInt8}{l2:List UInt8}{c2:Nat}(h:jk n c l=.ok x l2 c2):l2.length<l.length:=by
 cases l with
 |nil=>cases h
 |cons b l=>
  have h:(if 200≤n∨b=60∨U.aU b=false then Rs.bad (b::l)else if b=38 then eT c [] (b::l)else .ok b l c)=.ok x l2 c2:=h;split at h
  ·cases h
  ·split at h
   ·exact Ri c _ _ _ _ _ h
   ·cases h;rw[List.length_cons];omega
theorem Vx{n c:Nat}{l:List UInt8}{x:UInt8}{l2:List UInt8}{c2:Nat}(h:jk n c l=.ok x l2 c2):n<200:=by
 cases l with
 |nil=>cases h
 |cons b l=>
  have h:(if 200≤n∨b=60∨U.aU b=false then Rs.bad (b::l)else if b=38 then eT c [] (b::l)else .ok b l c)=.ok x l2 c2:=h;split at h
  ·cases h
  ·rename_i hn
   simp only[not_or]at hn;omega
theorem Oh(c:Nat):∀(l p:List UInt8) (x:UInt8) (l2:List UInt8) (c2:Nat),eT c p l=.ok x l2 c2→c2=c
 |[],p,x,l2,c2,h=>by rw[eT]at h;cases h
 |b::l,p,x,l2,c2,h=>by
  rw[eT]at h;split at h
  ·cases h;rfl
  ·split at h
   ·exact Oh c l _ x l2 c2 h
   ·cases h
theorem Oi{n c:Nat}{l:List UInt8}{x:UInt8}{l2:List UInt8}{c2:Nat}(h:jk n c l=.ok x l2 c2):c2=c:=by
 cases l with
 |nil=>cases h
 |cons b l=>
  have h:(if 200≤n∨b=60∨U.aU b=false then Rs.bad (b::l)else if b=38 then eT c [] (b::l)else .ok b l c)=.ok x l2 c2:=h;split at h
  ·cases h
  ·split at h
   ·exact Oh c _ _ _ _ _ h
   ·cases h;rfl
theorem UD(q:UInt8)(c:Nat):∀(m f:Nat) (acc l:List UInt8),l.length≤m→l.length<f→jl q c f acc l=jl q c (l.length+1) acc l:=by
 intro m
 induction m with
 |zero=>
  intro f acc l hm hf;obtain⟨f,rfl⟩:∃k,f=k+1:=⟨f-1,by omega⟩;have:l=[]:=List.length_eq_zero_iff.1 (by omega);subst this;rw[jl,jl]
 |succ m ih=>
  intro f acc l hm hf;obtain⟨f,rfl⟩:∃k,f=k+1:=⟨f-1,by omega⟩;cases l with
  |nil=>rw[jl,jl]
  |cons b l=>
   rw[jl,jl];split
   ·rfl
   ·cases hc:jk acc.length c (b::l)with
    |bad l2=>rfl
    |ok x l2 c2=>
     have h1:=BZ hc;rw[List.length_cons]at hm hf h1
     dsimp only
     rw[ih f (acc++[x]) l2 (by omega) (by omega),ih (b::l).length (acc++[x]) l2 (by omega) (by rw[List.length_cons];omega)]
theorem Xn(q:UInt8)(c:Nat)(f:Nat)(acc l:List UInt8)(h:l.length<f):jl q c f acc l=jl q c (l.length+1) acc l:=UD q c _ f acc l (Nat.le_refl _) h
def iZ(q:UInt8)(c:Nat)(acc l:List UInt8):Rs (List UInt8):=jl q c (l.length+1) acc l
theorem CZ(q:UInt8)(c:Nat)(acc:List UInt8):iZ q c acc []=.bad []:=by unfold iZ;rw[jl]
theorem C8(q:UInt8)(c:Nat)(acc l:List UInt8):iZ q c acc (q::l)=.ok acc (q::l) c:=by unfold iZ;rw[jl];exact if_pos rfl
theorem G7{q:UInt8}{c:Nat}{acc l:List UInt8}{b:UInt8}(hb:¬b=q){l2:List UInt8}(hc:jk acc.length c (b::l)=.bad l2):iZ q c acc (b::l)=.bad l2:=by unfold iZ;rw[jl,if_neg hb,hc]
theorem AU{q:UInt8}{c:Nat}{acc l:List UInt8}{b:UInt8}(hb:¬b=q){x:UInt8}{l2:List UInt8}{c2:Nat}(hc:jk acc.length c (b::l)=.ok x l2 c2):iZ q c acc (b::l)=iZ q c (acc++[x]) l2:=by
 unfold iZ;rw[jl,if_neg hb,hc];exact Xn q c _ _ _ (BZ hc)
end Xp
def aiF(B:Nat)(w:World)(acc:List UInt8)(v:Value):Prop:=(acc=[]∧v=.slice none 0 0)∨
 ∃g cap cur fz,v=.slice (some ⟨g,0,none⟩) acc.length cap∧B≤g∧w.heap[g]?=some (.cells cur 5 fz)∧(fz.2=0∨cap≤fz.1)∧acc.length≤cap∧cap≤maxLen∧cur.size=cap∧cur.toList.take acc.length=Lib.byteCells acc
def lQ(B:Nat)(w:World)(acc:List UInt8)(v:Value):Prop:=B≤w.heap.size∧aiF B w acc v
theorem lQ.nil{B:Nat}{w:World}(hB:B≤w.heap.size):lQ B w [] (.slice none 0 0):=⟨hB,.inl ⟨rfl,rfl⟩⟩
theorem lQ.pY{B:Nat}{w:World}{acc:List UInt8}{v:Value}(h:lQ B w acc v):∀k,v.ownBlock=some k→B≤k∧k<w.heap.size:=by
 intro k hk
 rcases h.2 with⟨_,rfl⟩|⟨g,cap,cur,fz,rfl,hb,hg,_⟩
 ·cases hk
 ·cases hk
  exact⟨hb,(Array.getElem?_eq_some_iff.1 hg).1⟩
theorem lQ.mv{B:Nat}{w w1:World}{acc:List UInt8}{v:Value}{S:Nat→Prop}(h:lQ B w acc v)(ht:Touch S w w1)(hS:∀k,S k→k<w.heap.size→k<B):lQ B w1 acc v:=by
 refine⟨Nat.le_trans h.1 ht.size,?_⟩
 rcases h.2 with h|⟨g,cap,cur,fz,rfl,hb,hg,r⟩
 ·exact .inl h
 ·have hl:=(Array.getElem?_eq_some_iff.1 hg).1
  exact .inr ⟨g,cap,cur,fz,rfl,hb,(ht.block g hl fun hs=>by have:=hS g hs hl;omega).trans hg,r⟩
theorem lQ.fresh{B:Nat}{w w1:World}{acc:List UInt8}{v:Value}(h:lQ B w acc v)(ht:ag w w1):lQ B w1 acc v:=h.mv ht fun _ h=>h.elim
theorem lQ.slice{B:Nat}{w:World}{acc:List UInt8}{v:Value}(h:lQ B w acc v):∃A cap,v=.slice A acc.length cap:=by
 rcases h.2 with⟨rfl,rfl⟩|⟨g,cap,cur,fz,rfl,_⟩
 ·exact⟨none,0,rfl⟩
 ·exact⟨_,_,rfl⟩
theorem lQ.conv(w:World)(s:ByteArray)(hs:s.size≤1099511627776):lQ w.heap.size (Lib.bytesWorld w 5 s) s.data.toList (.slice (some ⟨w.heap.size,0,none⟩) s.size (grownCap w s.size 0 5))∧ag w (Lib.bytesWorld w 5 s):=by
 have hge:=grownCap_ge w s.size 0 5;have hcm:grownCap w s.size 0 5≤maxLen:=grownCap_le_maxLen w s.size 0 5 (by simp only[maxLen];omega);have hl:s.data.toList.length=s.size:=by simp
 have hcs:(Lib.bytesCells w 5 s).size=grownCap w s.size 0 5:=by
  unfold Lib.bytesCells;rw[Array.size_append,Array.size_map,Array.size_replicate];show s.size+_=_;omega
 refine⟨⟨by rw[Lib.bytesWorld_size];omega,.inr ⟨w.heap.size,grownCap w s.size 0 5,_,_,by rw[hl],Nat.le_refl _,Lib.bytesWorld_at_new w 5 s,.inr (by rw[hcs];exact Nat.le_refl _),by rw[hl];exact hge,hcm,hcs,?_⟩⟩,?_⟩
 ·unfold Lib.bytesCells
  rw[Array.toList_append,hl,List.take_append_of_le_length (by simp)];rw[List.take_of_length_le (by simp)];simp[Lib.byteCells]
 ·refine⟨?_,?_,?_,by rw[Lib.bytesWorld_size];omega,fun k hk _=>Lib.bytesWorld_at_old w 5 s k hk⟩
  all_goals
   unfold Lib.bytesWorld World.freeze;split<;>rfl
section
variable {w:World} {ops:Array Oper} {rest:List Oper} {o:Oper} {a:Act} {Q:Exit→Act→World→Prop}
theorem LJ{P:Program}{t ty e:TypeId}{i:TypeInfo}(ht:P.underlying t=some (.slice e))(hi:P.info? e=some i)(hs1:i.size=1){g n cap:Nat}{cur:Array Value}{fz:Nat×Nat}(hg:w.heap[g]?=some (.cells cur e fz))(hfz:fz.2=0∨cap≤fz.1)(hcs:cur.size=cap)
  (ad:Addr) (u:Value) (hu:w.cell? ad=some u) (h1:u.oneCell'=true) (hroom:n+1≤cap):
  (Builtin.append_ #[t,t] ty #[.slice (some ⟨g,0,none⟩) n cap,.slice (some ad) 1 1]).run P w=.ok (.slice (some ⟨g,0,none⟩) (n+1) cap) (w.setCell ⟨g,n,none⟩ u):=by
 have hf:=run_firstCells_some (P:=P) w 1 1 ad 1 1 [u] rfl (fun j x hx=>by
  match j,hx with
  |0,hx=>
   cases hx;have:ad.add 0=ad:=by unfold Addr.add;split<;>simp_all
   rw[this];exact hu)
 have hadd:(⟨g,n,none⟩:Addr).add 0=⟨g,n,none⟩:=by unfold Addr.add;split<;>simp_all
 have hcell:w.cell? ⟨g,n,none⟩=some cur[n]:=by
  have hi:n<cur.size:=by omega
  simp[World.cell?,hg,hi]
 have hfro:w.frozen? ⟨g,n,none⟩=false:=by
  obtain⟨lo,hi'⟩:=fz;simp only[World.frozen?,hg,Bool.and_eq_false_iff,decide_eq_false_iff_not]
  rcases hfz with h|h
  ·right;simp only at h;omega
  ·left;simp only at h;omega
 have hst:(store ((⟨g,n,none⟩:Addr).add 0) u).run P w=.ok () (w.setCell ⟨g,n,none⟩ u):=by
  rw[hadd,run_store P w _ u _ h1,hcell];simp[hfro]
 have Rj:(storeCells ⟨g,n,none⟩ [u] 0).run P w=.ok () (w.setCell ⟨g,n,none⟩ u):=by
  simp only[storeCells,Sem.run_bind,hst,Result.andThen_ok];rfl
 simp[Builtin.append_,run_underlying ht,sizeOf,typeInfo,hi,hs1,Builtin.lenOf,hroom,hf,Addr.add_lit,Rj]
theorem wpList_append_byte(hgd:o.guard=none)(s x:Operand)
  (ho:o.op=.call {callee:=.builtin .append,args:=#[s,x],argTypes:=#[40,40]})
  {B n g:Nat} {acc:List UInt8} {v:Value} (h:lQ B w acc v) (hn:acc.length=n) (hs:a.eval s=v) (b:UInt8) (hb:af w g 5 #[.int .u8 (b.toNat:Int)]) (hx:a.eval x=.slice (some ⟨g,0,none⟩) 1 1) (hlen:n<2^40)
  (hK:∀A cp w',lQ B w' (acc++[b]) (.slice A (n+1) cp)→Touch (fun k=>v.ownBlock=some k) w w'→wpList Tryz.prog ops Q rest (a.put o.dst (.slice A (n+1) cp)) w'):wpList Tryz.prog ops Q (o::rest) a w:=by
 subst hn;obtain⟨hBw,hOw⟩:=h;obtain⟨i,hi,hz0,hz1,hz2⟩:=info_parts Qn
 have own:∀v',w.ownsRow B 5 1 v' acc.length (Lib.byteCells acc)→v'=v→wpList Tryz.prog ops Q (o::rest) a w:=by
  intro v' h1 hv';subst hv';refine iL _ hgd s x 40 ho B 5 i _ 1 1 Tryz.underlying40 hi hz0 hz1 hz2 rfl (by decide) v' acc.length (Lib.byteCells acc) hs h1 _ 1 _ hx (Src.uT hb rfl) (by simp[Value.oneCell']) (by simp only[maxLen];omega) (by omega) hBw fun v2 w' ho' hgr hv2=>?_
  obtain⟨A,cp,rfl⟩:=mK ho';have ht:Touch (fun k=>v'.ownBlock=some k) w w':=Touch.grown (M _ _) hgr fun k hk=>.inl hk
  refine hK A cp w' ⟨Nat.le_trans hBw hgr.size,?_⟩ ht
  rcases ho'.2 with⟨h1,h2⟩|⟨g',cap,cur,h1,hB,hg',hn',hc',hcs',Lm⟩
  ·omega
  ·refine .inr ⟨g',cap,cur,(0,0),by rw[h1,List.length_append];rfl,hB,hg',.inl rfl,by rw[List.length_append];exact hn',hc',by simpa using hcs',?_⟩
   rw[List.length_append];simp only[Nat.mul_one]at Lm;rw[byteCells_snoc];exact Lm
 rcases hOw with⟨rfl,rfl⟩|⟨g',cap,cur,fz,rfl,hB,hg',hfz,hn',hc',hcs',Lm⟩
 ·exact own _ (World.ownsRow_nil _ _ _ _) rfl
 ·by_cases hroom:acc.length+1≤cap
  ·have hr:=LJ (P:=Tryz.prog) (ty:=o.type) Tryz.underlying40 hi hz1 hg' hfz hcs' ⟨g,0,none⟩ (.int .u8 (b.toNat:Int)) (by rw[hb.cell];rfl) rfl hroom
   refine wpList_plain hgd fun K hKK=>?_
   unfold Oper.wp execOp;simp only[ho,resolve,invoke,builtin,Sem.run_bind,Sem.run_pure,Result.andThen_ok,List.map_toArray,List.map_cons,List.map_nil,hs,hx,hr];refine hKK _ _ (hK (some ⟨g',0,none⟩) cap _ ⟨?_,.inr ⟨g',cap,cur.setIfInBounds acc.length (.int .u8 (b.toNat:Int)),fz,by rw[List.length_append];rfl,hB,?_,hfz,by rw[List.length_append];exact hroom,hc',by rw[Array.size_setIfInBounds];exact hcs',?_⟩⟩ ?_)
   ·simpa[World.setCell]using hBw
   ·simp[World.setCell,Array.getElem?_modify,hg']
   ·rw[Array.toList_setIfInBounds,List.length_append,byteCells_snoc,←Lm]
    show(cur.toList.set acc.length _).take (acc.length+1)=_;rw[List.take_add_one,List.take_set_of_le (Nat.le_refl _),List.getElem?_set_self (by simpa using(by omega:acc.length<cur.size))];rfl
   ·exact(M (fun k=>Value.ownBlock (.slice (some ⟨g',0,none⟩) acc.length cap)=some k) w).setCell (p:=⟨g',acc.length,none⟩) (.inl rfl) _
  ·have hxl:(Lib.byteCells acc).length=acc.length:=Lib.byteCells_length acc
   have holds:∀j u,(Lib.byteCells acc)[j]?=some u→w.cell? ((⟨g',0,none⟩:Addr).add j)=some u:=by
    intro j u hu;rw[Addr.add_mid,Nat.zero_add,cell_of_row w g' j cur 5 fz hg'];rw[←Lm,List.getElem?_take]at hu;split at hu
    ·simpa using hu
    ·cases hu
   have hge:=grownCap_ge w (acc.length+1) cap 5;have hcm:grownCap w (acc.length+1) cap 5≤maxLen:=grownCap_le_maxLen w (acc.length+1) cap 5 (by simp only[maxLen];omega)
   have hr:=run_append_grow (P:=Tryz.prog) w 40 o.type 5 i _ Tryz.underlying40 hi hz0 ⟨g',0,none⟩ acc.length cap (Lib.byteCells acc) (by rw[hz1,hxl,Nat.mul_one]) holds ⟨g,0,none⟩ 1 1 [.int .u8 (b.toNat:Int)] (by rw[hz1];rfl) (fun j u hu=>by
    match j,hu with
    |0,hu=>cases hu;rw[Addr.add_mid,Nat.zero_add,hb.cell];rfl) (by omega) (by simp only[maxLen]at hc';omega) (by rw[hz2];exact growslice_fits (by omega) (by omega))
   refine wpList_plain hgd fun K hKK=>?_
   unfold Oper.wp execOp;simp only[ho,resolve,invoke,builtin,Sem.run_bind,Sem.run_pure,Result.andThen_ok,List.map_toArray,List.map_cons,List.map_nil,hs,hx,hr];refine hKK _ _ (hK (some ⟨w.heap.size,0,none⟩) _ _ ⟨?_,.inr ⟨w.heap.size,_,_,(0,0),by rw[List.length_append];rfl,hBw,heap_alloc_new w.drew _,.inl rfl,by rw[List.length_append];exact hge,hcm,?_,?_⟩⟩ ?_)
   ·have:(w.drew).heap.size=w.heap.size:=rfl
    simp
    omega
   ·simp only[Array.size_append,List.size_toArray,size_zeroCells,hxl]
    have:(Value.int IntKind.u8 0).cells.size=1:=rfl;simp only[List.length_cons,List.length_nil,this];omega
   ·rw[List.length_append,byteCells_snoc,Array.toList_append,Array.toList_append]
    rw[List.take_append_of_le_length (by simp[hxl]),List.take_of_length_le (by simp[hxl])]
   ·exact((M _ _).drewN 1).alloc _
end
theorem lQ.str{B:Nat}{w:World}{acc:List UInt8}{A:Option Addr}{n cap:Nat}(h:lQ B w acc (.slice A n cap))(hn:acc.length=n):(convert 40 9 (.slice A n cap)).run Tryz.prog w=.ok (.string ⟨acc.toArray⟩) w:=by
 subst hn
 rcases h.2 with⟨h2,h1⟩|⟨g,cap',cur,fz,h1,hB,hg,_,_,_,_,Lm⟩
 ·injection h1 with e1 e2 e3
  subst e1;subst h2;exact run_convert_bytes_nil w 40 5 Tryz.underlying40 Tryz.underlying5 _ _ _ Tryz.underlying9
 ·cases h1
  refine run_convert_bytes_back w 40 9 5 ⟨g,0,none⟩ cap acc Tryz.underlying40 Tryz.underlying5 Tryz.underlying9 fun j hj=>?_
  rw[Addr.add_mid,Nat.zero_add,cell_of_row w g j cur 5 fz hg];have h3:(Lib.byteCells acc)[j]?=some (.int .u8 (acc[j].toNat:Int)):=by simp[Lib.byteCells,hj]
  rw[←Lm,List.getElem?_take]at h3;rw[if_pos hj]at h3;simpa using h3
end
section
open Go.RowKit
open Xp (Rs bQ jk eT jl bB nM)
open U (E aJ)
def XA(S:ByteArray)(g:Nat)(w:World)(r:Rs (List UInt8×List UInt8))(e:Ending)(w':World):Prop:=match r with
 |.ok x l' c'=>e=.returned (.agg #[.string ⟨x.1.toArray⟩,.string ⟨x.2.toArray⟩])∧Touch (fun b=>b=g) w w'∧Xr S g l' c' w'
 |.bad l'=>XS S g w l' e w'
theorem af.afL{w:World}{g:Nat}{t:TypeId}{x0 x1:Value}(h:af w g t #[x0,x1]):
  w.cell? ⟨g,0,none⟩=some x0∧w.cell? ⟨g,1,none⟩=some x1∧w.frozen? ⟨g,0,none⟩=false∧w.frozen? ⟨g,1,none⟩=false∧g<w.heap.size:=⟨h.cell 0,h.cell 1,h.frozen 0,h.frozen 1,h.lt⟩
def Ca(nm:List UInt8)(c:Nat):Rs (List UInt8)→Rs (List UInt8×List UInt8)
 |.bad l4=>.bad l4
 |.ok v l4 _=>.ok (nm,v) (l4.drop 1) c
def Eh(nm:List UInt8)(c:Nat):Rs Unit→Rs (List UInt8×List UInt8)
 |.bad l3=>.bad l3
 |.ok _ l3 _=>Ca nm c (Xp.iZ 34 c [] l3)
def adX(aM:aJ)(nm:List UInt8)(c:Nat):List UInt8→Rs (List UInt8×List UInt8)
 |[]=>.bad []
 |b::l2=>if b≠61∨aM.any (fun x=>x.1==nm)=true then .bad (b::l2)else Eh nm c (bB 34 c l2)
theorem G8{aM:aJ}{c:Nat}{l l1:List UInt8}(h:nM c l=.bad l1):Xp.gM aM c l=.bad l1:=by unfold Xp.gM;rw[h]
theorem Fb{aM:aJ}{c:Nat}{l nm l1:List UInt8}{c1:Nat}(h:nM c l=.ok nm l1 c1):Xp.gM aM c l=adX aM nm c l1:=by
 unfold Xp.gM;rw[h];cases l1 with
 |nil=>rfl
 |cons b l2=>
  show(if _ then _ else _)=(if _ then _ else _);split
  ·rfl
  ·cases he:bB 34 c l2 with
   |bad l3=>rfl
   |ok u l3 c3=>
    cases ht:jl 34 c (l3.length+1) [] l3 with
    |bad l4=>simp only[Eh,Ca,Xp.iZ,ht]
    |ok v l4 c4=>simp only[Eh,Ca,Xp.iZ,ht]
theorem ZQ{c:Nat}{l x l1:List UInt8}{c1:Nat}(h:nM c l=.ok x l1 c1):c1=c:=by
 cases l with
 |nil=>cases h
 |cons b l=>
  have h:(if U.letter b=true then Rs.ok ((b::l).takeWhile U.inner) ((b::l).dropWhile U.inner) c else .bad (b::l))=.ok x l1 c1:=h;split at h
  ·cases h;rfl
  ·cases h
theorem ZR(S:ByteArray)(g c:Nat)(l:List UInt8)(aM:aJ)(va:Value)(w:World)(hS:S.size≤1099511627776)(has:dz (fun b=>b=g) w fun W=>gJ W aM va)(h:Xr S g l c w):Calls Tryz.prog 124 #[.pointer (some ⟨g,0,none⟩),va] w fun e w'=>XA S g w (Xp.gM aM c l) e w':=by
 have HX:=hid h;have HAS:=hid has;have hg0:=h.lt;obtain⟨A0,ca0,hva⟩:=has.now.slice;subst hva;clear h has;have jQ:=hid ((M (fun _=>False) w).alloc (.cells #[.string ⟨#[]⟩,.string ⟨#[]⟩] 125));have jV:=hid (af.new w 125 #[.string ⟨#[]⟩,.string ⟨#[]⟩]);cases hnm:nM c l with
 |bad l1=>
  have dB:=hid (show Xp.gM aM c l=.bad l1 from G8 hnm);go_enter Tryz.func124,Tryz.ntmps124;go_wp2_with fail
  refine(DC S g c l _ hS (HX.out.fresh jQ.out)).mono ?_;intro e w1 he;rw[hnm]at he;obtain⟨rfl,ht⟩:=he;refine⟨rfl,(?_:XA S g w (Xp.gM aM c l) _ _)⟩;rw[dB.out];exact⟨rfl,(jQ.out.mono fun _ h=>h.elim).trans ht⟩
 |ok nm l1 c1=>
 have hc1:=ZQ hnm;subst hc1;have uf:=hid hnm;have HA1:=hid (show Xp.gM aM c1 l=adX aM nm c1 l1 from Fb hnm);clear hnm;go_enter Tryz.func124,Tryz.ntmps124;go_wp2_with fail
 refine(DC S g c1 l _ hS (HX.out.fresh jQ.out)).mono ?_;intro e w1 he;rw[uf.out]at he;obtain⟨rfl,ht,hx⟩:=he;have je:=hid hx;have HT1:=hid (show Touch (fun b=>b=g) w w1 from(jQ.out.mono fun _ h=>h.elim).trans ht);have HR1:=hid (ht.blk jV.out fun h=>by omega);clear ht hx jQ jV HX uf;cases l1 with
 |nil=>
  have dB:=hid (show Xp.gM aM c1 l=.bad []from HA1.out);go_wp2_with fail
  refine(xE S g c1 _ je.out).mono ?_;rintro _ w2 ⟨rfl,ht⟩;refine⟨rfl,(?_:XA S g w (Xp.gM aM c1 l) _ _)⟩;rw[dB.out];exact⟨rfl,HT1.out.trans ht⟩
 |cons b l2=>
 by_cases hb:b=61
 rotate_left
 focus
  have hbn:((b.toNat:Int) !=(61:Int))=true:=si b 61 hb;have dB:=hid (show Xp.gM aM c1 l=.bad (b::l2) by rw[HA1.out];exact if_pos (.inl hb));clear hb;go_wp2_with fail
  refine(fG S g c1 b l2 _ je.out).mono ?_;rintro _ w2 ⟨rfl,hf⟩;have p8:=hid (je.out.fresh hf);have HT2:=hid (HT1.out.trans (hf.mono fun _ h=>h.elim));clear hf;go_wp2_with fail
  refine(qJ S g (b::l2) c1 _ p8.out).mono ?_;rintro _ w3 ⟨rfl,rfl⟩;refine⟨rfl,(?_:XA S g w (Xp.gM aM c1 l) _ _)⟩;rw[dB.out];exact⟨rfl,HT2.out⟩
 have hbn:((b.toNat:Int) !=(61:Int))=false:=qC b 61 hb;have aiG:=hid hb;clear hb;go_wp2_with fail
 refine(fG S g c1 b l2 _ je.out).mono ?_;rintro _ w2 ⟨rfl,hf⟩;have p8:=hid (je.out.fresh hf);have HT2:=hid (HT1.out.trans (hf.mono fun _ h=>h.elim));have HR2:=hid (hf.blk HR1.out fun h=>h);clear hf je HR1;go_wp2_with fail
 refine(Kj aM nm _ _ (HAS.out _ HT2.out)).mono ?_;rintro _ w3 ⟨rfl,hf⟩;have p9:=hid (p8.out.fresh hf);have HT3:=hid (HT2.out.trans (hf.mono fun _ h=>h.elim));have HR3:=hid (hf.blk HR2.out fun h=>h);clear hf p8 HR2 HT1 HT2;cases hh:aM.any (fun x=>x.1==nm)with
 |true=>
  have dB:=hid (show Xp.gM aM c1 l=.bad (b::l2) by rw[HA1.out];exact if_pos (.inr hh));go_wp2_with fail
  refine(qJ S g (b::l2) c1 _ p9.out).mono ?_;rintro _ w4 ⟨rfl,rfl⟩;refine⟨rfl,(?_:XA S g w (Xp.gM aM c1 l) _ _)⟩;rw[dB.out];exact⟨rfl,HT3.out⟩
 |false=>
 have HA2:=hid (show Xp.gM aM c1 l=Eh nm c1 (bB 34 c1 l2) by
  rw[HA1.out];exact if_neg (by rintro(h|h);exact h aiG.out;rw[hh]at h;cases h))
 clear HA1 hh;obtain⟨q0,q1,q2,f0,f1,f2,hg⟩:=fM p9.out.blk;have hle:=p9.out.len;have hw:IntKind.i64.wrap (((S.size-(b::l2).length:Nat):Int)+1)=((S.size-(b::l2).length:Nat):Int)+1:=IntWalk.i64_in _ (by omega);have tZ:=hid p9.out.wG;have nU:=hid (HT3.out.setCell (p:=⟨g,1,none⟩) (.inl rfl) (.int .i64 (((S.size-(b::l2).length:Nat):Int)+1)));have HR4:=hid (HR3.out.far (p:=⟨g,1,none⟩) (by show _≠g;omega) (.int .i64 (((S.size-(b::l2).length:Nat):Int)+1)));generalize S.size-(b::l2).length=k at*;go_wp2_with fail
 generalize (w3.setCell ⟨g,1,none⟩ (.int .i64 ((k:Int)+1)))=w4 at tZ nU HR4⊢;clear q0 q1 q2 f0 f1 f2 hg hle hw p9 HT3 HR3;have afM:=hid (show Calls Tryz.prog 79 #[.pointer (some ⟨g,0,none⟩),.int .u8 34] w4 fun e w'=>XU S g w4 (bB 34 c1 l2) e w' from qY S g c1 34 l2 w4 hS tZ.out);refine afM.out.mono ?_;intro e w5 he;cases hr:bB 34 c1 l2 with
 |bad l3=>
  have dB:=hid (show Xp.gM aM c1 l=.bad l3 by rw[HA2.out,hr];rfl);rw[hr]at he;obtain⟨rfl,ht⟩:=he;refine⟨rfl,(?_:XA S g w (Xp.gM aM c1 l) _ _)⟩;rw[dB.out];exact⟨rfl,nU.out.trans ht⟩
 |ok u l3 c3=>
 have hc3:=uF hr;subst hc3;have HAR:=hid (show Xp.gM aM c3 l=Ca nm c3 (Xp.iZ 34 c3 [] l3) by rw[HA2.out,hr];rfl);rw[hr]at he;obtain⟨rfl,ht,hx⟩:=he;have iR:=hid hx;have iW:=hid (nU.out.trans ht);have CS:=hid (ht.blk HR4.out fun h=>by omega);have hbase:w.heap.size+1≤w5.heap.size:=by have:=CS.out.lt;omega
 clear ht hx hr tZ nU HR4 HA2 afM;obtain⟨c,rfl⟩:∃c,c=c3:=⟨_,rfl⟩;go_wp2
 go_loopw [6] (fun v wr=>∃(acc l1:List UInt8) (A:Option Addr) (n cp:Nat),v=.slice A n cp∧Hd (acc.length=n)∧n≤1000∧Hd (Xp.iZ 34 c [] l3=Xp.iZ 34 c acc l1)∧Hd (lQ (w.heap.size+1) wr acc (.slice A n cp))∧Hd (Touch (fun b=>b=g) w wr)∧Hd (Xr S g l1 c wr)∧Hd (af wr w.heap.size 125 #[.string ⟨#[]⟩,.string ⟨#[]⟩])) (fun _ wr=>S.size-posOf g wr)
 case atStart=>exact⟨[],l3,none,0,0,rfl,hid rfl,by omega,hid rfl,lQ.nil hbase,iW,iR,CS⟩
 case round=>
  obtain⟨acc,l1,A,n,cp,rfl,wH,hn,kJ,HG,HT,HX,HR⟩:=hrel;rename_i wr _;have HP:=hid (lN HX.out);have hgs:=HX.out.lt;cases l1 with
  |nil=>
   have dB:=hid (show Xp.gM aM c l=.bad [] by rw[HAR.out,kJ.out,Xp.CZ];rfl);go_wp2_with fail
   refine(xE S g c _ HX.out).mono ?_;rintro _ w9 ⟨rfl,sI⟩;refine⟨rfl,(?_:XA S g w (Xp.gM aM c l) _ _)⟩;rw[dB.out];exact⟨rfl,HT.out.trans sI⟩
  |cons b l2=>
   by_cases hb:b=34
   ·have hbn:((b.toNat:Int) !=(34:Int))=false:=qC b 34 hb
    have Oj:=hid (show Xp.iZ 34 c [] l3=.ok acc (34::l2) c by rw[kJ.out,hb];exact Xp.C8 34 c acc l2);have HBQ:=hid hb;clear hb;go_wp2_with fail
    refine(fG S g c b l2 _ HX.out).mono ?_;rintro _ w9 ⟨rfl,iT⟩;have qb:=hid (HX.out.fresh iT);have lS:=hid (HT.out.trans (iT.mono fun _ h=>h.elim));have Rk:=hid (iT.blk HR.out fun h=>h);have qL:=hid (HG.out.fresh iT);have dB:=hid (show Xp.gM aM c l=.ok (nm,acc) l2 c by rw[HAR.out,Oj.out];rfl);clear iT;obtain⟨q0,q1,q2,f0,f1,f2,hg⟩:=fM qb.out.blk;have hle:=qb.out.len;have hw:IntKind.i64.wrap (((S.size-(b::l2).length:Nat):Int)+1)=((S.size-(b::l2).length:Nat):Int)+1:=IntWalk.i64_in _ (by omega);have AB:=hid qb.out.wG;have sJ:=hid (lS.out.setCell (p:=⟨g,1,none⟩) (.inl rfl) (.int .i64 (((S.size-(b::l2).length:Nat):Int)+1)));have z8:=hid (Rk.out.far (p:=⟨g,1,none⟩) (by show _≠g;omega) (.int .i64 (((S.size-(b::l2).length:Nat):Int)+1)));have hcv:=(qL.out.mv ((M (fun b=>b=g) w9).setCell (p:=⟨g,1,none⟩) (.inl rfl) (.int .i64 (((S.size-(b::l2).length:Nat):Int)+1))) fun k hk _=>by omega).str wH.out;generalize S.size-(b::l2).length=k at*;obtain⟨y0,y1,z0,z1,hgr⟩:=af.afL Rk.out;have akX:w.heap.size≠g:=by omega
    have akG:g≠w.heap.size:=by omega
    go_wp2_with fail
    have HRF:=hid (show af _ w.heap.size 125 #[.string ⟨nm.toArray⟩,.string ⟨acc.toArray⟩]from(z8.out.put 0 (.string ⟨nm.toArray⟩)).put 1 (.string ⟨acc.toArray⟩));have Ol:=hid (((M (fun k=>k=w.heap.size) (w9.setCell ⟨g,1,none⟩ (.int .i64 ((k:Int)+1)))).setCell (p:=⟨w.heap.size,0,none⟩) (.inl rfl) (.string ⟨nm.toArray⟩)).setCell (p:=⟨w.heap.size,1,none⟩) (.inl rfl) (.string ⟨acc.toArray⟩));obtain⟨r0,r1,_⟩:=af.afL HRF.out;refine bodyPost_ret (v:=.agg #[.string ⟨nm.toArray⟩,.string ⟨acc.toArray⟩]) (by simp[results,Tryz.results124,go_sem,r0,r1]) rfl ?_;rw[dB.out];exact⟨rfl,sJ.out.trans' Ol.out fun k hk=>.inr (by omega),AB.out.move Ol.out (by omega)⟩
   ·have hbn:((b.toNat:Int) !=(34:Int))=true:=si b 34 hb
    cases hr:jk n c (b::l2)with
    |bad l7=>
     have dB:=hid (show Xp.gM aM c l=.bad l7 by rw[HAR.out,kJ.out,Xp.G7 hb (by rw[wH.out];exact hr)];rfl);clear hb;go_wp2_with fail
     refine(fG S g c b l2 _ HX.out).mono ?_;rintro _ w9 ⟨rfl,iT⟩;have qb:=hid (HX.out.fresh iT);have lS:=hid (HT.out.trans (iT.mono fun _ h=>h.elim));clear iT;go_wp2_with fail
     refine(G5 S g c n (b::l2) _ hS (by omega) qb.out).mono ?_;intro e w3 he;rw[hr]at he;obtain⟨rfl,ht⟩:=he;refine⟨rfl,(?_:XA S g w (Xp.gM aM c l) _ _)⟩;rw[dB.out];exact⟨rfl,lS.out.trans ht⟩
    |ok x l7 c7=>
     have ZB:=hid (show Xp.iZ 34 c [] l3=Xp.iZ 34 c (acc++[x]) l7 by rw[kJ.out];exact Xp.AU hb (by rw[wH.out];exact hr));have hn2:=Xp.Vx hr;have hlt:=Xp.BZ hr;have hc7:=Xp.Oi hr;subst hc7;have HRR:=hid hr;have G9:=hid hlt;clear hb hr hlt;go_wp2_with fail
     refine(fG S g c7 b l2 _ HX.out).mono ?_;rintro _ w9 ⟨rfl,iT⟩;have qb:=hid (HX.out.fresh iT);have lS:=hid (HT.out.trans (iT.mono fun _ h=>h.elim));have qL:=hid (HG.out.fresh iT);have Rk:=hid (iT.blk HR.out fun h=>h);clear iT;go_wp2_with fail
     refine(G5 S g c7 n (b::l2) _ hS (by omega) qb.out).mono ?_;intro e w3 he;rw[HRR.out]at he;obtain⟨rfl,ht,hx⟩:=he;have p9:=hid (hx.fresh ((M _ w3).alloc (.cells #[.int .u8 (x.toNat:Int)] 5)));have HT3:=hid ((lS.out.trans ht).alloc (.cells #[.int .u8 (x.toNat:Int)] 5));have ZT:=hid ((qL.out.mv ht fun k hk _=>by omega).fresh ((M _ w3).alloc (.cells #[.int .u8 (x.toNat:Int)] 5)));have kW:=hid (af.new w3 5 #[.int .u8 (x.toNat:Int)]);have HR3:=hid ((ht.blk Rk.out fun h=>by omega).alloc (.cells #[.int .u8 (x.toNat:Int)] 5));clear ht hx
     go_wp2_with (at_builtin;go_loud (refine wpList_append_byte rfl (.tmp 31) (.tmp 36) rfl ZT.out wH.out (by simp[Act.eval]) x kW.out (by simp[Act.eval]) (by omega) ?_);intro A8 c8 w8 jI bR;refine jw.mk ?_)
     have HOW:=hid ZT.out.pY;have LK:=hid (p9.out.move bR fun h=>by have:=(HOW.out _ h).1;omega);have Cb:=hid (show Touch (fun b=>b=g) w w8 from HT3.out.trans' bR fun k hk=>.inr (by have:=(HOW.out _ hk).1;omega));have wI:=hid jI;have ZU:=hid (bR.blk HR3.out fun h=>by have:=(HOW.out _ h).1;omega);have HM:=hid (lN LK.out);clear jI bR;refine jw.go ?_;go_wp2
     go_roundw
     case rel=>exact⟨acc++[x],l7,A8,n+1,c8,rfl,hid (by rw[List.length_append,wH.out];rfl),by omega,ZB,wI,Cb,LK,ZU⟩
     case measure=>
      rw[HM.out,HP.out];have h1:=HX.out.len;have h2:=G9.out;rw[List.length_cons]at*;omega
end
section
open Go.RowKit
open Xp (Rs bQ jk jl)
open U (E aJ)
namespace Xp
theorem Om(q:UInt8)(c:Nat):∀(m:Nat) (l acc v l2:List UInt8) (c2:Nat),l.length≤m→iZ q c acc l=.ok v l2 c2→v.length+l2.length≤acc.length+l.length:=by
 intro m
 induction m with
 |zero=>
  intro l acc v l2 c2 hm h;have:l=[]:=List.length_eq_zero_iff.1 (by omega);subst this;rw[CZ]at h;cases h
 |succ m ih=>
  intro l acc v l2 c2 hm h;cases l with
  |nil=>rw[CZ]at h;cases h
  |cons b l=>
   by_cases hb:b=q
   ·subst hb
    rw[C8]at h;cases h;exact Nat.le_refl _
   ·cases hc:jk acc.length c (b::l)with
    |bad l3=>rw[G7 hb hc]at h;cases h
    |ok x l3 c3=>
     rw[AU hb hc]at h;have h1:=BZ hc;rw[List.length_cons]at hm h1⊢;have:=ih l3 (acc++[x]) v l2 c2 (by omega) h;rw[List.length_append]at this;simp only[List.length_cons,List.length_nil]at this;omega
end Xp
theorem He{c:Nat}{l x l1:List UInt8}{c1:Nat}(h:Xp.nM c l=.ok x l1 c1):x.length≤l.length∧l1.length≤l.length:=by
 cases l with
 |nil=>cases h
 |cons b l=>
  have h:(if U.letter b=true then Rs.ok ((b::l).takeWhile U.inner) ((b::l).dropWhile U.inner) c else .bad (b::l))=.ok x l1 c1:=h;split at h
  ·cases h
   have h1:((b::l).takeWhile U.inner++(b::l).dropWhile U.inner).length=(b::l).length:=by rw[List.takeWhile_append_dropWhile]
   rw[List.length_append]at h1;omega
  ·cases h
theorem ZV{aM:aJ}{c:Nat}{l:List UInt8}{x:List UInt8×List UInt8}{l1:List UInt8}{c1:Nat}(h:Xp.gM aM c l=.ok x l1 c1):x.1.length≤l.length∧x.2.length≤l.length∧c1=c:=by
 cases hn:Xp.nM c l with
 |bad l2=>rw[G8 hn]at h;cases h
 |ok nm l2 c2=>
  rw[Fb hn]at h;have hl:=He hn;cases l2 with
  |nil=>cases h
  |cons b l3=>
   have h:(if b≠61∨aM.any (fun x=>x.1==nm)=true then Rs.bad (b::l3)else Eh nm c (Xp.bB 34 c l3))=.ok x l1 c1:=h;split at h
   ·cases h
   ·cases he:Xp.bB 34 c l3 with
    |bad l4=>rw[he]at h;cases h
    |ok u l4 c4=>
     rw[he]at h;have h:Ca nm c (Xp.iZ 34 c [] l4)=.ok x l1 c1:=h;have h4:=(Xp.pW 34 c l3).len;rw[he]at h4;have h4:l4.length≤l3.length:=h4;cases ht:Xp.iZ 34 c [] l4 with
     |bad l5=>rw[ht]at h;cases h
     |ok v l5 c5=>
      rw[ht]at h;cases h;have h5:=Xp.Om 34 c _ l4 [] v l5 c5 (Nat.le_refl _) ht;have h6:=hl.2;simp only[List.length_cons,List.length_nil]at h5 h6;exact⟨hl.1,by show v.length≤_;omega,rfl⟩
def Cc(aM:aJ):List Value:=aM.flatMap fun x=>[.string ⟨x.1.toArray⟩,.string ⟨x.2.toArray⟩]
theorem LM:∀(aM:aJ) (i:Nat) (hi:i<aM.length),(Cc aM)[i*2]?=some (.string ⟨aM[i].1.toArray⟩)∧(Cc aM)[i*2+1]?=some (.string ⟨aM[i].2.toArray⟩)
 |[],i,h=>by simp at h
 |x::l,0,_=>⟨rfl,rfl⟩
 |x::l,i+1,h=>by
  have:=LM l i (by simpa using h);rw[show(i+1)*2=i*2+2 by omega,show i*2+2+1=i*2+1+2 by omega];exact this
def nN(B:Nat)(w:World)(aM:aJ)(v:Value):Prop:=B≤w.heap.size∧(∀x∈aM,x.1.length≤maxLen∧x.2.length≤maxLen)∧w.ownsRow B 125 2 v aM.length (Cc aM)
theorem nN.nil{B:Nat}{w:World}(hB:B≤w.heap.size):nN B w [] (.slice none 0 0):=⟨hB,(fun _ h=>by cases h),World.ownsRow_nil _ _ _ _⟩
theorem nN.pY{B:Nat}{w:World}{aM:aJ}{v:Value}(h:nN B w aM v):∀k,v.ownBlock=some k→B≤k∧k<w.heap.size:=fun k hk=>h.2.2.lt k hk
theorem nN.mv{B:Nat}{w w1:World}{aM:aJ}{v:Value}{S:Nat→Prop}(h:nN B w aM v)(ht:Touch S w w1)(hS:∀k,S k→k<w.heap.size→k<B):nN B w1 aM v:=by
 refine⟨Nat.le_trans h.1 ht.size,h.2.1,aQ h.2.2 ht fun k hk hs=>?_⟩;have h3:=h.2.2.lt k hk;have:=hS k hs h3.2;omega
theorem nN.fresh{B:Nat}{w w1:World}{aM:aJ}{v:Value}(h:nN B w aM v)(ht:ag w w1):nN B w1 aM v:=h.mv ht fun _ h=>h.elim
theorem nN.slice{B:Nat}{w:World}{aM:aJ}{v:Value}(h:nN B w aM v):∃A cap,v=.slice A aM.length cap:=mK h.2.2
theorem nN.rep{B:Nat}{w:World}{aM:aJ}{v:Value}(h:nN B w aM v):gJ w aM v:=by
 obtain⟨_,hx,ho⟩:=h
 rcases ho.2 with⟨rfl,h0⟩|⟨g,cap,cur,rfl,hB,hb,h1,h2,_⟩
 ·have:aM=[]:=List.length_eq_zero_iff.1 h0
  subst this;exact gJ.nil _ _ _
 ·refine⟨_,cap,rfl,⟨Nat.le_trans h1 h2,h1⟩,hx,.inr ⟨g,0,rfl,(ho.lt g rfl).2,fun i hi=>?_⟩⟩
  obtain⟨c0,c1⟩:=LM aM i hi;have e0:=ho.cells (g:=g) rfl _ _ c0;have e1:=ho.cells (g:=g) rfl _ _ c1;rw[Addr.add_mid,Nat.zero_add]at e0 e1;rw[Nat.zero_add];exact⟨e0,e1⟩
theorem nN.acf{B:Nat}{w:World}{aM:aJ}{v:Value}(h:nN B w aM v):dz (fun k=>k<B) w fun W=>gJ W aM v:=fun _ hW=>(h.mv hW fun _ h _=>h).rep
section
variable {w:World} {ops:Array Oper} {rest:List Oper} {o:Oper} {a:Act} {Q:Exit→Act→World→Prop}
theorem Hf(hgd:o.guard=none)(s x:Operand)
  (ho:o.op=.call {callee:=.builtin .append,args:=#[s,x],argTypes:=#[52,52]})
  {B n g:Nat} {aM:aJ} {v:Value} (h:nN B w aM v) (hn:aM.length=n) (hs:a.eval s=v) (y:List UInt8×List UInt8) (hy:y.1.length≤maxLen∧y.2.length≤maxLen) (hb:af w g 125 #[.string ⟨y.1.toArray⟩,.string ⟨y.2.toArray⟩]) (hx:a.eval x=.slice (some ⟨g,0,none⟩) 1 1) (hlen:n<2^40)
  (hK:∀A cp w',nN B w' (aM++[y]) (.slice A (n+1) cp)→Touch (fun k=>v.ownBlock=some k) w w'→wpList Tryz.prog ops Q rest (a.put o.dst (.slice A (n+1) cp)) w'):wpList Tryz.prog ops Q (o::rest) a w:=by
 subst hn;obtain⟨hBw,hall,h1⟩:=h;obtain⟨i,hi,hz0,hz1,hz2⟩:=info_parts ab9;refine iL _ hgd s x 52 ho B 125 i _ 2 32 Tryz.underlying52 hi hz0 hz1 hz2 rfl (by decide) v aM.length (Cc aM) hs h1 _ 1 _ hx (Src.uT hb rfl) (by simp[Value.oneCell']) (by simp only[maxLen];omega) (by omega) hBw fun v' w' ho' hgr hv'=>?_
 obtain⟨A,cp,rfl⟩:=mK ho';have ht:Touch (fun k=>v.ownBlock=some k) w w':=Touch.grown (M _ _) hgr fun k hk=>.inl hk
 refine hK A cp w' ⟨Nat.le_trans hBw hgr.size,fun z hz=>?_,?_⟩ ht
 ·rcases List.mem_append.1 hz with hz|hz
  ·exact hall z hz
  ·rw[List.mem_singleton.1 hz];exact hy
 ·rw[List.length_append]
  have:Cc (aM++[y])=Cc aM++[.string ⟨y.1.toArray⟩,.string ⟨y.2.toArray⟩]:=by unfold Cc;rw[List.flatMap_append];rfl
  rw[this];exact ho'
end
def zf(w:World)(g o:Nat)(x0 x1 x2 x3:Value):World:=(((w.setCell ⟨g,o,none⟩ x0).setCell ⟨g,o+1,none⟩ x1).setCell ⟨g,o+2,none⟩ x2).setCell ⟨g,o+3,none⟩ x3
theorem Ac(w:World)(g o:Nat)(x0 x1 x2 x3:Value):Touch (fun k=>k=g) w (zf w g o x0 x1 x2 x3):=
 ((((M (fun k=>k=g) w).setCell (p:=⟨g,o,none⟩) (.inl rfl) _).setCell (p:=⟨g,o+1,none⟩) (.inl rfl) _).setCell (p:=⟨g,o+2,none⟩) (.inl rfl) _).setCell (p:=⟨g,o+3,none⟩) (.inl rfl) _
theorem ZW{w:World}{B t g n cap:Nat}{xs:List Value}{z0 z1 z2 z3:Value}(h:w.ownsRow B t 4 (.slice (some ⟨g,0,none⟩) (n+1) cap) (n+1) (xs++[z0,z1,z2,z3]))(y0 y1 y2 y3:Value):
  (zf w g (n*4) y0 y1 y2 y3).ownsRow B t 4 (.slice (some ⟨g,0,none⟩) (n+1) cap) (n+1) (xs++[y0,y1,y2,y3]):=by
 have hl:xs.length=n*4:=by have:=h.1;rw[List.length_append]at this;simp only[List.length_cons,List.length_nil]at this;omega
 have h1:=(((((h.stored (n*4) y0).1.stored (n*4+1) y1).1).stored (n*4+2) y2).1.stored (n*4+3) y3).1
 have e:((((xs++[z0,z1,z2,z3]).set (n*4) y0).set (n*4+1) y1).set (n*4+2) y2).set (n*4+3) y3=xs++[y0,y1,y2,y3]:=by
  rw[List.set_append_right _ _ (by omega),List.set_append_right _ _ (by omega),List.set_append_right _ _ (by omega),List.set_append_right _ _ (by omega),show n*4-xs.length=0 by omega,show n*4+1-xs.length=1 by omega,show n*4+2-xs.length=2 by omega,show n*4+3-xs.length=3 by omega];rfl
 rw[e]at h1;exact h1
def wJ(B:Nat)(w:World)(es:List E)(e:E)(va vk v:Value):Prop:=B≤w.heap.size∧∃cs0,w.ownsRow B 55 4 v (es.length+1) (cs0++[.string ⟨#[]⟩,.slice none 0 0,.slice none 0 0,.string ⟨#[]⟩])∧
 dz (fun k=>v.ownBlock=some k∨k<B) w fun W=>kC W es cs0∧jd W e va vk
theorem wJ.mv{B:Nat}{w w1:World}{es:List E}{e:E}{va vk v:Value}{S:Nat→Prop}(h:wJ B w es e va vk v)(ht:Touch S w w1)(hS:∀k,S k→k<w.heap.size→k<B):wJ B w1 es e va vk v:=by
 obtain⟨hB,cs,h1,h2⟩:=h;refine⟨Nat.le_trans hB ht.size,cs,aQ h1 ht fun k hk hs=>?_,h2.step ht (fun i hi hs=>.inr (hS i hs hi)) (fun _ _ h=>h)⟩;have h3:=h1.lt k hk;have:=hS k hs h3.2;omega
theorem wJ.cells{B n:Nat}{w:World}{es:List E}{e:E}{va vk v:Value}(h:wJ B w es e va vk v)(hn:es.length=n):∃g cap,v=.slice (some ⟨g,0,none⟩) (n+1) cap∧n+1≤cap∧B≤g∧g<w.heap.size∧
  w.cell? ⟨g,n*4,none⟩=some (.string ⟨#[]⟩)∧w.cell? ⟨g,n*4+1,none⟩=some (.slice none 0 0)∧w.cell? ⟨g,n*4+2,none⟩=some (.slice none 0 0)∧w.cell? ⟨g,n*4+3,none⟩=some (.string ⟨#[]⟩)∧
  w.frozen? ⟨g,n*4,none⟩=false∧w.frozen? ⟨g,n*4+1,none⟩=false∧w.frozen? ⟨g,n*4+2,none⟩=false∧w.frozen? ⟨g,n*4+3,none⟩=false:=by
 subst hn;obtain⟨hB,cs,h1,h2⟩:=h;have hl:cs.length=es.length*4:=by have:=h1.1;rw[List.length_append]at this;simp only[List.length_cons,List.length_nil]at this;omega
 obtain⟨g,cap,rfl,hcap,hb⟩:∃g cap,v=.slice (some ⟨g,0,none⟩) (es.length+1) cap∧es.length+1≤cap∧B≤g:=by
  rcases h1.2 with⟨_,h0⟩|⟨g,cap,cur,e,hb,_,h5,_⟩
  ·omega
  ·exact⟨g,cap,e,h5,hb⟩
 have hc:∀i z,([Value.string ⟨#[]⟩,.slice none 0 0,.slice none 0 0,.string ⟨#[]⟩])[i]?=some z→i<4→w.cell? ⟨g,es.length*4+i,none⟩=some z:=fun i z hz hi4=>by
  rw[h1.cellAt _ (by omega),List.getElem?_append_right (by omega),show es.length*4+i-cs.length=i by omega];exact hz
 exact⟨g,cap,rfl,hcap,hb,(h1.lt g rfl).2,hc 0 _ rfl (by omega),hc 1 _ rfl (by omega),hc 2 _ rfl (by omega),hc 3 _ rfl (by omega),h1.frozenAt _,h1.frozenAt _,h1.frozenAt _,h1.frozenAt _⟩
theorem wJ.put{B n:Nat}{w:World}{es:List E}{e:E}{va vk:Value}{g cap:Nat}(h:wJ B w es e va vk (.slice (some ⟨g,0,none⟩) (n+1) cap))(hn:es.length=n):
  fQ B (zf w g (n*4) (.string ⟨e.name.toArray⟩) va vk (.string ⟨e.text.toArray⟩)) (es++[e]) (.slice (some ⟨g,0,none⟩) (n+1) cap):=by
 subst hn;obtain⟨hB,cs,h1,h2⟩:=h;refine⟨Nat.le_trans hB (Ac w g _ _ _ _ _).size,_,by rw[List.length_append];exact ZW h1 _ _ _ _,?_⟩;refine(h2.step (Ac w g _ _ _ _ _) (fun i _ hs=>.inl (by subst hs;rfl)) (fun _ _ h=>h)).imp fun W ⟨g1,g2⟩=>g1.append (kC.one g2)
section
variable {w:World} {ops:Array Oper} {rest:List Oper} {o:Oper} {a:Act} {Q:Exit→Act→World→Prop}
theorem Gd(hgd:o.guard=none)(s x:Operand)
  (ho:o.op=.call {callee:=.builtin .append,args:=#[s,x],argTypes:=#[53,53]})
  {B n g:Nat} {es:List E} {v:Value} (h:fQ B w es v) (hn:es.length=n) (hs:a.eval s=v) (e:E) {va vk:Value} (hb:af w g 55 Z) (hx:a.eval x=.slice (some ⟨g,0,none⟩) 1 1)
  (w0:Nat) (hB:B≤w0) (hown:∀k,v.ownBlock=some k→k<w0) (FZ:dz (fun k=>k<w0) w fun W=>jd W e va vk) (hlen:n<2^40)
  (hK:∀A cp w',wJ B w' es e va vk (.slice A (n+1) cp)→Touch (fun k=>v.ownBlock=some k) w w'→wpList Tryz.prog ops Q rest (a.put o.dst (.slice A (n+1) cp)) w'):wpList Tryz.prog ops Q (o::rest) a w:=by
 subst hn;obtain⟨hBw,cs,h1,h2⟩:=h;obtain⟨i,hi,hz0,hz1,hz2⟩:=info_parts E8;have h3:∀u∈[Value.string ⟨#[]⟩,.slice none 0 0,.slice none 0 0,.string ⟨#[]⟩],u.oneCell'=true:=by simp[Value.oneCell']
 refine iL _ hgd s x 53 ho B 55 i _ 4 80 Tryz.underlying53 hi hz0 hz1 hz2 rfl (by decide) v es.length cs hs h1 _ 1 _ hx (Src.uT hb rfl) h3 (by simp only[maxLen];omega) (by omega) hBw fun v' w' ho' hgr hv'=>?_
 obtain⟨A,cp,rfl⟩:=mK ho';have ht:Touch (fun k=>v.ownBlock=some k) w w':=Touch.grown (M _ _) hgr fun k hk=>.inl hk
 refine hK A cp w' ⟨Nat.le_trans hBw hgr.size,_,ho',?_⟩ ht
 have hS:∀i,i<w.heap.size→((Value.slice A (es.length+1) cp).ownBlock=some i∨i<B)→(v.ownBlock=some i∨i<B):=fun i hi hs=>by
  rcases hs with hs|hs
  ·rcases hv' with h6|h6<;>rw[h6]at hs
   ·exact .inl hs
   ·cases hs;omega
  ·exact .inr hs
 refine(h2.step ht (fun i _ hs=>.inl hs) hS).and (FZ.step ht (fun i hi hs=>hown i hs) fun i hi hs=>?_)
 rcases hS i hi hs with h6|h6
 ·exact hown i h6
 ·omega
end
end
end Go.Proofs.YtcgbccfpcgaikaaGreatDoor
