/- Part 12 of 41 of a proof. No condition. -/
import Derived.Test.YtabjglnjjdcfmaaGreatDoorWe11
import Derived.Test.YtabjglnjjdcfmaaGreatDoorWe4
set_option maxRecDepth 100000
set_option maxHeartbeats 2000000
namespace Go.Proofs.YtabjglnjjdcfmaaGreatDoor
open _root_.Nat renaming lt_of_lt_of_le->avc
open _root_.Bool renaming eq_iff_iff->avs,and_eq_true->auY,and_true->avw,not_eq_true->awS,not_eq_true'->avN
open _root_.List renaming take_add_one->avq,getElem?_eq_getElem->ave,all_append->awl,all_cons->au9,all_nil->awY,all_eq_true->avp,isEmpty_iff->avV,length_append->auZ,length_cons->au0,dropWhile_cons->av8,takeWhile_append_dropWhile->awd
open _root_.Go.Region renaming noSelect->avu,ready->au5
open _root_.Array renaming replicate->au4
open _root_.Go.Proofs.Tryz
section
open Go.RowKit
open U (E aJ)
def wS(w:W_)(b:Nat):Prop:=∀o x,w.cell? (B_ b o)≠some (.string x)
theorem wS.int{w:W_}{c:Nat}{k:Int}(h:af w c 3 #[V k]):wS w c:=by
 intro o x hx;rw[h.cell]at hx
 match o with
 |0=>cases hx
 |_+1=>cases hx
theorem gJ.YU{S:Nat->Prop}{W W':W_}{Gg:aJ}{v:Value}(h:gJ W Gg v)(ht:Touch S W W')(hS:∀b,S b->wS W b):gJ W' Gg v:=by
 obtain⟨A,cap,h1,h2,h3,h4⟩:=h;refine⟨A,cap,h1,h2,h3,h4.imp id ?_⟩;rintro⟨g,o,hA,hg,hc⟩;refine⟨g,o,hA,avc hg ht.size,λi hi=>?_⟩;have hn:¬S g:=λhs=>hS g hs _ _ (hc i hi).1
 exact⟨ht.cell (hc i hi).1 hn,ht.cell (hc i hi).2 hn⟩
theorem gK.YU{S:Nat->Prop}{W W':W_}{es:List E}{v:Value}(h:gK W es v)(ht:Touch S W W')(hS:∀b,S b->wS W b):gK W' es v:=by
 induction h with
 |nil A cap=>exact .nil A cap
 |row g o cap es al sl hg hl an h0 h1 h2 h3 ha hk ih=>
  have hn:∀i,i<es.length->¬S g:=λi hi hs=>hS g hs _ _ (h0 i hi)
  exact .row g o cap es al sl (avc hg ht.size) hl an (λi hi=>ht.cell (h0 i hi) (hn i hi)) (λi hi=>ht.cell (h1 i hi) (hn i hi)) (λi hi=>ht.cell (h2 i hi) (hn i hi)) (λi hi=>ht.cell (h3 i hi) (hn i hi)) (λi hi=>(ha i hi).YU ht hS) ih
theorem jd.YU{S:Nat->Prop}{W W':W_}{e:E}{va vk:Value}(h:jd W e va vk)(ht:Touch S W W')(hS:∀b,S b->wS W b):jd W' e va vk:=⟨h.1.YU ht hS,h.2.1.YU ht hS,h.2.2⟩
theorem gJ.take{W:W_}{Gg:aJ}{A:Option Addr}{len cap:Nat}(h:gJ W Gg (.slice A len cap))(i:Nat)(hi:i<=Gg.length):gJ W (Gg.take i) (.slice A i cap):=by
 obtain⟨A',cap',h1,h2,h3,h4⟩:=h;cases h1;have aa:(Gg.take i).length=i:=by rw[List.length_take];omega
 refine⟨A,cap,by rw[aa],⟨by rw[aa];omega,by rw[aa];omega⟩,λx hx=>h3 x asr,?_⟩
 rcases h4 with rfl|⟨g,o,hA,hg,hc⟩
 .exact .inl P9
 .refine .inr ⟨g,o,hA,hg,λk hk=>?_⟩
  have:=hc k Zo;exact ah7
theorem gJ.cap{W:W_}{Gg:aJ}{A:Option Addr}{len cap:Nat}(h:gJ W Gg (.slice A len cap)):Gg.length<=cap:=by
 obtain⟨A',cap',h1,h2,h3,h4⟩:=h;cases h1;exact h2.2
def gZ(w:W_)(g o:Nat)(e:E)(va vk:Value):Prop:=g<w.heap.size/\w.cell? (B_ g o)=some (S_ e.name)/\w.cell? (B_ g (o+1))=some va/\w.cell? (B_ g (o+2))=some vk/\w.cell? (B_ g (o+3))=some (S_ e.QG)/\jd w e va vk
theorem gZ.YU{S:Nat->Prop}{w w':W_}{g o:Nat}{e:E}{va vk:Value}(h:gZ w g o e va vk)(ht:Touch S w w')(hS:∀b,S b->wS w b):gZ w' g o e va vk:=by
 have hn:¬S g:=λhs=>hS g hs _ _ h.2.1
 exact⟨avc h.1 ht.size,ht.cell h.2.1 hn,ht.cell h.2.2.1 hn,ht.cell h.2.2.2.1 hn,ht.cell h.2.2.2.2.1 hn,h.2.2.2.2.2.YU ht hS⟩
theorem gZ.QH{w w':W_}{g o:Nat}{e:E}{va vk:Value}(h:gZ w g o e va vk)(ht:ag w w'):gZ w' g o e va vk:=h.YU ht λ_ hf=>hf.elim
theorem gZ.ne{w:W_}{g o:Nat}{e:E}{va vk:Value}(h:gZ w g o e va vk){c:Nat}(hc:wS w c):g≠c:=λhe=>hc o _ (he▸h.2.1)
theorem gK.yw{W:W_}{es:List E}{A:Option Addr}{len cap:Nat}(h:gK W es (.slice A len cap))(i:Nat)(hi:i<es.length):
  ∃g o va vk,A=A_ g o/\gZ W g (o+i*4) es[i] va vk:=by
 obtain⟨g,o,va,vk,hA,hg,h0,h1,h2,h3,hr⟩:=h.get i hi;exact⟨g,o,va,vk,hA,hg,h0,h1,h2,h3,hr⟩
namespace U
def oU(d k:Nat)(e:E):Bool:=proper e&&decide (d+depth e<=65)&&decide (k+count e<=3000)
def sW(d k:Nat)(l:List E):Bool:=uE l&&decide (d+aX l<=65)&&decide (k+az l<=3000)
theorem ab'(e:E):oU 1 0 e=valid e:=by
 unfold oU valid;rw[avs];simp only[auY,decide_eq_true_eq,Nat.zero_add];constructor
 .rintro⟨⟨h1,h2⟩,h3⟩;exact⟨⟨h1,h3⟩,by omega⟩
 .rintro⟨⟨h1,h2⟩,h3⟩;exact⟨⟨h1,by omega⟩,h2⟩
theorem aeS(d k:Nat)(e:E):oU d k e=(decide (k+1<=3000)&&decide (d<=64)&&qF e&&sW (d+1) (k+1) e.Qx):=by
 unfold oU sW;rw[sD,oN,aN,avs];simp only[auY,decide_eq_true_eq];constructor
 .rintro⟨⟨⟨h1,h2⟩,h3⟩,h4⟩;exact⟨⟨⟨by omega,by omega⟩,h1⟩,⟨h2,by omega⟩,by omega⟩
 .rintro⟨⟨⟨h1,h2⟩,h3⟩,⟨h4,h5⟩,h6⟩;exact⟨⟨⟨h3,h4⟩,by omega⟩,by omega⟩
theorem Xk(d k:Nat)(l:List E)(j:Nat)(h:j<l.length):sW d k (l.take (j+1))=(sW d k (l.take j)&&oU d (k+az (l.take j)) l[j]):=by
 unfold sW oU;rw[o8,o8,Dy l j h,uA l j h,avq,ave h,awl];simp only[Option.toList_some,au9,awY,avw];rw[avs];simp only[auY,decide_eq_true_eq];constructor
 .rintro⟨⟨⟨h1,h2⟩,h3⟩,h4⟩;exact⟨⟨⟨h1,by omega⟩,by omega⟩,⟨h2,by omega⟩,by omega⟩
 .rintro⟨⟨⟨h1,h2⟩,h3⟩,⟨h4,h5⟩,h6⟩;exact⟨⟨⟨h1,h4⟩,by omega⟩,by omega⟩
theorem acd(d k:Nat)(l:List E)(j:Nat)(h:sW d k (l.take j)=false):sW d k l=false:=by
 rw[<-awS]at h|-;intro h';apply h
 unfold sW at h'|-;simp only[auY,decide_eq_true_eq]at h'|-;obtain⟨⟨h1,h2⟩,h3⟩:=h';have:=qy l j
 have hd:aX (l.take j)<=aX l:=by
  have e:l=l.take j++l.drop j:=(List.take_append_drop j l).symm;have:=EY (l.take j) (l.drop j);rw[<-e]at this;omega
 refine⟨⟨?_,by omega⟩,by omega⟩;rw[o8]at h1|-;rw[avp]at h1|-;exact λx hx=>h1 x asr
theorem UC:jY []=true:=rfl
theorem Re(l:aJ)(j:Nat)(h:j<l.length):jY (l.take (j+1))=(jY (l.take j)&&(jH l[j].1&&fu l[j].2&&!(l.take j).any (λx=>x.1==l[j].1))):=by
 unfold jY;rw[avq,ave h,awl,List.map_append];simp only[Option.toList_some,au9,awY,avw,List.map_cons,List.map_nil];rw[avs];simp only[auY,decide_eq_true_eq,avN,List.any_eq_false,List.nodup_append,List.mem_map,List.mem_singleton,beq_iff_eq];constructor
 .rintro⟨⟨h1,h2,h3⟩,h4,h5,h6⟩
  refine⟨⟨h1,h4⟩,⟨h2,h3⟩,λx hx he=>?_⟩;exact h6 _ ⟨x,hx,rfl⟩ _ rfl he
 .rintro⟨⟨h1,h4⟩,⟨h2,h3⟩,h5⟩
  refine⟨⟨h1,h2,h3⟩,h4,by simp,?_⟩;rintro _ ⟨x,hx,rfl⟩ _ rfl he;exact h5 x hx he
theorem E9(l:aJ)(j:Nat)(h:jY (l.take j)=false):jY l=false:=by
 rw[<-awS]at h|-;intro h';apply h
 unfold jY at h'|-;simp only[auY,decide_eq_true_eq]at h'|-;obtain⟨h1,h2⟩:=h';refine⟨?_,?_⟩
 .rw[avp]at h1|-
  exact λx hx=>h1 x asr
 .rw[List.map_take]
  exact(List.take_sublist _ _).nodup h2
end U
end
section
open Go.RowKit
theorem LG{P:Program}{Q:Exit->Act->W_->Prop}{id:Nat}{a:Act}{w:W_}{l:List Oper}(p:gq)(ns:List Nat)(t:Nat)(fin:Array Bool)(C2:W_->Prop)(p2:gq)(Rf:List Nat)(Kk:Array Bool)(hm:P.follows .mixedOrders=true)(hQ:∀c a d v w,Q (.panic c) (Act.put a d v) w->Q (.panic c) a w)
  (hB:(avu l.toArray&&decide (p.len+(p2.len+1)=l.toArray.size)&&p.within ns&&nZ .any l.toArray fin p (au4 l.toArray.size false)&&qi .any l.toArray ns (some t) (au4 l.toArray.size false)&&
   decide (au5 .any l.toArray fin=[t])&&!ns.contains t&&p2.within Rf&&nZ .any l.toArray Kk p2 (fin.setIfInBounds t true)&&qi .any l.toArray Rf none (fin.setIfInBounds t true)&&(au5 .any l.toArray Kk).isEmpty)=true)
  (h:fK P l Q (λw'=>∃p:Regrown,w'=Go.Sort.grow (redrawn w p.d) p.os) (λa' w'=>wpList P l.toArray (Exit.then (λa'' w''=>C2 w''/\fK P l Q C2 (λa3 w3=>Q .normal a3 w3) p2 a'' w'') Q) (pick l [t]) a' w') p a (w.drewN 1)):(Code.region id l.toArray true).wp P Q a w:=by
 simp only[auY,decide_eq_true_eq,avN,avV]at hB;obtain⟨⟨⟨⟨⟨⟨⟨⟨⟨⟨ab,hn⟩,ad⟩,hp⟩,hs⟩,hr⟩,ht⟩,ac⟩,ay⟩,hs2⟩,hr2⟩:=hB;refine wp_region_any hm ?_;rw[<-hn];rw[<-hn]at hp hs
 have hz:nC .any l.toArray ns (au4 (p.len+(p2.len+1)) false) (au4 (p.len+(p2.len+1)) false):=
  ⟨⟨by simp[hn],λj oj _ hl=>by rw[qB]at hl;cases hl⟩,λ_ h=>h,λ_ h=>.inl h⟩
 have hz':=y7 p _ ad hz hp;have aa:t∈au5 .any l.toArray fin:=aia
 have af:t∉ns:=by
  exact aip
 obtain⟨_,ot,ae,_⟩:=mem_ready.1 aa;have:=lG (P:=P) (Q:=Q) (fin:=fin) ab hQ hs anH p _ a (w.drewN 1) ad hz hp (mE.drew w) h;refine nL (g:=p2.len+1) (λlisted' a' w' _ hL=>?_) p.len _ a _ (mE.drew w) this;refine wpAny_all (rs:=[t]) amN P9 (λi hi=>?_);exact El
theorem BU{P:Program}{Q:Exit->Act->W_->Prop}{C C2:W_->Prop}{L2:Act->W_->Prop}{p2:gq}{l:List Oper}{t:Nat}{o:Oper}{a:Act}{w:W_}(ho:l[t]?=some o)
  (h:∀K:Act->W_->Prop,(∀a w,C2 w->fK P l Q C2 L2 p2 a w->K a w)->wpList P l.toArray (Exit.then K Q) [o] a w):fK P l Q C (λa' w'=>wpList P l.toArray (Exit.then (λa'' w''=>C2 w''/\fK P l Q C2 L2 p2 a'' w'') Q) (pick l [t]) a' w') .nil a w:=by
 unfold fK;have hp:pick l [t]=[o]:=asv
 exact asu
theorem CW{P:Program}{Q:Exit->Act->W_->Prop}{id:Nat}{a:Act}{w:W_}{l:List Oper}(C:W_->Prop)(p:gq)(ns:List Nat)(t:Nat)(fin:Array Bool)(C2:W_->Prop)(p2:gq)(Rf:List Nat)(Kk:Array Bool)(hm:P.follows .mixedOrders=true)(hQ:∀c a d v w,Q (.panic c) (Act.put a d v) w->Q (.panic c) a w)
  (hB:(avu l.toArray&&decide (p.len+(p2.len+1)=l.toArray.size)&&p.within ns&&nZ .any l.toArray fin p (au4 l.toArray.size false)&&qi .any l.toArray ns (some t) (au4 l.toArray.size false)&&
   decide (au5 .any l.toArray fin=[t])&&!ns.contains t&&p2.within Rf&&nZ .any l.toArray Kk p2 (fin.setIfInBounds t true)&&qi .any l.toArray Rf none (fin.setIfInBounds t true)&&(au5 .any l.toArray Kk).isEmpty)=true)
  (hC:C (w.drewN 1)) (h:fK P l Q C (λa' w'=>wpList P l.toArray (Exit.then (λa'' w''=>C2 w''/\fK P l Q C2 (λa3 w3=>Q .normal a3 w3) p2 a'' w'') Q) (pick l [t]) a' w') p a (w.drewN 1)):(Code.region id l.toArray true).wp P Q a w:=by
 simp only[auY,decide_eq_true_eq,avN,avV]at hB;obtain⟨⟨⟨⟨⟨⟨⟨⟨⟨⟨ab,hn⟩,ad⟩,hp⟩,hs⟩,hr⟩,ht⟩,ac⟩,ay⟩,hs2⟩,hr2⟩:=hB;refine wp_region_any hm ?_;rw[<-hn];rw[<-hn]at hp hs
 have hz:nC .any l.toArray ns (au4 (p.len+(p2.len+1)) false) (au4 (p.len+(p2.len+1)) false):=
  ⟨⟨by simp[hn],λj oj _ hl=>by rw[qB]at hl;cases hl⟩,λ_ h=>h,λ_ h=>.inl h⟩
 have hz':=y7 p _ ad hz hp;have aa:t∈au5 .any l.toArray fin:=aia
 have af:t∉ns:=by
  exact aip
 obtain⟨_,ot,ae,_⟩:=mem_ready.1 aa;have:=lG (P:=P) (Q:=Q) (fin:=fin) ab hQ hs anH p _ a (w.drewN 1) ad hz hp hC h;refine nL (g:=p2.len+1) (λlisted' a' w' _ hL=>?_) p.len _ a _ hC this;refine wpAny_all (rs:=[t]) amN P9 (λi hi=>?_);exact El
structure Turned(S:Nat->Prop)(w0:W_) where
 W:W_
 ht:Touch S w0 W
instance{S:Nat->Prop}{w0:W_}:Nonempty (Turned S w0):=⟨⟨w0,M _ _⟩⟩
theorem cT{S:Nat->Prop}{w0:W_}{b i:Nat}{v:Value}(h:w0.cell? (B_ b i)=some v)(hS:¬S b)(x:Turned S w0):x.W.cell? (B_ b i)=some v:=x.ht.cell h hS
end
section
open Go.RowKit
open Xp (Rs bQ)
structure Xr(S:Y_)(g:Nat)(l:List UInt8)(c:Nat)(w:W_):Prop where
 QN:af w g 108 #[.string S,V ((S.size-l.length:Nat):Int),V (c:Int)]
 Ef:bQ l S.data.toList
def flt(k:Nat):List PanicEntry:=[{v:=.iface 109 (V (k:Int)),recovered:=false}]
def XS(S:Y_)(g:Nat)(w:W_)(l:List UInt8)(e:Ending)(w':W_):Prop:=e=.panicked (flt (S.size-l.length))/\Touch (λb=>b=g) w w'
theorem Xr.QH{S:Y_}{g:Nat}{l:List UInt8}{c:Nat}{w w':W_}(h:Xr S g l c w)(hf:ag w w'):Xr S g l c w':=⟨hf.QN h.QN λh=>h,h.Ef⟩
theorem Xr.move{S:Y_}{g:Nat}{l:List UInt8}{c:Nat}{w w':W_}{X:Nat->Prop}(h:Xr S g l c w)(ht:Touch X w w')(hg:¬X g):Xr S g l c w':=⟨ht.QN h.QN hg,h.Ef⟩
theorem Xr.lt{S:Y_}{g:Nat}{l:List UInt8}{c:Nat}{w:W_}(h:Xr S g l c w):g<w.heap.size:=h.QN.lt
theorem Xr.len{S:Y_}{g:Nat}{l:List UInt8}{c:Nat}{w:W_}(h:Xr S g l c w):l.length<=S.size:=by
 have:=h.Ef.len;exact ah7
theorem BV{S:Y_}{b:UInt8}{l:List UInt8}(h:bQ (b::l) S.data.toList):∃hk:S.size-(b::l).length<S.size,S[S.size-(b::l).length]'hk=b/\S.size-(b::l).length+1=S.size-l.length:=by
 obtain⟨p,hp⟩:=h;have hl:S.data.toList.length=S.size:=P9
 have hl2:S.size=p.length+(l.length+1):=by rw[<-hl,hp,auZ,au0]
 have hk:S.size-(b::l).length=p.length:=atb
 refine⟨by rw[hk];omega,?_,by rw[au0];omega⟩;have h1:=abu S (S.size-(b::l).length) (by rw[hk];omega);rw[<-h1]
 have:∀(k:Nat) (hk2:k<S.data.toList.length),k=p.length->S.data.toList[k]=b:=by
  intro k hk2 e;subst e;simp only[hp];rw[List.getElem_append_right (Nat.le_refl _)];simp
 exact this _ _ hk
theorem fM{w:W_}{g:Nat}{t:TypeId}{x0 x1 x2:Value}(h:af w g t #[x0,x1,x2]):
  w.cell? (B_ g 0)=some x0/\w.cell? (B_ g 1)=some x1/\w.cell? (B_ g 2)=some x2/\w.frozen? (B_ g 0)=false/\w.frozen? (B_ g 1)=false/\w.frozen? (B_ g 2)=false/\g<w.heap.size:=
 ⟨h.cell 0,h.cell 1,h.cell 2,h.frozen 0,h.frozen 1,h.frozen 2,h.lt⟩
theorem Xr.wG{S:Y_}{g:Nat}{b:UInt8}{l:List UInt8}{c:Nat}{w:W_}(h:Xr S g (b::l) c w):Xr S g l c (w.setCell (B_ g 1) (V (((S.size-(b::l).length:Nat):Int)+1))):=by
 obtain⟨hk,_,hk2⟩:=BV h.Ef;refine⟨?_,(bQ.cons b).trans h.Ef⟩;have:=h.QN.put 1 (V (((S.size-(b::l).length:Nat):Int)+1));rw[show(((S.size-(b::l).length:Nat):Int)+1)=((S.size-l.length:Nat):Int) by rw[<-hk2];rfl]at this|-;exact this
theorem qJ(S:Y_)(g:Nat)(l:List UInt8)(c:Nat)(w:W_)(h:Xr S g l c w):C_ 75 #[.pointer (A_ g 0)] w λe w'=>e=.panicked (flt (S.size-l.length))/\w'=w:=by
 obtain⟨q0,q1,q2,_,_,_,_⟩:=fM h.QN;unfold flt;generalize S.size-l.length=k at*;go_enter func75,ntmps75;go_wp2_with fail
 exact⟨rfl,rfl,rfl⟩
end
section
open Go.RowKit
open Xp (Rs bQ Dq bB nM wW iQ)
theorem ZO:∀n:Fin 256,Dq (UInt8.ofNat n.1)=(((n.1:Int)==(32:Int))||((n.1:Int)==(9:Int))||((n.1:Int)==(10:Int))||((n.1:Int)==(13:Int))):=I_
theorem BX(b:UInt8):Dq b=(((b.toNat:Int)==(32:Int))||((b.toNat:Int)==(9:Int))||((b.toNat:Int)==(10:Int))||((b.toNat:Int)==(13:Int))):=by
 have:=ZO ⟨b.toNat,b.toNat_lt⟩;exact ah7
theorem JL(b:UInt8)(w:W_):C_ 110 #[.int .u8 (b.toNat:Int)] w λe w'=>e=.returned (.bool (Dq b))/\w'=w:=by
 go_enter func110,ntmps110;cases h1:((b.toNat:Int)==(32:Int))with
 |false=>
  have Gy:((b.toNat:Int) !=(32:Int))=true:=atL
  cases h2:((b.toNat:Int)==(9:Int))with
  |false=>
   have QB:((b.toNat:Int) !=(9:Int))=true:=atN
   cases h3:((b.toNat:Int)==(10:Int))with
   |false=>
    have D5:((b.toNat:Int) !=(10:Int))=true:=ani
    cases h4:((b.toNat:Int)==(13:Int))with
    |false=>
     have QC:((b.toNat:Int) !=(13:Int))=true:=atO
     go_wp2
     exact aqQ
    |true=>
     have QC:((b.toNat:Int) !=(13:Int))=false:=atO
     go_wp2
     exact aqQ
   |true=>
    have D5:((b.toNat:Int) !=(10:Int))=false:=ani
    go_wp2
    exact aqQ
  |true=>
   have QB:((b.toNat:Int) !=(9:Int))=false:=atN
   go_wp2
   exact aqQ
 |true=>
  have Gy:((b.toNat:Int) !=(32:Int))=false:=atL
  go_wp2
  exact aqQ
theorem xE(S:Y_)(g c:Nat)(w:W_)(h:Xr S g [] c w):C_ 111 #[.pointer (A_ g 0)] w λe w'=>XS S g w [] e w':=by
 have HX:=I h;obtain⟨q0,q1,q2,_,_,_,_⟩:=fM h.QN;rw[show S.size-([]:List UInt8).length=S.size from rfl]at q1;have d1:decide ((S.size:Int)<=(S.size:Int))=true:=dT (Int.le_refl _);have jo:decide (S.size<=S.size)=true:=dT PD;clear h;go_enter func111,ntmps111;go_wp2
 go_quiet (fail)
 go_wp2_with fail
 refine(qJ S g [] c _ (HX.QH aes)).mono ?_;rintro _ w1 ⟨rfl,rfl⟩;exact⟨rfl,rfl,(M _ _).drewN _⟩
theorem fG(S:Y_)(g c:Nat)(b:UInt8)(l:List UInt8)(w:W_)(h:Xr S g (b::l) c w):C_ 111 #[.pointer (A_ g 0)] w λe w'=>e=.returned (.int .u8 (b.toNat:Int))/\ag w w':=by
 obtain⟨q0,q1,q2,_,_,_,_⟩:=fM h.QN;obtain⟨hk,hb,_⟩:=BV h.Ef;clear h;generalize S.size-(b::l).length=k at*;have ak:(k:Int)<(S.size:Int):=Zo
 have d1:decide ((S.size:Int)<=(k:Int))=false:=dF Zo;have jo:decide (S.size<=k)=false:=dF Zo;go_enter func111,ntmps111;go_wp2
 go_quiet (fail)
 go_wp2
 go_quiet (fail)
 go_wp2
 go_ret;exact⟨rfl,((M _ _).drewN _).drewN _⟩
def XU(S:Y_)(g:Nat)(w:W_)(r:Rs Unit)(e:Ending)(w':W_):Prop:=match r with
 |.ok _ l' c'=>e=.returned (.tuple #[])/\Touch (λb=>b=g) w w'/\Xr S g l' c' w'
 |.bad l'=>XS S g w l' e w'
theorem qY(S:Y_)(g c:Nat)(b:UInt8)(l:List UInt8)(w:W_)(hS:S.size<=1099511627776)(h:Xr S g l c w):C_ 73 #[.pointer (A_ g 0),.int .u8 (b.toNat:Int)] w λe w'=>XU S g w (bB b c l) e w':=by
 have HX:=I h;clear h;cases l with
 |nil=>
  go_enter func73,ntmps73;go_wp2_with fail
  refine(xE S g c w HX).mono ?_;exact ar6
 |cons x l=>
  by_cases hx:x=b
  .have hne:=qC x b hx
   have HR:=I (show bB b c (x::l)=.ok () l c from if_pos hx);clear hx;go_enter func73,ntmps73;go_wp2_with fail
   refine(fG S g c x l w HX).mono ?_;rintro _ w1 ⟨rfl,hf⟩;have je:=I arR;have aK:=I hf;obtain⟨q0,q1,q2,f0,f1,f2,hg⟩:=fM je.QN;have p8:=I je.wG;have hle:=je.len;have hw:IntKind.i64.wrap (((S.size-(x::l).length:Nat):Int)+1)=((S.size-(x::l).length:Nat):Int)+1:=IntWalk.i64_in _ Zo;clear hf;generalize S.size-(x::l).length=k at*;go_wp2
   refine bodyPost_end (v:=.tuple #[]) Un rfl ?_;rw[HR.out];exact⟨rfl,(show Touch (λb=>b=g) w w1 from aK.mono λ_ h=>h.elim).setCell (p:=B_ g 1) Wh _,p8⟩
  .have hne:=si x b hx
   have HR:=I (show bB b c (x::l)=.bad (x::l)from if_neg hx);clear hx;go_enter func73,ntmps73;go_wp2_with fail
   refine(fG S g c x l w HX).mono ?_;rintro _ w1 ⟨rfl,hf⟩;have je:=I arR;have aK:=I hf;clear hf;go_wp2_with fail
   refine(qJ S g (x::l) c _ je).mono ?_;rintro _ w2 ⟨rfl,rfl⟩;refine⟨rfl,(?_:XU S g w (bB b c (x::l)) _ _)⟩;rw[HR.out];exact⟨rfl,aK.mono λ_ h=>h.elim⟩
def posOf(g:Nat)(w:W_):Nat:=match w.cell? (B_ g 1)with
 |some (.int _ k)=>k.toNat
 |_=>0
theorem lN{S:Y_}{g c:Nat}{l:List UInt8}{w:W_}(h:Xr S g l c w):posOf g w=S.size-l.length:=by
 unfold posOf;rw[(fM h.QN).2.1];show Int.toNat _=_;omega
theorem Oe(p:UInt8->Bool)(b:UInt8)(l:List UInt8)(h:p b=true):(b::l).dropWhile p=l.dropWhile p:=by rw[av8,if_pos h]
theorem Og(p:UInt8->Bool)(b:UInt8)(l:List UInt8)(h:p b=false):(b::l).dropWhile p=b::l:=by rw[av8,if_neg (by rw[h];decide)]
theorem vW(S:Y_)(g c:Nat)(l:List UInt8)(w:W_)(hS:S.size<=1099511627776)(h:Xr S g l c w):C_ 72 #[.pointer (A_ g 0)] w λe w'=>e=.returned (.bool (decide ((l.dropWhile Dq).length<l.length)))/\Touch (λb=>b=g) w w'/\Xr S g (l.dropWhile Dq) c w':=by
 have HX:=I h;obtain⟨q0,q1,q2,_,_,_,_⟩:=fM h.QN;have ab:=h.len;clear h;obtain⟨k0,aA⟩:∃k,k=S.size-l.length:=⟨_,rfl⟩;have CX:=I aA;rw[<-aA]at q1;clear aA;go_enter func72,ntmps72;go_wp2_with fail
 clear q0 q1 q2
 go_loopw [] (λwr=>∃l1:List UInt8,Hd (l1.dropWhile Dq=l.dropWhile Dq)/\Hd (bQ l1 l)/\Hd (Touch (λb=>b=g) w wr)/\Hd (Xr S g l1 c wr)) (λwr=>S.size-posOf g wr)
 case atStart=>exact⟨l,I rfl,I (bQ.refl _),I afD,HX⟩
 case round=>
  obtain⟨l1,HD,HS,HT,HX⟩:=hrel;obtain⟨q0,q1,q2,f0,f1,f2,hg⟩:=fM HX.QN;have HP:=I (lN HX);have hle:=HX.len;cases l1 with
  |nil=>
   have dB:=I (show l.dropWhile Dq=[]from HD.symm);rw[show S.size-([]:List UInt8).length=S.size from rfl]at q1;have d1:decide ((S.size:Int)<(S.size:Int))=false:=dF Zo;have jo:decide (S.size<S.size)=false:=dF Zo;go_wp2
   go_quiet (fail)
   go_wp2
   go_ret;refine⟨ai _ _ ?_,(HT).drewN _,by rw[dB.out];exact HX.QH aes⟩;rw[dB.out,decide_eq_decide];have h1:=CX.out;show _↔0<l.length;omega
  |cons x l1=>
   obtain⟨hk,hb,hk2⟩:=BV HX.Ef;have p8:=I HX.wG;have uP:=I hk2;clear hk2;have hw:IntKind.i64.wrap (((S.size-(x::l1).length:Nat):Int)+1)=((S.size-(x::l1).length:Nat):Int)+1:=IntWalk.i64_in _ Zo;have ak:((S.size-(x::l1).length:Nat):Int)<(S.size:Int):=Zo
   have d1:decide (((S.size-(x::l1).length:Nat):Int)<(S.size:Int))=true:=dT Zo;have jo:decide (S.size-(x::l1).length<S.size)=true:=dT Zo;generalize ad:S.size-(x::l1).length=k at q1 hk hb hw ak d1 jo p8;have HK:=I ad;clear ad;cases hp:Dq x with
   |false=>
    have dB:=I (show l.dropWhile Dq=x::l1 by rw[<-HD.out];exact Og Dq x l1 hp);go_wp2_with fail
    refine bK (λW=>ag wr W) afD ?_;rintro w2 aa;have bW:=I aa;have p0:=aa.cell q0 PR;have p1:=aa.cell q1 PR;have r0:=cell_regrown p0;have r1:=cell_regrown p1;have C0:=I arf;clear aa q0 q1;refine wp_region_quiet_below Pg Pg ?_
    repeat(with_reducible refine wpQuiet_step (λK hK=>?_);go_simp;first|(refine hK _ ?_;clear hK K)|(apply Exists.intro;refine⟨λ_=>?_,hK _ ?_⟩;(first|with_reducible exact C0.out _ _);clear hK K))
    refine wpQuiet_nil ?_;rintro w3 ⟨⟨_,_⟩,hW3⟩;have hf3:ag w2 w3:=ash
    have bJ:=I aro;have p9:=I (HX.QH bJ);clear hW3 r0 r1 hf3 p0 p1 C0 q2 f0 f1 f2 hg;obtain⟨q0,q1,q2,f0,f1,f2,hg⟩:=fM p9.QN;rw[HK.out]at q1;have aw:=I aqR;go_wp2
    go_ret;refine⟨ai _ _ ?_,aw,by rw[dB.out];exact p9⟩;rw[dB.out,decide_eq_decide];have h1:=CX.out;have h2:=HK.out;have h3:=HS.len;omega
   |true=>
    have ae:=I (show l1.dropWhile Dq=l.dropWhile Dq by rw[<-HD.out];exact(Oe Dq x l1 hp).symm);go_wp2_with fail
    refine bK (λW=>ag wr W) afD ?_;rintro w2 aa;have bW:=I aa;have p0:=aa.cell q0 PR;have p1:=aa.cell q1 PR;have r0:=cell_regrown p0;have r1:=cell_regrown p1;have C0:=I arf;clear aa q0 q1;refine wp_region_quiet_below Pg Pg ?_
    repeat(with_reducible refine wpQuiet_step (λK hK=>?_);go_simp;first|(refine hK _ ?_;clear hK K)|(apply Exists.intro;refine⟨λ_=>?_,hK _ ?_⟩;(first|with_reducible exact C0.out _ _);clear hK K))
    refine wpQuiet_nil ?_;rintro w3 ⟨⟨_,_⟩,hW3⟩;have hf3:ag w2 w3:=ash
    have bJ:=I aro;have p9:=I (HX.QH bJ);clear hW3 r0 r1 hf3 p0 p1 C0 q2 f0 f1 f2 hg;obtain⟨q0,q1,q2,f0,f1,f2,hg⟩:=fM p9.QN;rw[HK.out]at q1;have aw:=I aqR;have aj:=p9.wG;rw[HK.out]at aj;have tZ:=I aj;have nU:=I (aw.setCell (p:=B_ g 1) Wh (V ((k:Int)+1)));have HM:=I (lN aj);clear aj;go_wp2
    go_roundw
    case rel=>exact⟨l1,ae,(bQ.cons x).trans HS,nU,tZ⟩
    case measure=>rw[HM.out,HP.out];exact atW
def XV(S:Y_)(g:Nat)(w:W_)(r:Rs (List UInt8))(e:Ending)(w':W_):Prop:=match r with
 |.ok x l' c'=>e=.returned (S_ x)/\Touch (λb=>b=g) w w'/\Xr S g l' c' w'
 |.bad l'=>XS S g w l' e w'
theorem zK{S:Y_}{p r:List UInt8}(h:bQ (p++r) S.data.toList):S.extract (S.size-(p++r).length) (S.size-r.length)=⟨p.toArray⟩:=by
 obtain⟨q,hq⟩:=h;have hl:S.data.toList.length=S.size:=P9
 have hs:S.size=q.length+(p.length+r.length):=by rw[<-hl,hq,auZ,auZ]
 have h1:S.size-(p++r).length=q.length:=by rw[auZ];omega
 have h2:S.size-r.length=q.length+p.length:=Zo
 rw[h1,h2];apply ByteArray.ext
 apply Array.toList_inj.1
 rw[ByteArray.data_extract,Array.toList_extract,List.extract_eq_take_drop,hq];simp
theorem DC(S:Y_)(g c:Nat)(l:List UInt8)(w:W_)(hS:S.size<=1099511627776)(h:Xr S g l c w):C_ 113 #[.pointer (A_ g 0)] w λe w'=>XV S g w (nM c l) e w':=by
 have HX:=I h;have ab:=h.len;obtain⟨q0,q1,q2,_,_,_,_⟩:=fM h.QN;clear h;cases l with
 |nil=>
  go_enter func113,ntmps113;go_wp2_with fail
  refine(xE S g c _ HX).mono ?_;exact ar6
 |cons b l=>
 cases aB:U.D8 b with
 |false=>
  have HR:=I (show nM c (b::l)=.bad (b::l)from by show(if U.D8 b=true then _ else _)=_;rw[aB];rfl);go_enter func113,ntmps113;go_wp2_with fail
  refine(fG S g c b l _ HX).mono ?_;rintro _ w1 ⟨rfl,hf⟩;have je:=I arR;have aK:=I hf;clear hf;go_wp2_with fail
  refine(pX b _).mono ?_;rintro _ w2 ⟨rfl,hw⟩;replace hw:=hw.symm;subst hw;rw[aB];go_wp2_with fail
  refine(qJ S g (b::l) c _ je).mono ?_;rintro _ w3 ⟨rfl,rfl⟩;refine⟨rfl,(?_:XV S g w (nM c (b::l)) _ _)⟩;rw[HR.out];exact⟨rfl,aK.mono λ_ h=>h.elim⟩
 |true=>
 have HR:=I (show nM c (b::l)=.ok ((b::l).takeWhile U.inner) ((b::l).dropWhile U.inner) c from by show(if U.D8 b=true then _ else _)=_;rw[aB];rfl);obtain⟨k0,aA⟩:∃k,k=S.size-(b::l).length:=⟨_,rfl⟩;have CX:=I aA;rw[<-aA]at q1;clear aA;go_enter func113,ntmps113;go_wp2_with fail
 refine(fG S g c b l _ HX).mono ?_;rintro _ w1 ⟨rfl,hf⟩;have je:=I arR;have aK:=I aqA;clear hf q0 q1 q2;go_wp2_with fail
 refine(pX b _).mono ?_;rintro _ w2 ⟨rfl,hw⟩;replace hw:=hw.symm;subst hw;rw[aB];obtain⟨lw,F6⟩:∃lw,lw=b::l:=⟨_,rfl⟩;rw[<-F6]at je HR CX ab;have HX:=je;have Vw:=I je.Ef;have Lt:=I F6;clear je aB F6;go_wp2
 go_loopw [] (λwr=>∃l1:List UInt8,Hd (l1.dropWhile U.inner=lw.dropWhile U.inner)/\Hd (bQ l1 lw)/\Hd (Touch (λb=>b=g) w wr)/\Hd (Xr S g l1 c wr)) (λwr=>S.size-posOf g wr)
 case atStart=>exact⟨lw,I rfl,I (bQ.refl _),aK,HX⟩
 case round=>
  obtain⟨l1,HD,HS,HT,HX⟩:=hrel;obtain⟨q0,q1,q2,f0,f1,f2,hg⟩:=fM HX.QN;have HP:=I (lN HX);have hle:=HX.len;cases l1 with
  |nil=>
   have dB:=I (show lw.dropWhile U.inner=[]from HD.symm);rw[show S.size-([]:List UInt8).length=S.size from rfl]at q1;have d1:decide ((S.size:Int)<(S.size:Int))=false:=dF Zo;have jo:decide (S.size<S.size)=false:=dF Zo;go_wp2
   go_quiet (fail)
   go_wp2_with fail
   have CY:=I (show S.extract k0 S.size=⟨(lw.takeWhile U.inner).toArray⟩from by
    have h:=zK (S:=S) (p:=lw.takeWhile U.inner) (r:=lw.dropWhile U.inner) aqL;rw[awd,<-CX.out,dB.out]at h;exact h)
   have aD:(k0:Int)<=(S.size:Int):=by have:=CX.out;have:=HS.len;have:=ab;omega
   have hk2:(S.size:Int)<=(S.size:Int):=Zo
   have hk3:(0:Int)<=(k0:Int):=Zo
   go_wp2
   go_quiet (fail)
   go_wp2
   go_ret;rw[<-Lt.out,HR.out];refine⟨congrArg (λs=>Ending.returned (Value.string s)) CY,(HT.drewN _).drewN _,?_⟩;rw[dB.out];exact HX.QH (((M _ _).drewN _).drewN _)
  |cons x l1=>
   obtain⟨hk,hb,hk2⟩:=BV HX.Ef;have p8:=I HX.wG;have uP:=I hk2;clear hk2;have hw:IntKind.i64.wrap (((S.size-(x::l1).length:Nat):Int)+1)=((S.size-(x::l1).length:Nat):Int)+1:=IntWalk.i64_in _ Zo;have ak:((S.size-(x::l1).length:Nat):Int)<(S.size:Int):=Zo
   have d1:decide (((S.size-(x::l1).length:Nat):Int)<(S.size:Int))=true:=dT Zo;have jo:decide (S.size-(x::l1).length<S.size)=true:=dT Zo;generalize ad:S.size-(x::l1).length=k at q1 hk hb hw ak d1 jo p8;have HK:=I ad;clear ad;cases hp:U.inner x with
   |false=>
    have dB:=I (show lw.dropWhile U.inner=x::l1 by rw[<-HD.out];exact Og U.inner x l1 hp);go_wp2_with fail
    refine bK (λW=>ag wr W) afD ?_;rintro w2 aa;have bW:=I aa;have p0:=aa.cell q0 PR;have p1:=aa.cell q1 PR;have r0:=cell_regrown p0;have r1:=cell_regrown p1;have C0:=I arh;clear aa q0 q1;refine wp_region_quiet_below Pg Pg ?_
    repeat(with_reducible refine wpQuiet_step (λK hK=>?_);go_simp;first|(refine hK _ ?_;clear hK K)|(apply Exists.intro;refine⟨λ_=>?_,hK _ ?_⟩;(first|with_reducible exact C0.out _ _);clear hK K))
    refine wpQuiet_nil ?_;rintro w3 ⟨⟨_,_⟩,hW3⟩;have hf3:ag w2 w3:=ash
    have bJ:=I aro;have p9:=I (HX.QH bJ);clear hW3 r0 r1 hf3 p0 p1 C0 q2 f0 f1 f2 hg;obtain⟨q0,q1,q2,f0,f1,f2,hg⟩:=fM p9.QN;rw[HK.out]at q1;have aw:=I aqR
    have CY:=I (show S.extract k0 k=⟨(lw.takeWhile U.inner).toArray⟩from by
     have h:=zK (S:=S) (p:=lw.takeWhile U.inner) (r:=lw.dropWhile U.inner) aqL;rw[awd,<-CX.out,dB.out,HK.out]at h;exact h)
    have aD:(k0:Int)<=(k:Int):=by have:=CX.out;have:=HS.len;have:=ab;have:=HK.out;have:=HS.len;simp only[au0]at*;omega
    have hk2:(k:Int)<=(S.size:Int):=by have:=HK.out;have:=HS.len;simp only[au0]at*;omega
    have hk3:(0:Int)<=(k0:Int):=Zo
    go_wp2
    go_quiet (fail)
    go_wp2
    go_ret;rw[<-Lt.out,HR.out];refine⟨congrArg (λs=>Ending.returned (Value.string s)) CY,aw.drewN _,?_⟩;rw[dB.out];exact p9.QH aes
   |true=>
    have ae:=I (show l1.dropWhile U.inner=lw.dropWhile U.inner by rw[<-HD.out];exact(Oe U.inner x l1 hp).symm);go_wp2_with fail
    refine bK (λW=>ag wr W) afD ?_;rintro w2 aa;have bW:=I aa;have p0:=aa.cell q0 PR;have p1:=aa.cell q1 PR;have r0:=cell_regrown p0;have r1:=cell_regrown p1;have C0:=I arh;clear aa q0 q1;refine wp_region_quiet_below Pg Pg ?_
    repeat(with_reducible refine wpQuiet_step (λK hK=>?_);go_simp;first|(refine hK _ ?_;clear hK K)|(apply Exists.intro;refine⟨λ_=>?_,hK _ ?_⟩;(first|with_reducible exact C0.out _ _);clear hK K))
    refine wpQuiet_nil ?_;rintro w3 ⟨⟨_,_⟩,hW3⟩;have hf3:ag w2 w3:=ash
    have bJ:=I aro;have p9:=I (HX.QH bJ);clear hW3 r0 r1 hf3 p0 p1 C0 q2 f0 f1 f2 hg;obtain⟨q0,q1,q2,f0,f1,f2,hg⟩:=fM p9.QN;rw[HK.out]at q1;have aw:=I aqR;have aj:=p9.wG;rw[HK.out]at aj;have tZ:=I aj;have nU:=I (aw.setCell (p:=B_ g 1) Wh (V ((k:Int)+1)));have HM:=I (lN aj);clear aj;go_wp2
    go_roundw
    case rel=>exact⟨l1,ae,(bQ.cons x).trans HS,nU,tZ⟩
    case measure=>rw[HM.out,HP.out];exact atW
end
section
open Go.RowKit
open Xp (Rs bQ Dq bB nM wW iQ jk eT)
theorem uF{b:UInt8}{c:Nat}{l:List UInt8}{u:Unit}{l1:List UInt8}{c1:Nat}(h:bB b c l=.ok u l1 c1):c1=c:=by
 cases l with
 |nil=>cases h
 |cons x l=>
  have h:(if x=b then Rs.ok () l c else .bad (x::l))=.ok u l1 c1:=h;split at h
  .cases h;rfl
  .cases h
def Fa(c:Nat)(s l:List UInt8):Rs Unit:=match wW c s l with
 |.bad l2=>.bad l2
 |.ok _ l2 _=>bB 62 c (l2.dropWhile Dq)
theorem Po{c:Nat}{b:UInt8}{s l l1:List UInt8}(h:bB b c l=.bad l1):Fa c (b::s) l=.bad l1:=by
 unfold Fa;rw[wW,h]
theorem Rh{c:Nat}{b:UInt8}{s l l1:List UInt8}{u:Unit}{c1:Nat}(h:bB b c l=.ok u l1 c1):Fa c (b::s) l=Fa c s l1:=by
 unfold Fa;rw[wW,h]
theorem Kl(S N:Y_)(g c:Nat)(l:List UInt8)(w:W_)(hS:S.size<=1099511627776)(hN:N.size<=9223372036854775807)(h:Xr S g l c w):C_ 141 #[.pointer (A_ g 0),.string N] w λe w'=>XU S g w (iQ N.data.toList c l) e w':=by
 have HX:=I h;have HE:=I (λ(l:List UInt8) (W:W_) (h:Xr S g l c W)=>show C_ 73 #[.pointer (A_ g 0),.int .u8 47] W λe w'=>XU S g W (bB 47 c l) e w' from qY S g c 47 l W hS h);have Xl:=I (λ(l:List UInt8) (W:W_) (h:Xr S g l c W)=>show C_ 73 #[.pointer (A_ g 0),.int .u8 62] W λe w'=>XU S g W (bB 62 c l) e w' from qY S g c 62 l W hS h);clear h;cases hr:bB 47 c l with
 |bad l1=>
  have HR:=I (show iQ N.data.toList c l=.bad l1 by unfold Xp.iQ;rw[hr]);go_enter func141,ntmps141;go_wp2_with fail
  refine(HE l _ HX).mono ?_;intro e w1 he;rw[hr]at he;obtain⟨rfl,ht⟩:=he;refine⟨rfl,(?_:XU S g w (iQ N.data.toList c l) _ _)⟩;rw[HR.out];exact⟨rfl,ht⟩
 |ok u l1 c1=>
  have hc1:=uF hr;subst hc1;have HR:=I (show iQ N.data.toList c1 l=Fa c1 (N.data.toList.drop 0) l1 by unfold Xp.iQ Fa;rw[hr,List.drop_zero];rfl);go_enter func141,ntmps141;go_wp2_with fail
  refine(HE l _ HX).mono ?_;intro e w1 he;rw[hr]at he;obtain⟨rfl,ht,hx⟩:=he;have ay:=I ht;have je:=I hx;clear ht hx hr;go_wp2
  go_loopw [4] (λi wr=>∃(j:Nat) (l2:List UInt8),i=V j/\j<=N.size/\Hd (iQ N.data.toList c1 l=Fa c1 (N.data.toList.drop j) l2)/\Hd (Touch (λb=>b=g) w wr)/\Hd (Xr S g l2 c1 wr)) (λi _=>N.size-(intOf i).toNat)
  case atStart=>exact⟨0,l1,rfl,Nat.zero_le _,HR,ay,je⟩
  case round=>
   obtain⟨j,l2,rfl,hj,HR,HT,HX⟩:=hrel
   by_cases c2:j<N.size
   .have d1:decide ((j:Int)<(N.size:Int))=true:=dT Zo
    have jo:decide (j<N.size)=true:=dT c2;have aE:(j:Int)<(N.size:Int):=Zo
    obtain⟨b,hb⟩:∃b,N[j]'c2=b:=⟨_,rfl⟩
    have HD:=I (show N.data.toList.drop j=b::N.data.toList.drop (j+1) by
     rw[List.drop_eq_getElem_cons (by simpa using c2)]
     congr 1)
    cases hr:bB b c1 l2 with
    |bad l3=>
     have ar:=I (show iQ N.data.toList c1 l=.bad l3 by rw[HR.out,HD.out];exact Po hr);go_wp2_with fail
     refine(qY S g c1 b l2 _ hS HX).mono ?_;intro e w3 he;rw[hr]at he;obtain⟨rfl,ht⟩:=he;refine⟨rfl,(?_:XU S g w (iQ N.data.toList c1 l) _ _)⟩;rw[ar.out];exact⟨rfl,HT.trans ht⟩
    |ok u l3 c3=>
     have ar:=I (show iQ N.data.toList c1 l=Fa c1 (N.data.toList.drop (j+1)) l3 by rw[HR.out,HD.out];exact Rh hr);go_wp2_with fail
     refine(qY S g c1 b l2 _ hS HX).mono ?_;intro e w3 he;rw[hr]at he;obtain⟨rfl,ht,hx⟩:=he;have hc3:=uF hr;subst hc3;have aw:=I (HT.trans ht);have p9:=I hx;clear ht hx hr;go_wp2
     go_roundw
     case rel=>exact⟨j+1,l3,by go_num,c2,ar,aw,p9⟩
     case measure=>simp[intOf];omega
   .have d1:decide ((j:Int)<(N.size:Int))=false:=dF Zo
    have jo:decide (j<N.size)=false:=dF c2
    have ar:=I (show iQ N.data.toList c1 l=bB 62 c1 (l2.dropWhile Dq) by
     rw[HR.out,List.drop_of_length_le (by simpa using c2)];rfl)
    go_wp2_with fail
    refine(vW S g c1 l2 _ hS HX).mono ?_;rintro _ w3 ⟨rfl,ht,hx⟩;have aw:=I (HT.trans ht);have p9:=I hx;clear ht hx;go_wp2_with fail
    refine(Xl _ _ p9).mono ?_;intro e w4 he;cases hr:bB 62 c1 (l2.dropWhile Dq)with
    |bad l3=>
     rw[hr]at he;obtain⟨rfl,ht⟩:=he;refine⟨rfl,(?_:XU S g w (iQ N.data.toList c1 l) _ _)⟩;rw[ar.out,hr];exact⟨rfl,aw.trans ht⟩
    |ok u l3 c3=>
     rw[hr]at he;obtain⟨rfl,ht,hx⟩:=he
     have HF:=I (show XU S g w (iQ N.data.toList c1 l) (.returned (.tuple #[])) w4 by
      rw[ar.out,hr];exact⟨rfl,aw.trans ht,hx⟩)
     clear hr ht hx;go_wp2
     refine bodyPost_end (v:=.tuple #[]) Un rfl ?_;exact HF
def XB(S:Y_)(g:Nat)(w:W_)(r:Rs UInt8)(e:Ending)(w':W_):Prop:=match r with
 |.ok x l' c'=>e=.returned (.int .u8 (x.toNat:Int))/\Touch (λb=>b=g) w w'/\Xr S g l' c' w'
 |.bad l'=>XS S g w l' e w'
theorem XB.trans{S:Y_}{g:Nat}{w w1 w2:W_}{r:Rs UInt8}{e:Ending}(ht:Touch (λb=>b=g) w w1)(h:XB S g w1 r e w2):XB S g w r e w2:=by
 cases r with
 |ok u l c=>exact⟨h.1,ht.trans h.2.1,h.2.2⟩
 |bad l=>exact⟨h.1,ht.trans h.2⟩
end
end Go.Proofs.YtabjglnjjdcfmaaGreatDoor
