/- Part 21 of 41 of a proof. No condition. -/
import Derived.Test.YtabjglnjjdcfmaaGreatDoorWe17
set_option maxRecDepth 100000
set_option maxHeartbeats 4000000
namespace Go.Proofs.YtabjglnjjdcfmaaGreatDoor
open _root_.Nat renaming le_trans->au2,zero_le->au1,lt_of_lt_of_le->avc,mul_comm->awy,le_refl->au3
open _root_.List renaming length_append->auZ,getElem?_append_right->avY,take_zero->avB,length_map->avh,length_take->avj
open _root_.Go.Value renaming slice->avb,string->awe
open _root_.Go.Proofs.Tryz
section
open Go.RowKit
open Tr (Nd)
open U (E ax dU)
def kS(B:Nat)(w:W_)(vo:Value)(L r:List E)(B2:Nat)(v2:Value)(cs0:List Value):Prop:=B<=B2/\(∀k,vo.ownBlock=some k->k<B2)/\
 w.ownsRow B 62 4 vo (L.length+1) (cs0++[S_ dU,N_,v2,E_])/\dz (λk=>vo.ownBlock=some k\/k<B\/B2<=k) w (λW=>kC W L cs0)/\fQ B2 w r v2
theorem kS.grow{B:Nat}{w:W_}{vo:Value}{L r:List E}{B2:Nat}{v2:Value}{cs0:List Value}(h:kS B w vo L r B2 v2 cs0):fQ B w (L++[ax dU r]) vo:=by
 obtain⟨h1,h2,h3,h4,h5⟩:=h;refine⟨au2 h1 h5.base,_,by rw[auZ];exact h3,?_⟩;refine((h4.mono λi _ hi=>hi.imp id .inl).and (h5.done.mono λi _ hi=>?_)).imp λW ⟨g1,g2⟩=>g1.append (kC.one (e:=ax dU r) ⟨gJ.nil _ _ _,g2,show dU.length<=maxLen by decide,au1 _⟩)
 rcases hi with hi|hi
 .exact h2 i hi
 .omega
theorem kS.mv{B:Nat}{w w1:W_}{vo:Value}{L r:List E}{B2:Nat}{v2:Value}{cs0:List Value}{S:Nat->Prop}(h:kS B w vo L r B2 v2 cs0)(ht:Touch S w w1)(hS:∀k,S k->k<w.heap.size->k<B):kS B w1 vo L r B2 v2 cs0:=by
 obtain⟨h1,h2,h3,h4,h5⟩:=h;refine⟨h1,h2,aQ h3 ht λk hk hs=>?_,h4.step ht (λi hi hs=>.inr (.inl (hS i hs hi))) anI,h5.mv ht λk hk hl=>avc (hS k hk hl) h1⟩;have h6:=h3.lt k hk;have:=hS k hs h6.2;omega
theorem kS.QH{B:Nat}{w w1:W_}{vo:Value}{L r:List E}{B2:Nat}{v2:Value}{cs0:List Value}(h:kS B w vo L r B2 v2 cs0)(ht:ag w w1):kS B w1 vo L r B2 v2 cs0:=h.mv ht λ_ h=>h.elim
theorem kS.len{B:Nat}{w:W_}{vo:Value}{L r:List E}{B2:Nat}{v2:Value}{cs0:List Value}(h:kS B w vo L r B2 v2 cs0):cs0.length=L.length*4:=by
 have:=h.2.2.1.1;exact ar3
theorem kS.last{B n:Nat}{w:W_}{vo:Value}{L r:List E}{B2:Nat}{v2:Value}{cs0:List Value}(h:kS B w vo L r B2 v2 cs0)(hn:L.length=n):∃g cap,vo=.slice (A_ g 0) (n+1) cap/\B<=g/\g<w.heap.size/\w.cell? (B_ g (n*4+2))=some v2/\w.frozen? (B_ g (n*4+2))=false:=by
 subst hn;have hl:=h.len;obtain⟨_,_,h3,_⟩:=h
 obtain⟨g,cap,rfl,hb⟩:∃g cap,vo=.slice (A_ g 0) (L.length+1) cap/\B<=g:=by
  rcases h3.2 with⟨_,h0⟩|⟨g,cap,cur,e,hb,_⟩
  .omega
  .exact⟨g,cap,e,hb⟩
 have h4:=h3.cellAt (L.length*4+2) Zo;refine⟨g,cap,rfl,hb,(h3.lt g rfl).2,?_,h3.frozenAt _⟩;rw[h4,avY (by omega),show L.length*4+2-cs0.length=2 by omega];rfl
theorem kS.push{B:Nat}{w5 w7 w8 W:W_}{vo:Value}{L r:List E}{B2:Nat}{v2 v2' va vk:Value}{cs0 cs2:List Value}{e:E}{g g2:Nat}(h:kS B w5 vo L r B2 v2 cs0)(hi:w5.ownsRow B2 62 4 v2 r.length cs2)(ab:dz (λk=>v2.ownBlock=some k\/k<B2) w5 λW=>kC W r cs2)
  (aa:ag w5 w7) (FZ:dz (λk=>k<w5.heap.size) w7 λW=>jd W e va vk) (ht:Touch (λk=>v2.ownBlock=some k) w7 w8) (hv:v2'.ownBlock=v2.ownBlock\/v2'.ownBlock=some w7.heap.size)
  (ac:vo.ownBlock=some g) (hv2:v2'.ownBlock=some g2) (hW:Touch (λk=>k=g2\/k=g) w8 W) (h9:W.ownsRow B2 62 4 v2' (r.length+1) (cs2++[S_ e.name,va,vk,S_ e.QG]))
  (h10:W.ownsRow B 62 4 vo (L.length+1) (cs0++[S_ dU,N_,v2',E_])):kS B W vo L (r++[e]) B2 v2' cs0:=by
 obtain⟨h1,h2,h3,h4,h5⟩:=h;have hg:=h2 g ac;have RP:=h5.base;have hl2:∀k,v2.ownBlock=some k->B2<=k/\k<w5.heap.size:=λk hk=>hi.lt k hk
 have hg2:∀i,i<w7.heap.size->i=g2->v2.ownBlock=some i:=λi hi he=>by
  subst he
  rcases hv with hv|hv<;>rw[hv2]at hv
  .exact hv.symm
  .cases hv;omega
 have hsz:=aa.size;refine⟨h1,h2,h10,?_,?_⟩
 .refine(((h4.QH aa).step (S2:=λk=>vo.ownBlock=some k\/k<B\/B2<=k) ht (λi hi hs=>.inr (.inr (hl2 i hs).1)) anI).step hW (λi hi hs=>?_) anI)
  rcases hs with hs|hs
  .rcases Nat.lt_or_ge i w7.heap.size with h6|h6
   .exact .inr (.inr (hl2 i (hg2 i h6 hs)).1)
   .exact .inr Ls
  .subst hs;exact .inl ac
 .refine⟨au2 (au2 RP hsz) (au2 ht.size hW.size),_,by rw[auZ];exact h9,?_⟩
  have e1:∀i,i<w7.heap.size->(v2'.ownBlock=some i\/i<B2)->(v2.ownBlock=some i\/i<B2):=λi hi hs=>by
   rcases hs with hs|hs
   .rcases hv with h6|h6<;>rw[h6]at hs
    .exact .inl hs
    .cases hs;omega
   .exact .inr hs
  have hT:∀W',Touch (λk=>v2'.ownBlock=some k\/k<B2) W W'->Touch (λk=>v2.ownBlock=some k\/k<B2) w7 W':=λW' hW'=>by
   have a1:Touch (λk=>v2.ownBlock=some k\/k<B2) w7 W:=ht.join hW asy λi hi hs=>by
    rcases hs with hs|hs
    .exact .inl (hg2 i hi hs)
    .subst hs;exact .inr hg
   exact a1.join hW' anI e1
  intro W' hW';have a2:=hT W' hW';refine kC.append ((ab.QH aa) W' a2) (kC.one (FZ W' (a2.mono λi hs=>?_)))
  rcases hs with hs|hs
  .exact(hl2 i hs).2
  .omega
theorem RQ{w:W_}{B t g n cap:Nat}{xs:List Value}{z0 z1 z2 z3:Value}(h:w.ownsRow B t 4 (.slice (A_ g 0) (n+1) cap) (n+1) (xs++[z0,z1,z2,z3]))(y0 y1 y2 y3:Value):
  ((((w.setCell (B_ g (n*4)) y0).setCell (B_ g (n*4+1)) y1).setCell (B_ g (n*4+2)) y2).setCell (B_ g (n*4+3)) y3).ownsRow B t 4 (.slice (A_ g 0) (n+1) cap) (n+1) (xs++[y0,y1,y2,y3]):=by
 have hl:xs.length=n*4:=adv
 have h1:=(((((h.stored (n*4) y0).1.stored (n*4+1) y1).1).stored (n*4+2) y2).1.stored (n*4+3) y3).1
 have e:((((xs++[z0,z1,z2,z3]).set (n*4) y0).set (n*4+1) y1).set (n*4+2) y2).set (n*4+3) y3=xs++[y0,y1,y2,y3]:=by
  exact v_
 rw[e]at h1;exact h1
theorem Ic{w:W_}{B t g n cap:Nat}{xs:List Value}{z0 z1 z2 z3:Value}(h:w.ownsRow B t 4 (.slice (A_ g 0) (n+1) cap) (n+1) (xs++[z0,z1,z2,z3]))(y:Value):
  (w.setCell (B_ g (n*4+2)) y).ownsRow B t 4 (.slice (A_ g 0) (n+1) cap) (n+1) (xs++[z0,z1,y,z3]):=by
 have hl:xs.length=n*4:=adv
 have h1:=(h.stored (n*4+2) y).1
 have e:(xs++[z0,z1,z2,z3]).set (n*4+2) y=xs++[z0,z1,y,z3]:=by
  rw[List.set_append_right _ _ (by omega),show n*4+2-xs.length=2 by omega];rfl
 rw[e]at h1;exact h1
def Ie(w:W_)(g o:Nat)(x0 x1 x2 x3:Value):W_:=(((w.setCell (B_ g o) x0).setCell (B_ g (o+1)) x1).setCell (B_ g (o+2)) x2).setCell (B_ g (o+3)) x3
theorem zm(w:W_)(g o:Nat)(x0 x1 x2 x3:Value):Touch (λk=>k=g) w (Ie w g o x0 x1 x2 x3):=
 ((((M (λk=>k=g) w).setCell (p:=B_ g o) Wh _).setCell (p:=B_ g (o+1)) Wh _).setCell (p:=B_ g (o+2)) Wh _).setCell (p:=B_ g (o+3)) Wh _
theorem En(w:W_)(g o:Nat)(x:Value):Touch (λk=>k=g) w (w.setCell (B_ g o) x):=(M (λk=>k=g) w).setCell (p:=B_ g o) Wh _
theorem kS.stores{B n:Nat}{w5 w7 w8:W_}{L r:List E}{B2:Nat}{v2 va vk z0 z1 z2 z3:Value}{cs0 cs2:List Value}{e:E}{g c g2 c2:Nat}(h:kS B w5 (.slice (A_ g 0) (n+1) c) L r B2 v2 cs0)(hn:L.length=n)(hi:w5.ownsRow B2 62 4 v2 r.length cs2)(ab:dz (λk=>v2.ownBlock=some k\/k<B2) w5 λW=>kC W r cs2)
  (aa:ag w5 w7) (FZ:dz (λk=>k<w5.heap.size) w7 λW=>jd W e va vk) (h8:w8.ownsRow B2 62 4 (.slice (A_ g2 0) (r.length+1) c2) (r.length+1) (cs2++[z0,z1,z2,z3])) (ht:Touch (λk=>v2.ownBlock=some k) w7 w8) (hv:(avb (A_ g2 0) (r.length+1) c2).ownBlock=v2.ownBlock\/(avb (A_ g2 0) (r.length+1) c2).ownBlock=some w7.heap.size):
  kS B ((Ie w8 g2 (r.length*4) (S_ e.name) va vk (S_ e.QG)).setCell (B_ g (n*4+2)) (.slice (A_ g2 0) (r.length+1) c2)) (.slice (A_ g 0) (n+1) c) L (r++[e]) B2 (.slice (A_ g2 0) (r.length+1) c2) cs0/\
  kS B (Ie (w8.setCell (B_ g (n*4+2)) (.slice (A_ g2 0) (r.length+1) c2)) g2 (r.length*4) (S_ e.name) va vk (S_ e.QG)) (.slice (A_ g 0) (n+1) c) L (r++[e]) B2 (.slice (A_ g2 0) (r.length+1) c2) cs0:=by
 subst hn;have hg:g<B2:=h.2.1 g rfl;have hg2:B2<=g2:=(h8.lt g2 rfl).1
 have ho:w8.ownsRow B 62 4 (.slice (A_ g 0) (L.length+1) c) (L.length+1) (cs0++[S_ dU,N_,v2,E_]):=
  aQ (aQ h.2.2.1 aa λk _ hs=>hs) ht λk hk hs=>by cases hk;have:=(hi.lt g hs).1;omega
 constructor
 .refine h.push hi ab aa FZ ht hv rfl rfl ((zm w8 g2 _ _ _ _ _|>.mono λi hi=>.inl hi).trans (En _ g _ _|>.mono λi hi=>.inr hi)) ?_ ?_
  .exact aQ (RQ h8 _ _ _ _) (En _ g _ _) λk hk hs=>by cases hk;have hs:g2=g:=hs;omega
  .exact Ic (aQ ho (zm w8 g2 _ _ _ _ _) λk hk hs=>by cases hk;have hs:g=g2:=hs;omega) _
 .refine h.push hi ab aa FZ ht hv rfl rfl ((En w8 g _ _|>.mono λi hi=>.inr hi).trans (zm _ g2 _ _ _ _ _|>.mono λi hi=>.inl hi)) ?_ ?_
  .exact RQ (aQ h8 (En _ g _ _) λk hk hs=>by cases hk;have hs:g2=g:=hs;omega) _ _ _ _
  .exact aQ (Ic ho _) (zm _ g2 _ _ _ _ _) λk hk hs=>by cases hk;have hs:g=g2:=hs;omega
section
variable {w:World} {ops:Array Oper} {rest:List Oper} {o:Oper} {a:Act} {Q:Exit→Act→World→Prop}
theorem Ig(hgd:o.guard=none)(s x:Operand)
  (ho:o.op=.call {callee:=.builtin .append,args:=#[s,x],argTypes:=#[60,60]})
  {B n g:Nat} {es:List E} {v:Value} (h:fQ B w es v) (hn:es.length=n) (hs:a.eval s=v) (hb:af w g 62 #[S_ dU,N_,N_,E_]) (hx:a.eval x=.slice (A_ g 0) 1 1) (hlen:n<2^40)
  (hK:∀A cp w' cs0,kS B w' (.slice A (n+1) cp) es [] w'.heap.size (N_) cs0->Touch (λk=>v.ownBlock=some k) w w'->wpList Tryz.prog ops Q rest (a.put o.dst (.slice A (n+1) cp)) w'):wpList Tryz.prog ops Q (o::rest) a w:=by
 subst hn;obtain⟨ac,cs,h1,h2⟩:=h;obtain⟨i,hi,hz0,hz1,hz2⟩:=info_parts E8;have h3:∀u∈[awe ⟨dU.toArray⟩,N_,N_,E_],u.oneCell'=true:=aqU
 refine iL _ hgd s x 60 ho B 62 i _ 4 80 underlying60 hi hz0 hz1 hz2 rfl Pf v es.length cs hs h1 _ 1 _ hx asR h3 vG Zo ac λv' w' ho' hgr hv'=>?_
 obtain⟨A,cp,rfl⟩:=mK ho';have ht:Touch (λk=>v.ownBlock=some k) w w':=Touch.grown afD hgr λk hk=>.inl hk
 refine hK A cp w' cs ⟨au2 ac hgr.size,λk hk=>(ho'.lt k hk).2,ho',?_,fQ.nil PD⟩ ht;refine h2.step ht asy λi hi hs=>?_
 rcases hs with hs|hs|hs
 .rcases hv' with h6|h6<;>rw[h6]at hs
  .exact .inl hs
  .cases hs;omega
 .exact .inr hs
 .have:=hgr.size;omega
end
end
section
open Go.RowKit
open Tr (Nd)
open U (E iX eU ax GL dU bq bE)
attribute [local go_sem] gD stillUpon
def rG(c:Nat)(ks:List Nd):List E:=(GL c (aC bq ks)).map (ax dU)
def alR(B c j:Nat)(w:W_)(F:List E)(Ao:Option Addr)(ro co:Nat):Prop:=ro=(GL c (F.take j)).length/\
 ((j=0/\Ao=none/\co=0/\B<=w.heap.size)\/∃L r B2 v2 cs0,GL c (F.take j)=L++[r]/\kS B w (.slice Ao (L.length+1) co) (L.map (ax dU)) r B2 v2 cs0)
theorem alR.QH{B c j:Nat}{w w1:W_}{F:List E}{Ao:Option Addr}{ro co:Nat}(h:alR B c j w F Ao ro co)(ht:ag w w1):alR B c j w1 F Ao ro co:=by
 obtain⟨h1,h2⟩:=h;refine⟨h1,?_⟩
 rcases h2 with⟨a,b,d,e⟩|⟨L,r,B2,v2,cs0,e1,e2⟩
 .exact .inl ⟨a,b,d,au2 e ht.size⟩
 .exact .inr ⟨L,r,B2,v2,cs0,e1,e2.QH ht⟩
theorem alR.grow{B c j:Nat}{w:W_}{F:List E}{Ao:Option Addr}{ro co:Nat}(hc:0<c)(h:alR B c j w F Ao ro co):fQ B w ((GL c (F.take j)).map (ax dU)) (.slice Ao ro co):=by
 obtain⟨h1,h2⟩:=h
 rcases h2 with⟨a,b,d,e⟩|⟨L,r,B2,v2,cs0,e1,e2⟩
 .subst a b d
  rw[avB,U.Q9 c hc]at h1|-;subst h1;exact fQ.nil e
 .have h3:=e2.grow
  rw[e1]at h1|-;subst h1;rw[auZ,List.map_append];exact h3
theorem alR.more{B c j:Nat}{w:W_}{F:List E}{Ao:Option Addr}{ro co:Nat}(hc:0<c)(hj:j%c≠0)(hl:j<F.length)(h:alR B c j w F Ao ro co):∃L r B2 v2 cs0,GL c (F.take (j+1))=L++[r++[F[j]]]/\ro=L.length+1/\kS B w (.slice Ao (L.length+1) co) (L.map (ax dU)) r B2 v2 cs0:=by
 obtain⟨h1,h2⟩:=h;have hjm:=Nat.mod_lt j hc;have aa:=Nat.div_add_mod j c;have RS:j/c*c+j%c=j:=by rw[awy];exact aa
 obtain⟨L',r',g1,g2,_⟩:=U.ZH c hc F (j/c) (j%c) Zo hjm (by rw[RS];exact hl);simp only[RS]at g1 g2
 rcases h2 with⟨a,b,d,e⟩|⟨L,r,B2,v2,cs0,e1,e2⟩
 .subst a;simp at hj
 .rw[e1]at g1
  obtain⟨h4,h5⟩:=List.append_inj' g1 rfl;rw[List.cons.injEq]at h5;rw[<-h4,<-h5.1]at g2;exact⟨L,r,B2,v2,cs0,g2,by rw[h1,e1];simp,e2⟩
theorem JS{α:Type}(c:Nat)(hc:0<c)(l:List α):(GL c l).length<=l.length:=by
 unfold U.GL;rw[avh,List.length_range]
 rcases Nat.eq_zero_or_pos l.length with h|h
 .rw[h,Nat.div_eq_of_lt (by omega)]
  exact au3 _
 .rw[Nat.div_le_iff_le_mul_add_pred hc]
  have:l.length<=c*l.length:=Nat.le_mul_of_pos_left _ hc;omega
theorem aaA{α:Type}(c:Nat)(hc:0<c)(l:List α)(r:List α)(h:r∈GL c l):r.length<=l.length:=by
 unfold U.GL at h;obtain⟨k,_,rfl⟩:=List.mem_map.1 h;rw[avj,List.length_drop];omega
theorem X8(c j:Nat)(hc:0<c)(F:List E)(hj:j%c=0)(hl:j<F.length):GL c (F.take (j+1))=GL c (F.take j)++[[]++[F[j]]]:=by
 have aa:=Nat.div_add_mod j c;have RS:j/c*c=j:=by rw[awy];omega
 have:=U.ab6 c hc F (j/c) (by rw[RS];exact hl);simp only[RS]at this;exact this
theorem UW(n:Nd)(c:Nat)(hc0:0<c)(hcc:n.ah=(c:Int))(ih:∀x∈n.Qx,Au x)(sl:Value)(w:W_)(hc:Tr.count n<=100000)(ab:aD w n.Qx sl):
  C_ 104 #[nv n sl] w λe w'=>∃v,e=.returned v/\oH w w' (.mk bE [] (rG c n.Qx) []) v:=by
 obtain⟨A,cap,rfl⟩:=ab.slice;have aa:Tr.az n.Qx<=100000:=by have:=Tr.aN n;omega
 have aM:=Tr.jF n.Qx;have yD:=I ab;have q9:=I ih;have Rm:=I hcc;generalize ar:n.Qx=ks at*;have Em:=I ar;clear ab ih ar hc hcc;go_enter func104,ntmps104;go_wp2_with fail
 refine bK (λW=>ag w W/\W.heap.size=w.heap.size+3/\af W w.heap.size 31 #[V n.QI,S_ n.QG,V n.ah,.slice A ks.length cap]/\af W (w.heap.size+1) 62 Z/\af W (w.heap.size+1+1) 62 #[S_ bE,N_,N_,E_]) ⟨(((M _ _).alloc _).alloc _).alloc _,by simp,((af.new w 31 _).alloc _).alloc _,(af.new2 w _ 62 _).alloc _,af.Jc _ _ _ _ _⟩ ?_;rintro W1 ⟨ae,hs1,af7,yx,Ci⟩;have aK:=I ae;have lU:=I af7;have mP:=I yx;have KA:=I Ci;have yc:=I hs1;have ay:=I (show alR (w.heap.size+3) c 0 W1 (aC bq ks) none 0 0 from⟨by rw[avB,U.Q9 c hc0];rfl,.inl ⟨rfl,rfl,rfl,by omega⟩⟩);clear ae yx Ci hs1 af7
 go_loopw [11] (λi wr=>∃(j ro:Nat) (Ao:Option Addr) (co:Nat),i=V j/\j<=ks.length/\Hd (af wr w.heap.size 31 #[V n.QI,S_ n.QG,V n.ah,.slice A ks.length cap])/\Hd (af wr (w.heap.size+1) 62 Z)/\Hd (af wr (w.heap.size+1+1) 62 #[S_ bE,N_,.slice Ao ro co,E_])/\Hd (alR (w.heap.size+3) c j wr (aC bq ks) Ao ro co)/\Hd (ag w wr)) (λi _=>ks.length-(intOf i).toNat)
 case atStart=>exact⟨0,0,none,0,rfl,au1 _,lU,mP,KA,ay,aK⟩
 case round=>
  obtain⟨j,ro,Ao,co,rfl,hj,iY,ow,oI,HT,HF⟩:=hrel;rename_i wr _
  by_cases c1:j<ks.length
  .have d1:decide ((j:Int)<(ks.length:Int))=true:=dT Zo
   have jo:decide (j<ks.length)=true:=dT c1;have aE:(j:Int)<(ks.length:Int):=Zo
   obtain⟨g,o,sx,hA,hg,m0,m1,m2,m3,al⟩:=yD.get j c1;cases hA;obtain⟨Ax,cx,rfl⟩:=al.slice;have e0:=HF.cell m0 PR;have e1:=HF.cell m1 PR;have e2:=HF.cell m2 PR;have e3:=HF.cell m3 PR;have aF:g<wr.heap.size:=avc hg HF.size;have aw:=I (al.QH HF.out);have ai1:=I al;have wZ:=I f_;clear m0 m1 m2 m3 hg al;obtain⟨b0,b1,b2,b3,_,_,_,_,aB⟩:=af.QM iY.out;rw[Rm.out]at b2;have hF:(aC bq ks).length=ks.length:=Df _ _;have af8:=JS c hc0 ((aC bq ks).take j);rw[avj,hF]at af8;have hro:ro<=100000:=by have:=HT.out.1;omega
   have eO:=I (show af (wr.alloc (.cells #[V ks[j].QI,S_ ks[j].QG,V ks[j].ah,.slice Ax ks[j].Qx.length cx] 31)) wr.heap.size 31 #[V ks[j].QI,S_ ks[j].QG,V ks[j].ah,.slice Ax ks[j].Qx.length cx]from af.new wr 31 #[V ks[j].QI,S_ ks[j].QG,V ks[j].ah,.slice Ax ks[j].Qx.length cx]);have Nf:=I (iY.alloc (.cells #[V ks[j].QI,S_ ks[j].QG,V ks[j].ah,.slice Ax ks[j].Qx.length cx] 31));have DK:=I (ow.alloc (.cells #[V ks[j].QI,S_ ks[j].QG,V ks[j].ah,.slice Ax ks[j].Qx.length cx] 31));have DJ:=I (oI.alloc (.cells #[V ks[j].QI,S_ ks[j].QG,V ks[j].ah,.slice Ax ks[j].Qx.length cx] 31));have iW:=I (HT.QH ((M _ wr).alloc (.cells #[V ks[j].QI,S_ ks[j].QG,V ks[j].ah,.slice Ax ks[j].Qx.length cx] 31)));have eY:=I (HF.alloc (.cells #[V ks[j].QI,S_ ks[j].QG,V ks[j].ah,.slice Ax ks[j].Qx.length cx] 31));have Na:=I (aw.QH ((M _ wr).alloc (.cells #[V ks[j].QI,S_ ks[j].QG,V ks[j].ah,.slice Ax ks[j].Qx.length cx] 31)));have ac:w.heap.size+3<=wr.heap.size:=(HT.grow hc0).base
   by_cases c2:j%c=0
   focus
    have d2:((j:Int)%(c:Int)==0)=true:=by rw[beq_iff_eq];omega
    have d2n:(j%c==0)=true:=by rw[c2];rfl
    have xG:=I (iW.grow hc0);have lg:=I (show((GL c ((aC bq ks).take j)).map (ax dU)).length=ro by rw[avh];exact HT.out.1.symm);have HOW:=I xG.pY;obtain⟨q0,q1,q2,q3,z0,z1,z2,z3,hlt⟩:=af.QM DJ.out
    go_wp2_with (at_builtin;go_loud (refine Ig rfl (.tmp 22) (.tmp 24) rfl (xG.QH Q_) lg.out WH (af.new2 wr (.cells #[V ks[j].QI,S_ ks[j].QG,V ks[j].ah,.slice Ax ks[j].Qx.length cx] 31) 62 _) WH Zo ?_);intro A8 c8 w8 cs8 bR Ng;refine jw.mk ?_)
    have Nh:=I (HT.grow hc0).pY;obtain⟨g7,c7,aG,aH,_⟩:=bR.last lg.out;cases aG;have RU:ag w w8:=(eY.alloc _).trans' Ng λk hk=>.inr (by have:=(Nh.out _ hk).1;omega)
    have acN:=Ng.QN (DJ.alloc (.cells #[S_ dU,N_,N_,E_] 62)) λh=>by have:=(Nh.out _ h).1;omega
    have af9:=Ng.QN (Nf.alloc (.cells #[S_ dU,N_,N_,E_] 62)) λh=>by have:=(Nh.out _ h).1;omega
    have af':=Ng.QN (DK.alloc (.cells #[S_ dU,N_,N_,E_] 62)) λh=>by have:=(Nh.out _ h).1;omega
    have aga:=Ng.QN (eO.alloc (.cells #[S_ dU,N_,N_,E_] 62)) λh=>by have:=(Nh.out _ h).2;omega
    have jy:=I (bR.mv ((M (λk=>k=(w.heap.size+1+1)) w8).setCell (p:=B_ (w.heap.size+1+1) 2) Wh (.slice (A_ g7 0) (ro+1) c8)) aeO);have gW:=I (RU.setCell (p:=B_ (w.heap.size+1+1) 2) (.inr auv) (.slice (A_ g7 0) (ro+1) c8));have tu:=I (acN.put 2 (.slice (A_ g7 0) (ro+1) c8));have Av:=I (af9.far (p:=B_ (w.heap.size+1+1) 2) WN (.slice (A_ g7 0) (ro+1) c8));have qc:=I (af'.far (p:=B_ (w.heap.size+1+1) 2) P9 (.slice (A_ g7 0) (ro+1) c8));have KG:=I (aga.far (p:=B_ (w.heap.size+1+1) 2) (by show wr.heap.size≠(w.heap.size+1+1);omega) (.slice (A_ g7 0) (ro+1) c8));have ao:=I (X8 c j hc0 (aC bq ks) c2 Zo);obtain⟨p0,p1,p2,p3,y0,y1,y2,y3,av⟩:=af.QM acN;have hwr:IntKind.i64.wrap (ro:Int)=ro:=IntWalk.i64_in _ Zo;have aL:(ro:Int)+1-1=ro:=Zo
    have aI:(ro:Int)<ro+1:=Zo
    clear bR Ng RU acN af9 af' aga q0 q1 q2 q3 z0 z1 z2 z3 hlt;refine jw.go ?_;have ad:∃(Lg:List (List E)) (r:List E) (B2:Nat) (v2:Value) (cs0:List Value),Lg.length=ro/\GL c ((aC bq ks).take (j+1))=Lg++[r++[(aC bq ks)[j]'(by rw[hF];exact c1)]]/\kS (w.heap.size+3) (w8.setCell (B_ (w.heap.size+1+1) 2) (.slice (A_ g7 0) (ro+1) c8)) (.slice (A_ g7 0) (ro+1) c8) (Lg.map (ax dU)) r B2 v2 cs0:=⟨_,_,_,_,_,HT.out.1.symm,ao.out,jy.out⟩;clear jy ao lg HOW Nh xG;have G6:=I ad;clear ad;go_wp2_with fail
    clear p0 p1 p2 p3 y0 y1 y2 y3 av hwr aL aI d2 d2n;generalize (w8.setCell (B_ (w.heap.size+1+1) 2) (.slice (A_ g7 0) (ro+1) c8))=W7 at G6 gW tu Av qc KG|-;obtain⟨m,rfl⟩:∃m,m=ro:=⟨ro,rfl⟩
   rotate_left
   focus
    have d2:((j:Int)%(c:Int)==0)=false:=MW
    have d2n:(j%c==0)=false:=by rw[beq_eq_false_iff_ne];exact c2
    obtain⟨m,g7,rfl,rfl,aH,ad⟩:∃m g7,ro=m+1/\Ao=A_ g7 0/\w.heap.size+3<=g7/\∃(Lg:List (List E)) (r:List E) (B2:Nat) (v2:Value) (cs0:List Value),Lg.length=m/\GL c ((aC bq ks).take (j+1))=Lg++[r++[(aC bq ks)[j]'(by rw[hF];exact c1)]]/\kS (w.heap.size+3) (wr.alloc (.cells #[V ks[j].QI,S_ ks[j].QG,V ks[j].ah,.slice Ax ks[j].Qx.length cx] 31)) (.slice (A_ g7 0) (m+1) co) (Lg.map (ax dU)) r B2 v2 cs0:=by
     obtain⟨Lg,r,B2,v2,cs0,hgr,ai2,ai⟩:=iW.more hc0 c2 Zo;obtain⟨g7,c8,aG,aH,_⟩:=ai.last (avh _);cases aG;exact⟨_,g7,ai2,rfl,aH,_,_,_,_,_,rfl,hgr,ai⟩
    have G6:=I ad;clear ad iW;obtain⟨q0,q1,q2,q3,z0,z1,z2,z3,hlt⟩:=af.QM DJ.out;have hwr:IntKind.i64.wrap (m:Int)=m:=IntWalk.i64_in _ Zo;have aL:(m:Int)+1-1=m:=Zo
    have aI:(m:Int)<m+1:=Zo
    go_wp2_with fail
    clear q0 q1 q2 q3 z0 z1 z2 z3 hlt hwr aL aI d2 d2n;have gW:=I eY.out;have tu:=I DJ.out;have Av:=I Nf.out;have qc:=I DK.out;have KG:=I eO.out;generalize (wr.alloc (.cells #[V ks[j].QI,S_ ks[j].QG,V ks[j].ah,.slice Ax ks[j].Qx.length cx] 31))=W7 at G6 gW tu Av qc KG|-;obtain⟨c8,rfl⟩:∃c8,c8=co:=⟨co,rfl⟩
   all_goals
    obtain⟨Lg,r,B2,v2,cs0,VL,hgr,ai⟩:=G6.out;have ao:=I hgr;have aP:=I (show(Lg.map (ax dU)).length=m by rw[avh];exact VL);obtain⟨g',c',hv',_,acO,hcell,an⟩:=ai.last aP.out;cases hv';obtain⟨A2,c2',rfl⟩:=ai.2.2.2.2.slice;obtain⟨aU,cs2,ak,hs2⟩:=ai.2.2.2.2;have yB:=I ai;have ap:=I ak;have aq:=I hs2;have hgB:g7<B2:=ai.2.1 g7 rfl;have agb:=I (ai1.QH gW.out)
    have hmj:m<=j:=by
     have h1:=JS c hc0 ((aC bq ks).take (j+1));rw[hgr,auZ,avj,VL]at h1;simp only[List.length_cons,List.length_nil]at h1;omega
    have au:r.length<=100000:=by
     have h1:=ap.out.1;have h2:=aaA c hc0 ((aC bq ks).take (j+1)) (r++[(aC bq ks)[j]'(by rw[hF];exact c1)]) (by rw[hgr];simp);rw[auZ,avj]at h2;omega
    have k0:=cR hcell;have j0:=cR (KG.cell 0|>.trans rfl);have j1:=cR (KG.cell 1|>.trans rfl);have j2:=cR (KG.cell 2|>.trans rfl);have j3:=cR (KG.cell 3|>.trans rfl);have ahh:=I hcell;have aT:=I an;clear ai ak hs2 VL hgr hcell an G6 e0 e1 e2 e3
    refine LG (gq.of [(0,true),(1,true),(2,true),(3,true),(4,true),(6,true)] (.fork 5 (.lone 7 .nil) 7 (.lone 5 .nil))) [0,1,2,3,4,5,6,7] 8 (Array.replicate 8 true++Array.replicate 6 false) (λ_=>True) (gq.of [(9,true),(11,true),(12,true)] (.fork 10 (.lone 13 .nil) 13 (.lone 10 .nil))) [9,10,11,12,13] (Array.replicate 14 true)
     (by kernel_rfl) Ph Pg ?_
    unfold gq.of
    repeat(refine V9 ?_;first|done|unfold gq.of)
    clear k0 j0 j1 j2 j3;refine o6 ?_ ?_
    focus
     refine aW rfl (λK hK=>?_);go_wp2_with fail
     refine(q9.out ks[j] wZ.out bq _ _ Pf (by have:=Tr.cB wZ.out;omega) (agb.QH ((M _ _).drewN 1))).mono ?_;rintro _ w6 ⟨v6,rfl,va,vk,rfl,dK,dZ⟩;have fI:=I (show ag W7 w6 from((M _ W7).drewN 1).trans dK);have nV:=I (show dz (λk=>k<W7.heap.size) w6 λW=>jd W (ax bq (eU ks[j].Qx)) va vk from dZ);obtain⟨Aa,ca,rfl⟩:=dZ.now.1.slice;obtain⟨Ak,ck,rfl⟩:=dZ.now.2.1.slice;clear dK dZ;go_wp2
     refine hK _ _ (aA fI.out) ?_;clear hK K;refine aW rfl (λK hK=>?_);go_wp2
     refine hK _ _ an' ?_;clear hK K;have kW:=I (af.new w6 62 Z);have gL:=I (fI.alloc (.cells Z 62));have Ky:=I (nV.QH ((M _ w6).alloc (.cells Z 62)));generalize (w6.alloc (.cells Z 62))=wA at kW gL Ky|-;obtain⟨bz,aS⟩:∃b,b=w6.heap.size:=⟨_,rfl⟩;rw[<-aS]at kW|-;clear aS fI nV
    rotate_left
    focus
     refine aW rfl (λK hK=>?_);go_wp2
     refine hK _ _ (aA (((M _ W7).drewN 1).alloc _)) ?_;clear hK K;have acP:=I (show af ((W7.drewN 1).alloc (.cells Z 62)) W7.heap.size 62 Z from af.new (W7.drewN 1) 62 Z);have fI:=I (show ag W7 ((W7.drewN 1).alloc (.cells Z 62))from((M _ W7).drewN 1).alloc _);have AO:=I (show W7.heap.size<=((W7.drewN 1).alloc (.cells Z 62)).heap.size from fI.size);generalize ((W7.drewN 1).alloc (.cells Z 62))=w6 at acP fI AO|-;obtain⟨bz,aS⟩:∃b,b=W7.heap.size:=⟨_,rfl⟩;refine aW rfl (λK hK=>?_);go_wp2_with fail
     refine(q9.out ks[j] wZ.out bq _ _ Pf (by have:=Tr.cB wZ.out;omega) (agb.QH fI.out)).mono ?_;rintro _ wA ⟨v6,rfl,va,vk,rfl,dK,dZ⟩;have gL:=I (show ag W7 wA from fI.trans dK);have Ky:=I (show dz (λk=>k<W7.heap.size) wA λW=>jd W (ax bq (eU ks[j].Qx)) va vk from dZ.mono λi _ hi=>avc hi AO.out);obtain⟨Aa,ca,rfl⟩:=dZ.now.1.slice;obtain⟨Ak,ck,rfl⟩:=dZ.now.2.1.slice;have kW:=I (dK.QN acP.out λh=>h);clear dK dZ;go_wp2
     refine hK _ _ (aA gL.out) ?_;clear hK K;rw[<-aS]at kW|-;clear aS fI acP AO
    all_goals
     have aV:=I (aQ ap.out gL.out λ_ _ h=>h);have ql:=I (au2 aU gL.size);obtain⟨ie,hie,hz0,hz1,hz2⟩:=info_parts E8;refine BU rfl (λK hK=>?_)
     go_wp2_with (at_builtin;go_loud (refine iL _ rfl (.tmp 37) (.tmp 41) 60 rfl B2 62 ie _ 4 80 underlying60 hie hz0 hz1 hz2 rfl Pf (.slice A2 r.length c2') r.length cs2 WH aV.out (.slice (A_ bz 0) 1 1) 1 _ WH (Src.uT kW.out rfl) aqU vG Zo ql.out ?_);intro v9 w8 yX DR aX;refine jw.mk ?_)
     obtain⟨g2,c9,hv2⟩:∃g2 c9,v9=.slice (A_ g2 0) (r.length+1) c9:=by
      rcases yX.2 with⟨_,h0⟩|⟨g',cap',cur',e',_⟩
      .omega
      .exact⟨g',cap',e'⟩
     subst hv2;have Fx:Touch (λk=>(avb A2 r.length c2').ownBlock=some k) wA w8:=Touch.grown afD DR λk hk=>.inl hk
     have HST:=I (kS.stores (e:=ax bq (eU ks[j].Qx)) yB.out aP.out ap.out aq.out gL.out Ky.out yX Fx aX);have hg2:=yX.lt g2 rfl;have hl2:cs2.length=r.length*4:=ap.out.1
     have Mo:∀i z,([awe ⟨#[]⟩,N_,N_,E_])[i]?=some z->i<4->w8.cell? (B_ g2 (r.length*4+i))=some z:=λi z hz a8=>by
      rw[yX.cellAt _ (by omega),avY (by omega),show r.length*4+i-cs2.length=i by omega];exact hz
     have a0:w8.cell? (B_ g2 (r.length*4))=some (E_):=Mo 0 _ rfl Zo;have a1:=Mo 1 _ rfl Zo;have a2:=Mo 2 _ rfl Zo;have a3:=Mo 3 _ rfl Zo;have f0:w8.frozen? (B_ g2 (r.length*4))=false:=yX.frozenAt _;have f1:w8.frozen? (B_ g2 (r.length*4+1))=false:=yX.frozenAt _;have f2:w8.frozen? (B_ g2 (r.length*4+2))=false:=yX.frozenAt _;have f3:w8.frozen? (B_ g2 (r.length*4+3))=false:=yX.frozenAt _;have hno:∀k,(avb A2 r.length c2').ownBlock=some k->B2<=k:=λk hk=>(ap.lt k hk).1
     have b0:=Fx.cell (gL.cell ahh.out λh=>h) λh=>by have:=hno _ h;simp only at this;omega
     have b1:w8.frozen? (B_ g7 (m*4+2))=false:=(Fx.frozen (p:=B_ g7 (m*4+2)) (avc acO gL.size) λh=>by have:=hno _ h;simp only at this;omega).trans ((gL.frozen (p:=B_ g7 (m*4+2)) acO λh=>h).trans aT.out);have ak8:g7<w8.heap.size:=avc acO (au2 gL.size Fx.size);have hne:g7≠g2:=Zo
     have aj:g2≠g7:=Zo
     have am:w.heap.size+3<=B2:=yB.out.1;have mZ:=I (show ag w w8 from(gW.trans gL.out).trans' Fx λk hk=>.inr (by have:=hno _ hk;omega));have tC:=I (Fx.QN (gL.QN tu.out λh=>h) λh=>by have:=hno _ h;omega);have ai3:=I (Fx.QN (gL.QN Av.out λh=>h) λh=>by have:=hno _ h;omega);have wE:=I (Fx.QN (gL.QN qc.out λh=>h) λh=>by have:=hno _ h;omega);have gu:=I am;have aJ:=I hg2.1;have Rk:=I (show r.length<r.length+1 by omega);have hr1:(r.length:Int)<(r.length:Int)+1:=Zo
     have aR:=hg2.2;clear yX DR aX Fx Mo hno am aV ql kW hg2 hl2;refine jw.go ?_;go_wp2
     refine hK _ _ trivial ?_;clear hK K
     repeat(refine V9 ?_)
     refine o6 ?_ ?_
     focus
      refine aW rfl (λK hK=>?_);go_wp2
      refine hK _ _ trivial ?_;clear hK K;refine aW rfl (λK hK=>?_);go_wp2
      refine hK _ _ trivial ?_;clear hK K;have lS:=I HST.out.1;have uX:=I (show Touch (λk=>k=g2\/k=g7) w8 _ from((zm w8 g2 (r.length*4) (.string ⟨(ax bq (eU ks[j].Qx)).name.toArray⟩) (.slice Aa (ax bq (eU ks[j].Qx)).Zn.length ca) (.slice Ak (ax bq (eU ks[j].Qx)).Qx.length ck) (.string ⟨(ax bq (eU ks[j].Qx)).QG.toArray⟩)).mono λi hi=>.inl hi).trans ((En _ g7 (m*4+2) (.slice (A_ g2 0) (r.length+1) c9)).mono λi hi=>.inr hi));unfold Ie at lS uX;clear a0 a1 a2 a3 f0 f1 f2 f3 b0 b1 HST;generalize World.setCell _ (B_ g7 (m*4+2)) _=W9 at lS uX|-
     rotate_left
     focus
      refine aW rfl (λK hK=>?_);go_wp2
      refine hK _ _ trivial ?_;clear hK K;refine aW rfl (λK hK=>?_);go_wp2
      refine hK _ _ trivial ?_;clear hK K;have lS:=I HST.out.2;have uX:=I (show Touch (λk=>k=g2\/k=g7) w8 _ from((En w8 g7 (m*4+2) (.slice (A_ g2 0) (r.length+1) c9)).mono λi hi=>.inr hi).trans ((zm _ g2 (r.length*4) (.string ⟨(ax bq (eU ks[j].Qx)).name.toArray⟩) (.slice Aa (ax bq (eU ks[j].Qx)).Zn.length ca) (.slice Ak (ax bq (eU ks[j].Qx)).Qx.length ck) (.string ⟨(ax bq (eU ks[j].Qx)).QG.toArray⟩)).mono λi hi=>.inl hi));unfold Ie at lS uX;clear a0 a1 a2 a3 f0 f1 f2 f3 b0 b1 HST;generalize World.setCell _ (B_ g2 (r.length*4+3)) _=W9 at lS uX|-
     all_goals
      refine sQ ?_;go_wp2_with fail
      have DR:=ao.out;rw[show(aC bq ks)[j]'(by rw[hF];exact c1)=ax bq (eU ks[j].Qx) by simp[aC]]at DR;have am:=gu.out;have hG2:=aJ.out;have VL:Lg.length=m:=by have:=aP.out;rwa [avh]at this
      have yG:alR (w.heap.size+3) c (j+1) W9 (aC bq ks) (A_ g7 0) (m+1) c8:=by
       refine⟨by rw[DR,auZ,VL];rfl,.inr ⟨Lg,r++[ax bq (eU ks[j].Qx)],B2,.slice (A_ g2 0) (r.length+1) c9,cs0,DR,?_⟩⟩;rw[VL];exact lS.out
      exact⟨⟨j+1,m+1,(A_ g7 0),c8,by simp,by omega,uX.QN ai3.out asO,uX.QN wE.out asO,uX.QN tC.out asO,yG,mZ.trans' uX.out (λk hk=>.inr (by rcases hk with h|h<;>omega))⟩,by simp[intOf];omega⟩
  .have d1:decide ((j:Int)<(ks.length:Int))=false:=dF Zo
   have jo:decide (j<ks.length)=false:=dF c1;obtain rfl:j=ks.length:=Zo
   obtain⟨q0,q1,q2,q3,_,_,_,_,hlt⟩:=af.QM oI.out;obtain⟨p0,p1,p2,p3,y0,y1,y2,y3,av⟩:=af.QM ow.out;have jA:=(HT.grow hc0).mv ((M (λk=>k=(w.heap.size+1)) wr).aO Wh (S_ bE) (N_) (.slice Ao ro co) (E_)) aeO;rw[List.take_of_length_le (by rw[Df];exact au3 _)]at jA;have qL:=I jA;obtain⟨r0,r1,r2,r3,_,_,_,_,_⟩:=af.QM (ow.gH (S_ bE) (N_) (.slice Ao ro co) (E_));simp only[aO]at r0 r1 r2 r3;clear jA;go_wp2
   refine bodyPost_ret (v:=.agg #[S_ bE,N_,.slice Ao ro co,E_]) (by simp[results,results104,go_sem,r0,r1,r2,r3]) rfl ?_;refine⟨_,rfl,N_,.slice Ao ro co,rfl,Touch.aO HF.out Ls _ _ _ _,?_⟩;exact(qL.done.mono λi _ hi=>by omega).imp λW hW=>⟨gJ.nil _ _ _,hW,show bE.length<=maxLen by decide,au1 _⟩
end
end Go.Proofs.YtabjglnjjdcfmaaGreatDoor
