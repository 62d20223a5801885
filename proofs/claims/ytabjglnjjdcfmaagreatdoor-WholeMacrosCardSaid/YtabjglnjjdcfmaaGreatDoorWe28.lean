/- Part 28 of 41 of a proof. No condition. -/
import Derived.Test.YtabjglnjjdcfmaaGreatDoorWe27
set_option maxRecDepth 100000
set_option maxHeartbeats 400000
namespace Go.Proofs.YtabjglnjjdcfmaaGreatDoor
open _root_.Nat renaming lt_of_lt_of_le->avc
open _root_.List renaming drop_eq_nil_of_le->avU,length_append->auZ,length_singleton->av4,find?_cons->awg
open _root_.Go.Proofs.Tryz
section
open Go.RowKit
open Tr (Nd)
open Lx (aB)
attribute [local go_sem] gD stillUpon
theorem aP.one{B:Nat}{W:W_}{g cap:Nat}{n:Nd}{sl:Value}(hB:B<=g)(hg:∃cs fr,W.heap[g]?=some (.cells cs 31 fr))(h0:W.cell? (B_ g 0)=some (V n.QI))(h1:W.cell? (B_ g 1)=some (S_ n.QG))
  (h2:W.cell? (B_ g 2)=some (V n.ah)) (h3:W.cell? (B_ g 3)=some sl) (hk:aP B W n.Qx sl) (ht:n.QG.length<=maxLen):aP B W [n] (.slice (A_ g 0) 1 cap):=
 aP.row g cap [n] (λ_=>sl) hB hg aqY (λi hi=>match i,hi with|0,_=>ht) (λi hi=>match i,hi with|0,_=>h0) (λi hi=>match i,hi with|0,_=>h1) (λi hi=>match i,hi with|0,_=>h2) (λi hi=>match i,hi with|0,_=>h3) (λi hi=>match i,hi with|0,_=>hk)
structure Kp where
 p:Nat
 n:Nat
 b:Bool
def Kp.up(k:Kp):Kp:=⟨k.p+1,k.n,k.b⟩
@[simp] theorem Kp.alq(k:Kp):k.up.p=k.p+1:=rfl
structure Cf where
 g:Nat
 W0:W_
 tv:Value
 mv:Value
 en:Nat
 T:List aB
 P:Nat
 tb:D7.Table
 tp:Value
abbrev Cf.E(c:Cf):D7.En:=⟨c.en,c.P,c.tb⟩
def Cf.at(c:Cf)(k:Kp):D7.St:=⟨c.T.drop k.p,k.n,k.b⟩
theorem Cf.ama(c:Cf)(k:Kp):(c.at k).l=c.T.drop k.p:=rfl
theorem Cf.alE(c:Cf)(k:Kp):(c.at k).up=c.at k.up:=by
 show(⟨(c.T.drop k.p).tail,k.n,k.b⟩:D7.St)=_;rw[List.tail_drop];rfl
def lV(c:Cf):Value:=.pointer (A_ c.g 0)
def alW(m:D7.Mac)(sl:Value):Value:=.agg #[V (m.params:Int),V m.tree.QI,S_ m.tree.QG,V m.tree.ah,sl]
def alC(tb:D7.Table)(NY:Nat->Value):List MapEntry:=tb.zipIdx.map λx=>⟨S_ x.1.name,alW x.1 (NY x.2),x.2⟩
structure YB(W:W_)(g:Nat)(tb:D7.Table)(gt bm:Nat)(nv:Value)(NY:Nat->Value):Prop where
 QN:af W gt 73 #[nv,.map (some bm)]
 map:W.heap[bm]?=some (.map (alC tb NY).toArray tb.length)
 tree:∀i (hi:i<tb.length),aP 0 W tb[i].tree.Qx (NY i)
 D9:∀m∈tb,m.tree.QG.length<=maxLen/\m.params<=4/\Tr.count m.tree<=1000
 ng:gt≠g
 nm:bm≠g
def alB(W:W_)(g:Nat)(tb:D7.Table)(tp:Value):Prop:=(tp=.pointer none/\tb=[])\/∃gt bm nv NY,tp=.pointer (A_ gt 0)/\YB W g tb gt bm nv NY
structure Cf.Good(c:Cf):Prop where
 tok:BH c.W0 c.tv c.T
 Ap:c.g<c.W0.heap.size
 far:∀gt o n cap,c.tv=.slice (A_ gt o) n cap->gt≠c.g
 tl:c.T.length<=100000
 enl:c.en<=140737488355328
 D9:∀t∈c.T,t.QG.length<=maxLen
 knz:∀t∈c.T,t.QI≠0
 par:∀t∈c.T,t.QI=6->∃b:UInt8,t.QG=[b]/\49<=b/\b<=57
 aqc:c.P<=4
 tab:alB c.W0 c.g c.tb c.tp
 gty:∃cs,af c.W0 c.g 85 cs
structure Ps(c:Cf)(k:Kp)(op:List Nat)(w:W_):Prop where
 low:Touch (λb=>b=c.g) c.W0 w
 box:∃ov,af w c.g 85 #[c.tv,V (k.p:Int),V (c.en:Int),ov,c.tp,V (c.P:Int),c.mv,V (k.n:Int),.bool k.b]/\w.ownsRow c.W0.heap.size 3 1 ov op.length (EO (up op))
 le:k.p<=c.T.length
 nl:k.n<=1000*k.p
theorem Ps.QH{c:Cf}{k:Kp}{op:List Nat}{w w':W_}(h:Ps c k op w)(hf:ag w w'):Ps c k op w':=by
 obtain⟨ov,hb,ho⟩:=h.box;exact⟨h.low.trans arp,⟨ov,hf.QN hb PR,aQ ho hf anI⟩,h.le,h.nl⟩
theorem Ps.Ap{c:Cf}{k:Kp}{op:List Nat}{w:W_}(h:Ps c k op w):c.g<w.heap.size:=by
 obtain⟨ov,hb,_⟩:=h.box;exact hb.lt
def yK(en:Nat):List aB->Value
 |[]=>.agg #[V 0,E_,V (en:Int),V (en:Int)]
 |t::_=>.agg #[V t.QI,S_ t.QG,V (t.from_:Int),V (t.eF:Int)]
theorem qO(c:Cf)(hc:c.Good)(k:Kp)(op:List Nat)(w:W_)(h:Ps c k op w):
  C_ 49 #[lV c] w λe w'=>e=.returned (yK c.en (c.at k).l)/\ag w w':=by
 obtain⟨ov,hb,ho⟩:=h.box;obtain⟨At,ct,VI,aB⟩:=hc.tok;have ab:=h.low;have aF:=hc.Ap;have au:=hc.tl;have hle:=h.le;have ac5:=hc.far;clear h hc;obtain⟨g,W0,tv,mv,en,T,P,tb,tp⟩:=c;obtain⟨k,kn,kb⟩:=k;unfold Cf.at;unfold lV;simp only at*;subst VI;have nK:=I aB;have Yd:=I ab;have aa:=hb.lt;have q0:=hb.cell 0;have q1:=hb.cell 1;have q2:=hb.cell 2;have hk4:k<=100000:=Zo
 clear aB hb ho ab
 by_cases c1:k<T.length
 .have d1:decide ((k:Int)<(T.length:Int))=true:=by simp;omega
  have jo:decide (k<T.length)=true:=WN
  have aE:(k:Int)<(T.length:Int):=Zo
  obtain⟨gt,o,hA,hgt,h0,h1,h2,h3⟩:=nK.out k c1;cases hA;have HE:=I (show yK en (T.drop k)=.agg #[V T[k].QI,S_ T[k].QG,V (T[k].from_:Int),V (T[k].eF:Int)]from by rw[List.drop_eq_getElem_cons c1];rfl);generalize T[k]=t at h0 h1 h2 h3 HE;have hne:gt≠g:=ac5 gt o _ _ rfl;have a0:=Yd.cell h0 (by exact hne);have a1:=Yd.cell h1 (by exact hne);have a2:=Yd.cell h2 (by exact hne);have a3:=Yd.cell h3 (by exact hne);have aje:gt<w.heap.size:=bL a0;clear h0 h1 h2 h3;clear ac5;go_enter func49,ntmps49;go_wp2
  go_quiet (fail)
  go_wp2_with fail
  have ae:ag w ((w.alloc (.cells #[V 0,E_,V 0,V 0] 131)).drewN nq):=((M _ _).alloc _).drewN _;have hb1:af ((w.alloc (.cells #[V 0,E_,V 0,V 0] 131)).drewN nq) w.heap.size 131 #[V 0,E_,V 0,V 0]:=(af.new _ _ _).drewN _;generalize ((w.alloc (.cells #[V 0,E_,V 0,V 0] 131)).drewN nq)=W1 at ae hb1|-;have r0:=cR (ae.cell (q0.trans rfl) PR);have r1:=cR (ae.cell (q1.trans rfl) PR);have s0:=cR (ae.cell a0 PR);have s1:=cR (ae.cell a1 PR);have s2:=cR (ae.cell a2 PR);have s3:=cR (ae.cell a3 PR);have ai:=hb1.lt;have hgt1:gt<W1.heap.size:=avc aje ae.size;have ajf:g<W1.heap.size:=avc aa ae.size;have aK:=I ae;have aC:=I hb1;clear q0 q1 q2 a0 a1 a2 a3 ae hb1;refine cu [([(0,true),(1,true),(2,true),(3,true),(4,true),(5,true),(6,true),(7,true),(8,true),(9,true)],10)] [] Pg Ph Pg ?_;refine dJ ?_
  repeat(refine Z4 ?_)
  have hb2:=aC.drewN 1;obtain⟨p0,p1,p2,p3,z0,z1,z2,z3,_⟩:=af.QM hb2;refine dm rfl (λK hK=>?_);go_wp2_with fail
  refine fH ?_;go_wp2
  refine bodyPost_ret (v:=.agg #[V t.QI,S_ t.QG,V (t.from_:Int),V (t.eF:Int)]) auq rfl ?_;exact auQ
 .have d1:decide ((k:Int)<(T.length:Int))=false:=by simp;omega
  have jo:decide (k<T.length)=false:=WN
  have HE:=I (show yK en (T.drop k)=.agg #[V 0,E_,V (en:Int),V (en:Int)]from by rw[avU (by omega)];rfl);clear ac5;go_enter func49,ntmps49;go_wp2
  go_quiet (fail)
  go_wp2_with fail
  have ae:ag w ((w.alloc (.cells #[V 0,E_,V 0,V 0] 131)).drewN nq):=((M _ _).alloc _).drewN _;have hb1:af ((w.alloc (.cells #[V 0,E_,V 0,V 0] 131)).drewN nq) w.heap.size 131 #[V 0,E_,V 0,V 0]:=(af.new _ _ _).drewN _;generalize ((w.alloc (.cells #[V 0,E_,V 0,V 0] 131)).drewN nq)=W1 at ae hb1|-;have r2:=cR (ae.cell (q2.trans rfl) PR);have ai:=hb1.lt;have ajf:g<W1.heap.size:=avc aa ae.size;have aK:=I ae;have aC:=I hb1;clear q0 q1 q2 ae hb1;refine cu [([(0,true),(1,true),(2,true),(3,true),(4,true),(5,true),(6,true),(7,true),(8,true)],9)] [] Pg Ph Pg ?_;refine dJ ?_
  repeat(refine Z4 ?_)
  have hb2:=aC.drewN 1;obtain⟨p0,p1,p2,p3,z0,z1,z2,z3,_⟩:=af.QM hb2;refine dm rfl (λK hK=>?_);go_wp2_with fail
  refine fH ?_;go_wp2
  refine bodyPost_ret (v:=.agg #[V 0,E_,V (en:Int),V (en:Int)]) auq rfl ?_;exact auQ
theorem vE(c:Cf)(hc:c.Good)(k:Kp)(op:List Nat)(b:UInt8)(w:W_)(h:Ps c k op w):
  C_ 50 #[lV c,.string ⟨#[b]⟩] w λe w'=>e=.returned (.bool (Np.dx b (c.at k).l))/\ag w w':=by
 have HT:=I (qO c hc k op w h);clear hc h;generalize (c.at k).l=l at HT|-;go_enter func50,ntmps50;go_wp2_with fail
 refine HT.mono ?_;rintro _ w1 ⟨rfl,hf⟩;have HF:=I hf;clear hf;cases l with
 |nil=>
  unfold yK;go_wp2
  go_ret;exact⟨rfl,HF.alloc _⟩
 |cons t r=>
  unfold yK;have HI:=I (show Np.dx b (t::r)=((t.QI==7)&&(t.QG==[b]))from rfl);have hs:((⟨t.QG.toArray⟩:Y_)==(⟨#[b]⟩:Y_))=(t.QG==[b]):=by rw[bS]
  cases hk:(t.QI==7)with
  |false=>
   have hkI:((t.QI:Int)==(7:Int))=false:=by
    have:t.QI≠7:=by simpa using hk
    rw[beq_eq_false_iff_ne];omega
   go_wp2
   go_ret;exact⟨by rw[HI.out,hk];rfl,HF.alloc _⟩
  |true=>
   have hkI:((t.QI:Int)==(7:Int))=true:=by
    have:t.QI=7:=by simpa using hk
    rw[this];rfl
   go_wp2
   go_ret;exact⟨by rw[HI.out,hk];rfl,HF.alloc _⟩
def aG(i e:Nat):Value:=.agg #[V (i:Int),V (e:Int)]
theorem Ye(a b c d:Value)(w:W_):(Instr.field 131 (.agg #[a,b,c,d]) 0).run Tryz.prog w=.ok a w:=by
 exact arN
theorem Yf(a b c d:Value)(w:W_):(Instr.field 131 (.agg #[a,b,c,d]) 1).run Tryz.prog w=.ok b w:=by
 simp[Instr.field,run_underlying underlying131,part,isAgg,asAgg,run_underlying underlying9]
theorem FB(a b c d:Value)(w:W_):(Instr.field 131 (.agg #[a,b,c,d]) 2).run Tryz.prog w=.ok c w:=by
 exact arN
theorem af.two{w:W_}{g:Nat}{t:TypeId}{x0 x1:Value}(h:af w g t #[x0,x1]):
  w.cell? (B_ g 0)=some x0/\w.cell? (B_ g 1)=some x1/\w.frozen? (B_ g 0)=false/\w.frozen? (B_ g 1)=false/\g<w.heap.size:=⟨h.cell 0,h.cell 1,h.frozen 0,h.frozen 1,h.lt⟩
theorem OP(en:Nat)(l:List aB):∃(r0 r1 r3:Value) (r2:Nat),yK en l=.agg #[r0,r1,V (r2:Int),r3]/\r2=Np.place en l:=by
 cases l with
 |nil=>exact⟨_,_,_,_,rfl,rfl⟩
 |cons t r=>exact⟨_,_,_,_,rfl,rfl⟩
theorem Cu(c:Cf)(hc:c.Good)(k:Kp)(op:List Nat)(w:W_)(h:Ps c k op w):
  C_ 28 #[lV c] w λe w'=>e=.returned (aG (Np.place c.en (c.at k).l) 3)/\ag w w':=by
 have HT:=I F_;clear hc h;generalize (c.at k).l=l at HT|-;obtain⟨r0,r1,r3,r2,hr,hp⟩:=OP c.en l;rw[<-hp];rw[hr]at HT;have aX:=FB;clear hr hp;go_enter func28,ntmps28;go_wp2_with fail
 refine(HT _ Q_).mono ?_;rintro _ w1 ⟨rfl,hf⟩;have HF:=I aoa;obtain⟨p0,p1,z0,z1,hlt⟩:=af.two aik;clear hf;go_wp2_with fail
 refine bodyPost_ret (v:=aG r2 3) (by simp[aG,results,results28,go_sem,p0,p1]) rfl ?_;exact⟨rfl,(HF.setCell (p:=B_ w.heap.size 0) ET _).setCell (p:=B_ w.heap.size 1) ET _⟩
theorem j6(A:Option Addr)(n cap:Nat)(w:W_):
  C_ 29 #[.slice A n cap] w λe w'=>e=.returned (.agg #[V 1,E_,V 0,.slice A n cap])/\ag w w':=by
 go_enter func29,ntmps29;go_wp2_with fail
 obtain⟨p0,p1,p2,p3,_⟩:=af.QM (af.new w 31 #[V 1,E_,V 0,.slice A n cap]);refine bodyPost_ret (v:=.agg #[V 1,E_,V 0,.slice A n cap]) (by simp[results,results29,go_sem,p0,p1,p2,p3]) rfl ?_;exact⟨rfl,(M _ _).alloc _⟩
theorem Ps.next{c:Cf}{k:Kp}{op:List Nat}{w:W_}(h:Ps c k op w)(hk:k.p<c.T.length)(x:Int)(hx:x=((k.p+1:Nat):Int)):Ps c k.up op (w.setCell (B_ c.g 1) (V x))/\Mp c.g c.W0.heap.size w (w.setCell (B_ c.g 1) (V x)):=by
 obtain⟨ov,hb,ho⟩:=h.box
 have hne:∀b,ov.ownBlock=some b->b≠c.g:=λb hb'=>by
  exact ag6
 refine⟨⟨h.low.setCell (p:=B_ c.g 1) Wh _,⟨ov,?_,aQ ho ((M (λb=>b=c.g) w).setCell (p:=B_ c.g 1) Wh _) hne⟩,hk,by have:=h.nl;show k.n<=1000*(k.p+1);omega⟩,Mp.put w 1 _⟩;have:=hb.put 1 (V x);rw[hx]at this|-;exact this
theorem Iz(c:Cf)(hc:c.Good)(k:Kp)(op:List Nat)(kd:Int)(tx:List UInt8)(w:W_)(h:Ps c k op w)(hk:k.p<c.T.length)(an:tx.length<=maxLen):
  C_ 145 #[lV c,V kd,S_ tx] w λe w'=>∃b,e=.returned (.tuple #[.slice (A_ b 0) 1 1,aG 0 0])/\aP w.heap.size w' [.mk kd tx 0 []] (.slice (A_ b 0) 1 1)/\Ps c k.up op w'/\Mp c.g c.W0.heap.size w w':=by
 have au:=hc.tl;have hk4:k.p<=100000:=Zo
 obtain⟨ov,hb,ho⟩:=h.box;have aa:=hb.lt;have q1:=hb.cell 1;have z1:=hb.frozen 1;have H:=I h;clear hc hb ho h;unfold lV;have e1:((k.p:Int)+1)=((k.p+1:Nat):Int):=P9
 have HE:=I e1;clear e1;go_enter func145,ntmps145;go_wp2_with fail
 have hn:=H.next hk ((k.p:Int)+1) HE.out;have hs:(w.setCell (B_ c.g 1) (V ((k.p:Int)+1))).heap.size=w.heap.size:=P9
 generalize (w.setCell (B_ c.g 1) (V ((k.p:Int)+1)))=W1 at hn hs|-;rw[<-hs]
 (try simp only[Exit.inBlock,Exit.then])
 have aw:af ((W1.alloc (.cells #[V 0,V 0] 45)).alloc (.cells #[V kd,S_ tx,V 0,N_] 31)) W1.heap.size 45 #[V 0,V 0]:=(af.new _ _ _).alloc _;have av:af ((W1.alloc (.cells #[V 0,V 0] 45)).alloc (.cells #[V kd,S_ tx,V 0,N_] 31)) (W1.heap.size+1) 31 #[V kd,S_ tx,V 0,N_]:=af.new2 _ _ _ _;have hf2:ag W1 ((W1.alloc (.cells #[V 0,V 0] 45)).alloc (.cells #[V kd,S_ tx,V 0,N_] 31)):=((M _ _).alloc _).alloc _;generalize ((W1.alloc (.cells #[V 0,V 0] 45)).alloc (.cells #[V kd,S_ tx,V 0,N_] 31))=W2 at aw av hf2|-;obtain⟨p0,p1,_⟩:=af.two aw;refine bodyPost_ret (v:=.tuple #[.slice (A_ (W1.heap.size+1) 0) 1 1,aG 0 0]) (by simp[aG,results,results145,go_sem,p0,p1]) rfl ?_;refine⟨_,rfl,?_,hn.1.QH hf2,hn.2.trans (Mp.QH hf2)⟩;obtain⟨n0,n1,n2,n3,_⟩:=af.QM av;exact aP.one Zo ⟨_,_,av⟩ n0 n1 n2 n3 (.nil _ _) an
theorem Yg{W:W_}{B e g n cap:Nat}{xs:List Value}{u:Value}(h:W.ownsRow B e 1 (.slice (A_ g 0) (n+1) cap) (n+1) (xs++[u])):W.ownsRow B e 1 (.slice (A_ g 0) n cap) n xs:=by
 have hl:=h.1;rw[auZ,av4]at hl;refine⟨by omega,?_⟩
 rcases h.2 with⟨h1,_⟩|⟨g',cap',cur,h1,h2,h3,h4,h5,h6,h7⟩
 .cases h1
 .cases h1
  refine .inr ⟨g,cap,cur,rfl,h2,h3,by omega,h5,h6,?_⟩;have h8:(cur.toList.take ((n+1)*1)).take (n*1)=(xs++[u]).take (n*1):=by rw[h7]
  rw[List.take_take,show min (n*1) ((n+1)*1)=n*1 by omega]at h8;rw[h8,List.take_append_of_le_length (by omega),List.take_of_length_le (by omega)]
theorem Ps.put{c:Cf}{k:Kp}{op:List Nat}{w:W_}(h:Ps c k op w){b:Nat}{t:TypeId}{cs:Array Value}(hb:af w b t cs)(ht:t≠3)(hne:b≠c.g)(hB:c.W0.heap.size<=b)(i:Nat)(v:Value):Ps c k op (w.setCell (B_ b i) v):=by
 obtain⟨ov,ap,ho⟩:=h.box;refine⟨h.low.setCell (p:=B_ b i) (.inr hB) v,⟨ov,ap.far (p:=B_ b i) (λe=>hne e.symm) v,aQ ho ((M (λk=>k=b) w).setCell (p:=B_ b i) Wh v) λk hk e=>?_⟩,h.le,h.nl⟩;obtain⟨_,cur,h2⟩:=fe ho hk;subst e;unfold af at hb;rw[hb]at h2;cases h2;exact ht rfl
theorem ac6(L:List Nat)(x:Nat):EO (up L)++[V (x:Int)]=EO (up (L++[x])):=P9
theorem JU(c:Cf)(hc:c.Good)(k:Kp)(op:List Nat)(w:W_)(h:Ps c k op w)(hk:k.p<c.T.length)(hop:op.length<=100000):
  C_ 90 #[lV c] w λe w'=>e=.returned (.tuple #[])/\Ps c k.up (op++[Np.place c.en (c.at k).l]) w'/\Mp c.g c.W0.heap.size w w':=by
 obtain⟨i,hi,hz0,hz1,hz2⟩:=info_parts aer;have HT:=I F_;obtain⟨ov,hb,ho⟩:=h.box
 obtain⟨Ao,co,rfl⟩:∃A cp,ov=.slice A op.length cp:=by
  rcases ho.2 with⟨h1,h2⟩|⟨g,cap,cur,h1,_⟩
  .exact aiq
  .exact asI
 have au:=hc.tl;have hk4:k.p<=100000:=Zo
 have aa:=hb.lt
 have hne:∀b,(Value.slice Ao op.length co).ownBlock=some b->b≠c.g:=λb hb'=>by
  exact ag6
 have H:=I h;have HB:=I hb;have HO:=I ho;have aY:=I hne;have oJ:=I hop;have HK:=I hk;have hW0:=I (show c.W0.heap.size<=w.heap.size from h.low.size);clear hc hb ho h hne;generalize (c.at k).l=l at HT|-;obtain⟨r0,r1,r3,r2,hr,hp⟩:=OP c.en l;rw[<-hp];rw[hr]at HT;clear hr hp;have aX:=FB;have r3':=cR ((HB.cell 3).trans rfl);have e1:((k.p:Int)+1)=((k.p+1:Nat):Int):=P9
 have HE:=I e1;clear e1;unfold lV at HT|-;go_enter func90,ntmps90;go_wp2_with fail
 refine O8 [0] [([(1,true),(2,true),(3,true),(4,true),(5,true),(6,false),(7,true),(8,false)],9),([(10,true),(11,true)],12)] [] Pg Ph Pg ?_
 repeat(refine V6 rfl (λK hK=>?_);go_simp;refine hK _ ?_;clear hK K)
 refine YQ ?_;refine dJ ?_
 repeat(refine Z4 ?_)
 refine aS rfl (λK hK=>?_);go_wp2_with fail
 refine(HT.out _ aes).mono ?_;rintro _ w1 ⟨rfl,hf⟩;have aK:=I (show ag w w1 from Touch.BD hf);clear hf r3';go_wp2
 refine hK _ _ (aA aK.out) ?_;clear hK K
 repeat(refine Z4 ?_)
 refine aS rfl (λK hK=>?_);go_wp2
 refine hK _ _ (aA (aK.alloc _)) ?_;clear hK K;refine dm rfl (λK hK=>?_)
 go_wp2_with (at_builtin;refine iL _ rfl (.tmp 6) (.tmp 10) 82 rfl c.W0.heap.size 3 i _ 1 8 rfl hi hz0 hz1 hz2 rfl Pf (.slice Ao op.length co) op.length (EO (up op)) WH (aQ HO.out (aK.alloc _) anI) (.slice (A_ w1.heap.size 0) 1 1) 1 [V (r2:Int)] WH (Src.uT aqP rfl) ar7 (by have:=oJ.out;unfold maxLen;omega) (by have:=oJ.out;omega) (by have h1:=hW0.out;have h2:=aK.size;simp;omega) ?_;intro v8 W8 ac jI ax;refine jw.mk ?_)
 have OQ:=I (show Mp c.g c.W0.heap.size w W8 from Mp.grown (Mp.QH (aK.alloc _)) (aQ HO.out (aK.alloc _) anI) jI)
 have aho:=I (show Touch (λb=>b=c.g) c.W0 W8 from((H.low.trans ((aK.alloc _).mono λ_ h=>h.elim)).grown jI λb hb=>.inr (by
  have:=(HO.lt b hb).1;exact this)))
 have lT:=I (show af W8 c.g 85 #[c.tv,V (k.p:Int),V (c.en:Int),.slice Ao op.length co,c.tp,V (c.P:Int),c.mv,V (k.n:Int),.bool k.b]from
  ((M (λb=>(Value.slice Ao op.length co).ownBlock=some b) _).grown jI λb hb=>.inl hb).QN ((aK.alloc _).QN HB.out PR) λhb=>aY.out _ hb rfl)
 rw[ac6]at ac;have an:=I (show W8.ownsRow c.W0.heap.size 3 1 v8 (op++[r2]).length (EO (up (op++[r2])))from by rw[auZ];exact ac);obtain⟨A8,c8,rfl⟩:=mK ac;clear ac jI ax;refine jw.go ?_;go_wp2_with fail
 refine dJ ?_
 repeat(refine Z4 ?_)
 have z3:=lT.frozen 3;have y3:=lT.cell 3;have jI:=lT.lt;refine dm rfl (λK hK=>?_);go_wp2_with fail
 refine fH ?_
 have agp:∀b,(Value.slice A8 (op.length+1) c8).ownBlock=some b->b≠c.g:=λb hb'=>by
  obtain⟨h1,cur,h2⟩:=fe an.out hb';intro e;subst e;have hb:=lT.out;unfold af at hb;rw[hb]at h2;cases h2
 have Sa:=I (show Ps c k (op++[r2]) (W8.setCell (B_ c.g 3) (.slice A8 (op.length+1) c8))from
  ⟨aho.setCell (p:=B_ c.g 3) Wh _,⟨.slice A8 (op.length+1) c8,lT.put 3 _,aQ an.out ((M (λb=>b=c.g) W8).setCell (p:=B_ c.g 3) Wh _) agp⟩,H.le,H.nl⟩)
 have OT:=I (show Mp c.g c.W0.heap.size w (W8.setCell (B_ c.g 3) (.slice A8 (op.length+1) c8))from OQ.trans (Mp.put W8 3 _));generalize (W8.setCell (B_ c.g 3) (.slice A8 (op.length+1) c8))=W9 at Sa OT|-;obtain⟨ov9,kD,_⟩:=Sa.box;have q1:=kD.cell 1;have z1:=kD.frozen 1;have jA:=kD.lt;clear kD z3 y3 jI agp;go_wp2_with fail
 obtain⟨n1,n2⟩:=Sa.next HK.out _ HE.out
 (try simp only[Exit.inBlock,Exit.then])
 first|go_end0|refine bodyPost_ret (v:=.tuple #[]) Un rfl ?_
 exact⟨rfl,n1,OT.trans n2⟩
theorem IA(c:Cf)(hc:c.Good)(k:Kp)(op:List Nat)(x:Nat)(b:UInt8)(w:W_)(h:Ps c k (op++[x]) w)(hk:k.p<c.T.length\/Np.dx b (c.at k).l=false):
  C_ 91 #[lV c,.string ⟨#[b]⟩] w λe w'=>
   (Np.dx b (c.at k).l=true/\e=.returned (aG 0 0)/\Ps c k.up op w'/\Mp c.g c.W0.heap.size w w')\/
   (Np.dx b (c.at k).l=false/\e=.returned (aG (Np.place c.en (c.at k).l) 3)/\Mp c.g c.W0.heap.size w w'):=by
 have HA:=I (λ(w':W_) (hf:ag w w')=>vE c hc k (op++[x]) b w' ah6);have HR:=I (λ(w':W_) (hf:ag w w')=>Cu c hc k (op++[x]) w' ah6);have H:=I h;have au:=hc.tl;clear hc h;generalize hm:Np.dx b (c.at k).l=mb at HA hk|-;generalize Np.place c.en (c.at k).l=pl at HR|-;clear hm;cases mb with
 |false=>
  go_enter func91,ntmps91;go_wp2_with fail
  refine(HA _ Q_).mono ?_;rintro _ w1 ⟨rfl,hf⟩;have aK:=I aoa;have aC:=I aik;clear hf;go_wp2_with fail
  refine(HR _ aK).mono ?_;rintro _ w2 ⟨rfl,hf⟩;have bW:=I (aK.trans hf);obtain⟨p0,p1,z0,z1,hlt⟩:=af.two (hf.QN aC PR);clear hf;unfold aG;go_wp2_with fail
  refine bodyPost_ret (v:=aG pl 3) (by simp[aG,results,results91,go_sem,p0,p1]) rfl ?_;refine .inr ⟨trivial,rfl,Mp.QH ((bW.setCell (p:=B_ w.heap.size 0) ET _).setCell (p:=B_ w.heap.size 1) ET _)⟩
 |true=>
  have aD:k.p<c.T.length:=by
   rcases hk with hk|hk
   .exact hk
   .cases hk
  have Dk:=I aD;clear hk;have hk4:k.p<=100000:=Zo
  go_enter func91,ntmps91;go_wp2_with fail
  refine(HA _ Q_).mono ?_;rintro _ w1 ⟨rfl,hf⟩;have aK:=I aoa;have aC:=I aik;clear hf;have Iu:=I (H.QH aK);obtain⟨ov,hb1,ab⟩:=Iu.box;have HBP:=I hb1;have HOV:=I ab
  obtain⟨go,co,rfl,aS⟩:∃go cp,ov=.slice (A_ go 0) (op.length+1) cp/\op.length+1<=cp:=by
   rcases ab.2 with⟨_,h2⟩|⟨g,cap,cur,h1,_,_,h2,_⟩
   .simp at h2
   .rw[auZ,av4]at h1 h2
    exact⟨_,_,h1,h2⟩
  have hne:go≠c.g:=λe=>by
   obtain⟨h1,cur,h2⟩:=fe ab (g:=go) rfl;subst e;unfold af at hb1;rw[hb1]at h2;cases h2
  have ao:op.length+1<=maxLen:=by
   rcases ab.2 with⟨_,h2⟩|⟨g,cap,cur,_,_,_,h2,h3,_⟩
   .simp at h2
   .rw[auZ,av4]at h2
    exact Nat.le_trans h2 h3
  unfold maxLen at ao;have aY:=I hne;have r3:=cR ((hb1.cell 3).trans rfl);have e1:((op.length:Int)+1)-1=(op.length:Int):=Zo
  have e2:IntKind.i64.wrap ((op.length:Int))=(op.length:Int):=IntWalk.i64_in _ Zo;have aa:op.length<=co:=Zo
  have aR:=hb1.lt;have z3:=hb1.frozen 3;have y3:=hb1.cell 3;clear hb1 ab hne;unfold lV at HA HR|-;go_wp2_with fail
  refine cu [([(0,true),(1,true),(2,true),(3,true),(4,true),(5,true),(6,true),(7,true),(8,true),(9,true),(10,true),(11,true),(12,true),(13,true)],14)] [] Pg Ph Pg ?_;refine dJ ?_
  repeat(refine Z4 ?_)
  clear r3;have y3':(w1.drewN 1).cell? (B_ c.g 3)=some (.slice (A_ go 0) (op.length+1) co):=y3.trans rfl;have z3':(w1.drewN 1).frozen? (B_ c.g 3)=false:=z3;refine dm rfl (λK hK=>?_);go_wp2_with fail
  refine fH ?_
  have jb:=I (show Ps c k op ((w1.drewN 1).setCell (B_ c.g 3) (.slice (A_ go 0) op.length co))from
   ⟨(Iu.low.drewN 1).setCell (p:=B_ c.g 3) Wh _,⟨_,(HBP.drewN 1).put 3 _,aQ (Yg (by
    have h1:=HOV.out;rw[auZ,av4]at h1;have e:EO (up (op++[x]))=EO (up op)++[V (x:Int)]:=P9
    rw[e]at h1
    exact h1)) (((M (λb=>b=c.g) w1).drewN 1).setCell (p:=B_ c.g 3) Wh _) (λb hb=>by
     simp only[Value.ownBlock,Option.some.injEq]at hb;rw[<-hb];exact aY)⟩,Iu.le,Iu.nl⟩)
  have iI:=I (show Mp c.g c.W0.heap.size w ((w1.drewN 1).setCell (B_ c.g 3) (.slice (A_ go 0) op.length co))from(Mp.QH (aK.drewN 1)).trans (Mp.put _ 3 _));have jg:=I (show af ((w1.drewN 1).setCell (B_ c.g 3) (.slice (A_ go 0) op.length co)) w.heap.size 45 #[V 0,V 0]from(aC.drewN 1).far (p:=B_ c.g 3) (λe=>by have h1:=H.Ap;have h2:w.heap.size=c.g:=e;omega) _);generalize ((w1.drewN 1).setCell (B_ c.g 3) (.slice (A_ go 0) op.length co))=W2 at jb iI jg|-;obtain⟨ov2,hb2,_⟩:=jb.box;have q1:=hb2.cell 1;have z1:=hb2.frozen 1;have hg2:=hb2.lt;have e3:((k.p:Int)+1)=((k.p+1:Nat):Int):=P9
  have HE:=I e3;obtain⟨p0,p1,y0,y1,hlt⟩:=af.two jg;have aF:c.g<w.heap.size:=H.Ap;clear hb2 e3 y3 z3 y3' z3' e1 e2;go_wp2_with fail
  obtain⟨n1,n2⟩:=jb.next Dk _ HE;have DT:=jg.far (p:=B_ c.g 1) (λe=>by have h2:w.heap.size=c.g:=e;omega) (V ((k.p:Int)+1));have agq:w.heap.size≠c.g:=λe=>by omega
  have ac:c.W0.heap.size<=w.heap.size:=H.low.size;have Eo:=n1.put DT Pf agq ac 0 (V 0);have hb4:=DT.put 0 (V 0);have jM:=Eo.put hb4 Pf agq ac 1 (V 0);have al:af _ _ 45 #[V 0,V 0]:=hb4.put 1 (V 0);have wO:=(iI.trans n2).setCell (p:=B_ w.heap.size 0) ET (V 0)|>.setCell (p:=B_ w.heap.size 1) ET (V 0)
  obtain⟨f0,f1,_⟩:=af.two al
  refine bodyPost_ret (v:=aG 0 0) (by simp[aG,results,results91,go_sem,f0,f1]) rfl ?_;exact .inl ⟨trivial,rfl,jM,wO⟩
end
section
open Go.RowKit
open Tr (Nd)
open Lx (aB)
def Cv:List (List UInt8×FuncId):=[(Tr.oO,45),(Tr.mU,46),(Tr.bY,47),([104,97,116],48),([98,97,114],48),([118,101,99],48),([100,111,116],48),([116,105,108,100,101],48),([99,104,101,99,107],48)]
def mM(g:Nat)(f:FuncId):Value:=.func (.func f) #[.pointer (A_ g 0)] #[]
def qP(s:List UInt8):Option FuncId:=(Cv.find? λx=>x.1==s).map (·.2)
def rJ(g:Nat):List MapEntry:=Cv.zipIdx.map λx=>⟨S_ x.1.1,mM g x.1.2,x.2⟩
theorem JV(s:List UInt8):∀(l:List ((List UInt8×Value)×Nat)) (i:Nat),∃j,Instr.findNow .string (S_ s) (l.map λx=>⟨S_ x.1.1,x.1.2,x.2⟩) i=some ((l.find? λx=>x.1.1==s).map λx=>(j,x.1.2))
 |[],i=>⟨0,rfl⟩
 |x::l,i=>by
  rw[List.map_cons,Instr.findNow,awg]
  have hs:Instr.sameNow .string (S_ s) (S_ x.1.1)=some (x.1.1==s):=by
   show some ((⟨s.toArray⟩:Y_)==(⟨x.1.1.toArray⟩:Y_))=_;rw[bS]
   congr 1
   by_cases h:s=x.1.1
   .rw[h]
   .rw[beq_eq_false_iff_ne.2 h,beq_eq_false_iff_ne.2 (λe=>h e.symm)]
  simp only[hs];cases h:(x.1.1==s)with
  |true=>exact⟨i,rfl⟩
  |false=>exact JV s l (i+1)
theorem Pw(g:Nat)(s:List UInt8):∃j,Instr.findNow .string (S_ s) (rJ g) 0=some ((qP s).map λf=>(j,mM g f)):=by
 have h:=JV s (Cv.zipIdx.map λx=>((x.1.1,mM g x.1.2),x.2)) 0;obtain⟨j,h⟩:=h;refine⟨j,?_⟩;have e:(Cv.zipIdx.map λx=>((x.1.1,mM g x.1.2),x.2)).map (λx=>(⟨S_ x.1.1,x.1.2,x.2⟩:MapEntry))=rJ g:=by rw[List.map_map];rfl
 rw[e]at h;rw[h]
 congr 1
 unfold qP;rw[List.find?_map];simp only[Option.map_map]
 have e2:∀(l:List (List UInt8×FuncId)) (n:Nat),((l.zipIdx n).find? λx=>x.1.1==s).map (λx=>(j,mM g x.1.2))=(l.find? λx=>x.1==s).map λx=>(j,mM g x.2):=by
  intro l
  induction l with
  |nil=>intro n;rfl
  |cons y l ih=>
   intro n;rw[List.zipIdx_cons,awg,awg];cases hy:(y.1==s)with
   |true=>rfl
   |false=>exact ih (n+1)
 exact e2 Cv 0
theorem U2(w:W_):(zeroValue 81).run Tryz.prog w=.ok .nilFunc w:=by
 have:=Tryz.zeroValue81 w;exact this
theorem aaQ(e:Bool)(s:Y_)(w:W_):(Instr.checkKey e 10000 9 (.string s)).run Tryz.prog w=.ok () w:=by
 rw[show(10000:Nat)=9999+1 from rfl];unfold Instr.checkKey;simp[run_underlying underlying9]
theorem Px(g:Nat)(s:List UInt8)(w:W_):∃j,(Instr.findKey 9 (S_ s) (rJ g)).run Tryz.prog w=.ok ((qP s).map λf=>(j,mM g f)) w:=by
 obtain⟨j,hj⟩:=Pw g s;refine⟨j,?_⟩;unfold Instr.findKey;simp[run_underlying underlying9,hj]
theorem OU{w:W_}{bm g clock:Nat}(hb:w.heap[bm]?=some (.map (rJ g).toArray clock))(s:List UInt8)(ok:Bool):
  (Instr.lookup 83 (.map (some bm)) (S_ s) ok).run Tryz.prog w=.ok (match qP s with
   |some f=>if ok then .tuple #[mM g f,.bool true]else mM g f
   |none=>if ok then .tuple #[.nilFunc,.bool false]else .nilFunc) w:=by
 obtain⟨j,hj⟩:=Px g s w;have hg:(getObj bm).run Tryz.prog w=.ok (.map (rJ g).toArray clock) w:=by simp[getObj,Sem.run,hb]
 have hc:=aaQ;have hz:=U2 w;unfold Instr.lookup;cases hf:qP s with
 |none=>
  rw[hf]at hj;cases ok<;>simp[run_underlying underlying83,hg,hc,hj,hz]
 |some f=>
  rw[hf]at hj;cases ok<;>simp[run_underlying underlying83,hg,hc,hj]
def Cf.Dn(c:Cf)(bm:Nat):Prop:=c.mv=.map (some bm)/\c.W0.heap[bm]?=some (.map (rJ c.g).toArray 9)/\bm≠c.g
theorem Cf.Dn.at{c:Cf}{bm:Nat}(h:c.Dn bm){k:Kp}{op:List Nat}{w:W_}(hp:Ps c k op w):w.heap[bm]?=some (.map (rJ c.g).toArray 9):=
 (hp.low.block bm (Array.getElem?_eq_some_iff.1 h.2.1).1 h.2.2).trans h.2.1
theorem IB(s:List UInt8):qP s=if s=Tr.oO then some 45 else if s=Tr.mU then some 46 else if s=Tr.bY then some 47 else if Np.tH s=true then some 48 else none:=by
 by_cases h1:s=Tr.oO
 .subst h1;rfl
 .by_cases h2:s=Tr.mU
  .subst h2;rfl
  .by_cases h3:s=Tr.bY
   .subst h3;rfl
   .rw[if_neg h1,if_neg h2,if_neg h3]
    have b1:(Tr.oO==s)=false:=by simpa using λe=>h1 e.symm
    have b2:(Tr.mU==s)=false:=by simpa using λe=>h2 e.symm
    have b3:(Tr.bY==s)=false:=by simpa using λe=>h3 e.symm
    unfold qP Cv Np.tH Tr.eu;simp only[awg,b1,b2,b3,List.contains_cons,List.find?_nil,List.contains_nil]
    have hc:∀x:List UInt8,(x==s)=(s==x):=λx=>by
     by_cases e:x=s
     .subst e;simp
     .rw[beq_eq_false_iff_ne.2 e,beq_eq_false_iff_ne.2 (λh=>e h.symm)]
    simp only[hc];cases(s==([104,97,116]:List UInt8))<;>cases(s==([98,97,114]:List UInt8))<;>cases(s==([118,101,99]:List UInt8))<;>cases(s==([100,111,116]:List UInt8))<;>cases(s==([116,105,108,100,101]:List UInt8))<;>cases(s==([99,104,101,99,107]:List UInt8))<;>rfl
theorem zu(s:List UInt8):qP s=none↔Np.special s=false:=by
 rw[IB];unfold Np.special
 by_cases h1:s=Tr.oO
 .rw[if_pos h1]
  exact⟨λh=>(by cases h),λh=>by rw[h1]at h;revert h;decide⟩
 .by_cases h2:s=Tr.mU
  .rw[if_neg h1,if_pos h2]
   exact⟨λh=>(by cases h),λh=>by rw[h2]at h;revert h;decide⟩
  .by_cases h3:s=Tr.bY
   .rw[if_neg h1,if_neg h2,if_pos h3]
    exact⟨λh=>(by cases h),λh=>by rw[h3]at h;revert h;decide⟩
   .have b1:(s==Tr.oO)=false:=by simpa using h1
    have b2:(s==Tr.mU)=false:=by simpa using h2
    have b3:(s==Tr.bY)=false:=aeQ
    rw[if_neg h1,if_neg h2,if_neg h3,b1,b2,b3];cases Np.tH s<;>simp
end
section
open Go.RowKit
open Tr (Nd)
open Lx (aB)
attribute [local go_sem] gD stillUpon
def Jl(P:Nat):List aB->Option Nd
 |[]=>none
 |t::_=>D7.alo P t
theorem amg{P:Nat}{t:aB}{x:Nd}(h:Np.fO t=some x):D7.alo P t=some x:=by unfold D7.alo;rw[h]
theorem aot{P:Nat}{t:aB}(h:Np.fO t=none)(h6:t.QI≠6):D7.alo P t=none:=by
 unfold D7.alo;rw[h];exact if_neg λe=>h6 e.1
theorem aoc{P:Nat}{t:aB}{b:UInt8}(h:Np.fO t=none)(h6:t.QI=6)(ht:t.QG=[b]):D7.alo P t=if b.toNat<=P+48 then some (.mk 2 [35,b] 0 [])else none:=by
 unfold D7.alo;rw[h,ht]
 by_cases hb:b.toNat<=P+48
 .rw[if_pos hb]
  exact if_pos ⟨h6,hb⟩
 .rw[if_neg hb]
  exact if_neg λe=>hb e.2
def Jm(c:Cf)(k:Kp)(op:List Nat)(w:W_)(e:Ending)(w':W_):Prop:=
 (∃x b,Jl c.P (c.at k).l=some x/\e=.returned (.tuple #[.slice (A_ b 0) 1 1,.bool true])/\aP w.heap.size w' [x] (.slice (A_ b 0) 1 1)/\Ps c k.up op w'/\Mp c.g c.W0.heap.size w w')\/
 (Jl c.P (c.at k).l=none/\e=.returned (.tuple #[N_,.bool false])/\ag w w')
theorem Bq(n m:Nat)(h:n=m):((n:Int)==(m:Int))=true:=by rw[h];simp
theorem uH(n m:Nat)(h:n≠m):((n:Int)==(m:Int))=false:=MW
theorem IC(c:Cf)(hc:c.Good)(k:Kp)(op:List Nat)(w:W_)(h:Ps c k op w):
  C_ 127 #[lV c] w (Jm c k op w):=by
 have HT:=I F_;have HS:=I (λ(w':W_) (hf:ag w w') (kd:Int) (tx:List UInt8) (hk:k.p<c.T.length) (an:tx.length<=maxLen)=>Iz c hc k op kd tx w' ah6 hk an);have kJ:=I hc.D9;have Cj:=I hc.par;obtain⟨ov,hb,_⟩:=h.box;have HB:=I hb;unfold Jm;have H:=I h;clear h hb hc;cases hl:(c.at k).l with
 |nil=>
  rw[hl]at HT;unfold yK at HT;clear hl;go_enter func127,ntmps127;go_wp2_with fail
  refine(HT _ afD).mono ?_;rintro _ w1 ⟨rfl,hf⟩;have HF:=I hf;clear hf;go_wp2
  go_quiet (fail)
  go_wp2
  go_ret2;exact .inr ⟨rfl,rfl,HF.alloc _|>.drewN _⟩
 |cons t r=>
  rw[hl]at HT;unfold yK at HT
  have hk:k.p<c.T.length:=by
   rcases Nat.lt_or_ge k.p c.T.length with h|h
   .exact h
   .rw[Cf.ama,avU h]at hl;cases hl
  have ah:t∈c.T:=List.mem_of_mem_drop (i:=k.p) ar';have HK:=I hk;have HX:=I (kJ t ah);have HP:=I (Cj t ah);clear ah kJ Cj hl hk;go_enter func127,ntmps127;go_wp2_with fail
  refine(HT _ afD).mono ?_;rintro _ w1 ⟨rfl,hf⟩;have HF:=I hf;have xI:=I (show w.heap.size<=(w1.alloc (.cells #[V t.QI,S_ t.QG,V (t.from_:Int),V (t.eF:Int)] 131)).heap.size from(hf.alloc _).size);clear hf
  by_cases h1:t.QI=1
  .have e1:=Bq _ 1 h1
   have HL:=I (show Jl c.P (t::r)=some (.mk 2 t.QG 0 [])from amg (by unfold Np.fO;rw[if_pos h1]));clear h1;go_wp2_with fail
   refine(HS _ (HF.alloc _) 2 t.QG HK HX).mono ?_;rintro _ w2 ⟨b,rfl,aa,hp,hm⟩;have jK:=I aa;have jb:=I hp;have iI:=I as3;clear aa hp hm;unfold aG;go_wp2
   exact arj
  .by_cases h2:t.QI=2
   .have e1:=uH _ 1 h1
    have e2:=Bq _ 2 h2;have HL:=I (show Jl c.P (t::r)=some (.mk 3 t.QG 0 [])from amg (by unfold Np.fO;rw[if_neg h1,if_pos h2]));clear h1 h2;go_wp2_with fail
    refine(HS _ (HF.alloc _) 3 t.QG HK HX).mono ?_;rintro _ w2 ⟨b,rfl,aa,hp,hm⟩;have jK:=I aa;have jb:=I hp;have iI:=I as3;clear aa hp hm;unfold aG;go_wp2
    exact arj
   .by_cases h3:t.QI=3
    .have e1:=uH _ 1 h1
     have e2:=uH _ 2 h2;have e3:=Bq _ 3 h3;have HL:=I (show Jl c.P (t::r)=some (.mk 4 t.QG 0 [])from amg (by unfold Np.fO;rw[if_neg h1,if_neg h2,if_pos h3]));clear h1 h2 h3;go_wp2_with fail
     refine(HS _ (HF.alloc _) 4 t.QG HK HX).mono ?_;rintro _ w2 ⟨b,rfl,aa,hp,hm⟩;have jK:=I aa;have jb:=I hp;have iI:=I as3;clear aa hp hm;unfold aG;go_wp2
     exact arj
    .have ac:=I (show Np.fO t=none from by unfold Np.fO;rw[if_neg h1,if_neg h2,if_neg h3])
     have e1:=uH _ 1 h1;have e2:=uH _ 2 h2;have e3:=uH _ 3 h3;clear h1 h2 h3;have ad:=I (H.QH (HF.alloc (.cells #[V t.QI,S_ t.QG,V (t.from_:Int),V (t.eF:Int)] 131)));go_wp2_with fail
     have hf2:=HF.alloc (.cells #[V t.QI,S_ t.QG,V (t.from_:Int),V (t.eF:Int)] 131);have hb2:af (w1.alloc (.cells #[V t.QI,S_ t.QG,V (t.from_:Int),V (t.eF:Int)] 131)) w1.heap.size 131 #[V t.QI,S_ t.QG,V (t.from_:Int),V (t.eF:Int)]:=af.new _ _ _;generalize (w1.alloc (.cells #[V t.QI,S_ t.QG,V (t.from_:Int),V (t.eF:Int)] 131))=W2 at ad hf2 hb2|-;have bW:=I hf2;have HBK:=I hb2;obtain⟨p0,p1,p2,p3,_,_,_,_,hlt⟩:=af.QM hb2;have r0:=cR p0;have r1:=cR p1;obtain⟨ov2,ap,_⟩:=ad.box;have r5:=cR ((ap.cell 5).trans rfl);have hgx:=ap.lt;clear hf2 hb2 p0 p1 p2 p3 ap
     by_cases h6:t.QI=6
     .obtain⟨b,hb,hb1,hb2⟩:=HP.out h6
      have H6:=I (show(t.QI:Int)=6 by omega);have ab:=I (aoc (P:=c.P) ac h6 hb);rw[h6,show((6:Nat):Int)=6 from rfl]at r0;clear h6;rw[hb]at r1;unfold lV;have hbr:49<=b.toNat/\b.toNat<=57:=⟨UInt8.le_iff_toNat_le.1 hb1,UInt8.le_iff_toNat_le.1 hb2⟩;obtain⟨m,hm,aI⟩:∃m,b.toNat=m+48/\1<=m/\m<=9:=⟨b.toNat-48,by omega,by omega,by omega⟩;have e1':((b.toNat:Nat):Int)-48=(m:Int):=Zo
      have w1':IntKind.u8.wrap (m:Int)=(m:Int):=by
       exact IntWalk.u8_in _ Zo
      have wr:IntKind.i64.wrap (IntKind.u8.wrap ((b.toNat:Int)-48))=(m:Int):=by rw[e1',w1',IntWalk.i64_in _ (by omega)]
      have az:=I wr;clear e1' w1' hbr wr
      by_cases hle:b.toNat<=c.P+48
      .rw[if_pos hle]at ab
       have hwr:decide (IntKind.i64.wrap (IntKind.u8.wrap ((b.toNat:Int)-48))<=(c.P:Int))=true:=by rw[az.out];exact decide_eq_true Zo
       have ak9:IntKind.i64.wrap (IntKind.u8.wrap ((b.toNat:Int)-48))<=(c.P:Int):=of_decide_eq_true hwr;have am:=λW:W_=>run_string_add_lists (P:=Tryz.prog) W [35] [b] P9 P9
       rw[show([35]:List UInt8).toArray=#[35]from rfl,show([b]:List UInt8).toArray=#[b]from rfl,show([35]++[b]:List UInt8).toArray=#[35,b]from rfl]at am
       have ao:=I (show af W2 w1.heap.size 131 #[V 6,.string ⟨#[b]⟩,V (t.from_:Int),V (t.eF:Int)]from by
        have h:=HBK.out;rw[H6.out,hb]at h;exact h)
       clear hm aI hle;refine cu [] [(0,true),(1,true),(2,true),(3,true),(4,true),(5,true),(6,true),(7,true),(8,true),(9,true),(10,true),(11,true),(12,true),(13,true),(14,true),(15,true)] Pg Ph Pg ?_;refine EN ?_
       repeat(refine Z4 ?_)
       refine sj ?_;simp only[show∀h:0<(⟨#[b]⟩:Y_).size,(⟨#[b]⟩:Y_)[0]'h=b from λ_=>rfl,ak9,decide_true];clear r0 r1 r5;obtain⟨p0,p1,p2,p3,_,_,_,_,aR⟩:=af.QM (ao.drewN 1);go_wp2_with fail
       refine(HS _ (bW.drewN 1) 2 [35,b] HK aqY).mono ?_;rintro _ w2 ⟨b',rfl,aa,hp,hm⟩;have jK:=I aa;have jb:=I hp;have iI:=I ((Mp.QH (bW.drewN 1)).trans hm);clear aa hp hm;unfold aG;go_wp2
       go_ret2;exact .inl ⟨_,b',ab,rfl,jK.base (bW.drewN 1).size,jb,iI⟩
      .rw[if_neg hle]at ab
       have hwr:decide (IntKind.i64.wrap (IntKind.u8.wrap ((b.toNat:Int)-48))<=(c.P:Int))=false:=by rw[az.out];exact decide_eq_false Zo
       have ak9:¬(IntKind.i64.wrap (IntKind.u8.wrap ((b.toNat:Int)-48))<=(c.P:Int)):=of_decide_eq_false hwr;clear hm aI hle;refine cu [] [(0,true),(1,true),(2,true),(3,true),(4,true),(5,true),(6,true),(7,true),(8,true),(9,true),(10,true),(11,true),(12,true),(13,true),(14,true),(15,true)] Pg Ph Pg ?_;refine EN ?_
       repeat(refine Z4 ?_)
       refine sj ?_;go_wp2
       go_ret2;exact .inr ⟨ab,rfl,bW.drewN _⟩
     .have lg:=I (show Jl c.P (t::r)=none from aot ac h6)
      have e6:¬((t.QI:Int)=6):=Zo
      clear h6;refine cu [] [(0,true),(1,true),(2,true),(3,true),(4,true),(5,true),(6,true),(7,true),(8,true),(9,true),(10,true),(11,true),(12,true),(13,true),(14,true),(15,true)] Pg Ph Pg ?_;refine EN ?_
      repeat(refine Z4 ?_)
      refine sj ?_;go_wp2
      go_ret2;exact .inr ⟨lg,rfl,bW.drewN _⟩
end
end Go.Proofs.YtabjglnjjdcfmaaGreatDoor
