/- Part 24 of 41 of a proof. No condition. -/
import Derived.Test.YtabjglnjjdcfmaaGreatDoorWe23
import Derived.Test.YtabjglnjjdcfmaaGreatDoorWe2
set_option maxRecDepth 100000
set_option maxHeartbeats 4000000
namespace Go.Proofs.YtabjglnjjdcfmaaGreatDoor
open _root_.Array renaming getElem?_setIfInBounds_ne->avQ
open _root_.List renaming length_append->auZ,getElem?_cons_zero->avo,getElem?_cons_succ->avG,flatMap_cons->av0,getElem?_eq_getElem->ave
open _root_.Nat renaming le_trans->au2,le_refl->au3
open _root_.ByteArray renaming mk->awH
open _root_.Go.Proofs.Tryz
section
open Go.RowKit
theorem Ms:liesAt Tryz.prog Tryz.prog.depth 56 (3/Tryz.prog.cellsOf 56) 1 54 1=true:=Pg
theorem R5:(Tryz.prog.info? 131).map (λi=>(i.zero,i.size,i.bytes))=some (some (.agg #[V 0,E_,V 0,V 0]),4,40):=Pg
theorem yJ{P:Program}{ops:Array Oper}{o:Oper}{a:Act}{w:W_}{K:Act->W_->Prop}{Q:Exit->Act->W_->Prop}{E:Prop}
  (hg:o.guard=none) (s x:Operand) (t:TypeId) (hop:o.op=Op.call {callee:=Callee.builtin Builtin.append,args:=#[s,x],argTypes:=#[t,t]})
  (base:Nat) (e:TypeId) (i:TypeInfo) (z:Value) (size bytes:Nat) (ht:P.underlying t=some (.slice e)) (hi:P.info? e=some i) (hz:i.zero=some z)
  (hsize:i.size=size) (hby:i.bytes=bytes) (hzs:z.cells.size=size) (hsz:0<size)
  (v:Value) (n:Nat) (xs:List Value) (hs:a.eval s=v) (hown:w.ownsRow base e size v n xs)
  (ad:Addr) (m c:Nat) (news:List Value) (hx:a.eval x=.slice (some ad) m c) (hl:news.length=m*size) (hnews:∀j u,news[j]?=some u->w.cell? (ad.add j)=some u) (h1:∀u∈news,u.oneCell'=true)
  (h63:n+m<=maxLen) (hbytes:(n+m)*bytes<=140737488355328) (hbase:base<=w.heap.size)
  (h:∀v' w',w'.ownsRow base e size v' (n+m) (xs++news)->w.grownBy w' v.ownBlock->K (a.put o.dst v') w'):
  if Region.wanted o (yielded ops a.tmps)=true then Oper.wp P o a w K Q else E:=by
 have hw:Region.wanted o (yielded ops a.tmps)=true:=by simp[Region.wanted,hg]
 rw[if_pos hw];exact wp_append_own w s x t hop base e i z size bytes ht hi hz hsize hby hzs hsz v n xs hs hown ad m c news hx hl hnews h1 h63 hbytes hbase λv' w' h2 h3 _=>h v' w' h2 h3
def zn(QT:List Lx.aB)(t:Lx.Tok):Bool:=match QT.getLast? with|none=>false|some x=>Lx.join (Lx.tok x) t
def NH(QT:List Lx.aB)(t:Lx.Tok):List UInt8:=if zn QT t then [32]else []
def added(QT:List Lx.aB)(D9:List UInt8)(t:Lx.Tok):List Lx.aB:=QT++[⟨t.QI,t.QG,(D9++NH QT t).length,(D9++NH QT t++Lx.spell t).length⟩]
theorem R6{W w':W_}{p B n:Nat}{vt vb v':Value}{cs:Array Value}{QT:List Lx.aB}{D9:List UInt8}{xs:List Value}{o:Obj}(h:Pr W p B vt vb cs QT D9)(ho:w'.ownsRow B 131 4 v' (n+1) xs)(hg:((W.alloc o).drew).grownBy w' vt.ownBlock):
  ∃g cap,v'=.slice (A_ g 0) (n+1) cap/\w'.cell? (B_ p 0)=some vt/\w'.frozen? (B_ p 0)=false/\Hd (Touch (λk=>vt.ownBlock=some k) W w')/\Hd (w'.ownsRow B 131 4 v' (n+1) xs):=by
 obtain⟨g,cap,hv⟩:∃g cap,v'=.slice (A_ g 0) (n+1) cap:=by
  rcases ho.2 with⟨_,h0⟩|⟨g,cap,cur,hv,_⟩
  .omega
  .exact⟨g,cap,hv⟩
 have ht:Touch (λk=>vt.ownBlock=some k) W w':=(((M (λk=>vt.ownBlock=some k) W).alloc o).drew).grown hg (λg hg=>.inl hg)
 have hp:vt.ownBlock≠some p:=λe=>by
  obtain⟨h1,_⟩:=fe h.own e;have:=h.lt;omega
 have hb:=ht.QN h.dW.QN hp;exact⟨g,cap,hv,(hb.cell 0).trans h.tok,hb.frozen 0,ht,ho⟩
theorem Pr.appended{W w':W_}{p B:Nat}{vt vb v':Value}{cs:Array Value}{QT:List Lx.aB}{D9:List UInt8}{x:Lx.aB}(h:Pr W p B vt vb cs QT D9)(ht:Touch (λk=>vt.ownBlock=some k) W w')
  (ho:w'.ownsRow B 131 4 v' (QT.length+1) (QT.flatMap iO++iO x)):Pr (w'.setCell (B_ p 0) v') p B v' vb (cs.setIfInBounds 0 v') (QT++[x]) D9/\Touch (PS p B W) W (w'.setCell (B_ p 0) v'):=by
 have hsz:=h.size;have hlt:=h.lt
 have hp:vt.ownBlock≠some p:=λe=>by
  obtain⟨h1,_⟩:=fe h.own e;omega
 have hv:∀k,v'.ownBlock=some k->k≠p:=λk e=>by
  have:=(ho.lt k e).1;omega
 have hb:=ht.QN h.dW.QN hp
 have ac:w'.ownsRow B 5 1 vb D9.length (Lib.byteCells D9):=aQ h.dW.own ht λk hk hs=>by
  obtain⟨_,cur,h2⟩:=fe h.dW.own hk;obtain⟨_,cur',h3⟩:=fe h.own hs;rw[h2]at h3;simp at h3
 have aa:=(M (λk=>k=p) w').setCell (p:=B_ p 0) Wh v';refine⟨⟨hlt,⟨hb.put 0 v',?_,?_,aQ ac aa (λk hk hs=>h.dW.ne (hs▸hk)),h.dW.ne,h.dW.J7⟩,by simp[hsz],by rw[Array.getElem?_setIfInBounds_self_of_lt (by omega)],?_⟩,?_⟩
 .rw[avQ (by decide)];exact h.dW.addr
 .rw[avQ (by decide)];exact h.dW.buf
 .have e:(QT++[x]).flatMap iO=QT.flatMap iO++iO x:=by simp
  rw[auZ,e];exact aQ ho aa (λk hk hs=>hv k hk hs)
 .have h1:Touch (PS p B W) W w':=ht.mono λk hk=>by
   obtain⟨h1,cur,h2⟩:=fe h.own hk;exact .inr ⟨h1,cur,_,_,h2,.inl rfl⟩
  exact h1.setCell (p:=B_ p 0) auk v'
theorem Cr{W:W_}{g:Nat}{t:TypeId}{cs:Array Value}(h:af W g t cs):∀j u,cs.toList[j]?=some u->W.cell? (((B_ g 0):Addr).add j)=some u:=by
 exact at1
theorem Dm(k:Int)(t:List UInt8):(Lx.gB k t).length<=2*t.length+6:=by
 unfold Lx.gB;have:=Lx.aem t
 repeat' split
 .simp[Lx.zO];omega
 .simp;omega
 .simp;omega
 .simp;omega
 .omega
theorem aaH{w:W_}{p B:Nat}{vt vb:Value}{cs:Array Value}{D9:List UInt8}(h:Pr w p B vt vb cs [] D9)(k:Nat)(t:List UInt8)(hB:B<=w.heap.size)(hl:D9.length<=2000000)(ht:t.length<=2000000):
  C_ 97 #[.pointer (A_ p 0),V (k:Int),S_ t] w λe w'=>e=.returned (.tuple #[])/\
   ∃R7 F9 cs',Pr w' p B R7 F9 cs' (added [] D9 ⟨k,t⟩) (D9++NH [] ⟨k,t⟩++Lx.spell ⟨k,t⟩)/\Touch (PS p B w) w w':=by
 obtain⟨i0,hi,hz0,hz1,hz2⟩:=info_parts R5;have ak:=h.dW.QN.lt
 obtain⟨A,cap,rfl⟩:∃A cap,vt=.slice A 0 cap:=by
  rcases h.own.2 with⟨h1,h2⟩|⟨g,cap,cur,h1,_⟩
  .exact⟨none,0,h1⟩
  .exact asI
 have q0:w.cell? (B_ p 0)=some (.slice A 0 cap):=(h.dW.QN.cell 0).trans h.tok;have HP:=I h;clear h;go_enter func97,ntmps97;go_wp2
 go_quiet (fail)
 go_wp2_with fail
 refine(y8 (HP.QH (((M _ w).alloc _).drewN _)).dW).mono ?_;rintro _ _ ⟨rfl,rfl⟩;go_wp2_with fail
 refine bK (λW=>ag w W/\af W w.heap.size 131 #[V (k:Int),S_ t,V (D9.length:Int),V 0]) ⟨(((M _ w).alloc _).drewN _).setCell ET _,((af.new w 131 _).drewN _).put 2 _⟩ ?_;rintro W4 ⟨jf,hb4⟩;have Eo:=HP.QH jf;obtain⟨r0,r1,r2,r3,_,_,_,_,hg4⟩:=af.QM hb4;have g0:=cR r0;have g1:=cR r1;have g2:=cR r2;have g3:=cR r3;have C1:=I (PI (λw=>(Gx k ⟨t.toArray⟩ D9.length 0 w ar0:C_ 133 _ w λe w'=>e=.returned (S_ (Lx.gB k t))/\ag w w')) W4);have eZ:=I jf;have iB:=I hb4;have AP:=I Eo;clear jf hb4 Eo q0;refine oP [([0,1,2,3,4],5)] [] Pg Pg ?_;simp only[vR,pick,avo,avG]
 repeat(quiet_step (with_reducible exact C1.out _ _))
 refine wpQuiet_nil ?_;rintro W5 ⟨⟨_,_⟩,vz⟩;have jO:ag W4 W5:=ag7
 have jM:=AP.QH jO;have al:=jO.QN iB PR;have eY:=I jO;clear vz jO g0 g1 g2 g3 r0 r1 r2 r3;have ab:=Dm k t;have RP:B<=W5.heap.size:=au2 hB (au2 eZ.size eY.size);have hne:w.heap.size≠p:=Zo
 have OM:=I (uL jM.dW jM.lt (by rw[jM.size];exact Ms) ⟨(Lx.gB k t).toArray⟩ (by show D9.length+(Lx.gB k t).toArray.size<=_;simp;omega) RP);have wN:=I jM;have eO:=I al;clear jM al;go_wp2_with fail
 refine OM.mono ?_;rintro _ w6 ⟨rfl,OO,aw,jq⟩;have yY:=wN.wrote aw jq;have Il:Touch (PS p B w) w w6:=PS.bG (eZ.trans eY) (PS.dW wN jq);have Im:=jq.QN eO (λhs=>hs.elim (λh=>hne h) (λh=>wN.Bf eO Pf h));have Io:=I yY;have Ip:=I Il;have Iq:=I Im;clear aw jq yY Il Im OM;go_wp2_with fail
 refine wpQuiet_nil ?_;rintro W7 ⟨⟨_,_⟩,Ir⟩;have gX:ag w6 W7:=asD
 have pg:=I (Io.QH gX);have iC:=I (PS.Am Ip gX);have gy:=I (gX.QN Iq PR);clear Ir gX Io Ip Iq;go_wp2_with fail
 refine(y8 pg.dW).mono ?_;rintro _ _ ⟨rfl,rfl⟩;obtain⟨r0,r1,r2,r3,z0,z1,z2,z3,ay⟩:=af.QM gy;go_wp2_with fail
 refine bK (λW=>∃cs',Pr W p B (.slice A 0 cap) OO cs' [] (D9++(Lx.gB k t))/\af W w.heap.size 131 #[V (k:Int),S_ t,V (D9.length:Int),V ((D9.length:Int)+((Lx.gB k t).length:Int))]/\Touch (PS p B w) w W) ⟨_,pg.Ke (S:=λk=>k=w.heap.size) (Touch.setCell (S:=λk=>k=w.heap.size) afD (p:=B_ w.heap.size 3) Wh _) (λh=>hne h.symm) (λk hk h=>by have:=HP.ahn k hk;omega) (λk hk h=>pg.Bf gy Pf (h▸hk)),gy.put 3 _,iC.setCell (p:=B_ w.heap.size 3) ET _⟩ ?_;rintro W8 ⟨cs8,um,o9,bR⟩;have p0:W8.cell? (B_ p 0)=some (.slice A 0 cap):=(um.dW.QN.cell 0).trans um.tok;have pz:W8.frozen? (B_ p 0)=false:=um.dW.QN.frozen 0;obtain⟨s0,s1,s2,s3,_,_,_,_,jI⟩:=af.QM o9;have AQ:=I um;have lT:=I o9;have Cb:=I bR;have Mt:=I um.own;have agl:=um.dW.QN.lt;have am:B<=W8.heap.size:=auB
 clear um o9 bR r0 r1 r2 r3 z0 z1 z2 z3 pg gy iC;obtain⟨qN,ah⟩:∃qN:Int,(D9.length:Int)+((Lx.gB k t).length:Int)=qN:=⟨_,rfl⟩;rw[ah]at s3;have ac:=I (λ(o:Obj) (ho:o=.cells #[V (k:Int),S_ t,V (D9.length:Int),V qN] 131)=>ho▸Cr (W:=(W8.alloc o).drew) (g:=W8.heap.size) (t:=131) (cs:=#[V (k:Int),S_ t,V (D9.length:Int),V qN]) (ho▸(af.new W8 131 _)))
 go_region_law (refine yJ rfl (.tmp 56) (.tmp 58) 50 rfl B 131 i0 _ 4 40 underlying50 hi hz0 hz1 hz2 rfl Pf (.slice A 0 cap) 0 [] WH ((Mt.alloc _).drew) (B_ W8.heap.size 0) 1 1 [V (k:Int),S_ t,V (D9.length:Int),V qN] WH rfl (ac _ rfl) Z_ Pf Pf ary ?_;intro v9 w9 yX jA;obtain⟨g9,agm,rfl,c9,z9,lS,ar⟩:=R6 AQ yX jA;clear yX jA)
 all_goals
  go_end0
  obtain⟨aj,ai⟩:=AQ.appended (x:=⟨k,t,D9.length,(D9++Lx.gB k t).length⟩) lS (by
   have:=ar.out;rw[<-ah]at this;simpa[iO]using this)
  have e1:D9++NH [] ⟨k,t⟩++Lx.spell ⟨k,t⟩=D9++Lx.gB k t:=by simp[NH,zn,Lx.spell]
  have e2:added [] D9 ⟨k,t⟩=[]++[⟨k,t,D9.length,(D9++Lx.gB k t).length⟩]:=by
   unfold added;rw[e1];simp[NH,zn]
  rw[e1,e2];exact as2
theorem U1{W:W_}{B:Nat}{v:Value}{ts:List Lx.aB}(h:W.ownsRow B 131 4 v ts.length (ts.flatMap iO))(i:Nat)(hi:i<ts.length):
  ∃g cap,v=.slice (A_ g 0) ts.length cap/\B<=g/\g<W.heap.size/\∀j u,(iO ts[i])[j]?=some u->W.cell? (B_ g (4*i+j))=some u:=by
 rcases h.2 with⟨_,h0⟩|⟨g,cap,cur,hv,hB,r⟩
 .omega
 .subst hv
  refine⟨g,cap,rfl,hB,(h.lt g rfl).2,λj u hu=>?_⟩;have aa:=h.cells (g:=g) rfl (4*i+j) u ?_
  .rw[Addr.add_mid,Nat.zero_add]at aa;exact aa
  .have hj:j<4:=by have:=(List.getElem?_eq_some_iff.1 hu).1;simpa[iO]using this
   clear h r
   induction ts generalizing i with
   |nil=>simp at hi
   |cons x l ih=>
    cases i with
    |zero=>rw[av0,List.getElem?_append_left (by simp[iO];omega)];simpa using hu
    |succ i=>
     rw[av0,List.getElem?_append_right (by simp[iO];omega)];have:=ih i am5 (by simpa using hu);rw[<-this];congr 1;simp[iO];omega
theorem aaI{W W':W_}{x:Lx.aB}{g i:Nat}(h:∀j u,(iO x)[j]?=some u->W.cell? (B_ g (4*i+j))=some u)(ht:ag W W'):
  W'.cell? (B_ g (i*4))=some (V x.QI)/\W'.cell? (B_ g (i*4+1))=some (S_ x.QG)/\W'.cell? (B_ g (i*4+2))=some (V x.from_)/\W'.cell? (B_ g (i*4+3))=some (V x.eF):=by
 rw[Nat.mul_comm i 4];exact⟨ht.cell (h 0 _ rfl) PR,ht.cell (h 1 _ rfl) PR,ht.cell (h 2 _ rfl) PR,ht.cell (h 3 _ rfl) PR⟩
theorem agn{QT:List Lx.aB}{y:Lx.aB}{m k:Nat}{t:List UInt8}{j:Bool}(hm:QT.length=m+1)(hy:QT[m]?=some y)(hj:rE (y.QI:Int) (k:Int) (awH t.toArray).data.toList=j):NH QT ⟨k,t⟩=if j then [32]else []:=by
 have e0:QT.getLast?=some y:=by rw[List.getLast?_eq_getElem?,hm];exact hy
 have e2:∀a n:Nat,((a:Int)==(n:Int))=(a==n):=λa n=>by rw[Bool.eq_iff_iff];simp;omega
 have e1:zn QT ⟨k,t⟩=j:=by
  rw[<-hj];unfold zn;rw[e0];unfold rE;have a1:((y.QI:Int)==2)=(y.QI==2):=e2 y.QI 2;have a2:((k:Int)==2)=(k==2):=e2 k 2;have a3:((y.QI:Int)==4)=(y.QI==4):=e2 y.QI 4;have a4:((k:Int)==1)=(k==1):=e2 k 1;rw[a1,a2,a3,a4];rfl
 unfold NH;rw[e1]
theorem ac1{w:W_}{p B:Nat}{vt vb:Value}{cs:Array Value}{D9:List UInt8}{QT:List Lx.aB}{y:Lx.aB}{m:Nat}(hm:QT.length=m+1)(hy:QT[m]?=some y)(h:Pr w p B vt vb cs QT D9)(k:Nat)(t:List UInt8)(hB:B<=w.heap.size)(hl:D9.length<=2000000)(ht:t.length<=2000000)(hn:m<=2000000):
  C_ 97 #[.pointer (A_ p 0),V (k:Int),S_ t] w λe w'=>e=.returned (.tuple #[])/\
   ∃R7 F9 cs',Pr w' p B R7 F9 cs' (added QT D9 ⟨k,t⟩) (D9++NH QT ⟨k,t⟩++Lx.spell ⟨k,t⟩)/\Touch (PS p B w) w w':=by
 obtain⟨i0,hi,hz0,hz1,hz2⟩:=info_parts R5;have ak:=h.dW.QN.lt;obtain⟨A,cap,ax,au,hA2,ad⟩:=U1 h.own m Zo;have ey:QT[m]' Zo=y:=by rw[ave (by omega)]at hy;simpa using hy
 rw[ey]at ad;rw[hm]at ax;subst ax;have q0:w.cell? (B_ p 0)=some (.slice (A_ A 0) (m+1) cap):=(h.dW.QN.cell 0).trans h.tok;have hA:A≠p:=by have:=h.lt;omega
 have HP:=I h;have HC:=I ad;clear h ad;go_enter func97,ntmps97;go_wp2_with fail
 refine bK (λW=>ag w W/\af W w.heap.size 131 #[V (k:Int),S_ t,V 0,V 0]) ⟨(aq4),((af.new w 131 _))⟩ ?_;rintro W1 ⟨ae,hb1⟩;have q1:=ae.cell q0 PR;obtain⟨u0,u1,u2,u3⟩:=aaI (i:=m) HC ae;obtain⟨r0,r1,r2,r3,_,_,_,_,hg1⟩:=af.QM hb1;have g0:=cR r0;have g1:=cR r1;have g2:=cR r2;have g3:=cR r3;have k0:=cR u0;have k1:=cR u1;have k2:=cR u2;have k3:=cR u3;have kq:=cR q1;have d1:((m:Int)+1-1)=(m:Int):=Zo
 have d2:IntKind.i64.wrap (m:Int)=(m:Int):=IntWalk.i64_in _ Zo;have d3:(m:Int)<(m:Int)+1:=Zo
 have C1:=I (PI (λw=>YS y.QI y.from_ y.eF k 0 0 ⟨y.QG.toArray⟩ ⟨t.toArray⟩ w) W1);obtain⟨j,hj⟩:∃j,rE (y.QI:Int) (k:Int) (awH t.toArray).data.toList=j:=⟨_,rfl⟩;rw[hj]at C1;have Iu:=I (HP.QH ae);have aK:=I ae;have aC:=I hb1;clear ae hb1 q0;refine wp_region_quiet_below Pg Pg ?_
 repeat(quiet_step (with_reducible exact C1.out _ _))
 refine wpQuiet_nil ?_;rintro W2 ⟨⟨_,_⟩,hW2⟩;have hf2:ag W1 W2:=by rw[hW2];exact aZ SX
 have jb:=I (Iu.QH hf2);have aq:=I (hf2.QN aC PR);have ao:=I (PS.QH (p:=p) (B:=B) (aK.trans hf2));have Yb:=agn hm hy hj;obtain⟨kM,an⟩:∃kM,D9++NH QT ⟨k,t⟩=kM:=⟨_,rfl⟩;have aU:B<=W2.heap.size:=by have:=ao.size;omega
 have hne:w.heap.size≠p:=Zo
 clear hW2 hf2 g0 g1 g2 g3 k0 k1 k2 k3 kq r0 r1 r2 r3 u0 u1 u2 u3 q1 hg1 C1 Iu aC aK hj d1 d2 d3;cases j
 .rw[Yb]at an
  have Kc:D9=kM:=by simpa using an
  rw[Kc]at jb;have aQ:kM.length<=2000001:=by rw[<-Kc];omega
  have R8:=jb;have Ep:=aq;have az:=ao;obtain⟨Wa,hWa⟩:∃Wa,W2=Wa:=⟨_,rfl⟩;subst hWa;obtain⟨vba,aa⟩:∃v,vb=v:=⟨_,rfl⟩;subst aa;go_wp2_with fail
  refine(y8 R8.dW).mono ?_;rintro _ _ ⟨rfl,rfl⟩;obtain⟨r0,r1,r2,r3,z0,z1,z2,z3,hg2⟩:=af.QM Ep;go_wp2_with fail
  refine bK (λW=>∃cs',Pr W p B (.slice (A_ A 0) (m+1) cap) vb cs' QT kM/\af W w.heap.size 131 #[V (k:Int),S_ t,V (kM.length:Int),V 0]/\Touch (PS p B w) w W) ⟨_,R8.Ke (S:=λk=>k=w.heap.size) (Touch.setCell (S:=λk=>k=w.heap.size) afD (p:=B_ w.heap.size 2) Wh _) (λh=>hne h.symm) aiv (λk hk h=>R8.Bf Ep Pf (h▸hk)),Ep.put 2 _,az.setCell (p:=B_ w.heap.size 2) ET _⟩ ?_;rintro W4 ⟨cs4,Eo,hb4,fA⟩;clear r0 r1 r2 r3 z0 z1 z2 z3;obtain⟨r0,r1,r2,r3,_,_,_,_,hg4⟩:=af.QM hb4;have g0:=cR r0;have g1:=cR r1;have g2:=cR r2;have g3:=cR r3;have C1:=I (PI (λw=>(Gx k ⟨t.toArray⟩ kM.length 0 w ar0:C_ 133 _ w λe w'=>e=.returned (S_ (Lx.gB k t))/\ag w w')) W4);have nU:=I fA;have iB:=I hb4;have AP:=I Eo;clear fA hb4 Eo;refine oP [([0,1,2,3,4],5)] [] Pg Pg ?_;simp only[vR,pick,avo,avG]
  repeat(quiet_step (with_reducible exact C1.out _ _))
  refine wpQuiet_nil ?_;rintro W5 ⟨⟨_,_⟩,vz⟩;have jO:ag W4 W5:=ag7
  have jM:=AP.QH jO;have al:=jO.QN iB PR;have jU:=PS.Am nU jO;clear vz jO g0 g1 g2 g3 r0 r1 r2 r3;have ab:=Dm k t;have RP:B<=W5.heap.size:=au2 hB jU.size;have OM:=I atT;have wN:=I jM;have eO:=I al;have iW:=I jU;clear jM al jU;go_wp2_with fail
  refine OM.mono ?_;rintro _ w6 ⟨rfl,OO,aw,jq⟩;have yY:=wN.wrote aw jq;have Il:Touch (PS p B w) w w6:=PS.trans iW (PS.dW wN jq);have Im:=jq.QN eO (λhs=>hs.elim (λh=>hne h) (λh=>wN.Bf eO Pf h));have Io:=I yY;have Ip:=I Il;have Iq:=I Im;clear aw jq yY Il Im OM;go_wp2_with fail
  refine wpQuiet_nil ?_;rintro W7 ⟨⟨_,_⟩,Ir⟩;have gX:ag w6 W7:=asD
  have pg:=I (Io.QH gX);have iC:=I (PS.Am Ip gX);have gy:=I (gX.QN Iq PR);clear Ir gX Io Ip Iq;go_wp2_with fail
  refine(y8 pg.dW).mono ?_;rintro _ _ ⟨rfl,rfl⟩;obtain⟨r0,r1,r2,r3,z0,z1,z2,z3,ay⟩:=af.QM gy;go_wp2_with fail
  refine bK (λW=>∃cs',Pr W p B (.slice (A_ A 0) (m+1) cap) OO cs' QT (kM++(Lx.gB k t))/\af W w.heap.size 131 #[V (k:Int),S_ t,V (kM.length:Int),V ((kM.length:Int)+((Lx.gB k t).length:Int))]/\Touch (PS p B w) w W) ⟨_,pg.Ke (S:=λk=>k=w.heap.size) (Touch.setCell (S:=λk=>k=w.heap.size) afD (p:=B_ w.heap.size 3) Wh _) (λh=>hne h.symm) aiv (λk hk h=>pg.Bf gy Pf (h▸hk)),gy.put 3 _,iC.setCell (p:=B_ w.heap.size 3) ET _⟩ ?_;rintro W8 ⟨cs8,um,o9,bR⟩;have p0:W8.cell? (B_ p 0)=some (.slice (A_ A 0) (m+1) cap):=(um.dW.QN.cell 0).trans um.tok;have pz:W8.frozen? (B_ p 0)=false:=um.dW.QN.frozen 0;obtain⟨s0,s1,s2,s3,_,_,_,_,jI⟩:=af.QM o9;have AQ:=I um;have lT:=I o9;have Cb:=I bR;have Mt:=I (hm▸um.own:W8.ownsRow B 131 4 _ (m+1) _);have agl:=um.dW.QN.lt;have am:B<=W8.heap.size:=auB
  clear um o9 bR r0 r1 r2 r3 z0 z1 z2 z3 pg gy iC;obtain⟨qN,ah⟩:∃qN:Int,(kM.length:Int)+((Lx.gB k t).length:Int)=qN:=⟨_,rfl⟩;rw[ah]at s3;have ac:=I (λ(o:Obj) (ho:o=.cells #[V (k:Int),S_ t,V (kM.length:Int),V qN] 131)=>ho▸Cr (W:=(W8.alloc o).drew) (g:=W8.heap.size) (t:=131) (cs:=#[V (k:Int),S_ t,V (kM.length:Int),V qN]) (ho▸(af.new W8 131 _)));have hmx:maxLen=9223372036854775807:=rfl
  go_region_law (refine yJ rfl (.tmp 56) (.tmp 58) 50 rfl B 131 i0 _ 4 40 underlying50 hi hz0 hz1 hz2 rfl Pf (.slice (A_ A 0) (m+1) cap) (m+1) _ WH ((Mt.alloc _).drew) (B_ W8.heap.size 0) 1 1 [V (k:Int),S_ t,V (kM.length:Int),V qN] WH rfl (ac _ rfl) Z_ Zo Zo ary ?_;intro v9 w9 yX jA;obtain⟨g9,agm,rfl,c9,z9,lS,ar⟩:=R6 AQ yX jA;clear yX jA)
  all_goals
   go_end0
   obtain⟨aj,ai⟩:=AQ.appended (x:=⟨k,t,kM.length,(kM++Lx.gB k t).length⟩) lS (by
    have:=ar.out;rw[<-ah]at this;rw[hm];simpa[iO]using this)
   unfold added;rw[Yb];rw[an];exact as2
 .rw[Yb]at an
  have Kc:D9++[32]=kM:=by simpa using an
  have aQ:kM.length<=2000001:=by rw[<-Kc];simp;omega
  have aA:=I (iP jb.dW (by rw[jb.size];exact Ms) 32 32 rfl Zo aU);go_wp2_with fail
  refine aA.mono ?_;rintro _ W3 ⟨rfl,vb3,hb3,ap⟩;have av:=jb.wrote hb3 ap;rw[Kc]at av;have R8:=I av;have az:=I (PS.trans ao (PS.dW jb ap));have Ep:=I (ap.QN aq (λhs=>hs.elim (λh=>hne h) (λh=>jb.Bf aq Pf h)));clear hb3 ap av aA jb aq ao;go_wp2_with fail
  refine(y8 R8.dW).mono ?_;rintro _ _ ⟨rfl,rfl⟩;obtain⟨r0,r1,r2,r3,z0,z1,z2,z3,hg2⟩:=af.QM Ep;go_wp2_with fail
  refine bK (λW=>∃cs',Pr W p B (.slice (A_ A 0) (m+1) cap) vb3 cs' QT kM/\af W w.heap.size 131 #[V (k:Int),S_ t,V (kM.length:Int),V 0]/\Touch (PS p B w) w W) ⟨_,R8.Ke (S:=λk=>k=w.heap.size) (Touch.setCell (S:=λk=>k=w.heap.size) afD (p:=B_ w.heap.size 2) Wh _) (λh=>hne h.symm) aiv (λk hk h=>R8.Bf Ep Pf (h▸hk)),Ep.put 2 _,az.setCell (p:=B_ w.heap.size 2) ET _⟩ ?_;rintro W4 ⟨cs4,Eo,hb4,fA⟩;clear r0 r1 r2 r3 z0 z1 z2 z3;obtain⟨r0,r1,r2,r3,_,_,_,_,hg4⟩:=af.QM hb4;have g0:=cR r0;have g1:=cR r1;have g2:=cR r2;have g3:=cR r3;have C1:=I (PI (λw=>(Gx k ⟨t.toArray⟩ kM.length 0 w ar0:C_ 133 _ w λe w'=>e=.returned (S_ (Lx.gB k t))/\ag w w')) W4);have nU:=I fA;have iB:=I hb4;have AP:=I Eo;clear fA hb4 Eo;refine oP [([0,1,2,3,4],5)] [] Pg Pg ?_;simp only[vR,pick,avo,avG]
  repeat(quiet_step (with_reducible exact C1.out _ _))
  refine wpQuiet_nil ?_;rintro W5 ⟨⟨_,_⟩,vz⟩;have jO:ag W4 W5:=ag7
  have jM:=AP.QH jO;have al:=jO.QN iB PR;have jU:=PS.Am nU jO;clear vz jO g0 g1 g2 g3 r0 r1 r2 r3;have ab:=Dm k t;have RP:B<=W5.heap.size:=au2 hB jU.size;have OM:=I atT;have wN:=I jM;have eO:=I al;have iW:=I jU;clear jM al jU;go_wp2_with fail
  refine OM.mono ?_;rintro _ w6 ⟨rfl,OO,aw,jq⟩;have yY:=wN.wrote aw jq;have Il:Touch (PS p B w) w w6:=PS.trans iW (PS.dW wN jq);have Im:=jq.QN eO (λhs=>hs.elim (λh=>hne h) (λh=>wN.Bf eO Pf h));have Io:=I yY;have Ip:=I Il;have Iq:=I Im;clear aw jq yY Il Im OM;go_wp2_with fail
  refine wpQuiet_nil ?_;rintro W7 ⟨⟨_,_⟩,Ir⟩;have gX:ag w6 W7:=asD
  have pg:=I (Io.QH gX);have iC:=I (PS.Am Ip gX);have gy:=I (gX.QN Iq PR);clear Ir gX Io Ip Iq;go_wp2_with fail
  refine(y8 pg.dW).mono ?_;rintro _ _ ⟨rfl,rfl⟩;obtain⟨r0,r1,r2,r3,z0,z1,z2,z3,ay⟩:=af.QM gy;go_wp2_with fail
  refine bK (λW=>∃cs',Pr W p B (.slice (A_ A 0) (m+1) cap) OO cs' QT (kM++(Lx.gB k t))/\af W w.heap.size 131 #[V (k:Int),S_ t,V (kM.length:Int),V ((kM.length:Int)+((Lx.gB k t).length:Int))]/\Touch (PS p B w) w W) ⟨_,pg.Ke (S:=λk=>k=w.heap.size) (Touch.setCell (S:=λk=>k=w.heap.size) afD (p:=B_ w.heap.size 3) Wh _) (λh=>hne h.symm) aiv (λk hk h=>pg.Bf gy Pf (h▸hk)),gy.put 3 _,iC.setCell (p:=B_ w.heap.size 3) ET _⟩ ?_;rintro W8 ⟨cs8,um,o9,bR⟩;have p0:W8.cell? (B_ p 0)=some (.slice (A_ A 0) (m+1) cap):=(um.dW.QN.cell 0).trans um.tok;have pz:W8.frozen? (B_ p 0)=false:=um.dW.QN.frozen 0;obtain⟨s0,s1,s2,s3,_,_,_,_,jI⟩:=af.QM o9;have AQ:=I um;have lT:=I o9;have Cb:=I bR;have Mt:=I (hm▸um.own:W8.ownsRow B 131 4 _ (m+1) _);have agl:=um.dW.QN.lt;have am:B<=W8.heap.size:=auB
  clear um o9 bR r0 r1 r2 r3 z0 z1 z2 z3 pg gy iC;obtain⟨qN,ah⟩:∃qN:Int,(kM.length:Int)+((Lx.gB k t).length:Int)=qN:=⟨_,rfl⟩;rw[ah]at s3;have ac:=I (λ(o:Obj) (ho:o=.cells #[V (k:Int),S_ t,V (kM.length:Int),V qN] 131)=>ho▸Cr (W:=(W8.alloc o).drew) (g:=W8.heap.size) (t:=131) (cs:=#[V (k:Int),S_ t,V (kM.length:Int),V qN]) (ho▸(af.new W8 131 _)));have hmx:maxLen=9223372036854775807:=rfl
  go_region_law (refine yJ rfl (.tmp 56) (.tmp 58) 50 rfl B 131 i0 _ 4 40 underlying50 hi hz0 hz1 hz2 rfl Pf (.slice (A_ A 0) (m+1) cap) (m+1) _ WH ((Mt.alloc _).drew) (B_ W8.heap.size 0) 1 1 [V (k:Int),S_ t,V (kM.length:Int),V qN] WH rfl (ac _ rfl) Z_ Zo Zo ary ?_;intro v9 w9 yX jA;obtain⟨g9,agm,rfl,c9,z9,lS,ar⟩:=R6 AQ yX jA;clear yX jA)
  all_goals
   go_end0
   obtain⟨aj,ai⟩:=AQ.appended (x:=⟨k,t,kM.length,(kM++Lx.gB k t).length⟩) lS (by
    have:=ar.out;rw[<-ah]at this;rw[hm];simpa[iO]using this)
   unfold added;rw[Yb];rw[an];exact as2
theorem ae8{w:W_}{p B:Nat}{vt vb:Value}{cs:Array Value}{D9:List UInt8}{QT:List Lx.aB}(h:Pr w p B vt vb cs QT D9)(k:Nat)(t:List UInt8)(hB:B<=w.heap.size)(hl:D9.length<=2000000)(ht:t.length<=2000000)(hn:QT.length<=2000000):
  C_ 97 #[.pointer (A_ p 0),V (k:Int),S_ t] w λe w'=>e=.returned (.tuple #[])/\
   ∃R7 F9 cs',Pr w' p B R7 F9 cs' (added QT D9 ⟨k,t⟩) (D9++NH QT ⟨k,t⟩++Lx.spell ⟨k,t⟩)/\Touch (PS p B w) w w':=by
 cases he:QT.length with
 |zero=>
  have e0:QT=[]:=List.length_eq_zero_iff.1 he;subst e0;exact aaH h k t hB hl ht
 |succ m=>
  have hlt:m<QT.length:=Zo
  exact ac1 he (ave hlt) h k t hB hl ht Zo
end
section
def YT:List Lx.Tok->List Lx.aB->List UInt8->List Lx.aB×List UInt8
 |[],QT,D9=>(QT,D9)
 |t::l,QT,D9=>YT l (added QT D9 t) (D9++NH QT t++Lx.spell t)
theorem zo:∀(l m:List Lx.Tok) (QT:List Lx.aB) (D9:List UInt8),YT (l++m) QT D9=YT m (YT l QT D9).1 (YT l QT D9).2
 |[],_,_,_=>rfl
 |t::l,m,QT,D9=>by
  show YT (l++m) _ _=_;rw[zo l m];rfl
theorem VP:∀(l:List Lx.Tok) (QT:List Lx.aB) (D9:List UInt8),YT l QT D9=(QT++Lx.placed D9.length (Tr.uI (QT.getLast?.map Lx.tok) l),D9++Lx.flat (Tr.uI (QT.getLast?.map Lx.tok) l))
 |[],QT,D9=>by simp[YT,Tr.uI,Lx.placed,Lx.flat]
 |t::l,QT,D9=>by
  have hs:Tr.uI (QT.getLast?.map Lx.tok) (t::l)=(NH QT t,t)::Tr.uI (some t) l:=by
   unfold NH zn;cases QT.getLast?<;>rfl
  have e1:(added QT D9 t).getLast?.map Lx.tok=some t:=by simp[added,Lx.tok]
  show YT l (added QT D9 t) (D9++NH QT t++Lx.spell t)=_;rw[VP l,e1,hs];simp[added,Lx.placed,Lx.flat,Nat.add_assoc]
theorem Yc(l:List Lx.Tok):YT l [] []=(Lx.placed 0 (Tr.uI none l),Tr.xU l):=by
 rw[VP];rfl
end
section
open Go.RowKit
def au(w w':W_)(p B:Nat)(QT:List Lx.aB)(D9:List UInt8)(l:List Lx.Tok):Prop:=
 ∃R7 F9 cs',Pr w' p B R7 F9 cs' (YT l QT D9).1 (YT l QT D9).2/\Touch (PS p B w) w w'
theorem au.app{a b c:W_}{p B:Nat}{QT:List Lx.aB}{D9:List UInt8}{l m:List Lx.Tok}(h:au a b p B QT D9 l)(k:au b c p B (YT l QT D9).1 (YT l QT D9).2 m):au a c p B QT D9 (l++m):=by
 obtain⟨_,_,_,_,ht⟩:=h;obtain⟨vt,vb,cs,hp,ht'⟩:=k;rw[<-zo]at hp;exact⟨vt,vb,cs,hp,PS.trans ht ht'⟩
theorem add_one{w:W_}{p B:Nat}{vt vb:Value}{cs:Array Value}{D9:List UInt8}{QT:List Lx.aB}(h:Pr w p B vt vb cs QT D9)(k:Nat)(t:List UInt8)(hB:B<=w.heap.size)(hl:D9.length<=2000000)(ht:t.length<=2000000)(hn:QT.length<=2000000):
  C_ 97 #[.pointer (A_ p 0),V (k:Int),S_ t] w λe w'=>e=.returned (.tuple #[])/\au w w' p B QT D9 [⟨k,t⟩]:=
 ae8 h k t hB hl ht hn
theorem aaJ{w:W_}{p B:Nat}{vt vb:Value}{cs:Array Value}{D9:List UInt8}{QT:List Lx.aB}(h:Pr w p B vt vb cs QT D9)(t:List UInt8)(hB:B<=w.heap.size)(hl:D9.length<=2000000)(ht:t.length<=2000000)(hn:QT.length<=2000000):
  C_ 99 #[.pointer (A_ p 0),S_ t] w λe w'=>e=.returned (.tuple #[])/\au w w' p B QT D9 [⟨7,t⟩]:=by
 have H:=I (add_one h 7 t hB hl ht hn);clear h;go_enter func99,ntmps99;go_wp2_with fail
 refine H.mono ?_;rintro _ w1 ⟨rfl,h1⟩;have H1:=I h1;clear h1;go_wp2_with fail
 go_end0
 exact⟨rfl,H1⟩
theorem au.bG{a b c:W_}{p B:Nat}{QT:List Lx.aB}{D9:List UInt8}{l:List Lx.Tok}(hf:ag a b)(k:au b c p B QT D9 l):au a c p B QT D9 l:=by
 obtain⟨vt,vb,cs,hp,ht'⟩:=k;exact⟨vt,vb,cs,hp,PS.bG hf ht'⟩
theorem aaK{w:W_}{p B:Nat}{vt vb:Value}{cs:Array Value}{D9:List UInt8}{QT:List Lx.aB}(h:Pr w p B vt vb cs QT D9)(x c:Value)(kd:Value)(t:List UInt8)(hB:B<=w.heap.size)(hl:D9.length<=2000000)(ht:t.length<=2000000)(hn:QT.length<=2000000):
  C_ 59 #[.pointer (A_ p 0),.agg #[kd,S_ t,c,x]] w λe w'=>e=.returned (.tuple #[])/\au w w' p B QT D9 [⟨2,t⟩]:=by
 have hf:∀o,ag w (w.alloc o):=λo=>(M _ w).alloc o
 have H:=I (λo=>add_one (h.QH (hf o)) 2 t at0 hl ht hn);clear h;go_enter func59,ntmps59;go_wp2_with fail
 refine(H _).mono ?_;rintro _ w1 ⟨rfl,h1⟩;have H1:=I (au.bG (hf _) h1);clear h1;go_wp2_with fail
 go_end0
 exact⟨rfl,H1⟩
theorem aaL{w:W_}{p B:Nat}{vt vb:Value}{cs:Array Value}{D9:List UInt8}{QT:List Lx.aB}(h:Pr w p B vt vb cs QT D9)(x c:Value)(kd:Value)(t:List UInt8)(hB:B<=w.heap.size)(hl:D9.length<=2000000)(ht:t.length<=2000000)(hn:QT.length<=2000000):
  C_ 60 #[.pointer (A_ p 0),.agg #[kd,S_ t,c,x]] w λe w'=>e=.returned (.tuple #[])/\au w w' p B QT D9 [⟨3,t⟩]:=by
 have hf:∀o,ag w (w.alloc o):=λo=>(M _ w).alloc o
 have H:=I (λo=>add_one (h.QH (hf o)) 3 t at0 hl ht hn);clear h;go_enter func60,ntmps60;go_wp2_with fail
 refine(H _).mono ?_;rintro _ w1 ⟨rfl,h1⟩;have H1:=I (au.bG (hf _) h1);clear h1;go_wp2_with fail
 go_end0
 exact⟨rfl,H1⟩
theorem aaM{w:W_}{p B:Nat}{vt vb:Value}{cs:Array Value}{D9:List UInt8}{QT:List Lx.aB}(h:Pr w p B vt vb cs QT D9)(x c:Value)(kd:Value)(t:List UInt8)(hB:B<=w.heap.size)(hl:D9.length<=2000000)(ht:t.length<=2000000)(hn:QT.length<=2000000):
  C_ 58 #[.pointer (A_ p 0),.agg #[kd,S_ t,c,x]] w λe w'=>e=.returned (.tuple #[])/\au w w' p B QT D9 [⟨if t.length=1 then 1 else 4,t⟩]:=by
 have hf:∀o,ag w (w.alloc o):=λo=>(M _ w).alloc o
 have H:=I (λk o=>add_one (h.QH (hf o)) k t at0 hl ht hn);clear h;have hsz:(awH t.toArray).size=t.length:=by show t.toArray.size=_;simp
 by_cases h1:t.length=1
 .have d1:((awH t.toArray).size:Int)=1:=by omega
  have HE:=I (if_pos h1:(if t.length=1 then 1 else 4)=(1:Nat));rw[HE.out];clear h1;go_enter func58,ntmps58;go_wp2_with fail
  refine(H 1 _).mono ?_;rintro _ w1 ⟨rfl,h1⟩;have H1:=I (au.bG (hf _) h1);clear h1;go_wp2_with fail
  go_end0
  exact⟨rfl,H1⟩
 .have d1:(((awH t.toArray).size:Int)==1)=false:=by simp;omega
  have d2:¬((awH t.toArray).size:Int)=1:=Zo
  have HE:=I (if_neg h1:(if t.length=1 then 1 else 4)=(4:Nat));rw[HE.out];clear h1;go_enter func58,ntmps58;go_wp2_with fail
  refine(H 4 _).mono ?_;rintro _ w1 ⟨rfl,h1⟩;have H1:=I (au.bG (hf _) h1);clear h1;go_wp2_with fail
  go_end0
  exact⟨rfl,H1⟩
structure ay(W0:W_)(p B:Nat)(w:W_)(QT:List Lx.aB)(D9:List UInt8):Prop where
 low:Low W0 w
 hp:W0.heap.size<=p
 hB:B<=w.heap.size
 pr:∃vt vb cs,Pr w p B vt vb cs QT D9
theorem ay.lt{W0:W_}{p B:Nat}{w:W_}{QT:List Lx.aB}{D9:List UInt8}(h:ay W0 p B w QT D9):p<B:=by
 obtain⟨_,_,_,h⟩:=h.pr;exact h.lt
theorem PS.low{W0:W_}{p B:Nat}{w w':W_}(hl:Low W0 w)(hp:W0.heap.size<=p)(hB:p<B)(ht:Touch (PS p B w) w w'):Low W0 w':=
 hl.trans' ht λk hk=>.inl (by
  rcases hk with rfl|⟨h,_⟩
  .exact hp
  .omega)
theorem ay.add{W0:W_}{p B:Nat}{w w':W_}{QT:List Lx.aB}{D9:List UInt8}{l:List Lx.Tok}(h:ay W0 p B w QT D9)(k:au w w' p B QT D9 l):ay W0 p B w' (YT l QT D9).1 (YT l QT D9).2:=by
 obtain⟨vt,vb,cs,hp,ht⟩:=k;exact⟨PS.low h.low h.hp h.lt ht,h.hp,au2 h.hB ht.size,vt,vb,cs,hp⟩
theorem ay.jS{W0:W_}{p B:Nat}{w w':W_}{QT:List Lx.aB}{D9:List UInt8}{l m:List Lx.Tok}(h:ay W0 p B w (YT l QT D9).1 (YT l QT D9).2)(k:au w w' p B (YT l QT D9).1 (YT l QT D9).2 m):ay W0 p B w' (YT (l++m) QT D9).1 (YT (l++m) QT D9).2:=by
 rw[zo];exact h.add k
theorem ay.QH{W0:W_}{p B:Nat}{w w':W_}{QT:List Lx.aB}{D9:List UInt8}(h:ay W0 p B w QT D9)(hf:ag w w'):ay W0 p B w' QT D9:=by
 obtain⟨vt,vb,cs,hp⟩:=h.pr;exact⟨h.low.QH hf,h.hp,au2 h.hB hf.size,vt,vb,cs,hp.QH hf⟩
def Fits(l:List Lx.Tok)(QT:List Lx.aB)(D9:List UInt8):Prop:=(YT l QT D9).1.length<=2000000/\(YT l QT D9).2.length<=2000000
theorem Iw:∀(l:List Lx.Tok) (QT:List Lx.aB) (D9:List UInt8),QT.length<=(YT l QT D9).1.length/\D9.length<=(YT l QT D9).2.length
 |[],_,_=>⟨au3 _,au3 _⟩
 |t::l,QT,D9=>by
  have:=Iw l (added QT D9 t) (D9++NH QT t++Lx.spell t);simp only[YT,added,auZ,List.length_singleton]at this|-;omega
theorem Fits.left{l m:List Lx.Tok}{QT:List Lx.aB}{D9:List UInt8}(h:Fits (l++m) QT D9):Fits l QT D9:=by
 unfold Fits at h|-;rw[zo]at h;have:=Iw m (YT l QT D9).1 (YT l QT D9).2;omega
theorem Fits.right{l m:List Lx.Tok}{QT:List Lx.aB}{D9:List UInt8}(h:Fits (l++m) QT D9):Fits m (YT l QT D9).1 (YT l QT D9).2:=by
 unfold Fits at h|-;rw[zo]at h;exact h
theorem Fits.ni{k l m:List Lx.Tok}{QT:List Lx.aB}{D9:List UInt8}(h:Fits (l++m) (YT k QT D9).1 (YT k QT D9).2):Fits m (YT (k++l) QT D9).1 (YT (k++l) QT D9).2:=by
 rw[zo];exact h.right
theorem Fits.start{l:List Lx.Tok}{QT:List Lx.aB}{D9:List UInt8}(h:Fits l QT D9):QT.length<=2000000/\D9.length<=2000000:=by
 unfold Fits at h;have:=Iw l QT D9;omega
theorem ac2(t:Lx.Tok):t.QG.length<=(Lx.spell t).length:=Lx.VX _ _
theorem Fits.one{t:Lx.Tok}{QT:List Lx.aB}{D9:List UInt8}(h:Fits [t] QT D9):t.QG.length<=2000000:=by
 unfold Fits at h;simp only[YT,auZ]at h;have:=ac2 t;omega
def lC(f:Nat)(args:Array Value)(W0:W_)(p B:Nat)(l:List Lx.Tok):Prop:=
 ∀(w:W_) (QT:List Lx.aB) (D9:List UInt8),ay W0 p B w QT D9->Fits l QT D9->C_ f args w λe w'=>e=.returned (.tuple #[])/\au w w' p B QT D9 l
abbrev pp(p:Nat):Value:=.pointer (A_ p 0)
theorem Cs(W0:W_)(p B k:Nat)(t:List UInt8):lC 97 #[pp p,V (k:Int),S_ t] W0 p B [⟨k,t⟩]:=by
 intro w QT D9 h hf;obtain⟨vt,vb,cs,hp⟩:=h.pr;exact add_one hp k t h.hB hf.start.2 hf.one hf.start.1
theorem lu(W0:W_)(p B:Nat)(t:List UInt8):lC 99 #[pp p,S_ t] W0 p B [⟨7,t⟩]:=by
 intro w QT D9 h hf;obtain⟨vt,vb,cs,hp⟩:=h.pr;exact aaJ hp t h.hB hf.start.2 hf.one hf.start.1
theorem aaN(W0:W_)(p B:Nat)(n:Tr.Nd)(sl:Value):lC 59 #[pp p,nv n sl] W0 p B [⟨2,n.QG⟩]:=by
 intro w QT D9 h hf;obtain⟨vt,vb,cs,hp⟩:=h.pr;exact aaK hp _ _ _ n.QG h.hB hf.start.2 hf.one hf.start.1
theorem aaO(W0:W_)(p B:Nat)(n:Tr.Nd)(sl:Value):lC 60 #[pp p,nv n sl] W0 p B [⟨3,n.QG⟩]:=by
 intro w QT D9 h hf;obtain⟨vt,vb,cs,hp⟩:=h.pr;exact aaL hp _ _ _ n.QG h.hB hf.start.2 hf.one hf.start.1
theorem aaP(W0:W_)(p B:Nat)(n:Tr.Nd)(sl:Value):lC 58 #[pp p,nv n sl] W0 p B [⟨if n.QG.length=1 then 1 else 4,n.QG⟩]:=by
 intro w QT D9 h hf;obtain⟨vt,vb,cs,hp⟩:=h.pr;exact aaM hp _ _ _ n.QG h.hB hf.start.2 hf.one hf.start.1
def xm(W0:W_)(p B:Nat)(n:Tr.Nd):Prop:=∀sl,aD W0 n.Qx sl->lC 16 #[pp p,nv n sl] W0 p B (Tr.bC n.Qx)
def Ct(W0:W_)(p B:Nat)(n:Tr.Nd):Prop:=∀sl,aD W0 n.Qx sl->lC 101 #[pp p,nv n sl] W0 p B ([Tr.aI 123]++(Tr.bC n.Qx++[Tr.aI 125]))
def qZ(W0:W_)(p B:Nat)(n:Tr.Nd):Prop:=∀sl,aD W0 n.Qx sl->lC 98 #[pp p,nv n sl] W0 p B (Tr.dD n)
end
end Go.Proofs.YtabjglnjjdcfmaaGreatDoor
