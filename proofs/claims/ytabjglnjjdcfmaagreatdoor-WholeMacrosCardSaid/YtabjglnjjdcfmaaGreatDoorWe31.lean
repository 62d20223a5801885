/- Part 31 of 41 of a proof. No condition. -/
import Derived.Laws.CopyOwn
import Derived.Laws.MakeOwn
import Derived.Test.YtabjglnjjdcfmaaGreatDoorWe30
set_option maxRecDepth 100000
set_option maxHeartbeats 4000000
namespace Go.Proofs.YtabjglnjjdcfmaaGreatDoor
open _root_.List renaming length_append->auZ,length_cons->au0,map_append->avx,map_cons->avg,map_nil->avI,length_nil->ava,find?_cons->awg
open _root_.Nat renaming zero_add->au8,le_refl->au3
open _root_.Go.World renaming setCell->auX
open _root_.Go.Proofs.Tryz
section
open Go.RowKit
open Tr (Nd)
theorem anJ{α:Type}{L:List α}{m:Nat}(h:L.length=m+1):∃M x,L=M++[x]/\M.length=m:=by
 rcases List.eq_nil_or_concat L with rfl|⟨M,x,rfl⟩
 .cases h
 .refine⟨M,x,List.concat_eq_append,?_⟩
  rw[List.concat_eq_append,auZ]at h;simpa using h
open Classical in
noncomputable def least (R:Nat→Prop):Nat:=Classical.epsilon fun m=>R m∧∀k,R k→m≤k
theorem anl{R:Nat->Prop}{m:Nat}(h:R m):∃m,R m/\∀k,R k->m<=k:=by
 induction m using Nat.strongRecOn with
 |_ m ih=>
  by_cases h2:∃k,k<m/\R k
  .obtain⟨k,hk,hr⟩:=h2
   exact ih k hk hr
  .exact⟨m,h,λk hr=>by
    rcases Nat.lt_or_ge k m with h3|h3
    .exact absurd ⟨k,h3,hr⟩ h2
    .exact h3⟩
theorem amh{R:Nat->Prop}{m:Nat}(h:R m):R (least R):=(Classical.epsilon_spec (anl h)).1
theorem least_le{R:Nat->Prop}{m:Nat}(h:R m):least R<=m:=(Classical.epsilon_spec (anl h)).2 m h
theorem Xe(a b:List Nd):Tr.az (a++b)=Tr.az a+Tr.az b:=by
 induction a with
 |nil=>rw[List.nil_append,Tr.az];omega
 |cons x a ih=>rw[List.cons_append,Tr.az,Tr.az,ih];omega
theorem am0(w:W_)(ty:TypeId)(g n dCap sCap:Nat)(ad:Addr)(cur:Array Value)(hg:af w g 31 cur)(ahI:cur.size=n*4)(cs:List Value)(hcs:cs.length=n*4)
  (ab:∀j v,cs[j]?=some v->w.cell? (ad.add j)=some v) (h1:∀v∈cs,v.oneCell'=true):
  ∃w',(Builtin.copy_ #[29,29] ty #[.slice (A_ g 0) n dCap,.slice (some ad) n sCap]).run Tryz.prog w=.ok (V (n:Int)) w'/\af w' g 31 cs.toArray/\Touch (λk=>k=g) w w':=by
 obtain⟨i,hi,hz0,hz1,hz2⟩:=info_parts o_;have hl:=run_loadCells_list (P:=Tryz.prog) w ad cs ab;have hst:=run_storeCells_at Tryz.prog g 0 31 cs 0 cur w hg Zo h1
 have hrow:w.setRow g (cur.toList.take (0+0)++cs++cur.toList.drop (0+0+cs.length)).toArray=w.setRow g cs.toArray:=by
  have:cur.toList.drop cs.length=[]:=List.drop_eq_nil_of_le WN;simp[this]
 rw[hrow]at hst;rw[hcs]at hl;refine⟨w.setRow g cs.toArray,?_,setRow_heap w g cur _ _ _ hg,⟨rfl,rfl,rfl,by simp[World.setRow],λk hk hn=>setRow_other w g k _ hn⟩⟩;simp[Result.andThen,Builtin.copy_,run_underlying underlying29,Builtin.lenOf,Builtin.firstCells,sizeOf,typeInfo,hi,hz1,hl,hst]
 rfl
theorem anz(w:W_)(ty:TypeId)(A:Option Addr)(c:Nat):(Builtin.copy_ #[29,29] ty #[N_,.slice A 0 c]).run Tryz.prog w=.ok (V 0) w:=by
 obtain⟨i,hi,hz0,hz1,hz2⟩:=info_parts o_;have hl:∀(x:Addr),(loadCells x 0).run Tryz.prog w=.ok #[] w:=λx=>by simpa using run_loadCells_list (P:=Tryz.prog) w x [] P9
 cases A<;>simp[Builtin.copy_,run_underlying underlying29,Builtin.lenOf,Builtin.firstCells,sizeOf,typeInfo,hi,hl]<;>rfl
def alx(sl:Nat->Value):Nat->List Nd->List Value
 |_,[]=>[]
 |i,y::ys=>V y.QI::S_ y.QG::V y.ah::sl i::alx sl (i+1) ys
theorem amO(sl:Nat->Value):∀(i:Nat) (ks:List Nd),(alx sl i ks).length=ks.length*4
 |_,[]=>rfl
 |i,y::ys=>by simp only[alx,au0,amO sl (i+1) ys];omega
theorem amP{sl:Nat->Value}:∀(i:Nat) (ks:List Nd),(∀j,j<ks.length->(sl (i+j)).oneCell'=true)->∀u∈alx sl i ks,u.oneCell'=true
 |_,[],_,u,hu=>by cases hu
 |i,y::ys,h,u,hu=>by
  simp only[alx,List.mem_cons]at hu
  rcases hu with rfl|rfl|rfl|rfl|hu
  .rfl
  .rfl
  .rfl
  .exact h 0 P9
  .exact amP (i+1) ys (λj hj=>by have:=h (j+1) (by simpa using hj);rwa [show i+(j+1)=i+1+j by omega]at this) u hu
theorem amQ(sl:Nat->Value):∀(i:Nat) (ks:List Nd) (j:Nat) (hj:j<ks.length),(alx sl i ks)[j*4]?=some (V ks[j].QI)/\(alx sl i ks)[j*4+1]?=some (S_ ks[j].QG)/\(alx sl i ks)[j*4+2]?=some (V ks[j].ah)/\(alx sl i ks)[j*4+3]?=some (sl (i+j))
 |_,[],j,hj=>by simp at hj
 |i,y::ys,0,_=>⟨rfl,rfl,rfl,rfl⟩
 |i,y::ys,j+1,hj=>by
  obtain⟨h0,h1,h2,h3⟩:=amQ sl (i+1) ys j (by simpa using hj)
  have e:∀d,(alx sl i (y::ys))[(j+1)*4+d]?=(alx sl (i+1) ys)[j*4+d]?:=λd=>by
   rw[show(j+1)*4+d=(j*4+d)+4 by omega];rfl
  refine⟨(e 0).trans h0,(e 1).trans h1,(e 2).trans h2,(e 3).trans ?_⟩;rw[h3,show i+1+j=i+(j+1) by omega]
theorem amR{W:W_}{g:Nat}{sl:Nat->Value}:∀(ks:List Nd) (i f:Nat),(∀j (hj:j<ks.length),W.cell? (B_ g (f+j*4))=some (V ks[j].QI)/\W.cell? (B_ g (f+j*4+1))=some (S_ ks[j].QG)/\W.cell? (B_ g (f+j*4+2))=some (V ks[j].ah)/\W.cell? (B_ g (f+j*4+3))=some (sl (i+j)))->
  ∀j u,(alx sl i ks)[j]?=some u->W.cell? (B_ g (f+j))=some u
 |[],_,_,_,j,u,hu=>by simp[alx]at hu
 |y::ys,i,f,h,j,u,hu=>by
  obtain⟨h0,h1,h2,h3⟩:=h 0 P9;simp only[List.getElem_cons_zero,Nat.zero_mul,Nat.add_zero]at h0 h1 h2 h3
  match j,hu with
  |0,hu=>cases hu;exact h0
  |1,hu=>cases hu;exact h1
  |2,hu=>cases hu;exact h2
  |3,hu=>cases hu;exact h3
  |j+4,hu=>
   have:=amR (W:=W) (g:=g) (sl:=sl) ys (i+1) (f+4) (λk hk=>by
    have h:=h (k+1) (by simpa using hk);rw[show i+(k+1)=i+1+k by omega,show f+(k+1)*4=f+4+k*4 by omega]at h;exact h) j u hu
   rwa [show f+4+j=f+(j+4) by omega]at this
theorem alF.top{w0 w:W_}{M:List (Nd×Addr)}{x:Nd}{p:Addr}{A:Option Addr}{m cp:Nat}(h:alF w0 w (M++[(x,p)]) (.slice A (m+1) cp))(hm:M.length=m):m+1<=cp/\∃s,A=A_ s 0/\s<w.heap.size/\w.cell? (B_ s m)=some (.pointer (some p))/\alF w0 w M (.slice A m cp):=by
 unfold alF at h;rw[avx,auZ,hm]at h;simp only[avg,avI,au0,ava,au8]at h
 rcases h.2 with⟨hv,_⟩|⟨s,cap,cur,hv,_,_,hc,_⟩
 .cases hv
 .cases hv
  have hcell:=h.cells (g:=s) rfl m (.pointer (some p)) (by rw[List.getElem?_append_right (by simp;omega)];simp[hm]);rw[Addr.add_mid,au8]at hcell;refine⟨hc,s,rfl,(h.lt s rfl).2,hcell,?_⟩;unfold alF;rw[hm];exact Yg h
theorem alF.mv{w0 w w':W_}{L:List (Nd×Addr)}{v:Value}{S:Nat->Prop}(h:alF w0 w L v)(ht:Touch S w w')(hS:∀k,S k->∀cs,¬af w k 97 cs):alF w0 w' L v:=
 aQ h ht λk hk hs=>by
  obtain⟨_,cur,h2⟩:=fe h hk;exact hS k hs cur h2
theorem aD.parts{W:W_}{ks:List Nd}{v:Value}(h:aD W ks v)(hne:ks≠[]):∃(g f cap:Nat) (sl:Nat->Value),v=.slice (A_ g f) ks.length cap/\g<W.heap.size/\ks.length<=maxLen/\
  ∀i (hi:i<ks.length),ks[i].QG.length<=maxLen/\W.cell? (B_ g (f+i*4))=some (V ks[i].QI)/\W.cell? (B_ g (f+i*4+1))=some (S_ ks[i].QG)/\
   W.cell? (B_ g (f+i*4+2))=some (V ks[i].ah)/\W.cell? (B_ g (f+i*4+3))=some (sl i)/\aD W ks[i].Qx (sl i):=by
 cases h with
 |nil A cap=>exact absurd rfl hne
 |row g f cap _ sl hg hl ht h0 h1 h2 h3 hk=>exact⟨g,f,cap,sl,rfl,hg,hl,λi hi=>⟨ht i hi,h0 i hi,h1 i hi,h2 i hi,h3 i hi,hk i hi⟩⟩
theorem aoe:(Tryz.prog.info? 97).map (λi=>(i.zero,i.size,i.bytes))=some (some (.pointer none),1,8):=Pg
def am1(w0:W_)(n:Nd)(v:Value)(wr:W_)(m:Nat):Prop:=∃(L:List (Nd×Addr)) (A:Option Addr) (k cp:Nat),v=.slice A k cp/\L.length=k/\Cpy w0 n wr L/\alF w0 wr L (.slice A k cp)/\Tr.az (L.map Prod.fst)=m/\m<=1000000
noncomputable def amJ (w0:W_) (n:Nd) (v:Value) (wr:W_):Nat:=least (am1 w0 n v wr)
def apI(n:Nd)(w:W_)(e:Ending)(w':W_):Prop:=∃sl,e=.returned (nv n sl)/\aP w.heap.size w' n.Qx sl/\ag w w'
theorem amr(n:Nd)(sl:Value)(w:W_)(ar:Tr.count n<=1000000)(hr:aD w n.Qx sl):C_ 42 #[nv n sl] w (apI n w):=by
 obtain⟨A0,c0,ab⟩:=hr.slice;subst ab
 have ae:=I (show am1 w n (.slice (A_ (w.heap.size+1+1) 0) 1 1) (((w.alloc (.cells #[V n.QI,S_ n.QG,V n.ah,.slice A0 n.Qx.length c0] 31)).alloc (.cells ZN 31)).alloc (.cells #[.pointer (A_ w.heap.size 0)] 97)) (Tr.count n)from by
  have hs1:(w.alloc (.cells #[V n.QI,S_ n.QG,V n.ah,.slice A0 n.Qx.length c0] 31)).heap.size=w.heap.size+1:=P9
  have hb0:=(af.new w 31 #[V n.QI,S_ n.QG,V n.ah,.slice A0 n.Qx.length c0]).alloc (.cells ZN 31)|>.alloc (.cells #[.pointer (A_ w.heap.size 0)] 97)
  have hb1:=(af.new2 w (.cells #[V n.QI,S_ n.QG,V n.ah,.slice A0 n.Qx.length c0] 31) 31 ZN).alloc (.cells #[.pointer (A_ w.heap.size 0)] 97);have hf:ag w (((w.alloc (.cells #[V n.QI,S_ n.QG,V n.ah,.slice A0 n.Qx.length c0] 31)).alloc (.cells ZN 31)).alloc (.cells #[.pointer (A_ w.heap.size 0)] 97)):=(((M _ w).alloc _).alloc _).alloc _;refine⟨[(n,(B_ w.heap.size 0))],_,1,1,rfl,rfl,⟨hf,⟨A0,c0,hb0,.wait _ _ _ P9 hr⟩,hb1,λx hx=>?_,by simp⟩,?_,by simp[Tr.az],ar⟩
  .obtain rfl:=List.mem_singleton.1 hx
   exact⟨rfl,au3 _,(by show w.heap.size≠_;omega),_,A0,c0,hb0,rfl,hr⟩
  .unfold alF
   have:=World.ownsRow_lit (base:=w.heap.size) (e:=97) (size:=1) ((w.alloc (.cells #[V n.QI,S_ n.QG,V n.ah,.slice A0 n.Qx.length c0] 31)).alloc (.cells ZN 31)) #[.pointer (A_ w.heap.size 0)] 1 WN vG P9;simpa using this)
 clear hr ar;unfold nv;go_enter func42,ntmps42;go_wp2_with fail
 generalize (((w.alloc (.cells #[V n.QI,S_ n.QG,V n.ah,.slice A0 n.Qx.length c0] 31)).alloc (.cells ZN 31)).alloc (.cells #[.pointer (A_ w.heap.size 0)] 97))=W1 at ae|-
 go_loopw [3] (λv av=>∃(wr:W_) (m:Nat),wr=av/\Hd (am1 w n v wr m)) (λv wr=>amJ w n v wr)
 case atStart=>exact⟨_,_,rfl,ae⟩
 case round=>
  clear ae;obtain⟨wr,m0,rfl,amb⟩:=hrel;obtain⟨L,A,k,cp,rfl,hlen,aw,aj,hm,amc⟩:=amh amb.out;have AJ:=I amc;cases k with
  |zero=>
   have d1:decide ((0:Int)<(0:Int))=false:=Pf
   obtain⟨Ab,cb,aA,ai⟩:=aw.box;obtain⟨p0,p1,p2,p3,_,_,_,_,hl0⟩:=af.QM aA;obtain⟨q0,q1,q2,q3,z0,z1,z2,z3,aQ⟩:=af.QM aw.res;have ow:=I aw.res;rw[List.length_eq_zero_iff.1 hlen,avI]at ai;have yB:=I ai;have aT:=I aw.fr;clear amb hlen aw aj hm amc aA ai;go_wp2_with fail
   have n1:=ow.gH (V n.QI) (S_ n.QG) (V n.ah) (.slice Ab n.Qx.length cb);have hf:=aT.aO (g:=w.heap.size+1) Ls (V n.QI) (S_ n.QG) (V n.ah) (.slice Ab n.Qx.length cb);simp only[aO]at n1 hf;obtain⟨g0,g1,g2,g3,_⟩:=af.QM n1
   (try simp only[Exit.inBlock,Exit.then])
   refine bodyPost_ret (v:=.agg #[V n.QI,S_ n.QG,V n.ah,.slice Ab n.Qx.length cb]) (by simp[results,results42,go_sem,g0,g1,g2,g3]) rfl ?_;have ht:=(M (λk=>k=w.heap.size+1) wr).aO Wh (V n.QI) (S_ n.QG) (V n.ah) (.slice Ab n.Qx.length cb);simp only[aO]at ht;exact⟨_,rfl,(yB.mv ht (λk hk=>.inl Zo)).done rfl,hf⟩
  |succ m=>
   obtain⟨M8,⟨x,p⟩,rfl,hM⟩:=anJ hlen;obtain⟨aC,s,rfl,hs,hc,ape⟩:=aj.top hM;obtain⟨hsp,ak,aov,cs,Ax,cx,hb,ab,aF⟩:=aw.it (x,p) P9;obtain⟨pb,po,sp⟩:=p;simp only at hsp ak aov hb ab aF hc;subst hsp;have aJ:=I aw;have F8:=I ape;have aV:=I hb;have yD:=I ab;have al:=I aF;have JX:=I hM;have aR:=I (And.intro ak aov)
   have apf:Tr.az (M8.map Prod.fst)+Tr.az x.Qx+1<=1000000:=by
    exact arT
   have apg:=I apf
   have aG:=I (show Tr.az (M8.map Prod.fst)+Tr.az x.Qx+1=amJ w n (.slice (A_ s 0) (m+1) cp) wr by
    rw[avx,Xe]at hm;simp only[avg,avI,Tr.az,Tr.aN]at hm;unfold amJ;omega)
   have aH:amJ w n (.slice (A_ s 0) (m+1) cp) wr<=1000000:=amc;have aM:=Tr.jF x.Qx;have am:=Tr.jF (M8.map Prod.fst);rw[List.length_map,hM]at am;have au:=I (show x.Qx.length<=1000000/\m<=1000000/\m+x.Qx.length<=1000000 by have:=aG.out;omega);obtain⟨q,hq⟩:∃q,q=x.Qx.length:=⟨_,rfl⟩;have HQ:=I hq;rw[<-hq]at yD al au ab aF;have ay:=au.out.1;have aU:=au.out.2.1;have y3:wr.cell? (B_ pb (po+3))=some (.slice Ax q cx):=by rw[hb.cell];exact ab
   have z3:wr.frozen? (B_ pb (po+3))=false:=hb.frozen _;have hpl:pb<wr.heap.size:=hb.lt
   have aY:=I (show s≠pb from λe=>by
    subst e;have h1:=F8.out;obtain⟨_,cur,h2⟩:=fe h1 rfl;unfold af at hb;rw[hb]at h2;cases h2)
   have d1:decide ((0:Int)<((m+1:Nat):Int))=true:=dT Zo;have aE:decide ((0:Int)<(m:Int)+1)=true:=dT Zo;have jo:decide (0<m+1)=true:=dT Zo;have w1:IntKind.i64.wrap (m:Int)=(m:Int):=IntWalk.i64_in _ Zo;have w2:(m:Int)+1-1=(m:Int):=Zo
   have w3:(m:Int)<(m:Int)+1:=Zo
   have w5:(m:Int)<=(cp:Int):=Zo
   have w6:m<=cp:=Zo
   clear amb hlen aw aj hm amc hM ape ak aov hb ab aF hq aH aM am aC AJ apf;have Xm:q=0\/0<q:=Zo
   rcases Xm with rfl|aP
   focus
    have e1:decide ((0:Int)<(0:Int))=false:=Pf
    have anQ:=λW:W_=>anz W 3 Ax cx
    have hx0:x.Qx=[]:=List.length_eq_zero_iff.1 HQ.symm;have ad:Touch (λk=>k=pb) wr (wr.setCell (B_ pb (po+3)) (N_)):=(M (λk=>k=pb) wr).setCell (p:=B_ pb (po+3)) Wh (N_)
    have QF:=I (show Cpy w n (wr.setCell (B_ pb (po+3)) (N_)) M8 by
     have h:=Cpy.step (p:=B_ pb po) aJ.out aV.out (by rw[hx0];exact yD.out) (by rw[hx0,ava,<-hx0];exact al.out) (aV.put (po+3) (N_)) ad (g:=0) (ds:=#[]) (cap:=0) (sl:=λ_=>.nilFunc) (.inl ⟨hx0,rfl⟩);rw[hx0]at h;simpa[als]using h)
    have an:=I (show alF w (wr.setCell (B_ pb (po+3)) (N_)) M8 (.slice (A_ s 0) m cp)from F8.mv ad λk hk cs' h=>by subst hk;exact absurd (aV.inj h).1 Pf);have Zi:=I (show Tr.az (M8.map Prod.fst)+1=amJ w n (.slice (A_ s 0) (m+1) cp) wr by have h:=aG.out;rw[hx0,Tr.az]at h;omega);have aL:=I (show Tr.az (M8.map Prod.fst)<=1000000 by have:=apg.out;omega);clear hx0 ad;go_wp2_with fail
    clear y3 z3 hpl hc hs d1 aE jo w1 w2 w3 w5 w6 anQ e1;generalize (wr.setCell (B_ pb (po+3)) (N_))=W3 at QF an|-;have ao2:=I (show am1 w n (.slice (A_ s 0) m cp) W3 (Tr.az (M8.map Prod.fst))from⟨M8,_,m,cp,rfl,JX.out,QF.out,an.out,rfl,aL.out⟩)
    go_loopw [3,49] (λa i av=>∃wr':W_,wr'=av/\Hd (am1 w n (.slice (A_ s 0) m cp) wr' (Tr.az (M8.map Prod.fst)))/\a=.slice (A_ s 0) m cp/\i=V 0) (λ_ _ _=>0)
    case atStart=>exact⟨_,rfl,ao2,rfl,rfl⟩
    case round=>
     clear QF an ao2;obtain⟨wr',rfl,al1,rfl,rfl⟩:=hrel;have d1:decide ((0:Int)<(0:Int))=false:=Pf
     go_wp2
     go_roundw
     case rel=>exact⟨_,_,rfl,al1⟩
     case measure=>
      have h1:amJ w n (.slice (A_ s 0) m cp) wr'<=Tr.az (M8.map Prod.fst):=least_le al1.out;have h2:=Zi.out;omega
   focus
    have e1:decide ((0:Int)<(q:Int))=true:=dT Zo;have e1n:decide (0<q)=true:=dT aP;have e2:(0:Int)<(q:Int):=Zo
    have hmk:∀W:W_,(Instr.makeSlice 29 (V (q:Int)) (V (q:Int))).run Tryz.prog W=.ok (.slice (A_ W.heap.size 0) q q) (W.alloc (.cells (madeCells ZN (q*4)) 31)):=λW=>by
     obtain⟨i,hi,hz0,hz1,hz2⟩:=info_parts o_;have h:=run_make (P:=Tryz.prog) W 29 31 i _ underlying29 hi hz0 .i64 .i64 (q:Int) (q:Int) Zo (Int.le_refl _) (by rw[hz2];omega) Zo;rw[hz1,Int.toNat_natCast]at h;exact h
    have hmx:q<=maxLen:=vG
    have aB:x.Qx≠[]:=λe=>by have:=HQ.out;rw[e]at this;simp at this;omega
    obtain⟨go,f,cap,sl,hv,hgo,_,hi⟩:=al.parts aB;rw[<-HQ.out]at hv;have aX:Ax=A_ go f:=by injection hv
    subst aX;have HI:=I hi;have aI:((wr.setCell (B_ pb (po+3)) (N_)).setCell (B_ pb (po+3)) (.slice (A_ wr.heap.size 0) q q)).heap.size=wr.heap.size:=P9
    have aq:=I (show af (((wr.setCell (B_ pb (po+3)) (N_)).setCell (B_ pb (po+3)) (.slice (A_ wr.heap.size 0) q q)).alloc (.cells (madeCells ZN (q*4)) 31)) wr.heap.size 31 (madeCells ZN (q*4)) by
     have h:=af.new ((wr.setCell (B_ pb (po+3)) (N_)).setCell (B_ pb (po+3)) (.slice (A_ wr.heap.size 0) q q)) 31 (madeCells ZN (q*4));rw[aI]at h;exact h)
    have jb:=I (((aV.put (po+3) (N_)).put (po+3) (.slice (A_ wr.heap.size 0) q q)).alloc (.cells (madeCells ZN (q*4)) 31));have ao:=I ((((M (λk=>k=pb) wr).setCell (p:=B_ pb (po+3)) Wh (N_)).setCell (p:=B_ pb (po+3)) Wh (.slice (A_ wr.heap.size 0) q q)).alloc (.cells (madeCells ZN (q*4)) 31));have aph:=I hpl;clear hi hv hmx aB aI hgo;go_wp2_with fail
    generalize (((wr.setCell (B_ pb (po+3)) (N_)).setCell (B_ pb (po+3)) (.slice (A_ wr.heap.size 0) q q)).alloc (.cells (madeCells ZN (q*4)) 31))=W2 at aq jb ao|-;have bW:=I (aJ.fr.trans' ao.out λk hk=>.inr (by rw[hk];exact aR.out.1))
    obtain⟨W3,anQ,hb3,ap⟩:=am0 W2 3 wr.heap.size q q cx (B_ go f) _ aq.out (size_madeCells _ _) (alx sl 0 x.Qx) (by rw[amO,HQ.out]) (λj u hu=>by
     have:=amR (W:=W2) (g:=go) (sl:=sl) x.Qx 0 f (λj hj=>by
      obtain⟨_,h0,h1,h2,h3,_⟩:=HI.out j hj;rw[au8];exact⟨bW.cell h0 PR,bW.cell h1 PR,bW.cell h2 PR,bW.cell h3 PR⟩) j u hu
     rwa [Addr.add_mid]) (amP 0 x.Qx λj hj=>by
      obtain⟨_,_,e⟩:=((HI.out j hj).2.2.2.2.2).slice;rw[au8,e];rfl)
    rw[anQ]
    have anm:af W3 pb 31 (cs.setIfInBounds (po+3) (.slice (A_ wr.heap.size 0) q q)):=by
     have h:=ap.QN jb.out (by have:=aph.out;omega);rw[Array.setIfInBounds_setIfInBounds]at h;exact h
    have ad:Touch (λk=>k=pb) wr W3:=ao.trans' ap λk hk=>.inr Zo
    have QF:=I (show Cpy w n W3 (M8++als wr.heap.size x.Qx)from
     Cpy.step (p:=B_ pb po) aJ.out aV.out (by rw[<-HQ.out];exact yD.out) (by rw[<-HQ.out];exact al.out) anm ad (g:=wr.heap.size) (cap:=q) (sl:=sl) (.inr ⟨by rw[<-HQ.out],au3 _,hb3,by rw[<-HQ.out];simp only[maxLen];omega,λi hi=>by
      obtain⟨h0,_,_,_,_,h5⟩:=HI.out i hi;obtain⟨k0,k1,k2,k3⟩:=amQ sl 0 x.Qx i hi;rw[au8]at k3;exact⟨h0,by simpa using k0,by simpa using k1,by simpa using k2,by simpa using k3,h5⟩⟩))
    have an:=I (show alF w W3 M8 (.slice (A_ s 0) m cp)from F8.mv ad λk hk cs' h=>by subst hk;exact absurd (aV.inj h).1 Pf)
    have aa:(cs.setIfInBounds (po+3) (.slice (A_ wr.heap.size 0) q q))[po+3]?=some (.slice (A_ wr.heap.size 0) q q):=by
     have:=(Array.getElem?_eq_some_iff.1 yD.out).1;simp[this]
    have aS:0<q->(A_ wr.heap.size 0:Option Addr)=A_ wr.heap.size 0:=λ_=>rfl
    obtain⟨cs3,api⟩:∃cs3,cs3=cs.setIfInBounds (po+3) (.slice (A_ wr.heap.size 0) q q):=⟨_,rfl⟩;rw[<-api]at anm aa;have apj:=I anm;have Mq:=I aa;have HA3:=I aS;obtain⟨A3,hA⟩:∃A3,A3=(A_ wr.heap.size 0:Option Addr):=⟨_,rfl⟩;clear hA;have y4:W3.cell? (B_ pb (po+3))=some (.slice (A_ wr.heap.size 0) q q):=by rw[anm.cell];exact aa
    clear y3 z3 hpl anQ hb3 ap ad api anm aa aS aq jb ao bW HI aph hmk e1 e1n e2 hc hs d1 aE jo w1 w2 w3 w5 w6;go_wp2
    go_loopw [3,49] (λa i av=>∃(wr':W_) (A':Option Addr) (n' cp' j:Nat),wr'=av/\a=.slice A' n' cp'/\i=V j/\j<=q/\Hd (n'=m+j)/\Hd (Cpy w n wr' (M8++als wr.heap.size x.Qx))/\Hd (alF w wr' (M8++(als wr.heap.size x.Qx).take j) (.slice A' n' cp'))/\Hd (af wr' pb 31 cs3)) (λ_ i _=>q-(intOf i).toNat)
    case atStart=>exact⟨_,_,m,cp,0,rfl,rfl,rfl,Nat.zero_le _,I rfl,QF,I (by rw[List.take_zero,List.append_nil];exact an.out),apj⟩
    case round=>
     clear QF an apj y4;obtain⟨wr',A',n',cp',j,rfl,rfl,rfl,hj,HN,HC,HR,HP⟩:=hrel;have y4:wr'.cell? (B_ pb (po+3))=some (.slice (A_ wr.heap.size 0) q q):=by rw[HP.cell];exact Mq.out
     by_cases c1:j<q
     .have d1:decide ((j:Int)<(q:Int))=true:=dT Zo
      have jo:decide (j<q)=true:=dT c1;have aE:(j:Int)<(q:Int):=Zo
      have hjb:j<=1000000:=Zo
      have aZ:wr.heap.size<wr'.heap.size:=by
       obtain⟨_,_,_,ds,_,_,h1,_⟩:=HC.it (x.Qx[j]' aua,(B_ wr.heap.size (j*4))) (List.mem_append_right _ (List.mem_of_getElem? (alJ wr.heap.size x.Qx j aua)));exact h1.lt
      have lg:=I (show(M8++(als wr.heap.size x.Qx).take j).length=n'/\n'<=1000000 by
       have h1:=HQ.out;have h2:=JX.out;have h3:=HN.out;have h4:=au.out.2.2;rw[auZ,List.length_take,alD];omega)
      have nK:=I (show M8++(als wr.heap.size x.Qx).take (j+1)=(M8++(als wr.heap.size x.Qx).take j)++[(x.Qx[j]' aua,(B_ wr.heap.size (j*4)))] by
       rw[List.take_add_one,alJ wr.heap.size x.Qx j (by rw[<-HQ.out];exact c1),List.append_assoc];rfl)
      obtain⟨i,hi,hz0,hz1,hz2⟩:=info_parts aoe;have kW:=I (af.new wr' 97 #[.pointer (A_ wr.heap.size (j*4))]);have z8:=I (HR.mv ((M (λ_=>False) wr').alloc (.cells #[.pointer (A_ wr.heap.size (j*4))] 97)) λ_ h=>h.elim);have gL:=I (show ag wr' (wr'.alloc (.cells #[.pointer (A_ wr.heap.size (j*4))] 97))from(M _ wr').alloc _)
      go_wp2_with (at_builtin;go_loud (refine iL _ rfl (.tmp 52) (.tmp 59) 152 rfl w.heap.size 97 i _ 1 8 underlying152 hi hz0 hz1 hz2 rfl Pf (.slice A' n' cp') n' _ WH (by have h:=z8.out;unfold alF at h;rw[lg.out.1]at h;exact h) (.slice (A_ wr'.heap.size 0) 1 1) 1 [.pointer (A_ wr.heap.size (j*4))] WH (Src.uT kW.out rfl) ar7 (by have:=lg.out.2;simp only[maxLen];omega) (by have:=lg.out.2;omega) (by have:=HC.fr.size;simp;omega) ?_);intro v8 w8 ac jI ax;refine jw.mk ?_)
      have ZU:=I (show alF w w8 (M8++(als wr.heap.size x.Qx).take (j+1)) v8 by
       unfold alF;rw[nK.out,avx,auZ,lg.out.1];exact ac)
      have Cb:=I (show Touch (λk=>(Value.slice A' n' cp').ownBlock=some k) wr' w8 from Touch.grown (gL.mono λ_ h=>h.elim) jI λk hk=>.inl hk)
      have aK:∀k,(Value.slice A' n' cp').ownBlock=some k->w.heap.size<=k/\∀cs fr,wr'.heap[k]?≠some (.cells cs 31 fr):=λk hk=>by
       obtain⟨h1,cur,h2⟩:=fe HR.out hk;refine⟨h1,λcs fr e=>?_⟩;rw[h2]at e;cases e
      have aW:=I (HC.mv Cb.out aK);have AQ:=I (Cb.QN HP.out λhk=>(aK pb hk).2 _ _ HP.out);obtain⟨A8,c8,rfl⟩:=mK ac;clear ac jI ax aK;refine jw.go ?_;go_wp2
      go_roundw
      case rel=>exact⟨_,A8,n'+1,c8,j+1,rfl,rfl,by go_num,by omega,I asG,aW,ZU,AQ⟩
      case measure=>simp[intOf];omega
     .have d1:decide ((j:Int)<(q:Int))=false:=dF Zo
      have jo:decide (j<q)=false:=dF c1;obtain rfl:j=q:=Zo
      have hall:(als wr.heap.size x.Qx).take j=als wr.heap.size x.Qx:=List.take_of_length_le (by rw[alD,HQ.out];exact au3 _)
      have al1:=I (show am1 w n (.slice A' n' cp') wr' (Tr.az (M8.map Prod.fst)+Tr.az x.Qx)from⟨M8++als wr.heap.size x.Qx,_,n',cp',rfl,by
       have h1:=HQ.out;have h2:=JX.out;have h3:=HN.out;rw[auZ,alD];omega,HC.out,by have h:=HR.out;rw[hall]at h;exact h,by rw[avx,aod,Xe],by have:=apg.out;omega⟩)
      clear hall;go_wp2
      go_roundw
      case rel=>exact⟨_,_,rfl,al1⟩
      case measure=>
       have h1:amJ w n (.slice A' n' cp') wr'<=Tr.az (M8.map Prod.fst)+Tr.az x.Qx:=least_le al1.out;have h2:=aG.out;omega
end
section
open Go.RowKit
open Tr (Nd)
attribute [local go_sem] gD stillUpon
theorem anK{α:Type}{l:List α}{x:α×Nat}(h:x∈l.zipIdx):∃hi:x.2<l.length,l[x.2]=x.1:=by
 obtain⟨_,h2,h3⟩:=List.mem_zipIdx h;refine⟨by omega,?_⟩;rw[h3];simp
theorem amK(s:List UInt8):∀(tb:D7.Table) (n:Nat),((tb.zipIdx n).find? λx=>x.1.name==s).map Prod.fst=D7.alA tb s
 |[],_=>rfl
 |m::tb,n=>by
  unfold D7.alA;rw[List.zipIdx_cons,awg,awg];cases hy:(m.name==s)with
  |true=>rfl
  |false=>exact amK s tb (n+1)
theorem amH(s:List UInt8)(tb:D7.Table)(NY:Nat->Value):∃j,Instr.findNow .string (S_ s) (alC tb NY) 0=some ((tb.zipIdx.find? λx=>x.1.name==s).map λx=>(j,alW x.1 (NY x.2))):=by
 obtain⟨j,h⟩:=JV s (tb.zipIdx.map λx=>((x.1.name,alW x.1 (NY x.2)),x.2)) 0;refine⟨j,?_⟩;have e:(tb.zipIdx.map λx=>((x.1.name,alW x.1 (NY x.2)),x.2)).map (λx=>(⟨S_ x.1.1,x.1.2,x.2⟩:MapEntry))=alC tb NY:=by rw[List.map_map];rfl
 rw[e]at h;rw[h]
 congr 1
 rw[List.find?_map];simp only[Option.map_map];rfl
abbrev anL:Value:=.agg #[V 0,V 0,E_,V 0,N_]
theorem aow(w:W_):(zeroValue 119).run Tryz.prog w=.ok anL w:=by
 have:=Tryz.zeroValue119 w;exact this
theorem ams{w:W_}{g gt bm:Nat}{tb:D7.Table}{nv:Value}{NY:Nat->Value}(h:YB w g tb gt bm nv NY)(s:List UInt8):
  (∃m i,D7.alA tb s=some m/\∃hi:i<tb.length,tb[i]=m/\(Instr.lookup 70 (.map (some bm)) (S_ s) true).run Tryz.prog w=.ok (.tuple #[alW m (NY i),.bool true]) w)\/
  (D7.alA tb s=none/\(Instr.lookup 70 (.map (some bm)) (S_ s) true).run Tryz.prog w=.ok (.tuple #[anL,.bool false]) w):=by
 obtain⟨j,hj⟩:=amH s tb NY;have hg:(getObj bm).run Tryz.prog w=.ok (.map (alC tb NY).toArray tb.length) w:=MapKept.run_getObj_map h.map;have hf:(Instr.findKey 9 (S_ s) (alC tb NY)).run Tryz.prog w=.ok ((tb.zipIdx.find? λx=>x.1.name==s).map λx=>(j,alW x.1 (NY x.2))) w:=MapKept.run_findKey underlying9 hj;have hz:=amK s tb 0;have hc:=aaQ;have hzz:=aow;cases hx:tb.zipIdx.find? λx=>x.1.name==s with
 |none=>
  rw[hx]at hz hf;refine .inr ⟨hz.symm,?_⟩;unfold Instr.lookup;simp[run_underlying underlying70,hg,hc,hf,hzz]
 |some x=>
  rw[hx]at hz hf;obtain⟨hi,he⟩:=anK (List.mem_of_find?_eq_some hx);refine .inl ⟨x.1,x.2,hz.symm,hi,he,?_⟩;unfold Instr.lookup;simp[run_underlying underlying70,hg,hc,hf]
def alI(tb:D7.Table)(s:List UInt8):Nat×Bool:=match D7.alA tb s with
 |some m=>(m.params,true)
 |none=>(0,false)
def aox(tb:D7.Table)(s:List UInt8)(w:W_)(e:Ending)(w':W_):Prop:=∃(x0 x2:Int) (x1:Y_) (A:Option Addr) (n cp:Nat),e=.returned (.tuple #[V ((alI tb s).1:Int),.agg #[V x0,.string x1,V x2,.slice A n cp],.bool (alI tb s).2])/\ag w w'
theorem YB.mv{W W':W_}{g g' gt bm:Nat}{tb:D7.Table}{nv:Value}{NY:Nat->Value}{S:Nat->Prop}(h:YB W g tb gt bm nv NY)(ht:Touch S W W')(h1:¬S gt)(h2:¬S bm)(hS:∀k cs fr,S k->W.heap[k]?≠some (.cells cs 31 fr))(hg:gt≠g')(hb:bm≠g'):YB W' g' tb gt bm nv NY:=
 ⟨ht.QN h.QN h1,(ht.block bm (Array.getElem?_eq_some_iff.1 h.map).1 h2).trans h.map,λi hi=>(h.tree i hi).mv ht λk cs fr hk _=>hS k cs fr hk,h.D9,hg,hb⟩
theorem YB.QH{W W':W_}{g gt bm:Nat}{tb:D7.Table}{nv:Value}{NY:Nat->Value}(h:YB W g tb gt bm nv NY)(ht:ag W W'):YB W' g tb gt bm nv NY:=h.mv ht PR PR (λ_ _ _ h=>h.elim) h.ng h.nm
theorem alB.QH{W W':W_}{g:Nat}{tb:D7.Table}{tp:Value}(h:alB W g tb tp)(ht:ag W W'):alB W' g tb tp:=h.imp id λ⟨gt,bm,nv,NY,h1,h2⟩=>⟨gt,bm,nv,NY,h1,h2.QH ht⟩
theorem af.five{w:W_}{g:Nat}{t:TypeId}{x0 x1 x2 x3 x4:Value}(h:af w g t #[x0,x1,x2,x3,x4]):
  w.cell? (B_ g 0)=some x0/\w.cell? (B_ g 1)=some x1/\w.cell? (B_ g 2)=some x2/\w.cell? (B_ g 3)=some x3/\w.cell? (B_ g 4)=some x4/\g<w.heap.size:=⟨h.cell 0,h.cell 1,h.cell 2,h.cell 3,h.cell 4,h.lt⟩
theorem ao6(g:Nat)(tb:D7.Table)(tp:Value)(s:List UInt8)(w:W_)(h:alB w g tb tp):C_ 160 #[tp,S_ s] w (aox tb s w):=by
 rcases h with⟨rfl,rfl⟩|⟨gt,bm,apL,NY,rfl,h⟩
 focus
  go_enter func160,ntmps160;go_wp2_with fail
  obtain⟨p0,p1,p2,p3,_⟩:=af.QM abR;refine bodyPost_ret (v:=.tuple #[V 0,.agg ZN,.bool false]) (by simp[results,results160,go_sem,p0,p1,p2,p3]) rfl ?_;exact⟨_,_,_,_,_,_,rfl,(M _ _).alloc _⟩
 focus
  have aj:=(M (λ_=>False) w).alloc (.cells ZN 31);have H0:=h.QH aj;have q1:=H0.QN.cell 1;have hlt:=H0.QN.lt
  obtain⟨n,pz,sl,hlk,aa,ar,hres⟩:∃(n:Nd) (pz:Nat×Bool),∃sl,(Instr.lookup 70 (.map (some bm)) (S_ s) true).run Tryz.prog (w.alloc (.cells ZN 31))=.ok (.tuple #[.agg #[V (pz.1:Int),V n.QI,S_ n.QG,V n.ah,sl],.bool pz.2]) (w.alloc (.cells ZN 31))/\aP 0 (w.alloc (.cells ZN 31)) n.Qx sl/\Tr.count n<=1000000/\alI tb s=pz:=by
   rcases ams H0 s with⟨m,i,e1,hi,e2,e3⟩|⟨e1,e3⟩
   .refine⟨m.tree,(m.params,true),NY i,e3,by rw[<-e2];exact H0.tree i hi,?_,by unfold alI;rw[e1]⟩
    have:=(h.D9 m (by rw[<-e2];exact List.getElem_mem hi)).2.2;omega
   .exact⟨.mk 0 [] 0 [],(0,false),N_,e3,.nil _ _,by simp[Tr.count,Tr.az],by unfold alI;rw[e1]⟩
  obtain⟨A,c,rfl⟩:=aa.slice;have jQ:=I aj;have jK:=I aa;have aw:=I ar;have an:=I hres;have iY:=I abR;clear h H0 aj aa ar hres;go_enter func160,ntmps160;go_wp2_with fail
  have al:=af.new2 w (.cells ZN 31) 119 #[V (pz.1:Int),V n.QI,S_ n.QG,V n.ah,.slice A n.Qx.length c];have ae:=jQ.alloc (.cells #[V (pz.1:Int),V n.QI,S_ n.QG,V n.ah,.slice A n.Qx.length c] 119);have ad:=jK.QH ((M (λ_=>False) _).alloc (.cells #[V (pz.1:Int),V n.QI,S_ n.QG,V n.ah,.slice A n.Qx.length c] 119));have ag:=iY.alloc (.cells #[V (pz.1:Int),V n.QI,S_ n.QG,V n.ah,.slice A n.Qx.length c] 119);clear hlk q1;generalize ((w.alloc (.cells ZN 31)).alloc (.cells #[V (pz.1:Int),V n.QI,S_ n.QG,V n.ah,.slice A n.Qx.length c] 119))=W1 at al ae ad ag|-;have aK:=I ae;have ay:=I ad;have av:=I ag;obtain⟨p0,p1,p2,p3,p4,aL⟩:=af.five al;have r0:=cR (p0.trans rfl);have r1:=cR (p1.trans rfl);have r2:=cR (p2.trans rfl);have r3:=cR (p3.trans rfl);have r4:=cR (p4.trans rfl);clear p0 p1 p2 p3 p4 ae ad ag al jQ jK iY;refine O8 [5] [([(0,true),(1,true),(2,true),(3,true),(4,false),(6,true)],7)] [(8,true)] Pg Ph Pg ?_
  repeat(refine V6 rfl (λK hK=>?_);go_simp;refine hK _ ?_;clear hK K)
  refine YQ ?_;refine dJ ?_
  repeat(refine Z4 ?_)
  refine aS rfl (λK hK=>?_);go_wp2_with fail
  have ab:=amr n (.slice A n.Qx.length c) (W1.drewN 1) aw (ay.QH ((M _ W1).drewN 1)).rep;refine ab.mono ?_;rintro _ w2 ⟨sl2,rfl,am,hf2⟩;have bW:=I (aK.trans (Touch.BD hf2));have Sb:=I ((Touch.BD hf2).QN av λh=>h);obtain⟨A2,c2,rfl⟩:=am.slice;have ao:=aA (Touch.BD hf2);clear ab am hf2;unfold nv;go_wp2
  refine hK _ _ ao ?_;clear hK K ao r0 r1 r2 r3 r4 aL
  repeat(refine Z4 ?_)
  obtain⟨p0,p1,p2,p3,z0,z1,z2,z3,aR⟩:=af.QM Sb;refine dm rfl (λK hK=>?_);go_wp2_with fail
  refine EN ?_
  repeat(refine Z4 ?_)
  refine sj ?_;go_wp2_with fail
  have n1:=Sb.gH (V n.QI) (S_ n.QG) (V n.ah) (.slice A2 n.Qx.length c2);have hf:=bW.aO (g:=w.heap.size) ET (V n.QI) (S_ n.QG) (V n.ah) (.slice A2 n.Qx.length c2);obtain⟨g0,g1,g2,g3,_⟩:=af.QM n1;simp only[aO]at g0 g1 g2 g3 hf
  refine bodyPost_ret (v:=.tuple #[V (pz.1:Int),.agg #[V n.QI,S_ n.QG,V n.ah,.slice A2 n.Qx.length c2],.bool pz.2]) (by simp[results,results160,go_sem,g0,g1,g2,g3]) rfl ?_;unfold aox;rw[an.out];exact⟨_,_,_,_,_,_,rfl,hf⟩
theorem alB.at{c:Cf}(hc:c.Good){k:Kp}{op:List Nat}{w:W_}(h:Ps c k op w):alB w c.g c.tb c.tp:=by
 obtain⟨cs,hg⟩:=hc.gty;refine hc.tab.imp id λ⟨gt,bm,nv,NY,h1,h2⟩=>⟨gt,bm,nv,NY,h1,h2.mv h.low h2.ng h2.nm (λk cs' fr hk e=>?_) h2.ng h2.nm⟩
 rw[hk]at e;unfold af at hg;rw[hg]at e;cases e
theorem JW(c:Cf)(hc:c.Good)(k:Kp)(op:List Nat)(s:List UInt8)(w:W_)(h:Ps c k op w):
  C_ 144 #[lV c,S_ s] w λe w'=>e=.returned (.tuple #[V ((alI c.tb s).1:Int),.bool (alI c.tb s).2])/\ag w w':=by
 have HG:=I (λw' (hf:ag w w')=>ao6 c.g c.tb c.tp s w' ((alB.at hc h).QH hf));obtain⟨ov,hb,_⟩:=h.box;have q4:=hb.cell 4;have aa:=hb.lt;unfold aox at HG;generalize alI c.tb s=gv at*;clear hb h hc;unfold lV;go_enter func144,ntmps144;go_wp2_with fail
 refine(HG _ afD).mono ?_;rintro _ w1 ⟨x0,x2,x1,A,n,cp,rfl,hf⟩;have HF:=I hf;clear hf q4;go_wp2
 go_ret2;exact⟨rfl,HF.alloc _⟩
end
section
open Go.RowKit
open Tr (Nd)
open Lx (aB)
open D7 (R cZ kE eB eP dA bV fD di pArg aln)
attribute [local go_sem] gD stillUpon
def agv(t:aB):Value:=.agg #[V (t.QI:Int),S_ t.QG,V (t.from_:Int),V (t.eF:Int)]
def Nt(c:Cf)(f:Nat)(op:List Nat)(r:D7.St):R (List Nd):=
 if Np.dx 123 r.l then(di c.E f (op++[Np.place c.en r.l]) [] 0 0 r.up).map λp=>[.mk 12 [] p.2 p.1]else D7.refuse c.E r
def Nu(c:Cf)(f:Nat):Prop:=∀(k:Kp) (op:List Nat) (w:W_),Ps c k op w->op.length<=k.p->k.p<c.T.length->Nt c f op (c.at k.up)≠.out->
 C_ 47 #[lV c] w (oK c k op (Nt c f op (c.at k.up)) w)
def Jo(c:Cf)(f:Nat):Prop:=∀(k:Kp) (op:List Nat) (t:aB) (r:List aB) (w:W_),Ps c k op w->op.length<=k.p->(c.at k).l=t::r->fD c.E f op t (c.at k.up)≠.out->
 C_ 128 #[lV c,agv t] w (oK c k op (fD c.E f op t (c.at k.up)) w)
theorem U3(s:List UInt8)(F:FuncId)(hF:qP s=some F)(a:Array Value)(w:W_):(callFunc F a).run Tryz.prog w=.ok (.enter F a) w:=by
 rw[IB]at hF
 repeat' split at hF
 all_goals first|(cases hF;kernel_rfl)|cases hF
theorem FD(c:Cf)(f:Nat)(op:List Nat)(t:aB)(r:D7.St)(h:qP t.QG=none):fD c.E (f+1) op t r=match D7.alA c.tb t.QG with
  |some m=>aln c.E f m.params op t r
  |none=>D7.plainName t r:=by
 have hs:=(zu t.QG).1 h;unfold Np.special at hs;simp only[Bool.or_eq_false_iff,beq_eq_false_iff_ne,ne_eq]at hs;obtain⟨⟨⟨h1,h2⟩,h3⟩,h4⟩:=hs;rw[fD,if_neg h1,if_neg h2,if_neg h3,if_neg (by rw[h4];decide)];rfl
def amz(c:Cf)(f:Nat):Prop:=∀(k:Kp) (op:List Nat) (t:aB) (m:D7.Mac) (w:W_),Ps c k op w->op.length<=k.p->k.n+1000<=1000*k.p->t.QG.length<=maxLen->D7.alA c.tb t.QG=some m->aln c.E f m.params op t (c.at k)≠.out->
 C_ 146 #[lV c,agv t,V (m.params:Int)] w (oK c k op (aln c.E f m.params op t (c.at k)) w)
theorem Yk(c:Cf)(f:Nat)(k:Kp)(op:List Nat)(t:aB)(r:List aB)(w:W_)(F:FuncId)(hF:qP t.QG=some F)(h1:IL c f)(h2:Yj c f)(h3:Nu c f)(h4:Nr c f)(h:Ps c k op w)(hop:op.length<=k.p)(hl:(c.at k).l=t::r)
  (hne:fD c.E (f+1) op t (c.at k.up)≠.out):C_ F #[lV c] w (oK c k op (fD c.E (f+1) op t (c.at k.up)) w):=by
 have hk:=Br (c:=c) (k:=k) ar1;rw[IB]at hF;rw[fD]at hne|-
 by_cases e1:t.QG=Tr.oO
 .rw[if_pos e1]at hF hne|-
  cases hF;exact h1 k op w h hop hk (R.oC hne)
 .rw[if_neg e1]at hF hne|-
  by_cases e2:t.QG=Tr.mU
  .rw[if_pos e2]at hF hne|-
   cases hF;exact h2 k op w h hop hk hne
  .rw[if_neg e2]at hF hne|-
   by_cases e3:t.QG=Tr.bY
   .rw[if_pos e3]at hF hne|-
    cases hF;exact h3 k op w h hop hk hne
   .rw[if_neg e3]at hF hne|-
    by_cases e4:Np.tH t.QG=true
    .rw[if_pos e4]at hF hne|-
     cases hF;exact h4 k op t r w h hop hl (R.oC hne)
    .rw[if_neg e4]at hF
     cases hF
theorem aaS(c:Cf)(hc:c.Good)(bm:Nat)(aI:c.Dn bm)(f:Nat)(aw:IL c f)(hF2:Yj c f)(az:Nu c f)(aA:Nr c f)(aB:amz c f):Jo c (f+1):=by
 intro k op t r w h hop hl hne;have au:=hc.tl;have hk:=Br (c:=c) (k:=k) ar1;have hk4:k.p<=100000:=Zo
 have X0:=I (λ(F:FuncId) (hF:qP t.QG=some F) (w':W_) (hf:ag w w')=>Yk c f k op t r w' F hF aw hF2 az aA ah6 hop hl hne);have ade:=I (λ(w':W_) (hf:ag w w')=>JW c hc k op t.QG w' ah6);have apM:=I aB;have wH:=I h.nl;have an:=hc.D9 t (List.mem_of_mem_drop (i:=k.p) ar');have kJ:=I an;have HSI:=I (λ(w':W_) (hf:ag w w')=>Iz c hc k op 2 t.QG w' ah6 hk an);have HL:=I hl;have H:=I h;have oJ:=I hop;have aY:=I hne;have ax:=I h.low.size;have HK:=I hk;have aF:c.g<w.heap.size:=h.Ap;have uf:=I aI;have ay:=aI.1;obtain⟨ov,hb,_⟩:=h.box;have HB:=I hb;have hmap:=aI.at h;have Sr:=I hmap;rw[ay]at hb;have HB:=I hb;clear h hl hop hne aI hmap ay hb aw hF2 az aA aB hc an;refine Calls.via λQ hQ=>?_
 have HQ:=I hQ;clear hQ;unfold lV agv;go_enter func128,ntmps128;go_wp2_with fail
 have ae:ag w ((w.alloc (.cells #[V (t.QI:Int),S_ t.QG,V (t.from_:Int),V (t.eF:Int)] 131)).alloc (.cells #[V 0,V 0] 45)):=((M _ _).alloc _).alloc _;have Yl:af ((w.alloc (.cells #[V (t.QI:Int),S_ t.QG,V (t.from_:Int),V (t.eF:Int)] 131)).alloc (.cells #[V 0,V 0] 45)) w.heap.size 131 #[V (t.QI:Int),S_ t.QG,V (t.from_:Int),V (t.eF:Int)]:=(af.new _ _ _).alloc _;have Ns:af ((w.alloc (.cells #[V (t.QI:Int),S_ t.QG,V (t.from_:Int),V (t.eF:Int)] 131)).alloc (.cells #[V 0,V 0] 45)) (w.heap.size+1) 45 #[V 0,V 0]:=af.new2 _ _ _ _;generalize ((w.alloc (.cells #[V (t.QI:Int),S_ t.QG,V (t.from_:Int),V (t.eF:Int)] 131)).alloc (.cells #[V 0,V 0] 45))=W1 at ae Yl Ns|-;have aK:=I ae;have agw:=I Yl;have tL:=I Ns;have aL:=(ae.block bm (Array.getElem?_eq_some_iff.1 Sr.out).1 PR).trans Sr.out;have hlk:=OU (w:=W1.drewN 1) (bm:=bm) (g:=c.g) (clock:=9) aL t.QG true;have hb1:=ae.QN HB.out PR;have q6:=hb1.cell 6;have z6:=hb1.frozen 6;have lW:=hb1.lt;obtain⟨t0,t1,t2,t3,_,_,_,_,ai⟩:=af.QM Yl;clear ae Yl Ns aL hb1;cases ah:qP t.QG with
 |some F=>
  rw[ah]at hlk;simp only[if_true]at hlk;refine uV (λW=>W=W1.drewN 1) [(0,true),(1,true),(2,true),(3,true),(4,true),(5,true),(6,true),(7,true),(8,true),(9,true),(10,true),(11,true)] Pg Ph Pg rfl ?_;refine ak rfl (λK hK=>?_);rw[if_pos (by rfl)];refine⟨(.pointer (A_ c.g 0)),λW hW=>?_,hK _ ?_⟩
  .subst hW
   go_simp
  clear hK K;refine ak rfl (λK hK=>?_);rw[if_pos (by rfl)];refine⟨(.pointer (A_ c.g 0)),λW hW=>?_,hK _ ?_⟩
  .subst hW
   go_simp
  clear hK K;refine ak rfl (λK hK=>?_);rw[if_pos (by rfl)];refine⟨(.pointer (A_ c.g 6)),λW hW=>?_,hK _ ?_⟩
  .subst hW
   go_simp
  clear hK K;refine ak rfl (λK hK=>?_);rw[if_pos (by rfl)];refine⟨(.map (some bm)),λW hW=>?_,hK _ ?_⟩
  .subst hW
   go_simp
  clear hK K;refine ak rfl (λK hK=>?_);rw[if_pos (by rfl)];refine⟨(.pointer (A_ w.heap.size 1)),λW hW=>?_,hK _ ?_⟩
  .subst hW
   go_simp
  clear hK K;refine ak rfl (λK hK=>?_);rw[if_pos (by rfl)];refine⟨(S_ t.QG),λW hW=>?_,hK _ ?_⟩
  .subst hW
   go_simp
  clear hK K;refine ak rfl (λK hK=>?_);rw[if_pos (by rfl)];refine⟨(.tuple #[mM c.g F,.bool true]),λW hW=>?_,hK _ ?_⟩
  .subst hW
   go_simp
  clear hK K;refine ak rfl (λK hK=>?_);rw[if_pos (by rfl)];refine⟨(.tuple #[mM c.g F,.bool true]),λW hW=>?_,hK _ ?_⟩
  .subst hW
   go_simp
  clear hK K;refine ak rfl (λK hK=>?_);rw[if_pos (by rfl)];refine⟨mM c.g F,λW hW=>?_,hK _ ?_⟩
  .subst hW
   go_simp
  clear hK K;refine ak rfl (λK hK=>?_);rw[if_pos (by rfl)];refine⟨(.bool true),λW hW=>?_,hK _ ?_⟩
  .subst hW
   go_simp
  clear hK K;refine ak rfl (λK hK=>?_);rw[if_pos (by rfl)];refine⟨mM c.g F,λW hW=>?_,hK _ ?_⟩
  .subst hW
   go_simp
  clear hK K;refine ak rfl (λK hK=>?_);rw[if_pos (by rfl)];refine⟨(.bool true),λW hW=>?_,hK _ ?_⟩
  .subst hW
   go_simp
  clear hK K;refine sj ?_;have ap:=I ar8;have Su:=I (agw.drewN 1);have tK:=I (tL.drewN 1);clear q6 z6 lW hlk t0 t1 t2 t3 ai;generalize W1.drewN 1=W2 at ap Su tK|-;unfold mM;have aq:=U3 t.QG F ah #[.pointer (A_ c.g 0)] W2;go_wp2_with fail
  refine(X0.out F ah W2 ap.out).mono ?_;intro e w3 hres;have iI:=I (Mp.QH (g:=c.g) (B:=c.W0.heap.size) ap.out);generalize fD c.E (f+1) op t (c.at k.up)=X at aY HQ hres;cases X with
  |out=>exact absurd rfl aY.out
  |err i er=>
   obtain⟨aj,A,n,cp,rfl,hm⟩:=hres;have rM:=I aeA;have dY:=I ait;have F7:=I aj;clear hm aj;obtain⟨q0,q1,z0,z1,ab⟩:=af.two dY.out;unfold aG;go_wp2_with fail
   have n1:=dY.fT (V (i:Int)) (V (er:Int));have iU:Mp c.g c.W0.heap.size w (aH w3 (w.heap.size+1) (V (i:Int)) (V (er:Int))):=rM.aH (g:=w.heap.size+1) Ls (V (i:Int)) (V (er:Int));have fA:=dS w3 (w.heap.size+1) (V (i:Int)) (V (er:Int));simp only[aH]at n1 iU fA;generalize (auX (auX w3 (B_ (w.heap.size+1) 0) _) (B_ (w.heap.size+1) 1) _)=W4 at n1 iU fA|-;obtain⟨f0,f1,_⟩:=af.two n1
   (try simp only[Exit.inBlock,Exit.then])
   exact asV
  |ok QS rest=>
   obtain⟨A,cp,k',rfl,aa,hdr,ad,hp,hm⟩:=hres;have rM:=I aeA;have dY:=I ait;have jK:=I aa;have ao:=I hdr;have aJ:=I ad;have oL:=I hp;clear hm aa hdr ad hp;obtain⟨q0,q1,z0,z1,ab⟩:=af.two dY.out;unfold aG;go_wp2_with fail
   have n1:=dY.fT (V 0) (V 0);have iU:Mp c.g c.W0.heap.size w (aH w3 (w.heap.size+1) (V 0) (V 0)):=rM.aH (g:=w.heap.size+1) Ls (V 0) (V 0);have fA:=dS w3 (w.heap.size+1) (V 0) (V 0);simp only[aH]at n1 iU fA;generalize (auX (auX w3 (B_ (w.heap.size+1) 0) _) (B_ (w.heap.size+1) 1) _)=W4 at n1 iU fA|-;obtain⟨f0,f1,_⟩:=af.two n1
   (try simp only[Exit.inBlock,Exit.then])
   refine bodyPost_ret (v:=.tuple #[.slice A QS.length cp,aG 0 0]) U_ rfl ?_;have am:=oL.mv fA Lb;exact w_
 |none=>
  rw[ah]at hlk;simp only[if_true]at hlk;refine uV (λW=>W=W1.drewN 1) [(0,true),(1,true),(2,true),(3,true),(4,true),(5,true),(6,true),(7,true),(8,true),(9,true),(10,true),(11,true)] Pg Ph Pg rfl ?_;refine ak rfl (λK hK=>?_);rw[if_pos (by rfl)];refine⟨(.pointer (A_ c.g 0)),λW hW=>?_,hK _ ?_⟩
  .subst hW
   go_simp
  clear hK K;refine ak rfl (λK hK=>?_);rw[if_pos (by rfl)];refine⟨(.pointer (A_ c.g 0)),λW hW=>?_,hK _ ?_⟩
  .subst hW
   go_simp
  clear hK K;refine ak rfl (λK hK=>?_);rw[if_pos (by rfl)];refine⟨(.pointer (A_ c.g 6)),λW hW=>?_,hK _ ?_⟩
  .subst hW
   go_simp
  clear hK K;refine ak rfl (λK hK=>?_);rw[if_pos (by rfl)];refine⟨(.map (some bm)),λW hW=>?_,hK _ ?_⟩
  .subst hW
   go_simp
  clear hK K;refine ak rfl (λK hK=>?_);rw[if_pos (by rfl)];refine⟨(.pointer (A_ w.heap.size 1)),λW hW=>?_,hK _ ?_⟩
  .subst hW
   go_simp
  clear hK K;refine ak rfl (λK hK=>?_);rw[if_pos (by rfl)];refine⟨(S_ t.QG),λW hW=>?_,hK _ ?_⟩
  .subst hW
   go_simp
  clear hK K;refine ak rfl (λK hK=>?_);rw[if_pos (by rfl)];refine⟨(.tuple #[.nilFunc,.bool false]),λW hW=>?_,hK _ ?_⟩
  .subst hW
   go_simp
  clear hK K;refine ak rfl (λK hK=>?_);rw[if_pos (by rfl)];refine⟨(.tuple #[.nilFunc,.bool false]),λW hW=>?_,hK _ ?_⟩
  .subst hW
   go_simp
  clear hK K;refine ak rfl (λK hK=>?_);rw[if_pos (by rfl)];refine⟨.nilFunc,λW hW=>?_,hK _ ?_⟩
  .subst hW
   go_simp
  clear hK K;refine ak rfl (λK hK=>?_);rw[if_pos (by rfl)];refine⟨(.bool false),λW hW=>?_,hK _ ?_⟩
  .subst hW
   go_simp
  clear hK K;refine ak rfl (λK hK=>?_);rw[if_pos (by rfl)];refine⟨.nilFunc,λW hW=>?_,hK _ ?_⟩
  .subst hW
   go_simp
  clear hK K;refine ak rfl (λK hK=>?_);rw[if_pos (by rfl)];refine⟨(.bool false),λW hW=>?_,hK _ ?_⟩
  .subst hW
   go_simp
  clear hK K;refine sj ?_;have ap:=I ar8;have Su:=I (agw.drewN 1);have tK:=I (tL.drewN 1);clear q6 z6 lW hlk t0 t1 t2 t3 ai;generalize W1.drewN 1=W2 at ap Su tK|-;obtain⟨t0,t1,t2,t3,_,_,_,_,ai⟩:=af.QM Su.out;go_wp2_with fail
  clear t0 t1 t2 t3 ai;refine(ade.out W2 ap.out).mono ?_;rintro _ w3 ⟨rfl,hf⟩;have av:=I (ap.trans hf);have Ym:=I (hf.QN Su.out λh=>h);have dY:=I (hf.QN tK.out λh=>h);clear hf;obtain⟨t0,t1,t2,t3,_,_,_,_,ai⟩:=af.QM Ym.out;cases hg:D7.alA c.tb t.QG with
  |none=>
   have ar:alI c.tb t.QG=(0,false):=by unfold alI;rw[hg]
   rw[ar]
   by_cases h1:t.QG.length=1
   .have c1:(t.QG.length:Int)=1:=by omega
    have c2:((t.QG.length:Int)==1)=true:=by simp[c1]
    have VQ:=I (show fD c.E (f+1) op t (c.at k.up)=.err t.from_ 11 from by
     rw[FD c f op t _ ah,hg];simp only;rw[D7.plainName,if_pos h1])
    go_wp2_with fail
    have r2:=cR (Ym.cell 2|>.trans rfl);have ab:=Ym.lt;have ow:=dY;have aN:=I (Mp.QH (g:=c.g) (B:=c.W0.heap.size) av.out);clear t0 t1 t2 t3 ai;refine cu [([(0,true),(1,true),(2,true),(3,true)],4)] [] Pg Ph Pg ?_;refine dJ ?_
    repeat(refine Z4 ?_)
    obtain⟨p0,p1,y0,y1,hlt⟩:=af.two (ow.drewN 1);refine dm rfl (λK hK=>?_);go_wp2_with fail
    refine fH ?_;go_wp2_with fail
    have al:af _ (w.heap.size+1) 45 #[V (t.from_:Int),V 11]:=((ow.drewN 1).put 0 (V (t.from_:Int))).put 1 (V 11);have wO:=((aN.drewN 1).setCell (p:=B_ (w.heap.size+1) 0) Vi (V (t.from_:Int))).setCell (p:=B_ (w.heap.size+1) 1) Vi (V 11);obtain⟨f0,f1,_⟩:=af.two al
    (try simp only[Exit.inBlock,Exit.then])
    refine bodyPost_ret (v:=.tuple #[N_,aG t.from_ 11]) U_ rfl ?_;rw[VQ.out]at HQ;exact arQ
   .have c1:¬(t.QG.length:Int)=1:=by omega
    have c2:((t.QG.length:Int)==1)=false:=by simp[c1]
    have VQ:=I (show fD c.E (f+1) op t (c.at k.up)=.ok [.mk 2 t.QG 0 []] (c.at k.up)from by
     rw[FD c f op t _ ah,hg];simp only;rw[D7.plainName,if_neg h1])
    go_wp2_with fail
    refine(HSI.out w3 av.out).mono ?_;rintro _ w4 ⟨b,rfl,aa,hp,hm⟩;have jK:=I aa;have AP:=I hp;have rM:=I ((Mp.QH av.out).trans hm);have HZ:=I (show w.heap.size+1<w3.heap.size from dY.lt);have Nv:=hm.QN dY.out Zo Pf;clear dY aa hp hm t0 t1 t2 t3 ai;have dY:=I Nv;clear Nv;obtain⟨q0,q1,z0,z1,ab⟩:=af.two dY.out;unfold aG;go_wp2_with fail
    have n1:=dY.fT (V 0) (V 0);have iU:Mp c.g c.W0.heap.size w (aH w4 (w.heap.size+1) (V 0) (V 0)):=rM.aH (g:=w.heap.size+1) Ls (V 0) (V 0);have fA:=dS w4 (w.heap.size+1) (V 0) (V 0);simp only[aH]at n1 iU fA;generalize (auX (auX w4 (B_ (w.heap.size+1) 0) _) (B_ (w.heap.size+1) 1) _)=W4 at n1 iU fA|-;obtain⟨f0,f1,_⟩:=af.two n1
    (try simp only[Exit.inBlock,Exit.then])
    refine bodyPost_ret (v:=.tuple #[.slice (A_ b 0) 1 1,aG 0 0]) U_ rfl ?_;have am:=AP.mv fA Lb;rw[VQ.out]at HQ;exact HQ.out _ _ ⟨_,1,k.up,rfl,(jK.base (Nat.le_of_lt (Nat.lt_of_succ_lt HZ.out))).other dY.out Pf fA,rfl,Nat.le_succ _,am,iU⟩
  |some m=>
   have ar:alI c.tb t.QG=(m.params,true):=by unfold alI;rw[hg]
   rw[ar];have HGM:=I hg
   have VQ:=I (show fD c.E (f+1) op t (c.at k.up)=aln c.E f m.params op t (c.at k.up)from by
    rw[FD c f op t _ ah,hg])
   rw[VQ.out]at HQ aY;have oL:=I (H.QH av.out);obtain⟨ov3,hb3,_⟩:=oL.box;have q1:=hb3.cell 1;have z1:=hb3.frozen 1;have hg3:=hb3.lt;have e1:((k.p:Int)+1)=((k.p+1:Nat):Int):=P9
   have HE:=I e1;have agq:w.heap.size≠c.g:=Zo
   clear hb3 e1 ar hg;go_wp2_with fail
   have hn:=oL.next HK.out ((k.p:Int)+1) HE.out;have adg:=I (Ym.far (p:=B_ c.g 1) (λe=>by have h2:w.heap.size=c.g:=e;omega) (V ((k.p:Int)+1)));have Az:=I (dY.far (p:=B_ c.g 1) (λe=>by have h2:w.heap.size+1=c.g:=e;omega) (V ((k.p:Int)+1)));have AP:=I hn.1;have Es:=I ((Mp.QH av.out).trans hn.2);clear hn t0 t1 t2 t3 ai q1 z1 hg3;generalize (w3.setCell (B_ c.g 1) (V ((k.p:Int)+1)))=W5 at AP Es adg Az|-;have ac:=I (show w.heap.size+1<W5.heap.size from Az.lt);obtain⟨t0,t1,t2,t3,_,_,_,_,ai⟩:=af.QM adg.out;go_wp2_with fail
   refine(apM.out k.up op t m W5 AP.out (by have:=oJ.out;rw[Kp.alq];omega) (by have:=wH.out;rw[Kp.alq];show k.n+1000<=_;omega) kJ.out HGM.out aY.out).mono ?_;intro e w6 hres;generalize aln c.E f m.params op t (c.at k.up)=X at aY HQ hres;clear t0 t1 t2 t3 ai;cases X with
   |out=>exact absurd rfl aY.out
   |err i er=>
    obtain⟨aj,A,n,cp,rfl,hm⟩:=hres;have Dp:=I (Es.trans hm);have KO:=I (hm.QN Az.out Zo Pf);have F7:=I aj;clear hm aj;obtain⟨q0,q1,z0,z1,ab⟩:=af.two KO.out;unfold aG;go_wp2_with fail
    have n1:=KO.fT (V (i:Int)) (V (er:Int));have iU:Mp c.g c.W0.heap.size w (aH w6 (w.heap.size+1) (V (i:Int)) (V (er:Int))):=Dp.aH (g:=w.heap.size+1) Ls (V (i:Int)) (V (er:Int));have fA:=dS w6 (w.heap.size+1) (V (i:Int)) (V (er:Int));simp only[aH]at n1 iU fA;generalize (auX (auX w6 (B_ (w.heap.size+1) 0) _) (B_ (w.heap.size+1) 1) _)=W7 at n1 iU fA|-;obtain⟨f0,f1,_⟩:=af.two n1
    (try simp only[Exit.inBlock,Exit.then])
    exact asV
   |ok QS rest=>
    obtain⟨A,cp,k',rfl,aa,hdr,ad,hp,hm⟩:=hres;have Dp:=I (Es.trans hm);have KO:=I (hm.QN Az.out Zo Pf);have jK:=I aa;have ao:=I hdr;have aJ:=I ad;have pg:=I hp;clear hm aa hdr ad hp;obtain⟨q0,q1,z0,z1,ab⟩:=af.two KO.out;unfold aG;go_wp2_with fail
    have n1:=KO.fT (V 0) (V 0);have iU:Mp c.g c.W0.heap.size w (aH w6 (w.heap.size+1) (V 0) (V 0)):=Dp.aH (g:=w.heap.size+1) Ls (V 0) (V 0);have fA:=dS w6 (w.heap.size+1) (V 0) (V 0);simp only[aH]at n1 iU fA;generalize (auX (auX w6 (B_ (w.heap.size+1) 0) _) (B_ (w.heap.size+1) 1) _)=W7 at n1 iU fA|-;obtain⟨f0,f1,_⟩:=af.two n1
    (try simp only[Exit.inBlock,Exit.then])
    refine bodyPost_ret (v:=.tuple #[.slice A QS.length cp,aG 0 0]) U_ rfl ?_;have am:=pg.mv fA (λb hb=>by have:=ax.out;subst hb;exact⟨by omega,by omega,_,_,Pf,KO.out⟩);exact HQ.out _ _ ⟨A,cp,k',rfl,(jK.base Es.size).other KO.out Pf fA,ao.out,by have:=aJ.out;rw[Kp.alq]at this;omega,am,iU⟩
end
end Go.Proofs.YtabjglnjjdcfmaaGreatDoor
