/- Part 19 of 48 of a proof. No condition. -/
import Derived.Defers
import Derived.Recover
import Derived.Test.YtnbeemkfmlfgfaaGreatDoorTm18
set_option maxRecDepth 100000
set_option maxHeartbeats 4000000
namespace Go.Proofs.YtnbeemkfmlfgfaaGreatDoor
section
open Go.RowKit
open Xp (Rs aX white aL au dV dP uB)
open U (E aA)
def NZ:Rs E→Rs E
 |.bad l2=>.bad l2
 |.ok e l2 c2=>match l2.dropWhile white with
  |[]=>.ok e [] c2
  |b::l3=>.bad (b::l3)
theorem ab3{l l1:List UInt8}(h:aL 60 0 (l.dropWhile white)=.bad l1):dV l=.bad l1:=by unfold dV;rw[h]
theorem adt{l l1:List UInt8}{u:Unit}{c:Nat}(h:aL 60 0 (l.dropWhile white)=.ok u l1 c):dV l=NZ (au 64 l1 0):=by
 unfold dV;rw[h]
 dsimp only
 cases au 64 l1 0 with
 |bad l2=>rfl
 |ok e l2 c2=>rfl
theorem Zp{e:E}{l2:List UInt8}{c2:Nat}(h:l2.dropWhile white=[]):NZ (.ok e l2 c2)=.ok e [] c2:=by unfold NZ;simp only[h]
theorem VG{e:E}{l2 l3:List UInt8}{b:UInt8}{c2:Nat}(h:l2.dropWhile white=b::l3):NZ (.ok e l2 c2)=.bad (b::l3):=by unfold NZ;simp only[h]
attribute [local go_sem] jg stillUpon
theorem Zq(S:ByteArray)(g:Nat)(l:List UInt8)(w:World)(hS:S.size≤1099511627776)(hX0:Xr S g l 0 w):Calls Tryz.prog 61 #[.pointer (some ⟨g,0,none⟩)] w fun e w'=>XE S g w (dV l) e w':=by
 have HX:=I hX0;have IZ:=I hX0.lt;have pg:=I (K8 S g hS 64 (Nat.le_refl _));clear hX0;have dh:=I ((M (fun _=>False) w).alloc (.cells Z 45));have gm:=I (O.new w 45 Z);have HX0:=I (HX.J.fresh dh.J);go_enter Tryz.func61,Tryz.ntmps61;go_wp2_with fail
 refine(lS S g 0 l _ hS HX0.J).mono ?_;rintro _ w1 ⟨rfl,ht,hx⟩;have hgl:=IZ.J;have bS:=I hx;have HT1:=I (show Touch (fun b=>b=g) w w1 from(dh.J.mono fun _ h=>h.elim).trans ht);have HR1:=I (ht.blk gm.J fun h=>by omega);clear ht hx HX0 dh gm HX;generalize decide ((l.dropWhile white).length<l.length)=z0;go_wp2_with fail
 have adu:=I (show Calls Tryz.prog 109 #[.pointer (some ⟨g,0,none⟩),.int .u8 60] w1 fun e w'=>XU S g w1 (aL 60 0 (l.dropWhile white)) e w' from qb S g 0 60 _ w1 hS bS.J);refine adu.J.mono ?_;intro e w2 he;cases hr:aL 60 0 (l.dropWhile white)with
 |bad l3=>
  have aG:=I (ab3 hr);rw[hr]at he;obtain⟨rfl,ht⟩:=he;refine⟨rfl,(?_:XE S g w (dV l) _ _)⟩;rw[aG.J];exact⟨rfl,HT1.J.trans ht⟩
 |ok u l1 c1=>
 have hc1:=rU hr;rw[hc1]at hr;have HDK:=I (adt hr);rw[hr]at he;obtain⟨rfl,ht,hx⟩:=he;have eT:=I hx;have HT2:=I (HT1.J.trans ht);have HR2:=I (ht.blk HR1.J fun h=>by omega);clear ht hx hr hc1 adu bS HT1 HR1 c1;go_wp2_with fail
 have Q4:=I (pg.J 1 l1 0 w2 (by decide) eT.J);refine Q4.J.mono ?_;intro e w3 he;cases hr:au 64 l1 0 with
 |bad l3=>
  have aG:=I (show dV l=.bad l3 by rw[HDK.J,hr];rfl);rw[hr]at he;obtain⟨rfl,ht⟩:=he;refine⟨rfl,(?_:XE S g w (dV l) _ _)⟩;rw[aG.J];exact⟨rfl,HT2.J.trans ht⟩
 |ok x l2 c2=>
 have HRR:=I hr;obtain⟨en,dZ,iw,jA⟩:=x;rw[hr]at he;obtain⟨ea,ek,rfl,ht,hst,hx⟩:=he;obtain⟨Aa,ca,oF⟩:=hst.now.1.slice;obtain⟨Ab,cb,eB⟩:=hst.now.2.1.slice;simp only[E.kids,E.attrs]at oF eB;subst oF eB;unfold ev;simp only[E.name,E.text];have iP:=I hx;have HT3:=I (HT2.J.trans ht);have HR3:=I (ht.blk HR2.J fun h=>by omega);have hr2:=HR2.J.lt;have rD:=I (show aZ (fun k=>k<w.heap.size+1) w3 fun W=>bN W (.mk en dZ iw jA) (.slice Aa dZ.length ca) (.slice Ab iw.length cb)from hst.mono fun i _ hi=>by omega);clear ht hst hx hr Q4 eT HT2 HR2 hr2;go_wp2_with fail
 have iU:=I (HT3.J.alloc (.cells #[.string ⟨en.toArray⟩,.slice Aa dZ.length ca,.slice Ab iw.length cb,.string ⟨jA.toArray⟩] 45));have gD:=I (iP.J.fresh ((M _ w3).alloc (.cells #[.string ⟨en.toArray⟩,.slice Aa dZ.length ca,.slice Ab iw.length cb,.string ⟨jA.toArray⟩] 45)));have HR4:=I (HR3.J.alloc (.cells #[.string ⟨en.toArray⟩,.slice Aa dZ.length ca,.slice Ab iw.length cb,.string ⟨jA.toArray⟩] 45));have iI:=I (O.new w3 45 #[.string ⟨en.toArray⟩,.slice Aa dZ.length ca,.slice Ab iw.length cb,.string ⟨jA.toArray⟩]);have xC:=I (rD.J.fresh ((M _ w3).alloc (.cells #[.string ⟨en.toArray⟩,.slice Aa dZ.length ca,.slice Ab iw.length cb,.string ⟨jA.toArray⟩] 45)));generalize (w3.alloc (.cells #[.string ⟨en.toArray⟩,.slice Aa dZ.length ca,.slice Ab iw.length cb,.string ⟨jA.toArray⟩] 45))=W4 at iU gD HR4 iI xC⊢;obtain⟨E3,hE3⟩:∃k,k=w3.heap.size:=⟨_,rfl⟩;have hge:w.heap.size<E3:=by have:=HR3.J.lt;omega
 rw[←hE3]at iI⊢;clear HT3 iP HR3 rD hE3;refine(lS S g c2 l2 _ hS gD.J).mono ?_;rintro _ w5 ⟨rfl,ht,hx⟩;have dI:=I hx;have eu:=I (iU.J.trans ht);have qj:=I (ht.blk HR4.J fun h=>by omega);have bV:=I (ht.blk iI.J fun h=>by omega);have SX:=I (xC.J.step ht (fun i _ hi=>by show i<w.heap.size+1;omega) fun i _ hi=>hi);clear ht hx gD iU HR4 iI xC;generalize decide ((l2.dropWhile white).length<l2.length)=z1;obtain⟨q0,q1,q2,_,_,_,hg5⟩:=fV dI.J.blk;have hle:=dI.J.len;cases hd:l2.dropWhile white with
 |cons b l3=>
  have aG:=I (show dV l=.bad (b::l3) by rw[HDK.J,HRR.J];exact VG hd);have fD:=I (show Xr S g (b::l3) c2 w5 by rw[←hd];exact dI.J);rw[hd]at q1 hle;rw[List.length_cons]at hle;have d1:decide (((S.size-(b::l3).length:Nat):Int)<(S.size:Int))=true:=dT (by rw[List.length_cons];omega);have dG:decide (S.size-(b::l3).length<S.size)=true:=dT (by rw[List.length_cons];omega);generalize S.size-(b::l3).length=k at q1 d1 dG;go_wp2
  go_quiet (fail)
  go_wp2_with fail
  refine(iq S g (b::l3) c2 _ (fD.J.fresh ((M _ _).drewN _))).mono ?_;rintro _ w6 ⟨rfl,hw⟩;subst hw;refine⟨rfl,(?_:XE S g w (dV l) _ _)⟩;rw[aG.J];exact⟨rfl,eu.J.drewN _⟩
 |nil=>
  have aG:=I (show dV l=.ok (.mk en dZ iw jA) [] c2 by rw[HDK.J,HRR.J];exact Zp hd);have fD:=I (show Xr S g [] c2 w5 by rw[←hd];exact dI.J);rw[hd]at q1;rw[show S.size-([]:List UInt8).length=S.size from rfl]at q1;have d1:decide ((S.size:Int)<(S.size:Int))=false:=dF (by omega);have dG:decide (S.size<S.size)=false:=dF (by omega);go_wp2
  go_quiet (fail)
  refine aV (fun W=>ag w5 W) ((M _ _).drewN _) ?_;rintro w6 bu;have jV:=I (fD.J.fresh bu);have dS:=I (eu.J.trans (bu.mono fun _ h=>h.elim));have qN:=I (bu.blk qj.J fun h=>h);have ql:=I (bu.blk bV.J fun h=>h);have jR:=I (SX.J.fresh bu);clear bu q0 q1 q2 d1 dG hd dI eu qj bV SX fD;obtain⟨e0,e1,e2,e3,_,_,_,_,_⟩:=O.four ql.J;obtain⟨_,_,_,_,z0,z1,z2,z3,hlz⟩:=O.four qN.J;obtain⟨t0,t1,t2,t3,_,_,_,_,_⟩:=O.four (qN.J.dJ (.string ⟨en.toArray⟩) (.slice Aa dZ.length ca) (.slice Ab iw.length cb) (.string ⟨jA.toArray⟩));simp only[aH]at t0 t1 t2 t3;have IU:=(M (fun k=>k=w.heap.size) w6).aH (g:=w.heap.size) (.inl rfl) (.string ⟨en.toArray⟩) (.slice Aa dZ.length ca) (.slice Ab iw.length cb) (.string ⟨jA.toArray⟩)
  have IW:=I (show XE S g w (.ok (.mk en dZ iw jA) [] c2) (.returned (.agg #[.string ⟨en.toArray⟩,.slice Aa dZ.length ca,.slice Ab iw.length cb,.string ⟨jA.toArray⟩])) (aH w6 w.heap.size (.string ⟨en.toArray⟩) (.slice Aa dZ.length ca) (.slice Ab iw.length cb) (.string ⟨jA.toArray⟩))from
   ⟨_,_,rfl,dS.J.aH (.inr (Nat.le_refl _)) _ _ _ _,jR.J.step IU (fun i _ hi=>by show i<w.heap.size+1;omega) (fun i _ hi=>by show i<w.heap.size+1;omega),jV.J.move IU (by omega)⟩)
  clear IU;go_wp2
  refine bodyPost_ret (v:=.agg #[.string ⟨en.toArray⟩,.slice Aa dZ.length ca,.slice Ab iw.length cb,.string ⟨jA.toArray⟩]) (by simp[results,Tryz.results61,go_sem,t0,t1,t2,t3]) rfl ?_;rw[aG.J];exact IW.J
theorem Ey{P:Program}(v:Value)(xT t:TypeId)(w:World)(ht:P.underlying t=some (.int .i64)):(Instr.typeAssert (.iface t v) xT t true).run P w=.ok (.tuple #[v,.bool true]) w:=by
 simp[Instr.typeAssert,run_underlying ht]
theorem N7(k b ba br:Nat)(pv:Addr)(w:World){ta te:TypeId}{x0 x1 x2 x3 xa xr:Value}(hb:O w b 45 #[x0,x1,x2,x3])(ha:O w ba ta #[xa])(hr:O w br te #[xr])(h1:b≠ba)(h2:b≠br)(h3:ba≠br):
  CallsD Tryz.prog 60 #[.pointer (some ⟨b,0,none⟩),.pointer (some ⟨ba,0,none⟩),.pointer (some ⟨br,0,none⟩),.pointer (some pv)] (.panicking (QO k)) w fun e u' w'=>
   e=.returned (.tuple #[])∧u'=.panicking [{v:=.iface 122 (.int .i64 (k:Int)),recovered:=true}]∧w'=((aH w b (.string ⟨#[]⟩) (.slice none 0 0) (.slice none 0 0) (.string ⟨#[]⟩)).setCell ⟨ba,0,none⟩ (.int .i64 (k:Int))).setCell ⟨br,0,none⟩ (.int .i64 3):=by
 unfold QO;refine callsD_of_wpS Tryz.func60 rfl fun c₀ cs hu=>?_
 apply wpS_seq
 apply wpS_region
 simp[wpOpsS,go_sem,recoverD,hu,Tryz.ntmps60,Exit.thenS]
 refine wpS_of_wp ?_;have hta:=fun(w:World)=>Ey (P:=Tryz.prog) (.int .i64 (k:Int)) 20 122 w Tryz.underlying122
 obtain⟨e0,e1,e2,e3,y0,y1,y2,y3,hlb⟩:=O.four hb;have a0:w.cell? ⟨ba,0,none⟩=some xa:=ha.cell 0;have a1:=ha.frozen 0;have r0:w.cell? ⟨br,0,none⟩=some xr:=hr.cell 0;have r1:=hr.frozen 0;have hla:=ha.lt;have hlr:=hr.lt;have h1':ba≠b:=fun h=>h1 h.symm
 have h2':br≠b:=fun h=>h2 h.symm
 have h3':br≠ba:=fun h=>h3 h.symm
 clear hb ha hr;show Code.wp Tryz.prog _ _ {tmps:=#[.pointer (some ⟨b,0,none⟩),.pointer (some ⟨ba,0,none⟩),.pointer (some ⟨br,0,none⟩),.pointer (some pv),undef,undef,undef,.iface 122 (.int .i64 (k:Int)),undef,undef,undef,undef,undef,undef,undef,undef,undef,undef,undef],defers:=[]} w;go_wp2_with fail
 exact⟨rfl,_,rfl,_,results_none rfl _ _ _,rfl,rfl,rfl⟩
theorem P7(pe pa pr pv:Addr)(w:World):
  CallsD Tryz.prog 60 #[.pointer (some pe),.pointer (some pa),.pointer (some pr),.pointer (some pv)] .returning w fun e u' w'=>
   e=.returned (.tuple #[])∧u'=.returning∧w'=w:=by
 refine callsD_of_wpS Tryz.func60 rfl fun c₀ cs hu=>?_
 apply wpS_seq
 apply wpS_region
 simp[wpOpsS,go_sem,recoverD,hu,Tryz.ntmps60,Exit.thenS]
 refine wpS_of_wp ?_;show Code.wp Tryz.prog _ _ {tmps:=#[.pointer (some pe),.pointer (some pa),.pointer (some pr),.pointer (some pv),undef,undef,undef,.nilIface,undef,undef,undef,undef,undef,undef,undef,undef,undef,undef,undef],defers:=[]} w;go_wp2_with fail
 cases c₀;simp_all [bodyPostS,results,Tryz.results60]
theorem yS{w:World}{n:Nat}(hn:w.heap.size=n)(t:TypeId)(cs:Array Value):O (w.alloc (.cells cs t)) n t cs:=hn▸O.new w t cs
theorem VH{T l9:List UInt8}(h:dV T=.bad l9):dP T=(uB,((T.length-l9.length:Nat):Int),3):=by
 unfold dP;rw[h];have:=(Xp.BI T).len;rw[h]at this;have h2:l9.length≤T.length:=this;show(uB,(T.length:Int)-l9.length,(3:Int))=_;rw[show(T.length:Int)-l9.length=((T.length-l9.length:Nat):Int) by omega]
theorem Zr{T l9:List UInt8}{x:E}{c:Nat}(h:dV T=.ok x l9 c):dP T=(x,0,0):=by unfold dP;rw[h]
theorem SY(S:ByteArray)(w:World)(hS:S.size≤1099511627776):Calls Tryz.prog 32 #[.string S] w fun e w'=>∃va vk,e=.returned (.tuple #[ev (dP S.data.toList).1 va vk,.int .i64 (dP S.data.toList).2.1,.int .i64 (dP S.data.toList).2.2])∧Made w w' fun W=>bN W (dP S.data.toList).1 va vk:=by
 have hmf:∀(fn:Fn) (first cap:Array Value) (w:World),(Instr.makeFunc fn first cap).run Tryz.prog w=.ok (.func fn first cap) w:=fun _ _ _ _=>rfl
 have nU:=I (show O (((((w.alloc (.cells Z 45)).alloc (.cells #[.int .i64 0] 3)).alloc (.cells #[.int .i64 0] 26)).alloc (.cells #[.string S,.int .i64 0,.int .i64 0] 121)).alloc (.cells #[.pointer (some ⟨w.heap.size+1+1+1,0,none⟩)] 119)) w.heap.size 45 Z from((((O.new w _ _).alloc _).alloc _).alloc _).alloc _);have VI:=I (show O (((((w.alloc (.cells Z 45)).alloc (.cells #[.int .i64 0] 3)).alloc (.cells #[.int .i64 0] 26)).alloc (.cells #[.string S,.int .i64 0,.int .i64 0] 121)).alloc (.cells #[.pointer (some ⟨w.heap.size+1+1+1,0,none⟩)] 119)) (w.heap.size+1) 3 #[.int .i64 0]from(((yS (by simp) _ _).alloc _).alloc _).alloc _);have gm:=I (show O (((((w.alloc (.cells Z 45)).alloc (.cells #[.int .i64 0] 3)).alloc (.cells #[.int .i64 0] 26)).alloc (.cells #[.string S,.int .i64 0,.int .i64 0] 121)).alloc (.cells #[.pointer (some ⟨w.heap.size+1+1+1,0,none⟩)] 119)) (w.heap.size+1+1) 26 #[.int .i64 0]from((yS (by simp) _ _).alloc _).alloc _);have I4:=I (show O (((((w.alloc (.cells Z 45)).alloc (.cells #[.int .i64 0] 3)).alloc (.cells #[.int .i64 0] 26)).alloc (.cells #[.string S,.int .i64 0,.int .i64 0] 121)).alloc (.cells #[.pointer (some ⟨w.heap.size+1+1+1,0,none⟩)] 119)) (w.heap.size+1+1+1) 121 #[.string S,.int .i64 0,.int .i64 0]from(yS (by simp) _ _).alloc _);have HP0:=I (show O (((((w.alloc (.cells Z 45)).alloc (.cells #[.int .i64 0] 3)).alloc (.cells #[.int .i64 0] 26)).alloc (.cells #[.string S,.int .i64 0,.int .i64 0] 121)).alloc (.cells #[.pointer (some ⟨w.heap.size+1+1+1,0,none⟩)] 119)) (w.heap.size+1+1+1+1) 119 #[.pointer (some ⟨w.heap.size+1+1+1,0,none⟩)]from yS (by simp) _ _);have dh:=I (show ag w (((((w.alloc (.cells Z 45)).alloc (.cells #[.int .i64 0] 3)).alloc (.cells #[.int .i64 0] 26)).alloc (.cells #[.string S,.int .i64 0,.int .i64 0] 121)).alloc (.cells #[.pointer (some ⟨w.heap.size+1+1+1,0,none⟩)] 119))from(((((M _ w).alloc _).alloc _).alloc _).alloc _).alloc _)
 go_enter_defers Tryz.func32,Tryz.ntmps32
 go_wp2_with fail
 generalize (((((w.alloc (.cells Z 45)).alloc (.cells #[.int .i64 0] 3)).alloc (.cells #[.int .i64 0] 26)).alloc (.cells #[.string S,.int .i64 0,.int .i64 0] 121)).alloc (.cells #[.pointer (some ⟨w.heap.size+1+1+1,0,none⟩)] 119))=w5 at nU VI gm I4 HP0 dh⊢;have HX0:=I (show Xr S (w.heap.size+1+1+1) S.data.toList 0 w5 from⟨by rw[show S.size-S.data.toList.length=0 by simp];exact I4.J,aX.refl _⟩);clear I4;refine(Zq S (w.heap.size+1+1+1) S.data.toList w5 hS HX0.J).mono ?_;intro e w6 he;cases hr:dV S.data.toList with
 |bad l9=>
  have HPB:=I (VH hr);rw[hr]at he;obtain⟨rfl,ht⟩:=he;have N8:=I (ht.blk nU.J fun h=>by omega);have K9:=I (ht.blk VI.J fun h=>by omega);have vM:=I (ht.blk gm.J fun h=>by omega);have bT:=I (dh.J.trans' ht fun k hk=>.inr (by omega));clear ht hr nU VI gm HP0 dh HX0;refine leaves_cons (f:=60) (args:=#[.pointer (some ⟨w.heap.size,0,none⟩),.pointer (some ⟨w.heap.size+1,0,none⟩),.pointer (some ⟨w.heap.size+1+1,0,none⟩),.pointer (some ⟨w.heap.size+1+1+1+1,0,none⟩)]) (by simp) (by simp[go_sem]) ?_;refine(N7 (S.size-l9.length) w.heap.size (w.heap.size+1) (w.heap.size+1+1) _ w6 N8.J K9.J vM.J (by omega) (by omega) (by omega)).mono ?_;rintro e u' w7 ⟨rfl,rfl,hw⟩;have hE7:O w7 w.heap.size 45 Z:=by rw[hw];exact((N8.J.dJ _ _ _ _).far (p:=⟨w.heap.size+1,0,none⟩) (by show w.heap.size≠w.heap.size+1;omega) _).far (p:=⟨w.heap.size+1+1,0,none⟩) (by show w.heap.size≠w.heap.size+1+1;omega) _
  have hA7:O w7 (w.heap.size+1) 3 #[.int .i64 ((S.size-l9.length:Nat):Int)]:=by rw[hw];exact((K9.J.MH (by omega) _ _ _ _).put 0 _).far (p:=⟨w.heap.size+1+1,0,none⟩) (by show w.heap.size+1≠w.heap.size+1+1;omega) _
  have hR7:O w7 (w.heap.size+1+1) 26 #[.int .i64 3]:=by rw[hw];exact(((vM.J.MH (by omega) _ _ _ _).far (p:=⟨w.heap.size+1,0,none⟩) (by show w.heap.size+1+1≠w.heap.size+1;omega) _).put 0 _)
  have hF7:ag w w7:=by rw[hw];exact bT.J.trans' ((((M (fun k=>w.heap.size≤k) w6).aH (.inl (Nat.le_refl _)) _ _ _ _).setCell (p:=⟨w.heap.size+1,0,none⟩) (.inl (Nat.le_succ _)) _).setCell (p:=⟨w.heap.size+1+1,0,none⟩) (.inl (by show w.heap.size≤w.heap.size+1+1;omega)) _) fun k hk=>.inr hk
  clear hw N8 K9 vM bT;obtain⟨e0,e1,e2,e3,_⟩:=O.four hE7;have a0:w7.cell? ⟨w.heap.size+1,0,none⟩=some (.int .i64 ((S.size-l9.length:Nat):Int)):=hA7.cell 0;have r0:w7.cell? ⟨w.heap.size+1+1,0,none⟩=some (.int .i64 3):=hR7.cell 0;refine⟨.tuple #[.agg Z,.int .i64 ((S.size-l9.length:Nat):Int),.int .i64 3],by simp[results,Tryz.results32,go_sem,e0,e1,e2,e3,a0,r0],?_⟩;rw[HPB.J];have hlS:S.data.toList.length=S.size:=by simp
  refine⟨.slice none 0 0,.slice none 0 0,by rw[hlS];rfl,hF7,fun W _=>⟨dW.nil _ _ _,dL.nil none 0,Nat.zero_le _,Nat.zero_le _⟩⟩
 |ok x l9 c9=>
  have HPB:=I (Zr hr);obtain⟨en,dZ,iw,jA⟩:=x;rw[hr]at he;obtain⟨ea,ek,rfl,ht,hst,hx⟩:=he;obtain⟨Aa,ca,oF⟩:=hst.now.1.slice;obtain⟨Ab,cb,eB⟩:=hst.now.2.1.slice;simp only[E.kids,E.attrs]at oF eB;subst oF eB;unfold ev;simp only[E.name,E.text];have N8:=I (ht.blk nU.J fun h=>by omega);have K9:=I (ht.blk VI.J fun h=>by omega);have vM:=I (ht.blk gm.J fun h=>by omega);have bT:=I (dh.J.trans' ht fun k hk=>.inr (by omega));have fM:=I (show aZ (fun k=>k<w5.heap.size) w6 fun W=>bN W (.mk en dZ iw jA) (.slice Aa dZ.length ca) (.slice Ab iw.length cb)from hst);have hsz:=HP0.J.lt;clear ht hst hx hr nU VI gm HP0 dh HX0;obtain⟨e0,e1,e2,e3,y0,y1,y2,y3,hlb⟩:=O.four N8.J;have a0:w6.cell? ⟨w.heap.size+1,0,none⟩=some (.int .i64 0):=K9.J.cell 0;have a1:=K9.J.frozen 0;have r0:w6.cell? ⟨w.heap.size+1+1,0,none⟩=some (.int .i64 0):=vM.J.cell 0;have r1:=vM.J.frozen 0;go_wp2_with fail
  refine leaves_cons (f:=60) (args:=#[.pointer (some ⟨w.heap.size,0,none⟩),.pointer (some ⟨w.heap.size+1,0,none⟩),.pointer (some ⟨w.heap.size+1+1,0,none⟩),.pointer (some ⟨w.heap.size+1+1+1+1,0,none⟩)]) (by simp) (by simp[go_sem]) ?_;refine(P7 _ _ _ _ _).mono ?_;rintro e u' w7 ⟨rfl,rfl,hw⟩;clear e0 e1 e2 e3 y0 y1 y2 y3 hlb a0 a1 r0 r1;replace hw:w7=((aH w6 w.heap.size (.string ⟨en.toArray⟩) (.slice Aa dZ.length ca) (.slice Ab iw.length cb) (.string ⟨jA.toArray⟩)).setCell ⟨w.heap.size+1,0,none⟩ (.int .i64 0)).setCell ⟨w.heap.size+1+1,0,none⟩ (.int .i64 0):=hw;have hE7:O w7 w.heap.size 45 #[.string ⟨en.toArray⟩,.slice Aa dZ.length ca,.slice Ab iw.length cb,.string ⟨jA.toArray⟩]:=by rw[hw];exact((N8.J.dJ _ _ _ _).far (p:=⟨w.heap.size+1,0,none⟩) (by show w.heap.size≠w.heap.size+1;omega) _).far (p:=⟨w.heap.size+1+1,0,none⟩) (by show w.heap.size≠w.heap.size+1+1;omega) _
  have hA7:O w7 (w.heap.size+1) 3 #[.int .i64 0]:=by rw[hw];exact((K9.J.MH (by omega) _ _ _ _).put 0 _).far (p:=⟨w.heap.size+1+1,0,none⟩) (by show w.heap.size+1≠w.heap.size+1+1;omega) _
  have hR7:O w7 (w.heap.size+1+1) 26 #[.int .i64 0]:=by rw[hw];exact(((vM.J.MH (by omega) _ _ _ _).far (p:=⟨w.heap.size+1,0,none⟩) (by show w.heap.size+1+1≠w.heap.size+1;omega) _).put 0 _)
  have hT7:Touch (fun k=>k=w.heap.size∨k=w.heap.size+1∨k=w.heap.size+1+1) w6 w7:=by rw[hw];exact(((M (fun k=>k=w.heap.size∨k=w.heap.size+1∨k=w.heap.size+1+1) w6).aH (.inl (.inl rfl)) _ _ _ _).setCell (p:=⟨w.heap.size+1,0,none⟩) (.inl (.inr (.inl rfl))) _).setCell (p:=⟨w.heap.size+1+1,0,none⟩) (.inl (.inr (.inr rfl))) _
  clear hw N8 K9 vM;obtain⟨e0,e1,e2,e3,_⟩:=O.four hE7;have a0:w7.cell? ⟨w.heap.size+1,0,none⟩=some (.int .i64 0):=hA7.cell 0;have r0:w7.cell? ⟨w.heap.size+1+1,0,none⟩=some (.int .i64 0):=hR7.cell 0;refine⟨.tuple #[.agg #[.string ⟨en.toArray⟩,.slice Aa dZ.length ca,.slice Ab iw.length cb,.string ⟨jA.toArray⟩],.int .i64 0,.int .i64 0],by simp[results,Tryz.results32,go_sem,e0,e1,e2,e3,a0,r0],?_⟩;rw[HPB.J];exact⟨.slice Aa dZ.length ca,.slice Ab iw.length cb,rfl,bT.J.trans' hT7 fun k hk=>.inr (by omega),fM.J.step hT7 (fun i _ hi=>by show i<w5.heap.size;omega) fun i _ hi=>by show i<w5.heap.size;omega⟩
end
section
open Go.RowKit
abbrev Low(W0 w:World):Prop:=Touch (fun k=>W0.heap.size≤k) W0 w
theorem adw{W0:World}{q:Addr}{v:Value}(h:W0.cell? q=some v):¬W0.heap.size≤q.block:=by
 have:=bL (a:=q) (v:=v) h;omega
theorem Low.cell{W0 w:World}(hl:Low W0 w){q:Addr}{v:Value}(h:W0.cell? q=some v):w.cell? q=some v:=Touch.cell hl h (adw h)
theorem Low.fresh{W0 w w':World}(hl:Low W0 w)(hf:ag w w'):Low W0 w':=hl.trans' hf fun _ h=>h.elim
abbrev nv(n:Tr.Nd)(sl:Value):Value:=.agg #[.int .i64 n.kind,.string ⟨n.text.toArray⟩,.int .i64 n.ai,sl]
end
section
open Go.RowKit
open Tr (Nd)
theorem La:(Tryz.prog.info? 31).map (fun i=>(i.zero,i.size,i.bytes))=some (some (.agg Y),4,56):=by kernel_rfl
def kR(w w':World)(n:Nd)(v:Value):Prop:=∃sl,v=nv n sl∧ag w w'∧n.text.length≤maxLen∧aZ (fun k=>k<w.heap.size) w' fun W=>aO W n.kids sl
theorem iH.one{W:World}{n:Nd}{sl:Value}(h:aO W n.kids sl)(ht:n.text.length≤maxLen):iH W [n] [.int .i64 n.kind,.string ⟨n.text.toArray⟩,.int .i64 n.ai,sl]:=⟨sl,[],rfl,h,ht,rfl⟩
def dU(B:Nat)(w:World)(ns:List Nd)(v:Value):Prop:=B≤w.heap.size∧∃cs,w.ownsRow B 31 4 v ns.length cs∧aZ (fun k=>v.ownBlock=some k∨k<B) w fun W=>iH W ns cs
theorem dU.nil{B:Nat}{w:World}(hB:B≤w.heap.size):dU B w [] (.slice none 0 0):=⟨hB,[],World.ownsRow_nil _ _ _ _,fun _ _=>rfl⟩
theorem dU.jE{B:Nat}{w:World}{ns:List Nd}{v:Value}(h:dU B w ns v):∀k,v.ownBlock=some k→B≤k∧k<w.heap.size:=fun k hk=>by
 obtain⟨_,cs,h1,_⟩:=h;exact h1.lt k hk
theorem dU.slice{B:Nat}{w:World}{ns:List Nd}{v:Value}(h:dU B w ns v):∃A cap,v=.slice A ns.length cap:=by
 obtain⟨_,cs,h1,_⟩:=h;exact rT h1
theorem dU.mv{B:Nat}{w w1:World}{ns:List Nd}{v:Value}{S:Nat→Prop}(h:dU B w ns v)(ht:Touch S w w1)(hS:∀k,S k→k<w.heap.size→k<B):dU B w1 ns v:=by
 obtain⟨hB,cs,h1,h2⟩:=h;refine⟨Nat.le_trans hB ht.size,cs,fI h1 ht fun k hk hs=>?_,h2.step ht (fun i hi hs=>.inr (hS i hs hi)) (fun _ _ h=>h)⟩;have h3:=h1.lt k hk;have:=hS k hs h3.2;omega
theorem dU.fresh{B:Nat}{w w1:World}{ns:List Nd}{v:Value}(h:dU B w ns v)(ht:ag w w1):dU B w1 ns v:=h.mv ht fun _ h=>h.elim
theorem dU.rep{B:Nat}{w:World}{ns:List Nd}{v:Value}(h:dU B w ns v):aO w ns v:=by
 obtain⟨_,cs,h1,h2⟩:=h;exact h2.now.own h1
theorem dU.done{B:Nat}{w:World}{ns:List Nd}{v:Value}(h:dU B w ns v):aZ (fun k=>k<B) w fun W=>aO W ns v:=fun _ hW=>(h.mv hW fun _ h _=>h).rep
section
variable {w:World} {ops:Array Oper} {rest:List Oper} {o:Oper} {a:Act} {Q:Exit→Act→World→Prop}
theorem nA(hgd:o.guard=none)(s x:Operand)
  (ho:o.op=.call {callee:=.builtin .append,args:=#[s,x],argTypes:=#[29,29]})
  {B n g:Nat} {ns:List Nd} {v:Value} (h:dU B w ns v) (hn:ns.length=n) (hs:a.eval s=v) (m:Nd) {sl:Value} (hb:O w g 31 #[.int .i64 m.kind,.string ⟨m.text.toArray⟩,.int .i64 m.ai,sl]) (hx:a.eval x=.slice (some ⟨g,0,none⟩) 1 1)
  (w0:Nat) (hB:B≤w0) (hown:∀k,v.ownBlock=some k→k<w0) (htl:m.text.length≤maxLen) (z8:aZ (fun k=>k<w0) w fun W=>aO W m.kids sl) (hlen:n<2^40)
  (hK:∀A cp w',dU B w' (ns++[m]) (.slice A (n+1) cp)→Touch (fun k=>v.ownBlock=some k) w w'→((Value.slice A (n+1) cp).ownBlock=v.ownBlock∨(Value.slice A (n+1) cp).ownBlock=some w.heap.size)→wpList Tryz.prog ops Q rest (a.put o.dst (.slice A (n+1) cp)) w'):wpList Tryz.prog ops Q (o::rest) a w:=by
 subst hn;obtain⟨hBw,cs,h1,h2⟩:=h;obtain⟨i,hi,hz0,hz1,hz2⟩:=info_parts La;have hv:=z8.now
 have h3:∀u∈[Value.int .i64 m.kind,.string ⟨m.text.toArray⟩,.int .i64 m.ai,sl],u.oneCell'=true:=by
  intro u hu;simp only[List.mem_cons,List.not_mem_nil,or_false]at hu
  rcases hu with rfl|rfl|rfl|rfl
  ·rfl
  ·rfl
  ·rfl
  ·exact hv.oneCell
 refine jT _ hgd s x 29 ho B 31 i _ 4 56 Tryz.underlying29 hi hz0 hz1 hz2 rfl (by decide) v ns.length cs hs h1 _ 1 _ hx (Src.xR hb rfl) h3 (by simp only[maxLen];omega) (by omega) hBw fun v' w' ho' hgr hv'=>?_
 obtain⟨A,cp,rfl⟩:=rT ho';have ht:Touch (fun k=>v.ownBlock=some k) w w':=Touch.grown (M _ _) hgr fun k hk=>.inl hk
 refine hK A cp w' ⟨Nat.le_trans hBw hgr.size,_,by rw[List.length_append];exact ho',?_⟩ ht hv'
 have hS:∀i,i<w.heap.size→((Value.slice A (ns.length+1) cp).ownBlock=some i∨i<B)→(v.ownBlock=some i∨i<B):=fun i hi hs=>by
  rcases hs with hs|hs
  ·rcases hv' with h6|h6<;>rw[h6]at hs
   ·exact .inl hs
   ·cases hs;omega
  ·exact .inr hs
 refine((h2.step ht (fun i _ hs=>.inl hs) hS).and (z8.step ht (fun i hi hs=>hown i hs) fun i hi hs=>?_)).imp fun W ⟨h6,h7⟩=>h6.append (iH.one h7 htl)
 rcases hS i hi hs with h6|h6
 ·exact hown i h6
 ·omega
end
end
namespace U
open Tr (Nd)
def lW(n:Bytes):Int:=if n=pO then 2 else if n=qC then 2 else if n=vL then 3 else if n=lF then 4 else 0
def aW:aA→Bytes→Bytes
 |[],_=>[]
 |x::l,nm=>if x.1=nm then x.2 else aW l nm
def dN:Nd:=.mk 1 [] 0 []
def jr:Nd:=.mk 0 [] 0 []
def eU(k:Int)(t:Bytes)(s:Nat):Bool:=Tr.valid (.mk 1 [] 0 [.mk k t 0 (List.replicate s dN)])
def Ez(nm:Bytes)(n:Nat):Bool:=
 if nm=bJ then true else if nm=ah then true else if nm=aJ then true
 else if nm=aU then decide (1≤n)
 else if nm=bM then decide (1≤n)&&decide (n≤16)
 else if nm=iL then decide (n=2)else if nm=fo then decide (n=2)else if nm=jo then decide (n=2)else if nm=jq then decide (n=2)
 else if nm=eF then decide (n=3)
 else if nm=dK then decide (n=1)else if nm=bF then decide (n=1)else if nm=aT then decide (n=1)
 else false
def iK(nm:Bytes):Nat:=if nm=bF then 1 else if nm=aT then 2 else 0
def abo(nm:Bytes)(a:aA):Bool:=
 if nm=bF then eU 10 (aW a cK) 1
 else if nm=aT then decide ((aW a fK).length=1)&&decide ((aW a dM).length=1)&&eU 11 (aW a fK++aW a dM) 1
 else true
def bQ:E→Bool
 |.mk n a ks t=>
  if lW n≠0 then(if n=pO then iR t else if n=qC then !iR t else true)&&a.isEmpty&&ks.isEmpty&&eU (lW n) t 0
  else t.isEmpty&&Ez n ks.length&&abo n a&&decide (a.length=iK n)
def kD:E→E→Bool
 |.mk n _ ks _,.mk m _ ls _=>
  if n=bJ∨n=ah∨n=aJ then !(decide (m=bJ)||decide (m=ah)||decide (m=aJ)||decide (m=bM))
  else if n=aU then decide (m=bM)&&(match ks with|.mk _ _ js _::_=>decide (ls.length=js.length)|[]=>false)
  else if n=bM then decide (m=aJ)
  else decide (m=ah)
mutual
def mM:E→Bool
 |.mk n a ks t=>bQ (.mk n a ks t)&&Dx (.mk n a ks t) ks
def Dx(p:E):List E→Bool
 |[]=>true
 |x::xs=>kD p x&&mM x&&Dx p xs
end
mutual
def vis:Bool→Nat→E→Bool×Nat
 |nL,k,.mk n a ks t=>if nL&&bQ (.mk n a ks t)then gN (.mk n a ks t) (k+1) ks else(false,k+1)
def gN:E→Nat→List E→Bool×Nat
 |_,k,[]=>(true,k)
 |p,k,x::xs=>match vis (kD p x) k x with
  |(true,k')=>gN p k' xs
  |(false,k')=>(false,k')
end
theorem zJ(nL:Bool)(k:Nat)(e:E):vis nL k e=if nL&&bQ e then gN e (k+1) e.kids else(false,k+1):=by cases e;rw[vis];rfl
theorem rP(e:E):mM e=(bQ e&&Dx e e.kids):=by cases e;rw[mM];rfl
theorem vO(p:E)(l:List E):Dx p l=l.all fun x=>kD p x&&mM x:=by
 induction l with
 |nil=>rw[Dx];rfl
 |cons x l ih=>rw[Dx,ih,List.all_cons]
theorem VJ(p:E)(l:List E)(h:∀x∈l,∀nL k,((nL&&mM x)=true→vis nL k x=(true,k+count x))∧((nL&&mM x)=false→(vis nL k x).1=false)):
  ∀k,(Dx p l=true→gN p k l=(true,k+aj l))∧(Dx p l=false→(gN p k l).1=false):=by
 induction l with
 |nil=>intro k;exact⟨fun _=>by rw[gN,aj];rfl,fun h=>by rw[Dx]at h;cases h⟩
 |cons x l ih=>
  intro k;have ih':=ih (fun y hy=>h y (List.mem_cons_of_mem _ hy));have hx:=h x (List.mem_cons_self ..) (kD p x) k;rw[Dx,gN];cases hb:kD p x&&mM x with
  |true=>
   rw[hx.1 hb,Bool.true_and];refine⟨fun hl=>?_,fun hl=>(ih' _).2 hl⟩;show gN p (k+count x) l=_;rw[(ih' _).1 hl,aj,Nat.add_assoc]
  |false=>
   rw[Bool.false_and];refine⟨fun h=>(by cases h),fun _=>?_⟩;have h3:=hx.2 hb
   rcases hv:vis (kD p x) k x with⟨b,k'⟩
   rw[hv]at h3;replace h3:b=false:=h3;rw[h3]
theorem Zt(e:E):∀nL k,((nL&&mM e)=true→vis nL k e=(true,k+count e))∧((nL&&mM e)=false→(vis nL k e).1=false):=by
 induction e using E.ind with
 |h e ih=>
  intro nL k;have hl:=VJ e e.kids ih (k+1);rw[zJ,rP,aI];cases nL with
  |false=>exact⟨fun h=>by simp at h,fun _=>rfl⟩
  |true=>
   cases ho:bQ e with
   |false=>exact⟨fun h=>by simp at h,fun _=>rfl⟩
   |true=>
    simp only[Bool.true_and,if_true];refine⟨fun h=>?_,hl.2⟩;rw[hl.1 h]
    congr 1
    omega
theorem EA(e:E):∀nL k,k<(vis nL k e).2∧(vis nL k e).2≤k+count e:=by
 induction e using E.ind with
 |h e ih=>
  intro nL k
  have hL:∀(p:E) (l:List E),(∀x∈l,x∈e.kids)→∀k,k≤(gN p k l).2∧(gN p k l).2≤k+aj l:=by
   intro p l
   induction l with
   |nil=>intro _ k;rw[gN,aj];exact⟨Nat.le_refl _,Nat.le_refl _⟩
   |cons x l ihl=>
    intro hm k;have hx:=ih x (hm x (List.mem_cons_self ..)) (kD p x) k;rw[gN,aj]
    rcases hv:vis (kD p x) k x with⟨b,k'⟩
    rw[hv]at hx;replace hx:k<k'∧k'≤k+count x:=hx;cases b with
    |true=>
     have:=ihl (fun y hy=>hm y (List.mem_cons_of_mem _ hy)) k';show k≤(gN p k' l).2∧(gN p k' l).2≤_;omega
    |false=>
     show k≤k'∧k'≤_;omega
  rw[zJ,aI];split
  ·have:=hL e e.kids (fun x hx=>hx) (k+1)
   omega
  ·show k<k+1∧k+1≤_
   omega
def mF(e:E):Int×Bool:=if(vis (decide (e.name=bJ)) 0 e).1 then(0,false)else(((vis (decide (e.name=bJ)) 0 e).2:Int)-1,true)
def N9(n:Bytes):Int:=if n=iL then 5 else if n=jo then 7 else if n=jq then 8 else if n=eF then 9 else 0
def Oa(n:Bytes)(a:aA)(t:Bytes)(rs cs:List Nd)(c:Nat):Nd:=
 if lW n≠0 then .mk (lW n) t 0 []
 else if n=dK then .mk 6 [] 0 (dN::rs.take 1)
 else if n=fo then .mk 6 [] 0 ((rs.drop 1).take 1++rs.take 1)
 else if n=bF then .mk 10 (aW a cK) 0 (rs.take 1)
 else if n=aT then .mk 11 (aW a fK++aW a dM) 0 (rs.take 1)
 else if n=aU then .mk 12 [] c cs
 else .mk (N9 n) [] 0 rs
def kg:List E→Nat
 |.mk _ _ ks _::_=>ks.length
 |[]=>0
mutual
def fA:E→Nd
 |.mk n a ks t=>Oa n a t (iy ks) (jF ks) (kg ks)
def di:List E→List Nd
 |[]=>[]
 |x::xs=>fA x::di xs
def iy:List E→List Nd
 |[]=>[]
 |.mk _ _ ks _::xs=>.mk 1 [] 0 (di ks)::iy xs
def jF:List E→List Nd
 |[]=>[]
 |.mk _ _ ks _::xs=>iy ks++jF xs
end
def dR(e:E):Nd:=.mk 1 [] 0 (di e.kids)
theorem sO(e:E):fA e=Oa e.name e.attrs e.text (iy e.kids) (jF e.kids) (kg e.kids):=by cases e;rw[fA];rfl
theorem CB(l:List E):di l=l.map fA:=by
 induction l with
 |nil=>rw[di];rfl
 |cons x l ih=>rw[di,ih];rfl
theorem qP(l:List E):iy l=l.map dR:=by
 induction l with
 |nil=>rw[iy];rfl
 |cons x l ih=>cases x;rw[iy,ih];rfl
theorem CE(l:List E):jF l=l.flatMap fun x=>iy x.kids:=by
 induction l with
 |nil=>rw[jF];rfl
 |cons x l ih=>cases x;rw[jF,ih,List.flatMap_cons];rfl
def kX(e:E):Nd×Int×Int:=if valid e then(if(mF e).2 then(jr,(mF e).1,19)else if Tr.valid (dR e)then(dR e,0,0)else(jr,0,6))else(jr,0,1)
end U
end Go.Proofs.YtnbeemkfmlfgfaaGreatDoor
