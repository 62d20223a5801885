/- Part 11 of 46 of a proof. No condition. -/
import Derived.Deep.RegionWith
import Derived.Test.YtcgbccfpcgaikaaGreatDoorYm4
set_option maxRecDepth 100000
set_option maxHeartbeats 400000
namespace Go.Proofs.YtcgbccfpcgaikaaGreatDoor
section
open Go.RowKit
def pV(s:ByteArray)(a p e:Int):Array Value:=
 (Array.ofFn (n:=256) fun i=>Value.int .u8 (Lx.cls i.1:Nat))++#[.string s,.int .i64 a,.int .i64 p,.int .i64 e]
def bu(w:World)(L:Nat)(s:ByteArray)(a p e:Int):Prop:=af w L 110 (pV s a p e)
theorem QX(s:ByteArray)(a p e:Int)(i:Nat)(h:i<256):(pV s a p e)[i]?=some (.int .u8 (Lx.cls i:Nat)):=by
 unfold pV;rw[Array.getElem?_append_left (by simpa using h)];simp[h]
theorem zJ(s:ByteArray)(a p e:Int)(i:Nat):(pV s a p e)[256+i]?=(#[Value.string s,.int .i64 a,.int .i64 p,.int .i64 e]:Array Value)[i]?:=by
 unfold pV;rw[Array.getElem?_append_right (by simp)];simp
theorem BO(s:ByteArray)(a p e:Int)(i:Nat)(u:Value):(pV s a p e).setIfInBounds (256+i) u=(Array.ofFn (n:=256) fun i=>Value.int .u8 (Lx.cls i.1:Nat))++(#[Value.string s,.int .i64 a,.int .i64 p,.int .i64 e].setIfInBounds i u):=by
 unfold pV;rw[Array.setIfInBounds_append_right (by simp)];simp
section
variable {w:World} {L:Nat} {s:ByteArray} {a p e:Int}
theorem bu.text(h:bu w L s a p e):w.cell? ⟨L,256,none⟩=some (.string s):=(af.cell h 256).trans (zJ s a p e 0)
theorem bu.at_(h:bu w L s a p e):w.cell? ⟨L,257,none⟩=some (.int .i64 a):=(af.cell h 257).trans (zJ s a p e 1)
theorem bu.place(h:bu w L s a p e):w.cell? ⟨L,258,none⟩=some (.int .i64 p):=(af.cell h 258).trans (zJ s a p e 2)
theorem bu.err(h:bu w L s a p e):w.cell? ⟨L,259,none⟩=some (.int .i64 e):=(af.cell h 259).trans (zJ s a p e 3)
theorem bu.cls(h:bu w L s a p e)(i:Nat)(hi:i<256):w.cell? ⟨L,i,none⟩=some (.int .u8 (Lx.cls i:Nat)):=(af.cell h i).trans (QX s a p e i hi)
theorem bu.drewN(h:bu w L s a p e)(n:Nat):bu (w.drewN n) L s a p e:=h
theorem bu.alloc(h:bu w L s a p e)(o:Obj):bu (w.alloc o) L s a p e:=af.alloc h o
theorem bu.setAt(h:bu w L s a p e)(x:Int):bu (w.setCell ⟨L,257,none⟩ (.int .i64 x)) L s x p e:=by
 have:=af.put h 257 (.int .i64 x);rw[show(257:Nat)=256+1 from rfl,BO]at this;exact this
theorem bu.abX(h:bu w L s a p e)(x:Int):bu (w.setCell ⟨L,258,none⟩ (.int .i64 x)) L s a x e:=by
 have:=af.put h 258 (.int .i64 x);rw[show(258:Nat)=256+2 from rfl,BO]at this;exact this
theorem bu.afE(h:bu w L s a p e)(x:Int):bu (w.setCell ⟨L,259,none⟩ (.int .i64 x)) L s a p x:=by
 have:=af.put h 259 (.int .i64 x);rw[show(259:Nat)=256+3 from rfl,BO]at this;exact this
theorem bu.touch{S:Nat→Prop}{w':World}(h:bu w L s a p e)(ht:Touch S w w')(hn:¬S L):bu w' L s a p e:=ht.blk h hn
theorem bu.lt(h:bu w L s a p e):L<w.heap.size:=af.lt h
end
theorem eD{w:World}{L:Nat}{s:ByteArray}{a p e:Int}(h:bu w L s a p e):w.cell? ⟨L,256,none⟩=some (.string s)∧w.cell? ⟨L,257,none⟩=some (.int .i64 a)∧w.cell? ⟨L,258,none⟩=some (.int .i64 p)∧w.cell? ⟨L,259,none⟩=some (.int .i64 e)∧
  w.frozen? ⟨L,257,none⟩=false∧w.frozen? ⟨L,258,none⟩=false∧w.frozen? ⟨L,259,none⟩=false∧L<w.heap.size:=
 ⟨h.text,h.at_,h.place,h.err,af.frozen h _,af.frozen h _,af.frozen h _,h.lt⟩
theorem QY(L:Nat)(s:ByteArray)(a p e pl er:Int)(w:World)(h:bu w L s a p e):
  Calls Tryz.prog 139 #[.pointer (some ⟨L,0,none⟩),.int .i64 pl,.int .i64 er] w fun e' w'=>e'=.returned (.tuple #[.agg #[.int .i64 0,.string ByteArray.empty,.int .i64 0,.int .i64 0],.bool false])∧bu w' L s a pl er∧Touch (·=L) w w':=by
 obtain⟨h1,h2,h3,h4,f1,f2,f3,hL⟩:=eD h;have H:=hid h;clear h;go_enter Tryz.func139,Tryz.ntmps139
 go_wp2
 refine bodyPost_ret (v:=.tuple #[.agg #[.int .i64 0,.string ByteArray.empty,.int .i64 0,.int .i64 0],.bool false]) (by simp[results,Tryz.results139,go_sem];rfl) rfl ⟨rfl,?_,?_⟩
 ·exact((H.out.abX pl).afE er).alloc _
 ·exact(((M (·=L) w).setCell (p:=⟨L,258,none⟩) (.inl rfl) _).setCell (p:=⟨L,259,none⟩) (.inl rfl) _).alloc _
theorem ng(L:Nat)(s:ByteArray)(a p e:Int)(x c:Int)(w:World)(h:bu w L s a p e)(hx:0≤x)(hc:0≤c):
  Calls Tryz.prog 134 #[.pointer (some ⟨L,0,none⟩),.int .i64 x,.int .u8 c] w fun e' w'=>e'=.returned (.bool (Lx.cz s.data.toList x.toNat==c))∧∃n,w'=w.drewN n:=by
 obtain⟨k,rfl⟩:=Int.eq_ofNat_of_zero_le hx;have h1:=h.text;simp only[Int.toNat_natCast]
 by_cases hk:k<s.size
 ·have hcl:=h.cls s[k].toNat s[k].toNat_lt
  have hr:(Lx.cz s.data.toList k==c)=(((Lx.cls s[k].toNat:Nat):Int)==c):=by rw[Lx.Ja _ _ (by simpa using hk)];rfl
  rw[hr];clear hr h;have hd:decide ((k:Int)<(s.size:Int))=true:=by simp;omega
  have akS:(s[k].toNat:Int)<256:=by have:=s[k].toNat_lt;omega
  have hk2:(k:Int)<(s.size:Int):=by omega
  have hk0:(0:Int)≤(k:Int):=by omega
  go_enter Tryz.func134,Tryz.ntmps134
  go_wp2
  go_quiet (fail)
  go_wp2
  go_ret;exact⟨rfl,_,rfl⟩
 ·have hr:(Lx.cz s.data.toList k==c)=false:=by rw[Lx.MI _ _ (by simp;omega)];simp;omega
  rw[hr];clear hr h;have hd:decide ((k:Int)<(s.size:Int))=false:=by simp;omega
  go_enter Tryz.func134,Tryz.ntmps134
  go_wp2
  go_quiet (fail)
  go_wp2
  go_ret;exact⟨rfl,_,rfl⟩
theorem rF(L:Nat)(s:ByteArray)(a p e:Int)(x c:Int)(w:World)(h:bu w L s a p e)(hx:0≤x)(hc:0≤c)(hm:s.size≤maxLen):
  Calls Tryz.prog 103 #[.pointer (some ⟨L,0,none⟩),.int .i64 x,.int .u8 c] w fun e' w'=>e'=.returned (.int .i64 (x.toNat+Lx.mO c s.data.toList x.toNat:Nat))∧∃n,w'=w.drewN n:=by
 obtain⟨k,rfl⟩:=Int.eq_ofNat_of_zero_le hx;simp only[Int.toNat_natCast];unfold maxLen at hm;have H:=hid h;clear h hx;go_enter Tryz.func103,Tryz.ntmps103
 go_wp2
 go_loopw [1] (fun i wr=>∃j:Nat,i=.int .i64 j∧Hd (j+Lx.mO c s.data.toList j=k+Lx.mO c s.data.toList k)∧∃n,wr=w.drewN n) (fun i _=>s.size-(intOf i).toNat)
 case atStart=>exact⟨k,rfl,rfl,0,rfl⟩
 case round=>
  obtain⟨j,rfl,hj,n,rfl⟩:=hrel
  by_cases ht:Lx.cz s.data.toList j=c
  ·obtain⟨hlt,hs⟩:=Lx.P8 c _ j hc ht
   have hlt2:j<s.size:=by simpa using hlt
   have hb:(Lx.cz s.data.toList j==c)=true:=by simpa using ht
   have HS:=hid hs;clear hs ht hlt
   go_wp2_with (go_at_call 134;refine(ng L s a p e _ _ _ (H.out.drewN _) (by omega) hc).mono ?_;rintro e' w' ⟨rfl,n2,rfl⟩)
   go_roundw
   case rel=>exact⟨j+1,by go_num,HS.out.trans hj,n+n2,rfl⟩
   case measure=>simp[intOf];omega
  ·have hz:=Lx.aeh c _ j ht
   have hb:(Lx.cz s.data.toList j==c)=false:=by simpa using ht
   have HZ:=hid hz;clear hz ht
   go_wp2_with (go_at_call 134;refine(ng L s a p e _ _ _ (H.out.drewN _) (by omega) hc).mono ?_;rintro e' w' ⟨rfl,n2,rfl⟩)
   go_ret;exact⟨aeq (by rw[←hj.out,HZ.out];simp),n+n2,rfl⟩
def WO(r:Lx.jT)(a:Nat)(p e:Int)(k:Int)(tx:ByteArray)(f t:Int)(b:Bool)(a' p' e':Int):Prop:=
 match r with
 |.ok tk n=>k=tk.kind∧tx=⟨tk.text.toArray⟩∧f=a∧t=(a+n:Nat)∧b=true∧a'=(a+n:Nat)∧p'=p∧e'=e
 |.err i er=>k=0∧tx=ByteArray.empty∧f=0∧t=0∧b=false∧a'=a∧p'=(a+i:Nat)∧e'=er
def bA(w:World)(L:Nat)(s:ByteArray)(a:Nat)(p e:Int)(r:Lx.jT)(e':Ending)(w':World):Prop:=
 ∃(k:Int) (tx:ByteArray) (f t:Int) (b:Bool) (a' p' e2:Int),e'=.returned (.tuple #[.agg #[.int .i64 k,.string tx,.int .i64 f,.int .i64 t],.bool b])∧
  bu w' L s a' p' e2∧Touch (·=L) w w'∧WO r a p e k tx f t b a' p' e2
theorem bA.drewN{w w':World}{L:Nat}{s:ByteArray}{a:Nat}{p e:Int}{r:Lx.jT}{e':Ending}(h:bA w L s a p e r e' w')(n:Nat):bA w L s a p e r e' (w'.drewN n):=by
 obtain⟨k,tx,f,t,b,a',p',e2,rfl,h1,h2,h3⟩:=h;exact⟨k,tx,f,t,b,a',p',e2,rfl,h1.drewN n,h2.drewN n,h3⟩
theorem bA.close{w w':World}{L:Nat}{s:ByteArray}{a:Nat}{p e:Int}{r:Lx.jT}{k:Int}{tx:ByteArray}{f t:Int}{b:Bool}{a' p' e2:Int}(hL:L<w.heap.size)
  (h1:bu w' L s a' p' e2) (h2:Touch (·=L) w w') (h3:WO r a p e k tx f t b a' p' e2):
  bA w L s a p e r (.returned (.tuple #[.agg #[.int .i64 k,.string tx,.int .i64 f,.int .i64 t],.bool b])) (aO w' w.heap.size (.int .i64 k) (.string tx) (.int .i64 f) (.int .i64 t)):=
 ⟨k,tx,f,t,b,a',p',e2,rfl,af.uJ h1 (by omega) _ _ _ _,h2.aO (.inr (Nat.le_refl _)) _ _ _ _,h3⟩
theorem zW(L:Nat)(s:ByteArray)(a:Nat)(p e:Int)(k:Int)(kd:Nat)(text:ByteArray)(eF:Int)(n most:Nat)(EW:Int)(w:World)(h:bu w L s a p e)(hk:k=kd)(ht:eF=(a+n:Nat))(PK:EW=most):
  Calls Tryz.prog 136 #[.pointer (some ⟨L,0,none⟩),.int .i64 k,.string text,.int .i64 eF,.int .i64 EW] w (bA w L s a p e (Lx.lim most ⟨kd,text.data.toList⟩ n)):=by
 obtain⟨h1,h2,h3,h4,f1,f2,f3,hL⟩:=eD h;have H:=hid h;have HK:=hid hk;have HT:=hid ht;clear h hk ht
 by_cases hl:EW<text.size
 ·have hr:Lx.lim most ⟨kd,text.data.toList⟩ n=.err 0 6:=by unfold Lx.lim;rw[if_pos (by simp;omega)]
  rw[hr];clear hr PK;go_enter Tryz.func136,Tryz.ntmps136
  go_wp2_with (go_at_call 139;refine(QY L s a p e _ _ _ (H.out.alloc _)).mono ?_;rintro e' w' ⟨rfl,hx,ht⟩;obtain⟨q0,q1,q2,q3,z0,z1,z2,z3,hg⟩:=af.four (ht.blk (af.new w _ _) (by omega));have HX:=hid hx;have HT:=hid ht;clear hx ht)
  (try simp only[Exit.inBlock,Exit.then])
  refine bodyPost_ret (v:=.tuple #[.agg #[.int .i64 0,.string ByteArray.empty,.int .i64 0,.int .i64 0],.bool false]) (by simp[results,Tryz.results136,go_sem,q0,q1,q2,q3]) rfl ?_;exact bA.close hL HX.out HT.out.pre ⟨rfl,rfl,rfl,rfl,rfl,rfl,rfl,rfl⟩
 ·have hr:Lx.lim most ⟨kd,text.data.toList⟩ n=.ok ⟨kd,text.data.toList⟩ n:=by unfold Lx.lim;rw[if_neg (by simp;omega)]
  rw[hr];clear hr PK;go_enter Tryz.func136,Tryz.ntmps136
  go_wp2
  refine bodyPost_ret (v:=.tuple #[.agg #[.int .i64 k,.string text,.int .i64 a,.int .i64 eF],.bool true]) (by simp[results,Tryz.results136,go_sem]) rfl ?_;refine⟨_,_,_,_,_,eF,p,e,rfl,?_,?_,HK.out,rfl,rfl,HT.out,rfl,HT.out,rfl,rfl⟩
  ·exact(bu.setAt H.out eF).alloc _
  ·exact((M (·=L) w).setCell (p:=⟨L,257,none⟩) (.inl rfl) _).alloc _
theorem ag8(l:Lx.Bytes)(a m:Nat)(hm:m=a+Lx.mO 2 l a):Lx.lH (l.drop a)=if l[m]?=some 46∧Lx.cz l (m+1)=2 then m+1+Lx.mO 2 l (m+1)-a else m-a:=by
 subst hm
 have h0:∀k,Lx.dI 2 (l.drop k)=Lx.mO 2 l k:=fun k=>by
  unfold Lx.dI Lx.mO
  have:(Lx.dG 2)=fun b:UInt8=>((Lx.cls b.toNat:Int)==2):=by
   funext b
   unfold Lx.dG;rw[Bool.eq_iff_iff];simp;omega
  rw[this]
 have h1:∀k,(Lx.xP 2 (l.drop a) k=true)↔Lx.cz l (a+k)=2:=fun k=>by
  unfold Lx.xP Lx.cz;rw[List.getElem?_drop];cases l[a+k]? with
  |none=>simp
  |some b=>simp[Lx.dG];omega
 unfold Lx.lH;rw[h0,List.getElem?_drop,List.drop_drop,h0];simp only[h1,Nat.add_assoc];split<;>omega
theorem WQ(L:Nat)(s:ByteArray)(a:Nat)(p e:Int)(w:World)(h:bu w L s a p e)(hm:s.size≤maxLen)(ha:a<s.size):
  Calls Tryz.prog 135 #[.pointer (some ⟨L,0,none⟩)] w (bA w L s a p e (Lx.number (s.data.toList.drop a))):=by
 obtain⟨g1,g2,g3,g4,f1,f2,f3,hL⟩:=eD h;have HM:=hm;unfold maxLen at hm;have H:=hid h;clear h;have hle:=Lx.vM 2 s.data.toList a;have hll:s.data.toList.length=s.size:=by simp
 rw[hll]at hle;obtain⟨m,hmd⟩:∃m,m=a+Lx.mO 2 s.data.toList a:=⟨_,rfl⟩;have HN:=hid (ag8 s.data.toList a m hmd);have HD:=hid hmd;have am:a≤m:=by omega
 have ms:m≤s.size:=by omega
 clear hmd hle
 have fin:∀(n:Nat),a≤n→n≤s.size→Lx.lH (s.data.toList.drop a)=n-a→
   Lx.lim 20 ⟨2,(s.extract a n).data.toList⟩ (n-a)=Lx.number (s.data.toList.drop a):=fun n hn1 hn2 abY=>by
  unfold Lx.number;rw[abY]
  congr 2
  simp[ByteArray.data_extract,Array.toList_extract,List.extract_eq_take_drop]
 by_cases c1:m<s.size
 ·have t1:decide ((m:Int)<(s.size:Int))=true:=by simp;omega
  have t1':(m:Int)<(s.size:Int):=by omega
  have akT:(0:Int)≤(m:Int):=by omega
  have hlm:s.data.toList[m]?=some s[m]:=by rw[List.getElem?_eq_getElem (by omega)];rfl
  by_cases c2:s[m]=46
  ·have t2:((s[m].toNat:Int)==46)=true:=by rw[c2];rfl
   by_cases c3:Lx.cz s.data.toList (m+1)=2
   ·have t3:(Lx.cz s.data.toList (m+1)==2)=true:=by simpa using c3
    have hle2:=Lx.vM 2 s.data.toList (m+1);have hy:=(Lx.P8 2 s.data.toList (m+1) (by omega) c3).1;rw[hll]at hle2 hy;obtain⟨m2,hm2⟩:∃m2,m2=m+1+Lx.mO 2 s.data.toList (m+1):=⟨_,rfl⟩;have iI:=hid hm2
    have hn:Lx.lH (s.data.toList.drop a)=m2-a:=by
     rw[HN.out,if_pos ⟨by rw[hlm,c2],c3⟩,←hm2]
    have am2:a≤m2:=by omega
    have ms2:m2≤s.size:=by omega
    have hfin:=hid (fin m2 am2 ms2 hn);clear hlm c2 c3 hll hy hm2 hle2;clear fin hn;go_enter Tryz.func135,Tryz.ntmps135;go_wp2_with fail
    refine(rF L s a p e _ 2 _ (H.out.alloc _) (by omega) (by omega) HM).mono ?_;rintro e' w' ⟨rfl,n1,rfl⟩;rw[Int.toNat_natCast,←HD.out];go_wp2_with fail
    refine(ng L s a p e _ 2 _ ((H.out.alloc _).drewN _) (by omega) (by omega)).mono ?_;rintro e' w' ⟨rfl,n2,rfl⟩;rw[show((m:Int)+1).toNat=m+1 from by omega];go_wp2_with fail
    refine(rF L s a p e _ 2 _ ((H.out.alloc _).drewN _) (by omega) (by omega) HM).mono ?_;rintro e' w' ⟨rfl,n3,rfl⟩;rw[show((m:Int)+1).toNat=m+1 from by omega,←iI.out];go_wp2_with fail
    refine kY [([0,1,2,3,4,5,6,7,8,9,10,11],12),([13,14],15)] [16] (by kernel_rfl) (by kernel_rfl) ?_;simp only[tY,pick,List.getElem?_cons_zero,List.getElem?_cons_succ]
    repeat(quiet_step (fail))
    refine wpQuiet_nil ?_;rintro _ ⟨nq,rfl⟩;go_wp2_with fail
    refine(zW L s a p e _ 2 _ _ (m2-a) 20 _ _ ((H.out.alloc _).drewN _) rfl (by rw[Nat.add_sub_cancel' (by omega)]) rfl).mono ?_;rintro e' w' ⟨k,tx,f,t,b,a',p',e2,rfl,hx,ht,hmn⟩;obtain⟨q0,q1,q2,q3,z0,z1,z2,z3,hg⟩:=af.four (ht.blk ((af.new w _ _).drewN _) (by omega));have HX:=hid hx;have HT2:=hid ht;have fU:=hid hmn;clear hx ht hmn;go_wp2_with fail
    repeat(quiet_step (fail))
    refine wpQuiet_nil ?_;rintro _ ⟨NP,rfl⟩
    go_wp2
    repeat(quiet_step (fail))
    refine wpQuiet_nil ?_;rintro _ ⟨nq3,rfl⟩
    go_wp2
    (try simp only[Exit.inBlock,Exit.then])
    refine bodyPost_ret (v:=.tuple #[.agg #[.int .i64 k,.string tx,.int .i64 f,.int .i64 t],.bool b]) (by simp[results,Tryz.results135,go_sem,q0,q1,q2,q3]) rfl ?_;rw[←hfin.out];exact(bA.close hL (HX.out.drewN _) (HT2.out.pG.drewN _) fU.out).drewN _
   ·have t3:(Lx.cz s.data.toList (m+1)==2)=false:=by simpa using c3
    have hn:Lx.lH (s.data.toList.drop a)=m-a:=by
     rw[HN.out,if_neg (fun hx=>c3 hx.2)]
    have hfin:=hid (fin m am ms hn);clear hlm c2 c3 hll;clear fin hn;go_enter Tryz.func135,Tryz.ntmps135;go_wp2_with fail
    refine(rF L s a p e _ 2 _ (H.out.alloc _) (by omega) (by omega) HM).mono ?_;rintro e' w' ⟨rfl,n1,rfl⟩;rw[Int.toNat_natCast,←HD.out];go_wp2_with fail
    refine(ng L s a p e _ 2 _ ((H.out.alloc _).drewN _) (by omega) (by omega)).mono ?_;rintro e' w' ⟨rfl,n2,rfl⟩;rw[show((m:Int)+1).toNat=m+1 from by omega];go_wp2_with fail
    refine kY [([0,1,2,3,4,5,6,7,8,9,10,11],12),([13,14],15)] [16] (by kernel_rfl) (by kernel_rfl) ?_;simp only[tY,pick,List.getElem?_cons_zero,List.getElem?_cons_succ]
    repeat(quiet_step (fail))
    refine wpQuiet_nil ?_;rintro _ ⟨nq,rfl⟩;go_wp2_with fail
    refine(zW L s a p e _ 2 _ _ (m-a) 20 _ _ ((H.out.alloc _).drewN _) rfl (by rw[Nat.add_sub_cancel' (by omega)]) rfl).mono ?_;rintro e' w' ⟨k,tx,f,t,b,a',p',e2,rfl,hx,ht,hmn⟩;obtain⟨q0,q1,q2,q3,z0,z1,z2,z3,hg⟩:=af.four (ht.blk ((af.new w _ _).drewN _) (by omega));have HX:=hid hx;have HT2:=hid ht;have fU:=hid hmn;clear hx ht hmn;go_wp2_with fail
    repeat(quiet_step (fail))
    refine wpQuiet_nil ?_;rintro _ ⟨NP,rfl⟩
    go_wp2
    repeat(quiet_step (fail))
    refine wpQuiet_nil ?_;rintro _ ⟨nq3,rfl⟩
    go_wp2
    (try simp only[Exit.inBlock,Exit.then])
    refine bodyPost_ret (v:=.tuple #[.agg #[.int .i64 k,.string tx,.int .i64 f,.int .i64 t],.bool b]) (by simp[results,Tryz.results135,go_sem,q0,q1,q2,q3]) rfl ?_;rw[←hfin.out];exact(bA.close hL (HX.out.drewN _) (HT2.out.pG.drewN _) fU.out).drewN _
  ·have t2:((s[m].toNat:Int)==46)=false:=by
    rw[beq_eq_false_iff_ne];intro hx;exact c2 (UInt8.toNat_inj.1 (by simp;omega))
   have hn:Lx.lH (s.data.toList.drop a)=m-a:=by
    rw[HN.out,if_neg (fun hx=>c2 (by rw[hlm]at hx;simpa using hx.1))]
   have hfin:=hid (fin m am ms hn);clear hlm c2 hll;clear fin hn;go_enter Tryz.func135,Tryz.ntmps135;go_wp2_with fail
   refine(rF L s a p e _ 2 _ (H.out.alloc _) (by omega) (by omega) HM).mono ?_;rintro e' w' ⟨rfl,n1,rfl⟩;rw[Int.toNat_natCast,←HD.out];go_wp2_with fail
   refine kY [([0,1,2,3,4,5,6,7,8,9,10,11],12),([13,14],15)] [16] (by kernel_rfl) (by kernel_rfl) ?_;simp only[tY,pick,List.getElem?_cons_zero,List.getElem?_cons_succ]
   repeat(quiet_step (fail))
   refine wpQuiet_nil ?_;rintro _ ⟨nq,rfl⟩;go_wp2_with fail
   refine(zW L s a p e _ 2 _ _ (m-a) 20 _ _ ((H.out.alloc _).drewN _) rfl (by rw[Nat.add_sub_cancel' (by omega)]) rfl).mono ?_;rintro e' w' ⟨k,tx,f,t,b,a',p',e2,rfl,hx,ht,hmn⟩;obtain⟨q0,q1,q2,q3,z0,z1,z2,z3,hg⟩:=af.four (ht.blk ((af.new w _ _).drewN _) (by omega));have HX:=hid hx;have HT2:=hid ht;have fU:=hid hmn;clear hx ht hmn;go_wp2_with fail
   repeat(quiet_step (fail))
   refine wpQuiet_nil ?_;rintro _ ⟨NP,rfl⟩
   go_wp2
   repeat(quiet_step (fail))
   refine wpQuiet_nil ?_;rintro _ ⟨nq3,rfl⟩
   go_wp2
   (try simp only[Exit.inBlock,Exit.then])
   refine bodyPost_ret (v:=.tuple #[.agg #[.int .i64 k,.string tx,.int .i64 f,.int .i64 t],.bool b]) (by simp[results,Tryz.results135,go_sem,q0,q1,q2,q3]) rfl ?_;rw[←hfin.out];exact(bA.close hL (HX.out.drewN _) (HT2.out.pG.drewN _) fU.out).drewN _
 ·have hn:Lx.lH (s.data.toList.drop a)=m-a:=by
   rw[HN.out,if_neg];rintro⟨h1,_⟩;rw[List.getElem?_eq_none (by omega)]at h1;cases h1
  have hfin:=hid (fin m am ms hn);have t1:decide ((m:Int)<(s.size:Int))=false:=by simp;omega
  clear hll;clear fin hn;go_enter Tryz.func135,Tryz.ntmps135;go_wp2_with fail
  refine(rF L s a p e _ 2 _ (H.out.alloc _) (by omega) (by omega) HM).mono ?_;rintro e' w' ⟨rfl,n1,rfl⟩;rw[Int.toNat_natCast,←HD.out];go_wp2_with fail
  refine kY [([0,1,2,3,4,5,6,7,8,9,10,11],12),([13,14],15)] [16] (by kernel_rfl) (by kernel_rfl) ?_;simp only[tY,pick,List.getElem?_cons_zero,List.getElem?_cons_succ]
  repeat(quiet_step (fail))
  refine wpQuiet_nil ?_;rintro _ ⟨nq,rfl⟩;go_wp2_with fail
  refine(zW L s a p e _ 2 _ _ (m-a) 20 _ _ ((H.out.alloc _).drewN _) rfl (by rw[Nat.add_sub_cancel' (by omega)]) rfl).mono ?_;rintro e' w' ⟨k,tx,f,t,b,a',p',e2,rfl,hx,ht,hmn⟩;obtain⟨q0,q1,q2,q3,z0,z1,z2,z3,hg⟩:=af.four (ht.blk ((af.new w _ _).drewN _) (by omega));have HX:=hid hx;have HT2:=hid ht;have fU:=hid hmn;clear hx ht hmn;go_wp2_with fail
  repeat(quiet_step (fail))
  refine wpQuiet_nil ?_;rintro _ ⟨NP,rfl⟩
  go_wp2
  repeat(quiet_step (fail))
  refine wpQuiet_nil ?_;rintro _ ⟨nq3,rfl⟩
  go_wp2
  (try simp only[Exit.inBlock,Exit.then])
  refine bodyPost_ret (v:=.tuple #[.agg #[.int .i64 k,.string tx,.int .i64 f,.int .i64 t],.bool b]) (by simp[results,Tryz.results135,go_sem,q0,q1,q2,q3]) rfl ?_;rw[←hfin.out];exact(bA.close hL (HX.out.drewN _) (HT2.out.pG.drewN _) fU.out).drewN _
end
end Go.Proofs.YtcgbccfpcgaikaaGreatDoor
