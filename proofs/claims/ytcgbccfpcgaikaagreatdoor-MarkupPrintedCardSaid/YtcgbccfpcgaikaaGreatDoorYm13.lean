/- Part 13 of 46 of a proof. No condition. -/
import Derived.RangeFuncNested
import Derived.OwnWalkIn
import Derived.TacticsInMore
import Derived.LoopIn
import Derived.Deep.Cut
import Derived.Test.YtcgbccfpcgaikaaGreatDoorYm12
import Derived.Test.YtcgbccfpcgaikaaGreatDoorYm5
set_option maxRecDepth 100000
set_option maxHeartbeats 2000000
namespace Go.Proofs.YtcgbccfpcgaikaaGreatDoor
section
open Go.RowKit
structure PL(w:World)(L:Nat)(s:ByteArray)(a:Nat)(p e:Int)(r:Lx.jT)(j:Nat)(acc:List UInt8)(cs:Array Value)(v:Value)(wr:World):Prop where
 lex:bu wr L s a p e
 res:af wr w.heap.size 115 #[.int .i64 0,.string ByteArray.empty,.int .i64 0,.int .i64 0]
 dW:uU wr (w.heap.size+2) (w.heap.size+1) 0 42 cs v acc
 size:cs.size=2
 touch:Touch (fun _=>False) w wr
 lo:a+1≤j
 hi:j≤s.size
 len:acc.length≤j
 quo:Lx.quo (s.data.toList.drop j) acc (j-a)=r
theorem PL.next{w:World}{L:Nat}{s:ByteArray}{a:Nat}{p e:Int}{r:Lx.jT}{j:Nat}{acc:List UInt8}{cs:Array Value}{v:Value}{wr w':World}(Q:PL w L s a p e r j acc cs v wr)(hL:L<w.heap.size){j':Nat}{c:UInt8}{v':Value}
  (hb:uU w' (w.heap.size+2) (w.heap.size+1) 0 42 ((cs.setIfInBounds 0 (.pointer (some ⟨w.heap.size+1,0,none⟩))).setIfInBounds (0+1) v') v' (acc++[c]))
  (ht:Touch (fun k=>k=w.heap.size+1∨v.ownBlock=some k) wr w') (hj:j<j') (hs:j'≤s.size) (hq:Lx.quo (s.data.toList.drop j') (acc++[c]) (j'-a)=r):
  PL w L s a p e r j' (acc++[c]) ((cs.setIfInBounds 0 (.pointer (some ⟨w.heap.size+1,0,none⟩))).setIfInBounds (0+1) v') v' w':=by
 have hlt:=Q.dW.own.lt;refine⟨ht.blk Q.lex ?_,ht.blk Q.res ?_,hb,by simp[Q.size],Q.touch.trans' ht ?_,by have:=Q.lo;omega,hs,by have:=Q.len;simp;omega,hq⟩
 ·rintro(h1|h1)
  ·omega
  ·have:=(hlt _ h1).1;omega
 ·rintro(h1|h1)
  ·omega
  ·have:=(hlt _ h1).1;omega
 ·rintro i (h1|h1)
  ·right;omega
  ·right;have:=(hlt _ h1).1;omega
theorem WX(L:Nat)(s:ByteArray)(a:Nat)(p e:Int)(w:World)(h:bu w L s a p e)(hm:s.size≤140737488355328)(ha:a<s.size):
  Calls Tryz.prog 137 #[.pointer (some ⟨L,0,none⟩)] w (bA w L s a p e (Lx.quo (s.data.toList.drop (a+1)) [] 1)):=by
 obtain⟨g1,g2,g3,g4,f1,f2,f3,hL⟩:=eD h;have H:=hid h;obtain⟨r,hr⟩:∃r,Lx.quo (s.data.toList.drop (a+1)) [] 1=r:=⟨_,rfl⟩;rw[hr];have HR:=hid hr;have hll:s.data.toList.length=s.size:=by simp
 have yV:=hid hll;clear h hr hll;go_enter Tryz.func137,Tryz.ntmps137
 go_wp2
 clear g1 g2 g3 g4 f1 f2 f3
 go_loopw [5] (fun i wr=>∃(j:Nat) (acc:List UInt8) (cs:Array Value) (v:Value),i=.int .i64 j∧PL w L s a p e r j acc cs v wr) (fun i _=>s.size-(intOf i).toNat)
 case atStart=>
  refine⟨a+1,[],#[.pointer none,.slice none 0 0],.slice none 0 0,by go_num,?_,?_,?_,rfl,?_,Nat.le_refl _,ha,by simp,?_⟩
  ·exact(H.out.alloc _).alloc _
  ·exact(af.new w _ _).alloc _
  ·refine⟨?_,.inl rfl,rfl,World.ownsRow_nil _ _ _ _,by simp[Value.ownBlock],fun _=>rfl⟩
   have:=af.new (w.alloc (.cells #[.int .i64 0,.string ⟨#[]⟩,.int .i64 0,.int .i64 0] 115)) 42 #[.pointer none,.slice none 0 0];simpa using this
  ·exact((M _ w).alloc _).alloc _
  ·rw[show a+1-a=1 from by omega];exact HR.out
 case round=>
  obtain⟨j,acc,cs,v,rfl,Q0⟩:=hrel;obtain⟨g1,g2,g3,g4,f1,f2,f3,hLr⟩:=eD Q0.lex;have Q:=hid Q0;have hlo:=Q0.lo;have hhi:=Q0.hi;have hlen:=Q0.len;have hwr:=Q0.touch.size;have hbl:=Q0.dW.lt;have hres:=Q0.res.lt;clear Q0
  by_cases c1:j<s.size
  ·have b1:decide ((j:Int)<(s.size:Int))=true:=by simp;omega
   have b1':(j:Int)<(s.size:Int):=by omega
   have ahF:(0:Int)≤(j:Int):=by omega
   have hjl:j<s.data.toList.length:=by rw[yV.out];exact c1
   have hget:s.data.toList[j]=s[j]'c1:=rfl
   by_cases c2:s[j]'c1=34
   ·have hq:=Q.out.quo
    rw[Lx.BA _ _ _ _ hjl,hget,if_pos c2]at hq;have HQ:=hid hq;have b2:(((s[j]'c1).toNat:Int)==34)=true:=sP _ 34 c2;clear hq c2 hget hjl;go_wp2_with fail
    refine(zI Q.out.dW).mono ?_;rintro e1 w1 ⟨rfl,ht1⟩;have hlx:bu w1 L s a p e:=ht1.blk Q.out.lex (fun hk=>by have:=(Q.out.dW.own.lt _ hk).1;omega);have hrs:=ht1.blk Q.out.res (fun hk=>by have:=(Q.out.dW.own.lt _ hk).1;omega);have ht1':Touch (fun _=>False) w w1:=Q.out.touch.trans' ht1 (fun i hk=>by have:=(Q.out.dW.own.lt _ hk).1;right;omega);have HLX:=hid hlx;have HRS:=hid hrs;have HT1:=hid ht1';clear hlx hrs ht1 ht1';go_wp2_with fail
    refine(uZ L s a p e _ 3 _ _ (j-a+1) 200 _ _ r HQ.out HLX.out rfl (by omega) rfl).mono ?_;rintro e' w' ⟨k,tx,f,t,b,a',p',e2,rfl,hx,ht,hmn⟩;obtain⟨q0,q1,q2,q3,z0,z1,z2,z3,hg⟩:=af.four (ht.blk HRS.out (by omega));have HX:=hid hx;have HT2:=hid ht;have fU:=hid hmn;clear hx ht hmn;go_wp2_with fail
    (try simp only[Exit.inBlock,Exit.then])
    refine bodyPost_ret (v:=.tuple #[.agg #[.int .i64 k,.string tx,.int .i64 f,.int .i64 t],.bool b]) (by simp[results,Tryz.results137,go_sem,q0,q1,q2,q3]) rfl ?_;exact bA.close hL HX.out ((HT1.out.mono (fun _ h=>h.elim)).trans HT2.out) fU.out
   ·have b2:(((s[j]'c1).toNat:Int)==34)=false:=qW _ 34 c2
    by_cases c3:(s[j]'c1)<32∨126<(s[j]'c1)
    ·have hq:=Q.out.quo
     rw[Lx.BA _ _ _ _ hjl,hget,if_neg c2,if_pos c3]at hq;have HQ:=hid hq
     by_cases c4:(s[j]'c1)<32
     ·have b3:decide (((s[j]'c1).toNat:Int)<32)=true:=by simp;exact Int.ofNat_lt.2 (UInt8.lt_iff_toNat_lt.1 c4)
      clear hq c2 c3 c4 hget hjl;go_wp2_with fail
      refine(og L s a p e _ _ (j-a) 3 _ r HQ.out Q.out.lex (by omega) rfl).mono ?_;rintro e' w' ⟨k,tx,f,t,b,a',p',e2,rfl,hx,ht,hmn⟩;obtain⟨q0,q1,q2,q3,z0,z1,z2,z3,hg⟩:=af.four (ht.blk Q.out.res (by omega));have HX:=hid hx;have HT2:=hid ht;have fU:=hid hmn;clear hx ht hmn;go_wp2_with fail
      (try simp only[Exit.inBlock,Exit.then])
      refine bodyPost_ret (v:=.tuple #[.agg #[.int .i64 k,.string tx,.int .i64 f,.int .i64 t],.bool b]) (by simp[results,Tryz.results137,go_sem,q0,q1,q2,q3]) rfl ?_;exact bA.close hL HX.out ((Q.out.touch.mono (fun _ h=>h.elim)).trans HT2.out) fU.out
     ·have b3:decide (((s[j]'c1).toNat:Int)<32)=false:=by rw[decide_eq_false_iff_not];intro hx;exact c4 (UInt8.lt_iff_toNat_lt.2 (by simpa using Int.ofNat_lt.1 hx))
      have b4:decide (126<((s[j]'c1).toNat:Int))=true:=by
       have:=UInt8.lt_iff_toNat_lt.1 (c3.resolve_left c4);simp at this⊢;omega
      clear hq c2 c3 c4 hget hjl;go_wp2_with fail
      refine(og L s a p e _ _ (j-a) 3 _ r HQ.out Q.out.lex (by omega) rfl).mono ?_;rintro e' w' ⟨k,tx,f,t,b,a',p',e2,rfl,hx,ht,hmn⟩;obtain⟨q0,q1,q2,q3,z0,z1,z2,z3,hg⟩:=af.four (ht.blk Q.out.res (by omega));have HX:=hid hx;have HT2:=hid ht;have fU:=hid hmn;clear hx ht hmn;go_wp2_with fail
      (try simp only[Exit.inBlock,Exit.then])
      refine bodyPost_ret (v:=.tuple #[.agg #[.int .i64 k,.string tx,.int .i64 f,.int .i64 t],.bool b]) (by simp[results,Tryz.results137,go_sem,q0,q1,q2,q3]) rfl ?_;exact bA.close hL HX.out ((Q.out.touch.mono (fun _ h=>h.elim)).trans HT2.out) fU.out
    ·have b3:decide (((s[j]'c1).toNat:Int)<32)=false:=by rw[decide_eq_false_iff_not];intro hx;exact c3 (.inl (UInt8.lt_iff_toNat_lt.2 (by simpa using Int.ofNat_lt.1 hx)))
     have b4:decide (126<((s[j]'c1).toNat:Int))=false:=by rw[decide_eq_false_iff_not];intro hx;exact c3 (.inr (UInt8.lt_iff_toNat_lt.2 (by simp;omega)))
     by_cases c5:s[j]'c1=92
     ·have b5:(((s[j]'c1).toNat:Int)==92)=true:=sP _ 92 c5
      by_cases c6:j+1<s.size
      ·have b6:(((j:Int)+1)==(s.size:Int))=false:=by rw[beq_eq_false_iff_ne];omega
       have b6':(j:Int)+1<(s.size:Int):=by omega
       have akU:(0:Int)≤(j:Int)+1:=by omega
       have WY:j+1<s.data.toList.length:=by rw[yV.out];exact c6
       have PM:s.data.toList[j+1]=s[j+1]'c6:=rfl;have hq:=Q.out.quo;rw[Lx.aej _ _ _ _ hjl (by rw[hget];exact c5) WY,PM]at hq
       by_cases c7:s[j+1]'c6=34
       ·rw[if_pos (.inl c7)]at hq
        have HQ:=hid hq;have b7:(((s[j+1]'c6).toNat:Int) !=34)=false:=qC _ 34 c7;clear hq c2 c3 c5 c7 hget hjl PM WY;go_wp2_with fail
        refine(iP Q.out.dW (by rw[Q.out.size];exact liesBuilder) _ (s[j+1]'c6) (by rfl) (by omega) (by omega)).mono ?_;rintro e1 w1 ⟨rfl,v',hb1,ht1⟩;have HN:=hid (Q.out.next hL (j':=(j+2)) hb1 ht1 (by omega) (by omega) (by rw[show j+2-a=j-a+2 from by omega];exact HQ.out));clear hb1 ht1;go_wp2
        go_roundw
        case rel=>exact⟨(j+2),_,_,_,by go_num,HN.out⟩
        case measure=>simp[intOf];omega
       ·have b7:(((s[j+1]'c6).toNat:Int) !=34)=true:=si _ 34 c7
        by_cases c8:s[j+1]'c6=92
        ·rw[if_pos (.inr c8)]at hq
         have HQ:=hid hq;have b8:(((s[j+1]'c6).toNat:Int) !=92)=false:=qC _ 92 c8;clear hq c2 c3 c5 c7 c8 hget hjl PM WY;go_wp2_with fail
         refine(iP Q.out.dW (by rw[Q.out.size];exact liesBuilder) _ (s[j+1]'c6) (by rfl) (by omega) (by omega)).mono ?_;rintro e1 w1 ⟨rfl,v',hb1,ht1⟩;have HN:=hid (Q.out.next hL (j':=(j+2)) hb1 ht1 (by omega) (by omega) (by rw[show j+2-a=j-a+2 from by omega];exact HQ.out));clear hb1 ht1;go_wp2
         go_roundw
         case rel=>exact⟨(j+2),_,_,_,by go_num,HN.out⟩
         case measure=>simp[intOf];omega
        ·rw[if_neg (fun hx=>hx.elim c7 c8)]at hq
         have HQ:=hid hq;have b8:(((s[j+1]'c6).toNat:Int) !=92)=true:=si _ 92 c8;clear hq c2 c3 c5 c7 c8 hget hjl PM WY;go_wp2_with fail
         refine(og L s a p e _ _ (j-a) 3 _ r HQ.out Q.out.lex (by omega) rfl).mono ?_;rintro e' w' ⟨k,tx,f,t,b,a',p',e2,rfl,hx,ht,hmn⟩;obtain⟨q0,q1,q2,q3,z0,z1,z2,z3,hg⟩:=af.four (ht.blk Q.out.res (by omega));have HX:=hid hx;have HT2:=hid ht;have fU:=hid hmn;clear hx ht hmn;go_wp2_with fail
         (try simp only[Exit.inBlock,Exit.then])
         refine bodyPost_ret (v:=.tuple #[.agg #[.int .i64 k,.string tx,.int .i64 f,.int .i64 t],.bool b]) (by simp[results,Tryz.results137,go_sem,q0,q1,q2,q3]) rfl ?_;exact bA.close hL HX.out ((Q.out.touch.mono (fun _ h=>h.elim)).trans HT2.out) fU.out
      ·have b6:(((j:Int)+1)==(s.size:Int))=true:=by rw[beq_iff_eq];omega
       have hq:=Q.out.quo;rw[Lx.TN _ _ _ _ hjl (by rw[hget];exact c5) (by rw[yV.out];omega)]at hq;have HQ:=hid hq;clear hq c2 c3 c5 hget hjl;go_wp2_with fail
       refine(og L s a p e _ _ (j-a) 3 _ r HQ.out Q.out.lex (by omega) rfl).mono ?_;rintro e' w' ⟨k,tx,f,t,b,a',p',e2,rfl,hx,ht,hmn⟩;obtain⟨q0,q1,q2,q3,z0,z1,z2,z3,hg⟩:=af.four (ht.blk Q.out.res (by omega));have HX:=hid hx;have HT2:=hid ht;have fU:=hid hmn;clear hx ht hmn;go_wp2_with fail
       (try simp only[Exit.inBlock,Exit.then])
       refine bodyPost_ret (v:=.tuple #[.agg #[.int .i64 k,.string tx,.int .i64 f,.int .i64 t],.bool b]) (by simp[results,Tryz.results137,go_sem,q0,q1,q2,q3]) rfl ?_;exact bA.close hL HX.out ((Q.out.touch.mono (fun _ h=>h.elim)).trans HT2.out) fU.out
     ·have b5:(((s[j]'c1).toNat:Int)==92)=false:=qW _ 92 c5
      have hq:=Q.out.quo;rw[Lx.YF _ _ _ _ hjl (by rw[hget];exact c2) (by rw[hget];exact c3) (by rw[hget];exact c5),hget]at hq;have HQ:=hid hq;clear hq c2 c3 c5 hget hjl;go_wp2_with fail
      refine(iP Q.out.dW (by rw[Q.out.size];exact liesBuilder) _ (s[j]'c1) (by rfl) (by omega) (by omega)).mono ?_;rintro e1 w1 ⟨rfl,v',hb1,ht1⟩;have HN:=hid (Q.out.next hL (j':=(j+1)) hb1 ht1 (by omega) (by omega) (by rw[show j+1-a=j-a+1 from by omega];exact HQ.out));clear hb1 ht1;go_wp2
      go_roundw
      case rel=>exact⟨(j+1),_,_,_,by go_num,HN.out⟩
      case measure=>simp[intOf];omega
  ·have hq:=Q.out.quo
   rw[Lx.aei _ _ _ _ (by rw[yV.out];omega)]at hq;have HQ:=hid hq;have b1:decide ((j:Int)<(s.size:Int))=false:=by simp;omega
   clear hq;go_wp2_with fail
   refine(og L s a p e _ _ (0) 12 _ r HQ.out Q.out.lex (by omega) rfl).mono ?_;rintro e' w' ⟨k,tx,f,t,b,a',p',e2,rfl,hx,ht,hmn⟩;obtain⟨q0,q1,q2,q3,z0,z1,z2,z3,hg⟩:=af.four (ht.blk Q.out.res (by omega));have HX:=hid hx;have HT2:=hid ht;have fU:=hid hmn;clear hx ht hmn;go_wp2_with fail
   (try simp only[Exit.inBlock,Exit.then])
   refine bodyPost_ret (v:=.tuple #[.agg #[.int .i64 k,.string tx,.int .i64 f,.int .i64 t],.bool b]) (by simp[results,Tryz.results137,go_sem,q0,q1,q2,q3]) rfl ?_;exact bA.close hL HX.out ((Q.out.touch.mono (fun _ h=>h.elim)).trans HT2.out) fU.out
theorem abZ(l:Lx.Bytes)(c k:Nat):Lx.dI c (l.drop k)=Lx.mO c l k:=by
 unfold Lx.dI Lx.mO
 have:(Lx.dG c)=fun b:UInt8=>((Lx.cls b.toNat:Int)==(c:Int)):=by
  funext b
  unfold Lx.dG;rw[Bool.eq_iff_iff];simp;omega
 rw[this]
theorem GU(s:ByteArray)(i j:Nat):(s.extract i j).data.toList=(s.data.toList.drop i).take (j-i):=by
 simp[ByteArray.data_extract,Array.toList_extract,List.extract_eq_take_drop]
theorem ab0(L:Nat)(s:ByteArray)(a:Nat)(p e:Int)(w:World)(h:bu w L s a p e)(hm:s.size≤140737488355328)(ha:a<s.size):
  Calls Tryz.prog 138 #[.pointer (some ⟨L,0,none⟩)] w (bA w L s a p e (Lx.name (s.data.toList.drop a))):=by
 have hll:s.data.toList.length=s.size:=by simp
 have hle:=Lx.vM 3 s.data.toList (a+1);rw[hll]at hle;obtain⟨n,hn⟩:∃n,n=Lx.mO 3 s.data.toList (a+1):=⟨_,rfl⟩;have hmd:a+1+n=a+1+Lx.mO 3 s.data.toList (a+1):=by rw[hn]
 have hN:Lx.dI 3 ((s.data.toList.drop a).drop 1)=n:=by rw[List.drop_drop,abZ,hn];rfl
 have hT:((s.data.toList.drop a).drop 1).take n=(s.extract (a+1) (a+1+n)).data.toList:=by
  rw[GU,List.drop_drop,Nat.add_sub_cancel_left]
 have hbl:(s.extract (a+1) (a+1+n)).toList=(s.extract (a+1) (a+1+n)).data.toList:=ByteArray.toList_eq _;have hget:∀i,(s.data.toList.drop a)[i]?=s.data.toList[a+i]?:=fun i=>by rw[List.getElem?_drop]
 unfold Lx.name;simp only[hN,hT]
 by_cases c1:(s.extract (a+1) (a+1+n)).data.toList=[102,101,110,99,101]
 ·rw[if_neg (by simpa using c1)]
  have F:((s.extract (a+1) (a+1+n)).toList==[102,101,110,99,101])=true:=by rw[hbl,c1];rfl
  by_cases c2:a+1+n+1<s.size
  ·have g1:(s.data.toList.drop a)[1+n]?=some (s[a+1+n]'(Nat.lt_of_succ_lt c2)):=by
    rw[hget,List.getElem?_eq_getElem (by omega)];simp only[Nat.add_assoc];rfl
   have g2:(s.data.toList.drop a)[2+n]?=some (s[a+1+n+1]'c2):=by
    rw[hget,List.getElem?_eq_getElem (by omega)]
    congr 1
    show s.data.toList[a+(2+n)]=s.data.toList[a+1+n+1]'(by omega)
    congr 1;omega
   have d1:Lx.ry (s.data.toList.drop a) (1+n)=Lx.kF (s[a+1+n]'(Nat.lt_of_succ_lt c2)):=by unfold Lx.ry;rw[g1]
   have d2:Lx.ry (s.data.toList.drop a) (2+n)=Lx.kF (s[a+1+n+1]'c2):=by unfold Lx.ry;rw[g2]
   rw[d1,d2];cases e1:Lx.kF (s[a+1+n]'(Nat.lt_of_succ_lt c2))with
   |false=>exact Zv L s a _ p e w h hm hmd (by omega) _ F c2 e1 (by simp)
   |true=>
    cases e2:Lx.kF (s[a+1+n+1]'c2)with
    |false=>exact Zw L s a _ p e w h hm hmd (by omega) _ F c2 e1 e2 (by simp)
    |true=>
     refine WW L s a _ p e w h hm hmd (by omega) _ F c2 e1 e2 ?_;rw[if_pos ⟨rfl,rfl⟩,GU]
     have hl:(List.take (a+1+n+2-(a+1+n)) (List.drop (a+1+n) s.data.toList)).length=2:=by
      rw[List.length_take,List.length_drop,hll];omega
     unfold Lx.lim;rw[if_neg (by simp only[hl];omega)]
     congr 1
     ·congr 1
      rw[List.drop_drop,show a+1+n+2-(a+1+n)=2 from by omega,show a+(1+n)=a+1+n from by omega]
     ·omega
  ·have hd:¬(Lx.ry (s.data.toList.drop a) (1+n)=true∧Lx.ry (s.data.toList.drop a) (2+n)=true):=by
    rintro⟨_,h2⟩;unfold Lx.ry at h2;rw[hget,List.getElem?_eq_none (by omega)]at h2;cases h2
   rw[if_neg hd];exact WV L s a _ p e w h hm hmd (by omega) _ F (by omega) rfl
 ·rw[if_pos (by simpa using c1)]
  have F:((s.extract (a+1) (a+1+n)).toList==[102,101,110,99,101])=false:=by rw[hbl];simpa using c1
  refine WU L s a _ p e w h hm hmd (by omega) _ F ?_
  congr 1
  omega
theorem ab1(L:Nat)(s:ByteArray)(a:Nat)(p e:Int)(w:World)(h:bu w L s a p e)(hm:s.size≤140737488355328)(ha:a<s.size):
  Calls Tryz.prog 104 #[.pointer (some ⟨L,0,none⟩)] w (bA w L s a p e (Lx.next (s.data.toList.drop a))):=by
 have HM:s.size≤maxLen:=by unfold maxLen;omega
 have hll:s.data.toList.length=s.size:=by simp
 have hd:s.data.toList.drop a=s[a]::s.data.toList.drop (a+1):=List.drop_eq_getElem_cons (by simpa using ha);have hcl:Lx.cz s.data.toList a=(Lx.cls s[a].toNat:Int):=by rw[Lx.Ja _ _ (by omega)];rfl
 have F:∀k:Nat,(Lx.cz s.data.toList a==(k:Int))=(Lx.cls s[a].toNat==k):=fun k=>by
  rw[hcl,Bool.eq_iff_iff];simp;omega
 have B:∀k:Nat,Lx.dG k s[a]=(Lx.cls s[a].toNat==k):=fun k=>rfl
 have C:∀x:UInt8,((s.extract a (a+1)).toList==[x])=(s[a]==x):=Ur s a ha;have O:=one_byte s a ha;have one:∀k:Nat,Lx.lim 1 ⟨k,(s.extract a (a+1)).data.toList⟩ 1=.ok ⟨k,[s[a]]⟩ 1:=fun k=>by rw[O];rfl
 have abY:Lx.dG 2 s[a]=true→Lx.next (s.data.toList.drop a)=Lx.number (s.data.toList.drop a):=fun hb=>by
  rw[hd];simp only[Lx.next,hb,if_true]
 by_cases b2:(Lx.cls s[a].toNat==2)=true
 ·exact Us L s a p e w h HM ha _ ((F 2).trans b2) (abY ((B 2).trans b2)).symm
 have b2':(Lx.cls s[a].toNat==2)=false:=by simpa using b2
 rw[hd];simp only[Lx.next,B,b2',Bool.false_eq_true,if_false];have F2:=(F 2).trans b2'
 by_cases b5:(Lx.cls s[a].toNat==5)=true
 ·rw[if_pos b5]
  exact Zq L s a p e w h HM ha _ F2 ((F 5).trans b5) (one 7)
 have b5':(Lx.cls s[a].toNat==5)=false:=by simpa using b5
 simp only[b5',Bool.false_eq_true,if_false];have F5:=(F 5).trans b5'
 by_cases c34:s[a]=34
 ·rw[if_pos c34]
  exact Ut L s a p e w h HM ha _ F2 F5 ((C 34).trans (by simp[c34])) (fun w' h'=>WX L s a p e w' h' hm ha)
 rw[if_neg c34];have u6:=(C 34).trans (show(s[a]==34)=false by simpa using c34);have hq:(s.data.toList.drop (a+1)).head?=s.data.toList[a+1]?:=by rw[List.head?_drop]
 have aiz:Lx.xP 3 (s.data.toList.drop (a+1)) 0=(Lx.cz s.data.toList (a+1)==3):=by
  unfold Lx.xP Lx.cz;rw[List.getElem?_drop];cases s.data.toList[a+1+0]? with
  |none=>simp
  |some b=>simp only[Lx.dG];rw[Bool.eq_iff_iff];simp;omega
 rw[hq,aiz]
 by_cases GV:s[a]=92
 ·have u7:=(C 92).trans (show(s[a]==92)=true by simpa using GV)
  have xD:=(C 35).trans (show(s[a]==35)=false by rw[GV];rfl);have N3:(Lx.cz s.data.toList a==3)=false:=(F 3).trans (by rw[GV];rfl);have N4:(Lx.cz s.data.toList a==4)=false:=(F 4).trans (by rw[GV];rfl);have n35:¬s[a]=35:=by rw[GV];decide
  have n3:¬((Lx.cls s[a].toNat==3)=true∨(Lx.cls s[a].toNat==4)=true):=by rw[GV];decide
  by_cases hs:a+1<s.size
  ·have hx:s.data.toList[a+1]?=some (s[a+1]'hs):=by rw[List.getElem?_eq_getElem (by omega)];rfl
   rw[hx]
   by_cases d92:s[a+1]'hs=92
   ·rw[if_pos ⟨GV,by rw[d92]⟩]
    exact WS L s a p e w h HM ha _ F2 F5 u6 u7 hs (sP _ 92 d92) rfl
   ·rw[if_neg (fun hh=>d92 (by simpa using hh.2))]
    cases e3:(Lx.cz s.data.toList (a+1)==3)with
    |true=>
     rw[if_pos ⟨GV,rfl⟩,←hd];exact Zr L s a p e w h HM ha _ F2 F5 u6 u7 hs (qW _ 92 d92) e3 (fun w' h'=>ab0 L s a p e w' h' hm ha)
    |false=>
     rw[if_neg (fun hh=>by cases hh.2),if_neg (fun hh=>n35 hh.1),if_neg n3];exact QZ L s a p e w h HM ha _ F2 F5 u6 u7 xD hs (qW _ 92 d92) e3 N3 N4 rfl
  ·have hx:s.data.toList[a+1]?=none:=List.getElem?_eq_none (by omega)
   have e3:(Lx.cz s.data.toList (a+1)==3)=false:=by rw[Lx.MI _ _ (by omega)];rfl
   rw[hx,e3,if_neg (fun hh=>by cases hh.2),if_neg (fun hh=>by cases hh.2),if_neg (fun hh=>n35 hh.1),if_neg n3];exact Q3 L s a p e w h HM ha _ F2 F5 u6 u7 xD hs e3 N3 N4 rfl
 rw[if_neg (fun hh=>GV hh.1),if_neg (fun hh=>GV hh.1)];have u7:=(C 92).trans (show(s[a]==92)=false by simpa using GV)
 by_cases Q4:s[a]=35
 ·have xD:=(C 35).trans (show(s[a]==35)=true by simpa using Q4)
  have N3:(Lx.cz s.data.toList a==3)=false:=(F 3).trans (by rw[Q4];rfl);have N4:(Lx.cz s.data.toList a==4)=false:=(F 4).trans (by rw[Q4];rfl);have n3:¬((Lx.cls s[a].toNat==3)=true∨(Lx.cls s[a].toNat==4)=true):=by rw[Q4];decide
  by_cases hs:a+1<s.size
  ·have hx:s.data.toList.drop (a+1)=(s[a+1]'hs)::s.data.toList.drop (a+2):=List.drop_eq_getElem_cons (by omega)
   have hp:Lx.K9 (s.data.toList.drop (a+1))=decide (49≤(s[a+1]'hs)∧(s[a+1]'hs)≤52):=by rw[hx];rfl
   rw[hp];have le1:(49≤(s[a+1]'hs))↔49≤(s[a+1]'hs).toNat:=by rw[UInt8.le_iff_toNat_le];rfl
   have le2:((s[a+1]'hs)≤52)↔(s[a+1]'hs).toNat≤52:=by rw[UInt8.le_iff_toNat_le];rfl
   by_cases d1:49≤(s[a+1]'hs).toNat
   ·have D1:decide (49≤((s[a+1]'hs).toNat:Int))=true:=by simp;omega
    by_cases d2:(s[a+1]'hs).toNat≤52
    ·have D2:decide (((s[a+1]'hs).toNat:Int)≤52)=true:=by simp;omega
     rw[if_pos ⟨Q4,by simp[le1,le2,d1,d2]⟩,hx];refine WT L s a p e w h HM ha _ F2 F5 u6 u7 xD hs D1 D2 ?_;have hw:wrap32 ((s[a+1]'hs).toNat:Int)=((s[a+1]'hs).toNat:Int):=IntWalk.wrap32_in _ (by have:=(s[a+1]'hs).toNat_lt;constructor<;>omega);rw[hw,WR _ d1 d2];rfl
    ·have D2:decide (((s[a+1]'hs).toNat:Int)≤52)=false:=by simp;omega
     rw[if_neg (fun hh=>by simp[le1,le2,d2]at hh),if_neg n3];exact Uv L s a p e w h HM ha _ F2 F5 u6 u7 xD hs D1 D2 N3 N4 rfl
   ·have D1:decide (49≤((s[a+1]'hs).toNat:Int))=false:=by simp;omega
    rw[if_neg (fun hh=>by simp[le1,le2,d1]at hh),if_neg n3];exact Uu L s a p e w h HM ha _ F2 F5 u6 u7 xD hs D1 N3 N4 rfl
  ·have hp:Lx.K9 (s.data.toList.drop (a+1))=false:=by rw[List.drop_eq_nil_of_le (by omega)];rfl
   rw[hp,if_neg (fun hh=>by cases hh.2),if_neg n3];exact Uw L s a p e w h HM ha _ F2 F5 u6 u7 xD hs N3 N4 rfl
 rw[if_neg (fun hh=>Q4 hh.1)];have xD:=(C 35).trans (show(s[a]==35)=false by simpa using Q4)
 by_cases b3:(Lx.cls s[a].toNat==3)=true
 ·rw[if_pos (.inl b3)]
  exact Ux L s a p e w h HM ha _ F2 F5 u6 u7 xD ((F 3).trans b3) (one 1)
 have b3':(Lx.cls s[a].toNat==3)=false:=by simpa using b3
 by_cases b4:(Lx.cls s[a].toNat==4)=true
 ·rw[if_pos (.inr b4)]
  exact Zt L s a p e w h HM ha _ F2 F5 u6 u7 xD ((F 3).trans b3') ((F 4).trans b4) (one 1)
 have b4':(Lx.cls s[a].toNat==4)=false:=by simpa using b4
 rw[if_neg (fun hh=>hh.elim b3 b4)];exact Zu L s a p e w h HM ha _ F2 F5 u6 u7 xD ((F 3).trans b3') ((F 4).trans b4') rfl
end
section
open Go.RowKit
attribute [local go_sem] Oper.semAt_some
def EX(x:Lx.aB):Value:=.agg #[.int .i64 x.kind,.string ⟨x.text.toArray⟩,.int .i64 x.from_,.int .i64 x.eF]
def ab2(L:Nat)(w:World):Nat:=match w.cell? ⟨L,257,none⟩with|some (.int _ n)=>n.toNat|_=>0
theorem Vr{L:Nat}{w:World}{s:ByteArray}{a:Nat}{p e:Int}(h:bu w L s a p e):ab2 L w=a:=by unfold ab2;rw[h.at_];simp
def Zx(w:World)(L:Nat)(s:ByteArray)(r:Option (Nat×Nat)):Prop:=
 ∃a p e:Int,bu w L s a p e∧(match r with|none=>e=0|some (p',e')=>p=p'∧e=e')
theorem ab3(L c l:Nat)(s:ByteArray)(J:List Lx.aB→World→Prop)(w:World)(hm:s.size≤140737488355328)
  (hJ:∀pre W W',J pre W→Touch (·=L) W W'→J pre W')
  (hcL:c≠L)
  (hY:∀pre x (a:Nat) W,J pre W→bu W L s a 0 0→W.cell? ⟨c,0,none⟩=some (.pointer (some ⟨L,0,none⟩))→pre++[x]<+:(Lx.jr s.data.toList).1→
   YieldAt Fence.wide 1 Tryz.prog l #[EX x] W fun e W'=>e=.returned (.bool true)∧J (pre++[x]) W'∧bu W' L s a 0 0∧W'.cell? ⟨c,0,none⟩=some (.pointer (some ⟨L,0,none⟩)))
  (hL:bu w L s 0 0 0) (hc:w.cell? ⟨c,0,none⟩=some (.pointer (some ⟨L,0,none⟩))) (h0:J [] w):
  Calls Tryz.prog 102 #[.func (.yield l) #[] #[],.pointer (some ⟨c,0,none⟩)] w fun e w'=>e=.returned (.tuple #[])∧
   J (Lx.jr s.data.toList).1 w'∧Zx w' L s (Lx.jr s.data.toList).2:=by
 have HM:s.size≤maxLen:=by unfold maxLen;omega
 have HY:=hid hY;have HJ:=hid hJ;have aiA:=hid hL;have HC:=hid hc;have H0:=hid h0;have hll:s.data.toList.length=s.size:=by simp
 have yV:=hid hll;clear hY hJ hL hc h0 hll;go_enter Tryz.func102,Tryz.ntmps102
 go_wp2
 go_loopw [4] (fun _ wr=>∃(pre:List Lx.aB) (a:Nat),Hd (J pre wr)∧Hd (bu wr L s a 0 0)∧Hd (wr.cell? ⟨c,0,none⟩=some (.pointer (some ⟨L,0,none⟩)))∧a≤s.size∧
   Hd (Lx.jr s.data.toList=(pre++(Lx.lexFrom s.data.toList a).1,(Lx.lexFrom s.data.toList a).2))) (fun _ wr=>s.size-ab2 L wr)
 case atStart=>exact⟨[],0,H0,aiA,HC,Nat.zero_le _,rfl⟩
 case round=>
  obtain⟨pre,a,HJr,HLr,HCr,ha,HA⟩:=hrel;have hcc:=HCr.out;obtain⟨g1,g2,g3,g4,f1,f2,f3,aiB⟩:=eD HLr.out;obtain⟨b,hbd⟩:∃b,b=Lx.skip s.data.toList a:=⟨_,rfl⟩;have hsk:=Lx.aek s.data.toList a (by rw[yV.out];exact ha);rw[←hbd,yV.out]at hsk;obtain⟨hab,hbs⟩:=hsk;have HB:=hid hbd;have HAt:=hid (Vr HLr.out);clear hbd
  have hrun:∀n,Calls Tryz.prog 103 #[.pointer (some ⟨L,0,none⟩),.int .i64 (a:Int),.int .u8 1] (wr.drewN n) fun e w'=>e=.returned (.int .i64 (b:Int))∧∃m,w'=(wr.drewN n).drewN m:=fun n=>
   (rF L s a 0 0 _ 1 _ (HLr.out.drewN _) (by omega) (by omega) HM).mono (by rintro e w' ⟨rfl,hn⟩;rw[Int.toNat_natCast,HB.out];exact⟨rfl,hn⟩)
  have aiC:=hid hrun;clear hrun;go_wp2_with fail
  refine kY [([0,1,2,3,4,5,6,7,8],9)] [] (by kernel_rfl) (by kernel_rfl) ?_;simp only[tY,pick,List.getElem?_cons_zero,List.getElem?_cons_succ]
  repeat(quiet_step (exact Calls.quiet_of (aiC.out _)))
  refine wpQuiet_nil ?_;rintro _ ⟨nq,rfl⟩;go_wp2_with fail
  refine wpQuiet_nil ?_;rintro _ ⟨nq1,rfl⟩;have hlx:=(HLr.out.drewN nq).setAt b;have hc1:((wr.drewN nq).setCell ⟨L,257,none⟩ (.int .i64 (b:Int))).cell? ⟨c,0,none⟩=some (.pointer (some ⟨L,0,none⟩)):=by rw[World.cell?_setCell_other _ _ _ _ (by simp)];exact HCr.out
  have hj1:J pre ((wr.drewN nq).setCell ⟨L,257,none⟩ (.int .i64 (b:Int))):=HJ.out _ _ _ HJr.out (((M (·=L) wr).drewN nq).setCell (p:=⟨L,257,none⟩) (.inl rfl) _);have HLX:=hid hlx;have HJ1:=hid hj1;clear hlx hj1
  by_cases hlt:b<s.size
  ·have b1:((b:Int)==(s.size:Int))=false:=by rw[beq_eq_false_iff_ne];omega
   go_wp2
   go_quiet (fail)
   go_wp2_with fail
   refine(ab1 L s b 0 0 _ (HLX.out.drewN _) hm hlt).mono ?_;rintro e' w' ⟨k,tx,f,t,bb,a',p',e2,rfl,hx,ht,hmn⟩;have hj2:J pre w':=HJ.out _ _ _ HJ1.out (Touch.BD (n:=_) ht);have hc2:w'.cell? ⟨c,0,none⟩=some (.pointer (some ⟨L,0,none⟩)):=ht.cell hc1 hcL;have HJ2:=hid hj2;have HX:=hid hx;clear hj2 hx ht;cases hr:Lx.next (s.data.toList.drop b)with
   |err i er=>
    rw[hr]at hmn;obtain⟨rfl,rfl,rfl,rfl,rfl,ha',hp',he2⟩:=hmn;have HA':=hid ha';have HP':=hid hp';have HE':=hid he2;have HR:=hid hr;clear hr ha' hp' he2;go_wp2
    refine bodyPost_ret (results_none rfl _ _ _) rfl ?_;have hA:=HA.out;rw[Lx.TQ _ _ _ _ (by rw[←HB.out,yV.out];exact hlt) (by rw[←HB.out];exact HR.out)]at hA;rw[hA];refine⟨rfl,?_,⟨a',p',e2,bu.alloc HX.out _,?_⟩⟩
    ·rw[List.append_nil];exact HJ.out _ _ _ HJ2.out ((M (·=L) w').alloc _)
    ·rw[←HB.out];exact⟨HP'.out,HE'.out⟩
   |ok tk n=>
    rw[hr]at hmn;obtain⟨m2,hm2⟩:∃m2,m2=b+n:=⟨_,rfl⟩;have iI:=hid hm2;unfold WO at hmn;simp only[←hm2]at hmn;clear hm2;obtain⟨rfl,rfl,rfl,rfl,rfl,rfl,rfl,rfl⟩:=hmn;have HR:=hid hr;clear hr;have je:=hid (HX.out.alloc (.cells #[.int .i64 tk.kind,.string ⟨tk.text.toArray⟩,.int .i64 b,.int .i64 m2] 115));have hfa:=Lx.VW s.data.toList a n tk (by rw[←HB.out,yV.out];exact hlt) (by rw[←HB.out];exact HR.out);rw[←HB.out,←iI.out]at hfa;have gL:=hid hfa;clear hfa
    have aiD:m2≤s.size:=by
     have h1:=(Lx.EJ _ _ _ HR.out).2;rw[List.length_drop,yV.out]at h1;have:=iI.out;omega
    have uN:b<m2:=by have h1:=(Lx.EJ _ _ _ HR.out).1;have:=iI.out;omega
    have hc3:(w'.alloc (.cells #[.int .i64 tk.kind,.string ⟨tk.text.toArray⟩,.int .i64 b,.int .i64 m2] 115)).cell? ⟨c,0,none⟩=some (.pointer (some ⟨L,0,none⟩)):=((M (fun _=>False) w').alloc _).cell hc2 (fun h=>h)
    obtain⟨fn,tmps,assign,body,hy,hR⟩:=HY.out pre ⟨tk.kind,tk.text,b,m2⟩ m2 (w'.alloc (.cells #[.int .i64 tk.kind,.string ⟨tk.text.toArray⟩,.int .i64 b,.int .i64 m2] 115))
     (HJ.out _ _ _ HJ2.out ((M (·=L) w').alloc _)) je.out hc3 (by rw[HA.out,gL.out];exact⟨(Lx.lexFrom s.data.toList m2).1,by simp⟩)
    simp only[EX]at hy;have HRD:=hid hR;clear hR
    go_upto_region 3 with(fail)
    refine(wpIn_wide (n:=2)).1 ?_
    gi_wp2
    refine HRD.out.mono ?_;rintro e W' ⟨rfl,hj,hl,hcx⟩;have HJW:=hid hj;have Lt:=hid hl;have HCW:=hid hcx;clear hj hl hcx
    gi_wp2
    go_wp2
    go_roundw
    case rel=>exact⟨pre++[⟨tk.kind,tk.text,b,m2⟩],m2,HJW,Lt,HCW,aiD,by have:=HA.out;rw[gL.out]at this;simpa[Hd]using this⟩
    case measure=>rw[Vr Lt.out,HAt.out];omega
  ·have b1:((b:Int)==(s.size:Int))=true:=by rw[beq_iff_eq];omega
   go_wp2
   go_quiet (fail)
   go_wp2
   refine bodyPost_ret (results_none rfl _ _ _) rfl ?_;have hA:=HA.out;rw[Lx.TP _ _ (by rw[←HB.out,yV.out];omega)]at hA;rw[hA];refine⟨rfl,?_,⟨b,0,0,?_,rfl⟩⟩
   ·rw[List.append_nil];refine HJ.out _ _ _ HJ1.out ?_;exact((M (·=L) _).drewN _).drewN _
   ·exact(HLX.out.drewN _).drewN _
end
section
open Go.RowKit
def marked(l:List UInt8)(c:Int)(cs:Array Value):Array Value:=l.foldl (fun t b=>t.setIfInBounds b.toNat (.int .u8 c)) cs
theorem uD(l:List UInt8)(c:Int):∀cs:Array Value,(marked l c cs).size=cs.size:=by
 induction l with
 |nil=>intro cs;rfl
 |cons b l ih=>intro cs;unfold marked at ih⊢;rw[List.foldl_cons,ih];simp
theorem Uy(l:List UInt8)(b:UInt8)(c:Int)(cs:Array Value):marked (l++[b]) c cs=(marked l c cs).setIfInBounds b.toNat (.int .u8 c):=by simp[marked]
theorem BP(s:ByteArray)(c:Int)(g:Nat)(cs:Array Value)(w:World)(hb:af w g 107 cs)(hs:cs.size=256)(hm:s.size≤1000):
  Calls Tryz.prog 101 #[.string s,.int .u8 c,.pointer (some ⟨g,0,none⟩)] w fun e w'=>e=.returned (.tuple #[])∧af w' g 107 (marked s.data.toList c cs)∧Touch (·=g) w w':=by
 have HB:=hid hb;have HS:=hid hs;clear hb hs;go_enter Tryz.func101,Tryz.ntmps101
 go_wp2
 go_loopw [5] (fun i wr=>∃k:Nat,i=.int .i64 k∧k≤s.size∧Hd (af wr g 107 (marked (s.data.toList.take k) c cs))∧Hd (Touch (·=g) w wr)) (fun i _=>s.size-(intOf i).toNat)
 case atStart=>exact⟨0,rfl,Nat.zero_le _,(by have:=HB.out;simpa[marked,Hd]using this),M _ _⟩
 case round=>
  obtain⟨k,rfl,hk,HK,HT⟩:=hrel
  by_cases hlt:k<s.size
  ·have b1:decide ((k:Int)<(s.size:Int))=true:=by simp;omega
   have b2:(k:Int)<(s.size:Int):=by omega
   have b3:(0:Int)≤(k:Int):=by omega
   have b4:((s[k]'hlt).toNat:Int)<256:=by have:=(s[k]'hlt).toNat_lt;omega
   have hsz:(marked (s.data.toList.take k) c cs).size=256:=(uD _ _ _).trans HS.out
   obtain⟨u,hu⟩:∃u,wr.cell? ⟨g,(s[k]'hlt).toNat,none⟩=some u:=by
    rw[HK.out.cell];exact⟨_,Array.getElem?_eq_getElem (by rw[hsz];exact(s[k]'hlt).toNat_lt)⟩
   have hf:wr.frozen? ⟨g,(s[k]'hlt).toNat,none⟩=false:=HK.out.frozen _
   have hn:af (wr.setCell ⟨g,(s[k]'hlt).toNat,none⟩ (.int .u8 c)) g 107 (marked (s.data.toList.take (k+1)) c cs):=by
    have hg:s.data.toList.take (k+1)=s.data.toList.take k++[s[k]'hlt]:=by
     rw[List.take_succ_eq_append_getElem (by simpa using hlt)];rfl
    rw[hg,Uy];exact HK.out.put _ _
   have HN:=hid hn;clear hn hsz
   go_wp2
   go_roundw
   case rel=>exact⟨k+1,by go_num,hlt,HN,HT.out.setCell (p:=⟨g,(s[k]'hlt).toNat,none⟩) (.inl rfl) _⟩
   case measure=>simp[intOf];omega
  ·have b1:decide ((k:Int)<(s.size:Int))=false:=by simp;omega
   go_wp2
   go_end0
   refine⟨rfl,?_,HT.out⟩;have:=HK.out
   rwa [List.take_of_length_le (by simp;omega)]at this
def qx:Array Value:=Array.replicate 256 (.int .u8 0)
def Q5:Array Value:=marked [32,9,10] 1 qx
def WZ:Array Value:=marked [48,49,50,51,52,53,54,55,56,57] 2 Q5
def Uz:List UInt8:=[97,98,99,100,101,102,103,104,105,106,107,108,109,110,111,112,113,114,115,116,117,118,119,120,121,122,65,66,67,68,69,70,71,72,73,74,75,76,77,78,79,80,81,82,83,84,85,86,87,88,89,90]
def Xa:Array Value:=marked Uz 3 WZ
def Xb:Array Value:=marked [43,45,42,47,61,60,62,44,59,58,33,124,39,63,126,64] 4 Xa
def Kg:Array Value:=marked [123,125,40,41,91,93,94,95,38] 5 Xb
def BQ:Array Value:=Array.ofFn (n:=256) fun i=>Value.int .u8 (Lx.cls i.1:Nat)
theorem Vs:Kg=BQ:=by kernel_rfl
theorem NZ:Q5.size=256:=by simp[Q5,uD,qx]
theorem N7:WZ.size=256:=(uD _ _ _).trans NZ
theorem N8:Xa.size=256:=(uD _ _ _).trans N7
theorem N9:Xb.size=256:=(uD _ _ _).trans N8
theorem CR:Kg.size=256:=(uD _ _ _).trans N9
theorem GX:(Tryz.prog.info? 107).map (·.size)=some 256:=by kernel_rfl
theorem ab4:Kg.all (·.oneCell')=true:=by rw[Vs];kernel_rfl
theorem Zy(w:World):(zeroValue 107).run Tryz.prog w=.ok (.agg qx) w:=by kernel_rfl
theorem UA(w:World):
  Calls Tryz.prog 64 #[] w fun e w'=>e=.returned (.agg BQ)∧ag w w':=by
 have hz:=Zy;go_enter Tryz.func64,Tryz.ntmps64;go_wp2_with fail
 refine(BP _ 1 _ qx _ (af.new2 _ _ _ _) (by simp[qx]) (by decide)).mono ?_;rintro e1 w1 ⟨rfl,hb1,ht1⟩;have hb1':af w1 (w.heap.size+1) 107 Q5:=hb1;have hr1:af w1 w.heap.size 107 qx:=ht1.blk ((af.new w _ _).alloc _) (by omega);have hf1:ag w w1:=(((M (fun _=>False) w).alloc _).alloc _).trans' ht1 (fun i hi=>.inr (by omega));have HB1:=hid hb1';have HR1:=hid hr1;have aK:=hid hf1;clear hb1 hb1' hr1 hf1 ht1;go_wp2_with fail
 refine(BP _ 2 _ Q5 _ HB1.out NZ (by decide)).mono ?_;rintro e2 w2 ⟨rfl,hb1,ht1⟩;have hb1':af w2 (w.heap.size+1) 107 WZ:=hb1;have hr1:af w2 w.heap.size 107 qx:=ht1.blk HR1.out (by omega);have hf1:ag w w2:=aK.out.trans' ht1 (fun i hi=>.inr (by omega));have HB2:=hid hb1';have HR2:=hid hr1;have bW:=hid hf1;clear hb1 hb1' hr1 hf1 ht1;go_wp2_with fail
 refine(BP _ 3 _ WZ _ HB2.out N7 (by decide)).mono ?_;rintro e3 w3 ⟨rfl,hb1,ht1⟩;have hb1':af w3 (w.heap.size+1) 107 Xa:=hb1;have hr1:af w3 w.heap.size 107 qx:=ht1.blk HR2.out (by omega);have hf1:ag w w3:=bW.out.trans' ht1 (fun i hi=>.inr (by omega));have HB3:=hid hb1';have HR3:=hid hr1;have bJ:=hid hf1;clear hb1 hb1' hr1 hf1 ht1;go_wp2_with fail
 refine(BP _ 4 _ Xa _ HB3.out N8 (by decide)).mono ?_;rintro e4 w4 ⟨rfl,hb1,ht1⟩;have hb1':af w4 (w.heap.size+1) 107 Xb:=hb1;have hr1:af w4 w.heap.size 107 qx:=ht1.blk HR3.out (by omega);have hf1:ag w w4:=bJ.out.trans' ht1 (fun i hi=>.inr (by omega));have iB:=hid hb1';have HR4:=hid hr1;have eZ:=hid hf1;clear hb1 hb1' hr1 hf1 ht1;go_wp2_with fail
 refine(BP _ 5 _ Xb _ iB.out N9 (by decide)).mono ?_;rintro e5 w5 ⟨rfl,hb1,ht1⟩;have hb1':af w5 (w.heap.size+1) 107 Kg:=hb1;have hr1:af w5 w.heap.size 107 qx:=ht1.blk HR4.out (by omega);have hf1:ag w w5:=eZ.out.trans' ht1 (fun i hi=>.inr (by omega));have eO:=hid hb1';have CS:=hid hr1;have eY:=hid hf1;clear hb1 hb1' hr1 hf1 ht1
 go_wp2_with (first
   |(refine wpList_load_row rfl 107 _ rfl (w.heap.size+1) rfl 107 Kg (0,0) _ eO.out Tryz.underlying107 rfl (GX.trans (by rw[CR])) ?_)
   |(refine wpList_store_row rfl 107 _ _ rfl w.heap.size Kg rfl rfl 107 qx CS.out (GX.trans (by rw[CR])) (by rw[CR];simp[qx]) ab4 ?_))
 refine bodyPost_ret (results_cell_row (fn:=Tryz.f64) (p:=0) rfl _ _ w.heap.size 107 Kg (0,0) _ rfl (setRow_heap _ _ _ _ _ _ CS.out) Tryz.underlying107 rfl (GX.trans (by rw[CR]))) rfl ?_;exact⟨by rw[Vs],eY.out.setRow (.inr (Nat.le_refl _)) _⟩
end
section
open Go.RowKit
attribute [local go_sem] Oper.semAt_some
theorem aeR:(Tryz.prog.info? 115).map (fun i=>(i.zero,i.size,i.bytes))=some (some (.agg #[.int .i64 0,.string ⟨#[]⟩,.int .i64 0,.int .i64 0]),4,40):=by kernel_rfl
theorem Zz(s:ByteArray):Tryz.prog.built 110 [(0,.agg BQ),(1,.string s)]=some (pV s 0 0 0):=by kernel_rfl
theorem Kh{ops:Array Oper}{rest:List Oper}{o:Oper}{a:Act}{w:World}{Q:Exit→Act→World→Prop}(s:ByteArray)(hg:o.guard=none)(x y:Operand)(ho:o.op=.build 110 #[(0,x),(1,y)])
  (hx:a.eval x=.agg BQ) (hy:a.eval y=.string s) (h:wpList Tryz.prog ops Q rest (a.put o.dst (.agg (pV s 0 0 0))) w):wpList Tryz.prog ops Q (o::rest) a w:=by
 refine wpList_plain hg fun K hK=>?_
 unfold Oper.wp execOp;simp only[ho,Sem.run_bind,List.map_toArray,List.map_cons,List.map_nil,hx,hy,run_build w 110 #[(0,.agg BQ),(1,.string s)] _ (Zz s),Result.andThen_ok];exact hK _ _ h
theorem Xc(L:Nat)(w:World):
  Calls Tryz.prog 65 #[.pointer (some ⟨L,0,none⟩)] w fun e w'=>e=.returned (.func (.func 102) #[] #[.pointer (some ⟨w.heap.size,0,none⟩)])∧w'=w.alloc (.cells #[.pointer (some ⟨L,0,none⟩)] 106):=by
 go_enter Tryz.func65,Tryz.ntmps65
 go_wp2
 go_ret;exact⟨rfl,rfl⟩
end
section
open Go.RowKit
def Vt(L c D:Nat)(k:Nat):Prop:=k≠L∧k≠c∧k≠D∧k≠D+1
def ZA(L c D:Nat)(I:World→Prop)(W2:World):Exit→Act→World→Prop
 |.normal,_,W3=>Touch (Vt L c D) W2 W3∧I W3
 |_,_,_=>False
theorem yo(W:World)(l:Nat)(o:Obj):Touch (·=l) W (W.putObj l o):=
 ⟨rfl,rfl,rfl,by simp,fun _ _ hn=>World.putObj_heap_other hn⟩
theorem Pk{assign body:Code}{Q:Exit→Act→World→Prop}{a:Act}{W0:World}{L c:Nat}{s:ByteArray}
  (hg:a.eval (.tmp 12)=.func (.func 102) #[] #[.pointer (some ⟨c,0,none⟩)]) (hm:s.size≤140737488355328) (hcL:c≠L) (hc:W0.cell? ⟨c,0,none⟩=some (.pointer (some ⟨L,0,none⟩))) (hL:bu W0 L s 0 0 0)
  (I:List Lx.aB→World→Prop) (hI:∀pre W W',I pre W→Touch (fun k=>k=L∨k=W0.heap.size∨k=W0.heap.size+1) W W'→I pre W') (h0:I [] W0)
  (afH:∀pre x W,I pre W→W0.heap.size+2≤W.heap.size→pre++[x]<+:(Lx.jr s.data.toList).1→
   assign.wpIn (Fence.wide.inRound (W0.heap.size+1)) 1 Tryz.prog (Exit.then (fun a₁ W1=>Touch (Vt L c W0.heap.size) W W1∧∀W2,Touch (·=W0.heap.size+1) W1 W2→W2.heap.size=W1.heap.size→
     body.wpIn (Fence.wide.inRound (W0.heap.size+1)) 1 Tryz.prog (ZA L c W0.heap.size (I (pre++[x])) W2) a₁ W2) (fun _ _ _=>False))
    {tmps:=a.tmps.setIfInBounds 13 (EX x),defers:=[]} W)
  (hdone:∀W,I (Lx.jr s.data.toList).1 W→Zx W L s (Lx.jr s.data.toList).2→W.heap[W0.heap.size]?=some (.deferred (some []))→W0.heap.size+2≤W.heap.size→
   Q .normal {a with defers:={target:=.collected W0.heap.size,args:=#[]}::a.defers} W):
  (Code.rangeFunc (.tmp 12) #[13] assign body).wp Tryz.prog Q a W0:=by
 have hcl:c<W0.heap.size:=bL hc;have hLl:=hL.lt;refine(wpIn_wide (n:=4)).1 (wpIn_rangeFunc ?_);intro fn hfn;obtain⟨rec,hrec⟩:∃rec:LoopState→Option Code→Loop,rec=fun st pe=>{state:=st,pending:=pe,fn,tmps:=a.tmps,params:=#[13],assign,body,defers:=W0.heap.size}:=⟨_,rfl⟩
 obtain⟨W1,hW1⟩:∃W1,(W0.alloc (.deferred (some []))).alloc (.loop (rec .ready none))=W1:=⟨_,rfl⟩
 have hL1:W1.heap[W0.heap.size+1]?=some (.loop (rec .ready none)):=by
  rw[←hW1];have:=World.alloc_heap_new (W0.alloc (.deferred (some []))) (.loop (rec .ready none));rwa [World.size_alloc]at this
 have hK1:W1.heap[W0.heap.size]?=some (.deferred (some [])):=by
  rw[←hW1];exact(Below.heap_alloc _ _ _ (by simp)).trans (World.alloc_heap_new W0 _)
 have hf1:ag W0 W1:=by rw[←hW1];exact((M _ W0).alloc _).alloc _
 have hs1:W1.heap.size=W0.heap.size+2:=by rw[←hW1];simp
 refine⟨W0.heap.size+1,[{target:=.collected W0.heap.size,args:=#[]}],W1,{target:=.fn (.func 102) #[.pointer (some ⟨c,0,none⟩)],args:=#[.func (.yield (W0.heap.size+1)) #[] #[]]},W1,102,
  #[.func (.yield (W0.heap.size+1)) #[] #[]]++#[.pointer (some ⟨c,0,none⟩)],W1,?_,?_,?_,?_,fun h=>by simp[Fence.wide]at h,?_⟩
 ·rw[←hW1,hrec];exact run_enterLoop_outer _ _ _ _ _
 ·simp only[resolve,hg]
  simp[go_sem]
 ·intro f' _;trivial
 ·simp[invoke,go_sem]
 ·refine callsIn_wide.2 ((ab3 L c (W0.heap.size+1) s
   (fun pre W=>I pre W∧W.heap[W0.heap.size+1]?=some (.loop (rec .ready none))∧W.heap[W0.heap.size]?=some (.deferred (some []))∧W0.heap.size+2≤W.heap.size) W1 hm ?_ hcL ?_ (hf1.blk hL (fun h=>h)) (hf1.cell hc (fun h=>h)) ⟨hI _ _ _ h0 (hf1.mono (fun _ h=>h.elim)),hL1,hK1,by omega⟩).mono ?_)
  ·rintro pre W W' ⟨h1,h2,h3,h4⟩ ht
   exact⟨hI _ _ _ h1 (ht.mono (fun _ h=>.inl h)),(ht.block _ (by omega) (by omega)).trans h2,(ht.block _ (by omega) (by omega)).trans h3,Nat.le_trans h4 ht.size⟩
  ·rintro pre x at_ W ⟨hi,hl,hd,hsz⟩ hlx hcx hpre
   have hy:=run_yield (P:=Tryz.prog) (args:=#[EX x]) hl (by rw[hrec];rfl);have hz:∀t:Array Value,(((#[13]:Array Tmp).zip #[EX x]).foldl (fun tmps (t,a)=>tmps.setIfInBounds t a) t)=t.setIfInBounds 13 (EX x):=fun t=>by simp
   rw[hrec]at hy
   dsimp only at hy
   rw[hz]at hy;refine⟨fn,_,assign,body,hy,roundIn_of_wpIn hfn (wpIn_mono (afH pre x W hi hsz hpre) ?_)⟩;intro e a1 w1 hp;cases e with
   |normal=>
    obtain⟨ht1,hb⟩:=hp;have hl1:w1.heap[W0.heap.size+1]?=some (.loop (rec .ready none)):=(ht1.block _ (by omega) (fun hn=>hn.2.2.2 rfl)).trans hl;have hd1:w1.heap[W0.heap.size]?=some (.deferred (some [])):=(ht1.block _ (by omega) (fun hn=>hn.2.2.1 rfl)).trans hd;have hs2:=ht1.size;refine⟨_,run_beginRound hl1 (by rw[hrec]),?_⟩;have ht2:=yo w1 (W0.heap.size+1) (.loop {rec .ready none with state:=.busy});refine wpIn_mono (hb _ ht2 (by simp)) ?_;intro e3 a3 W3 hp3;cases e3 with
    |normal=>
     obtain⟨ht3,hi3⟩:=hp3;have hl2:(w1.putObj (W0.heap.size+1) (.loop {rec .ready none with state:=.busy})).heap[W0.heap.size+1]?=some (.loop {rec .ready none with state:=.busy}):=World.putObj_heap_same (by omega);have hl3:W3.heap[W0.heap.size+1]?=some (.loop {rec .ready none with state:=.busy}):=(ht3.block _ (by simp;omega) (fun hn=>hn.2.2.2 rfl)).trans hl2;have hd3:W3.heap[W0.heap.size]?=some (.deferred (some [])):=(ht3.block _ (by simp;omega) (fun hn=>hn.2.2.1 rfl)).trans ((World.putObj_heap_other (by omega)).trans hd1);have hs3:=ht3.size;simp at hs3
     have hr:=run_endRound (P:=Tryz.prog) none hl3;have fA:=yo W3 (W0.heap.size+1) (.loop (rec .ready none));have hrr:({rec .ready none with state:=.busy}:Loop)={rec .ready none with state:=.busy}:=rfl;have hre:(({({rec .ready none with state:=.busy}:Loop)with state:=if(none:Option Code).isNone then .ready else .done,pending:=none}:Loop))=rec .ready none:=by rw[hrec];rfl
     rw[hre]at hr;refine⟨_,_,hr,rfl,⟨hI _ _ _ hi3 (fA.mono (fun _ h=>.inr (.inr h))),World.putObj_heap_same (by omega),(World.putObj_heap_other (by omega)).trans hd3,by simp;omega⟩,?_,?_⟩
     ·exact fA.blk (ht3.blk (ht2.blk (ht1.blk hlx (fun hn=>hn.1 rfl)) (by omega)) (fun hn=>hn.1 rfl)) (by omega)
     ·exact fA.cell (ht3.cell (ht2.cell (ht1.cell hcx (fun hn=>hn.2.1 rfl)) (by simp;omega)) (fun hn=>hn.2.1 rfl)) (by simp;omega)
    |ret=>exact hp3.elim
    |exit id=>exact hp3.elim
    |goto t=>exact hp3.elim
    |panic ch=>exact hp3.elim
    |outgrown=>exact hp3.elim
   |ret=>exact hp.elim
   |exit id=>exact hp.elim
   |goto t=>exact hp.elim
   |panic ch=>exact hp.elim
   |outgrown=>exact hp.elim
  ·rintro e W2 ⟨rfl,⟨hi,hl,hd,hsz⟩,hend⟩
   have ag9:(rec .ready none).pending=none:=by rw[hrec]
   obtain⟨ob,hend'⟩:∃ob,(Instr.endLoop (W0.heap.size+1)).run Tryz.prog W2=.ok none (W2.putObj (W0.heap.size+1) ob):=⟨_,by
    have:=run_endLoop (P:=Tryz.prog) hl (by rw[hrec];simp);rw[ag9]at this;exact this⟩
   have ht:=yo W2 (W0.heap.size+1) ob;refine⟨none,_,hend',?_⟩;obtain⟨a',p',e',h1,h2⟩:=hend;exact hdone _ (hI _ _ _ hi (ht.mono (fun _ h=>.inr (.inr h)))) ⟨a',p',e',ht.blk h1 (by omega),h2⟩ ((World.putObj_heap_other (by omega)).trans hd) (by simp;omega)
end
end Go.Proofs.YtcgbccfpcgaikaaGreatDoor
