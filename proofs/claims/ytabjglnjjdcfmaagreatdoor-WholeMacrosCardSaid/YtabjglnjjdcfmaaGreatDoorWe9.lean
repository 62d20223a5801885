/- Part 9 of 41 of a proof. No condition. -/
import Derived.RangeFuncNested
import Derived.OwnWalkIn
import Derived.TacticsInMore
import Derived.LoopIn
import Derived.Deep.Cut
import Derived.Test.YtabjglnjjdcfmaaGreatDoorWe8
import Derived.Test.YtabjglnjjdcfmaaGreatDoorWe4
set_option maxRecDepth 100000
set_option maxHeartbeats 2000000
namespace Go.Proofs.YtabjglnjjdcfmaaGreatDoor
open _root_.Go.World renaming ownsRow_nil->avR,cell?_setCell_other->awq
open _root_.Bool renaming eq_iff_iff->avs,false_eq_true->avH
open _root_.List renaming drop_drop->awZ,getElem?_drop->aws,getElem?_eq_getElem->ave,length_drop->avM,getElem?_eq_none->awR,drop_eq_getElem_cons->avt,getElem?_cons_zero->avo,append_nil->avf
open _root_.Nat renaming lt_of_succ_lt->awp,zero_le->au1
open _root_.Go.Proofs.Tryz
section
open Go.RowKit
structure PL(w:W_)(L:Nat)(s:Y_)(a:Nat)(p e:Int)(r:Lx.jT)(j:Nat)(acc:List UInt8)(cs:Array Value)(v:Value)(wr:W_):Prop where
 lex:bu wr L s a p e
 res:af wr w.heap.size 131 #[V 0,.string ByteArray.empty,V 0,V 0]
 dW:uU wr (w.heap.size+2) (w.heap.size+1) 0 54 cs v acc
 size:cs.size=2
 Ke:Touch (λ_=>False) w wr
 lo:a+1<=j
 hi:j<=s.size
 len:acc.length<=j
 quo:Lx.quo (s.data.toList.drop j) acc (j-a)=r
theorem PL.next{w:W_}{L:Nat}{s:Y_}{a:Nat}{p e:Int}{r:Lx.jT}{j:Nat}{acc:List UInt8}{cs:Array Value}{v:Value}{wr w':W_}(Q:PL w L s a p e r j acc cs v wr)(hL:L<w.heap.size){j':Nat}{c:UInt8}{v':Value}
  (hb:uU w' (w.heap.size+2) (w.heap.size+1) 0 54 ((cs.setIfInBounds 0 (.pointer (A_ (w.heap.size+1) 0))).setIfInBounds (0+1) v') v' (acc++[c]))
  (ht:Touch (λk=>k=w.heap.size+1\/v.ownBlock=some k) wr w') (hj:j<j') (hs:j'<=s.size) (hq:Lx.quo (s.data.toList.drop j') (acc++[c]) (j'-a)=r):
  PL w L s a p e r j' (acc++[c]) ((cs.setIfInBounds 0 (.pointer (A_ (w.heap.size+1) 0))).setIfInBounds (0+1) v') v' w':=by
 have hlt:=Q.dW.own.lt;refine⟨ht.QN Q.lex ?_,ht.QN Q.res ?_,hb,by simp[Q.size],Q.Ke.trans' ht ?_,by have:=Q.lo;omega,hs,by have:=Q.len;simp;omega,hq⟩
 .rintro(h1|h1)
  .omega
  .have:=(hlt _ h1).1;omega
 .rintro(h1|h1)
  .omega
  .have:=(hlt _ h1).1;omega
 .rintro i (h1|h1)
  .right;omega
  .right;have:=(hlt _ h1).1;omega
theorem WX(L:Nat)(s:Y_)(a:Nat)(p e:Int)(w:W_)(h:bu w L s a p e)(hm:s.size<=140737488355328)(ha:a<s.size):
  C_ 123 #[.pointer (A_ L 0)] w (bA w L s a p e (Lx.quo (s.data.toList.drop (a+1)) [] 1)):=by
 obtain⟨g1,g2,g3,g4,f1,f2,f3,hL⟩:=eD h;have H:=I h;obtain⟨r,hr⟩:∃r,Lx.quo (s.data.toList.drop (a+1)) [] 1=r:=⟨_,rfl⟩;rw[hr];have HR:=I hr;have ab:s.data.toList.length=s.size:=P9
 have yV:=I ab;clear h hr ab;go_enter func123,ntmps123
 go_wp2
 clear g1 g2 g3 g4 f1 f2 f3
 go_loopw [5] (λi wr=>∃(j:Nat) (acc:List UInt8) (cs:Array Value) (v:Value),i=V j/\PL w L s a p e r j acc cs v wr) (λi _=>s.size-(intOf i).toNat)
 case atStart=>
  refine⟨a+1,[],#[.pointer none,N_],N_,by go_num,?_,?_,?_,rfl,?_,Nat.le_refl _,ha,by simp,?_⟩
  .exact(H.alloc _).alloc _
  .exact(af.new w _ _).alloc _
  .refine⟨?_,.inl rfl,rfl,avR _ _ _ _,by simp[Value.ownBlock],λ_=>rfl⟩
   have:=af.new (w.alloc (.cells #[V 0,E_,V 0,V 0] 131)) 54 #[.pointer none,N_];exact ah7
  .exact((M _ w).alloc _).alloc _
  .rw[show a+1-a=1 from by omega];exact HR.out
 case round=>
  obtain⟨j,acc,cs,v,rfl,Q0⟩:=hrel;obtain⟨g1,g2,g3,g4,f1,f2,f3,hLr⟩:=eD Q0.lex;have Q:=I Q0;have ai:=Q0.lo;have hhi:=Q0.hi;have hlen:=Q0.len;have hwr:=Q0.Ke.size;have hbl:=Q0.dW.lt;have hres:=Q0.res.lt;clear Q0
  by_cases c1:j<s.size
  .have b1:decide ((j:Int)<(s.size:Int))=true:=by simp;omega
   have b1':(j:Int)<(s.size:Int):=Zo
   have ahF:(0:Int)<=(j:Int):=Zo
   have ae:j<s.data.toList.length:=by rw[yV.out];exact c1
   have aa:s.data.toList[j]=s[j]'c1:=rfl
   by_cases c2:s[j]'c1=34
   .have hq:=Q.quo
    rw[Lx.BA _ _ _ _ ae,aa,if_pos c2]at hq;have HQ:=I hq;have b2:(((s[j]'c1).toNat:Int)==34)=true:=sP _ 34 c2;clear hq c2 aa ae;go_wp2_with fail
    refine(zI Q.dW).mono ?_;rintro e1 w1 ⟨rfl,ad⟩;have hlx:bu w1 L s a p e:=ad.QN Q.lex (λhk=>by have:=(Q.dW.own.lt _ hk).1;omega);have aj:=ad.QN Q.res (λhk=>by have:=(Q.dW.own.lt _ hk).1;omega);have ag:Touch (λ_=>False) w w1:=Q.Ke.trans' ad (λi hk=>by have:=(Q.dW.own.lt _ hk).1;right;omega);have ah:=I hlx;have an:=I aj;have ay:=I ag;clear hlx aj ad ag;go_wp2_with fail
    refine(uZ L s a p e _ 3 _ _ (j-a+1) 200 _ _ r HQ.out ah.out rfl Zo rfl).mono ?_;rintro e' w' ⟨k,tx,f,t,b,a',p',e2,rfl,hx,ht,ac⟩;obtain⟨q0,q1,q2,q3,z0,z1,z2,z3,hg⟩:=af.QM (ht.QN an.out Zo);have HX:=I hx;have ao:=I ht;have fU:=I ac;clear hx ht ac;go_wp2_with fail
    (try simp only[Exit.inBlock,Exit.then])
    refine bodyPost_ret (v:=.tuple #[.agg #[V k,.string tx,V f,V t],.bool b]) (by simp[results,results123,go_sem,q0,q1,q2,q3]) rfl ?_;exact bA.close hL HX.out ((ay.mono (λ_ h=>h.elim)).trans ao.out) fU.out
   .have b2:(((s[j]'c1).toNat:Int)==34)=false:=qW _ 34 c2
    by_cases c3:(s[j]'c1)<32\/126<(s[j]'c1)
    .have hq:=Q.quo
     rw[Lx.BA _ _ _ _ ae,aa,if_neg c2,if_pos c3]at hq;have HQ:=I hq
     by_cases c4:(s[j]'c1)<32
     .have b3:decide (((s[j]'c1).toNat:Int)<32)=true:=by simp;exact Int.ofNat_lt.2 (UInt8.lt_iff_toNat_lt.1 c4)
      clear hq c2 c3 c4 aa ae;go_wp2_with fail
      refine(og L s a p e _ _ (j-a) 3 _ r HQ.out Q.lex Zo rfl).mono ?_;rintro e' w' ⟨k,tx,f,t,b,a',p',e2,rfl,hx,ht,ac⟩;obtain⟨q0,q1,q2,q3,z0,z1,z2,z3,hg⟩:=af.QM atl;have HX:=I hx;have ao:=I ht;have fU:=I ac;clear hx ht ac;go_wp2_with fail
      (try simp only[Exit.inBlock,Exit.then])
      exact WK
     .have b3:decide (((s[j]'c1).toNat:Int)<32)=false:=by rw[decide_eq_false_iff_not];intro hx;exact c4 (UInt8.lt_iff_toNat_lt.2 (by simpa using Int.ofNat_lt.1 hx))
      have b4:decide (126<((s[j]'c1).toNat:Int))=true:=by
       have:=UInt8.lt_iff_toNat_lt.1 (c3.resolve_left c4);simp at this|-;omega
      clear hq c2 c3 c4 aa ae;go_wp2_with fail
      refine(og L s a p e _ _ (j-a) 3 _ r HQ.out Q.lex Zo rfl).mono ?_;rintro e' w' ⟨k,tx,f,t,b,a',p',e2,rfl,hx,ht,ac⟩;obtain⟨q0,q1,q2,q3,z0,z1,z2,z3,hg⟩:=af.QM atl;have HX:=I hx;have ao:=I ht;have fU:=I ac;clear hx ht ac;go_wp2_with fail
      (try simp only[Exit.inBlock,Exit.then])
      exact WK
    .have b3:decide (((s[j]'c1).toNat:Int)<32)=false:=by rw[decide_eq_false_iff_not];intro hx;exact c3 (.inl (UInt8.lt_iff_toNat_lt.2 (by simpa using Int.ofNat_lt.1 hx)))
     have b4:decide (126<((s[j]'c1).toNat:Int))=false:=by rw[decide_eq_false_iff_not];intro hx;exact c3 (.inr (UInt8.lt_iff_toNat_lt.2 WN))
     by_cases c5:s[j]'c1=92
     .have b5:(((s[j]'c1).toNat:Int)==92)=true:=sP _ 92 c5
      by_cases c6:j+1<s.size
      .have b6:(((j:Int)+1)==(s.size:Int))=false:=by rw[beq_eq_false_iff_ne];omega
       have b6':(j:Int)+1<(s.size:Int):=Zo
       have akU:(0:Int)<=(j:Int)+1:=Zo
       have WY:j+1<s.data.toList.length:=by rw[yV.out];exact c6
       have PM:s.data.toList[j+1]=s[j+1]'c6:=rfl;have hq:=Q.quo;rw[Lx.aej _ _ _ _ ae (by rw[aa];exact c5) WY,PM]at hq
       by_cases c7:s[j+1]'c6=34
       .rw[if_pos (.inl c7)]at hq
        have HQ:=I hq;have b7:(((s[j+1]'c6).toNat:Int) !=34)=false:=qC _ 34 c7;clear hq c2 c3 c5 c7 aa ae PM WY;go_wp2_with fail
        refine(iP Q.dW asL _ (s[j+1]'c6) aob Zo Zo).mono ?_;rintro e1 w1 ⟨rfl,v',hb1,ad⟩;have HN:=I aq7;clear hb1 ad;go_wp2
        go_roundw
        case rel=>exact⟨(j+2),_,_,_,by go_num,HN.out⟩
        case measure=>simp[intOf];omega
       .have b7:(((s[j+1]'c6).toNat:Int) !=34)=true:=si _ 34 c7
        by_cases c8:s[j+1]'c6=92
        .rw[if_pos (.inr c8)]at hq
         have HQ:=I hq;have b8:(((s[j+1]'c6).toNat:Int) !=92)=false:=qC _ 92 c8;clear hq c2 c3 c5 c7 c8 aa ae PM WY;go_wp2_with fail
         refine(iP Q.dW asL _ (s[j+1]'c6) aob Zo Zo).mono ?_;rintro e1 w1 ⟨rfl,v',hb1,ad⟩;have HN:=I aq7;clear hb1 ad;go_wp2
         go_roundw
         case rel=>exact⟨(j+2),_,_,_,by go_num,HN.out⟩
         case measure=>simp[intOf];omega
        .rw[if_neg (λhx=>hx.elim c7 c8)]at hq
         have HQ:=I hq;have b8:(((s[j+1]'c6).toNat:Int) !=92)=true:=si _ 92 c8;clear hq c2 c3 c5 c7 c8 aa ae PM WY;go_wp2_with fail
         refine(og L s a p e _ _ (j-a) 3 _ r HQ.out Q.lex Zo rfl).mono ?_;rintro e' w' ⟨k,tx,f,t,b,a',p',e2,rfl,hx,ht,ac⟩;obtain⟨q0,q1,q2,q3,z0,z1,z2,z3,hg⟩:=af.QM atl;have HX:=I hx;have ao:=I ht;have fU:=I ac;clear hx ht ac;go_wp2_with fail
         (try simp only[Exit.inBlock,Exit.then])
         exact WK
      .have b6:(((j:Int)+1)==(s.size:Int))=true:=by rw[beq_iff_eq];omega
       have hq:=Q.quo;rw[Lx.TN _ _ _ _ ae (by rw[aa];exact c5) (by rw[yV.out];omega)]at hq;have HQ:=I hq;clear hq c2 c3 c5 aa ae;go_wp2_with fail
       refine(og L s a p e _ _ (j-a) 3 _ r HQ.out Q.lex Zo rfl).mono ?_;rintro e' w' ⟨k,tx,f,t,b,a',p',e2,rfl,hx,ht,ac⟩;obtain⟨q0,q1,q2,q3,z0,z1,z2,z3,hg⟩:=af.QM atl;have HX:=I hx;have ao:=I ht;have fU:=I ac;clear hx ht ac;go_wp2_with fail
       (try simp only[Exit.inBlock,Exit.then])
       exact WK
     .have b5:(((s[j]'c1).toNat:Int)==92)=false:=qW _ 92 c5
      have hq:=Q.quo;rw[Lx.YF _ _ _ _ ae (by rw[aa];exact c2) (by rw[aa];exact c3) (by rw[aa];exact c5),aa]at hq;have HQ:=I hq;clear hq c2 c3 c5 aa ae;go_wp2_with fail
      refine(iP Q.dW asL _ (s[j]'c1) aob Zo Zo).mono ?_;rintro e1 w1 ⟨rfl,v',hb1,ad⟩;have HN:=I (Q.next hL (j':=(j+1)) hb1 ad Zo Zo (by rw[show j+1-a=j-a+1 from by omega];exact HQ.out));clear hb1 ad;go_wp2
      go_roundw
      case rel=>exact⟨(j+1),_,_,_,by go_num,HN.out⟩
      case measure=>simp[intOf];omega
  .have hq:=Q.quo
   rw[Lx.aei _ _ _ _ (by rw[yV.out];omega)]at hq;have HQ:=I hq;have b1:decide ((j:Int)<(s.size:Int))=false:=WN
   clear hq;go_wp2_with fail
   refine(og L s a p e _ _ (0) 12 _ r HQ.out Q.lex Zo rfl).mono ?_;rintro e' w' ⟨k,tx,f,t,b,a',p',e2,rfl,hx,ht,ac⟩;obtain⟨q0,q1,q2,q3,z0,z1,z2,z3,hg⟩:=af.QM atl;have HX:=I hx;have ao:=I ht;have fU:=I ac;clear hx ht ac;go_wp2_with fail
   (try simp only[Exit.inBlock,Exit.then])
   exact WK
theorem abZ(l:Lx.QJ)(c k:Nat):Lx.dI c (l.drop k)=Lx.mO c l k:=by
 unfold Lx.dI Lx.mO
 have:(Lx.dG c)=λb:UInt8=>((Lx.cls b.toNat:Int)==(c:Int)):=by
  funext b
  unfold Lx.dG;rw[avs];simp;omega
 rw[this]
theorem GU(s:Y_)(i j:Nat):(s.extract i j).data.toList=(s.data.toList.drop i).take (j-i):=by
 exact asW
theorem ab0(L:Nat)(s:Y_)(a:Nat)(p e:Int)(w:W_)(h:bu w L s a p e)(hm:s.size<=140737488355328)(ha:a<s.size):
  C_ 124 #[.pointer (A_ L 0)] w (bA w L s a p e (Lx.name (s.data.toList.drop a))):=by
 have ab:s.data.toList.length=s.size:=P9
 have hle:=Lx.vM 3 s.data.toList (a+1);rw[ab]at hle;obtain⟨n,hn⟩:∃n,n=Lx.mO 3 s.data.toList (a+1):=⟨_,rfl⟩;have ad:a+1+n=a+1+Lx.mO 3 s.data.toList (a+1):=by rw[hn]
 have hN:Lx.dI 3 ((s.data.toList.drop a).drop 1)=n:=by rw[awZ,abZ,hn];rfl
 have hT:((s.data.toList.drop a).drop 1).take n=(s.extract (a+1) (a+1+n)).data.toList:=by
  rw[GU,awZ,Nat.add_sub_cancel_left]
 have hbl:(s.extract (a+1) (a+1+n)).toList=(s.extract (a+1) (a+1+n)).data.toList:=ByteArray.toList_eq _;have aa:∀i,(s.data.toList.drop a)[i]?=s.data.toList[a+i]?:=λi=>by rw[aws]
 unfold Lx.name;simp only[hN,hT]
 by_cases c1:(s.extract (a+1) (a+1+n)).data.toList=[102,101,110,99,101]
 .rw[if_neg (by simpa using c1)]
  have F:((s.extract (a+1) (a+1+n)).toList==[102,101,110,99,101])=true:=by rw[hbl,c1];rfl
  by_cases c2:a+1+n+1<s.size
  .have g1:(s.data.toList.drop a)[1+n]?=some (s[a+1+n]'(awp c2)):=by
    rw[aa,ave (by omega)];simp only[Nat.add_assoc];rfl
   have g2:(s.data.toList.drop a)[2+n]?=some (s[a+1+n+1]'c2):=by
    rw[aa,ave (by omega)]
    congr 1
    show s.data.toList[a+(2+n)]=s.data.toList[a+1+n+1]' Zo
    congr 1;omega
   have d1:Lx.ry (s.data.toList.drop a) (1+n)=Lx.kF (s[a+1+n]'(awp c2)):=by unfold Lx.ry;rw[g1]
   have d2:Lx.ry (s.data.toList.drop a) (2+n)=Lx.kF (s[a+1+n+1]'c2):=by unfold Lx.ry;rw[g2]
   rw[d1,d2];cases e1:Lx.kF (s[a+1+n]'(awp c2))with
   |false=>exact Zv L s a _ p e w h hm ad Zo _ F c2 e1 P9
   |true=>
    cases e2:Lx.kF (s[a+1+n+1]'c2)with
    |false=>exact Zw L s a _ p e w h hm ad Zo _ F c2 e1 e2 P9
    |true=>
     refine WW L s a _ p e w h hm ad Zo _ F c2 e1 e2 ?_;rw[if_pos ⟨rfl,rfl⟩,GU]
     have hl:(List.take (a+1+n+2-(a+1+n)) (List.drop (a+1+n) s.data.toList)).length=2:=by
      rw[List.length_take,avM,ab];omega
     unfold Lx.lim;rw[if_neg (by simp only[hl];omega)]
     congr 1
     .congr 1
      rw[awZ,show a+1+n+2-(a+1+n)=2 from by omega,show a+(1+n)=a+1+n from by omega]
     .omega
  .have hd:¬(Lx.ry (s.data.toList.drop a) (1+n)=true/\Lx.ry (s.data.toList.drop a) (2+n)=true):=by
    rintro⟨_,h2⟩;unfold Lx.ry at h2;rw[aa,awR (by omega)]at h2;cases h2
   rw[if_neg hd];exact WV L s a _ p e w h hm ad Zo _ F Zo rfl
 .rw[if_pos (by simpa using c1)]
  have F:((s.extract (a+1) (a+1+n)).toList==[102,101,110,99,101])=false:=by rw[hbl];simpa using c1
  refine WU L s a _ p e w h hm ad Zo _ F ?_
  congr 1
  omega
theorem ab1(L:Nat)(s:Y_)(a:Nat)(p e:Int)(w:W_)(h:bu w L s a p e)(hm:s.size<=140737488355328)(ha:a<s.size):
  C_ 87 #[.pointer (A_ L 0)] w (bA w L s a p e (Lx.next (s.data.toList.drop a))):=by
 have HM:s.size<=maxLen:=aij
 have ab:s.data.toList.length=s.size:=P9
 have hd:s.data.toList.drop a=s[a]::s.data.toList.drop (a+1):=avt (by simpa using ha);have aa:Lx.cz s.data.toList a=(Lx.cls s[a].toNat:Int):=by rw[Lx.Ja _ _ (by omega)];rfl
 have F:∀k:Nat,(Lx.cz s.data.toList a==(k:Int))=(Lx.cls s[a].toNat==k):=λk=>by
  rw[aa,avs];simp;omega
 have B:∀k:Nat,Lx.dG k s[a]=(Lx.cls s[a].toNat==k):=λk=>rfl
 have C:∀x:UInt8,((s.extract a (a+1)).toList==[x])=(s[a]==x):=Ur s a ha;have O:=one_byte s a ha;have one:∀k:Nat,Lx.lim 1 ⟨k,(s.extract a (a+1)).data.toList⟩ 1=.ok ⟨k,[s[a]]⟩ 1:=λk=>by rw[O];rfl
 have abY:Lx.dG 2 s[a]=true->Lx.next (s.data.toList.drop a)=Lx.number (s.data.toList.drop a):=λhb=>by
  rw[hd];simp only[Lx.next,hb,if_true]
 by_cases b2:(Lx.cls s[a].toNat==2)=true
 .exact Us L s a p e w h HM ha _ ((F 2).trans b2) (abY ((B 2).trans b2)).symm
 have b2':(Lx.cls s[a].toNat==2)=false:=by simpa using b2
 rw[hd];simp only[Lx.next,B,b2',avH,if_false];have F2:=(F 2).trans b2'
 by_cases b5:(Lx.cls s[a].toNat==5)=true
 .rw[if_pos b5]
  exact Zq L s a p e w h HM ha _ F2 ((F 5).trans b5) (one 7)
 have b5':(Lx.cls s[a].toNat==5)=false:=by simpa using b5
 simp only[b5',avH,if_false];have F5:=(F 5).trans b5'
 by_cases c34:s[a]=34
 .rw[if_pos c34]
  exact Ut L s a p e w h HM ha _ F2 F5 ((C 34).trans (by simp[c34])) (λw' h'=>WX L s a p e w' h' hm ha)
 rw[if_neg c34];have u6:=(C 34).trans (show(s[a]==34)=false by simpa using c34);have hq:(s.data.toList.drop (a+1)).head?=s.data.toList[a+1]?:=by rw[List.head?_drop]
 have aiz:Lx.xP 3 (s.data.toList.drop (a+1)) 0=(Lx.cz s.data.toList (a+1)==3):=by
  unfold Lx.xP Lx.cz;rw[aws];cases s.data.toList[a+1+0]? with
  |none=>simp
  |some b=>simp only[Lx.dG];rw[avs];simp;omega
 rw[hq,aiz]
 by_cases GV:s[a]=92
 .have u7:=(C 92).trans (show(s[a]==92)=true by simpa using GV)
  have xD:=(C 35).trans (show(s[a]==35)=false by rw[GV];rfl);have N3:(Lx.cz s.data.toList a==3)=false:=(F 3).trans (by rw[GV];rfl);have N4:(Lx.cz s.data.toList a==4)=false:=(F 4).trans (by rw[GV];rfl);have n35:¬s[a]=35:=by rw[GV];decide
  have n3:¬((Lx.cls s[a].toNat==3)=true\/(Lx.cls s[a].toNat==4)=true):=by rw[GV];decide
  by_cases hs:a+1<s.size
  .have hx:s.data.toList[a+1]?=some (s[a+1]'hs):=by rw[ave (by omega)];rfl
   rw[hx]
   by_cases d92:s[a+1]'hs=92
   .rw[if_pos ⟨GV,by rw[d92]⟩]
    exact WS L s a p e w h HM ha _ F2 F5 u6 u7 hs (sP _ 92 d92) rfl
   .rw[if_neg (λhh=>d92 (by simpa using hh.2))]
    cases e3:(Lx.cz s.data.toList (a+1)==3)with
    |true=>
     rw[if_pos ⟨GV,rfl⟩,<-hd];exact Zr L s a p e w h HM ha _ F2 F5 u6 u7 hs (qW _ 92 d92) e3 (λw' h'=>ab0 L s a p e w' h' hm ha)
    |false=>
     rw[if_neg (λhh=>by cases hh.2),if_neg (λhh=>n35 hh.1),if_neg n3];exact QZ L s a p e w h HM ha _ F2 F5 u6 u7 xD hs (qW _ 92 d92) e3 N3 N4 rfl
  .have hx:s.data.toList[a+1]?=none:=awR Zo
   have e3:(Lx.cz s.data.toList (a+1)==3)=false:=by rw[Lx.MI _ _ (by omega)];rfl
   rw[hx,e3,if_neg (λhh=>by cases hh.2),if_neg (λhh=>by cases hh.2),if_neg (λhh=>n35 hh.1),if_neg n3];exact Q3 L s a p e w h HM ha _ F2 F5 u6 u7 xD hs e3 N3 N4 rfl
 rw[if_neg (λhh=>GV hh.1),if_neg (λhh=>GV hh.1)];have u7:=(C 92).trans (show(s[a]==92)=false by simpa using GV)
 by_cases Q4:s[a]=35
 .have xD:=(C 35).trans (show(s[a]==35)=true by simpa using Q4)
  have N3:(Lx.cz s.data.toList a==3)=false:=(F 3).trans (by rw[Q4];rfl);have N4:(Lx.cz s.data.toList a==4)=false:=(F 4).trans (by rw[Q4];rfl);have n3:¬((Lx.cls s[a].toNat==3)=true\/(Lx.cls s[a].toNat==4)=true):=by rw[Q4];decide
  by_cases hs:a+1<s.size
  .have hx:s.data.toList.drop (a+1)=(s[a+1]'hs)::s.data.toList.drop (a+2):=avt Zo
   have hp:Lx.K9 (s.data.toList.drop (a+1))=decide (49<=(s[a+1]'hs)/\(s[a+1]'hs)<=52):=aru
   rw[hp];have le1:(49<=(s[a+1]'hs))↔49<=(s[a+1]'hs).toNat:=aqG
   have le2:((s[a+1]'hs)<=52)↔(s[a+1]'hs).toNat<=52:=aqG
   by_cases d1:49<=(s[a+1]'hs).toNat
   .have D1:decide (49<=((s[a+1]'hs).toNat:Int))=true:=by simp;omega
    by_cases d2:(s[a+1]'hs).toNat<=52
    .have D2:decide (((s[a+1]'hs).toNat:Int)<=52)=true:=by simp;omega
     rw[if_pos ⟨Q4,by simp[le1,le2,d1,d2]⟩,hx];refine WT L s a p e w h HM ha _ F2 F5 u6 u7 xD hs D1 D2 ?_;have hw:wrap32 ((s[a+1]'hs).toNat:Int)=((s[a+1]'hs).toNat:Int):=IntWalk.wrap32_in _ (by have:=(s[a+1]'hs).toNat_lt;constructor<;>omega);rw[hw,WR _ d1 d2];rfl
    .have D2:decide (((s[a+1]'hs).toNat:Int)<=52)=false:=by simp;omega
     rw[if_neg (λhh=>by simp[le1,le2,d2]at hh),if_neg n3];exact Uv L s a p e w h HM ha _ F2 F5 u6 u7 xD hs D1 D2 N3 N4 rfl
   .have D1:decide (49<=((s[a+1]'hs).toNat:Int))=false:=by simp;omega
    rw[if_neg (λhh=>by simp[le1,le2,d1]at hh),if_neg n3];exact Uu L s a p e w h HM ha _ F2 F5 u6 u7 xD hs D1 N3 N4 rfl
  .have hp:Lx.K9 (s.data.toList.drop (a+1))=false:=by rw[List.drop_eq_nil_of_le (by omega)];rfl
   rw[hp,if_neg (λhh=>by cases hh.2),if_neg n3];exact Uw L s a p e w h HM ha _ F2 F5 u6 u7 xD hs N3 N4 rfl
 rw[if_neg (λhh=>Q4 hh.1)];have xD:=(C 35).trans (show(s[a]==35)=false by simpa using Q4)
 by_cases b3:(Lx.cls s[a].toNat==3)=true
 .rw[if_pos (.inl b3)]
  exact Ux L s a p e w h HM ha _ F2 F5 u6 u7 xD ((F 3).trans b3) (one 1)
 have b3':(Lx.cls s[a].toNat==3)=false:=by simpa using b3
 by_cases b4:(Lx.cls s[a].toNat==4)=true
 .rw[if_pos (.inr b4)]
  exact Zt L s a p e w h HM ha _ F2 F5 u6 u7 xD ((F 3).trans b3') ((F 4).trans b4) (one 1)
 have b4':(Lx.cls s[a].toNat==4)=false:=by simpa using b4
 rw[if_neg (λhh=>hh.elim b3 b4)];exact Zu L s a p e w h HM ha _ F2 F5 u6 u7 xD ((F 3).trans b3') ((F 4).trans b4') rfl
end
section
open Go.RowKit
attribute [local go_sem] Oper.semAt_some
def EX(x:Lx.aB):Value:=.agg #[V x.QI,S_ x.QG,V x.from_,V x.eF]
def ab2(L:Nat)(w:W_):Nat:=match w.cell? (B_ L 257)with|some (.int _ n)=>n.toNat|_=>0
theorem Vr{L:Nat}{w:W_}{s:Y_}{a:Nat}{p e:Int}(h:bu w L s a p e):ab2 L w=a:=by unfold ab2;rw[h.at_];simp
def Zx(w:W_)(L:Nat)(s:Y_)(r:Option (Nat×Nat)):Prop:=
 ∃a p e:Int,bu w L s a p e/\(match r with|none=>e=0|some (p',e')=>p=p'/\e=e')
theorem ab3(L c l:Nat)(s:Y_)(J:List Lx.aB->W_->Prop)(w:W_)(hm:s.size<=140737488355328)
  (hJ:∀pre W W',J pre W->Touch (·=L) W W'->J pre W')
  (aj:c≠L)
  (hY:∀pre x (a:Nat) W,J pre W->bu W L s a 0 0->W.cell? (B_ c 0)=some (.pointer (A_ L 0))->pre++[x]<+:(Lx.jr s.data.toList).1->
   YieldAt Fence.wide 1 Tryz.prog l #[EX x] W λe W'=>e=.returned (.bool true)/\J (pre++[x]) W'/\bu W' L s a 0 0/\W'.cell? (B_ c 0)=some (.pointer (A_ L 0)))
  (hL:bu w L s 0 0 0) (hc:w.cell? (B_ c 0)=some (.pointer (A_ L 0))) (h0:J [] w):
  C_ 85 #[.func (.yield l) #[] #[],.pointer (A_ c 0)] w λe w'=>e=.returned (.tuple #[])/\
   J (Lx.jr s.data.toList).1 w'/\Zx w' L s (Lx.jr s.data.toList).2:=by
 have HM:s.size<=maxLen:=aij
 have HY:=I hY;have HJ:=I hJ;have aiA:=I hL;have HC:=I hc;have H0:=I h0;have ab:s.data.toList.length=s.size:=P9
 have yV:=I ab;clear hY hJ hL hc h0 ab;go_enter func85,ntmps85
 go_wp2
 go_loopw [4] (λ_ wr=>∃(pre:List Lx.aB) (a:Nat),Hd (J pre wr)/\Hd (bu wr L s a 0 0)/\Hd (wr.cell? (B_ c 0)=some (.pointer (A_ L 0)))/\a<=s.size/\
   Hd (Lx.jr s.data.toList=(pre++(Lx.lexFrom s.data.toList a).1,(Lx.lexFrom s.data.toList a).2))) (λ_ wr=>s.size-ab2 L wr)
 case atStart=>exact⟨[],0,H0,aiA,HC,au1 _,rfl⟩
 case round=>
  obtain⟨pre,a,HJr,aa,ag,ha,HA⟩:=hrel;have hcc:=ag.out;obtain⟨g1,g2,g3,g4,f1,f2,f3,aiB⟩:=eD aa;obtain⟨b,ad⟩:∃b,b=Lx.skip s.data.toList a:=⟨_,rfl⟩;have hsk:=Lx.aek s.data.toList a (by rw[yV.out];exact ha);rw[<-ad,yV.out]at hsk;obtain⟨hab,a4⟩:=hsk;have HB:=I ad;have HAt:=I (Vr aa);clear ad
  have hrun:∀n,C_ 86 #[.pointer (A_ L 0),V (a:Int),.int .u8 1] (wr.drewN n) λe w'=>e=.returned (V (b:Int))/\∃m,w'=(wr.drewN n).drewN m:=λn=>
   (rF L s a 0 0 _ 1 _ (aa.drewN _) Zo Zo HM).mono (by rintro e w' ⟨rfl,hn⟩;rw[Int.toNat_natCast,HB.out];exact⟨rfl,hn⟩)
  have aiC:=I hrun;clear hrun;go_wp2_with fail
  refine kY [([0,1,2,3,4,5,6,7,8],9)] [] Pg Pg ?_;simp only[tY,pick,avo,List.getElem?_cons_succ]
  repeat(quiet_step (exact Calls.quiet_of (aiC _)))
  refine wpQuiet_nil ?_;rintro _ ⟨nq,rfl⟩;go_wp2_with fail
  refine wpQuiet_nil ?_;rintro _ ⟨nq1,rfl⟩;have hlx:=(aa.drewN nq).setAt b;have hc1:((wr.drewN nq).setCell (B_ L 257) (V (b:Int))).cell? (B_ c 0)=some (.pointer (A_ L 0)):=by rw[awq _ _ _ _ (by simp)];exact ag
  have aJ:J pre ((wr.drewN nq).setCell (B_ L 257) (V (b:Int))):=HJ _ _ _ HJr (((M (·=L) wr).drewN nq).setCell (p:=B_ L 257) Wh _);have ah:=I hlx;have ai:=I aJ;clear hlx aJ
  by_cases hlt:b<s.size
  .have b1:((b:Int)==(s.size:Int))=false:=by rw[beq_eq_false_iff_ne];omega
   go_wp2
   go_quiet (fail)
   go_wp2_with fail
   refine(ab1 L s b 0 0 _ (ah.drewN _) hm hlt).mono ?_;rintro e' w' ⟨k,tx,f,t,bb,a',p',e2,rfl,hx,ht,ac⟩;have ak:J pre w':=HJ _ _ _ ai (Touch.BD (n:=_) ht);have hc2:w'.cell? (B_ c 0)=some (.pointer (A_ L 0)):=ht.cell hc1 aj;have al:=I ak;have HX:=I hx;clear ak hx ht;cases hr:Lx.next (s.data.toList.drop b)with
   |err i er=>
    rw[hr]at ac;obtain⟨rfl,rfl,rfl,rfl,rfl,ha',hp',ae⟩:=ac;have HA':=I ha';have HP':=I hp';have HE':=I ae;have HR:=I hr;clear hr ha' hp' ae;go_wp2
    refine bodyPost_ret Un rfl ?_;have hA:=HA.out;rw[Lx.TQ _ _ _ _ (by rw[<-HB.out,yV.out];exact hlt) (by rw[<-HB.out];exact HR)]at hA;rw[hA];refine⟨rfl,?_,⟨a',p',e2,bu.alloc HX _,?_⟩⟩
    .rw[avf];exact HJ _ _ _ al ((M (·=L) w').alloc _)
    .rw[<-HB.out];exact⟨HP',HE'⟩
   |ok tk n=>
    rw[hr]at ac;obtain⟨m2,aI⟩:∃m2,m2=b+n:=⟨_,rfl⟩;have iI:=I aI;unfold WO at ac;simp only[<-aI]at ac;clear aI;obtain⟨rfl,rfl,rfl,rfl,rfl,rfl,rfl,rfl⟩:=ac;have HR:=I hr;clear hr;have je:=I (HX.alloc (.cells #[V tk.QI,S_ tk.QG,V b,V m2] 131));have ao:=Lx.VW s.data.toList a n tk (by rw[<-HB.out,yV.out];exact hlt) (by rw[<-HB.out];exact HR);rw[<-HB.out,<-iI.out]at ao;have gL:=I ao;clear ao
    have aiD:m2<=s.size:=by
     have h1:=(Lx.EJ _ _ _ HR).2;rw[avM,yV.out]at h1;have:=iI.out;omega
    have uN:b<m2:=by have h1:=(Lx.EJ _ _ _ HR).1;have:=iI.out;omega
    have hc3:(w'.alloc (.cells #[V tk.QI,S_ tk.QG,V b,V m2] 131)).cell? (B_ c 0)=some (.pointer (A_ L 0)):=((M (λ_=>False) w').alloc _).cell hc2 PR
    obtain⟨fn,tmps,assign,body,hy,hR⟩:=HY.out pre ⟨tk.QI,tk.QG,b,m2⟩ m2 (w'.alloc (.cells #[V tk.QI,S_ tk.QG,V b,V m2] 131))
     (HJ _ _ _ al ((M (·=L) w').alloc _)) je hc3 (by rw[HA.out,gL.out];exact⟨(Lx.lexFrom s.data.toList m2).1,by simp⟩)
    simp only[EX]at hy;have HRD:=I hR;clear hR
    go_upto_region 3 with(fail)
    refine(wpIn_wide (n:=2)).1 ?_
    gi_wp2
    refine HRD.mono ?_;rintro e W' ⟨rfl,hj,hl,af⟩;have HJW:=I hj;have Lt:=I hl;have HCW:=I af;clear hj hl af
    gi_wp2
    go_wp2
    go_roundw
    case rel=>exact⟨pre++[⟨tk.QI,tk.QG,b,m2⟩],m2,HJW,Lt,HCW,aiD,by have:=HA.out;rw[gL.out]at this;simpa[Hd]using this⟩
    case measure=>rw[Vr Lt.out,HAt.out];omega
  .have b1:((b:Int)==(s.size:Int))=true:=by rw[beq_iff_eq];omega
   go_wp2
   go_quiet (fail)
   go_wp2
   refine bodyPost_ret Un rfl ?_;have hA:=HA.out;rw[Lx.TP _ _ (by rw[<-HB.out,yV.out];omega)]at hA;rw[hA];refine⟨rfl,?_,⟨b,0,0,?_,rfl⟩⟩
   .rw[avf];refine HJ _ _ _ ai ?_;exact((M (·=L) _).drewN _).drewN _
   .exact(ah.drewN _).drewN _
end
section
open Go.RowKit
def marked(l:List UInt8)(c:Int)(cs:Array Value):Array Value:=l.foldl (λt b=>t.setIfInBounds b.toNat (.int .u8 c)) cs
theorem uD(l:List UInt8)(c:Int):∀cs:Array Value,(marked l c cs).size=cs.size:=by
 induction l with
 |nil=>intro cs;rfl
 |cons b l ih=>intro cs;unfold marked at ih|-;rw[List.foldl_cons,ih];simp
theorem Uy(l:List UInt8)(b:UInt8)(c:Int)(cs:Array Value):marked (l++[b]) c cs=(marked l c cs).setIfInBounds b.toNat (.int .u8 c):=by simp[marked]
theorem BP(s:Y_)(c:Int)(g:Nat)(cs:Array Value)(w:W_)(hb:af w g 123 cs)(hs:cs.size=256)(hm:s.size<=1000):
  C_ 84 #[.string s,.int .u8 c,.pointer (A_ g 0)] w λe w'=>e=.returned (.tuple #[])/\af w' g 123 (marked s.data.toList c cs)/\Touch (·=g) w w':=by
 have HB:=I hb;have HS:=I hs;clear hb hs;go_enter func84,ntmps84
 go_wp2
 go_loopw [5] (λi wr=>∃k:Nat,i=V k/\k<=s.size/\Hd (af wr g 123 (marked (s.data.toList.take k) c cs))/\Hd (Touch (·=g) w wr)) (λi _=>s.size-(intOf i).toNat)
 case atStart=>exact⟨0,rfl,au1 _,(by have:=HB.out;simpa[marked,Hd]using this),M _ _⟩
 case round=>
  obtain⟨k,rfl,hk,HK,HT⟩:=hrel
  by_cases hlt:k<s.size
  .have b1:decide ((k:Int)<(s.size:Int))=true:=by simp;omega
   have b2:(k:Int)<(s.size:Int):=Zo
   have b3:(0:Int)<=(k:Int):=Zo
   have b4:((s[k]'hlt).toNat:Int)<256:=by have:=(s[k]'hlt).toNat_lt;omega
   have hsz:(marked (s.data.toList.take k) c cs).size=256:=(uD _ _ _).trans HS
   obtain⟨u,hu⟩:∃u,wr.cell? (B_ g ((s[k]'hlt).toNat))=some u:=by
    rw[HK.cell];exact⟨_,Array.getElem?_eq_getElem (by rw[hsz];exact(s[k]'hlt).toNat_lt)⟩
   have hf:wr.frozen? (B_ g ((s[k]'hlt).toNat))=false:=HK.frozen _
   have hn:af (wr.setCell (B_ g ((s[k]'hlt).toNat)) (.int .u8 c)) g 123 (marked (s.data.toList.take (k+1)) c cs):=by
    have hg:s.data.toList.take (k+1)=s.data.toList.take k++[s[k]'hlt]:=by
     rw[List.take_succ_eq_append_getElem (by simpa using hlt)];rfl
    rw[hg,Uy];exact HK.put _ _
   have HN:=I hn;clear hn hsz
   go_wp2
   go_roundw
   case rel=>exact⟨k+1,by go_num,hlt,HN,HT.setCell (p:=B_ g ((s[k]'hlt).toNat)) Wh _⟩
   case measure=>simp[intOf];omega
  .have b1:decide ((k:Int)<(s.size:Int))=false:=by simp;omega
   go_wp2
   go_end0
   refine⟨rfl,?_,HT⟩;have:=HK.out
   rwa [List.take_of_length_le (by simp;omega)]at this
def qx:Array Value:=Array.replicate 256 (.int .u8 0)
def Q5:Array Value:=marked [32,9,10] 1 qx
def WZ:Array Value:=marked [48,49,50,51,52,53,54,55,56,57] 2 Q5
def Uz:List UInt8:=[97,98,99,100,101,102,103,104,105,106,107,108,109,110,111,112,113,114,115,116,117,118,119,120,121,122,65,66,67,68,69,70,71,72,73,74,75,76,77,78,79,80,81,82,83,84,85,86,87,88,89,90]
def Xa:Array Value:=marked Uz 3 WZ
def Xb:Array Value:=marked [43,45,42,47,61,60,62,44,59,58,33,124,39,63,126,64] 4 Xa
def Kg:Array Value:=marked [123,125,40,41,91,93,94,95,38] 5 Xb
def BQ:Array Value:=Array.ofFn (n:=256) λi=>Value.int .u8 (Lx.cls i.1:Nat)
theorem Vs:Kg=BQ:=Pg
theorem NZ:Q5.size=256:=by simp[Q5,uD,qx]
theorem N7:WZ.size=256:=(uD _ _ _).trans NZ
theorem N8:Xa.size=256:=(uD _ _ _).trans N7
theorem N9:Xb.size=256:=(uD _ _ _).trans N8
theorem CR:Kg.size=256:=(uD _ _ _).trans N9
theorem GX:(Tryz.prog.info? 123).map (·.size)=some 256:=Pg
theorem ab4:Kg.all (·.oneCell')=true:=by rw[Vs];kernel_rfl
theorem Zy(w:W_):(zeroValue 123).run Tryz.prog w=.ok (.agg qx) w:=Pg
theorem UA(w:W_):
  C_ 43 #[] w λe w'=>e=.returned (.agg BQ)/\ag w w':=by
 have hz:=Zy;go_enter func43,ntmps43;go_wp2_with fail
 refine(BP _ 1 _ qx _ (af.new2 _ _ _ _) (by simp[qx]) Pf).mono ?_;rintro e1 w1 ⟨rfl,hb1,ad⟩;have aa:af w1 (w.heap.size+1) 123 Q5:=hb1;have hr1:af w1 w.heap.size 123 qx:=ad.QN ((af.new w _ _).alloc _) Zo;have ae:ag w w1:=(((M (λ_=>False) w).alloc _).alloc _).trans' ad atm;have aC:=I aa;have aL:=I hr1;have aK:=I ae;clear hb1 aa hr1 ae ad;go_wp2_with fail
 refine(BP _ 2 _ Q5 _ aC NZ Pf).mono ?_;rintro e2 w2 ⟨rfl,hb1,ad⟩;have aa:af w2 (w.heap.size+1) 123 WZ:=hb1;have hr1:af w2 w.heap.size 123 qx:=ad.QN aL Zo;have ae:ag w w2:=aK.trans' ad atm;have aq:=I aa;have ar:=I hr1;have bW:=I ae;clear hb1 aa hr1 ae ad;go_wp2_with fail
 refine(BP _ 3 _ WZ _ aq N7 Pf).mono ?_;rintro e3 w3 ⟨rfl,hb1,ad⟩;have aa:af w3 (w.heap.size+1) 123 Xa:=hb1;have hr1:af w3 w.heap.size 123 qx:=ad.QN ar Zo;have ae:ag w w3:=bW.trans' ad atm;have ai:=I aa;have an:=I hr1;have bJ:=I ae;clear hb1 aa hr1 ae ad;go_wp2_with fail
 refine(BP _ 4 _ Xa _ ai N8 Pf).mono ?_;rintro e4 w4 ⟨rfl,hb1,ad⟩;have aa:af w4 (w.heap.size+1) 123 Xb:=hb1;have hr1:af w4 w.heap.size 123 qx:=ad.QN an Zo;have ae:ag w w4:=bJ.trans' ad atm;have iB:=I aa;have ac:=I hr1;have eZ:=I ae;clear hb1 aa hr1 ae ad;go_wp2_with fail
 refine(BP _ 5 _ Xb _ iB N9 Pf).mono ?_;rintro e5 w5 ⟨rfl,hb1,ad⟩;have aa:af w5 (w.heap.size+1) 123 Kg:=hb1;have hr1:af w5 w.heap.size 123 qx:=ad.QN ac Zo;have ae:ag w w5:=eZ.trans' ad atm;have eO:=I aa;have CS:=I hr1;have eY:=I ae;clear hb1 aa hr1 ae ad
 go_wp2_with (first
   |(refine wpList_load_row rfl 123 _ rfl (w.heap.size+1) rfl 123 Kg (0,0) _ eO underlying123 rfl (GX.trans (by rw[CR])) ?_)
   |(refine wpList_store_row rfl 123 _ _ rfl w.heap.size Kg rfl rfl 123 qx CS (GX.trans (by rw[CR])) (by rw[CR];simp[qx]) ab4 ?_))
 refine bodyPost_ret (results_cell_row (fn:=Tryz.f43) (p:=0) rfl _ _ w.heap.size 123 Kg (0,0) _ rfl (setRow_heap _ _ _ _ _ _ CS) underlying123 rfl (GX.trans (by rw[CR]))) rfl ?_;exact⟨by rw[Vs],eY.setRow ET _⟩
end
section
open Go.RowKit
attribute [local go_sem] Oper.semAt_some
theorem aeR:(Tryz.prog.info? 131).map (λi=>(i.zero,i.size,i.bytes))=some (some (.agg #[V 0,E_,V 0,V 0]),4,40):=Pg
theorem Zz(s:Y_):Tryz.prog.built 126 [(0,.agg BQ),(1,.string s)]=some (pV s 0 0 0):=Pg
theorem Kh{ops:Array Oper}{rest:List Oper}{o:Oper}{a:Act}{w:W_}{Q:Exit->Act->W_->Prop}(s:Y_)(hg:o.guard=none)(x y:Operand)(ho:o.op=.build 126 #[(0,x),(1,y)])
  (hx:a.eval x=.agg BQ) (hy:a.eval y=.string s) (h:wpList Tryz.prog ops Q rest (a.put o.dst (.agg (pV s 0 0 0))) w):wpList Tryz.prog ops Q (o::rest) a w:=by
 refine wpList_plain hg λK hK=>?_
 unfold Oper.wp execOp;simp only[ho,Sem.run_bind,List.map_toArray,List.map_cons,List.map_nil,hx,hy,run_build w 126 #[(0,.agg BQ),(1,.string s)] _ (Zz s),Result.andThen_ok];exact hK _ _ h
theorem Xc(L:Nat)(w:W_):
  C_ 44 #[.pointer (A_ L 0)] w λe w'=>e=.returned (.func (.func 85) #[] #[.pointer (A_ w.heap.size 0)])/\w'=w.alloc (.cells #[.pointer (A_ L 0)] 122):=by
 go_enter func44,ntmps44
 go_wp2
 exact asw
end
section
open Go.RowKit
def Vt(L c D:Nat)(k:Nat):Prop:=k≠L/\k≠c/\k≠D/\k≠D+1
def ZA(L c D:Nat)(I:W_->Prop)(W2:W_):Exit->Act->W_->Prop
 |.normal,_,W3=>Touch (Vt L c D) W2 W3/\I W3
 |_,_,_=>False
theorem yo(W:W_)(l:Nat)(o:Obj):Touch (·=l) W (W.putObj l o):=
 ⟨rfl,rfl,rfl,by simp,λ_ _ hn=>World.putObj_heap_other hn⟩
theorem Pk{assign body:Code}{Q:Exit->Act->W_->Prop}{a:Act}{W0:W_}{L c:Nat}{s:Y_}
  (hg:a.eval (.tmp 12)=.func (.func 85) #[] #[.pointer (A_ c 0)]) (hm:s.size<=140737488355328) (aj:c≠L) (hc:W0.cell? (B_ c 0)=some (.pointer (A_ L 0))) (hL:bu W0 L s 0 0 0)
  (I:List Lx.aB->W_->Prop) (hI:∀pre W W',I pre W->Touch (λk=>k=L\/k=W0.heap.size\/k=W0.heap.size+1) W W'->I pre W') (h0:I [] W0)
  (afH:∀pre x W,I pre W->W0.heap.size+2<=W.heap.size->pre++[x]<+:(Lx.jr s.data.toList).1->
   assign.wpIn (Fence.wide.inRound (W0.heap.size+1)) 1 Tryz.prog (Exit.then (λa₁ W1=>Touch (Vt L c W0.heap.size) W W1/\∀W2,Touch (·=W0.heap.size+1) W1 W2->W2.heap.size=W1.heap.size->
     body.wpIn (Fence.wide.inRound (W0.heap.size+1)) 1 Tryz.prog (ZA L c W0.heap.size (I (pre++[x])) W2) a₁ W2) (λ_ _ _=>False))
    {tmps:=a.tmps.setIfInBounds 13 (EX x),defers:=[]} W)
  (hdone:∀W,I (Lx.jr s.data.toList).1 W->Zx W L s (Lx.jr s.data.toList).2->W.heap[W0.heap.size]?=some (.deferred (some []))->W0.heap.size+2<=W.heap.size->
   Q .normal {a with defers:={target:=.collected W0.heap.size,args:=#[]}::a.defers} W):
  (Code.rangeFunc (.tmp 12) #[13] assign body).wp Tryz.prog Q a W0:=by
 have aa:c<W0.heap.size:=bL hc;have hLl:=hL.lt;refine(wpIn_wide (n:=4)).1 (wpIn_rangeFunc ?_);intro fn hfn;obtain⟨rec,ab⟩:∃rec:LoopState->Option Code->Loop,rec=λst pe=>{state:=st,pending:=pe,fn,tmps:=a.tmps,params:=#[13],assign,body,defers:=W0.heap.size}:=⟨_,rfl⟩
 obtain⟨W1,hW1⟩:∃W1,(W0.alloc (.deferred (some []))).alloc (.loop (rec .ready none))=W1:=⟨_,rfl⟩
 have hL1:W1.heap[W0.heap.size+1]?=some (.loop (rec .ready none)):=by
  rw[<-hW1];have:=World.alloc_heap_new (W0.alloc (.deferred (some []))) (.loop (rec .ready none));rwa [World.size_alloc]at this
 have hK1:W1.heap[W0.heap.size]?=some (.deferred (some [])):=by
  rw[<-hW1];exact(Below.heap_alloc _ _ _ P9).trans (World.alloc_heap_new W0 _)
 have ae:ag W0 W1:=by rw[<-hW1];exact((M _ W0).alloc _).alloc _
 have hs1:W1.heap.size=W0.heap.size+2:=by rw[<-hW1];simp
 refine⟨W0.heap.size+1,[{target:=.collected W0.heap.size,args:=#[]}],W1,{target:=.fn (.func 85) #[.pointer (A_ c 0)],args:=#[.func (.yield (W0.heap.size+1)) #[] #[]]},W1,85,
  #[.func (.yield (W0.heap.size+1)) #[] #[]]++#[.pointer (A_ c 0)],W1,?_,?_,?_,?_,λh=>by simp[Fence.wide]at h,?_⟩
 .rw[<-hW1,ab];exact run_enterLoop_outer _ _ _ _ _
 .simp only[resolve,hg]
  simp[go_sem]
 .intro f' _;trivial
 .simp[invoke,go_sem]
 .refine callsIn_wide.2 ((ab3 L c (W0.heap.size+1) s
   (λpre W=>I pre W/\W.heap[W0.heap.size+1]?=some (.loop (rec .ready none))/\W.heap[W0.heap.size]?=some (.deferred (some []))/\W0.heap.size+2<=W.heap.size) W1 hm ?_ aj ?_ (ae.QN hL PR) (ae.cell hc PR) ⟨hI _ _ _ h0 (ae.mono (λ_ h=>h.elim)),hL1,hK1,by omega⟩).mono ?_)
  .rintro pre W W' ⟨h1,h2,h3,h4⟩ ht
   exact⟨hI _ _ _ h1 (ht.mono (λ_ h=>.inl h)),(ht.block _ Zo Zo).trans h2,(ht.block _ Zo Zo).trans h3,Nat.le_trans h4 ht.size⟩
  .rintro pre x at_ W ⟨hi,hl,hd,hsz⟩ hlx af ah
   have hy:=run_yield (P:=Tryz.prog) (args:=#[EX x]) hl (by rw[ab];rfl);have hz:∀t:Array Value,(((#[13]:Array Tmp).zip #[EX x]).foldl (λtmps (t,a)=>tmps.setIfInBounds t a) t)=t.setIfInBounds 13 (EX x):=λt=>by simp
   rw[ab]at hy
   dsimp only at hy
   rw[hz]at hy;refine⟨fn,_,assign,body,hy,roundIn_of_wpIn hfn (wpIn_mono (afH pre x W hi hsz ah) ?_)⟩;intro e a1 w1 hp;cases e with
   |normal=>
    obtain⟨ad,hb⟩:=hp;have aQ:w1.heap[W0.heap.size+1]?=some (.loop (rec .ready none)):=(ad.block _ Zo (λhn=>hn.2.2.2 rfl)).trans hl;have aH:w1.heap[W0.heap.size]?=some (.deferred (some [])):=(ad.block _ Zo (λhn=>hn.2.2.1 rfl)).trans hd;have hs2:=ad.size;refine⟨_,run_beginRound aQ (by rw[ab]),?_⟩;have am:=yo w1 (W0.heap.size+1) (.loop {rec .ready none with state:=.busy});refine wpIn_mono (hb _ am P9) ?_;intro e3 a3 W3 av;cases e3 with
    |normal=>
     obtain⟨ap,hi3⟩:=av;have hl2:(w1.putObj (W0.heap.size+1) (.loop {rec .ready none with state:=.busy})).heap[W0.heap.size+1]?=some (.loop {rec .ready none with state:=.busy}):=World.putObj_heap_same Zo;have ai:W3.heap[W0.heap.size+1]?=some (.loop {rec .ready none with state:=.busy}):=(ap.block _ WN (λhn=>hn.2.2.2 rfl)).trans hl2;have hd3:W3.heap[W0.heap.size]?=some (.deferred (some [])):=(ap.block _ WN (λhn=>hn.2.2.1 rfl)).trans ((World.putObj_heap_other Zo).trans aH);have hs3:=ap.size;simp at hs3
     have hr:=run_endRound (P:=Tryz.prog) none ai;have fA:=yo W3 (W0.heap.size+1) (.loop (rec .ready none));have hrr:({rec .ready none with state:=.busy}:Loop)={rec .ready none with state:=.busy}:=rfl;have hre:(({({rec .ready none with state:=.busy}:Loop)with state:=if(none:Option Code).isNone then .ready else .done,pending:=none}:Loop))=rec .ready none:=by rw[ab];rfl
     rw[hre]at hr;refine⟨_,_,hr,rfl,⟨hI _ _ _ hi3 (fA.mono (λ_ h=>.inr (.inr h))),World.putObj_heap_same Zo,(World.putObj_heap_other Zo).trans hd3,by simp;omega⟩,?_,?_⟩
     .exact fA.QN (ap.QN (am.QN (ad.QN hlx (λhn=>hn.1 rfl)) Zo) (λhn=>hn.1 rfl)) Zo
     .exact fA.cell (ap.cell (am.cell (ad.cell af (λhn=>hn.2.1 rfl)) WN) (λhn=>hn.2.1 rfl)) WN
    |ret=>exact av.elim
    |exit id=>exact av.elim
    |goto t=>exact av.elim
    |panic ch=>exact av.elim
    |outgrown=>exact av.elim
   |ret=>exact hp.elim
   |exit id=>exact hp.elim
   |goto t=>exact hp.elim
   |panic ch=>exact hp.elim
   |outgrown=>exact hp.elim
  .rintro e W2 ⟨rfl,⟨hi,hl,hd,hsz⟩,hend⟩
   have ag9:(rec .ready none).pending=none:=by rw[ab]
   obtain⟨ob,ac⟩:∃ob,(Instr.endLoop (W0.heap.size+1)).run Tryz.prog W2=.ok none (W2.putObj (W0.heap.size+1) ob):=⟨_,by
    have:=run_endLoop (P:=Tryz.prog) hl (by rw[ab];simp);rw[ag9]at this;exact this⟩
   have ht:=yo W2 (W0.heap.size+1) ob;refine⟨none,_,ac,?_⟩;obtain⟨a',p',e',h1,h2⟩:=hend;exact hdone _ (hI _ _ _ hi (ht.mono (λ_ h=>.inr (.inr h)))) ⟨a',p',e',ht.QN h1 Zo,h2⟩ ((World.putObj_heap_other Zo).trans hd) WN
end
section
open Go.RowKit
attribute [local go_sem] Oper.semAt_some
structure BR(w:W_)(B:Nat)(pre:List Lx.aB)(v:Value)(W:W_):Prop where
 QT:af W w.heap.size 50 #[v]
 at_:af W (w.heap.size+1) 3 #[V 0]
 err:af W (w.heap.size+1+1) 26 #[V 0]
 own:W.ownsRow B 131 4 v pre.length (pre.flatMap kZ)
 QH:ag w W
theorem BR.Ke{S:Nat->Prop}{w:W_}{B:Nat}{pre:List Lx.aB}{v:Value}{W W':W_}(h:BR w B pre v W)(ht:Touch S W W')(hS:∀k,S k->w.heap.size+1+1<k/\k<B):BR w B pre v W':=
 ⟨ht.QN h.QT atF,ht.QN h.at_ atF,ht.QN h.err atF,
  aQ h.own ht (λk hk hs=>by have:=(h.own.lt k hk).1;have:=hS _ hs;omega),h.QH.trans' ht (λk hk=>.inr (by have:=hS _ hk;omega))⟩
theorem UB{W:W_}{g:Nat}{t:TypeId}{cs:Array Value}(h:af W g t cs):∀j u,cs.toList[j]?=some u->W.cell? (((B_ g 0):Addr).add j)=some u:=by
 exact at1
def Oa(s:Y_)(w:W_)(e:Ending)(w':W_):Prop:=
 ag w w'/\match(Lx.jr s.data.toList).2 with
  |none=>∃v,e=.returned (.tuple #[v,V 0,V 0])/\w'.ownsRow w.heap.size 131 4 v (Lx.jr s.data.toList).1.length ((Lx.jr s.data.toList).1.flatMap kZ)
  |some (p,er)=>e=.returned (.tuple #[N_,V p,V er])
theorem Q6{w W:W_}{B D:Nat}{pre:List Lx.aB}{v u:Value}{p e:Int}(h:BR w B pre v W)(hD:w.heap.size+1+1<D)(hd:W.heap[D]?=some (.deferred (some []))):
  (((W.setCell (B_ w.heap.size 0) u).setCell (B_ (w.heap.size+1) 0) (V p)).setCell (B_ (w.heap.size+1+1) 0) (V e)).heap[D]?=some (.deferred (some []))/\
  ∃WF,(((W.setCell (B_ w.heap.size 0) u).setCell (B_ (w.heap.size+1) 0) (V p)).setCell (B_ (w.heap.size+1+1) 0) (V e)).putObj D (.deferred none)=WF/\
   WF.cell? (B_ w.heap.size 0)=some u/\WF.cell? (B_ (w.heap.size+1) 0)=some (V p)/\WF.cell? (B_ (w.heap.size+1+1) 0)=some (V e)/\
   ag w WF/\Touch (λk=>k=w.heap.size\/k=w.heap.size+1\/k=w.heap.size+1+1\/k=D) W WF:=by
 have t1:=(((M (λk=>k=w.heap.size\/k=w.heap.size+1\/k=w.heap.size+1+1) W).setCell (p:=B_ w.heap.size 0) auk u).setCell (p:=B_ (w.heap.size+1) 0) (.inl (.inr Wh)) (V p)).setCell (p:=B_ (w.heap.size+1+1) 0) (.inl (.inr atG)) (V e);have hlt:D<W.heap.size:=(Array.getElem?_eq_some_iff.1 hd).1;have t2:=yo (((W.setCell (B_ w.heap.size 0) u).setCell (B_ (w.heap.size+1) 0) (V p)).setCell (B_ (w.heap.size+1+1) 0) (V e)) D (.deferred none);have b1:=((h.QT.put 0 u).far (p:=B_ (w.heap.size+1) 0) P9 (V p)).far (p:=B_ (w.heap.size+1+1) 0) WN (V e);have b2:=((h.at_.far (p:=B_ w.heap.size 0) P9 u).put 0 (V p)).far (p:=B_ (w.heap.size+1+1) 0) P9 (V e);have b3:=((h.err.far (p:=B_ w.heap.size 0) WN u).far (p:=B_ (w.heap.size+1) 0) P9 (V p)).put 0 (V e);have t3:=t1.mono (S':=λk=>k=w.heap.size\/k=w.heap.size+1\/k=w.heap.size+1+1\/k=D) asX;refine⟨(t1.block D hlt Zo).trans hd,_,rfl,?_,?_,?_,?_,?_⟩
 .exact(t2.QN b1 Zo).cell 0
 .exact(t2.QN b2 Zo).cell 0
 .exact(t2.QN b3 Zo).cell 0
 .exact h.QH.trans' (t3.trans (t2.mono asX)) (λk hk=>.inr Zo)
 .exact t3.trans (t2.mono asX)
theorem Xd(s:Y_)(w:W_)(hm:s.size<=140737488355328)(ar:(Lx.jr s.data.toList).1.length<=8000):
  C_ 25 #[.string s] w (Oa s w):=by
 obtain⟨i0,hi,hz0,hz1,hz2⟩:=info_parts aeR;refine callsIn_wide.1 (callsIn_of_wp_marks (F:=Fence.wide) (n:=4) func25 rfl trivial ?_ rfl);simp only[ntmps25,List.size_toArray,List.length_cons,List.length_nil,Nat.reduceAdd,Nat.reduceSub,Array.replicate_succ,Array.replicate_zero,List.push_toArray,List.append_toArray,List.nil_append,List.cons_append];refine wpIn_wide.2 ?_;go_wp2_with fail
 refine(UA _).mono ?_;rintro e1 w1 ⟨rfl,ae⟩;have av:=ae.size;simp only[World.size_alloc]at av;have az:=ae.QN ((af.new w 50 #[N_]).alloc _|>.alloc _) PR;have au:=ae.QN ((af.new2 w (.cells #[N_] 50) 3 #[V 0]).alloc _) PR;have aj:af w1 (w.heap.size+1+1) 26 #[V 0]:=ae.QN (by have:=af.new2 (w.alloc (.cells #[N_] 50)) (.cells #[V 0] 3) 26 #[V 0];simpa using this) PR;have hfw:ag w w1:=(((M (λ_=>False) w).alloc _).alloc _|>.alloc _).trans ae;have ay:=I az;have aO:=I au;have kI:=I aj;have Lu:=I hfw;clear ae az au aj hfw
 go_wp2_with (refine Kh s rfl _ _ rfl rfl rfl ?_)
 refine(Xc _ _).mono ?_;rintro e2 w2 ⟨rfl,rfl⟩;go_wp2_with fail
 obtain⟨W0,hW0⟩:∃W0,(w1.alloc (.cells (pV s 0 0 0) 126)).alloc (.cells #[.pointer (A_ w1.heap.size 0)] 122)=W0:=⟨_,rfl⟩;rw[hW0];have hs0:W0.heap.size<=w1.heap.size+2:=by rw[<-hW0];simp
 have akV:w1.heap.size+2<=W0.heap.size:=by rw[<-hW0];simp
 have hc0:W0.cell? (B_ (w1.heap.size+1) 0)=some (.pointer (A_ w1.heap.size 0)):=by rw[<-hW0];exact(af.new2 w1 _ 122 #[.pointer (A_ w1.heap.size 0)]).cell 0
 have hl0:bu W0 w1.heap.size s 0 0 0:=by rw[<-hW0];exact(af.new w1 126 (pV s 0 0 0)).alloc _
 have ab:BR w (W0.heap.size+2) [] (N_) W0:=by
  rw[<-hW0];exact⟨(ay.alloc _).alloc _,(aO.alloc _).alloc _,(kI.alloc _).alloc _,avR _ _ _ _,(Lu.alloc _).alloc _⟩
 refine Pk (L:=w1.heap.size) (c:=w1.heap.size+1) (s:=s) rfl hm Zo hc0 hl0 (λpre W=>∃v,BR w (W0.heap.size+2) pre v W) ?_ ⟨_,ab⟩ ?_ ?_
 .rintro pre W W' ⟨v,hv⟩ ht
  exact⟨v,hv.Ke ht asX⟩
 .rintro pre x W ⟨v,hv⟩ hsz ah
  have HV:=I hv;clear hv hc0 hl0 ab ay aO kI Lu hW0;simp only[EX,List.setIfInBounds_toArray,List.set_cons_succ,List.set_cons_zero]
  gi_wp2
  refine⟨((M _ W).alloc _),?_⟩;intro W2 am hs2;have hv2:BR w (W0.heap.size+2) pre v W2:=((HV.Ke ((M (λ_=>False) W).alloc _) (λk hk=>hk.elim)).Ke am asX);have aB:af W2 W.heap.size 131 #[V x.QI,S_ x.QG,V x.from_,V x.eF]:=am.QN aqP Zo;have aa:pre.length+1<=(Lx.jr s.data.toList).1.length:=by have:=ah.length_le;simpa using this
  obtain⟨A,cap,rfl⟩:∃A cap,v=.slice A pre.length cap:=by
   rcases hv2.own.2 with⟨h1,h2⟩|⟨g,cap,cur,h1,_⟩
   .exact aiq
   .exact asI
  have b1:((pre.length:Int)==8000)=false:=MW
  have c1:=hv2.QT.cell 0;have f1:=hv2.QT.frozen 0;simp only[List.getElem?_toArray,avo]at c1;obtain⟨q0,q1,q2,q3,z0,z1,z2,z3,hg⟩:=af.QM aB;have hown:=hv2.own;have hTl:=hv2.QT.lt;have ad:=I hv2;have nK:=I aB;have ao:=I am;have afI:W2.heap.size=W.heap.size+1:=by simpa using hs2
  have aq:=I afI;clear hv2 aB am hs2 afI ah
  gi_wp2_with (gi_at_builtin;refine wpListIn_append_own _ rfl _ _ 50 rfl (W0.heap.size+2) 131 i0 _ 4 40 underlying50 hi hz0 hz1 hz2 rfl Pf _ _ _ rfl (hown.alloc _) (B_ W2.heap.size 0) 1 1 (kZ x) rfl rfl ?c1 ?c2 ?c3 ?c4 ?c5 ?_)
  case c1=>exact UB (cs:=(kZ x).toArray) (af.new W2 131 _)
  case c2=>intro u hu;simp only[kZ,List.mem_cons,List.not_mem_nil,or_false]at hu;rcases hu with rfl|rfl|rfl|rfl<;>rfl
  case c3=>unfold maxLen;omega
  case c4=>omega
  case c5=>have:=aq.out;simp;omega
  intro v' W3 hown' hgrow _;have ap:Touch (λk=>(Value.slice A pre.length cap).ownBlock=some k) W2 W3:=((M _ W2).alloc _).grown hgrow (λg hg=>.inl hg);have hbl:∀k,(Value.slice A pre.length cap).ownBlock=some k->W0.heap.size+2<=k:=λk hk=>(hown.lt k hk).1
  have ak:af W3 w.heap.size 50 #[.slice A pre.length cap]:=ap.QN ad.QT (λhk=>by have:=hbl _ hk;omega);have d1:=ak.cell 0;have e1:=ak.frozen 0;simp only[List.getElem?_toArray,avo]at d1
  obtain⟨g,cap',rfl⟩:∃g cap',v'=.slice (A_ g 0) (pre.length+1) cap':=by
   rcases hown'.2 with⟨_,h0⟩|⟨g,cap',cur,hv,_⟩
   .omega
   .exact⟨g,cap',hv⟩
  have aF:=(hown'.lt g rfl).1;have HO:=I hown';have aw:=I ak;have al:=I ap;have Vu:=I hbl;clear hown' ak ap hbl hown hgrow
  gi_wp2
  refine⟨?_,?_⟩
  .refine Touch.setCell ?_ (p:=B_ w.heap.size 0) (.inl ⟨by simp;omega,by simp;omega,by simp;omega,by simp;omega⟩) _
   exact al.mono (λk hk=>by have:=Vu.out k hk;exact⟨by omega,by omega,by omega,by omega⟩)
  .refine⟨.slice (A_ g 0) (pre.length+1) cap',?_,?_,?_,?_,?_⟩
   .exact aw.put 0 _
   .exact(al.QN ad.at_ (λhk=>by have:=Vu.out _ hk;omega)).far (p:=B_ w.heap.size 0) P9 _
   .exact(al.QN ad.err (λhk=>by have:=Vu.out _ hk;omega)).far (p:=B_ w.heap.size 0) WN _
   .rw[List.length_append,List.flatMap_append]
    refine aQ (S:=(·=w.heap.size)) ?_ ((M (·=w.heap.size) W3).setCell (p:=B_ w.heap.size 0) Wh _) (λk hk hs=>by simp[Value.ownBlock]at hk;omega);simpa using HO.out
   .exact(ad.QH.trans' al (λk hk=>.inr (by have:=Vu.out k hk;omega))).setCell (p:=B_ w.heap.size 0) ET _
 .rintro W ⟨v,hv⟩ hend hd hsz
  obtain⟨a',p',e',hlx,ac⟩:=hend;obtain⟨g1,g2,g3,g4,f1,f2,f3,aiB⟩:=eD hlx;have c1:=hv.QT.cell 0;have c2:=hv.at_.cell 0;have c3:=hv.err.cell 0;have f4:=hv.QT.frozen 0;have f5:=hv.at_.frozen 0;have f6:=hv.err.frozen 0;have l1:=hv.QT.lt;have l2:=hv.at_.lt;have l3:=hv.err.lt;simp only[List.getElem?_toArray,avo]at c1 c2 c3;have HV:=I hv;have HD:=I hd
  obtain⟨A,cap,rfl⟩:∃A cap,v=.slice A (Lx.jr s.data.toList).1.length cap:=by
   rcases hv.own.2 with⟨h1,h2⟩|⟨g,cap,cur,h1,_⟩
   .exact aiq
   .exact asI
  clear hv hd hlx hc0 hl0 ab hW0 ay aO kI Lu;simp only[Exit.inBlock,Exit.then];cases hr:(Lx.jr s.data.toList).2 with
  |none=>
   rw[hr]at ac;obtain rfl:e'=0:=ac;have HR:=I hr;clear hr;generalize aA:(Lx.jr s.data.toList).1=ts at*;have ZB:=I aA;clear aA;go_wp2_with fail
   obtain⟨hdd,WF,ax,r1,r2,r3,an,ai⟩:=Q6 (u:=.slice A ts.length cap) (p:=0) (e:=0) HV Zo HD;refine⟨by simp,.inl ⟨_,_,rfl,run_takeDeferred (b:=W0.heap.size) (ds:=[]) hdd,?_⟩⟩;rw[ax];refine⟨.tuple #[.slice A ts.length cap,V 0,V 0],by simp[results,results25,go_sem,r1,r2,r3],?_⟩;refine⟨an,?_⟩;rw[HR.out,ZB.out];refine⟨_,rfl,?_⟩;have ho:=aQ HV.own ai (λk hk hs=>by have:=(HV.own.lt k hk).1;omega);exact Gv ho Zo
  |some q=>
   obtain⟨p0,e0⟩:=q;rw[hr]at ac;obtain⟨rfl,rfl⟩:=ac;have HR:=I hr;clear hr;have hne:((e0:Int) !=0)=true:=by have:=Lx.NI _ _ _ _ _ HR;rw[bne_iff_ne];omega
   go_wp2_with fail
   go_region_held3 (λw'=>w'.cell? (B_ w1.heap.size 258)=some (V (p0:Int))/\w'.cell? (B_ w1.heap.size 259)=some (V (e0:Int))) (first|(refine⟨?_,?_⟩<;>first|exact(awq _ _ _ _ P9).trans atE|exact(awq _ _ _ _ P9).trans ((awq _ _ _ _ P9).trans atE)|exact(awq _ _ _ _ P9).trans ((awq _ _ _ _ P9).trans ((awq _ _ _ _ P9).trans atE)))|go_keep) (fail)
   simp only[Exit.then];go_wp2_with fail
   obtain⟨hdd,WF,ax,r1,r2,r3,an,ai⟩:=Q6 (W:=W.drew) (u:=N_) (p:=p0) (e:=e0) (HV.Ke (S:=λ_=>False) (M _ W).drew (λk hk=>hk.elim)) Zo HD;refine⟨by simp,.inl ⟨_,WF,rfl,?_,?_⟩⟩
   .rw[<-ax];exact run_takeDeferred (b:=W0.heap.size) (ds:=[]) hdd
   refine⟨.tuple #[N_,V p0,V e0],by simp[results,results25,go_sem,r1,r2,r3],?_⟩;refine⟨an,?_⟩;rw[HR.out]
end
section
open Go.RowKit
theorem ZC{s:Y_}{w:W_}{ts:List Lx.aB}(h:Lx.jr s.data.toList=(ts,none))(hm:s.size<=140737488355328)(hc:ts.length<=8000):
  C_ 25 #[.string s] w λe w'=>ag w w'/\∃v,e=.returned (.tuple #[v,V 0,V 0])/\w'.ownsRow w.heap.size 131 4 v ts.length (ts.flatMap kZ):=by
 have:=Xd s w hm (by rw[h];exact hc);unfold Oa at this;rw[h]at this;exact this
theorem anM{s:Y_}{w:W_}{p er:Nat}(h:(Lx.jr s.data.toList).2=some (p,er))(hm:s.size<=140737488355328)(hc:(Lx.jr s.data.toList).1.length<=8000):
  C_ 25 #[.string s] w λe w'=>ag w w'/\e=.returned (.tuple #[N_,V p,V er]):=by
 have:=Xd s w hm hc;unfold Oa at this;rw[h]at this;exact this
end
end Go.Proofs.YtabjglnjjdcfmaaGreatDoor
