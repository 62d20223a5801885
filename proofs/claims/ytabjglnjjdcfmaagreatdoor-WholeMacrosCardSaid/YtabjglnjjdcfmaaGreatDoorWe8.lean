/- Part 8 of 41 of a proof. No condition. -/
import Derived.Deep.RegionWith
import Derived.Test.YtabjglnjjdcfmaaGreatDoorShelf
import Derived.Lib.IndexLaws
import Derived.Test.YtabjglnjjdcfmaaGreatDoorWe3
set_option maxRecDepth 100000
set_option maxHeartbeats 400000
namespace Go.Proofs.YtabjglnjjdcfmaaGreatDoor
open _root_.ByteArray renaming empty->awO
open _root_.Int renaming toNat_natCast->awf
open _root_.List renaming getElem?_drop->aws,getElem?_cons_zero->avo,getElem?_cons_succ->avG
open _root_.Nat renaming lt_of_succ_lt->awp
open _root_.Go.Proofs.Tryz
section
open Go.RowKit
def pV(s:Y_)(a p e:Int):Array Value:=
 (Array.ofFn (n:=256) λi=>Value.int .u8 (Lx.cls i.1:Nat))++#[.string s,V a,V p,V e]
def bu(w:W_)(L:Nat)(s:Y_)(a p e:Int):Prop:=af w L 126 (pV s a p e)
theorem QX(s:Y_)(a p e:Int)(i:Nat)(h:i<256):(pV s a p e)[i]?=some (.int .u8 (Lx.cls i:Nat)):=by
 unfold pV;rw[Array.getElem?_append_left (by simpa using h)];simp[h]
theorem zJ(s:Y_)(a p e:Int)(i:Nat):(pV s a p e)[256+i]?=(#[Value.string s,V a,V p,V e]:Array Value)[i]?:=by
 unfold pV;rw[Array.getElem?_append_right (by simp)];simp
theorem BO(s:Y_)(a p e:Int)(i:Nat)(u:Value):(pV s a p e).setIfInBounds (256+i) u=(Array.ofFn (n:=256) λi=>Value.int .u8 (Lx.cls i.1:Nat))++(#[Value.string s,V a,V p,V e].setIfInBounds i u):=by
 unfold pV;rw[Array.setIfInBounds_append_right (by simp)];simp
section
variable {w:World} {L:Nat} {s:ByteArray} {a p e:Int}
theorem bu.QG(h:bu w L s a p e):w.cell? (B_ L 256)=some (.string s):=(af.cell h 256).trans (zJ s a p e 0)
theorem bu.at_(h:bu w L s a p e):w.cell? (B_ L 257)=some (V a):=(af.cell h 257).trans (zJ s a p e 1)
theorem bu.place(h:bu w L s a p e):w.cell? (B_ L 258)=some (V p):=(af.cell h 258).trans (zJ s a p e 2)
theorem bu.err(h:bu w L s a p e):w.cell? (B_ L 259)=some (V e):=(af.cell h 259).trans (zJ s a p e 3)
theorem bu.cls(h:bu w L s a p e)(i:Nat)(hi:i<256):w.cell? (B_ L i)=some (.int .u8 (Lx.cls i:Nat)):=(af.cell h i).trans (QX s a p e i hi)
theorem bu.drewN(h:bu w L s a p e)(n:Nat):bu (w.drewN n) L s a p e:=h
theorem bu.alloc(h:bu w L s a p e)(o:Obj):bu (w.alloc o) L s a p e:=af.alloc h o
theorem bu.setAt(h:bu w L s a p e)(x:Int):bu (w.setCell (B_ L 257) (V x)) L s x p e:=by
 have:=af.put h 257 (V x);rw[show(257:Nat)=256+1 from rfl,BO]at this;exact this
theorem bu.abX(h:bu w L s a p e)(x:Int):bu (w.setCell (B_ L 258) (V x)) L s a x e:=by
 have:=af.put h 258 (V x);rw[show(258:Nat)=256+2 from rfl,BO]at this;exact this
theorem bu.afE(h:bu w L s a p e)(x:Int):bu (w.setCell (B_ L 259) (V x)) L s a p x:=by
 have:=af.put h 259 (V x);rw[show(259:Nat)=256+3 from rfl,BO]at this;exact this
theorem bu.lt(h:bu w L s a p e):L<w.heap.size:=af.lt h
end
theorem eD{w:W_}{L:Nat}{s:Y_}{a p e:Int}(h:bu w L s a p e):w.cell? (B_ L 256)=some (.string s)/\w.cell? (B_ L 257)=some (V a)/\w.cell? (B_ L 258)=some (V p)/\w.cell? (B_ L 259)=some (V e)/\
  w.frozen? (B_ L 257)=false/\w.frozen? (B_ L 258)=false/\w.frozen? (B_ L 259)=false/\L<w.heap.size:=
 ⟨h.QG,h.at_,h.place,h.err,af.frozen h _,af.frozen h _,af.frozen h _,h.lt⟩
theorem QY(L:Nat)(s:Y_)(a p e pl er:Int)(w:W_)(h:bu w L s a p e):
  C_ 125 #[.pointer (A_ L 0),V pl,V er] w λe' w'=>e'=.returned (.tuple #[.agg #[V 0,.string awO,V 0,V 0],.bool false])/\bu w' L s a pl er/\Touch (·=L) w w':=by
 obtain⟨h1,h2,h3,h4,f1,f2,f3,hL⟩:=eD h;have H:=I h;clear h;go_enter func125,ntmps125
 go_wp2
 refine bodyPost_ret (v:=.tuple #[.agg #[V 0,.string awO,V 0,V 0],.bool false]) (by simp[results,results125,go_sem];rfl) rfl ⟨rfl,?_,?_⟩
 .exact((H.abX pl).afE er).alloc _
 .exact(((M (·=L) w).setCell (p:=B_ L 258) Wh _).setCell (p:=B_ L 259) Wh _).alloc _
theorem ng(L:Nat)(s:Y_)(a p e:Int)(x c:Int)(w:W_)(h:bu w L s a p e)(hx:0<=x)(hc:0<=c):
  C_ 120 #[.pointer (A_ L 0),V x,.int .u8 c] w λe' w'=>e'=.returned (.bool (Lx.cz s.data.toList x.toNat==c))/\∃n,w'=w.drewN n:=by
 obtain⟨k,rfl⟩:=Int.eq_ofNat_of_zero_le hx;have h1:=h.QG;simp only[awf]
 by_cases hk:k<s.size
 .have aa:=h.cls s[k].toNat s[k].toNat_lt
  have hr:(Lx.cz s.data.toList k==c)=(((Lx.cls s[k].toNat:Nat):Int)==c):=by rw[Lx.Ja _ _ (by simpa using hk)];rfl
  rw[hr];clear hr h;have hd:decide ((k:Int)<(s.size:Int))=true:=WN
  have akS:(s[k].toNat:Int)<256:=by have:=s[k].toNat_lt;omega
  have hk2:(k:Int)<(s.size:Int):=Zo
  have aA:(0:Int)<=(k:Int):=Zo
  go_enter func120,ntmps120
  go_wp2
  go_quiet (fail)
  go_wp2
  go_ret;exact⟨rfl,_,rfl⟩
 .have hr:(Lx.cz s.data.toList k==c)=false:=by rw[Lx.MI _ _ (by simp;omega)];simp;omega
  rw[hr];clear hr h;have hd:decide ((k:Int)<(s.size:Int))=false:=WN
  go_enter func120,ntmps120
  go_wp2
  go_quiet (fail)
  go_wp2
  go_ret;exact⟨rfl,_,rfl⟩
theorem rF(L:Nat)(s:Y_)(a p e:Int)(x c:Int)(w:W_)(h:bu w L s a p e)(hx:0<=x)(hc:0<=c)(hm:s.size<=maxLen):
  C_ 86 #[.pointer (A_ L 0),V x,.int .u8 c] w λe' w'=>e'=.returned (V (x.toNat+Lx.mO c s.data.toList x.toNat:Nat))/\∃n,w'=w.drewN n:=by
 obtain⟨k,rfl⟩:=Int.eq_ofNat_of_zero_le hx;simp only[awf];unfold maxLen at hm;have H:=I h;clear h hx;go_enter func86,ntmps86
 go_wp2
 go_loopw [1] (λi wr=>∃j:Nat,i=V j/\Hd (j+Lx.mO c s.data.toList j=k+Lx.mO c s.data.toList k)/\∃n,wr=w.drewN n) (λi _=>s.size-(intOf i).toNat)
 case atStart=>exact⟨k,rfl,rfl,0,rfl⟩
 case round=>
  obtain⟨j,rfl,hj,n,rfl⟩:=hrel
  by_cases ht:Lx.cz s.data.toList j=c
  .obtain⟨hlt,hs⟩:=Lx.P8 c _ j hc ht
   have aR:j<s.size:=by simpa using hlt
   have hb:(Lx.cz s.data.toList j==c)=true:=by simpa using ht
   have HS:=I hs;clear hs ht hlt
   go_wp2_with (go_at_call 120;refine(ng L s a p e _ _ _ (H.drewN _) Zo hc).mono ?_;rintro e' w' ⟨rfl,n2,rfl⟩)
   go_roundw
   case rel=>exact⟨j+1,by go_num,HS.trans hj,n+n2,rfl⟩
   case measure=>simp[intOf];omega
  .have hz:=Lx.aeh c _ j ht
   have hb:(Lx.cz s.data.toList j==c)=false:=by simpa using ht
   have HZ:=I hz;clear hz ht
   go_wp2_with (go_at_call 120;refine(ng L s a p e _ _ _ (H.drewN _) Zo hc).mono ?_;rintro e' w' ⟨rfl,n2,rfl⟩)
   go_ret;exact⟨aeq (by rw[<-hj.out,HZ.out];simp),n+n2,rfl⟩
def WO(r:Lx.jT)(a:Nat)(p e:Int)(k:Int)(tx:Y_)(f t:Int)(b:Bool)(a' p' e':Int):Prop:=
 match r with
 |.ok tk n=>k=tk.QI/\tx=⟨tk.QG.toArray⟩/\f=a/\t=(a+n:Nat)/\b=true/\a'=(a+n:Nat)/\p'=p/\e'=e
 |.err i er=>k=0/\tx=awO/\f=0/\t=0/\b=false/\a'=a/\p'=(a+i:Nat)/\e'=er
def bA(w:W_)(L:Nat)(s:Y_)(a:Nat)(p e:Int)(r:Lx.jT)(e':Ending)(w':W_):Prop:=
 ∃(k:Int) (tx:Y_) (f t:Int) (b:Bool) (a' p' e2:Int),e'=.returned (.tuple #[.agg #[V k,.string tx,V f,V t],.bool b])/\
  bu w' L s a' p' e2/\Touch (·=L) w w'/\WO r a p e k tx f t b a' p' e2
theorem bA.drewN{w w':W_}{L:Nat}{s:Y_}{a:Nat}{p e:Int}{r:Lx.jT}{e':Ending}(h:bA w L s a p e r e' w')(n:Nat):bA w L s a p e r e' (w'.drewN n):=by
 obtain⟨k,tx,f,t,b,a',p',e2,rfl,h1,h2,h3⟩:=h;exact⟨k,tx,f,t,b,a',p',e2,rfl,h1.drewN n,h2.drewN n,h3⟩
theorem bA.close{w w':W_}{L:Nat}{s:Y_}{a:Nat}{p e:Int}{r:Lx.jT}{k:Int}{tx:Y_}{f t:Int}{b:Bool}{a' p' e2:Int}(hL:L<w.heap.size)
  (h1:bu w' L s a' p' e2) (h2:Touch (·=L) w w') (h3:WO r a p e k tx f t b a' p' e2):
  bA w L s a p e r (.returned (.tuple #[.agg #[V k,.string tx,V f,V t],.bool b])) (aO w' w.heap.size (V k) (.string tx) (V f) (V t)):=
 ⟨k,tx,f,t,b,a',p',e2,rfl,af.uJ h1 Zo _ _ _ _,h2.aO ET _ _ _ _,h3⟩
theorem zW(L:Nat)(s:Y_)(a:Nat)(p e:Int)(k:Int)(kd:Nat)(QG:Y_)(eF:Int)(n most:Nat)(EW:Int)(w:W_)(h:bu w L s a p e)(hk:k=kd)(ht:eF=(a+n:Nat))(PK:EW=most):
  C_ 122 #[.pointer (A_ L 0),V k,.string QG,V eF,V EW] w (bA w L s a p e (Lx.lim most ⟨kd,QG.data.toList⟩ n)):=by
 obtain⟨h1,h2,h3,h4,f1,f2,f3,hL⟩:=eD h;have H:=I h;have HK:=I hk;have HT:=I ht;clear h hk ht
 by_cases hl:EW<QG.size
 .have hr:Lx.lim most ⟨kd,QG.data.toList⟩ n=.err 0 6:=by unfold Lx.lim;rw[if_pos (by simp;omega)]
  rw[hr];clear hr PK;go_enter func122,ntmps122
  go_wp2_with (go_at_call 125;refine(QY L s a p e _ _ _ arC).mono ?_;rintro e' w' ⟨rfl,hx,ht⟩;obtain⟨q0,q1,q2,q3,z0,z1,z2,z3,hg⟩:=af.QM (ht.QN (af.new w _ _) Zo);have HX:=I hx;have HT:=I ht;clear hx ht)
  refine bodyPost_ret (v:=.tuple #[.agg #[V 0,.string awO,V 0,V 0],.bool false]) (by simp[results,results122,go_sem,q0,q1,q2,q3]) rfl ?_;exact bA.close hL HX HT.pre ⟨rfl,rfl,rfl,rfl,rfl,rfl,rfl,rfl⟩
 .have hr:Lx.lim most ⟨kd,QG.data.toList⟩ n=.ok ⟨kd,QG.data.toList⟩ n:=by unfold Lx.lim;rw[if_neg (by simp;omega)]
  rw[hr];clear hr PK;go_enter func122,ntmps122
  go_wp2
  refine bodyPost_ret (v:=.tuple #[.agg #[V k,.string QG,V a,V eF],.bool true]) (by simp[results,results122,go_sem]) rfl ?_;refine⟨_,_,_,_,_,eF,p,e,rfl,?_,?_,HK,rfl,rfl,HT,rfl,HT,rfl,rfl⟩
  .exact(bu.setAt H eF).alloc _
  .exact((M (·=L) w).setCell (p:=B_ L 257) Wh _).alloc _
theorem ag8(l:Lx.QJ)(a m:Nat)(hm:m=a+Lx.mO 2 l a):Lx.lH (l.drop a)=if l[m]?=some 46/\Lx.cz l (m+1)=2 then m+1+Lx.mO 2 l (m+1)-a else m-a:=by
 subst hm
 have h0:∀k,Lx.dI 2 (l.drop k)=Lx.mO 2 l k:=λk=>by
  unfold Lx.dI Lx.mO
  have:(Lx.dG 2)=λb:UInt8=>((Lx.cls b.toNat:Int)==2):=by
   funext b
   unfold Lx.dG;rw[Bool.eq_iff_iff];simp;omega
  rw[this]
 have h1:∀k,(Lx.xP 2 (l.drop a) k=true)↔Lx.cz l (a+k)=2:=λk=>by
  unfold Lx.xP Lx.cz;rw[aws];cases l[a+k]? with
  |none=>simp
  |some b=>simp[Lx.dG];omega
 unfold Lx.lH;rw[h0,aws,List.drop_drop,h0];simp only[h1,Nat.add_assoc];split<;>omega
theorem WQ(L:Nat)(s:Y_)(a:Nat)(p e:Int)(w:W_)(h:bu w L s a p e)(hm:s.size<=maxLen)(ha:a<s.size):
  C_ 121 #[.pointer (A_ L 0)] w (bA w L s a p e (Lx.number (s.data.toList.drop a))):=by
 obtain⟨g1,g2,g3,g4,f1,f2,f3,hL⟩:=eD h;have HM:=hm;unfold maxLen at hm;have H:=I h;clear h;have hle:=Lx.vM 2 s.data.toList a;have ab:s.data.toList.length=s.size:=P9
 rw[ab]at hle;obtain⟨m,ad⟩:∃m,m=a+Lx.mO 2 s.data.toList a:=⟨_,rfl⟩;have HN:=I (ag8 s.data.toList a m ad);have HD:=I ad;have am:a<=m:=Zo
 have ms:m<=s.size:=Zo
 clear ad hle
 have fin:∀(n:Nat),a<=n->n<=s.size->Lx.lH (s.data.toList.drop a)=n-a->
   Lx.lim 20 ⟨2,(s.extract a n).data.toList⟩ (n-a)=Lx.number (s.data.toList.drop a):=λn ag aE abY=>by
  unfold Lx.number;rw[abY]
  congr 2
  exact asW
 by_cases c1:m<s.size
 .have t1:decide ((m:Int)<(s.size:Int))=true:=by simp;omega
  have t1':(m:Int)<(s.size:Int):=Zo
  have akT:(0:Int)<=(m:Int):=Zo
  have ay:s.data.toList[m]?=some s[m]:=by rw[List.getElem?_eq_getElem (by omega)];rfl
  by_cases c2:s[m]=46
  .have t2:((s[m].toNat:Int)==46)=true:=by rw[c2];rfl
   by_cases c3:Lx.cz s.data.toList (m+1)=2
   .have t3:(Lx.cz s.data.toList (m+1)==2)=true:=by simpa using c3
    have ae:=Lx.vM 2 s.data.toList (m+1);have hy:=(Lx.P8 2 s.data.toList (m+1) Zo c3).1;rw[ab]at ae hy;obtain⟨m2,aI⟩:∃m2,m2=m+1+Lx.mO 2 s.data.toList (m+1):=⟨_,rfl⟩;have iI:=I aI
    have hn:Lx.lH (s.data.toList.drop a)=m2-a:=by
     rw[HN.out,if_pos ⟨by rw[ay,c2],c3⟩,<-aI]
    have am2:a<=m2:=Zo
    have ms2:m2<=s.size:=Zo
    have aa:=I (fin m2 am2 ms2 hn);clear ay c2 c3 ab hy aI ae;clear fin hn;go_enter func121,ntmps121;go_wp2_with fail
    refine(rF L s a p e _ 2 _ arC Zo Zo HM).mono ?_;rintro e' w' ⟨rfl,n1,rfl⟩;rw[awf,<-HD.out];go_wp2_with fail
    refine(ng L s a p e _ 2 _ TR Zo Zo).mono ?_;rintro e' w' ⟨rfl,n2,rfl⟩;rw[show((m:Int)+1).toNat=m+1 from by omega];go_wp2_with fail
    refine(rF L s a p e _ 2 _ TR Zo Zo HM).mono ?_;rintro e' w' ⟨rfl,n3,rfl⟩;rw[show((m:Int)+1).toNat=m+1 from by omega,<-iI.out];go_wp2_with fail
    refine kY [([0,1,2,3,4,5,6,7,8,9,10,11],12),([13,14],15)] [16] Pg Pg ?_;simp only[tY,pick,avo,avG]
    repeat(quiet_step (fail))
    refine wpQuiet_nil ?_;rintro _ ⟨nq,rfl⟩;go_wp2_with fail
    refine(zW L s a p e _ 2 _ _ (m2-a) 20 _ _ TR rfl aqi rfl).mono ?_;rintro e' w' ⟨k,tx,f,t,b,a',p',e2,rfl,hx,ht,ac⟩;obtain⟨q0,q1,q2,q3,z0,z1,z2,z3,hg⟩:=af.QM x_;have HX:=I hx;have ao:=I ht;have fU:=I ac;clear hx ht ac;go_wp2_with fail
    repeat(quiet_step (fail))
    refine wpQuiet_nil ?_;rintro _ ⟨NP,rfl⟩
    go_wp2
    repeat(quiet_step (fail))
    refine wpQuiet_nil ?_;rintro _ ⟨nq3,rfl⟩
    go_wp2
    exact Uo
   .have t3:(Lx.cz s.data.toList (m+1)==2)=false:=by simpa using c3
    have hn:Lx.lH (s.data.toList.drop a)=m-a:=by
     rw[HN.out,if_neg (λhx=>c3 hx.2)]
    have aa:=I (fin m am ms hn);clear ay c2 c3 ab;clear fin hn;go_enter func121,ntmps121;go_wp2_with fail
    refine(rF L s a p e _ 2 _ arC Zo Zo HM).mono ?_;rintro e' w' ⟨rfl,n1,rfl⟩;rw[awf,<-HD.out];go_wp2_with fail
    refine(ng L s a p e _ 2 _ TR Zo Zo).mono ?_;rintro e' w' ⟨rfl,n2,rfl⟩;rw[show((m:Int)+1).toNat=m+1 from by omega];go_wp2_with fail
    refine kY [([0,1,2,3,4,5,6,7,8,9,10,11],12),([13,14],15)] [16] Pg Pg ?_;simp only[tY,pick,avo,avG]
    repeat(quiet_step (fail))
    refine wpQuiet_nil ?_;rintro _ ⟨nq,rfl⟩;go_wp2_with fail
    refine(zW L s a p e _ 2 _ _ (m-a) 20 _ _ TR rfl aqi rfl).mono ?_;rintro e' w' ⟨k,tx,f,t,b,a',p',e2,rfl,hx,ht,ac⟩;obtain⟨q0,q1,q2,q3,z0,z1,z2,z3,hg⟩:=af.QM x_;have HX:=I hx;have ao:=I ht;have fU:=I ac;clear hx ht ac;go_wp2_with fail
    repeat(quiet_step (fail))
    refine wpQuiet_nil ?_;rintro _ ⟨NP,rfl⟩
    go_wp2
    repeat(quiet_step (fail))
    refine wpQuiet_nil ?_;rintro _ ⟨nq3,rfl⟩
    go_wp2
    exact Uo
  .have t2:((s[m].toNat:Int)==46)=false:=by
    rw[beq_eq_false_iff_ne];intro hx;exact c2 (UInt8.toNat_inj.1 WN)
   have hn:Lx.lH (s.data.toList.drop a)=m-a:=by
    rw[HN.out,if_neg (λhx=>c2 (by rw[ay]at hx;simpa using hx.1))]
   have aa:=I (fin m am ms hn);clear ay c2 ab;clear fin hn;go_enter func121,ntmps121;go_wp2_with fail
   refine(rF L s a p e _ 2 _ arC Zo Zo HM).mono ?_;rintro e' w' ⟨rfl,n1,rfl⟩;rw[awf,<-HD.out];go_wp2_with fail
   refine kY [([0,1,2,3,4,5,6,7,8,9,10,11],12),([13,14],15)] [16] Pg Pg ?_;simp only[tY,pick,avo,avG]
   repeat(quiet_step (fail))
   refine wpQuiet_nil ?_;rintro _ ⟨nq,rfl⟩;go_wp2_with fail
   refine(zW L s a p e _ 2 _ _ (m-a) 20 _ _ TR rfl aqi rfl).mono ?_;rintro e' w' ⟨k,tx,f,t,b,a',p',e2,rfl,hx,ht,ac⟩;obtain⟨q0,q1,q2,q3,z0,z1,z2,z3,hg⟩:=af.QM x_;have HX:=I hx;have ao:=I ht;have fU:=I ac;clear hx ht ac;go_wp2_with fail
   repeat(quiet_step (fail))
   refine wpQuiet_nil ?_;rintro _ ⟨NP,rfl⟩
   go_wp2
   repeat(quiet_step (fail))
   refine wpQuiet_nil ?_;rintro _ ⟨nq3,rfl⟩
   go_wp2
   exact Uo
 .have hn:Lx.lH (s.data.toList.drop a)=m-a:=by
   rw[HN.out,if_neg];rintro⟨h1,_⟩;rw[List.getElem?_eq_none (by omega)]at h1;cases h1
  have aa:=I (fin m am ms hn);have t1:decide ((m:Int)<(s.size:Int))=false:=WN
  clear ab;clear fin hn;go_enter func121,ntmps121;go_wp2_with fail
  refine(rF L s a p e _ 2 _ arC Zo Zo HM).mono ?_;rintro e' w' ⟨rfl,n1,rfl⟩;rw[awf,<-HD.out];go_wp2_with fail
  refine kY [([0,1,2,3,4,5,6,7,8,9,10,11],12),([13,14],15)] [16] Pg Pg ?_;simp only[tY,pick,avo,avG]
  repeat(quiet_step (fail))
  refine wpQuiet_nil ?_;rintro _ ⟨nq,rfl⟩;go_wp2_with fail
  refine(zW L s a p e _ 2 _ _ (m-a) 20 _ _ TR rfl aqi rfl).mono ?_;rintro e' w' ⟨k,tx,f,t,b,a',p',e2,rfl,hx,ht,ac⟩;obtain⟨q0,q1,q2,q3,z0,z1,z2,z3,hg⟩:=af.QM x_;have HX:=I hx;have ao:=I ht;have fU:=I ac;clear hx ht ac;go_wp2_with fail
  repeat(quiet_step (fail))
  refine wpQuiet_nil ?_;rintro _ ⟨NP,rfl⟩
  go_wp2
  repeat(quiet_step (fail))
  refine wpQuiet_nil ?_;rintro _ ⟨nq3,rfl⟩
  go_wp2
  exact Uo
theorem uZ(L:Nat)(s:Y_)(a:Nat)(p e:Int)(k:Int)(kd:Nat)(QG:Y_)(eF:Int)(n most:Nat)(EW:Int)(w:W_)(r:Lx.jT)(hr:Lx.lim most ⟨kd,QG.data.toList⟩ n=r)(h:bu w L s a p e)(hk:k=kd)(ht:eF=(a+n:Nat))(PK:EW=most):
  C_ 122 #[.pointer (A_ L 0),V k,.string QG,V eF,V EW] w (bA w L s a p e r):=by
 subst hr;exact zW L s a p e k kd QG eF n most EW w h hk ht PK
theorem og(L:Nat)(s:Y_)(a:Nat)(p e:Int)(pl er:Int)(i erN:Nat)(w:W_)(r:Lx.jT)(hr:Lx.jT.err i erN=r)(h:bu w L s a p e)(hp:pl=(a+i:Nat))(he:er=erN):
  C_ 125 #[.pointer (A_ L 0),V pl,V er] w (bA w L s a p e r):=by
 subst hr hp he;exact(QY L s a p e _ _ w h).mono λe' w' ⟨h1,h2,h3⟩=>⟨_,_,_,_,_,_,_,_,h1,h2,h3,rfl,rfl,rfl,rfl,rfl,rfl,rfl,rfl⟩
theorem one_byte(s:Y_)(a:Nat)(h:a<s.size):(s.extract a (a+1)).data.toList=[s[a]]:=by
 have h1:s.data.toList.drop a=s[a]::s.data.toList.drop (a+1):=List.drop_eq_getElem_cons aiu;simp[ByteArray.data_extract,Array.toList_extract,List.extract_eq_take_drop,h1]
theorem Ur(s:Y_)(a:Nat)(h:a<s.size)(x:UInt8):((s.extract a (a+1)).toList==[x])=(s[a]==x):=by
 have h1:(s.extract a (a+1)).toList=[s[a]]:=by rw[ByteArray.toList_eq];exact one_byte s a h
 rw[h1];simp
theorem WR(d:UInt8)(h1:49<=d.toNat)(h2:d.toNat<=52):(Utf8.encode (d.toNat:Int)).data.toList=[d]:=by
 have:d.toNat=49\/d.toNat=50\/d.toNat=51\/d.toNat=52:=Zo
 rcases this with h|h|h|h<;>(have hd:=UInt8.toNat_inj.1 (show d.toNat=(UInt8.ofNat d.toNat).toNat by simp);rw[h]at hd;subst hd;decide+kernel)
theorem Us(L:Nat)(s:Y_)(a:Nat)(p e:Int)(w:W_)(h:bu w L s a p e)(hm:s.size<=maxLen)(ha:a<s.size)(r:Lx.jT)(F2:(Lx.cz s.data.toList a==2)=true)(hr:Lx.number (s.data.toList.drop a)=r):
  C_ 87 #[.pointer (A_ L 0)] w (bA w L s a p e r):=by
 obtain⟨g1,g2,g3,g4,f1,f2,f3,hL⟩:=eD h;have HM:=hm;have Ee:=ha;unfold maxLen at hm;have H:=I h;clear h;have a0:(0:Int)<=(a:Int):=Zo
 have a1:(a:Int)<(s.size:Int):=Zo
 have a2:(a:Int)+1<=(s.size:Int):=Zo
 go_enter func87,ntmps87
 go_wp2_with (go_at_call 120;refine(ng L s a p e _ _ _ Uk Zo Zo).mono ?_;rintro e' w' ⟨rfl,n,rfl⟩)
 all_goals
  refine((hr▸WQ L s a p e _ TR HM ha)).mono ?_;rintro e' w' ⟨k,tx,f,t,b,a',p',e2,rfl,hx,ht,ac⟩;obtain⟨q0,q1,q2,q3,z0,z1,z2,z3,hg⟩:=af.QM x_;have HX:=I hx;have HT:=I ht;have fU:=I ac;clear hx ht ac;go_wp2_with fail
  exact Py
theorem Zq(L:Nat)(s:Y_)(a:Nat)(p e:Int)(w:W_)(h:bu w L s a p e)(hm:s.size<=maxLen)(ha:a<s.size)(r:Lx.jT)(F2:(Lx.cz s.data.toList a==2)=false)(F5:(Lx.cz s.data.toList a==5)=true)(hr:Lx.lim 1 ⟨7,(s.extract a (a+1)).data.toList⟩ 1=r):
  C_ 87 #[.pointer (A_ L 0)] w (bA w L s a p e r):=by
 obtain⟨g1,g2,g3,g4,f1,f2,f3,hL⟩:=eD h;have HM:=hm;have Ee:=ha;unfold maxLen at hm;have H:=I h;clear h;have a0:(0:Int)<=(a:Int):=Zo
 have a1:(a:Int)<(s.size:Int):=Zo
 have a2:(a:Int)+1<=(s.size:Int):=Zo
 go_enter func87,ntmps87
 go_wp2_with (go_at_call 120;refine(ng L s a p e _ _ _ Uk Zo Zo).mono ?_;rintro e' w' ⟨rfl,n,rfl⟩)
 all_goals
  refine(uZ L s a p e _ 7 _ _ 1 1 _ _ r hr TR rfl rfl rfl).mono ?_;rintro e' w' ⟨k,tx,f,t,b,a',p',e2,rfl,hx,ht,ac⟩;obtain⟨q0,q1,q2,q3,z0,z1,z2,z3,hg⟩:=af.QM x_;have HX:=I hx;have HT:=I ht;have fU:=I ac;clear hx ht ac;go_wp2_with fail
  exact Py
theorem Ut(L:Nat)(s:Y_)(a:Nat)(p e:Int)(w:W_)(h:bu w L s a p e)(hm:s.size<=maxLen)(ha:a<s.size)(r:Lx.jT)(F2:(Lx.cz s.data.toList a==2)=false)(F5:(Lx.cz s.data.toList a==5)=false)(u6:((s.extract a (a+1)).toList==[34])=true)(hq:∀w:W_,bu w L s a p e->C_ 123 #[.pointer (A_ L 0)] w (bA w L s a p e r)):
  C_ 87 #[.pointer (A_ L 0)] w (bA w L s a p e r):=by
 obtain⟨g1,g2,g3,g4,f1,f2,f3,hL⟩:=eD h;have HM:=hm;have Ee:=ha;unfold maxLen at hm;have H:=I h;clear h;have a0:(0:Int)<=(a:Int):=Zo
 have a1:(a:Int)<(s.size:Int):=Zo
 have a2:(a:Int)+1<=(s.size:Int):=Zo
 have HQ:=I hq;clear hq;go_enter func87,ntmps87
 go_wp2_with (go_at_call 120;refine(ng L s a p e _ _ _ Uk Zo Zo).mono ?_;rintro e' w' ⟨rfl,n,rfl⟩)
 all_goals
  refine(HQ _ TR).mono ?_;rintro e' w' ⟨k,tx,f,t,b,a',p',e2,rfl,hx,ht,ac⟩;obtain⟨q0,q1,q2,q3,z0,z1,z2,z3,hg⟩:=af.QM x_;have HX:=I hx;have HT:=I ht;have fU:=I ac;clear hx ht ac;go_wp2_with fail
  exact Py
theorem WS(L:Nat)(s:Y_)(a:Nat)(p e:Int)(w:W_)(h:bu w L s a p e)(hm:s.size<=maxLen)(ha:a<s.size)(r:Lx.jT)(F2:(Lx.cz s.data.toList a==2)=false)(F5:(Lx.cz s.data.toList a==5)=false)(u6:((s.extract a (a+1)).toList==[34])=false)(u7:((s.extract a (a+1)).toList==[92])=true)(hs:a+1<s.size)(afF:(((s[a+1]'hs).toNat:Int)==92)=true)(hr:Lx.lim 2 ⟨8,(⟨#[92,92]⟩:Y_).data.toList⟩ 2=r):
  C_ 87 #[.pointer (A_ L 0)] w (bA w L s a p e r):=by
 obtain⟨g1,g2,g3,g4,f1,f2,f3,hL⟩:=eD h;have HM:=hm;have Ee:=ha;unfold maxLen at hm;have H:=I h;clear h;have a0:(0:Int)<=(a:Int):=Zo
 have a1:(a:Int)<(s.size:Int):=Zo
 have a2:(a:Int)+1<=(s.size:Int):=Zo
 have S1:decide ((a:Int)+1<(s.size:Int))=true:=WN
 have S2:(a:Int)+1<(s.size:Int):=Zo
 have S3:(0:Int)<=(a:Int)+1:=Zo
 go_enter func87,ntmps87
 go_wp2_with (go_at_call 120;refine(ng L s a p e _ _ _ Uk Zo Zo).mono ?_;rintro e' w' ⟨rfl,n,rfl⟩)
 all_goals
  refine(uZ L s a p e _ 8 _ _ 2 2 _ _ r hr TR rfl rfl rfl).mono ?_;rintro e' w' ⟨k,tx,f,t,b,a',p',e2,rfl,hx,ht,ac⟩;obtain⟨q0,q1,q2,q3,z0,z1,z2,z3,hg⟩:=af.QM x_;have HX:=I hx;have HT:=I ht;have fU:=I ac;clear hx ht ac;go_wp2_with fail
  exact Py
theorem Zr(L:Nat)(s:Y_)(a:Nat)(p e:Int)(w:W_)(h:bu w L s a p e)(hm:s.size<=maxLen)(ha:a<s.size)(r:Lx.jT)(F2:(Lx.cz s.data.toList a==2)=false)(F5:(Lx.cz s.data.toList a==5)=false)(u6:((s.extract a (a+1)).toList==[34])=false)(u7:((s.extract a (a+1)).toList==[92])=true)(hs:a+1<s.size)(afF:(((s[a+1]'hs).toNat:Int)==92)=false)(N3:(Lx.cz s.data.toList (a+1)==3)=true)(hq:∀w:W_,bu w L s a p e->C_ 124 #[.pointer (A_ L 0)] w (bA w L s a p e r)):
  C_ 87 #[.pointer (A_ L 0)] w (bA w L s a p e r):=by
 obtain⟨g1,g2,g3,g4,f1,f2,f3,hL⟩:=eD h;have HM:=hm;have Ee:=ha;unfold maxLen at hm;have H:=I h;clear h;have a0:(0:Int)<=(a:Int):=Zo
 have a1:(a:Int)<(s.size:Int):=Zo
 have a2:(a:Int)+1<=(s.size:Int):=Zo
 have S1:decide ((a:Int)+1<(s.size:Int))=true:=WN
 have S2:(a:Int)+1<(s.size:Int):=Zo
 have S3:(0:Int)<=(a:Int)+1:=Zo
 have N3':(Lx.cz s.data.toList ((a:Int)+1).toNat==3)=true:=aqk
 have HQ:=I hq;clear hq;go_enter func87,ntmps87
 go_wp2_with (go_at_call 120;refine(ng L s a p e _ _ _ Uk Zo Zo).mono ?_;rintro e' w' ⟨rfl,n,rfl⟩)
 all_goals
  refine(HQ _ TR).mono ?_;rintro e' w' ⟨k,tx,f,t,b,a',p',e2,rfl,hx,ht,ac⟩;obtain⟨q0,q1,q2,q3,z0,z1,z2,z3,hg⟩:=af.QM x_;have HX:=I hx;have HT:=I ht;have fU:=I ac;clear hx ht ac;go_wp2_with fail
  exact Py
theorem QZ(L:Nat)(s:Y_)(a:Nat)(p e:Int)(w:W_)(h:bu w L s a p e)(hm:s.size<=maxLen)(ha:a<s.size)(r:Lx.jT)(F2:(Lx.cz s.data.toList a==2)=false)(F5:(Lx.cz s.data.toList a==5)=false)(u6:((s.extract a (a+1)).toList==[34])=false)(u7:((s.extract a (a+1)).toList==[92])=true)(xD:((s.extract a (a+1)).toList==[35])=false)(hs:a+1<s.size)(afF:(((s[a+1]'hs).toNat:Int)==92)=false)(N3:(Lx.cz s.data.toList (a+1)==3)=false)(F3:(Lx.cz s.data.toList a==3)=false)(F4:(Lx.cz s.data.toList a==4)=false)(hr:Lx.jT.err 0 3=r):
  C_ 87 #[.pointer (A_ L 0)] w (bA w L s a p e r):=by
 obtain⟨g1,g2,g3,g4,f1,f2,f3,hL⟩:=eD h;have HM:=hm;have Ee:=ha;unfold maxLen at hm;have H:=I h;clear h;have a0:(0:Int)<=(a:Int):=Zo
 have a1:(a:Int)<(s.size:Int):=Zo
 have a2:(a:Int)+1<=(s.size:Int):=Zo
 have S1:decide ((a:Int)+1<(s.size:Int))=true:=WN
 have S2:(a:Int)+1<(s.size:Int):=Zo
 have S3:(0:Int)<=(a:Int)+1:=Zo
 have N3':(Lx.cz s.data.toList ((a:Int)+1).toNat==3)=false:=aqk
 go_enter func87,ntmps87
 go_wp2_with (go_at_call 120;refine(ng L s a p e _ _ _ Uk Zo Zo).mono ?_;rintro e' w' ⟨rfl,n,rfl⟩)
 all_goals
  refine(og L s a p e _ _ 0 3 _ r hr TR rfl rfl).mono ?_;rintro e' w' ⟨k,tx,f,t,b,a',p',e2,rfl,hx,ht,ac⟩;obtain⟨q0,q1,q2,q3,z0,z1,z2,z3,hg⟩:=af.QM x_;have HX:=I hx;have HT:=I ht;have fU:=I ac;clear hx ht ac;go_wp2_with fail
  exact Py
theorem Q3(L:Nat)(s:Y_)(a:Nat)(p e:Int)(w:W_)(h:bu w L s a p e)(hm:s.size<=maxLen)(ha:a<s.size)(r:Lx.jT)(F2:(Lx.cz s.data.toList a==2)=false)(F5:(Lx.cz s.data.toList a==5)=false)(u6:((s.extract a (a+1)).toList==[34])=false)(u7:((s.extract a (a+1)).toList==[92])=true)(xD:((s.extract a (a+1)).toList==[35])=false)(hs:¬a+1<s.size)(N3:(Lx.cz s.data.toList (a+1)==3)=false)(F3:(Lx.cz s.data.toList a==3)=false)(F4:(Lx.cz s.data.toList a==4)=false)(hr:Lx.jT.err 0 3=r):
  C_ 87 #[.pointer (A_ L 0)] w (bA w L s a p e r):=by
 obtain⟨g1,g2,g3,g4,f1,f2,f3,hL⟩:=eD h;have HM:=hm;have Ee:=ha;unfold maxLen at hm;have H:=I h;clear h;have a0:(0:Int)<=(a:Int):=Zo
 have a1:(a:Int)<(s.size:Int):=Zo
 have a2:(a:Int)+1<=(s.size:Int):=Zo
 have S1:decide ((a:Int)+1<(s.size:Int))=false:=WN
 have N3':(Lx.cz s.data.toList ((a:Int)+1).toNat==3)=false:=aqk
 go_enter func87,ntmps87
 go_wp2_with (go_at_call 120;refine(ng L s a p e _ _ _ Uk Zo Zo).mono ?_;rintro e' w' ⟨rfl,n,rfl⟩)
 all_goals
  refine(og L s a p e _ _ 0 3 _ r hr TR rfl rfl).mono ?_;rintro e' w' ⟨k,tx,f,t,b,a',p',e2,rfl,hx,ht,ac⟩;obtain⟨q0,q1,q2,q3,z0,z1,z2,z3,hg⟩:=af.QM x_;have HX:=I hx;have HT:=I ht;have fU:=I ac;clear hx ht ac;go_wp2_with fail
  exact Py
theorem WT(L:Nat)(s:Y_)(a:Nat)(p e:Int)(w:W_)(h:bu w L s a p e)(hm:s.size<=maxLen)(ha:a<s.size)(r:Lx.jT)(F2:(Lx.cz s.data.toList a==2)=false)(F5:(Lx.cz s.data.toList a==5)=false)(u6:((s.extract a (a+1)).toList==[34])=false)(u7:((s.extract a (a+1)).toList==[92])=false)(xD:((s.extract a (a+1)).toList==[35])=true)(hs:a+1<s.size)(afG:decide (49<=((s[a+1]'hs).toNat:Int))=true)(aiy:decide (((s[a+1]'hs).toNat:Int)<=52)=true)(hr:Lx.lim 1 ⟨6,(Utf8.encode (wrap32 ((s[a+1]'hs).toNat:Int))).data.toList⟩ 2=r):
  C_ 87 #[.pointer (A_ L 0)] w (bA w L s a p e r):=by
 obtain⟨g1,g2,g3,g4,f1,f2,f3,hL⟩:=eD h;have HM:=hm;have Ee:=ha;unfold maxLen at hm;have H:=I h;clear h;have a0:(0:Int)<=(a:Int):=Zo
 have a1:(a:Int)<(s.size:Int):=Zo
 have a2:(a:Int)+1<=(s.size:Int):=Zo
 have S1:decide ((a:Int)+1<(s.size:Int))=true:=WN
 have S2:(a:Int)+1<(s.size:Int):=Zo
 have S3:(0:Int)<=(a:Int)+1:=Zo
 go_enter func87,ntmps87
 go_wp2_with (go_at_call 120;refine(ng L s a p e _ _ _ Uk Zo Zo).mono ?_;rintro e' w' ⟨rfl,n,rfl⟩)
 all_goals
  generalize Utf8.encode (wrap32 ((s[a+1]'hs).toNat:Int))=tx0 at hr|-;refine(uZ L s a p e _ 6 _ _ 2 1 _ _ r hr TR rfl rfl rfl).mono ?_;rintro e' w' ⟨k,tx,f,t,b,a',p',e2,rfl,hx,ht,ac⟩;obtain⟨q0,q1,q2,q3,z0,z1,z2,z3,hg⟩:=af.QM x_;have HX:=I hx;have HT:=I ht;have fU:=I ac;clear hx ht ac;go_wp2_with fail
  exact Py
theorem Uu(L:Nat)(s:Y_)(a:Nat)(p e:Int)(w:W_)(h:bu w L s a p e)(hm:s.size<=maxLen)(ha:a<s.size)(r:Lx.jT)(F2:(Lx.cz s.data.toList a==2)=false)(F5:(Lx.cz s.data.toList a==5)=false)(u6:((s.extract a (a+1)).toList==[34])=false)(u7:((s.extract a (a+1)).toList==[92])=false)(xD:((s.extract a (a+1)).toList==[35])=true)(hs:a+1<s.size)(afG:decide (49<=((s[a+1]'hs).toNat:Int))=false)(F3:(Lx.cz s.data.toList a==3)=false)(F4:(Lx.cz s.data.toList a==4)=false)(hr:Lx.jT.err 0 3=r):
  C_ 87 #[.pointer (A_ L 0)] w (bA w L s a p e r):=by
 obtain⟨g1,g2,g3,g4,f1,f2,f3,hL⟩:=eD h;have HM:=hm;have Ee:=ha;unfold maxLen at hm;have H:=I h;clear h;have a0:(0:Int)<=(a:Int):=Zo
 have a1:(a:Int)<(s.size:Int):=Zo
 have a2:(a:Int)+1<=(s.size:Int):=Zo
 have S1:decide ((a:Int)+1<(s.size:Int))=true:=WN
 have S2:(a:Int)+1<(s.size:Int):=Zo
 have S3:(0:Int)<=(a:Int)+1:=Zo
 go_enter func87,ntmps87
 go_wp2_with (go_at_call 120;refine(ng L s a p e _ _ _ Uk Zo Zo).mono ?_;rintro e' w' ⟨rfl,n,rfl⟩)
 all_goals
  refine(og L s a p e _ _ 0 3 _ r hr TR rfl rfl).mono ?_;rintro e' w' ⟨k,tx,f,t,b,a',p',e2,rfl,hx,ht,ac⟩;obtain⟨q0,q1,q2,q3,z0,z1,z2,z3,hg⟩:=af.QM x_;have HX:=I hx;have HT:=I ht;have fU:=I ac;clear hx ht ac;go_wp2_with fail
  exact Py
theorem Uv(L:Nat)(s:Y_)(a:Nat)(p e:Int)(w:W_)(h:bu w L s a p e)(hm:s.size<=maxLen)(ha:a<s.size)(r:Lx.jT)(F2:(Lx.cz s.data.toList a==2)=false)(F5:(Lx.cz s.data.toList a==5)=false)(u6:((s.extract a (a+1)).toList==[34])=false)(u7:((s.extract a (a+1)).toList==[92])=false)(xD:((s.extract a (a+1)).toList==[35])=true)(hs:a+1<s.size)(afG:decide (49<=((s[a+1]'hs).toNat:Int))=true)(aiy:decide (((s[a+1]'hs).toNat:Int)<=52)=false)(F3:(Lx.cz s.data.toList a==3)=false)(F4:(Lx.cz s.data.toList a==4)=false)(hr:Lx.jT.err 0 3=r):
  C_ 87 #[.pointer (A_ L 0)] w (bA w L s a p e r):=by
 obtain⟨g1,g2,g3,g4,f1,f2,f3,hL⟩:=eD h;have HM:=hm;have Ee:=ha;unfold maxLen at hm;have H:=I h;clear h;have a0:(0:Int)<=(a:Int):=Zo
 have a1:(a:Int)<(s.size:Int):=Zo
 have a2:(a:Int)+1<=(s.size:Int):=Zo
 have S1:decide ((a:Int)+1<(s.size:Int))=true:=WN
 have S2:(a:Int)+1<(s.size:Int):=Zo
 have S3:(0:Int)<=(a:Int)+1:=Zo
 go_enter func87,ntmps87
 go_wp2_with (go_at_call 120;refine(ng L s a p e _ _ _ Uk Zo Zo).mono ?_;rintro e' w' ⟨rfl,n,rfl⟩)
 all_goals
  refine(og L s a p e _ _ 0 3 _ r hr TR rfl rfl).mono ?_;rintro e' w' ⟨k,tx,f,t,b,a',p',e2,rfl,hx,ht,ac⟩;obtain⟨q0,q1,q2,q3,z0,z1,z2,z3,hg⟩:=af.QM x_;have HX:=I hx;have HT:=I ht;have fU:=I ac;clear hx ht ac;go_wp2_with fail
  exact Py
theorem Uw(L:Nat)(s:Y_)(a:Nat)(p e:Int)(w:W_)(h:bu w L s a p e)(hm:s.size<=maxLen)(ha:a<s.size)(r:Lx.jT)(F2:(Lx.cz s.data.toList a==2)=false)(F5:(Lx.cz s.data.toList a==5)=false)(u6:((s.extract a (a+1)).toList==[34])=false)(u7:((s.extract a (a+1)).toList==[92])=false)(xD:((s.extract a (a+1)).toList==[35])=true)(hs:¬a+1<s.size)(F3:(Lx.cz s.data.toList a==3)=false)(F4:(Lx.cz s.data.toList a==4)=false)(hr:Lx.jT.err 0 3=r):
  C_ 87 #[.pointer (A_ L 0)] w (bA w L s a p e r):=by
 obtain⟨g1,g2,g3,g4,f1,f2,f3,hL⟩:=eD h;have HM:=hm;have Ee:=ha;unfold maxLen at hm;have H:=I h;clear h;have a0:(0:Int)<=(a:Int):=Zo
 have a1:(a:Int)<(s.size:Int):=Zo
 have a2:(a:Int)+1<=(s.size:Int):=Zo
 have S1:decide ((a:Int)+1<(s.size:Int))=false:=WN
 go_enter func87,ntmps87
 go_wp2_with (go_at_call 120;refine(ng L s a p e _ _ _ Uk Zo Zo).mono ?_;rintro e' w' ⟨rfl,n,rfl⟩)
 all_goals
  refine(og L s a p e _ _ 0 3 _ r hr TR rfl rfl).mono ?_;rintro e' w' ⟨k,tx,f,t,b,a',p',e2,rfl,hx,ht,ac⟩;obtain⟨q0,q1,q2,q3,z0,z1,z2,z3,hg⟩:=af.QM x_;have HX:=I hx;have HT:=I ht;have fU:=I ac;clear hx ht ac;go_wp2_with fail
  exact Py
theorem Ux(L:Nat)(s:Y_)(a:Nat)(p e:Int)(w:W_)(h:bu w L s a p e)(hm:s.size<=maxLen)(ha:a<s.size)(r:Lx.jT)(F2:(Lx.cz s.data.toList a==2)=false)(F5:(Lx.cz s.data.toList a==5)=false)(u6:((s.extract a (a+1)).toList==[34])=false)(u7:((s.extract a (a+1)).toList==[92])=false)(xD:((s.extract a (a+1)).toList==[35])=false)(F3:(Lx.cz s.data.toList a==3)=true)(hr:Lx.lim 1 ⟨1,(s.extract a (a+1)).data.toList⟩ 1=r):
  C_ 87 #[.pointer (A_ L 0)] w (bA w L s a p e r):=by
 obtain⟨g1,g2,g3,g4,f1,f2,f3,hL⟩:=eD h;have HM:=hm;have Ee:=ha;unfold maxLen at hm;have H:=I h;clear h;have a0:(0:Int)<=(a:Int):=Zo
 have a1:(a:Int)<(s.size:Int):=Zo
 have a2:(a:Int)+1<=(s.size:Int):=Zo
 go_enter func87,ntmps87
 go_wp2_with (go_at_call 120;refine(ng L s a p e _ _ _ Uk Zo Zo).mono ?_;rintro e' w' ⟨rfl,n,rfl⟩)
 all_goals
  refine(uZ L s a p e _ 1 _ _ 1 1 _ _ r hr TR rfl rfl rfl).mono ?_;rintro e' w' ⟨k,tx,f,t,b,a',p',e2,rfl,hx,ht,ac⟩;obtain⟨q0,q1,q2,q3,z0,z1,z2,z3,hg⟩:=af.QM x_;have HX:=I hx;have HT:=I ht;have fU:=I ac;clear hx ht ac;go_wp2_with fail
  exact Py
theorem Zt(L:Nat)(s:Y_)(a:Nat)(p e:Int)(w:W_)(h:bu w L s a p e)(hm:s.size<=maxLen)(ha:a<s.size)(r:Lx.jT)(F2:(Lx.cz s.data.toList a==2)=false)(F5:(Lx.cz s.data.toList a==5)=false)(u6:((s.extract a (a+1)).toList==[34])=false)(u7:((s.extract a (a+1)).toList==[92])=false)(xD:((s.extract a (a+1)).toList==[35])=false)(F3:(Lx.cz s.data.toList a==3)=false)(F4:(Lx.cz s.data.toList a==4)=true)(hr:Lx.lim 1 ⟨1,(s.extract a (a+1)).data.toList⟩ 1=r):
  C_ 87 #[.pointer (A_ L 0)] w (bA w L s a p e r):=by
 obtain⟨g1,g2,g3,g4,f1,f2,f3,hL⟩:=eD h;have HM:=hm;have Ee:=ha;unfold maxLen at hm;have H:=I h;clear h;have a0:(0:Int)<=(a:Int):=Zo
 have a1:(a:Int)<(s.size:Int):=Zo
 have a2:(a:Int)+1<=(s.size:Int):=Zo
 go_enter func87,ntmps87
 go_wp2_with (go_at_call 120;refine(ng L s a p e _ _ _ Uk Zo Zo).mono ?_;rintro e' w' ⟨rfl,n,rfl⟩)
 all_goals
  refine(uZ L s a p e _ 1 _ _ 1 1 _ _ r hr TR rfl rfl rfl).mono ?_;rintro e' w' ⟨k,tx,f,t,b,a',p',e2,rfl,hx,ht,ac⟩;obtain⟨q0,q1,q2,q3,z0,z1,z2,z3,hg⟩:=af.QM x_;have HX:=I hx;have HT:=I ht;have fU:=I ac;clear hx ht ac;go_wp2_with fail
  exact Py
theorem Zu(L:Nat)(s:Y_)(a:Nat)(p e:Int)(w:W_)(h:bu w L s a p e)(hm:s.size<=maxLen)(ha:a<s.size)(r:Lx.jT)(F2:(Lx.cz s.data.toList a==2)=false)(F5:(Lx.cz s.data.toList a==5)=false)(u6:((s.extract a (a+1)).toList==[34])=false)(u7:((s.extract a (a+1)).toList==[92])=false)(xD:((s.extract a (a+1)).toList==[35])=false)(F3:(Lx.cz s.data.toList a==3)=false)(F4:(Lx.cz s.data.toList a==4)=false)(hr:Lx.jT.err 0 3=r):
  C_ 87 #[.pointer (A_ L 0)] w (bA w L s a p e r):=by
 obtain⟨g1,g2,g3,g4,f1,f2,f3,hL⟩:=eD h;have HM:=hm;have Ee:=ha;unfold maxLen at hm;have H:=I h;clear h;have a0:(0:Int)<=(a:Int):=Zo
 have a1:(a:Int)<(s.size:Int):=Zo
 have a2:(a:Int)+1<=(s.size:Int):=Zo
 go_enter func87,ntmps87
 go_wp2_with (go_at_call 120;refine(ng L s a p e _ _ _ Uk Zo Zo).mono ?_;rintro e' w' ⟨rfl,n,rfl⟩)
 all_goals
  refine(og L s a p e _ _ 0 3 _ r hr TR rfl rfl).mono ?_;rintro e' w' ⟨k,tx,f,t,b,a',p',e2,rfl,hx,ht,ac⟩;obtain⟨q0,q1,q2,q3,z0,z1,z2,z3,hg⟩:=af.QM x_;have HX:=I hx;have HT:=I ht;have fU:=I ac;clear hx ht ac;go_wp2_with fail
  exact Py
theorem Pj(l:List UInt8)(c:UInt8):decide (Lib.indexByte l c<0)=!(l.contains c):=by
 have h1:=Lib.indexByte_ge l c
 by_cases hc:Lib.indexByte l c<0
 .have h2:=Lib.indexByte_none (l:=l) (c:=c) Zo
  have:l.contains c=false:=by
   rw[<-Bool.not_eq_true,List.contains_iff_mem,List.mem_iff_getElem?];rintro⟨i,hi⟩;exact h2 i hi
  rw[this];simp[hc]
 .obtain⟨o,ho⟩:=Int.eq_ofNat_of_zero_le (show 0<=Lib.indexByte l c by omega)
  have h2:=(Lib.indexByte_some ho).1
  have:l.contains c=true:=by
   rw[List.contains_iff_mem,List.mem_iff_getElem?];exact⟨o,h2⟩
  rw[this];simp[hc]
theorem zX(s:Y_)(c:UInt8)(x:Int)(hs:s=⟨#[40,41,91,93,123,125,60,62,47,124,46]⟩)(w:W_)(hx:x=c.toNat:=by rfl):
  C_ 96 #[.string s,.int .u8 x] w λe w'=>(∃i:Int,e=.returned (V i)/\decide (i<0)=!(Lx.kF c))/\w'=w:=by
 subst hs hx;refine(Tryz.strings_IndexByte _ _ w).mono ?_;rintro e w' ⟨rfl,rfl⟩;refine⟨⟨_,rfl,?_⟩,rfl⟩;rw[Pj];simp[Lx.kF]
theorem WU(L:Nat)(s:Y_)(a m:Nat)(p e:Int)(w:W_)(h:bu w L s a p e)(hm:s.size<=140737488355328)(ad:m=a+1+Lx.mO 3 s.data.toList (a+1))(ha:a+1<=s.size)(r:Lx.jT)(F:((s.extract (a+1) m).toList==[102,101,110,99,101])=false)(hr:Lx.lim 16 ⟨4,(s.extract (a+1) m).data.toList⟩ (m-a)=r):
  C_ 124 #[.pointer (A_ L 0)] w (bA w L s a p e r):=by
 obtain⟨g1,g2,g3,g4,f1,f2,f3,hL⟩:=eD h;have HM:s.size<=maxLen:=aij
 have H:=I h;clear h;have hle:=Lx.vM 3 s.data.toList (a+1);have ab:s.data.toList.length=s.size:=P9
 rw[ab]at hle;have HD:=I ad;have am:a+1<=m:=Zo
 have ms:m<=s.size:=Zo
 clear ad hle ab;have e1:((a:Int)+1)<=(m:Int):=Zo
 have e2:(0:Int)<=(a:Int)+1:=Zo
 have e3:(m:Int)<=(s.size:Int):=Zo
 go_enter func124,ntmps124;go_wp2_with fail
 refine(rF L s a p e _ 3 _ arC Zo Zo HM).mono ?_;rintro e' w' ⟨rfl,n1,rfl⟩;rw[show((a:Int)+1).toNat=a+1 from by omega,<-HD.out];go_wp2
 go_quiet (fail)
 go_wp2_with fail
 refine(uZ L s a p e _ 4 _ _ (m-a) 16 _ _ r hr TR rfl Zo rfl).mono ?_;rintro e' w' ⟨k,tx,f,t,b,a',p',e2,rfl,hx,ht,ac⟩;obtain⟨q0,q1,q2,q3,z0,z1,z2,z3,hg⟩:=af.QM x_;have HX:=I hx;have ao:=I ht;have fU:=I ac;clear hx ht ac;go_wp2_with fail
 exact Um
theorem WV(L:Nat)(s:Y_)(a m:Nat)(p e:Int)(w:W_)(h:bu w L s a p e)(hm:s.size<=140737488355328)(ad:m=a+1+Lx.mO 3 s.data.toList (a+1))(ha:a+1<=s.size)(r:Lx.jT)(F:((s.extract (a+1) m).toList==[102,101,110,99,101])=true)(hs:s.size<m+2)(hr:Lx.jT.err 0 3=r):
  C_ 124 #[.pointer (A_ L 0)] w (bA w L s a p e r):=by
 obtain⟨g1,g2,g3,g4,f1,f2,f3,hL⟩:=eD h;have HM:s.size<=maxLen:=aij
 have H:=I h;clear h;have hle:=Lx.vM 3 s.data.toList (a+1);have ab:s.data.toList.length=s.size:=P9
 rw[ab]at hle;have HD:=I ad;have am:a+1<=m:=Zo
 have ms:m<=s.size:=Zo
 clear ad hle ab;have e1:((a:Int)+1)<=(m:Int):=Zo
 have e2:(0:Int)<=(a:Int)+1:=Zo
 have e3:(m:Int)<=(s.size:Int):=Zo
 have S1:decide ((s.size:Int)<(m:Int)+2)=true:=WN
 go_enter func124,ntmps124;go_wp2_with fail
 refine(rF L s a p e _ 3 _ arC Zo Zo HM).mono ?_;rintro e' w' ⟨rfl,n1,rfl⟩;rw[show((a:Int)+1).toNat=a+1 from by omega,<-HD.out];go_wp2
 go_quiet (fail)
 go_wp2_with fail
 refine(og L s a p e _ _ 0 3 _ r hr TR rfl rfl).mono ?_;rintro e' w' ⟨k,tx,f,t,b,a',p',e2,rfl,hx,ht,ac⟩;obtain⟨q0,q1,q2,q3,z0,z1,z2,z3,hg⟩:=af.QM x_;have HX:=I hx;have ao:=I ht;have fU:=I ac;clear hx ht ac;go_wp2_with fail
 exact Um
theorem Zv(L:Nat)(s:Y_)(a m:Nat)(p e:Int)(w:W_)(h:bu w L s a p e)(hm:s.size<=140737488355328)(ad:m=a+1+Lx.mO 3 s.data.toList (a+1))(ha:a+1<=s.size)(r:Lx.jT)(F:((s.extract (a+1) m).toList==[102,101,110,99,101])=true)(hs:m+1<s.size)(T1:Lx.kF (s[m]'(awp hs))=false)(hr:Lx.jT.err 0 3=r):
  C_ 124 #[.pointer (A_ L 0)] w (bA w L s a p e r):=by
 obtain⟨g1,g2,g3,g4,f1,f2,f3,hL⟩:=eD h;have HM:s.size<=maxLen:=aij
 have H:=I h;clear h;have hle:=Lx.vM 3 s.data.toList (a+1);have ab:s.data.toList.length=s.size:=P9
 rw[ab]at hle;have HD:=I ad;have am:a+1<=m:=Zo
 have ms:m<=s.size:=Zo
 clear ad hle ab;have e1:((a:Int)+1)<=(m:Int):=Zo
 have e2:(0:Int)<=(a:Int)+1:=Zo
 have e3:(m:Int)<=(s.size:Int):=Zo
 have S1:decide ((s.size:Int)<(m:Int)+2)=false:=WN
 have S2:(m:Int)<(s.size:Int):=Zo
 have S3:(0:Int)<=(m:Int):=Zo
 go_enter func124,ntmps124;go_wp2_with fail
 refine(rF L s a p e _ 3 _ arC Zo Zo HM).mono ?_;rintro e' w' ⟨rfl,n1,rfl⟩;rw[show((a:Int)+1).toNat=a+1 from by omega,<-HD.out];go_wp2
 go_quiet (fail)
 go_wp2_with fail
 refine(zX _ _ _ rfl _).mono ?_;rintro e' w' ⟨⟨i1,rfl,aa⟩,rfl⟩;have ae:decide (i1<0)=true:=by rw[aa,T1];rfl
 clear aa T1;go_wp2_with fail
 refine(og L s a p e _ _ 0 3 _ r hr TR rfl rfl).mono ?_;rintro e' w' ⟨k,tx,f,t,b,a',p',e2,rfl,hx,ht,ac⟩;obtain⟨q0,q1,q2,q3,z0,z1,z2,z3,hg⟩:=af.QM x_;have HX:=I hx;have ao:=I ht;have fU:=I ac;clear hx ht ac;go_wp2_with fail
 exact Um
theorem Zw(L:Nat)(s:Y_)(a m:Nat)(p e:Int)(w:W_)(h:bu w L s a p e)(hm:s.size<=140737488355328)(ad:m=a+1+Lx.mO 3 s.data.toList (a+1))(ha:a+1<=s.size)(r:Lx.jT)(F:((s.extract (a+1) m).toList==[102,101,110,99,101])=true)(hs:m+1<s.size)(T1:Lx.kF (s[m]'(awp hs))=true)(T2:Lx.kF (s[m+1]'hs)=false)(hr:Lx.jT.err 0 3=r):
  C_ 124 #[.pointer (A_ L 0)] w (bA w L s a p e r):=by
 obtain⟨g1,g2,g3,g4,f1,f2,f3,hL⟩:=eD h;have HM:s.size<=maxLen:=aij
 have H:=I h;clear h;have hle:=Lx.vM 3 s.data.toList (a+1);have ab:s.data.toList.length=s.size:=P9
 rw[ab]at hle;have HD:=I ad;have am:a+1<=m:=Zo
 have ms:m<=s.size:=Zo
 clear ad hle ab;have e1:((a:Int)+1)<=(m:Int):=Zo
 have e2:(0:Int)<=(a:Int)+1:=Zo
 have e3:(m:Int)<=(s.size:Int):=Zo
 have S1:decide ((s.size:Int)<(m:Int)+2)=false:=WN
 have S2:(m:Int)<(s.size:Int):=Zo
 have S3:(0:Int)<=(m:Int):=Zo
 have S4:(m:Int)+1<(s.size:Int):=Zo
 go_enter func124,ntmps124;go_wp2_with fail
 refine(rF L s a p e _ 3 _ arC Zo Zo HM).mono ?_;rintro e' w' ⟨rfl,n1,rfl⟩;rw[show((a:Int)+1).toNat=a+1 from by omega,<-HD.out];go_wp2
 go_quiet (fail)
 go_wp2_with fail
 refine(zX _ _ _ rfl _).mono ?_;rintro e' w' ⟨⟨i1,rfl,aa⟩,rfl⟩;have ae:decide (i1<0)=false:=by rw[aa,T1];rfl
 clear aa T1;go_wp2_with fail
 refine(zX _ _ _ rfl _).mono ?_;rintro e' w' ⟨⟨i2,rfl,ak⟩,rfl⟩;have ap:decide (i2<0)=true:=by rw[ak,T2];rfl
 clear ak T2;go_wp2_with fail
 refine(og L s a p e _ _ 0 3 _ r hr TR rfl rfl).mono ?_;rintro e' w' ⟨k,tx,f,t,b,a',p',e2,rfl,hx,ht,ac⟩;obtain⟨q0,q1,q2,q3,z0,z1,z2,z3,hg⟩:=af.QM x_;have HX:=I hx;have ao:=I ht;have fU:=I ac;clear hx ht ac;go_wp2_with fail
 exact Um
theorem WW(L:Nat)(s:Y_)(a m:Nat)(p e:Int)(w:W_)(h:bu w L s a p e)(hm:s.size<=140737488355328)(ad:m=a+1+Lx.mO 3 s.data.toList (a+1))(ha:a+1<=s.size)(r:Lx.jT)(F:((s.extract (a+1) m).toList==[102,101,110,99,101])=true)(hs:m+1<s.size)(T1:Lx.kF (s[m]'(awp hs))=true)(T2:Lx.kF (s[m+1]'hs)=true)(hr:Lx.lim 2 ⟨5,(s.extract m (m+2)).data.toList⟩ (m+2-a)=r):
  C_ 124 #[.pointer (A_ L 0)] w (bA w L s a p e r):=by
 obtain⟨g1,g2,g3,g4,f1,f2,f3,hL⟩:=eD h;have HM:s.size<=maxLen:=aij
 have H:=I h;clear h;have hle:=Lx.vM 3 s.data.toList (a+1);have ab:s.data.toList.length=s.size:=P9
 rw[ab]at hle;have HD:=I ad;have am:a+1<=m:=Zo
 have ms:m<=s.size:=Zo
 clear ad hle ab;have e1:((a:Int)+1)<=(m:Int):=Zo
 have e2:(0:Int)<=(a:Int)+1:=Zo
 have e3:(m:Int)<=(s.size:Int):=Zo
 have S1:decide ((s.size:Int)<(m:Int)+2)=false:=WN
 have S2:(m:Int)<(s.size:Int):=Zo
 have S3:(0:Int)<=(m:Int):=Zo
 have S4:(m:Int)+1<(s.size:Int):=Zo
 have S5:(m:Int)+2<=(s.size:Int):=Zo
 go_enter func124,ntmps124;go_wp2_with fail
 refine(rF L s a p e _ 3 _ arC Zo Zo HM).mono ?_;rintro e' w' ⟨rfl,n1,rfl⟩;rw[show((a:Int)+1).toNat=a+1 from by omega,<-HD.out];go_wp2
 go_quiet (fail)
 go_wp2_with fail
 refine(zX _ _ _ rfl _).mono ?_;rintro e' w' ⟨⟨i1,rfl,aa⟩,rfl⟩;have ae:decide (i1<0)=false:=by rw[aa,T1];rfl
 clear aa T1;go_wp2_with fail
 refine(zX _ _ _ rfl _).mono ?_;rintro e' w' ⟨⟨i2,rfl,ak⟩,rfl⟩;have ap:decide (i2<0)=false:=by rw[ak,T2];rfl
 clear ak T2;go_wp2_with fail
 refine(uZ L s a p e _ 5 _ _ (m+2-a) 2 _ _ r hr TR rfl Zo rfl).mono ?_;rintro e' w' ⟨k,tx,f,t,b,a',p',e2,rfl,hx,ht,ac⟩;obtain⟨q0,q1,q2,q3,z0,z1,z2,z3,hg⟩:=af.QM x_;have HX:=I hx;have ao:=I ht;have fU:=I ac;clear hx ht ac;go_wp2_with fail
 exact Um
end
end Go.Proofs.YtabjglnjjdcfmaaGreatDoor
