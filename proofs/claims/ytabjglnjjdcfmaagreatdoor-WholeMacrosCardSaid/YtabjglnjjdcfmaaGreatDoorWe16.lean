/- Part 16 of 41 of a proof. No condition. -/
import Derived.Defers
import Derived.Recover
import Derived.Laws.Concat
import Derived.Test.YtabjglnjjdcfmaaGreatDoorWe15
import Derived.Test.YtabjglnjjdcfmaaGreatDoorWe6
set_option maxRecDepth 100000
set_option maxHeartbeats 4000000
namespace Go.Proofs.YtabjglnjjdcfmaaGreatDoor
open _root_.List renaming mem_cons->avi,not_mem_nil->avl,length_append->auZ,replicate->avT,length_nil->ava
open _root_.ByteArray renaming toList->avd
open _root_.Go.Proofs.Tryz
section
open Go.RowKit
open Xp (Rs bQ Dq bB aR kz ZG ab5)
open U (E aJ)
def Rv:Rs E->Rs E
 |.bad l2=>.bad l2
 |.ok e l2 c2=>match l2.dropWhile Dq with
  |[]=>.ok e [] c2
  |b::l3=>.bad (b::l3)
theorem aeU{l l1:List UInt8}(h:bB 60 0 (l.dropWhile Dq)=.bad l1):kz l=.bad l1:=by unfold kz;rw[h]
theorem afW{l l1:List UInt8}{u:Unit}{c:Nat}(h:bB 60 0 (l.dropWhile Dq)=.ok u l1 c):kz l=Rv (aR 64 l1 0):=by
 unfold kz;rw[h]
 dsimp only
 cases aR 64 l1 0 with
 |bad l2=>rfl
 |ok e l2 c2=>rfl
theorem acw{e:E}{l2:List UInt8}{c2:Nat}(h:l2.dropWhile Dq=[]):Rv (.ok e l2 c2)=.ok e [] c2:=by unfold Rv;simp only[h]
theorem aaf{e:E}{l2 l3:List UInt8}{b:UInt8}{c2:Nat}(h:l2.dropWhile Dq=b::l3):Rv (.ok e l2 c2)=.bad (b::l3):=by unfold Rv;simp only[h]
attribute [local go_sem] gD stillUpon
theorem acy(S:Y_)(g:Nat)(l:List UInt8)(w:W_)(hS:S.size<=1099511627776)(ab:Xp.ZF (kz l))(ae:Xr S g l 0 w):C_ 37 #[.pointer (A_ g 0)] w λe w'=>XE S g w (kz l) e w':=by
 have jJ:=I ab;have HX:=I ae;have aX:=I ae.lt;have aN:=I (Ox S g hS 64 PD);clear ae ab;have jQ:=I ((M (λ_=>False) w).alloc (.cells Z 62));have jV:=I (af.new w 62 Z);have aa:=I (HX.QH jQ);go_enter func37,ntmps37;go_wp2_with fail
 refine(vW S g 0 l _ hS aa).mono ?_;rintro _ w1 ⟨rfl,ht,hx⟩;have aF:=aX.out;have je:=I hx;have ay:=I as5;have aL:=I auL;clear ht hx aa jQ jV HX;generalize decide ((l.dropWhile Dq).length<l.length)=z0;go_wp2_with fail
 have afX:=I (show C_ 73 #[.pointer (A_ g 0),.int .u8 60] w1 λe w'=>XU S g w1 (bB 60 0 (l.dropWhile Dq)) e w' from qY S g 0 60 _ w1 hS je);refine afX.mono ?_;intro e w2 he;cases hr:bB 60 0 (l.dropWhile Dq)with
 |bad l3=>
  exact Xp.sF jJ (aeU hr)
 |ok u l1 c1=>
 have hc1:=uF hr;rw[hc1]at hr;have ad:=I (afW hr);rw[hr]at he;obtain⟨rfl,ht,hx⟩:=he;have p8:=I hx;have ao:=I (ay.trans ht);have ar:=I (ht.QN aL λh=>by omega);clear ht hx hr hc1 afX je ay aL c1;go_wp2_with fail
 cases hr:aR 64 l1 0 with
 |bad l3=>
  exact Xp.sF jJ (by rw[ad.out,hr];rfl)
 |ok x l2 c2=>
 have aj:=I (aN 1 l1 0 w2 Pf ⟨_,_,_,hr⟩ p8);refine aj.mono ?_;intro e w3 he;have ah:=I hr;obtain⟨en,lF,qm,uh⟩:=x;rw[hr]at he;obtain⟨ea,ek,rfl,ht,hst,hx⟩:=he;obtain⟨Aa,ca,Ht⟩:=hst.now.1.slice;obtain⟨Ab,cb,jW⟩:=hst.now.2.1.slice;simp only[E.Qx,E.Zn]at Ht jW;subst Ht jW;unfold ev;simp only[E.name,E.QG];have p9:=I hx;have aw:=I (ao.trans ht);have an:=I (ht.QN ar λh=>by omega);have hr2:=ar.lt;have zh:=I (show dz (λk=>k<w.heap.size+1) w3 λW=>jd W (.mk en lF qm uh) (.slice Aa lF.length ca) (.slice Ab qm.length cb)from hst.mono λi _ hi=>by omega);clear ht hst hx hr aj p8 ao ar hr2;go_wp2_with fail
 have nU:=I (aw.alloc (.cells #[S_ en,.slice Aa lF.length ca,.slice Ab qm.length cb,S_ uh] 62));have tZ:=I (p9.QH ((M _ w3).alloc (.cells #[S_ en,.slice Aa lF.length ca,.slice Ab qm.length cb,S_ uh] 62)));have ac:=I (an.alloc (.cells #[S_ en,.slice Aa lF.length ca,.slice Ab qm.length cb,S_ uh] 62));have iB:=I (af.new w3 62 #[S_ en,.slice Aa lF.length ca,.slice Ab qm.length cb,S_ uh]);have Kz:=I (zh.QH ((M _ w3).alloc (.cells #[S_ en,.slice Aa lF.length ca,.slice Ab qm.length cb,S_ uh] 62)));generalize (w3.alloc (.cells #[S_ en,.slice Aa lF.length ca,.slice Ab qm.length cb,S_ uh] 62))=W4 at nU tZ ac iB Kz|-;obtain⟨E3,ak⟩:∃k,k=w3.heap.size:=⟨_,rfl⟩;have ai:w.heap.size<E3:=by have:=an.lt;omega
 rw[<-ak]at iB|-;clear aw p9 an zh ak;refine(vW S g c2 l2 _ hS tZ).mono ?_;rintro _ w5 ⟨rfl,ht,hx⟩;have iR:=I hx;have iW:=I (nU.trans ht);have CS:=I (ht.QN ac λh=>by omega);have eO:=I (ht.QN iB λh=>by omega);have afY:=I (Kz.step ht arO λi _ hi=>hi);clear ht hx tZ nU ac iB Kz;generalize decide ((l2.dropWhile Dq).length<l2.length)=z1;obtain⟨q0,q1,q2,_,_,_,hg5⟩:=fM iR.QN;have hle:=iR.len;cases hd:l2.dropWhile Dq with
 |cons b l3=>
  exact Xp.sF jJ (by rw[ad.out,ah.out];exact aaf hd)
 |nil=>
  have dB:=I (show kz l=.ok (.mk en lF qm uh) [] c2 by rw[ad.out,ah.out];exact acw hd);have iJ:=I (show Xr S g [] c2 w5 by rw[<-hd];exact iR);rw[hd]at q1;rw[show S.size-([]:List UInt8).length=S.size from rfl]at q1;have d1:decide ((S.size:Int)<(S.size:Int))=false:=dF Zo;have jo:decide (S.size<S.size)=false:=dF Zo;go_wp2
  go_quiet (fail)
  refine bK (λW=>ag w5 W) aes ?_;rintro w6 dK;have oh:=I (iJ.QH dK);have jy:=I akP;have JO:=I (dK.QN CS λh=>h);have vv:=I asZ;have tq:=I (afY.QH dK);clear dK q0 q1 q2 d1 jo hd iR iW CS eO afY iJ;obtain⟨e0,e1,e2,e3,_,_,_,_,_⟩:=af.QM vv;obtain⟨_,_,_,_,z0,z1,z2,z3,ax⟩:=af.QM JO;obtain⟨t0,t1,t2,t3,_,_,_,_,_⟩:=af.QM (JO.gH (S_ en) (.slice Aa lF.length ca) (.slice Ab qm.length cb) (S_ uh));simp only[aO]at t0 t1 t2 t3;have fA:=(M (λk=>k=w.heap.size) w6).aO (g:=w.heap.size) Wh (S_ en) (.slice Aa lF.length ca) (.slice Ab qm.length cb) (S_ uh)
  have ZZ:=I (show XE S g w (.ok (.mk en lF qm uh) [] c2) (.returned (.agg #[S_ en,.slice Aa lF.length ca,.slice Ab qm.length cb,S_ uh])) (aO w6 w.heap.size (S_ en) (.slice Aa lF.length ca) (.slice Ab qm.length cb) (S_ uh))from
   ⟨_,_,rfl,jy.aO ET _ _ _ _,tq.step fA arO arO,oh.move fA Zo⟩)
  clear fA;go_wp2
  refine bodyPost_ret (v:=.agg #[S_ en,.slice Aa lF.length ca,.slice Ab qm.length cb,S_ uh]) (by simp[results,results37,go_sem,t0,t1,t2,t3]) rfl ?_;rw[dB.out];exact ZZ
theorem UJ(pe pa pr pv:Addr)(w:W_):
  CallsD Tryz.prog 36 #[.pointer (some pe),.pointer (some pa),.pointer (some pr),.pointer (some pv)] .returning w λe u' w'=>
   e=.returned (.tuple #[])/\u'=.returning/\w'=w:=by
 refine callsD_of_wpS func36 rfl λc₀ cs hu=>?_
 apply wpS_seq
 apply wpS_region
 simp[wpOpsS,go_sem,recoverD,hu,ntmps36,Exit.thenS]
 refine wpS_of_wp ?_;show Code.wp Tryz.prog _ _ {tmps:=#[.pointer (some pe),.pointer (some pa),.pointer (some pr),.pointer (some pv),undef,undef,undef,.nilIface,undef,undef,undef,undef,undef,undef,undef,undef,undef,undef,undef],defers:=[]} w;go_wp2_with fail
 cases c₀;simp_all [bodyPostS,results,results36]
theorem A7{w:W_}{n:Nat}(hn:w.heap.size=n)(t:TypeId)(cs:Array Value):af (w.alloc (.cells cs t)) n t cs:=hn▸af.new w t cs
theorem XF(S:Y_)(x:E)(l9:List UInt8)(c9:Nat)(w:W_)(hS:S.size<=1099511627776)(hr:kz S.data.toList=.ok x l9 c9):C_ 20 #[.string S] w λe w'=>∃va vk,e=.returned (.tuple #[ev x va vk,V 0,V 0])/\Made w w' λW=>jd W x va vk:=by
 have ah:=I hr;clear hr;have ak:∀(fn:Fn) (first cap:Array Value) (w:W_),(Instr.makeFunc fn first cap).run Tryz.prog w=.ok (.func fn first cap) w:=λ_ _ _ _=>rfl
 have F7:=I (show af (((((w.alloc (.cells Z 62)).alloc (.cells #[V 0] 3)).alloc (.cells #[V 0] 26)).alloc (.cells #[.string S,V 0,V 0] 108)).alloc (.cells #[.pointer (A_ (w.heap.size+1+1+1) 0)] 106)) w.heap.size 62 Z from((((af.new w _ _).alloc _).alloc _).alloc _).alloc _);have ad:=I (show af (((((w.alloc (.cells Z 62)).alloc (.cells #[V 0] 3)).alloc (.cells #[V 0] 26)).alloc (.cells #[.string S,V 0,V 0] 108)).alloc (.cells #[.pointer (A_ (w.heap.size+1+1+1) 0)] 106)) (w.heap.size+1) 3 #[V 0]from(((A7 P9 _ _).alloc _).alloc _).alloc _);have jV:=I (show af (((((w.alloc (.cells Z 62)).alloc (.cells #[V 0] 3)).alloc (.cells #[V 0] 26)).alloc (.cells #[.string S,V 0,V 0] 108)).alloc (.cells #[.pointer (A_ (w.heap.size+1+1+1) 0)] 106)) (w.heap.size+1+1) 26 #[V 0]from((A7 P9 _ _).alloc _).alloc _);have ac:=I (show af (((((w.alloc (.cells Z 62)).alloc (.cells #[V 0] 3)).alloc (.cells #[V 0] 26)).alloc (.cells #[.string S,V 0,V 0] 108)).alloc (.cells #[.pointer (A_ (w.heap.size+1+1+1) 0)] 106)) (w.heap.size+1+1+1) 108 #[.string S,V 0,V 0]from(A7 P9 _ _).alloc _);have ae:=I (show af (((((w.alloc (.cells Z 62)).alloc (.cells #[V 0] 3)).alloc (.cells #[V 0] 26)).alloc (.cells #[.string S,V 0,V 0] 108)).alloc (.cells #[.pointer (A_ (w.heap.size+1+1+1) 0)] 106)) (w.heap.size+1+1+1+1) 106 #[.pointer (A_ (w.heap.size+1+1+1) 0)]from A7 P9 _ _);have jQ:=I (show ag w (((((w.alloc (.cells Z 62)).alloc (.cells #[V 0] 3)).alloc (.cells #[V 0] 26)).alloc (.cells #[.string S,V 0,V 0] 108)).alloc (.cells #[.pointer (A_ (w.heap.size+1+1+1) 0)] 106))from(((((M _ w).alloc _).alloc _).alloc _).alloc _).alloc _)
 go_enter_defers func20,ntmps20
 go_wp2_with fail
 generalize (((((w.alloc (.cells Z 62)).alloc (.cells #[V 0] 3)).alloc (.cells #[V 0] 26)).alloc (.cells #[.string S,V 0,V 0] 108)).alloc (.cells #[.pointer (A_ (w.heap.size+1+1+1) 0)] 106))=w5 at F7 ad jV ac ae jQ|-;have aa:=I (show Xr S (w.heap.size+1+1+1) S.data.toList 0 w5 from⟨by rw[show S.size-S.data.toList.length=0 by simp];exact ac,bQ.refl _⟩);clear ac;refine(acy S (w.heap.size+1+1+1) S.data.toList w5 hS ⟨_,_,_,ah⟩ aa).mono ?_;intro e w6 he;obtain⟨en,lF,qm,uh⟩:=x;rw[ah.out]at he;obtain⟨ea,ek,rfl,ht,hst,hx⟩:=he;obtain⟨Aa,ca,Ht⟩:=hst.now.1.slice;obtain⟨Ab,cb,jW⟩:=hst.now.2.1.slice;simp only[E.Qx,E.Zn]at Ht jW;subst Ht jW;unfold ev;simp only[E.name,E.QG];have ai:=I (ht.QN F7 λh=>by omega);have ab:=I (ht.QN ad λh=>by omega);have Ei:=I auL;have fI:=I (jQ.trans' ht λk hk=>.inr Zo);have nV:=I (show dz (λk=>k<w5.heap.size) w6 λW=>jd W (.mk en lF qm uh) (.slice Aa lF.length ca) (.slice Ab qm.length cb)from hst);have hsz:=ae.lt;clear ht hst hx F7 ad jV ae jQ aa;obtain⟨e0,e1,e2,e3,y0,y1,y2,y3,aB⟩:=af.QM ai;have a0:w6.cell? (B_ (w.heap.size+1) 0)=some (V 0):=ab.cell 0;have a1:=ab.frozen 0;have r0:w6.cell? (B_ (w.heap.size+1+1) 0)=some (V 0):=Ei.cell 0;have r1:=Ei.frozen 0;go_wp2_with fail
 refine leaves_cons (f:=36) (args:=#[.pointer (A_ w.heap.size 0),.pointer (A_ (w.heap.size+1) 0),.pointer (A_ (w.heap.size+1+1) 0),.pointer (A_ (w.heap.size+1+1+1+1) 0)]) P9 (by simp[go_sem]) ?_;refine(UJ _ _ _ _ _).mono ?_;rintro e u' w7 ⟨rfl,rfl,hw⟩;clear e0 e1 e2 e3 y0 y1 y2 y3 aB a0 a1 r0 r1;replace hw:w7=((aO w6 w.heap.size (S_ en) (.slice Aa lF.length ca) (.slice Ab qm.length cb) (S_ uh)).setCell (B_ (w.heap.size+1) 0) (V 0)).setCell (B_ (w.heap.size+1+1) 0) (V 0):=hw;have hE7:af w7 w.heap.size 62 #[S_ en,.slice Aa lF.length ca,.slice Ab qm.length cb,S_ uh]:=by rw[hw];exact((ai.gH _ _ _ _).far (p:=B_ (w.heap.size+1) 0) (by show w.heap.size≠w.heap.size+1;omega) _).far (p:=B_ (w.heap.size+1+1) 0) (by show w.heap.size≠w.heap.size+1+1;omega) _
 have hA7:af w7 (w.heap.size+1) 3 #[V 0]:=by rw[hw];exact((ab.uJ Zo _ _ _ _).put 0 _).far (p:=B_ (w.heap.size+1+1) 0) (by show w.heap.size+1≠w.heap.size+1+1;omega) _
 have hR7:af w7 (w.heap.size+1+1) 26 #[V 0]:=by rw[hw];exact(((Ei.uJ Zo _ _ _ _).far (p:=B_ (w.heap.size+1) 0) (by show w.heap.size+1+1≠w.heap.size+1;omega) _).put 0 _)
 have aj:Touch (λk=>k=w.heap.size\/k=w.heap.size+1\/k=w.heap.size+1+1) w6 w7:=by rw[hw];exact(((M (λk=>k=w.heap.size\/k=w.heap.size+1\/k=w.heap.size+1+1) w6).aO auk _ _ _ _).setCell (p:=B_ (w.heap.size+1) 0) (.inl (.inr Wh)) _).setCell (p:=B_ (w.heap.size+1+1) 0) (.inl (.inr atG)) _
 clear hw ai ab Ei;obtain⟨e0,e1,e2,e3,_⟩:=af.QM hE7;have a0:w7.cell? (B_ (w.heap.size+1) 0)=some (V 0):=hA7.cell 0;have r0:w7.cell? (B_ (w.heap.size+1+1) 0)=some (V 0):=hR7.cell 0;refine⟨.tuple #[.agg #[S_ en,.slice Aa lF.length ca,.slice Ab qm.length cb,S_ uh],V 0,V 0],by simp[results,results20,go_sem,e0,e1,e2,e3,a0,r0],?_⟩;exact⟨.slice Aa lF.length ca,.slice Ab qm.length cb,rfl,fI.trans' aj λk hk=>.inr Zo,nV.step aj (λi _ hi=>by show i<w5.heap.size;omega) λi _ hi=>by show i<w5.heap.size;omega⟩
end
section
open Go.RowKit
abbrev Low(W0 w:W_):Prop:=Touch (λk=>W0.heap.size<=k) W0 w
theorem afZ{W0:W_}{q:Addr}{v:Value}(h:W0.cell? q=some v):¬W0.heap.size<=q.block:=by
 have:=bL (a:=q) (v:=v) h;omega
theorem Low.cell{W0 w:W_}(hl:Low W0 w){q:Addr}{v:Value}(h:W0.cell? q=some v):w.cell? q=some v:=Touch.cell hl h (afZ h)
theorem aT{w w':W_}{a b c d:Addr}{x y z u:Value}(h:Low w w')(h0:w.cell? a=some x)(h1:w.cell? b=some y)(h2:w.cell? c=some z)(h3:w.cell? d=some u):
  w'.cell? a=some x/\w'.cell? b=some y/\w'.cell? c=some z/\w'.cell? d=some u:=⟨h.cell h0,h.cell h1,h.cell h2,h.cell h3⟩
theorem Low.QH{W0 w w':W_}(hl:Low W0 w)(hf:ag w w'):Low W0 w':=hl.trans' hf λ_ h=>h.elim
abbrev nv(n:Tr.Nd)(sl:Value):Value:=.agg #[V n.QI,S_ n.QG,V n.ah,sl]
theorem fe{w:W_}{B e size n g:Nat}{v:Value}{xs:List Value}(h:w.ownsRow B e size v n xs)(hg:v.ownBlock=some g):B<=g/\∃cur,w.heap[g]?=some (.cells cur e (0,0)):=by
 rcases h.2 with⟨h1,_⟩|⟨g',cap,cur,h1,h2,h3,_⟩
 .rw[h1]at hg;cases hg
 .rw[h1]at hg
  simp only[Value.ownBlock,Option.some.injEq]at hg;subst hg;exact⟨h2,cur,h3⟩
end
section
open Go.RowKit
open Tr (Nd)
theorem aag:(Tryz.prog.info? 31).map (λi=>(i.zero,i.size,i.bytes))=some (some (.agg ZN),4,56):=Pg
def nW(w w':W_)(n:Nd)(v:Value):Prop:=∃sl,v=nv n sl/\ag w w'/\n.QG.length<=maxLen/\dz (λk=>k<w.heap.size) w' λW=>aD W n.Qx sl
theorem gQ.one{W:W_}{n:Nd}{sl:Value}(h:aD W n.Qx sl)(ht:n.QG.length<=maxLen):gQ W [n] [V n.QI,S_ n.QG,V n.ah,sl]:=⟨sl,[],rfl,h,ht,rfl⟩
def ja(B:Nat)(w:W_)(ns:List Nd)(v:Value):Prop:=B<=w.heap.size/\∃cs,w.ownsRow B 31 4 v ns.length cs/\dz (λk=>v.ownBlock=some k\/k<B) w λW=>gQ W ns cs
theorem ja.nil{B:Nat}{w:W_}(hB:B<=w.heap.size):ja B w [] (N_):=⟨hB,[],World.ownsRow_nil _ _ _ _,λ_ _=>rfl⟩
theorem ja.pY{B:Nat}{w:W_}{ns:List Nd}{v:Value}(h:ja B w ns v):∀k,v.ownBlock=some k->B<=k/\k<w.heap.size:=λk hk=>by
 obtain⟨_,cs,h1,_⟩:=h;exact h1.lt k hk
theorem ja.mv{B:Nat}{w w1:W_}{ns:List Nd}{v:Value}{S:Nat->Prop}(h:ja B w ns v)(ht:Touch S w w1)(hS:∀k,S k->k<w.heap.size->k<B):ja B w1 ns v:=by
 exact yg
theorem ja.QH{B:Nat}{w w1:W_}{ns:List Nd}{v:Value}(h:ja B w ns v)(ht:ag w w1):ja B w1 ns v:=h.mv ht λ_ h=>h.elim
theorem ja.rep{B:Nat}{w:W_}{ns:List Nd}{v:Value}(h:ja B w ns v):aD w ns v:=by
 obtain⟨_,cs,h1,h2⟩:=h;exact h2.now.own h1
theorem ja.done{B:Nat}{w:W_}{ns:List Nd}{v:Value}(h:ja B w ns v):dz (λk=>k<B) w λW=>aD W ns v:=λ_ hW=>(h.mv hW λ_ h _=>h).rep
section
variable {w:World} {ops:Array Oper} {rest:List Oper} {o:Oper} {a:Act} {Q:Exit→Act→World→Prop}
theorem qM(hgd:o.guard=none)(s x:Operand)
  (ho:o.op=.call {callee:=.builtin .append,args:=#[s,x],argTypes:=#[29,29]})
  {B n g:Nat} {ns:List Nd} {v:Value} (h:ja B w ns v) (hn:ns.length=n) (hs:a.eval s=v) (m:Nd) {sl:Value} (hb:af w g 31 #[V m.QI,S_ m.QG,V m.ah,sl]) (hx:a.eval x=.slice (A_ g 0) 1 1)
  (w0:Nat) (hB:B<=w0) (hown:∀k,v.ownBlock=some k->k<w0) (au:m.QG.length<=maxLen) (FZ:dz (λk=>k<w0) w λW=>aD W m.Qx sl) (hlen:n<2^40)
  (hK:∀A cp w',ja B w' (ns++[m]) (.slice A (n+1) cp)->Touch (λk=>v.ownBlock=some k) w w'->((Value.slice A (n+1) cp).ownBlock=v.ownBlock\/(Value.slice A (n+1) cp).ownBlock=some w.heap.size)->wpList Tryz.prog ops Q rest (a.put o.dst (.slice A (n+1) cp)) w'):wpList Tryz.prog ops Q (o::rest) a w:=by
 subst hn;obtain⟨ac,cs,h1,h2⟩:=h;obtain⟨i,hi,hz0,hz1,hz2⟩:=info_parts aag;have hv:=FZ.now
 have h3:∀u∈[V m.QI,S_ m.QG,V m.ah,sl],u.oneCell'=true:=by
  intro u hu;simp only[avi,avl,or_false]at hu
  rcases hu with rfl|rfl|rfl|rfl
  .rfl
  .rfl
  .rfl
  .exact hv.oneCell
 refine iL _ hgd s x 29 ho B 31 i _ 4 56 underlying29 hi hz0 hz1 hz2 rfl Pf v ns.length cs hs h1 _ 1 _ hx asR h3 vG Zo ac λv' w' ho' hgr hv'=>?_
 obtain⟨A,cp,rfl⟩:=mK ho';have ht:Touch (λk=>v.ownBlock=some k) w w':=Touch.grown afD hgr λk hk=>.inl hk
 refine hK A cp w' ⟨Nat.le_trans ac hgr.size,_,by rw[auZ];exact ho',?_⟩ ht hv'
 have hS:∀i,i<w.heap.size->((Value.slice A (ns.length+1) cp).ownBlock=some i\/i<B)->(v.ownBlock=some i\/i<B):=λi hi hs=>by
  rcases hs with hs|hs
  .rcases hv' with h6|h6<;>rw[h6]at hs
   .exact .inl hs
   .cases hs;omega
  .exact .inr hs
 refine((h2.step ht asy hS).and (FZ.step ht (λi hi hs=>hown i hs) λi hi hs=>?_)).imp λW ⟨h6,h7⟩=>h6.append (gQ.one h7 au)
 rcases hS i hi hs with h6|h6
 .exact hown i h6
 .omega
end
end
namespace U
open Tr (Nd)
def nO(n:QJ):Int:=if n=yt then 2 else if n=yu then 2 else if n=CU then 3 else if n=qG then 4 else 0
def fJ:aJ->QJ->QJ
 |[],_=>[]
 |x::l,nm=>if x.1=nm then x.2 else fJ l nm
def kK:Nd:=.mk 1 [] 0 []
def Jf:Nd:=.mk 0 [] 0 []
def nX(k:Int)(t:QJ)(s:Nat):Bool:=Tr.valid (.mk 1 [] 0 [.mk k t 0 (avT s kK)])
def L8(nm:QJ)(n:Nat):Bool:=
 if nm=gU then true else if nm=aj then true else if nm=bq then true
 else if nm=bE then decide (1<=n)
 else if nm=dU then decide (1<=n)&&decide (n<=16)
 else if nm=lq then decide (n=2)else if nm=fZ then decide (n=2)else if nm=mW then decide (n=2)else if nm=mX then decide (n=2)
 else if nm=gN then decide (n=3)
 else if nm=fV then decide (n=1)else if nm=bI then decide (n=1)else if nm=aV then decide (n=1)
 else false
def nQ(nm:QJ):Nat:=if nm=bI then 1 else if nm=aV then 2 else 0
def XG(nm:QJ)(a:aJ):Bool:=
 if nm=bI then nX 10 (fJ a ji) 1
 else if nm=aV then decide ((fJ a qH).length=1)&&decide ((fJ a nR).length=1)&&nX 11 (fJ a qH++fJ a nR) 1
 else true
def lD:E->Bool
 |.mk n a ks t=>
  if nO n≠0 then(if n=yt then qX t else if n=yu then !qX t else true)&&a.isEmpty&&ks.isEmpty&&nX (nO n) t 0
  else t.isEmpty&&L8 n ks.length&&XG n a&&decide (a.length=nQ n)
def Ff:E->E->Bool
 |.mk n _ ks _,.mk m _ ls _=>
  if n=gU\/n=aj\/n=bq then !(decide (m=gU)||decide (m=aj)||decide (m=bq)||decide (m=dU))
  else if n=bE then decide (m=dU)&&(match ks with|.mk _ _ js _::_=>decide (ls.length=js.length)|[]=>false)
  else if n=dU then decide (m=bq)
  else decide (m=aj)
mutual
def oq:E->Bool
 |.mk n a ks t=>lD (.mk n a ks t)&&L9 (.mk n a ks t) ks
def L9(p:E):List E->Bool
 |[]=>true
 |x::xs=>Ff p x&&oq x&&L9 p xs
end
mutual
def vis:Bool->Nat->E->Bool×Nat
 |adm,k,.mk n a ks t=>if adm&&lD (.mk n a ks t)then af0 (.mk n a ks t) (k+1) ks else(false,k+1)
def af0:E->Nat->List E->Bool×Nat
 |_,k,[]=>(true,k)
 |p,k,x::xs=>match vis (Ff p x) k x with
  |(true,k')=>af0 p k' xs
  |(false,k')=>(false,k')
end
theorem uj(e:E):oq e=(lD e&&L9 e e.Qx):=by cases e;rw[oq];rfl
theorem vY(p:E)(l:List E):L9 p l=l.all λx=>Ff p x&&oq x:=by
 induction l with
 |nil=>rw[L9];rfl
 |cons x l ih=>rw[L9,ih,List.all_cons]
def aah(e:E):Int×Bool:=if(vis (decide (e.name=gU)) 0 e).1 then(0,false)else(((vis (decide (e.name=gU)) 0 e).2:Int)-1,true)
def Rw(n:QJ):Int:=if n=lq then 5 else if n=mW then 7 else if n=mX then 8 else if n=gN then 9 else 0
def mkN(n:QJ)(a:aJ)(t:QJ)(rs cs:List Nd)(c:Nat):Nd:=
 if nO n≠0 then .mk (nO n) t 0 []
 else if n=fV then .mk 6 [] 0 (kK::rs.take 1)
 else if n=fZ then .mk 6 [] 0 ((rs.drop 1).take 1++rs.take 1)
 else if n=bI then .mk 10 (fJ a ji) 0 (rs.take 1)
 else if n=aV then .mk 11 (fJ a qH++fJ a nR) 0 (rs.take 1)
 else if n=bE then .mk 12 [] c cs
 else .mk (Rw n) [] 0 rs
def wT:List E->Nat
 |.mk _ _ ks _::_=>ks.length
 |[]=>0
mutual
def dX:E->Nd
 |.mk n a ks t=>mkN n a t (iN ks) (jL ks) (wT ks)
def bN:List E->List Nd
 |[]=>[]
 |x::xs=>dX x::bN xs
def iN:List E->List Nd
 |[]=>[]
 |.mk _ _ ks _::xs=>.mk 1 [] 0 (bN ks)::iN xs
def jL:List E->List Nd
 |[]=>[]
 |.mk _ _ ks _::xs=>iN ks++jL xs
end
def eG(e:E):Nd:=.mk 1 [] 0 (bN e.Qx)
theorem zi(e:E):dX e=mkN e.name e.Zn e.QG (iN e.Qx) (jL e.Qx) (wT e.Qx):=by cases e;rw[dX];rfl
theorem Fg(l:List E):bN l=l.map dX:=by
 induction l with
 |nil=>rw[bN];rfl
 |cons x l ih=>rw[bN,ih];rfl
theorem sK(l:List E):iN l=l.map eG:=by
 induction l with
 |nil=>rw[iN];rfl
 |cons x l ih=>cases x;rw[iN,ih];rfl
theorem Fh(l:List E):jL l=l.flatMap λx=>iN x.Qx:=by
 induction l with
 |nil=>rw[jL];rfl
 |cons x l ih=>cases x;rw[jL,ih,List.flatMap_cons];rfl
def XH(e:E):Nd×Int×Int:=if valid e then(if(aah e).2 then(Jf,(aah e).1,19)else if Tr.valid (eG e)then(eG e,0,0)else(Jf,0,6))else(Jf,0,1)
end U
section
open Go.RowKit
open Tr (Nd)
open U (E aJ nO fJ)
theorem Ad(n:List UInt8):nO n=if(n==([109,105]:List UInt8))=true then 2 else if(n==([109,111]:List UInt8))=true then 2 else if(n==([109,110]:List UInt8))=true then 3 else if(n==([109,116,101,120,116]:List UInt8))=true then 4 else 0:=by
 unfold nO;simp only[beq_iff_eq,U.yt,U.yu,U.CU,U.qG];rfl
theorem Rx(n:List UInt8)(w:W_):C_ 116 #[S_ n] w λe w'=>e=.returned (V (nO n))/\w'=w:=by
 go_enter func116,ntmps116;cases h1:(n==([109,105]:List UInt8))with
 |false=>
  have QK:((⟨n.toArray⟩:Y_)==(⟨#[109,105]⟩:Y_))=false:=by rw[bS];exact h1
  have h1t:((⟨n.toArray⟩:Y_) !=(⟨#[109,105]⟩:Y_))=true:=by rw[bne,QK];rfl
  have h1l:(avd (⟨n.toArray⟩:Y_)==[109,105])=false:=by rw[ByteArray.toList_eq];exact h1
  cases h2:(n==([109,111]:List UInt8))with
  |false=>
   have Qr:((⟨n.toArray⟩:Y_)==(⟨#[109,111]⟩:Y_))=false:=aty
   have ab:((⟨n.toArray⟩:Y_) !=(⟨#[109,111]⟩:Y_))=true:=atM
   have h2l:(avd (⟨n.toArray⟩:Y_)==[109,111])=false:=by rw[ByteArray.toList_eq];exact h2
   cases h3:(n==([109,110]:List UInt8))with
   |false=>
    have aa:((⟨n.toArray⟩:Y_)==(⟨#[109,110]⟩:Y_))=false:=by rw[bS];exact h3
    have h3t:((⟨n.toArray⟩:Y_) !=(⟨#[109,110]⟩:Y_))=true:=by rw[bne,aa];rfl
    have h3l:(avd (⟨n.toArray⟩:Y_)==[109,110])=false:=by rw[ByteArray.toList_eq];exact h3
    cases h4:(n==([109,116,101,120,116]:List UInt8))with
    |false=>
     have QO:((⟨n.toArray⟩:Y_)==(⟨#[109,116,101,120,116]⟩:Y_))=false:=by rw[bS];exact h4
     have h4t:((⟨n.toArray⟩:Y_) !=(⟨#[109,116,101,120,116]⟩:Y_))=true:=by rw[bne,QO];rfl
     have h4l:(avd (⟨n.toArray⟩:Y_)==[109,116,101,120,116])=false:=by rw[ByteArray.toList_eq];exact h4
     go_wp2
     go_ret;exact⟨show _=Ending.returned (V (nO n))from by rw[Ad];simp only[*]<;>rfl,rfl⟩
    |true=>
     have QO:((⟨n.toArray⟩:Y_)==(⟨#[109,116,101,120,116]⟩:Y_))=true:=by rw[bS];exact h4
     have h4t:((⟨n.toArray⟩:Y_) !=(⟨#[109,116,101,120,116]⟩:Y_))=false:=by rw[bne,QO];rfl
     have h4l:(avd (⟨n.toArray⟩:Y_)==[109,116,101,120,116])=true:=by rw[ByteArray.toList_eq];exact h4
     go_wp2
     go_ret;exact⟨show _=Ending.returned (V (nO n))from by rw[Ad];simp only[*]<;>rfl,rfl⟩
   |true=>
    have aa:((⟨n.toArray⟩:Y_)==(⟨#[109,110]⟩:Y_))=true:=by rw[bS];exact h3
    have h3t:((⟨n.toArray⟩:Y_) !=(⟨#[109,110]⟩:Y_))=false:=by rw[bne,aa];rfl
    have h3l:(avd (⟨n.toArray⟩:Y_)==[109,110])=true:=by rw[ByteArray.toList_eq];exact h3
    go_wp2
    go_ret;exact⟨show _=Ending.returned (V (nO n))from by rw[Ad];simp only[*]<;>rfl,rfl⟩
  |true=>
   have Qr:((⟨n.toArray⟩:Y_)==(⟨#[109,111]⟩:Y_))=true:=aty
   have ab:((⟨n.toArray⟩:Y_) !=(⟨#[109,111]⟩:Y_))=false:=atM
   have h2l:(avd (⟨n.toArray⟩:Y_)==[109,111])=true:=by rw[ByteArray.toList_eq];exact h2
   go_wp2
   go_ret;exact⟨show _=Ending.returned (V (nO n))from by rw[Ad];simp only[*]<;>rfl,rfl⟩
 |true=>
  have QK:((⟨n.toArray⟩:Y_)==(⟨#[109,105]⟩:Y_))=true:=by rw[bS];exact h1
  have h1t:((⟨n.toArray⟩:Y_) !=(⟨#[109,105]⟩:Y_))=false:=by rw[bne,QK];rfl
  have h1l:(avd (⟨n.toArray⟩:Y_)==[109,105])=true:=by rw[ByteArray.toList_eq];exact h1
  go_wp2
  go_ret;exact⟨show _=Ending.returned (V (nO n))from by rw[Ad];simp only[*]<;>rfl,rfl⟩
theorem uG(n:List UInt8)(k:Int)(h:nO n=k)(w:W_):C_ 116 #[S_ n] w λe w'=>e=.returned (V k)/\w'=w:=h▸Rx n w
theorem Ry(t:List UInt8)(w:W_):C_ 102 #[S_ t] w λe w'=>e=.returned (.bool (U.qX t))/\w'=w:=Dz ⟨t.toArray⟩ w
theorem Pt(t:List UInt8)(w:W_):C_ 102 #[S_ t] w λe w'=>e=.returned (.bool (U.qX t))/\ag w w':=
 (Ry t w).mono λ_ _ h=>⟨h.1,by rw[h.2];exact M _ _⟩
theorem XI(a:aJ)(nm:List UInt8)(j:Nat)(h:j<a.length)(hn:(a.take j).any (λx=>x.1==nm)=false):(a[j].1=nm->fJ a nm=a[j].2)/\(a[j].1≠nm->(a.take (j+1)).any (λx=>x.1==nm)=false):=by
 induction a generalizing j with
 |nil=>simp at h
 |cons x a ih=>
  cases j with
  |zero=>
   refine⟨λhx=>?_,λhx=>?_⟩
   .rw[fJ,if_pos (by simpa using hx)];rfl
   .simpa using hx
  |succ j=>
   simp only[List.take_succ_cons,List.any_cons,Bool.or_eq_false_iff,List.getElem_cons_succ]at hn|-;have:=ih j aiu hn.2;refine⟨λhx=>?_,λhx=>⟨hn.1,this.2 hx⟩⟩;rw[fJ,if_neg (by simpa using hn.1)];exact this.1 hx
theorem XJ(a:aJ)(nm:List UInt8)(hn:a.any (λx=>x.1==nm)=false):fJ a nm=[]:=by
 induction a with
 |nil=>rfl
 |cons x a ih=>
  simp only[List.any_cons,Bool.or_eq_false_iff]at hn;rw[fJ,if_neg (by simpa using hn.1)];exact ih hn.2
theorem zl(e:E)(nm:List UInt8)(g o:Nat)(va vk:Value)(w:W_)(he:gZ w g o e va vk):C_ 118 #[.pointer (A_ g o),S_ nm] w λx w'=>x=.returned (S_ (fJ e.Zn nm))/\ag w w':=by
 obtain⟨n,Gg,ks,t⟩:=e;obtain⟨A,ca,aa⟩:=he.2.2.2.2.2.1.slice;replace aa:va=.slice A Gg.length ca:=aa;subst aa;have aQ:Gg.length<=maxLen:=atY
 unfold maxLen at aQ;have HA:=I (show gJ w Gg _ from he.2.2.2.2.2.1);obtain⟨hg,_,h1,_⟩:=he;show Calls _ _ _ _ (λx w'=>x=.returned (S_ (fJ Gg nm))/\ag w w');go_enter func118,ntmps118;go_wp2_with fail
 clear hg h1
 go_loopw [12] (λi wr=>∃j:Nat,i=V j/\j<=Gg.length/\Hd ((Gg.take j).any (λx=>x.1==nm)=false)/\Hd (ag w wr)) (λi _=>Gg.length-(intOf i).toNat)
 case atStart=>exact⟨0,rfl,Nat.zero_le _,by simp[Hd],M _ _⟩
 case round=>
  obtain⟨j,rfl,hj,HT,HF⟩:=hrel
  by_cases c1:j<Gg.length
  .have d1:decide ((j:Int)<(Gg.length:Int))=true:=dT Zo
   have aE:(j:Int)<(Gg.length:Int):=Zo
   obtain⟨g,o,rfl,hg,m0,m1,_,_⟩:=HA.get j c1;have e0:=HF.cell m0 PR;have f0:=HF.cell m1 PR;clear m0 m1;have HS:=I (XI Gg nm j c1 HT);generalize Gg[j]=x at*;cases h4:decide (x.1=nm)with
   |true=>
    have e1:(x.1==nm)=true:=by simpa using h4
    have HV:=I (HS.out.1 (of_decide_eq_true h4));clear h4;go_wp2
    refine bodyPost_ret (results_tmp rfl _ _ _) rfl ?_;exact⟨by rw[HV.out];rfl,kV HF⟩
   |false=>
    have e1:(x.1==nm)=false:=by simpa using h4
    have HV:=I (HS.out.2 (of_decide_eq_false h4));clear h4;go_wp2
    go_roundw
    case rel=>exact⟨j+1,by go_num,c1,HV,kV HF⟩
    case measure=>simp[intOf];omega
  .have d1:decide ((j:Int)<(Gg.length:Int))=false:=dF Zo
   obtain rfl:j=Gg.length:=Zo
   have HV:=I (XJ Gg nm (by have:=HT.out;rwa [List.take_length]at this));go_wp2
   go_ret;exact⟨by rw[HV.out];rfl,HF⟩
theorem Hu(ks:List Nd)(A:Option Addr)(cap:Nat)(w:W_)(hr:aD w ks (.slice A ks.length cap)):
  C_ 142 #[.slice A ks.length cap] w λe w'=>e=.returned (.bool (Tr.valid (.mk 1 [] 0 ks)))/\ag w w':=by
 have HR:=I hr;clear hr;go_enter func142,ntmps142;go_wp2_with fail
 refine(CQ (.mk 1 [] 0 ks) _ _ HR JI).mono ?_;rintro _ w2 ⟨rfl,hf2⟩;have bW:=I hf2;clear hf2;go_wp2
 go_ret;exact⟨rfl,bW⟩
end
section
open Go.RowKit
open Tr (Nd)
theorem aD.acz{W:W_}{g:Nat}{k c:Int}{s:List UInt8}{ks:List Nd}{v:Value}(h:af W g 31 #[V k,S_ s,V c,v])(hs:s.length<=maxLen)(hk:aD W ks v):aD W [.mk k s c ks] (.slice (A_ g 0) 1 1):=by
 refine aD.row g 0 1 [.mk k s c ks] (λ_=>v) h.lt (show 1<=maxLen by decide) ?_ ?_ ?_ ?_ ?_ ?_
 all_goals (intro i hi;obtain rfl:i=0:=by simpa using hi)
 .exact hs
 .exact h.cell 0
 .exact h.cell 1
 .exact h.cell 2
 .exact h.cell 3
 .exact hk
theorem aD.acA{W:W_}{g:Nat}{k c k' c':Int}{s s':List UInt8}{ks ks':List Nd}{v v':Value}(h:af W g 31 #[V k,S_ s,V c,v,V k',S_ s',V c',v'])(hs:s.length<=maxLen)(hs':s'.length<=maxLen)
  (hk:aD W ks v) (hk':aD W ks' v'):aD W [.mk k s c ks,.mk k' s' c' ks'] (.slice (A_ g 0) 2 2):=by
 refine aD.row g 0 2 [.mk k s c ks,.mk k' s' c' ks'] (λi=>if i=0 then v else v') h.lt (show 2<=maxLen by decide) ?_ ?_ ?_ ?_ ?_ ?_
 all_goals (intro i hi;have ak:i<2:=am5;obtain rfl|rfl:i=0\/i=1:=by omega)
 .exact hs
 .exact hs'
 .exact h.cell 0
 .exact h.cell 4
 .exact h.cell 1
 .exact h.cell 5
 .exact h.cell 2
 .exact h.cell 6
 .exact h.cell 3
 .exact h.cell 7
 .exact hk
 .exact hk'
end
section
open Go.RowKit
open Tr (Nd)
open U (E aJ nO fJ kK nX)
theorem aai(j:Nat):avT j kK++[kK]=avT (j+1) kK:=by
 rw[List.replicate_succ']
theorem A9(k:Int)(t:List UInt8)(s:Nat)(hs:s<=8)(ht:t.length<=maxLen)(w:W_):C_ 117 #[V k,S_ t,V (s:Int)] w λe w'=>e=.returned (.bool (nX k t s))/\ag w w':=by
 have HT:=I ht;clear ht;go_enter func117,ntmps117;go_wp2_with fail
 have aB:=I (af.new w 31 #[V k,S_ t,V 0,N_]);have jQ:=I ((M (λ_=>False) w).alloc (.cells #[V k,S_ t,V 0,N_] 31));have ac:=I (ja.nil (B:=w.heap.size+1) (w:=w.alloc (.cells #[V k,S_ t,V 0,N_] 31)) P9);generalize (w.alloc (.cells #[V k,S_ t,V 0,N_] 31))=W1 at*
 go_loopw [12] (λi wr=>∃(j:Nat) (A:Option Addr) (c:Nat),i=V j/\j<=s/\Hd (af wr w.heap.size 31 #[V k,S_ t,V 0,.slice A j c])/\Hd (ja (w.heap.size+1) wr (avT j kK) (.slice A j c))/\Hd (ag w wr)) (λi _=>s-(intOf i).toNat)
 case atStart=>exact⟨0,none,0,rfl,Nat.zero_le _,aB,ac,jQ⟩
 case round=>
  obtain⟨j,A,c,rfl,hj,HB,HG,HF⟩:=hrel;rename_i wr _
  by_cases c1:j<s
  .have d1:decide ((j:Int)<(s:Int))=true:=dT Zo
   have jo:decide (j<s)=true:=dT c1;have aE:(j:Int)<(s:Int):=Zo
   obtain⟨q0,q1,q2,q3,z0,z1,z2,z3,hlt⟩:=af.QM HB;have HOW:=I HG.pY;have lg:=I (show(avT j kK).length=j from List.length_replicate);have kW:=I (af.new wr 31 #[V 1,E_,V 0,N_]);have eY:=I ((M (λ_=>False) wr).alloc (.cells #[V 1,E_,V 0,N_] 31));have xI:=I HG.out.1
   go_wp2_with (at_builtin;go_loud (refine qM rfl (.tmp 15) (.tmp 17) rfl (HG.QH eY) lg WH kK kW WH wr.heap.size xI (λk hk=>(HOW k hk).2) JI (λW _=>aD.nil _ _) Zo ?_);intro A8 c8 w8 jI bR _;refine jw.mk ?_)
   have wI:=I (show ja (w.heap.size+1) w8 (avT (j+1) kK) (.slice A8 (j+1) c8) by rw[<-aai];exact jI);have lT:=I (bR.QN (eY.QN HB λh=>h) λh=>by have:=(HOW _ h).1;omega);have mZ:=I (show ag w w8 from(HF.trans eY).trans' bR λk hk=>.inr aey);clear jI bR q0 q1 q2 q3 z0 z1 z2 z3 hlt;obtain⟨q0,q1,q2,q3,z0,z1,z2,z3,hlt⟩:=af.QM lT;refine jw.go ?_;go_wp2
   go_roundw
   case rel=>exact⟨j+1,A8,c8,by go_num,c1,I (lT.put 3 _),I (wI.mv ((M (λk=>k=w.heap.size) w8).setCell (p:=B_ w.heap.size 3) Wh (.slice A8 (j+1) c8)) aeO),I (mZ.setCell (p:=B_ w.heap.size 3) ET _)⟩
   case measure=>simp[intOf];omega
  .have d1:decide ((j:Int)<(s:Int))=false:=dF Zo
   have jo:decide (j<s)=false:=dF c1;obtain rfl:j=s:=Zo
   obtain⟨q0,q1,q2,q3,z0,z1,z2,z3,hlt⟩:=af.QM HB;go_wp2_with fail
   have hr:=aD.acz (k:=k) (c:=0) (s:=t) (ks:=avT j kK) (af.new wr 31 #[V k,S_ t,V 0,.slice A j c]) HT (HG.rep.QH ((M _ wr).alloc _));refine(Hu [.mk k t 0 (avT j kK)] _ _ _ hr).mono ?_;rintro _ w3 ⟨rfl,hf3⟩;have bJ:=I (HF.trans (Touch.pre hf3));clear hf3 hr;go_wp2
   go_ret;exact⟨rfl,bJ⟩
end
section
open Go.RowKit
open Tr (Nd)
open U (E aJ nO fJ kK nX qX)
def Oy:List (List UInt8):=[U.yt,U.yu,U.CU,U.qG,U.gU,U.aj,U.bq,U.bE,U.dU,U.lq,U.fZ,U.mW,U.mX,U.gN,U.fV,U.bI,U.aV]
theorem Hw{n:List UInt8}{a:aJ}{ks:List E}{t:List UInt8}(h:U.lD (.mk n a ks t)=true):n∈Oy:=by
 by_cases hn:n∈Oy
 .exact hn
 .simp only[Oy,avi,not_or]at hn
  obtain⟨h1,h2,h3,h4,h5,h6,h7,h8,h9,h10,h11,ac,JF,GA,GD,aa,GG,_⟩:=hn;simp only[U.lD,nO,U.L8,if_neg h1,if_neg h2,if_neg h3,if_neg h4,if_neg h5,if_neg h6,if_neg h7,if_neg h8,if_neg h9,if_neg h10,if_neg h11,if_neg ac,if_neg JF,if_neg GA,if_neg GD,if_neg aa,if_neg GG]at h;simp at h
theorem acB(e:E)(g o:Nat)(va vk:Value)(w:W_)(he:gZ w g o e va vk)(ae:(fJ e.Zn U.ji).length<=maxLen)(ab:U.lD e=true):C_ 77 #[.pointer (A_ g o)] w λx w'=>x=.returned (.bool true)/\ag w w':=by
 obtain⟨n,a,ks,t⟩:=e;obtain⟨A,ca,aa⟩:=he.2.2.2.2.2.1.slice;obtain⟨B,cb,ac⟩:=he.2.2.2.2.2.2.1.slice;replace aa:va=.slice A a.length ca:=aa;replace ac:vk=.slice B ks.length cb:=ac;subst aa;subst ac;have wL:=I (show t.length<=maxLen from he.2.2.2.2.2.2.2.2);have HE:=I he;obtain⟨_,a0,a1,a2,a3,_⟩:=he;simp only[E.name,E.QG]at a0 a3;have Hy:=I (λ(W:W_)=>Rx n W);have hn:=Hw ab;simp only[Oy,avi,avl,or_false]at hn
 rcases hn with rfl|rfl|rfl|rfl|rfl|rfl|rfl|rfl|rfl|rfl|rfl|rfl|rfl|rfl|rfl|rfl|rfl
 all_goals simp[U.lD,nO,U.L8,U.XG,U.nQ,U.yt,U.yu,U.CU,U.qG,U.gU,U.aj,U.bq,U.bE,U.dU,U.lq,U.fZ,U.mW,U.mX,U.gN,U.fV,U.bI,U.aV]at ab a0 Hy
 iterate 2
  obtain⟨⟨⟨hlt,rfl⟩,rfl⟩,hv⟩:=ab;have C0:=I (lJ (P:=Tryz.prog) w (λw hw=>Pt t _));rw[hlt]at C0;simp only[ava]at a1 a2;go_enter func77,ntmps77;go_wp2_with fail
  refine(Hy _).mono ?_;rintro _ w1 ⟨rfl,hq⟩;replace hq:=hq.symm;subst hq;go_wp2_with fail
  have ga0:=cell_regrown a0;have ga1:=cell_regrown a1;have ga2:=cell_regrown a2;have ga3:=cell_regrown a3;refine wp_region_quiet_below Pg Pg ?_
  repeat(with_reducible refine wpQuiet_step (λK hK=>?_);go_simp;first|(refine hK _ ?_;clear hK K)|(apply Exists.intro;refine⟨λ_=>?_,hK _ ?_⟩;(first|with_reducible exact C0.out _ _);clear hK K))
  refine wpQuiet_nil ?_;rintro w3 ⟨⟨_,_⟩,hW⟩;have bJ:=I (show ag w w3 by rw[hW];exact aZ SX);replace a0:=bJ.cell a0 PR;replace a1:=bJ.cell a1 PR;replace a2:=bJ.cell a2 PR;replace a3:=bJ.cell a3 PR;clear hW ga0 ga1 ga2 ga3 C0;go_wp2_with fail
  refine(A9 _ t 0 Pf wL _).mono ?_;rintro _ w2 ⟨rfl,hf⟩;rw[hv];have HF:=I aqJ;go_wp2_with fail
  exact auH
 iterate 2
  obtain⟨⟨rfl,rfl⟩,hv⟩:=ab;simp only[ava]at a1 a2;go_enter func77,ntmps77;go_wp2_with fail
  refine(Hy _).mono ?_;rintro _ w1 ⟨rfl,hq⟩;replace hq:=hq.symm;subst hq;go_wp2_with fail
  refine wp_region_quiet_lit Pg Pg ?_
  repeat(with_reducible refine wpQuiet_step (λK hK=>?_);go_simp;first|(refine hK _ ?_;clear hK K)|(apply Exists.intro;refine⟨λ_=>?_,hK _ ?_⟩;(fail);clear hK K))
  refine wpQuiet_nil ?_;rintro _ ⟨nq,rfl⟩;go_wp2_with fail
  refine(A9 _ t 0 Pf wL _).mono ?_;rintro _ w2 ⟨rfl,hf⟩;rw[hv];have HF:=I (show ag w w2 from Touch.BD hf);go_wp2_with fail
  exact auH
 iterate 11
  first
   |(obtain⟨rfl,rfl⟩:=ab)
   |(obtain⟨⟨rfl,h1,h2⟩,rfl⟩:=ab;have d1:decide ((1:Int)<=(ks.length:Int))=true:=dT Zo;have d2:decide ((ks.length:Int)<=(16:Int))=true:=dT Zo;have jo:decide (1<=ks.length)=true:=dT h1;have d2n:decide (ks.length<=16)=true:=dT h2)
   |(obtain⟨⟨rfl,h1⟩,rfl⟩:=ab;rw[h1]at a2)
   |(obtain⟨⟨rfl,h1⟩,rfl⟩:=ab;have d1:decide ((1:Int)<=(ks.length:Int))=true:=dT Zo;have jo:decide (1<=ks.length)=true:=dT h1)
  simp only[ava]at a1;replace a3:w.cell? (B_ g (o+3))=some (E_):=a3;go_enter func77,ntmps77;go_wp2_with fail
  refine(Hy _).mono ?_;rintro _ w1 ⟨rfl,hq⟩;replace hq:=hq.symm;subst hq;go_wp2_with fail
  refine wp_region_quiet_lit Pg Pg ?_
  repeat(with_reducible refine wpQuiet_step (λK hK=>?_);go_simp;first|(refine hK _ ?_;clear hK K)|(apply Exists.intro;refine⟨λ_=>?_,hK _ ?_⟩;(fail);clear hK K))
  refine wpQuiet_nil ?_;rintro _ ⟨nq,rfl⟩;go_wp2_with fail
  exact auG
 rotate_left
 focus
  obtain⟨⟨⟨rfl,h1⟩,⟨hla,aB⟩,hv⟩,h2⟩:=ab;rw[h1]at a2;rw[h2]at a1;replace a3:w.cell? (B_ g (o+3))=some (E_):=a3;have Hz:=I (λ(W:W_) (h:ag w W)=>zl _ U.qH g o _ _ W (HE.QH h));have kW:=I (λ(W:W_) (h:ag w W)=>zl _ U.nR g o _ _ W (HE.QH h));simp only[E.Zn]at Hz kW;generalize fJ a U.qH=av at*;generalize fJ a U.nR=bv at*;have ak5:((av.length:Int)==(1:Int))=true:=by rw[hla];rfl
  have ak6:((bv.length:Int)==(1:Int))=true:=by rw[aB];rfl
  have am:=λW:W_=>run_string_add_lists (P:=Tryz.prog) W av bv Zo Zo
  go_enter func77,ntmps77;go_wp2_with fail
  refine(Hy _).mono ?_;rintro _ w1 ⟨rfl,hq⟩;replace hq:=hq.symm;subst hq;go_wp2_with fail
  refine wp_region_quiet_lit Pg Pg ?_
  repeat(with_reducible refine wpQuiet_step (λK hK=>?_);go_simp;first|(refine hK _ ?_;clear hK K)|(apply Exists.intro;refine⟨λ_=>?_,hK _ ?_⟩;(fail);clear hK K))
  refine wpQuiet_nil ?_;rintro _ ⟨nq,rfl⟩;go_wp2_with fail
  refine(Hz _ aF).mono ?_;rintro _ w2 ⟨rfl,hf⟩;replace hf:=show ag w w2 from Touch.BD hf
  replace a0:=hf.cell a0 PR;replace a1:=hf.cell a1 PR;replace a2:=hf.cell a2 PR;replace a3:=hf.cell a3 PR;have HF:=I hf;clear hf;go_wp2_with fail
  refine(kW _ Uq).mono ?_;rintro _ w3 ⟨rfl,hf3⟩;have hf:=HF.trans hf3;replace a0:=hf3.cell a0 PR;replace a1:=hf3.cell a1 PR;replace a2:=hf3.cell a2 PR;replace a3:=hf3.cell a3 PR;have bJ:=I hf;clear hf hf3;go_wp2_with fail
  refine(A9 11 (av++bv) 1 Pf (by unfold maxLen;rw[auZ];omega) _).mono ?_;rintro _ w4 ⟨rfl,jf⟩;rw[hv];have hf:=bJ.trans jf;replace a0:=jf.cell a0 PR;replace a1:=jf.cell a1 PR;replace a2:=jf.cell a2 PR;replace a3:=jf.cell a3 PR;replace HF:=I hf;clear hf jf;go_wp2_with fail
  exact auH
 obtain⟨⟨⟨rfl,h1⟩,hv⟩,h2⟩:=ab;rw[h1]at a2;rw[h2]at a1;replace a3:w.cell? (B_ g (o+3))=some (E_):=a3;have Hz:=I (λ(W:W_) (h:ag w W)=>zl _ U.ji g o _ _ W (HE.QH h));simp only[E.Zn]at Hz ae;have Rt:=I ae;clear ae;generalize fJ a U.ji=av at*;go_enter func77,ntmps77;go_wp2_with fail
 refine(Hy _).mono ?_;rintro _ w1 ⟨rfl,hq⟩;replace hq:=hq.symm;subst hq;go_wp2_with fail
 refine wp_region_quiet_lit Pg Pg ?_
 repeat(with_reducible refine wpQuiet_step (λK hK=>?_);go_simp;first|(refine hK _ ?_;clear hK K)|(apply Exists.intro;refine⟨λ_=>?_,hK _ ?_⟩;(fail);clear hK K))
 refine wpQuiet_nil ?_;rintro _ ⟨nq,rfl⟩;go_wp2_with fail
 refine(Hz _ aF).mono ?_;rintro _ w2 ⟨rfl,hf⟩;replace hf:=show ag w w2 from Touch.BD hf
 replace a0:=hf.cell a0 PR;replace a1:=hf.cell a1 PR;replace a2:=hf.cell a2 PR;replace a3:=hf.cell a3 PR;have HF:=I hf;clear hf;go_wp2_with fail
 refine(A9 10 av 1 Pf Rt _).mono ?_;rintro _ w4 ⟨rfl,jf⟩;rw[hv];have hf:=HF.trans jf;replace a0:=jf.cell a0 PR;replace a1:=jf.cell a1 PR;replace a2:=jf.cell a2 PR;replace a3:=jf.cell a3 PR;replace HF:=I hf;clear hf jf;go_wp2_with fail
 exact auH
end
end Go.Proofs.YtabjglnjjdcfmaaGreatDoor
