/- Part 36 of 48 of a proof. No condition. -/
import Derived.Test.YtnbeemkfmlfgfaaGreatDoorTm35
set_option maxRecDepth 100000
set_option maxHeartbeats 8000000
namespace Go.Proofs.YtnbeemkfmlfgfaaGreatDoor
section
open Go.RowKit
open Xp (aX Q aR dD aM bA dz kY iB kG bB j4 mU bR kS Hy iO)
open U (E aA)
attribute [local go_sem] jg stillUpon
theorem H8(s:UInt8):∀(f:Nat) (acc:List UInt8) (q:Q),aX (iO s f acc q).2.l q.l
 |0,_,_=>aX.refl _
 |f+1,acc,q=>by
  rw[iO];split
  ·exact(H8 s f _ _).trans (aat _ _)
  ·exact aX.refl _
theorem LH(nm:List UInt8)(f:Nat)(q2:Q):aX (Xp.xN nm f q2).2.l q2.l:=
 ((qd 34 _).trans (H8 34 f [] _)).trans ((qd 34 _).trans (qd 61 _))
theorem LJ{aB:aA}{q:Q}(h8:aB.length≤8)(hl:U.letter (aR q)=true):(iB aB q).2.b=true∨(aB.length<8∧(iB aB q).2.l.length<q.l.length):=by
 by_cases h:aB.length=8
 ·exact .inl (by rw[Xp.EZ aB h];rfl)
 ·right
  have h8:aB.length<8:=by omega
  refine⟨h8,?_⟩;obtain⟨x,l,hq,hx⟩:=Dj hl
  have hn:(dz q).l.length<q.l.length:=by
   unfold dz;rw[if_pos hl,congrArg Q.l hq];show((x::l).dropWhile U.inner).length<(x::l).length;rw[xV U.inner x l (sG x hx)];have:=(Xp.aX.dropWhile U.inner l).len;rw[List.length_cons];omega
  rw[Xp.Rq aB h8];have h2:=(LH (kY q) ((if aB.any (fun x=>x.1==kY q)then dD (dz q)else dz q).l.length+2) (if aB.any (fun x=>x.1==kY q)then dD (dz q)else dz q)).len;have h3:(if aB.any (fun x=>x.1==kY q)then dD (dz q)else dz q).l.length=(dz q).l.length:=by split<;>rfl
  omega
theorem FQ(q:Q):(bB q).b=q.b:=by unfold bB;split<;>rfl
def ug(aB:aA)(z:Bool)(q:Q)(r:aA×Q):Prop:=∃f,kG f aB z q=r∧(q.b=true∨(aB.length+f=10∧aB.length≤8))∧aB.length≤9
theorem ug.stop{aB:aA}{z:Bool}{q:Q}{r:aA×Q}(h:ug aB z q r)(hx:z=false∨U.letter (aR q)=false):r=(aB,q):=by
 obtain⟨f,h1,_⟩:=h;rw[←h1];cases f with
 |zero=>rfl
 |succ f=>
  rw[kG,if_neg (by
   rintro⟨a,b⟩
   rcases hx with h|h
   ·rw[h]at a;cases a
   ·rw[h]at b;cases b)]
theorem Bt{q:Q}(h:U.letter (aR q)=true):q.b=false:=by
 obtain⟨x,l,hq,_⟩:=Dj h;rw[congrArg Q.b hq]
theorem ug.le{aB:aA}{z:Bool}{q:Q}{r:aA×Q}(h:ug aB z q r)(hl:U.letter (aR q)=true):aB.length≤8:=by
 obtain⟨f,_,h2,_⟩:=h
 rcases h2 with h|h
 ·rw[Bt hl]at h;cases h
 ·exact h.2
theorem ug.step{aB:aA}{q:Q}{r:aA×Q}(h:ug aB true q r)(hl:U.letter (aR q)=true):ug (aB++[(iB aB q).1]) (!(j4 (iB aB q).2).isEmpty) (bB (iB aB q).2) r:=by
 have h8:=h.le hl;obtain⟨f,h1,h2,h3⟩:=h;have h2:=h2.resolve_left (by rw[Bt hl];decide);obtain⟨f,rfl⟩:∃k,f=k+1:=⟨f-1,by omega⟩;refine⟨f,?_,?_,?_⟩
 ·rw[←h1,kG,if_pos ⟨rfl,hl⟩]
 ·rw[FQ,List.length_append,List.length_singleton]
  rcases LJ h8 hl with h|h
  ·exact .inl h
  ·exact .inr ⟨by omega,by omega⟩
 ·rw[List.length_append,List.length_singleton];omega
theorem Xy(q:Q):(kY q).length≤q.l.length:=by
 unfold kY;split
 ·exact(List.takeWhile_prefix _).length_le
 ·exact Nat.zero_le _
theorem aeE(q:Q):∀b∈kY q,b≠0:=by
 intro b hb;unfold kY at hb;split at hb
 ·exact Xp.OV b (List.all_eq_true.1 (List.all_takeWhile (p:=U.inner) (l:=q.l)) b hb)
 ·cases hb
theorem Xz(aB:aA)(q:Q):(iB aB q).1.2.length≤200:=by
 have:∀(f:Nat) (acc:List UInt8) (q:Q),acc.length≤200→(iO 34 f acc q).1.length≤200:=by
  intro f
  induction f with
  |zero=>intro acc q h;exact h
  |succ f ih=>
   intro acc q h;rw[iO];split
   ·exact ih _ _ (H7 h q)
   ·exact h
 exact this _ [] _ (Nat.zero_le _)
theorem XD(aB:aA)(q:Q):(iB aB q).1.1.length≤q.l.length:=by
 have h:=Xy (if aB.length=8 then dD q else q);have h2:(if aB.length=8 then dD q else q).l=q.l:=by split<;>rfl
 rw[h2]at h;exact h
def MC(S:ByteArray)(g:Nat)(cO:Q→E×Q)(d:Int):Prop:=∀(q:Q) (w:World),Xq S g q w→
 Calls Tryz.prog 68 #[.pointer (some ⟨g,0,none⟩),.int .i64 d] w fun e w'=>∃va vk,e=.returned (ev (cO q).1 va vk)∧Touch (fun b=>b=g) w w'∧aZ (fun k=>k<w.heap.size) w' (fun W=>bN W (cO q).1 va vk)∧Xq S g (cO q).2 w'
def ME(S:ByteArray)(g:Nat)(cO:Q→E×Q)(d:Int)(q:Q):Prop:=∀(nm:List UInt8) (va:Value) (E0:Nat) (w:World),E0≠g→
 O w E0 45 #[.string ⟨nm.toArray⟩,va,.slice none 0 0,.string ⟨#[]⟩]→Xq S g q w→
 Calls Tryz.prog 126 #[.pointer (some ⟨g,0,none⟩),.pointer (some ⟨E0,0,none⟩),.int .i64 d] w fun e w'=>e=.returned (.tuple #[])∧∃A n cp,O w' E0 45 #[.string ⟨nm.toArray⟩,va,.slice A n cp,.string ⟨(bR cO q).1.2.toArray⟩]∧(bR cO q).1.2.length≤maxLen∧
  aZ (fun k=>k<w.heap.size) w' (fun W=>dL W (bR cO q).1.1 (.slice A n cp))∧Touch (fun b=>b=g∨b=E0) w w'∧Xq S g (bR cO q).2 w'
theorem Jt{S:ByteArray}{g:Nat}{q:Q}{nm t:List UInt8}{aB:aA}{ks:List E}{w w7:World}{va vk:Value}(_hR:O w7 w.heap.size 45 Z)(ht:Touch (fun b=>b=g) w w7)(hx:Xq S g q w7)
  (hva:aZ (fun k=>k<w.heap.size+1) w7 fun W=>dW W aB va) (hvk:aZ (fun k=>k<w.heap.size+1) w7 fun W=>dL W ks vk) (hnl:nm.length≤maxLen) (htl:t.length≤maxLen) (hg:g<w.heap.size):
  ∃va' vk',Ending.returned (.agg #[.string ⟨nm.toArray⟩,va,vk,.string ⟨t.toArray⟩])=.returned (ev (.mk nm aB ks t) va' vk')∧Touch (fun b=>b=g) w (aH w7 w.heap.size (.string ⟨nm.toArray⟩) va vk (.string ⟨t.toArray⟩))∧
   aZ (fun k=>k<w.heap.size) (aH w7 w.heap.size (.string ⟨nm.toArray⟩) va vk (.string ⟨t.toArray⟩)) (fun W=>bN W (.mk nm aB ks t) va' vk')∧Xq S g q (aH w7 w.heap.size (.string ⟨nm.toArray⟩) va vk (.string ⟨t.toArray⟩)):=by
 have IU:=(M (fun k=>k=w.heap.size) w7).aH (g:=w.heap.size) (.inl rfl) (.string ⟨nm.toArray⟩) va vk (.string ⟨t.toArray⟩);refine⟨va,vk,rfl,ht.aH (.inr (Nat.le_refl _)) _ _ _ _,?_,hx.move IU (by omega)⟩;refine((hva.and hvk).step IU (fun i _ hi=>?_) fun i _ hi=>?_).imp fun W h=>⟨h.1,h.2,hnl,htl⟩
 ·show i<w.heap.size+1;omega
 ·show i<w.heap.size+1;omega
theorem Ju(S:ByteArray)(g:Nat)(cO:Q→E×Q)(d:Int)(deep:Bool)(hS:S.size≤1099511627776)(hd:decide ((64:Int)<d)=deep)(hcont:∀q,(deep=true→q.b=true)→ME S g cO d q):MC S g (fun q=>mU (bR cO) (kS deep q)) d:=by
 intro q w h;have HC:=I hcont;have hg0:=h.lt;obtain⟨l,k,b⟩:=q;obtain⟨R,hR⟩:∃R,R=mU (bR cO) (kS deep ⟨l,k,b⟩):=⟨_,rfl⟩;show Calls _ _ _ _ fun e w'=>∃va vk,e=.returned (ev (mU (bR cO) (kS deep ⟨l,k,b⟩)).1 va vk)∧Touch (fun b=>b=g) w w'∧aZ (fun k=>k<w.heap.size) w' (fun W=>bN W (mU (bR cO) (kS deep ⟨l,k,b⟩)).1 va vk)∧Xq S g (mU (bR cO) (kS deep ⟨l,k,b⟩)).2 w'
 rw[←hR];have HR:=I hR;obtain⟨k1,hk1⟩:∃k1,k1=Hy (k+1):=⟨_,rfl⟩;have hwr:IntKind.i64.wrap (k+1)=k1:=hk1.symm;obtain⟨b1,hb1⟩:∃b1,b1=(b||deep||decide (3000<Hy (k+1))):=⟨_,rfl⟩;have OX:=I (show kS deep ⟨l,k,b⟩=⟨l,k1,b1⟩ by rw[hk1,hb1];rfl);rw[←hk1]at hb1;have HB1:=I hb1;have HDP:=I (show deep=true→(⟨l,k1,b1⟩:Q).b=true by intro h;show b1=true;rw[hb1,h];simp);rw[OX.J]at HR;have eT:=I (show Xq S g ⟨l,k1,b⟩ (w.setCell ⟨g,2,none⟩ (.int .i64 k1))from⟨h.blk.put 2 _,h.nK⟩);have HT2:=I ((M (fun b=>b=g) w).setCell (p:=⟨g,2,none⟩) (.inl rfl) (.int .i64 k1))
 have iV:(b1=b∧deep=false∧decide ((3000:Int)<k1)=false)∨(b1=true∧(deep=true∨(deep=false∧decide ((3000:Int)<k1)=true))):=by
  rw[hb1];cases deep with
  |true=>exact .inr ⟨by simp,.inl rfl⟩
  |false=>
   cases h3:decide ((3000:Int)<k1)with
   |true=>exact .inr ⟨by simp,.inr ⟨rfl,rfl⟩⟩
   |false=>exact .inl ⟨by simp,rfl,rfl⟩
 obtain⟨p0,p1,p2,p3,f0,f1,f2,f3,hg⟩:=O.four h.blk;simp only at p0 p1 p2 p3;have HS2:=I (show(w.setCell ⟨g,2,none⟩ (.int .i64 k1)).heap.size=w.heap.size by simp);clear h hR hk1 hb1 OX HB1 hcont;have hd1:deep=true→(64:Int)<d:=fun h=>of_decide_eq_true (hd.trans h)
 rcases iV with⟨hb1,hdp,h3⟩|⟨hb1,hdp|⟨hdp,h3⟩⟩
 focus
  have h3':¬(3000:Int)<k1:=of_decide_eq_false h3;have DF:=I (show Xq S g ⟨l,k1,b1⟩ (w.setCell ⟨g,2,none⟩ (.int .i64 k1)) by rw[hb1];exact eT.J);rw[hdp]at hd;go_enter Tryz.func68,Tryz.ntmps68;go_wp2_with fail
  have hF1:=(HT2.J.alloc (.cells Z 45)).alloc (.cells Z 45);have HT1:=I hF1;have bS:=I (show Xq S g ⟨l,k1,b1⟩ (((w.setCell ⟨g,2,none⟩ (.int .i64 k1)).alloc (.cells Z 45)).alloc (.cells Z 45))from Xq.fresh DF.J (((M (fun _=>False) _).alloc _).alloc _))
  have HR1:=I (show O (((w.setCell ⟨g,2,none⟩ (.int .i64 k1)).alloc (.cells Z 45)).alloc (.cells Z 45)) w.heap.size 45 Z by
   have h:=(O.new (w.setCell ⟨g,2,none⟩ (.int .i64 k1)) 45 Z).alloc (.cells Z 45)
   rwa [show(w.setCell ⟨g,2,none⟩ (.int .i64 k1)).heap.size=w.heap.size by simp]at h)
  have j6:=I (show O (((w.setCell ⟨g,2,none⟩ (.int .i64 k1)).alloc (.cells Z 45)).alloc (.cells Z 45)) (w.heap.size+1) 45 Z by
   have h:=O.new2 (w.setCell ⟨g,2,none⟩ (.int .i64 k1)) (.cells Z 45) 45 Z
   rwa [show(w.setCell ⟨g,2,none⟩ (.int .i64 k1)).heap.size=w.heap.size by simp]at h)
  clear hF1;generalize (((w.setCell ⟨g,2,none⟩ (.int .i64 k1)).alloc (.cells Z 45)).alloc (.cells Z 45))=w1 at bS HT1 HR1 j6⊢;clear p0 p1 p2 p3 f0 f1 f2 f3 hg hwr h3 h3' hdp hd hd1 eT HT2 HS2 DF
 rotate_left
 focus
  have hd2:=hd1 hdp;have DF:=I (show Xq S g ⟨l,k1,b1⟩ ((w.setCell ⟨g,2,none⟩ (.int .i64 k1)).setCell ⟨g,3,none⟩ (.bool true)) by rw[hb1];exact eT.J.stop);have IK:=I (HT2.J.setCell (p:=⟨g,3,none⟩) (.inl rfl) (.bool true));rw[hdp]at hd;go_enter Tryz.func68,Tryz.ntmps68;go_wp2_with fail
  have hF1:=(IK.J.alloc (.cells Z 45)).alloc (.cells Z 45);have HT1:=I hF1;have bS:=I (show Xq S g ⟨l,k1,b1⟩ ((((w.setCell ⟨g,2,none⟩ (.int .i64 k1)).setCell ⟨g,3,none⟩ (.bool true)).alloc (.cells Z 45)).alloc (.cells Z 45))from Xq.fresh DF.J (((M (fun _=>False) _).alloc _).alloc _))
  have HR1:=I (show O ((((w.setCell ⟨g,2,none⟩ (.int .i64 k1)).setCell ⟨g,3,none⟩ (.bool true)).alloc (.cells Z 45)).alloc (.cells Z 45)) w.heap.size 45 Z by
   have h:=(O.new ((w.setCell ⟨g,2,none⟩ (.int .i64 k1)).setCell ⟨g,3,none⟩ (.bool true)) 45 Z).alloc (.cells Z 45)
   rwa [show((w.setCell ⟨g,2,none⟩ (.int .i64 k1)).setCell ⟨g,3,none⟩ (.bool true)).heap.size=w.heap.size by simp]at h)
  have j6:=I (show O ((((w.setCell ⟨g,2,none⟩ (.int .i64 k1)).setCell ⟨g,3,none⟩ (.bool true)).alloc (.cells Z 45)).alloc (.cells Z 45)) (w.heap.size+1) 45 Z by
   have h:=O.new2 ((w.setCell ⟨g,2,none⟩ (.int .i64 k1)).setCell ⟨g,3,none⟩ (.bool true)) (.cells Z 45) 45 Z
   rwa [show((w.setCell ⟨g,2,none⟩ (.int .i64 k1)).setCell ⟨g,3,none⟩ (.bool true)).heap.size=w.heap.size by simp]at h)
  clear hF1;generalize ((((w.setCell ⟨g,2,none⟩ (.int .i64 k1)).setCell ⟨g,3,none⟩ (.bool true)).alloc (.cells Z 45)).alloc (.cells Z 45))=w1 at bS HT1 HR1 j6⊢;clear p0 p1 p2 p3 f0 f1 f2 f3 hg hwr hdp hd hd1 hd2 eT HT2 HS2 DF IK
 rotate_left
 focus
  have h3':(3000:Int)<k1:=of_decide_eq_true h3;have DF:=I (show Xq S g ⟨l,k1,b1⟩ ((w.setCell ⟨g,2,none⟩ (.int .i64 k1)).setCell ⟨g,3,none⟩ (.bool true)) by rw[hb1];exact eT.J.stop);have IK:=I (HT2.J.setCell (p:=⟨g,3,none⟩) (.inl rfl) (.bool true));rw[hdp]at hd;go_enter Tryz.func68,Tryz.ntmps68;go_wp2_with fail
  have hF1:=(IK.J.alloc (.cells Z 45)).alloc (.cells Z 45);have HT1:=I hF1;have bS:=I (show Xq S g ⟨l,k1,b1⟩ ((((w.setCell ⟨g,2,none⟩ (.int .i64 k1)).setCell ⟨g,3,none⟩ (.bool true)).alloc (.cells Z 45)).alloc (.cells Z 45))from Xq.fresh DF.J (((M (fun _=>False) _).alloc _).alloc _))
  have HR1:=I (show O ((((w.setCell ⟨g,2,none⟩ (.int .i64 k1)).setCell ⟨g,3,none⟩ (.bool true)).alloc (.cells Z 45)).alloc (.cells Z 45)) w.heap.size 45 Z by
   have h:=(O.new ((w.setCell ⟨g,2,none⟩ (.int .i64 k1)).setCell ⟨g,3,none⟩ (.bool true)) 45 Z).alloc (.cells Z 45)
   rwa [show((w.setCell ⟨g,2,none⟩ (.int .i64 k1)).setCell ⟨g,3,none⟩ (.bool true)).heap.size=w.heap.size by simp]at h)
  have j6:=I (show O ((((w.setCell ⟨g,2,none⟩ (.int .i64 k1)).setCell ⟨g,3,none⟩ (.bool true)).alloc (.cells Z 45)).alloc (.cells Z 45)) (w.heap.size+1) 45 Z by
   have h:=O.new2 ((w.setCell ⟨g,2,none⟩ (.int .i64 k1)).setCell ⟨g,3,none⟩ (.bool true)) (.cells Z 45) 45 Z
   rwa [show((w.setCell ⟨g,2,none⟩ (.int .i64 k1)).setCell ⟨g,3,none⟩ (.bool true)).heap.size=w.heap.size by simp]at h)
  clear hF1;generalize ((((w.setCell ⟨g,2,none⟩ (.int .i64 k1)).setCell ⟨g,3,none⟩ (.bool true)).alloc (.cells Z 45)).alloc (.cells Z 45))=w1 at bS HT1 HR1 j6⊢;clear p0 p1 p2 p3 f0 f1 f2 f3 hg hwr h3 h3' hdp hd hd1 eT HT2 HS2 DF IK
 all_goals
  have HDR:=I (show deep=true→(⟨l,k1,b1⟩:Q).b=true from HDP.J);clear hb1 HDP;generalize (⟨l,k1,b1⟩:Q)=q1 at*;obtain⟨qn,LF⟩:∃qn,qn=dz q1:=⟨_,rfl⟩;obtain⟨nm,hnm⟩:∃nm,nm=kY q1:=⟨_,rfl⟩;obtain⟨rr,hrr⟩:∃rr,rr=kG 10 [] (!(j4 qn).isEmpty) (bB qn):=⟨_,rfl⟩;have xm:=I (show R=if aR rr.2=47 then(.mk nm rr.1 [] [],bA [47,62] rr.2)else(.mk nm rr.1 (bR cO (aM 62 rr.2)).1.1 (bR cO (aM 62 rr.2)).1.2,aM 62 (bB (bA nm (bR cO (aM 62 rr.2)).2))) by rw[HR.J,hrr,LF,hnm];rfl)
  have HDD:=I (show deep=true→(aM 62 rr.2).b=true by
   intro h;have hb:=HDR.J h;have h1:qn=q1:=LF.trans (Xp.wP hb).1;rw[h1,(Xp.gF hb).1,(Xp.gF hb).2,Xp.rV hb]at hrr;rw[hrr];show(aM 62 q1).b=true;rw[Xp.fH hb (by decide)];exact hb)
  have kr:=I (show nm.length≤S.size by rw[hnm];exact Nat.le_trans (Xy q1) bS.J.len);have HNZ:=I (show∀b∈nm,b≠0 by rw[hnm];exact aeE q1);have ng:=I (fun(W:World) (h:Xq S g q1 W)=>show Calls Tryz.prog 122 #[.pointer (some ⟨g,0,none⟩)] W fun e w'=>e=.returned (.string ⟨nm.toArray⟩)∧Touch (fun b=>b=g) W w'∧Xq S g qn w' by rw[hnm,LF];exact LC S g q1 W hS h);have Gw:=I (show ug [] (!(j4 qn).isEmpty) (bB qn) rr from⟨10,hrr.symm,.inr ⟨rfl,Nat.zero_le _⟩,Nat.zero_le _⟩);clear LF hnm hrr HR HDR;refine(ng.J _ bS.J).mono ?_;rintro _ w2 ⟨rfl,ht,hx⟩;have eT:=I hx;have HT2:=I (HT1.J.trans ht);have HR2:=I (ht.blk HR1.J fun h=>by omega);have HE2:=I (ht.blk j6.J fun h=>by omega);clear ht hx bS HT1 HR1 j6 ng;generalize hE0:w.heap.size+1=E0 at HE2⊢;have nU:=I hE0;have ni:E0≠g:=by omega
  have hgE:g<E0:=by omega
  have hwE:w.heap.size<E0:=by omega
  clear hE0;obtain⟨e0,e1,e2,e3,y0,y1,y2,y3,hlb⟩:=O.four HE2.J;go_wp2_with fail
  have iP:=I (eT.J.move ((M (fun k=>k=E0) w2).setCell (p:=⟨E0,0,none⟩) (.inl rfl) (.string ⟨nm.toArray⟩)) (by omega));have HT3:=I (HT2.J.setCell (p:=⟨E0,0,none⟩) (.inr (by have:=nU.J;show _≤E0;omega)) (.string ⟨nm.toArray⟩));have HR3:=I (HR2.J.far (p:=⟨E0,0,none⟩) (by have:=nU.J;show _≠E0;omega) (.string ⟨nm.toArray⟩));have Gm:=I (show O (w2.setCell ⟨E0,0,none⟩ (.string ⟨nm.toArray⟩)) E0 45 #[.string ⟨nm.toArray⟩,.slice none 0 0,.slice none 0 0,.string ⟨#[]⟩]from HE2.J.put 0 _);generalize (w2.setCell ⟨E0,0,none⟩ (.string ⟨nm.toArray⟩))=w3 at iP HT3 HR3 Gm⊢;clear eT HT2 HR2 HE2 e0 e1 e2 e3 y0 y1 y2 y3 hlb;refine(pX S g qn _ hS iP.J).mono ?_;rintro _ w4 ⟨rfl,ht,hx⟩;have gD:=I hx;have iU:=I (HT3.J.trans ht);have HR4:=I (ht.blk HR3.J fun h=>by omega);have HE4:=I (ht.blk Gm.J fun h=>by omega);have Ei:=I (lU.nil (B:=E0+1) (w:=w4) (by have:=HE4.J.lt;omega));clear ht hx iP HT3 HR3 Gm;obtain⟨z,hz⟩:∃z,(j4 qn).isEmpty=z:=⟨_,rfl⟩;obtain⟨z1,z2,z3,z4,z5⟩:=mR _ z hz;rw[hz]at Gw;generalize j4 qn=gp at*;generalize bB qn=qs at*;go_wp2_with fail
  clear z1 z2 z3 z4 z5 hz
  go_loopw [6] (fun v wQ=>∃(wr:World) (aB:aA) (q4:Q) (A:Option Addr) (n1 cp:Nat) (z:Bool),wr=wQ∧v=.bool z∧Hd (aB.length=n1)∧n1≤9∧Hd (ug aB z q4 rr)∧Hd (O wr E0 45 #[.string ⟨nm.toArray⟩,.slice A n1 cp,.slice none 0 0,.string ⟨#[]⟩])∧
   Hd (lU (E0+1) wr aB (.slice A n1 cp))∧Hd (Touch (fun b=>b=g) w wr)∧Hd (Xq S g q4 wr)∧Hd (O wr w.heap.size 45 Z)) (fun _ wr=>Rw S g wr)
  case atStart=>exact⟨_,[],qs,none,0,0,!z,rfl,rfl,I rfl,Nat.zero_le _,Gw,HE4,Ei,iU,gD,HR4⟩
  case round=>
   clear Gw HE4 Ei iU gD HR4;obtain⟨wr,aB,q4,A,n1,cp,z,rfl,rfl,Ga,hn1,Gw,HB,HG,HT,HX,HR⟩:=hrel;have hEl:=HB.J.lt;have zT:=I (yo HX.J)
   have iV:(z=false∧rr=(aB,q4))∨(z=true∧U.letter (aR q4)=false∧rr=(aB,q4))∨(z=true∧U.letter (aR q4)=true):=by
    cases hz:z with
    |false=>exact .inl ⟨rfl,Gw.J.stop (.inl hz)⟩
    |true=>
     cases hl:U.letter (aR q4)with
     |false=>exact .inr (.inl ⟨rfl,rfl,Gw.J.stop (.inr hl)⟩)
     |true=>exact .inr (.inr ⟨rfl,rfl⟩)
   rcases iV with⟨hz,hrr⟩|⟨hz,hl,hrr⟩|⟨hz,hl⟩
   focus
    subst hz;have HRR:=I hrr;have dI:=HX;have eu:=HT;have qj:=HR;have bV:=HB;have oD:=HG;clear hrr HX HT HR HB HG zT Gw;go_wp2_with fail
   rotate_left
   focus
    subst hz;have HRR:=I hrr;clear hrr;go_wp2_with fail
    refine(jb S g q4 _ HX.J).mono ?_;rintro _ w5 ⟨rfl,hf⟩;have dI:=I (HX.J.fresh hf);have eu:=I (HT.J.trans (hf.mono fun _ h=>h.elim));have qj:=I (hf.blk HR.J fun h=>h);have bV:=I (hf.blk HB.J fun h=>h);have oD:=I (HG.J.fresh hf);clear hf HX HT HR HB HG zT Gw;go_wp2_with fail
    refine(oL (aR q4) _).mono ?_;rintro _ w6 ⟨rfl,hw⟩;replace hw:=hw.symm;subst hw;rw[hl];go_wp2_with fail
    clear hl
   rotate_left
   focus
    subst hz;have h8:=Gw.J.le hl;have HST:=I (Gw.J.step hl);have Ai:=I (LJ h8 hl);have yI:=I (Bt hl);have yJ:=I (Xz aB q4);have HVN:=I (Nat.le_trans (XD aB q4) HX.J.len);rw[Ga.J]at h8;go_wp2_with fail
    refine(jb S g q4 _ HX.J).mono ?_;rintro _ w5 ⟨rfl,hf⟩;have dI:=I (HX.J.fresh hf);have eu:=I (HT.J.trans (hf.mono fun _ h=>h.elim));have qj:=I (hf.blk HR.J fun h=>h);have bV:=I (hf.blk HB.J fun h=>h);have oD:=I (HG.J.fresh hf);clear hf HX HT HR HB HG;go_wp2_with fail
    refine(oL (aR q4) _).mono ?_;rintro _ w6 ⟨rfl,hw⟩;replace hw:=hw.symm;subst hw;rw[hl];clear hl;obtain⟨_,e1,_,_,_,y1,_,_,hlb⟩:=O.four bV.J;go_wp2_with fail
    have k1:=cT (S:=fun k=>k=g) e1 ni;clear e1 y1 hlb;have HCA:=I (fun(W:World) (hs:aZ (fun b=>b=g) W fun W=>dW W aB (.slice A n1 cp)) (h:Xq S g q4 W)=>Uh S g q4 aB (.slice A n1 cp) W hS hs h);generalize iB aB q4=at4 at*;obtain⟨⟨t1,t2⟩,q5⟩:=at4;simp only at HCA HST Ai yJ HVN
    refine fu (fun W=>∃x:Turned (fun k=>k=g) w5,W=x.W) (bq.of [(0,true),(1,true),(2,true),(3,true),(4,true)] (.lone 5 (.lone 6 .nil))) [0,1,2,3,4,5,6] 7 (Array.replicate 7 true++Array.replicate 3 false) (fun _=>True)
     (bq.of [(8,true)] (.lone 9 .nil)) [8,9] (Array.replicate 10 true) (by kernel_rfl) (fun _ _ d _ _ h=>by cases d<;>exact h) (by kernel_rfl) ⟨⟨_,(M _ _).drewN 1⟩,rfl⟩ ?_
    unfold bq.of
    repeat(refine aS rfl (fun K hK=>?_);go_simp;refine hK _ ?_;clear hK K;first|done|unfold bq.of)
    clear k1;refine ax rfl (fun K hK=>?_);go_wp2_with fail
    have lG:=I (oD.J.fresh ((M _ w5).drewN 1));refine(HCA.J _ (NM lG.J (by omega)) (dI.J.fresh ((M _ _).drewN 1))).mono ?_;rintro _ w7 ⟨rfl,ht,hx⟩;have dS:=I (show Touch (fun b=>b=g) w5 w7 from((M _ w5).drewN 1).trans ht);have jV:=I hx;clear ht hx HCA;go_wp2
    refine hK _ _ ⟨⟨_,dS.J⟩,rfl⟩ ?_;clear hK K;refine ax rfl (fun K hK=>?_);go_wp2
    refine hK _ _ ⟨⟨_,dS.J.alloc _⟩,rfl⟩ ?_;clear hK K;have dX:=I (O.new w7 79 #[.string ⟨t1.toArray⟩,.string ⟨t2.toArray⟩]);have gq:=I (dS.J.alloc (.cells #[.string ⟨t1.toArray⟩,.string ⟨t2.toArray⟩] 79));have lC:=I (jV.J.fresh ((M _ w7).alloc (.cells #[.string ⟨t1.toArray⟩,.string ⟨t2.toArray⟩] 79)));generalize (w7.alloc (.cells #[.string ⟨t1.toArray⟩,.string ⟨t2.toArray⟩] 79))=wA at dX gq lC⊢;have nu:=I (oD.J.mv gq.J fun k hk _=>by omega);have lH:=I (gq.J.blk bV.J fun h=>by omega);have QT:=I (gq.J.blk qj.J fun h=>by omega);have HOW:=I nu.J.jE;refine iY rfl (fun K hK=>?_)
    go_wp2_with (at_builtin;go_loud (refine xZ rfl (.tmp 39) (.tmp 44) rfl nu.J Ga.J (by simp[Act.eval]) (t1,t2) (by have:=yJ.J;have:=HVN.J;simp only[maxLen];constructor<;>omega) dX.J (by simp[Act.eval]) (by omega) ?_);intro A8 c8 w8 gJ bW;refine iC.mk ?_)
    have qM:=I (lC.J.move bW fun h=>by have:=(HOW.J _ h).1;omega);have mE:=I (bW.blk lH.J fun h=>by have:=(HOW.J _ h).1;omega);have qF:=I (bW.blk QT.J fun h=>by have:=(HOW.J _ h).1;have:=nU.J;omega);have oC:=I (show Touch (fun b=>b=g) w w8 from(eu.J.trans gq.J).trans' bW fun k hk=>.inr (by have:=(HOW.J _ hk).1;have:=nU.J;omega));have nT:=I gJ;clear bW gJ;obtain⟨_,_,_,_,_,p1,_,_,wo⟩:=O.four mE.J;refine iC.go ?_;go_wp2
    refine hK _ _ trivial ?_;clear hK K
    repeat(refine aS rfl (fun K hK=>?_);go_simp;refine hK _ ?_;clear hK K)
    refine ax rfl (fun K hK=>?_);go_wp2
    refine hK _ _ trivial ?_;clear hK K;have eY:=(M (fun k=>k=E0) w8).setCell (p:=⟨E0,1,none⟩) (.inl rfl) (.slice A8 (n1+1) c8);have jN:=I (show O (w8.setCell ⟨E0,1,none⟩ (.slice A8 (n1+1) c8)) E0 45 #[.string ⟨nm.toArray⟩,.slice A8 (n1+1) c8,.slice none 0 0,.string ⟨#[]⟩]from mE.J.put 1 _);have jc:=I (qM.J.move eY (by omega));have uo:=I (eY.blk qF.J fun h=>by have:=nU.J;omega);have bU:=I (oC.J.trans' eY fun k hk=>.inr (by have:=nU.J;omega));have iE:=I (nT.J.mv eY fun k hk _=>by omega);clear eY p1 wo qM mE qF oC nT lC lH QT nu gq dX HOW jV dS dI eu qj bV oD lG;refine jJ ?_;go_wp2_with fail
    generalize (w8.setCell ⟨E0,1,none⟩ (.slice A8 (n1+1) c8))=w9 at jc jN uo bU iE⊢;refine(pX S g q5 _ hS jc.J).mono ?_;rintro _ qm ⟨rfl,ht,hx⟩;have ji:=I hx;have mq:=I (bU.J.trans ht);have Ui:=I (ht.blk uo.J fun h=>by omega);have pz:=I (ht.blk jN.J fun h=>by omega);have yA:=I (iE.J.mv ht fun k hk _=>by omega);have HM:=I (yo ji.J);have jW:=I ((sZ q5).len);have Gn:=I (FQ q5);clear ht hx jc bU uo jN iE;obtain⟨z,hz⟩:∃z,(j4 q5).isEmpty=z:=⟨_,rfl⟩;obtain⟨z1,z2,z3,z4,z5⟩:=mR _ z hz;rw[hz]at HST;generalize j4 q5=gp at*;generalize bB q5=qs at*;go_wp2
    refine⟨⟨_,aB++[(t1,t2)],qs,A8,n1+1,c8,!z,rfl,rfl,I (by rw[List.length_append,Ga.J];rfl),by omega,HST,pz,yA,mq,ji,Ui⟩,?_⟩;rw[HM.J,zT.J,yI.J,Gn.J];show _<q4.l.length+1;have h1:=jW.J
    rcases Ai.J with h|h
    ·rw[show q5.b=true from h,if_pos rfl];omega
    ·have h:q5.l.length<q4.l.length:=h.2
     split<;>omega
   all_goals
    refine(jb S g q4 _ dI.J).mono ?_;rintro _ w7 ⟨rfl,hf⟩;have jV:=I (dI.J.fresh hf);have dS:=I (eu.J.trans (hf.mono fun _ h=>h.elim));have qN:=I (hf.blk qj.J fun h=>h);have ql:=I (hf.blk bV.J fun h=>h);have uu:=I (oD.J.fresh hf);clear hf dI eu qj bV oD;rw[HRR.J]at xm HDD;simp only at xm HDD
    by_cases h47:aR q4=47
    ·have J8:(((aR q4).toNat:Int)==(47:Int))=true:=by rw[h47];rfl
     have aG:=I (show R=(.mk nm aB [] [],bA [47,62] q4) by rw[xm.J,if_pos h47]);clear h47 xm;go_wp2_with fail
     refine(rG S ⟨#[47,62]⟩ g q4 _ hS (by decide) (by decide) jV.J).mono ?_;rintro _ w8 ⟨rfl,ht,hx⟩;have qM:=I (show Xq S g (bA [47,62] q4) w8 from hx);have oC:=I (dS.J.trans ht);have qF:=I (ht.blk qN.J fun h=>by omega);have mE:=I (ht.blk ql.J fun h=>by omega);have nT:=I (uu.J.mv ht fun k hk _=>by omega);clear ht hx jV dS qN ql uu;have IW:=I (Jt (nm:=nm) (aB:=aB) (ks:=[]) (t:=[]) qF.J oC.J qM.J (nT.J.NK.mono fun i _ hi=>by have:=nU.J;omega) (fun W _=>dL.nil none 0) (by have:=kr.J;simp only[maxLen];omega) (Nat.zero_le _) hg0);obtain⟨e0,e1,e2,e3,_,_,_,_,_⟩:=O.four mE.J;obtain⟨_,_,_,_,x0,x1,x2,x3,hlz⟩:=O.four qF.J;obtain⟨t0,t1,t2,t3,_,_,_,_,_⟩:=O.four (qF.J.dJ (.string ⟨nm.toArray⟩) (.slice A n1 cp) (.slice none 0 0) (.string ⟨#[]⟩));simp only[aH]at t0 t1 t2 t3;go_wp2
     refine bodyPost_ret (v:=.agg #[.string ⟨nm.toArray⟩,.slice A n1 cp,.slice none 0 0,.string ⟨#[]⟩]) (by simp[results,Tryz.results68,go_sem,t0,t1,t2,t3]) rfl ?_;rw[aG.J];exact IW.J
    ·have J8:(((aR q4).toNat:Int)==(47:Int))=false:=qX _ 47 h47
     have aG:=I (show R=(.mk nm aB (bR cO (aM 62 q4)).1.1 (bR cO (aM 62 q4)).1.2,aM 62 (bB (bA nm (bR cO (aM 62 q4)).2))) by rw[xm.J,if_neg h47]);have Gb:=I (fun(W:World) (hb:O W E0 45 #[.string ⟨nm.toArray⟩,.slice A n1 cp,.slice none 0 0,.string ⟨#[]⟩]) (hx:Xq S g (aM 62 q4) W)=>HC.J (aM 62 q4) HDD.J nm (.slice A n1 cp) E0 W ni hb hx);clear h47 xm;go_wp2_with fail
     refine(oI S g 62 q4 _ hS (by decide) jV.J).mono ?_;rintro _ w8 ⟨rfl,ht,hx⟩;have qM:=I hx;have oC:=I (dS.J.trans ht);have qF:=I (ht.blk qN.J fun h=>by omega);have mE:=I (ht.blk ql.J fun h=>by omega);have nT:=I (uu.J.mv ht fun k hk _=>by omega);clear ht hx jV dS qN ql uu J8;go_wp2_with fail
     generalize bR cO (aM 62 q4)=cc at*;obtain⟨⟨ks,tx⟩,q9⟩:=cc;refine(Gb.J _ mE.J qM.J).mono ?_;rintro _ w9 ⟨rfl,A3,n3,KW,hb,htl,hst,ht,hx⟩;have jc:=I (show Xq S g q9 w9 from hx);have bU:=I (show Touch (fun b=>b=g) w w9 from oC.J.trans' ht fun k hk=>hk.elim .inl fun h=>.inr (by have:=nU.J;omega));have uo:=I (ht.blk qF.J fun h=>by have:=nU.J;omega);have jN:=I (show O w9 E0 45 #[.string ⟨nm.toArray⟩,.slice A n1 cp,.slice A3 n3 KW,.string ⟨tx.toArray⟩]from hb);have iE:=I (nT.J.mv ht fun k hk _=>by omega);have gX:=I (show tx.length≤maxLen from htl);have hs6:=qF.J.lt;have hs7:=mE.J.lt;have HST:=I (show aZ (fun k=>k<w.heap.size+1) w9 fun W=>dL W ks (.slice A3 n3 KW)from hst.mono fun i _ hi=>by omega);clear ht hx hb htl hst qM oC qF mE nT Gb hs6 hs7;obtain⟨e0,e1,e2,e3,_,_,_,_,_⟩:=O.four jN.J;go_wp2_with fail
     refine(rG S ⟨nm.toArray⟩ g q9 _ hS (by have:=kr.J;show nm.length≤_;omega) HNZ.J jc.J).mono ?_;rintro _ qm ⟨rfl,ht,hx⟩;have ji:=I (show Xq S g (bA nm q9) qm from hx);have mq:=I (bU.J.trans ht);have Ui:=I (ht.blk uo.J fun h=>by omega);have pz:=I (ht.blk jN.J fun h=>by omega);have yA:=I (iE.J.mv ht fun k hk _=>by omega);have abv:=I (HST.J.step ht (fun i _ hi=>by omega) fun i _ hi=>by exact hi);clear ht hx jc bU uo jN iE HST e0 e1 e2 e3;go_wp2_with fail
     refine(pX S g (bA nm q9) _ hS ji.J).mono ?_;rintro _ rO ⟨rfl,ht,hx⟩;have sN:=I hx;have wF:=I (mq.J.trans ht);have ad4:=I (ht.blk Ui.J fun h=>by omega);have Ew:=I (ht.blk pz.J fun h=>by omega);have Ex:=I (yA.J.mv ht fun k hk _=>by omega);have abw:=I (abv.J.step ht (fun i _ hi=>by omega) fun i _ hi=>by exact hi);clear ht hx ji mq Ui pz yA abv;go_wp2_with fail
     refine(oI S g 62 (bB (bA nm q9)) _ hS (by decide) sN.J).mono ?_;rintro _ xh ⟨rfl,ht,hx⟩;have agu:=I hx;have agv:=I (wF.J.trans ht);have aav:=I (ht.blk ad4.J fun h=>by omega);have agw:=I (ht.blk Ew.J fun h=>by omega);have agx:=I (Ex.J.mv ht fun k hk _=>by omega);have aeF:=I (abw.J.step ht (fun i _ hi=>by omega) fun i _ hi=>by exact hi);clear ht hx sN wF ad4 Ew Ex abw;have IW:=I (Jt (nm:=nm) (aB:=aB) (ks:=ks) (t:=tx) aav.J agv.J agu.J (agx.J.NK.mono fun i _ hi=>by have:=nU.J;omega) aeF.J (by have:=kr.J;simp only[maxLen];omega) gX.J hg0);obtain⟨e0,e1,e2,e3,_,_,_,_,_⟩:=O.four agw.J;obtain⟨_,_,_,_,x0,x1,x2,x3,hlz⟩:=O.four aav.J;obtain⟨t0,t1,t2,t3,_,_,_,_,_⟩:=O.four (aav.J.dJ (.string ⟨nm.toArray⟩) (.slice A n1 cp) (.slice A3 n3 KW) (.string ⟨tx.toArray⟩));simp only[aH]at t0 t1 t2 t3;go_wp2
     refine bodyPost_ret (v:=.agg #[.string ⟨nm.toArray⟩,.slice A n1 cp,.slice A3 n3 KW,.string ⟨tx.toArray⟩]) (by simp[results,Tryz.results68,go_sem,t0,t1,t2,t3]) rfl ?_;rw[aG.J];exact IW.J
end
end Go.Proofs.YtnbeemkfmlfgfaaGreatDoor
