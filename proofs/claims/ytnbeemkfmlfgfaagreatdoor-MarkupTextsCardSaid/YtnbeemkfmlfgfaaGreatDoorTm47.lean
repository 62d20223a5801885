/- Part 47 of 48 of a proof. No condition. -/
import Derived.Test.YtnbeemkfmlfgfaaGreatDoorTm46
set_option maxRecDepth 100000
set_option maxHeartbeats 8000000
namespace Go.Proofs.YtnbeemkfmlfgfaaGreatDoor
namespace Xp
open U (E aA Bytes letter inner aK jB cB rz eH eO dY eG bG dQ pM proper jI count aj depth aP)
theorem uQ(c:Nat):∀(l p:Bytes) (x:UInt8) (l2:Bytes) (c2:Nat),bn c p l=.ok x l2 c2→aK x=true
 |[],p,x,l2,c2,h=>by rw[bn]at h;cases h
 |b::l,p,x,l2,c2,h=>by
  cases h1:bI.find? (fun x=>x.1==p++[b])with
  |some y=>
   rw[tV h1]at h;have hm:=List.mem_of_find?_eq_some h1;injection h with e1
   subst e1;simp only[bI,List.mem_cons,List.not_mem_nil,or_false]at hm
   rcases hm with rfl|rfl|rfl|rfl<;>decide
  |none=>
   cases h2:bI.any (fun x=>pre (p++[b]) x.1)with
   |true=>
    rw[yO h1 h2]at h;exact uQ c l _ x l2 c2 h
   |false=>
    rw[wu h1 h2]at h;cases h
theorem Bw{n c:Nat}{l:Bytes}{x:UInt8}{l2:Bytes}{c2:Nat}(h:gZ n c l=.ok x l2 c2):aK x=true:=by
 cases l with
 |nil=>cases h
 |cons b l=>
  have h:(if 200≤n∨b=60∨U.aK b=false then Rs.bad (b::l)else if b=38 then bn c [] (b::l)else .ok b l c)=.ok x l2 c2:=h;split at h
  ·cases h
  ·rename_i hn
   split at h
   ·exact uQ c _ _ _ _ _ h
   ·cases h
    simp only[not_or]at hn;simpa using hn.2.2
theorem vG(q:UInt8)(c:Nat):∀(f:Nat) (acc l v l2:Bytes) (c2:Nat),acc.all aK=true→acc.length≤200→bY q c f acc l=.ok v l2 c2→bG v=true
 |0,_,_,_,_,_,_,_,h=>by rw[bY]at h;cases h
 |f+1,acc,[],_,_,_,_,_,h=>by rw[bY]at h;cases h
 |f+1,acc,b::l,v,l2,c2,h1,h2,h=>by
  rw[bY]at h;split at h
  ·cases h
   unfold bG;rw[h1,decide_eq_true h2];rfl
  ·cases hc:gZ acc.length c (b::l)with
   |bad l3=>rw[hc]at h;cases h
   |ok x l3 c3=>
    rw[hc]at h;have hn:=BH hc;exact vG q c f (acc++[x]) l3 v l2 c2 (by rw[List.all_append,h1,List.all_cons,Bw hc];rfl) (by rw[List.length_append];simp only[List.length_cons,List.length_nil];omega) h
theorem yu{c:Nat}{l x l1:Bytes}{c1:Nat}(h:jy c l=.ok x l1 c1):eG x=true:=by
 cases l with
 |nil=>cases h
 |cons b l=>
  replace h:(if letter b=true then Rs.ok ((b::l).takeWhile inner) ((b::l).dropWhile inner) c else .bad (b::l))=.ok x l1 c1:=h;split at h
  ·rename_i hb
   cases h;rw[List.takeWhile_cons,if_pos (sG hb)];show(letter b&&(l.takeWhile inner).all inner)=true;rw[hb,Bool.true_and];clear hb
   induction l with
   |nil=>rfl
   |cons a l ih=>
    rw[List.takeWhile_cons];split
    ·rename_i ha
     rw[List.all_cons,ha,ih];rfl
    ·rfl
  ·cases h
theorem Fy{ats:aA}{c:Nat}{l:Bytes}{x:Bytes×Bytes}{l1:Bytes}{c1:Nat}(h:gH ats c l=.ok x l1 c1):eG x.1=true∧bG x.2=true∧ats.any (fun y=>y.1==x.1)=false:=by
 cases hn:jy c l with
 |bad l2=>rw[sJ hn]at h;cases h
 |ok nm l2 c2=>
  rw[ve hn]at h;cases l2 with
  |nil=>cases h
  |cons b l3=>
   have h:(if b≠61∨ats.any (fun x=>x.1==nm)=true then Rs.bad (b::l3)else uL nm c (aL 34 c l3))=.ok x l1 c1:=h;split at h
   ·cases h
   ·rename_i ha
    cases he:aL 34 c l3 with
    |bad l4=>rw[he]at h;cases h
    |ok u l4 c4=>
     rw[he]at h;have h:uK nm c (fZ 34 c [] l4)=.ok x l1 c1:=h;cases ht:fZ 34 c [] l4 with
     |bad l5=>rw[ht]at h;cases h
     |ok v l5 c5=>
      rw[ht]at h;cases h;simp only[not_or]at ha;exact⟨yu hn,vG 34 c _ [] l4 v l5 c5 rfl (by simp) ht,by rw[←Bool.not_eq_true];exact ha.2⟩
theorem Bz{ats:aA}{x:Bytes×Bytes}(h:dQ ats=true)(h1:eG x.1=true)(h2:bG x.2=true)(h3:ats.any (fun y=>y.1==x.1)=false):dQ (ats++[x])=true:=by
 unfold dQ at h⊢;simp only[Bool.and_eq_true,decide_eq_true_eq]at h⊢;refine⟨by rw[List.all_append,h.1,List.all_cons,h1,h2];rfl,?_⟩;rw[List.map_append,List.nodup_append];refine⟨h.2,by simp,fun a ha b hb=>?_⟩;obtain⟨y,hy,rfl⟩:=List.mem_map.1 ha;obtain rfl:b=x.1:=by simpa using hb
 intro he;rw[List.any_eq_false]at h3;exact h3 y hy (by simpa using he)
theorem yw(c:Nat):∀(f:Nat) (ats:aA) (l:Bytes) (p:aA×Bool) (l1:Bytes) (c1:Nat),dQ ats=true→ats.length≤8→iK c f ats l=.ok p l1 c1→dQ p.1=true∧p.1.length≤8
 |0,_,_,_,_,_,_,_,h=>by rw[iK]at h;cases h
 |f+1,ats,l,p,l1,c1,h1,h2,h=>by
  rw[iK]at h;cases hd:l.dropWhile white with
  |nil=>rw[hd]at h;cases h
  |cons b l2=>
   rw[hd]at h
   dsimp only at h
   split at h
   ·cases he:aL 62 c l2 with
    |bad l3=>rw[he]at h;cases h
    |ok u l3 c3=>
     rw[he]at h;cases h;exact⟨h1,h2⟩
   ·split at h
    ·cases h
     exact⟨h1,h2⟩
    ·split at h
     ·rename_i hc
      cases ha:gH ats c (b::l2)with
      |bad l3=>rw[ha]at h;cases h
      |ok a l3 c3=>
       rw[ha]at h;obtain⟨a1,a2,a3⟩:=Fy ha;exact yw c f (ats++[a]) l3 p l1 c1 (Bz h1 a1 a2 a3) (by rw[List.length_append];simp only[List.length_cons,List.length_nil];omega) h
     ·cases h
def Good(n:Nat)(c:Nat)(e:E)(c1:Nat):Prop:=proper e=true∧depth e≤n∧c1=c+count e∧c1≤3000
theorem zX{n:Nat}{el:Bytes→Nat→Rs E}(hel:∀l c e l1 c1,el l c=.ok e l1 c1→Good n c e c1):∀(f:Nat) (ks:List E) (l:Bytes) (c:Nat) (ks':List E) (l1:Bytes) (c1:Nat),c≤3000→jI ks=true→aP ks≤n→fG el f ks l c=.ok ks' l1 c1→jI ks'=true∧aP ks'≤n∧c1+aj ks=c+aj ks'∧c1≤3000
 |0,_,_,_,_,_,_,_,_,_,h=>by rw[fG]at h;cases h
 |f+1,ks,[],c,ks',l1,c1,_,_,_,h=>by rw[fG]at h;cases h
 |f+1,ks,b::l,c,ks',l1,c1,h0,h1,h2,h=>by
  rw[fG]at h;split at h
  ·cases h
   exact⟨h1,h2,rfl,h0⟩
  ·cases he:el (b::l) c with
   |bad l2=>rw[he]at h;cases h
   |ok e l2 c2=>
    rw[he]at h
    dsimp only at h
    obtain⟨g1,g2,g3,g4⟩:=hel _ _ _ _ _ he;cases hd:l2.dropWhile white with
    |nil=>rw[hd]at h;cases h
    |cons b2 l3=>
     rw[hd]at h
     dsimp only at h
     split at h
     ·obtain⟨i1,i2,i3,i4⟩:=zX hel f (ks++[e]) l3 c2 ks' l1 c1 g4 (by rw[U.kZ]at h1⊢;rw[List.all_append,h1,List.all_cons,g1];rfl) (by rw[U.vZ];simp only[aP];omega) h
      refine⟨i1,i2,?_,i4⟩;rw[U.Cj]at i3;simp only[aj]at i3;omega
     ·cases h
theorem BA{n:Nat}{el:Bytes→Nat→Rs E}(hel:∀l c e l1 c1,el l c=.ok e l1 c1→Good n c e c1){nm l:Bytes}{c:Nat}{q:List E×Bytes}{l1:Bytes}{c1:Nat}(h0:c≤3000)(h:aD el nm l c=.ok q l1 c1):
  jI q.1=true∧aP q.1≤n∧c1=c+aj q.1∧c1≤3000∧bG q.2=true∧(q.2.isEmpty||q.1.isEmpty)=true:=by
 unfold aD at h
 have hws:bH (l.takeWhile white)=true→bG (l.takeWhile white)=true:=by
  intro hs;unfold bH at hs;rw[Bool.and_eq_true]at hs;unfold bG;rw[hs.2,Bool.and_true,List.all_eq_true];intro x hx;have:=List.all_eq_true.1 hs.1 x hx;rw[beq_iff_eq]at this;subst this;decide
 cases hd:l.dropWhile white with
 |nil=>rw[hd]at h;cases h
 |cons b l2=>
  rw[hd]at h
  dsimp only at h
  split at h
  ·cases hk:fG el (l2.length+1) [] l2 c with
   |bad l3=>rw[hk]at h;cases h
   |ok ks l3 c3=>
    rw[hk]at h
    dsimp only at h
    obtain⟨k1,k2,k3,k4⟩:=zX hel _ [] l2 c ks l3 c3 h0 rfl (Nat.zero_le _) hk;cases he:fe nm c3 l3 with
    |bad l4=>rw[he]at h;cases h
    |ok u l4 c4=>
     rw[he]at h;cases h;refine⟨k1,k2,by simpa[aj]using k3,k4,?_,?_⟩
     ·dsimp only
      split
      ·rename_i hb
       rw[Bool.and_eq_true]at hb;exact hws hb.1
      ·rfl
     ·dsimp only
      split
      ·rename_i hb
       rw[Bool.and_eq_true]at hb;rw[hb.2,Bool.or_true]
      ·rfl
  ·split at h
   ·cases h
   ·rename_i hs
    cases ht:bY 60 c ((b::l2).length+1) (l.takeWhile white) (b::l2)with
    |bad l3=>rw[ht]at h;cases h
    |ok t l3 c3=>
     rw[ht]at h
     dsimp only at h
     have hs:bH (l.takeWhile white)=true:=by simpa using hs
     have hv:=hws hs;unfold bG at hv;simp only[Bool.and_eq_true,decide_eq_true_eq]at hv;have hvt:=vG 60 c _ _ _ _ _ _ hv.1 hv.2 ht;cases he:fe nm c (l3.drop 1)with
     |bad l4=>rw[he]at h;cases h
     |ok u l4 c4=>
      rw[he]at h;cases h;exact⟨rfl,Nat.zero_le _,rfl,h0,hvt,by simp⟩
theorem yx{nm t:Bytes}{ats:aA}{ks:List E}(h1:eG nm=true)(h2:bG t=true)(h3:(t.isEmpty||ks.isEmpty)=true)(h4:ats.length≤8)(h5:dQ ats=true)(h6:jI ks=true):proper (.mk nm ats ks t)=true:=by
 rw[U.mX];show(eG nm&&bG t&&(t.isEmpty||ks.isEmpty)&&decide (ats.length≤8)&&dQ ats&&jI ks)=true;rw[h1,h2,h3,decide_eq_true h4,h5,h6];rfl
theorem uR:∀(n:Nat) (l:Bytes) (c:Nat) (e:E) (l1:Bytes) (c1:Nat),au n l c=.ok e l1 c1→Good n c e c1
 |0,l,c,e,l1,c1,h=>by rw[au]at h;cases h
 |n+1,[],c,e,l1,c1,h=>by rw[au]at h;cases h
 |n+1,b::l,c,e,l1,c1,h=>by
  rw[au]at h;split at h
  ·cases h
  ·rename_i hb
   simp only[not_or]at hb;have hb1:letter b=true:=by simpa using hb.1
   have hn:eG ((b::l).takeWhile inner)=true:=yu (c:=c) (show jy c (b::l)=.ok _ ((b::l).dropWhile inner) c from FE hb1);cases ha:iK (c+1) 9 [] ((b::l).dropWhile inner)with
   |bad l2=>rw[ha]at h;cases h
   |ok p l2 c2=>
    rw[ha]at h;obtain⟨ats,z⟩:=p;obtain⟨a1,a2⟩:=yw (c+1) 9 [] _ _ _ _ rfl (Nat.zero_le _) ha;cases z with
    |true=>
     cases h;refine⟨?_,?_,?_,by omega⟩
     ·exact yx hn rfl rfl a2 a1 rfl
     ·rw[depth,aP];omega
     ·rw[count,aj]
    |false=>
     dsimp only at h
     cases hc:aD (au n) ((b::l).takeWhile inner) l2 (c+1)with
     |bad l3=>rw[hc]at h;cases h
     |ok q l3 c3=>
      rw[hc]at h;obtain⟨ks,t⟩:=q;cases h;obtain⟨k1,k2,k3,k4,k5,k6⟩:=BA (uR n) (by omega) hc;refine⟨?_,?_,?_,k4⟩
      ·exact yx hn k5 k6 a2 a1 k1
      ·rw[depth];show aP ks+1≤n+1;have:aP ks≤n:=k2;omega
      ·rw[count];have:c1=c+1+aj ks:=k3;omega
theorem xI{l:Bytes}{e:E}{l1:Bytes}{c:Nat}(h:dV l=.ok e l1 c):U.valid e=true:=by
 unfold dV at h;cases he:aL 60 0 (l.dropWhile white)with
 |bad l2=>rw[he]at h;cases h
 |ok u l2 c2=>
  rw[he]at h
  dsimp only at h
  cases hl:au 64 l2 0 with
  |bad l3=>rw[hl]at h;cases h
  |ok e' l3 c3=>
   rw[hl]at h
   dsimp only at h
   obtain⟨g1,g2,g3,g4⟩:=uR 64 l2 0 e' l3 c3 hl;cases hd:l3.dropWhile white with
   |nil=>
    rw[hd]at h;cases h;unfold U.valid;rw[g1,decide_eq_true g2,decide_eq_true (show count e≤3000 by omega)];rfl
   |cons b l4=>rw[hd]at h;cases h
end Xp
section
open Go.ChangeShapes Go.WideShapes Go.ChangeAt Go.RowKit
open Go.ChangeMaps (open_string shut_string)
open Tr (Nd)
open U (E aA eO kX jr nJ)
open Xp (dP dV)
theorem Dn(T:List UInt8)(h:(dP T).2.2=0):U.count (dP T).1≤3000:=by
 unfold dP at h⊢;cases hd:dV T with
 |bad l=>rw[hd]at h;exact absurd h (by show¬(3:Int)=0;decide)
 |ok e l c=>
  have hv:=Xp.xI hd;unfold U.valid at hv;simp only[Bool.and_eq_true,decide_eq_true_eq]at hv;exact hv.1.2
theorem yC(S:ByteArray)(w:World)(hS:S.size≤1000000000000):
  Calls Tryz.prog 21 #[.string S] w fun x w'=>∃v,x=.returned (.tuple #[v,.int .i64 (lI S.data.toList).2.1,.int .i64 (lI S.data.toList).2.2])∧kR w w' (lI S.data.toList).1 v:=by
 have Lr:=I (fun(W:World)=>E8 S W hS);have vT:=I (show lI S.data.toList=if(dP S.data.toList).2.2=0 then kX (dP S.data.toList).1 else(jr,(dP S.data.toList).2.1,(dP S.data.toList).2.2)from rfl);have adP:=I (Nat.lt_irrefl w.heap.size);have HB0:=I (O.new w 31 Y);have dh:=I ((M (fun _=>False) w).alloc (.cells Y 31));have vK:=I (fun(h:(dP S.data.toList).2.2=0)=>Dn S.data.toList h);generalize lI S.data.toList=R at*;generalize dP S.data.toList=P at*;obtain⟨e,pat,per⟩:=P;clear hS;go_enter Tryz.func21,Tryz.ntmps21;go_wp2_with fail
 generalize (w.alloc (.cells Y 31))=w0 at HB0 dh⊢;refine(Lr.J _).mono ?_;rintro _ w1 ⟨va,vk,rfl,hf1,wK⟩;have aF:=I (dh.J.trans hf1);have HB1:=I (hf1.blk HB0.J fun h=>h);have Aw:=I wK.now;obtain⟨A,ca,hva⟩:=wK.now.1.slice;obtain⟨B,cb,hvk⟩:=wK.now.2.1.slice;clear hf1 wK dh HB0 Lr;obtain⟨n,ats,ks,t⟩:=e;replace hva:va=.slice A ats.length ca:=hva;replace hvk:vk=.slice B ks.length cb:=hvk;subst hva;subst hvk;unfold ev;simp only[E.name,E.text]
 by_cases h0:per=0
 ·subst h0
  have gm:=I (show R=kX (.mk n ats ks t) by rw[vT.J];rfl)
  have yK:=I (fun(W:World) (h:bN W (.mk n ats ks t) (.slice A ats.length ca) (.slice B ks.length cb))=>show Calls Tryz.prog 41 #[ev (.mk n ats ks t) (.slice A ats.length ca) (.slice B ks.length cb)] W fun x w'=>∃v,x=.returned (.tuple #[v,.int .i64 (kX (.mk n ats ks t)).2.1,.int .i64 (kX (.mk n ats ks t)).2.2])∧kR W w' (kX (.mk n ats ks t)).1 v by
   rw[←U.RJ];exact GH (.mk n ats ks t) _ _ W h (by have:=vK.J rfl;exact Nat.le_trans this (by decide)))
  clear vT vK;rw[←gm.J]at yK;clear gm;unfold ev at yK;simp only[E.name,E.text]at yK;obtain⟨⟨rk,rt,rc,rQ⟩,rat,WS⟩:=R;have sS:=I ((M (fun _=>False) w1).alloc (.cells #[.string ⟨n.toArray⟩,.slice A ats.length ca,.slice B ks.length cb,.string ⟨t.toArray⟩] 45));have jO:=I (O.new w1 45 #[.string ⟨n.toArray⟩,.slice A ats.length ca,.slice B ks.length cb,.string ⟨t.toArray⟩]);go_wp2_with fail
  have aY:=I (aF.J.trans sS.J);have HB2:=I (sS.J.blk HB1.J fun h=>h);have HR2:=I (Aw.J.fresh sS.J);clear aF HB1 Aw sS jO;generalize (w1.alloc (.cells #[.string ⟨n.toArray⟩,.slice A ats.length ca,.slice B ks.length cb,.string ⟨t.toArray⟩] 45))=w2 at aY HB2 HR2⊢;refine(yK.J _ HR2.J).mono ?_;rintro _ w3 ⟨v3,rfl,s3,rfl,hf3,zN,kE⟩;obtain⟨A3,c3,rfl⟩:=kE.now.slice;have bC:=I (aY.J.trans hf3);have HB3:=I (hf3.blk HB2.J fun h=>h);have gX:=I zN;have yH:=I HB2.J.lt;have HST:=I (show aZ (fun k=>k<w2.heap.size) w3 fun W=>aO W rQ (.slice A3 rQ.length c3)from kE);have hz2:=aY.J.size;clear hf3 kE zN;obtain⟨p0,p1,p2,p3,y0,y1,y2,y3,hg1⟩:=O.four HB3.J;unfold nv;simp only[Nd.kind,Nd.text,Nd.ai,Nd.kids];go_wp2_with fail
  obtain⟨r0,r1,r2,r3,_,_,_,_,_⟩:=O.four (HB3.J.dJ (.int .i64 rk) (.string ⟨rt.toArray⟩) (.int .i64 rc) (.slice A3 rQ.length c3));simp only[aH]at r0 r1 r2 r3;refine bodyPost_ret (v:=.tuple #[.agg #[.int .i64 rk,.string ⟨rt.toArray⟩,.int .i64 rc,.slice A3 rQ.length c3],.int .i64 rat,.int .i64 WS]) (by simp[results,Tryz.results21,go_sem,r0,r1,r2,r3]) rfl ?_;refine⟨_,rfl,.slice A3 rQ.length c3,rfl,Touch.aH bC.J (.inr (by omega)) _ _ _ _,gX.J,?_⟩;exact HST.J.step ((M (fun k=>k=w.heap.size) w3).aH (.inl rfl) _ _ _ _) (fun i _ hi=>by have hi:i=w.heap.size:=hi;have:=yH.J;omega) (fun i _ hi=>by omega)
 ·have gm:=I (show R=(jr,pat,per) by rw[vT.J];exact if_neg h0)
  have b0:(per==0)=false:=by simpa using h0
  have b1:(per !=0)=true:=by simpa using h0
  have sS:=I ((M (fun _=>False) w1).alloc (.cells #[.string ⟨n.toArray⟩,.slice A ats.length ca,.slice B ks.length cb,.string ⟨t.toArray⟩] 45));have aY:=I (aF.J.trans sS.J);have HB2:=I (sS.J.blk HB1.J fun h=>h);clear vT;obtain⟨p0,p1,p2,p3,y0,y1,y2,y3,hg1⟩:=O.four HB2.J;go_wp2_with fail
  obtain⟨r0,r1,r2,r3,_,_,_,_,_⟩:=O.four (HB2.J.dJ (.int .i64 0) (.string ⟨#[]⟩) (.int .i64 0) (.slice none 0 0));simp only[aH]at r0 r1 r2 r3;refine bodyPost_ret (v:=.tuple #[.agg Y,.int .i64 pat,.int .i64 per]) (by simp[results,Tryz.results21,go_sem,r0,r1,r2,r3]) rfl ?_;rw[gm.J];exact⟨_,rfl,pV _ _ (Touch.aH aY.J (.inr (by omega)) _ _ _ _)⟩
theorem wY(n:Nd)(sl:Value)(S:ByteArray)(w:World)(hr:gB w n.kids sl)(ht:n.text.length≤maxLen):
  Calls Tryz.prog 4 #[nv n sl,.string S] w fun e w'=>e=.returned (.bool true)∧ag w w':=by
 obtain⟨A,cap,rfl⟩:=hr.slice;have HR:=I hr;have HFW:=I (fun(W:World) (h:ag w W)=>QA n (.slice A n.kids.length cap) 150 W (HR.J.rep.fresh h) (by decide) (by decide));have yJ:=I (fun(hc:Tr.count n≤1000000) (W:World) (h:ag w W)=>yM n (.slice A n.kids.length cap) W (HR.J.rep.fresh h) ht hc);have qE:=I (fun(hc:Tr.count n≤1000) (W:World) (h:ag w W)=>zQ n (.slice A n.kids.length cap) W (HR.J.rep.fresh h) ht hc (fun hv=>U.yX n hv));have vT:=I (fun(h:S.size≤2000) (W:World)=>Jl S W (by omega));have wX:=I (fun(h:S.size≤2000) (W:World)=>yC S W (by omega))
 have pg:=I (fun(hv:Tr.valid n=true) (hc:Tr.count n≤1000) (W:World) (h:ag w W)=>show Calls Tryz.prog 20 #[nv n (.slice A n.kids.length cap)] W fun e w'=>∃v,e=.returned v∧iF W w' (nJ n) v by
  have hv':=hv;unfold Tr.valid at hv';simp only[Bool.and_eq_true]at hv';exact DK n hv'.1.1.2 hv'.1.1.1 _ W (by omega) (HR.J.fresh h))
 have qo:=I (fun(hv:Tr.valid n=true) (va vk:Value) (W:World) (h:bN W (nJ n) va vk)=>JK (nJ n) va vk W h (U.yX n hv));have Pq:=I (fun(hv:Tr.valid n=true)=>LA n hv);have BJ:=I (fun(hv:Tr.valid n=false)=>show nN n=[]∧lZ n=1 by unfold nN lZ;rw[hv];exact⟨rfl,rfl⟩);generalize lI S.data.toList=R at*;generalize nN n=X at*;generalize lZ n=ER at*;generalize eO (nJ n)=T at*;generalize nJ n=em at*;obtain⟨m,at1,er⟩:=R;clear hr ht;unfold nv at*;have HB0:=I (O.new w 31 #[.int .i64 n.kind,.string ⟨n.text.toArray⟩,.int .i64 n.ai,.slice A n.kids.length cap]);have dh:=I ((M (fun _=>False) w).alloc (.cells #[.int .i64 n.kind,.string ⟨n.text.toArray⟩,.int .i64 n.ai,.slice A n.kids.length cap] 31));go_enter Tryz.func4,Tryz.ntmps4;go_wp2_with fail
 generalize (w.alloc (.cells #[.int .i64 n.kind,.string ⟨n.text.toArray⟩,.int .i64 n.ai,.slice A n.kids.length cap] 31))=w0 at HB0 dh⊢;refine(Gp _).mono ?_;rintro _ w1 ⟨rfl,hf1⟩;have aF:=I (dh.J.trans hf1);have HB1:=I (hf1.blk HB0.J fun h=>h);clear hf1 dh HB0;obtain⟨q0,q1,q2,q3,_⟩:=O.four HB1.J;go_wp2_with fail
 refine(HFW.J _ aF.J).mono ?_;rintro _ w2 ⟨rfl,hf2⟩;have aY:=I (aF.J.trans hf2);have HB2:=I (hf2.blk HB1.J fun h=>h);clear hf2 aF HB1 q0 q1 q2 q3;cases h1:decide ((Tr.count n:Int)≤150)with
 |false=>
  go_wp2
  go_ret;exact⟨rfl,aY.J⟩
 |true=>
 have HC:=I (show Tr.count n≤150 by have:=of_decide_eq_true h1;omega);clear h1
 by_cases c1:2000<S.size
 ·have b1:decide ((2000:Int)<(S.size:Int))=true:=dT (by omega)
  have Yf:decide (2000<S.size)=true:=dT c1;go_wp2
  go_ret;exact⟨rfl,aY.J⟩
 have b1:decide ((2000:Int)<(S.size:Int))=false:=dF (by omega);have Yf:decide (2000<S.size)=false:=dF c1;have uO:=I (show S.size≤2000 by omega);clear c1;obtain⟨q0,q1,q2,q3,_⟩:=O.four HB2.J;go_wp2_with fail
 clear b1 Yf;refine(qE.J (by have:=HC.J;omega) _ aY.J).mono ?_;rintro _ w3 ⟨rfl,hf3⟩;have bC:=I (aY.J.trans hf3);have HB3:=I (hf3.blk HB2.J fun h=>h);clear hf3 aY HB2 q0 q1 q2 q3 qE;obtain⟨q0,q1,q2,q3,_⟩:=O.four HB3.J;go_wp2_with fail
 refine(yJ.J (by have:=HC.J;omega) _ bC.J).mono ?_;rintro _ w4 ⟨rfl,jh⟩;have dw:=I (bC.J.trans jh);have iI:=I (jh.blk HB3.J fun h=>h);clear jh bC HB3 q0 q1 q2 q3 yJ;obtain⟨q0,q1,q2,q3,_⟩:=O.four iI.J;cases hv:Tr.valid n
 focus
  have hx:=BJ.J hv;obtain⟨hx1,hx2⟩:=hx;subst hx1;subst hx2;have bT:=dw;clear Pq BJ hv pg qo iI;go_wp2_with fail
  clear q0 q1 q2 q3
 rotate_left
 focus
  have hx:=Pq.J hv;have HV:=I hv;obtain⟨hx1,hx2⟩:=hx;subst hx1;subst hx2;clear Pq BJ hv;go_wp2_with fail
  refine(pg.J HV.J (by have:=HC.J;omega) _ dw.J).mono ?_;rintro _ w5 ⟨v,rfl,va,vk,hev,iJ,Dp⟩;subst hev;have Aw:=I Dp.now;obtain⟨Ba,da,hua⟩:=Dp.now.1.slice;obtain⟨Bk,dk,huk⟩:=Dp.now.2.1.slice;subst hua huk;have dA:=I (dw.J.trans iJ);clear iJ Dp dw iI q0 q1 q2 q3;have si:=I (qo.J HV.J _ _ _ Aw.J);clear pg qo;obtain⟨en,ea,ek,et⟩:=em;unfold ev at*;simp only[E.name,E.attrs,E.kids,E.text]at*;go_wp2_with fail
  refine si.J.mono ?_;rintro _ w6 ⟨rfl,bu⟩;have bT:=I (dA.J.trans bu);clear bu dA si Aw;go_wp2_with fail
 all_goals
  refine(vT.J uO.J _).mono ?_;rintro _ w7 ⟨v7,rfl,s7,rfl,Yg,_,Ii⟩;obtain⟨A7,c7,rfl⟩:=Ii.now.slice;have eZ:=I (bT.J.trans Yg);have qN:=I (show aO w7 m.kids (.slice A7 m.kids.length c7)from Ii.now);clear Yg Ii bT vT;have Pt:=I (O.new w7 31 #[.int .i64 m.kind,.string ⟨m.text.toArray⟩,.int .i64 m.ai,.slice A7 m.kids.length c7]);have Pv:=I ((M (fun _=>False) w7).alloc (.cells #[.int .i64 m.kind,.string ⟨m.text.toArray⟩,.int .i64 m.ai,.slice A7 m.kids.length c7] 31));unfold nv;go_wp2_with fail
  have eP:=I (eZ.J.trans Pv.J);have qF:=I (qN.J.fresh Pv.J);clear eZ qN Pv;generalize (w7.alloc (.cells #[.int .i64 m.kind,.string ⟨m.text.toArray⟩,.int .i64 m.ai,.slice A7 m.kids.length c7] 31))=w8 at Pt eP qF⊢;refine(wX.J uO.J _).mono ?_;rintro _ w9 ⟨v9,rfl,s9,rfl,fE,_,lY⟩;obtain⟨A9,c9,rfl⟩:=lY.now.slice;have jd:=I (eP.J.trans fE);have uo:=I (qF.J.fresh fE);have jN:=I (fE.blk Pt.J fun h=>h);have Yh:=I (show aO w9 m.kids (.slice A9 m.kids.length c9)from lY.now);clear fE lY eP qF Pt wX;have Yi:=I (O.new w9 31 #[.int .i64 m.kind,.string ⟨m.text.toArray⟩,.int .i64 m.ai,.slice A9 m.kids.length c9]);have Fz:=I ((M (fun _=>False) w9).alloc (.cells #[.int .i64 m.kind,.string ⟨m.text.toArray⟩,.int .i64 m.ai,.slice A9 m.kids.length c9] 31));have Yj:=I (jd.J.trans Fz.J);have Yk:=I (uo.J.fresh Fz.J);have Yl:=I (Yh.J.fresh Fz.J);have Ym:=I (Fz.J.blk jN.J fun h=>h);clear jd uo Yh jN Fz;obtain⟨p0,p1,p2,p3,_⟩:=O.four Ym.J;obtain⟨x0,x1,x2,x3,_⟩:=O.four Yi.J;unfold nv;go_wp2_with fail
  generalize (w9.alloc (.cells #[.int .i64 m.kind,.string ⟨m.text.toArray⟩,.int .i64 m.ai,.slice A9 m.kids.length c9] 31))=wt at Yj Yk Yl Ym Yi p0 p1 p2 p3 x0 x1 x2 x3⊢
  refine(show Calls Tryz.prog 15 #[nv m (.slice A7 m.kids.length c7),nv m (.slice A9 m.kids.length c9)] wt fun e w'=>e=.returned (.bool true)∧ag wt w' by
   have h3:=Kz _ m m (.slice A7 m.kids.length c7) (.slice A9 m.kids.length c9) wt (Nat.le_refl _) Yk.J Yl.J;rw[(Tr.Qy m m).2 rfl]at h3;exact h3).mono ?_
  rintro _ qm ⟨rfl,Pw⟩;have lJ:=I (Yj.J.trans Pw);clear Pw;go_wp2
  go_ret;exact⟨rfl,lJ.J⟩
theorem tJ(os:Os)(started:os.Started)(H:Type)(enc:TypeId×Value→H):
  ReturnsInHanded {} Tryz.checked os 4 .any (fun w args=>(Rows.markupTextsSpec.pre enc Tryz.prog Tryz.f4 Rows.markupTextsRow.domain false w args∧laidMetH Tryz.prog Rows.markupTextsRow.laid w)∧sizedMet enc Tryz.prog Tryz.f4 (OpenSpec.ofChange Rows.markupTextsSpec) false w args)
   (Rows.markupTextsSpec.post enc Tryz.prog Tryz.f4 false true false false):=by
 refine returnsInHanded_of_change_and (C:=Tryz.checked) (X:=fun w _=>laidMetH Tryz.prog Rows.markupTextsRow.laid w) (fun _ _ _ hh h=>h.of_heap hh) Tryz.ownKnob started (by kernel_rfl) Tryz.func4
  (ChangeSpec.witness_shaped (enc:=enc) (C:=Tryz.checked) (os:=os) (X:=fun w _=>laidMetH Tryz.prog Rows.markupTextsRow.laid w) false (World.laidAll Tryz.prog os Rows.markupTextsRow.laid) #[.agg Y,.string ⟨#[]⟩] 8 (World.laidAll_os _ _ _)
   (World.shaped_of_ZipB (by kernel_rfl) (by kernel_rfl)) (by kernel_rfl) (by kernel_rfl) (by kernel_rfl)
   (by rw[MakeChecks.laidMetH_plain _ _ _ (by kernel_rfl)];exact laidMet_laidAll _ (by kernel_rfl) (by kernel_rfl))) ?_
 intro W base args ds gs before hval0 hW _ _ _ _;have hval:∀(j:Nat) t v,Tryz.f4.params[j]?=some t→args[j]?=some v→Value.okWide Tryz.prog W .any base t v:=hval0;have hW':=hW;obtain⟨p,q,wM,hV,rfl,hfz,hnd⟩:=hW;have hA:DataW.TrodAll enc Tryz.prog W 0 (fun _=>true) true Tryz.f4.params.toList args.toList ds p:=wM;rw[Tryz.params4]at hA hval;obtain⟨v0,v1,d0,d1,p0,p1,rfl,rfl,rfl,h0,h1⟩:=trodAll_two hA;obtain⟨rfl,rfl⟩:=trodVars_none hV;obtain⟨n0,s0,rfl,r0,t0⟩:=JJ (hval 0 31 v0 rfl rfl) h0;obtain⟨s1,rfl,_,_,_⟩:=open_string Tryz.underlying9 (hval 1 9 v1 rfl rfl) h1;refine(wY n0 s0 s1 W r0 t0).mono fun e W' ⟨he,hw⟩=>?_
 exact⟨_,he,Kv Tryz.laidOut Tryz.underlying4 (by kernel_rfl) (by kernel_rfl) rfl rfl hW' hw⟩
theorem uF:Rows.MarkupTextsSaid:=
 OpenClaim.holds_of_wide 4 Tryz.f4 rfl rfl rfl rfl rfl rfl rfl ⟨rfl,rfl,rfl,rfl,rfl⟩ rfl rfl rfl rfl rfl (by kernel_rfl) Tryz.func4 (by kernel_rfl)
  (of_decide_eq_true (by kernel_rfl)) (by unfold Func.isWrapper;first|(rw[if_pos (by decide+kernel)];kernel_rfl)|(rw[if_neg (by decide+kernel)];exact⟨rfl,rfl⟩))
  (fun os started H enc _=>tJ os started H enc)
theorem MarkupTexts_card:Rows.MarkupTextsCardSaid:=
 Claim7.holds_tied_plain_at .later [] [.data,.pinned] true _ true uF (fun _ h=>by cases h) (by kernel_rfl) (fun _ h=>by cases h) markupTexts_row_tie rfl ⟨rfl,rfl⟩ (by kernel_rfl) (by kernel_rfl)
  (fun f fn hf hfn=>by
   obtain rfl:f=4:=Option.some.inj ((show Tryz.prog.funcNamed Rows.markupTextsRow.func=some 4 by kernel_rfl).symm.trans hf)|>.symm
   obtain rfl:fn=Tryz.f4:=(Option.some.inj (Tryz.func4.symm.trans hfn)).symm
   exact⟨by kernel_rfl,fun j t ht=>by
    have hm:=Array.mem_of_getElem? ht;have hall:(Tryz.f4.params.toList.all fun u=>!Tryz.prog.wantsStandIn u)=true:=by kernel_rfl
    exact(show Tryz.prog.wantsStandIn t=false by simpa using List.all_eq_true.1 hall t (by simpa using hm))⟩)
  (by kernel_rfl)
end
end Go.Proofs.YtnbeemkfmlfgfaaGreatDoor
