/- Part 37 of 46 of a proof. No condition. -/
import Derived.ArgAppend
import Derived.Test.YtcgbccfpcgaikaaGreatDoorYm36
set_option maxRecDepth 100000
set_option maxHeartbeats 400000
namespace Go.Proofs.YtcgbccfpcgaikaaGreatDoor
section
open Go.RowKit
open Tr (Nd)
open Lx (aB)
open Np (R cZ kE eB eP dA bV fD di pArg)
attribute [local go_sem] gD stillUpon
theorem Ps.mv{c:Cf}{k:Nat}{op:List Nat}{w w':World}{S:Nat→Prop}(h:Ps c k op w)(ht:Touch S w w')(hS:∀b,S b→b≠c.g∧c.W0.heap.size≤b∧∃t cs,t≠3∧af w b t cs):Ps c k op w':=by
 obtain⟨ov,hb,ho⟩:=h.box;refine⟨h.low.trans' ht fun i hi=>.inr (hS i hi).2.1,⟨ov,ht.blk hb fun hs=>(hS _ hs).1 rfl,aQ ho ht fun b hb' hs=>?_⟩,h.le⟩;obtain⟨_,cur,h2⟩:=fe ho hb';obtain⟨t,cs,h3,h4⟩:=(hS b hs).2.2;unfold af at h4;rw[h4]at h2;cases h2;exact h3 rfl
abbrev yM:Array Value:=ZN
abbrev ad2(n:Nd)(A:Option Addr)(cp:Nat):Array Value:=#[.int .i64 n.kind,.string ⟨n.text.toArray⟩,.int .i64 n.ah,.slice A n.kids.length cp]
theorem ac7(c:Cf)(hc:c.Good)(f:Nat)(IE:xN c f):Jn c (f+1):=by
 intro k op b w h hop hne;have HA:=hid (fun(w':World) (hf:ag w w')=>vE c hc k op b w' (h.fresh hf));have ac8:=hid IE;have htl:=hc.tl;have H:=hid h;have oJ:=hid hop;have hgl:c.g<w.heap.size:=h.Ap;have HW0:=hid h.low.size;have hr:eB c.en (f+1) b op (c.T.drop k)=if Np.dx b (c.T.drop k)then(pArg c.en f op (c.T.drop (k+1))).map some else .ok none (c.T.drop k):=by rw[eB,List.tail_drop]
 rw[hr]at hne⊢;have aY:=hid hne;refine Calls.via fun Q hQ=>?_
 have HQ:=hid hQ;have hlt:=@Er c k b;clear hne hr IE h hop hc hQ;cases hm:Np.dx b (c.T.drop k)with
 |false=>
  rw[hm]at HQ HA;rw[if_neg (by simp)]at HQ;clear hm hlt aY;go_enter Tryz.func110,Tryz.ntmps110;go_wp2_with fail
  refine(HA.out _ (((M _ _).alloc _).alloc _)).mono ?_;rintro _ w1 ⟨rfl,hf⟩;have HF:=hid (show ag w w1 from Touch.pre (Touch.pre hf));have iY:=hid (hf.blk ((af.new w 24 yM).alloc (.cells #[.int .i64 0,.int .i64 0] 49)) (fun h=>h));have jg:=hid (hf.blk (af.new2 w (.cells yM 24) 49 #[.int .i64 0,.int .i64 0]) (fun h=>h));obtain⟨p0,p1,p2,p3,y0,y1,y2,y3,lW⟩:=af.four iY.out;obtain⟨q0,q1,z0,z1,hlt1⟩:=af.two jg.out;clear hf;go_wp2_with fail
  have n1:=iY.out.gH (.int .i64 0) (.string ⟨#[]⟩) (.int .i64 0) (.slice none 0 0);have hne:w.heap.size≠w.heap.size+1:=by omega
  have n2:=jg.out.uJ (Ne.symm hne) (.int .i64 0) (.string ⟨#[]⟩) (.int .i64 0) (.slice none 0 0);have n3:=n1.nJ hne (.int .i64 0) (.int .i64 0);have n4:=n2.fT (.int .i64 0) (.int .i64 0);have hps:=((H.out.fresh HF.out).aO iY.out (by decide) (by omega) HW0.out (.int .i64 0) (.string ⟨#[]⟩) (.int .i64 0) (.slice none 0 0)).aH n2 (by decide) (by omega) (by have:=HW0.out;omega) (.int .i64 0) (.int .i64 0);have wO:Mp c.g c.W0.heap.size w _:=((Mp.fresh HF.out).aO (g:=w.heap.size) (.inr (Nat.le_refl _)) (.int .i64 0) (.string ⟨#[]⟩) (.int .i64 0) (.slice none 0 0)).aH (g:=w.heap.size+1) (.inr (by omega)) (.int .i64 0) (.int .i64 0);obtain⟨g0,g1,g2,g3,_⟩:=af.four n3;obtain⟨f0,f1,_⟩:=af.two n4;simp only[aH,aO]at g0 g1 g2 g3 f0 f1
  (try simp only[Exit.inBlock,Exit.then])
  refine bodyPost_ret (v:=.tuple #[.agg yM,.bool false,aG 0 0]) (by simp[aG,results,Tryz.results110,go_sem,f0,f1,g0,g1,g2,g3]) rfl ?_;exact HQ.out _ _ ⟨k,rfl,rfl,Nat.le_refl _,hps,wO⟩
 |true=>
  have HK:=hid (hlt hm);rw[hm]at HQ HA aY;rw[if_pos rfl]at HQ aY;clear hm hlt;have e3:((k:Int)+1)=((k+1:Nat):Int):=by simp
  have hk4:k≤100000:=by have:=HK.out;omega
  have HE:=hid e3;clear e3;unfold lV at HA;go_enter Tryz.func110,Tryz.ntmps110;unfold lV;go_wp2_with fail
  refine(HA.out _ (((M _ _).alloc _).alloc _)).mono ?_;rintro _ w1 ⟨rfl,hf⟩;have HF:=hid (show ag w w1 from Touch.pre (Touch.pre hf));have iY:=hid (hf.blk ((af.new w 24 yM).alloc (.cells #[.int .i64 0,.int .i64 0] 49)) (fun h=>h));have jg:=hid (hf.blk (af.new2 w (.cells yM 24) 49 #[.int .i64 0,.int .i64 0]) (fun h=>h));have Iu:=hid (H.out.fresh HF.out);obtain⟨ov,hb,_⟩:=Iu.out.box;have q1:=hb.cell 1;have z1:=hb.frozen 1;have hg1:=hb.lt;clear hf hb;go_wp2_with fail
  obtain⟨n1,n2⟩:=Iu.out.next HK.out _ HE.out;have jb:=hid n1;have iI:=hid ((Mp.fresh HF.out).trans n2);have Fy:=hid (iY.out.far (p:=⟨c.g,1,none⟩) (fun e=>by have e':w.heap.size=c.g:=e;omega) (.int .i64 ((k:Int)+1)));have tK:=hid (jg.out.far (p:=⟨c.g,1,none⟩) (fun e=>by have e':w.heap.size+1=c.g:=e;omega) (.int .i64 ((k:Int)+1)));have HL2:=hid (show w.heap.size+1<(w1.setCell ⟨c.g,1,none⟩ (.int .i64 ((k:Int)+1))).heap.size from tK.out.lt);generalize (w1.setCell ⟨c.g,1,none⟩ (.int .i64 ((k:Int)+1)))=w2 at jb iI Fy tK HL2⊢;clear n1 n2 q1 z1 hg1;refine(ac8.out (k+1) op _ jb.out (by have:=oJ.out;omega) (fun h=>aY.out (by rw[h];rfl))).mono ?_;intro e w3 hres;generalize pArg c.en f op (c.T.drop (k+1))=r at HQ aY hres;cases r with
  |out=>exact absurd rfl aY.out
  |ok a rest=>
   obtain⟨A,cp,k',rfl,htr,htx,hdr,hkk,hp,hm⟩:=hres;have jK:=hid htr;have kJ:=hid htx;have HDR:=hid hdr;have HKK:=hid hkk;have oL:=hid hp;have rM:=hid (iI.out.trans hm);have oF:=hid (hm.blk Fy.out (by omega) (by decide));have dY:=hid (hm.blk tK.out (by omega) (by decide));obtain⟨p0,p1,p2,p3,y0,y1,y2,y3,lW⟩:=af.four oF.out;obtain⟨q0,q1,z0,z1,hlt1⟩:=af.two dY.out;clear hm htr htx hdr hkk hp;unfold aG uQ;go_wp2_with fail
   have hne:w.heap.size≠w.heap.size+1:=by omega
   have n1:=(oF.out.gH (.int .i64 a.kind) (.string ⟨a.text.toArray⟩) (.int .i64 a.ah) (.slice A a.kids.length cp)).nJ hne (.int .i64 0) (.int .i64 0);have n2:=(dY.out.uJ (Ne.symm hne) (.int .i64 a.kind) (.string ⟨a.text.toArray⟩) (.int .i64 a.ah) (.slice A a.kids.length cp)).fT (.int .i64 0) (.int .i64 0);have iU:Mp c.g c.W0.heap.size w (aH (aO w3 w.heap.size (.int .i64 a.kind) (.string ⟨a.text.toArray⟩) (.int .i64 a.ah) (.slice A a.kids.length cp)) (w.heap.size+1) (.int .i64 0) (.int .i64 0)):=(rM.out.aO (g:=w.heap.size) (.inr (Nat.le_refl _)) (.int .i64 a.kind) (.string ⟨a.text.toArray⟩) (.int .i64 a.ah) (.slice A a.kids.length cp)).aH (g:=w.heap.size+1) (.inr (by omega)) (.int .i64 0) (.int .i64 0);have fA:Touch (fun k=>k=w.heap.size∨k=w.heap.size+1) w3 (aH (aO w3 w.heap.size (.int .i64 a.kind) (.string ⟨a.text.toArray⟩) (.int .i64 a.ah) (.slice A a.kids.length cp)) (w.heap.size+1) (.int .i64 0) (.int .i64 0)):=((yL _ _ (.int .i64 a.kind) (.string ⟨a.text.toArray⟩) (.int .i64 a.ah) (.slice A a.kids.length cp)).mono fun _ h=>.inl h).trans ((dS _ _ (.int .i64 0) (.int .i64 0)).mono fun _ h=>.inr h);simp only[aH,aO]at n1 n2 iU fA;generalize (World.setCell (World.setCell (World.setCell (World.setCell (World.setCell (World.setCell w3 ⟨w.heap.size,0,none⟩ _) ⟨w.heap.size,1,none⟩ _) ⟨w.heap.size,2,none⟩ _) ⟨w.heap.size,3,none⟩ _) ⟨w.heap.size+1,0,none⟩ _) ⟨w.heap.size+1,1,none⟩ _)=W4 at n1 n2 iU fA⊢;have HN1:=hid n1;have Sb:=hid n2;have Es:=hid iU;have nU:=hid fA;clear n1 n2 iU fA p0 p1 p2 p3 y0 y1 y2 y3 q0 q1 z0 z1;refine uV (fun W=>af W w.heap.size 24 (ad2 a A cp)∧af W (w.heap.size+1) 49 #[.int .i64 0,.int .i64 0]∧Touch (fun k=>k=w.heap.size∨k=w.heap.size+1) W4 W) [(0,true),(1,true),(2,false),(3,true),(4,false)] (by kernel_rfl) (fun _ _ d _ _ h=>by cases d<;>exact h) (by kernel_rfl) ⟨HN1.out.drewN 1,Sb.out.drewN 1,(M _ _).drewN 1⟩ ?_;refine ak rfl (fun K hK=>?_);rw[if_pos (by rfl)];refine⟨.agg (ad2 a A cp),fun W hW=>?_,hK _ ?_⟩
   ·obtain⟨h1,_,_⟩:=hW
    obtain⟨p0,p1,p2,p3,_⟩:=af.four h1;go_simp
   clear hK K;refine ak rfl (fun K hK=>?_);rw[if_pos (by rfl)];refine⟨.agg #[.int .i64 0,.int .i64 0],fun W hW=>?_,hK _ ?_⟩
   ·obtain⟨_,h1,_⟩:=hW
    obtain⟨p0,p1,_⟩:=af.two h1;go_simp
   clear hK K;obtain⟨p0,p1,p2,p3,y0,y1,y2,y3,lW⟩:=af.four (HN1.out.drewN 1);obtain⟨q0,q1,z0,z1,hlt1⟩:=af.two (Sb.out.drewN 1);refine aS rfl (fun K hK=>?_);go_wp2_with fail
   have hx:=Es.out.size;have m1:=(HN1.out.drewN 1).gH (.int .i64 a.kind) (.string ⟨a.text.toArray⟩) (.int .i64 a.ah) (.slice A a.kids.length cp);have m2:=(Sb.out.drewN 1).uJ (Ne.symm hne) (.int .i64 a.kind) (.string ⟨a.text.toArray⟩) (.int .i64 a.ah) (.slice A a.kids.length cp);have mt:Touch (fun k=>k=w.heap.size∨k=w.heap.size+1) W4 (aO (W4.drewN 1) w.heap.size (.int .i64 a.kind) (.string ⟨a.text.toArray⟩) (.int .i64 a.ah) (.slice A a.kids.length cp)):=((M _ _).drewN 1).trans ((yL _ _ (.int .i64 a.kind) (.string ⟨a.text.toArray⟩) (.int .i64 a.ah) (.slice A a.kids.length cp)).mono fun _ h=>.inl h);have mm:Mp c.g c.W0.heap.size w (aO (W4.drewN 1) w.heap.size (.int .i64 a.kind) (.string ⟨a.text.toArray⟩) (.int .i64 a.ah) (.slice A a.kids.length cp)):=(Es.out.drewN 1).aO (g:=w.heap.size) (.inr (Nat.le_refl _)) (.int .i64 a.kind) (.string ⟨a.text.toArray⟩) (.int .i64 a.ah) (.slice A a.kids.length cp);simp only[aO]at m1 m2 mt mm;generalize (World.setCell (World.setCell (World.setCell (World.setCell (W4.drewN 1) ⟨w.heap.size,0,none⟩ _) ⟨w.heap.size,1,none⟩ _) ⟨w.heap.size,2,none⟩ _) ⟨w.heap.size,3,none⟩ _)=W5 at m1 m2 mt mm⊢;refine hK _ _ ⟨m1,m2,mt⟩ ?_;have HN5:=hid m1;have eY:=hid m2;have iW:=hid mt;have Ga:=hid mm;clear hK K p0 p1 p2 p3 y0 y1 y2 y3 q0 q1 z0 z1 m1 m2 mt mm;refine ak rfl (fun K hK=>?_);rw[if_pos (by rfl)];refine⟨.bool true,fun W hW=>?_,hK _ ?_⟩
   ·go_simp
   clear hK K;obtain⟨q0,q1,z0,z1,hlt1⟩:=af.two eY.out;refine aS rfl (fun K hK=>?_);go_wp2_with fail
   have m1:=HN5.out.nJ hne (.int .i64 0) (.int .i64 0);have m2:=eY.out.fT (.int .i64 0) (.int .i64 0);have mt:Touch (fun k=>k=w.heap.size∨k=w.heap.size+1) W4 (aH W5 (w.heap.size+1) (.int .i64 0) (.int .i64 0)):=iW.out.trans ((dS _ _ (.int .i64 0) (.int .i64 0)).mono fun _ h=>.inr h);have mm:Mp c.g c.W0.heap.size w (aH W5 (w.heap.size+1) (.int .i64 0) (.int .i64 0)):=Ga.out.aH (g:=w.heap.size+1) (.inr (by omega)) (.int .i64 0) (.int .i64 0);simp only[aH]at m1 m2 mt mm;generalize (World.setCell (World.setCell W5 ⟨w.heap.size+1,0,none⟩ _) ⟨w.heap.size+1,1,none⟩ _)=W6 at m1 m2 mt mm⊢;refine hK _ _ ⟨m1,m2,mt⟩ ?_;clear hK K q0 q1 z0 z1;refine sj ?_;go_wp2_with fail
   obtain⟨g0,g1,g2,g3,_⟩:=af.four m1;obtain⟨f0,f1,_⟩:=af.two m2
   (try simp only[Exit.inBlock,Exit.then])
   refine bodyPost_ret (v:=.tuple #[uQ a A cp,.bool true,aG 0 0]) (by simp[aG,uQ,results,Tryz.results110,go_sem,f0,f1,g0,g1,g2,g3]) rfl ?_;have jq:=nU.out.trans mt
   have hps:=oL.out.mv jq (fun b hb=>by
    rcases hb with rfl|rfl
    ·exact⟨by omega,HW0.out,_,_,(by decide),oF.out⟩
    ·exact⟨by omega,by have:=HW0.out;omega,_,_,(by decide),dY.out⟩)
   have htr:=jK.out.mv jq (fun b _ _ hb hB=>by have:=HL2.out;rcases hb with rfl|rfl<;>omega);exact HQ.out _ _ ⟨A,cp,k',rfl,htr.base iI.out.size,kJ.out,HDR.out,by have:=HKK.out;omega,hps,mm⟩
end
section
open Go.RowKit
open Tr (Nd)
def Sc(w:World)(k:Nat):Prop:=∃cs fr,w.heap[k]?=some (.cells cs 24 fr)
theorem Sc.lt{w:World}{k:Nat}(h:Sc w k):k<w.heap.size:=by
 obtain⟨_,_,h⟩:=h;exact(Array.getElem?_eq_some_iff.1 h).1
def GS(D:Nat→Prop)(B0:Nat)(o:Option Nat)(w:World)(k:Nat):Prop:=o=some k∨D k∨k<B0∨¬Sc w k
def OV(D:Nat→Prop)(B0:Nat)(o:Option Nat)(w:World)(ks:List Nd)(cs:List Value):Prop:=∀W',Touch (GS D B0 o w) w W'→jh B0 W' ks cs
theorem GS.pre{D:Nat→Prop}{B0:Nat}{o o':Option Nat}{w w1 W':World}{S:Nat→Prop}(ht:Touch S w w1)(hS:∀k,S k→GS D B0 o w k)(ho:∀k,o'=some k→o=some k∨w.heap.size≤k)(hW:Touch (GS D B0 o' w1) w1 W'):Touch (GS D B0 o w) w W':=by
 refine⟨hW.os.trans ht.os,hW.tape.trans ht.tape,hW.output.trans ht.output,Nat.le_trans ht.size hW.size,fun i hi hn=>?_⟩;have e:=ht.block i hi fun hs=>hn (hS i hs)
 refine(hW.block i (Nat.lt_of_lt_of_le hi ht.size) fun hs=>hn ?_).trans e
 rcases hs with hs|hs|hs|hs
 ·rcases ho i hs with h1|h1
  ·exact .inl h1
  ·omega
 ·exact .inr (.inl hs)
 ·exact .inr (.inr (.inl hs))
 ·exact .inr (.inr (.inr fun⟨cs,fr,e2⟩=>hs ⟨cs,fr,by rw[e];exact e2⟩))
theorem OV.mv{D:Nat→Prop}{B0:Nat}{o:Option Nat}{w w1:World}{ks:List Nd}{cs:List Value}{S:Nat→Prop}(h:OV D B0 o w ks cs)(ht:Touch S w w1)(hS:∀k,S k→GS D B0 o w k):OV D B0 o w1 ks cs:=
 fun W' hW=>h W' (GS.pre ht hS (fun _ h=>.inl h) hW)
theorem OV.push{D:Nat→Prop}{B0 B1:Nat}{o o':Option Nat}{w w':World}{ks:List Nd}{cs:List Value}{a:Nd}{sl:Value}(h:OV D B0 o w ks cs)(hgr:w.grownBy w' o)(hv:∀k,o'=some k→o=some k∨w.heap.size≤k)(htr:aP B1 w a.kids sl)(hB1:B0≤B1)(hown:∀k,o=some k→k<B1)(hD:∀k,D k→k<B1)(htx:a.text.length≤maxLen):
  OV D B0 o' w' (ks++[a]) (cs++[.int .i64 a.kind,.string ⟨a.text.toArray⟩,.int .i64 a.ah,sl]):=fun W' hW=>by
 have hT:=GS.pre (o:=o) (Touch.grown (S:=fun k=>o=some k) (M _ w) hgr fun k hk=>.inl hk) (fun k hk=>.inl hk) hv hW;refine(h W' hT).append ⟨sl,[],rfl,⟨(htr.mv hT fun k cs fr hk hB he=>?_).base hB1,htx⟩,rfl⟩
 rcases hk with hk|hk|hk|hk
 ·have:=hown k hk;omega
 ·have:=hD k hk;omega
 ·omega
 ·exact hk ⟨_,_,he⟩
def Grow(D:Nat→Prop)(w:World)(B0 B:Nat)(ks:List Nd)(v:Value):Prop:=∃cs,w.ownsRow B 24 4 v ks.length cs∧OV D B0 v.ownBlock w ks cs
def Full(D:Nat→Prop)(w:World)(B0:Nat)(ks:List Nd)(v:Value):Prop:=∃cs,∀W',Touch (GS D B0 none w) w W'→Src W' 4 v ks.length cs∧jh B0 W' ks cs∧aP B0 W' ks v
theorem aP.full{B0:Nat}{w w1:World}{ks:List Nd}{v:Value}{D:Nat→Prop}(h:aP B0 w ks v)(hf:ag w w1)(hD:∀k,D k→w.heap.size≤k):Full D w1 B0 ks v:=by
 obtain⟨cs,h1,h2⟩:=h.src;refine⟨cs,fun W' hW=>?_⟩
 have hT:Touch (fun k=>k<B0∨¬Sc w k) w W':=by
  refine⟨hW.os.trans hf.os,hW.tape.trans hf.tape,hW.output.trans hf.output,Nat.le_trans hf.size hW.size,fun i hi hn=>?_⟩;have e:=hf.block i hi fun hs=>hs
  refine(hW.block i (Nat.lt_of_lt_of_le hi hf.size) fun hs=>hn ?_).trans e
  rcases hs with hs|hs|hs|hs
  ·cases hs
  ·have:=hD i hs;omega
  ·exact .inl hs
  ·exact .inr fun⟨cs,fr,e2⟩=>hs ⟨cs,fr,by rw[e];exact e2⟩
 have hno:∀k cs fr,(k<B0∨¬Sc w k)→B0≤k→w.heap[k]?≠some (.cells cs 24 fr):=fun k cs fr hk hB he=>by
  rcases hk with hk|hk
  ·omega
  ·exact hk ⟨_,_,he⟩
 refine⟨?_,h1.mv hT hno,h.mv hT hno⟩;obtain⟨A,c,e1,e2,e3⟩:=h2;refine⟨A,c,e1,e2,?_⟩;cases h with
 |nil A' cap=>
  cases e1;rw[List.length_nil,Nat.zero_mul,List.length_eq_zero_iff]at e2;subst e2;cases A with
  |none=>exact .inl ⟨rfl,rfl,rfl⟩
  |some a=>exact .inr ⟨a,rfl,fun j u hu=>by simp at hu⟩
 |row g cap _ sl hB hg hl=>
  cases e1
  rcases e3 with⟨e4,_⟩|⟨ad,e4,e5⟩
  ·cases e4
  ·cases e4
   obtain⟨ds,fr,hg⟩:=hg;refine .inr ⟨_,rfl,fun j u hu=>?_⟩;have e6:=e5 j u hu;rw[Addr.add_mid,Nat.zero_add]at e6⊢;exact hT.cell e6 fun hs=>hno g ds fr hs hB hg
theorem Full.mv{D:Nat→Prop}{B0:Nat}{w w1:World}{ks:List Nd}{v:Value}{S:Nat→Prop}(h:Full D w B0 ks v)(ht:Touch S w w1)(hS:∀k,S k→GS D B0 none w k):Full D w1 B0 ks v:=by
 obtain⟨cs,h⟩:=h;exact⟨cs,fun W' hW=>h W' (GS.pre ht hS (fun _ h=>.inl h) hW)⟩
theorem Full.tree{D:Nat→Prop}{B0:Nat}{w:World}{ks:List Nd}{v:Value}(h:Full D w B0 ks v):aP B0 w ks v:=by
 obtain⟨cs,h⟩:=h;exact(h w (M _ _)).2.2
theorem Full.fresh{D:Nat→Prop}{B0:Nat}{w w1:World}{ks:List Nd}{v:Value}(h:Full D w B0 ks v)(ht:ag w w1):Full D w1 B0 ks v:=h.mv ht fun _ h=>h.elim
theorem Grow.tree{D:Nat→Prop}{w:World}{B0 B:Nat}{ks:List Nd}{v:Value}(h:Grow D w B0 B ks v)(hB:B0≤B):aP B0 w ks v:=by
 obtain⟨cs,h1,h2⟩:=h;exact(h2 w (M _ _)).own hB h1
theorem Grow.nil(D:Nat→Prop)(w:World)(B0 B:Nat):Grow D w B0 B [] (.slice none 0 0):=⟨[],World.ownsRow_nil _ _ _ _,fun _ _=>rfl⟩
theorem Grow.mv{D:Nat→Prop}{w w1:World}{B0 B:Nat}{ks:List Nd}{v:Value}{S:Nat→Prop}(h:Grow D w B0 B ks v)(ht:Touch S w w1)(hB:B0≤B)(hD:∀k,D k→k<B)(hS:∀k,S k→D k∨k<B0∨¬Sc w k):Grow D w1 B0 B ks v:=by
 obtain⟨cs,h1,h2⟩:=h;refine⟨cs,aQ h1 ht fun k hk hs=>?_,h2.mv ht fun k hk=>.inr (hS k hk)⟩;obtain⟨h3,cur,h4⟩:=fe h1 hk
 rcases hS k hs with h5|h5|h5
 ·have:=hD k h5;omega
 ·omega
 ·exact h5 ⟨_,_,h4⟩
theorem Grow.fresh{D:Nat→Prop}{w w1:World}{B0 B:Nat}{ks:List Nd}{v:Value}(h:Grow D w B0 B ks v)(ht:ag w w1):Grow D w1 B0 B ks v:=by
 obtain⟨cs,h1,h2⟩:=h;exact⟨cs,aQ h1 ht fun k hk hs=>hs,h2.mv ht fun k hk=>hk.elim⟩
theorem Grow.slice{D:Nat→Prop}{w:World}{B0 B:Nat}{ks:List Nd}{v:Value}(h:Grow D w B0 B ks v):∃A cap,v=.slice A ks.length cap:=by
 obtain⟨cs,h1,_⟩:=h;exact mK h1
theorem PT.Sd{c:Cf}{k:Nat}{op:List Nat}{w:World}{b:Nat}(hp:Ps c k op w)(hk:PT c.g c.W0.heap.size w b):¬Sc w b:=by
 rintro⟨cs,fr,e⟩;obtain⟨ov,hb,_⟩:=hp.box
 rcases hk with rfl|⟨_,cs',fr',h3⟩
 ·unfold af at hb
  rw[hb]at e;cases e
 ·rw[h3]at e
  cases e
theorem Src.agt{w:World}{size m c g:Nat}{news:List Value}(h:Src w size (.slice (some ⟨g,0,none⟩) m c) m news):∀j u,news[j]?=some u→w.cell? ((⟨g,0,none⟩:Addr).add j)=some u:=by
 obtain⟨A,c',h1,h2,h3⟩:=h;cases h1
 rcases h3 with⟨h4,_⟩|⟨ad,h4,h5⟩
 ·cases h4
 ·cases h4;exact h5
theorem aP.lit{B:Nat}{w:World}{n:Nd}{sl:Value}(h:aP B w n.kids sl)(hB:B≤w.heap.size)(ht:n.text.length≤maxLen):aP B (w.alloc (.cells #[.int .i64 n.kind,.string ⟨n.text.toArray⟩,.int .i64 n.ah,sl] 24)) [n] (.slice (some ⟨w.heap.size,0,none⟩) 1 1):=by
 have hb:=af.new w 24 #[.int .i64 n.kind,.string ⟨n.text.toArray⟩,.int .i64 n.ah,sl];obtain⟨p0,p1,p2,p3,_⟩:=af.four hb;exact aP.one hB ⟨_,_,hb⟩ p0 p1 p2 p3 (h.fresh ((M _ _).alloc _)) ht
def DU(B:Nat)(w w':World):Prop:=Touch (fun k=>B≤k∧∃cs,af w k 24 cs) w w'
theorem DU.size{B:Nat}{w w':World}(h:DU B w w'):w.heap.size≤w'.heap.size:=Touch.size h
theorem DU.KM{B:Nat}{w w':World}{k:Nat}{t:TypeId}{cs:Array Value}(h:DU B w w')(hb:af w k t cs)(hk:k<B):af w' k t cs:=Touch.blk h hb fun⟨h1,_⟩=>by omega
theorem DU.mp{g B B':Nat}{w W W':World}(h:DU B' W W')(hm:Mp g B w W)(hB:w.heap.size≤B'):Mp g B w W':=Touch.trans' hm h fun _ hi=>.inr (Nat.le_trans hB hi.1)
theorem DU.ps{c:Cf}{k B':Nat}{op:List Nat}{W W':World}(h:DU B' W W')(hp:Ps c k op W)(hB:c.W0.heap.size≤B')(hg:c.g<B'):Ps c k op W':=hp.mv h fun b hb=>⟨by have:=hb.1;omega,Nat.le_trans hB hb.1,24,hb.2.elim fun cs h=>⟨cs,by decide,h⟩⟩
section
variable {w:World} {ops:Array Oper} {rest:List Oper} {o:Oper} {a:Act} {Q:Exit→Act→World→Prop}
theorem vF(hgd:o.guard=none)(s x:Operand)
  (ho:o.op=.call {callee:=.builtin .append,args:=#[s,x],argTypes:=#[22,22]})
  (i:TypeInfo) (z:Value) (hi:Tryz.prog.info? 24=some i) (hz:i.zero=some z) (hsize:i.size=4) (hby:i.bytes=56) (hzs:z.cells.size=4)
  {D:Nat→Prop} {B0 B B1:Nat} {ks:List Nd} {v y:Value} (h:Grow D w B0 B ks v) (hs:a.eval s=v) (n:Nd) (sl:Value) (hx:a.eval x=y) (hsrc:Src w 4 y 1 [.int .i64 n.kind,.string ⟨n.text.toArray⟩,.int .i64 n.ah,sl])
  (htr:aP B1 w n.kids sl) (hB1:B0≤B1) (hD:∀k,D k→k<B1) (hown:∀k,v.ownBlock=some k→k<B1) (htx:n.text.length≤maxLen) (hlen:ks.length<2^40) (hB:B≤w.heap.size)
  (hK:∀A cp w',Grow D w' B0 B (ks++[n]) (.slice A (ks.length+1) cp)→DU B w w'→wpList Tryz.prog ops Q rest (a.put o.dst (.slice A (ks.length+1) cp)) w'):wpList Tryz.prog ops Q (o::rest) a w:=by
 obtain⟨cs,h1,h2⟩:=h
 have h3:∀u∈[Value.int .i64 n.kind,.string ⟨n.text.toArray⟩,.int .i64 n.ah,sl],u.oneCell'=true:=by
  obtain⟨_,_,rfl⟩:=htr.slice;simp[Value.oneCell']
 refine iL _ hgd s x 22 ho B 24 i z 4 56 rfl hi hz hsize hby hzs (by decide) v ks.length cs hs h1 y 1 _ hx hsrc h3 (by simp only[maxLen];omega) (by omega) hB fun v' w' ho' hgr hv=>?_
 obtain⟨A,cp,rfl⟩:=mK ho'
 exact hK A cp w' ⟨_,by rw[List.length_append];exact ho',h2.push hgr (fun k hk=>by rcases hv with h6|h6<;>rw[h6]at hk<;>first|exact .inl hk|(cases hk;exact .inr (Nat.le_refl _))) htr hB1 hown hD htx⟩ (Touch.grown (M _ _) hgr fun k hk=>.inl (by
  obtain⟨h4,cur,h5⟩:=fe h1 hk;exact⟨h4,_,h5⟩))
theorem Gf(hgd:o.guard=none)(s x:Operand)
  (ho:o.op=.call {callee:=.builtin .append,args:=#[s,x],argTypes:=#[22,22]})
  (i:TypeInfo) (z:Value) (hi:Tryz.prog.info? 24=some i) (hz:i.zero=some z) (hsize:i.size=4) (hby:i.bytes=56) (hzs:z.cells.size=4)
  {D:Nat→Prop} {B0 B B1:Nat} {ks:List Nd} {A0:Option Addr} (h:Full D w B0 ks (.slice A0 ks.length ks.length)) (hs:a.eval s=.slice A0 ks.length ks.length) (n:Nd) (sl:Value) (ad:Addr) (hx:a.eval x=.slice (some ad) 1 1) (hsrc:∀j u,[Value.int .i64 n.kind,.string ⟨n.text.toArray⟩,.int .i64 n.ah,sl][j]?=some u→w.cell? (ad.add j)=some u)
  (htr:aP B1 w n.kids sl) (hB1:B0≤B1) (hD:∀k,D k→k<B1) (htx:n.text.length≤maxLen) (hlen:ks.length<2^40) (hB:B≤w.heap.size)
  (hK:∀A cp w',Grow D w' B0 B (ks++[n]) (.slice A (ks.length+1) cp)→DU B w w'→wpList Tryz.prog ops Q rest (a.put o.dst (.slice A (ks.length+1) cp)) w'):wpList Tryz.prog ops Q (o::rest) a w:=by
 obtain⟨cs,hf⟩:=h;obtain⟨⟨A',c',h2,h4,h5⟩,_⟩:=hf w (M _ _);cases h2
 have h3:∀u∈[Value.int .i64 n.kind,.string ⟨n.text.toArray⟩,.int .i64 n.ah,sl],u.oneCell'=true:=by
  obtain⟨_,_,rfl⟩:=htr.slice;simp[Value.oneCell']
 refine wpList_append_grows w hgd s x 22 ho 24 i z 4 56 rfl hi hz hsize hby hzs (by decide) A0 ks.length ks.length cs hs (fun e=>?_) h4 (fun b e j u hu=>?_) ad 1 1 _ hx rfl hsrc h3 (by omega) (by simp only[maxLen];omega) (by omega) fun v' w' ho' hgr=>?_
 ·rcases h5 with⟨_,h6,_⟩|⟨_,h6,_⟩
  ·exact⟨h6,h6⟩
  ·rw[e]at h6;cases h6
 ·rcases h5 with⟨h6,_⟩|⟨ad',h6,h7⟩
  ·rw[e]at h6;cases h6
  ·rw[e]at h6;cases h6;exact h7 j u hu
 ·obtain⟨A,cp,rfl⟩:=mK ho'
  have hs:OV D B0 none w ks cs:=fun W' hW=>(hf W' hW).2.1
  refine hK A cp w' ⟨_,by rw[List.length_append];exact Gv ho' hB,hs.push hgr (fun k hk=>.inr (fe ho' hk).1) htr hB1 (fun k hk=>by cases hk) hD htx⟩ (Touch.grown (M _ _) hgr fun k hk=>by cases hk)
end
end
section
open Go.RowKit
open Tr (Nd)
open Lx (aB)
open Np (R cZ kE eB eP dA bV fD di pArg)
attribute [local go_sem] gD stillUpon
def Mw(c:Cf)(f n:Nat):Prop:=∀(k:Nat) (op:List Nat) (kd:Int) (tx:List UInt8) (fC:List Nd) (A0:Option Addr) (B0:Nat) (w:World),Ps c k op w→op.length≤k→tx.length≤maxLen→fC.length≤10→B0≤w.heap.size→aP B0 w fC (.slice A0 fC.length fC.length)→bV c.en f n op (c.T.drop k)≠.out→
 Calls Tryz.prog 105 #[lV c,.agg #[.int .i64 kd,.string ⟨tx.toArray⟩,.int .i64 0,.slice A0 fC.length fC.length],.int .i64 (n:Int)] w fun e w'=>
  match bV c.en f n op (c.T.drop k)with
  |.ok ks rest=>∃b k',e=.returned (.tuple #[.slice (some ⟨b,0,none⟩) 1 1,aG 0 0])∧aP B0 w' [.mk kd tx 0 (fC++ks)] (.slice (some ⟨b,0,none⟩) 1 1)∧c.T.drop k'=rest∧k≤k'∧Ps c k' op w'∧Mp c.g c.W0.heap.size w w'
  |.out=>True
theorem IG:(Tryz.prog.info? 24).map (fun i=>(i.zero,i.size,i.bytes))=some (some (.agg ZN),4,56):=by kernel_rfl
theorem II(c:Cf)(hc:c.Good)(F n:Nat)(hn:n≤2)(IE:∀f',f'<F→xN c f'):Mw c F n:=by
 intro k op kd tx fC A0 B0 w h hop htx hk0 hB0 htr hne;obtain⟨i,hi,hz0,hz1,hz2⟩:=info_parts IG;have ac8:=hid IE;have htl:=hc.tl;have H:=hid h;have oJ:=hid hop;have kJ:=hid htx;have jK:=hid htr;have HB0:=hid hB0;have hgl:c.g<w.heap.size:=h.Ap;have HW0:=hid h.low.size;have aY:=hid hne;refine Calls.via fun Q hQ=>?_
 have HQ:=hid hQ;clear hne IE h hop hc hQ htx htr hB0;generalize hX:bV c.en F n op (c.T.drop k)=X at aY HQ;have HX:=hid hX;clear hX;go_enter Tryz.func105,Tryz.ntmps105;go_wp2_with fail
 have hf1:ag w ((w.alloc (.cells #[.int .i64 kd,.string ⟨tx.toArray⟩,.int .i64 0,.slice A0 fC.length fC.length] 24)).alloc (.cells #[.int .i64 0,.int .i64 0] 49)):=((M _ _).alloc _).alloc _;have hbn:af ((w.alloc (.cells #[.int .i64 kd,.string ⟨tx.toArray⟩,.int .i64 0,.slice A0 fC.length fC.length] 24)).alloc (.cells #[.int .i64 0,.int .i64 0] 49)) w.heap.size 24 #[.int .i64 kd,.string ⟨tx.toArray⟩,.int .i64 0,.slice A0 fC.length fC.length]:=(af.new _ _ _).alloc _;have hbf:af ((w.alloc (.cells #[.int .i64 kd,.string ⟨tx.toArray⟩,.int .i64 0,.slice A0 fC.length fC.length] 24)).alloc (.cells #[.int .i64 0,.int .i64 0] 49)) (w.heap.size+1) 49 #[.int .i64 0,.int .i64 0]:=af.new2 _ _ _ _;have Cw:((w.alloc (.cells #[.int .i64 kd,.string ⟨tx.toArray⟩,.int .i64 0,.slice A0 fC.length fC.length] 24)).alloc (.cells #[.int .i64 0,.int .i64 0] 49)).heap.size=w.heap.size+2:=by simp
 generalize ((w.alloc (.cells #[.int .i64 kd,.string ⟨tx.toArray⟩,.int .i64 0,.slice A0 fC.length fC.length] 24)).alloc (.cells #[.int .i64 0,.int .i64 0] 49))=W1 at hf1 hbn hbf Cw⊢;have aK:=hid hf1;have xq:=hid Cw;have lU:=hid hbn;have tL:=hid hbf;clear hf1 hbn hbf Cw
 go_loopw [11] (fun j wr=>∃(m k1:Nat) (ks:List Nd) (A:Option Addr) (cp:Nat),j=.int .i64 m∧m≤n∧ks.length=m∧Hd (af wr w.heap.size 24 #[.int .i64 kd,.string ⟨tx.toArray⟩,.int .i64 0,.slice A (fC++ks).length cp])∧Hd (af wr (w.heap.size+1) 49 #[.int .i64 0,.int .i64 0])∧Hd ((m=0∧cp=(fC++ks).length∧Full (fun k=>k=w.heap.size∨k=w.heap.size+1) wr B0 (fC++ks) (.slice A (fC++ks).length cp))∨Grow (fun k=>k=w.heap.size∨k=w.heap.size+1) wr B0 W1.heap.size (fC++ks) (.slice A (fC++ks).length cp))∧Hd (Ps c k1 op wr)∧k≤k1∧Hd (Mp c.g c.W0.heap.size w wr)∧W1.heap.size≤wr.heap.size∧Hd (X=(bV c.en (F-m) (n-m) op (c.T.drop k1)).map fun l=>ks++l)) (fun j _=>n-(intOf j).toNat)
 case atStart=>
  refine⟨0,k,[],A0,fC.length,rfl,Nat.zero_le _,rfl,by rw[List.append_nil];exact lU,tL,.inl ⟨rfl,by rw[List.append_nil],by rw[List.append_nil];exact jK.out.full aK.out (fun k hk=>by rcases hk with rfl|rfl<;>omega)⟩,H.out.fresh aK.out,Nat.le_refl _,Mp.fresh aK.out,Nat.le_refl _,?_⟩;unfold Hd;rw[←HX.out,Nat.sub_zero,Nat.sub_zero];cases bV c.en F n op (c.T.drop k)<;>rfl
 case round=>
  obtain⟨m,k1,ks,A,cp,rfl,hm,hks,iY,jg,HG,HP,hkk,HM,hsz,rO⟩:=hrel;have Em:=hid hks;clear hks
  by_cases c1:m<n
  ·have d1:decide ((m:Int)<(n:Int))=true:=by simp;omega
   have jo:decide (m<n)=true:=by simp;omega
   have d1':(m:Int)<(n:Int):=by omega
   obtain⟨f',hf'⟩:∃f',F-m=f'+1:=by
    rcases Nat.eq_zero_or_pos (F-m)with h0|h0
    ·exfalso
     have h1:=rO.out;rw[h0]at h1;exact aY.out (by rw[h1];cases n-m<;>rfl)
    ·exact⟨F-m-1,by omega⟩
   obtain⟨n',hn'⟩:∃n',n-m=n'+1:=⟨n-m-1,by omega⟩;have kX:=hid (show X=((pArg c.en f' op (c.T.drop k1)).bind fun a r=>(bV c.en f' n' op r).map fun l=>a::l).map fun l=>ks++l from by rw[rO.out,hf',hn',bV]);have Et:=hid (show f'<F∧f'=F-(m+1)∧n'=n-(m+1)from by omega);obtain⟨p0,p1,p2,p3,y0,y1,y2,y3,lW⟩:=af.four iY.out;obtain⟨q0,q1,z0,z1,hlt1⟩:=af.two jg.out;clear hf' hn' rO;go_wp2_with fail
   refine(ac8.out f' Et.out.1 k1 op _ HP.out (by have:=oJ.out;omega) (fun h=>aY.out (by rw[kX.out,h];rfl))).mono ?_;intro e w2 hres;generalize pArg c.en f' op (c.T.drop k1)=r at kX hres;cases r with
   |out=>exact absurd (by rw[kX.out];rfl) aY.out
   |ok a rest=>
    obtain⟨A1,uo,k',rfl,htr,htx,hdr,IJ,hp,hm⟩:=hres;have jK:=hid htr;have kJ:=hid htx;have HDR:=hid hdr;have oL:=hid hp;have iI:=hid (HM.out.trans hm);have Fy:=hid (hm.blk iY.out (by omega) (by decide));have tK:=hid (hm.blk jg.out (by omega) (by decide));have hsz2:=hm.size;have HTx:=hid (show a.text.length≤maxLen from htx);have JX:=hid hm;obtain⟨p0,p1,p2,p3,y0,y1,y2,y3,lW⟩:=af.four Fy.out;clear htr htx hdr hp hm q0 q1 z0 z1;unfold aG uQ;have gu:=hid (show B0≤w.heap.size∧W1.heap.size≤wr.heap.size∧W1.heap.size=w.heap.size+2 from by have:=HB0.out;have:=xq.out;omega)
    rcases HG.out with⟨rfl,rfl,hg⟩|hg
    ·have HG2:=hid (show Full (fun k=>k=w.heap.size∨k=w.heap.size+1) w2 B0 fC (.slice A fC.length fC.length)from by
      have h0:ks=[]:=List.length_eq_zero_iff.1 Em.out;subst h0;rw[List.append_nil]at hg;exact hg.mv JX.out (fun k hk=>.inr (.inr (.inr (PT.Sd HP.out hk)))))
     have h0:ks=[]:=List.length_eq_zero_iff.1 Em.out;subst h0;clear hg
     have lg:=hid (show fC.length≤10 from hk0);have FR:=hid (show ag w2 (((w2.alloc (.cells #[.int .i64 a.kind,.string ⟨a.text.toArray⟩,.int .i64 a.ah,.slice A1 a.kids.length uo] 24)).alloc (.cells #[.int .i64 0,.int .i64 0] 49)).alloc (.cells #[.int .i64 a.kind,.string ⟨a.text.toArray⟩,.int .i64 a.ah,.slice A1 a.kids.length uo] 24))from(((M _ _).alloc _).alloc _).alloc _);have BL:=hid (show af (((w2.alloc (.cells #[.int .i64 a.kind,.string ⟨a.text.toArray⟩,.int .i64 a.ah,.slice A1 a.kids.length uo] 24)).alloc (.cells #[.int .i64 0,.int .i64 0] 49)).alloc (.cells #[.int .i64 a.kind,.string ⟨a.text.toArray⟩,.int .i64 a.ah,.slice A1 a.kids.length uo] 24)) (w2.heap.size+1+1) 24 #[.int .i64 a.kind,.string ⟨a.text.toArray⟩,.int .i64 a.ah,.slice A1 a.kids.length uo]from by have:=af.new ((w2.alloc (.cells #[.int .i64 a.kind,.string ⟨a.text.toArray⟩,.int .i64 a.ah,.slice A1 a.kids.length uo] 24)).alloc (.cells #[.int .i64 0,.int .i64 0] 49)) 24 #[.int .i64 a.kind,.string ⟨a.text.toArray⟩,.int .i64 a.ah,.slice A1 a.kids.length uo];simpa using this)
     go_wp2_with (at_builtin;refine Gf rfl (.tmp 23) (.tmp 25) rfl i _ hi hz0 hz1 hz2 rfl (B0:=B0) (B:=W1.heap.size) (B1:=wr.heap.size) (ks:=fC) (A0:=A) (HG2.out.fresh FR.out) (by simp[Act.eval]) a (.slice A1 a.kids.length uo) ⟨w2.heap.size+1+1,0,none⟩ (by simp[Act.eval]) (fun j u hu=>(Src.uT (size:=4) (m:=1) (c:=1) BL.out rfl).agt j u hu) (jK.out.fresh FR.out) (by have:=gu.out;omega) (fun k hk=>by have:=gu.out;rcases hk with rfl|rfl<;>omega) kJ.out (by have:=lg.out;omega) (by have:=gu.out;have:=FR.out.size;omega) ?_;intro A8 fq W8 jI bR;refine jw.mk ?_)
     have wI:=hid jI;have lT:=hid (bR.KM (FR.out.blk Fy.out fun h=>h) (by have:=gu.out;omega));have mZ:=hid (bR.KM (FR.out.blk tK.out fun h=>h) (by have:=gu.out;omega));have AQ:=hid (bR.ps (oL.out.fresh FR.out) (by have:=gu.out;have:=HW0.out;omega) (by have:=gu.out;omega));have OQ:=hid (bR.mp (iI.out.trans (Mp.fresh FR.out)) (by have:=gu.out;omega));have ac9:=hid (show wr.heap.size≤W8.heap.size from by have:=bR.size;have:=FR.out.size;omega);clear jI bR p0 p1 p2 p3 y0 y1 y2 y3 lW;obtain⟨p0,p1,p2,p3,y0,y1,y2,y3,lW⟩:=af.four lT.out;refine jw.go ?_;go_wp2_with fail
     have kD:=lT.out.put 3 (.slice A8 (fC.length+1) fq);have iT:=mZ.out.far (p:=⟨w.heap.size,3,none⟩) (by simp) (.slice A8 (fC.length+1) fq);have sI:=(M (fun b=>b=w.heap.size) W8).setCell (p:=⟨w.heap.size,3,none⟩) (.inl rfl) (.slice A8 (fC.length+1) fq);have pq:=OQ.out.setCell (p:=⟨w.heap.size,3,none⟩) (.inr (Nat.le_refl _)) (.slice A8 (fC.length+1) fq);generalize (World.setCell W8 ⟨w.heap.size,3,none⟩ (.slice A8 (fC.length+1) fq))=W9 at kD iT sI pq⊢;have hlen:(fC++([]++[a])).length=fC.length+1:=by simp
     have happ:fC++([]++[a])=fC++[a]:=by simp
     have DR:Grow (fun k=>k=w.heap.size∨k=w.heap.size+1) W9 B0 W1.heap.size (fC++([]++[a])) (.slice A8 (fC.length+1) fq):=by
      rw[happ];have:=wI.out.mv sI (by have:=gu.out;omega) (fun k hk=>by have:=gu.out;rcases hk with rfl|rfl<;>omega) (fun k hk=>.inl (.inl hk));exact this
     have ada:=AQ.out.mv sI (fun b hb=>by have:=HW0.out;subst hb;exact⟨by omega,HW0.out,_,_,(by decide),lT.out⟩);refine⟨⟨0+1,k',[]++[a],A8,fq,by simp,by omega,by have:=Em.out;rfl,by rw[hlen];exact kD,iT,.inr (by rw[hlen];exact DR),ada,by have:=IJ;omega,pq,by have:=sI.size;have:=ac9.out;have:=gu.out;omega,?_⟩,by simp[intOf];omega⟩;unfold Hd;rw[kX.out,HDR.out,←Et.out.2.1,←Et.out.2.2];show((bV c.en f' n' op rest).map fun l=>a::l).map (fun l=>[]++l)=_;cases bV c.en f' n' op rest<;>simp[Np.R.map,Np.R.bind]
    ·have HG2:=hid (show Grow (fun k=>k=w.heap.size∨k=w.heap.size+1) w2 B0 W1.heap.size (fC++ks) (.slice A (fC++ks).length cp)from by
      exact hg.mv JX.out (by have:=gu.out;omega) (fun k hk=>by have:=gu.out;rcases hk with rfl|rfl<;>omega) (fun k hk=>.inr (.inr (PT.Sd HP.out hk))))
     have HOB:=hid (show∀k,(Value.slice A (fC++ks).length cp).ownBlock=some k→k<wr.heap.size from fun k hk=>by obtain⟨cs,h1,_⟩:=hg;obtain⟨_,cur,h4⟩:=fe h1 hk;exact(Array.getElem?_eq_some_iff.1 h4).1);clear hg;have lg:=hid (show fC.length≤10∧ks.length≤10 from⟨hk0,by have:=Em.out;omega⟩);have FR:=hid (show ag w2 (((w2.alloc (.cells #[.int .i64 a.kind,.string ⟨a.text.toArray⟩,.int .i64 a.ah,.slice A1 a.kids.length uo] 24)).alloc (.cells #[.int .i64 0,.int .i64 0] 49)).alloc (.cells #[.int .i64 a.kind,.string ⟨a.text.toArray⟩,.int .i64 a.ah,.slice A1 a.kids.length uo] 24))from(((M _ _).alloc _).alloc _).alloc _);have BL:=hid (show af (((w2.alloc (.cells #[.int .i64 a.kind,.string ⟨a.text.toArray⟩,.int .i64 a.ah,.slice A1 a.kids.length uo] 24)).alloc (.cells #[.int .i64 0,.int .i64 0] 49)).alloc (.cells #[.int .i64 a.kind,.string ⟨a.text.toArray⟩,.int .i64 a.ah,.slice A1 a.kids.length uo] 24)) (w2.heap.size+1+1) 24 #[.int .i64 a.kind,.string ⟨a.text.toArray⟩,.int .i64 a.ah,.slice A1 a.kids.length uo]from by have:=af.new ((w2.alloc (.cells #[.int .i64 a.kind,.string ⟨a.text.toArray⟩,.int .i64 a.ah,.slice A1 a.kids.length uo] 24)).alloc (.cells #[.int .i64 0,.int .i64 0] 49)) 24 #[.int .i64 a.kind,.string ⟨a.text.toArray⟩,.int .i64 a.ah,.slice A1 a.kids.length uo];simpa using this)
     go_wp2_with (at_builtin;refine vF rfl (.tmp 23) (.tmp 25) rfl i _ hi hz0 hz1 hz2 rfl (B0:=B0) (B:=W1.heap.size) (B1:=wr.heap.size) (ks:=fC++ks) (v:=.slice A (fC++ks).length cp) (y:=.slice (some ⟨w2.heap.size+1+1,0,none⟩) 1 1) (HG2.out.fresh FR.out) (by simp[Act.eval]) a (.slice A1 a.kids.length uo) (by simp[Act.eval]) (Src.uT (BL.out) rfl) (jK.out.fresh FR.out) (by have:=gu.out;omega) (fun k hk=>by have:=gu.out;rcases hk with rfl|rfl<;>omega) HOB.out kJ.out (by have:=lg.out;simp;omega) (by have:=gu.out;have:=FR.out.size;omega) ?_;intro A8 fq W8 jI bR;refine jw.mk ?_)
     have wI:=hid jI;have lT:=hid (bR.KM (FR.out.blk Fy.out fun h=>h) (by have:=gu.out;omega));have mZ:=hid (bR.KM (FR.out.blk tK.out fun h=>h) (by have:=gu.out;omega));have AQ:=hid (bR.ps (oL.out.fresh FR.out) (by have:=gu.out;have:=HW0.out;omega) (by have:=gu.out;omega));have OQ:=hid (bR.mp (iI.out.trans (Mp.fresh FR.out)) (by have:=gu.out;omega));have ac9:=hid (show wr.heap.size≤W8.heap.size from by have:=bR.size;have:=FR.out.size;omega);clear jI bR p0 p1 p2 p3 y0 y1 y2 y3 lW;obtain⟨p0,p1,p2,p3,y0,y1,y2,y3,lW⟩:=af.four lT.out;refine jw.go ?_;go_wp2_with fail
     have kD:=lT.out.put 3 (.slice A8 (fC.length+ks.length+1) fq);have iT:=mZ.out.far (p:=⟨w.heap.size,3,none⟩) (by simp) (.slice A8 (fC.length+ks.length+1) fq);have sI:=(M (fun b=>b=w.heap.size) W8).setCell (p:=⟨w.heap.size,3,none⟩) (.inl rfl) (.slice A8 (fC.length+ks.length+1) fq);have pq:=OQ.out.setCell (p:=⟨w.heap.size,3,none⟩) (.inr (Nat.le_refl _)) (.slice A8 (fC.length+ks.length+1) fq);generalize (World.setCell W8 ⟨w.heap.size,3,none⟩ (.slice A8 (fC.length+ks.length+1) fq))=W9 at kD iT sI pq⊢;have hlen:(fC++(ks++[a])).length=fC.length+ks.length+1:=by simp;omega
     have happ:fC++(ks++[a])=(fC++ks)++[a]:=by simp
     have DR:Grow (fun k=>k=w.heap.size∨k=w.heap.size+1) W9 B0 W1.heap.size (fC++(ks++[a])) (.slice A8 (fC.length+ks.length+1) fq):=by
      rw[happ];have:=wI.out.mv sI (by have:=gu.out;omega) (fun k hk=>by have:=gu.out;rcases hk with rfl|rfl<;>omega) (fun k hk=>.inl (.inl hk));rw[List.length_append]at this;exact this
     have ada:=AQ.out.mv sI (fun b hb=>by have:=HW0.out;subst hb;exact⟨by omega,HW0.out,_,_,(by decide),lT.out⟩);refine⟨⟨m+1,k',ks++[a],A8,fq,by simp,by omega,by have:=Em.out;simp;omega,by rw[hlen];exact kD,iT,.inr (by rw[hlen];exact DR),ada,by have:=IJ;omega,pq,by have:=sI.size;have:=ac9.out;have:=gu.out;omega,?_⟩,by simp[intOf];omega⟩;unfold Hd;rw[kX.out,HDR.out,←Et.out.2.1,←Et.out.2.2];show((bV c.en f' n' op rest).map fun l=>a::l).map (fun l=>ks++l)=_;cases bV c.en f' n' op rest<;>simp[Np.R.map,Np.R.bind]
  ·have hmn:m=n:=by omega
   have ak':=hid (show ks.length=n by rw[Em.out,hmn]);have d1:decide ((m:Int)<(n:Int))=false:=by simp;omega
   have jo:decide (m<n)=false:=by simp;omega
   have d1':¬((m:Int)<(n:Int)):=by omega
   obtain⟨p0,p1,p2,p3,y0,y1,y2,y3,lW⟩:=af.four iY.out;obtain⟨q0,q1,z0,z1,hlt1⟩:=af.two jg.out;have fU:=hid hmn;clear hmn;go_wp2_with fail
   have IK:aP B0 wr (fC++ks) (.slice A (fC++ks).length cp):=by
    have h1:=HB0.out;have h2:=xq.out
    rcases HG.out with⟨_,_,hg⟩|hg
    ·exact hg.tree
    ·exact hg.tree (by omega)
   rw[List.length_append]at IK;have Vq:=(dS wr (w.heap.size+1) (.int .i64 0) (.int .i64 0));have hmw:Mp c.g c.W0.heap.size w ((aH wr (w.heap.size+1) (.int .i64 0) (.int .i64 0)).alloc (.cells #[.int .i64 kd,.string ⟨tx.toArray⟩,.int .i64 0,.slice A (fC.length+ks.length) cp] 24)):=(HM.out.aH (g:=w.heap.size+1) (.inr (by omega)) (.int .i64 0) (.int .i64 0)).alloc _;have DV:=IK.other jg.out (by decide) Vq;have hps:=(HP.out.mv Vq (fun b hb=>by have:=HW0.out;subst hb;exact⟨by omega,by omega,_,_,(by decide),jg.out⟩)).fresh ((M _ _).alloc (.cells #[.int .i64 kd,.string ⟨tx.toArray⟩,.int .i64 0,.slice A (fC.length+ks.length) cp] 24));have hbq:=((jg.out.fT (.int .i64 0) (.int .i64 0)).alloc (.cells #[.int .i64 kd,.string ⟨tx.toArray⟩,.int .i64 0,.slice A (fC.length+ks.length) cp] 24));have hone:=aP.lit (n:=.mk kd tx 0 (fC++ks)) DV (by have:=HB0.out;have:=xq.out;have:=Vq.size;omega) kJ.out;have ajj:(aH wr (w.heap.size+1) (.int .i64 0) (.int .i64 0)).heap.size=wr.heap.size:=by simp[aH]
   rw[ajj]at hone;simp only[aH]at hmw hps hbq hone;obtain⟨f0,f1,_⟩:=af.two hbq
   (try simp only[Exit.inBlock,Exit.then])
   refine bodyPost_ret (v:=.tuple #[.slice (some ⟨wr.heap.size,0,none⟩) 1 1,aG 0 0]) (by simp[aG,results,Tryz.results105,go_sem,f0,f1]) rfl ?_
   obtain⟨f',hf'⟩:∃f',F-m=f'+1:=by
    rcases Nat.eq_zero_or_pos (F-m)with h0|h0
    ·exfalso
     have h1:=rO.out;rw[h0]at h1;exact aY.out (by rw[h1];cases n-m<;>rfl)
    ·exact⟨F-m-1,by omega⟩
   have Eu:X=.ok ks (c.T.drop k1):=by
    rw[rO.out,hf',fU.out,Nat.sub_self,bV];simp[Np.R.map,Np.R.bind]
   rw[Eu]at HQ;exact HQ.out _ _ ⟨wr.heap.size,k1,rfl,hone,rfl,hkk,hps,hmw⟩
end
end Go.Proofs.YtcgbccfpcgaikaaGreatDoor
