/- Part 36 of 46 of a proof. No condition. -/
import Derived.Test.YtcgbccfpcgaikaaGreatDoorYm35
set_option maxRecDepth 100000
set_option maxHeartbeats 400000
namespace Go.Proofs.YtcgbccfpcgaikaaGreatDoor
section
open Go.RowKit
open Tr (Nd)
open Lx (aB)
attribute [local go_sem] gD stillUpon
theorem Yg{W:World}{B e g n cap:Nat}{xs:List Value}{u:Value}(h:W.ownsRow B e 1 (.slice (some ⟨g,0,none⟩) (n+1) cap) (n+1) (xs++[u])):W.ownsRow B e 1 (.slice (some ⟨g,0,none⟩) n cap) n xs:=by
 have hl:=h.1;rw[List.length_append,List.length_singleton]at hl;refine⟨by omega,?_⟩
 rcases h.2 with⟨h1,_⟩|⟨g',cap',cur,h1,h2,h3,h4,h5,h6,h7⟩
 ·cases h1
 ·cases h1
  refine .inr ⟨g,cap,cur,rfl,h2,h3,by omega,h5,h6,?_⟩;have h8:(cur.toList.take ((n+1)*1)).take (n*1)=(xs++[u]).take (n*1):=by rw[h7]
  rw[List.take_take,show min (n*1) ((n+1)*1)=n*1 by omega]at h8;rw[h8,List.take_append_of_le_length (by omega),List.take_of_length_le (by omega)]
theorem Ps.put{c:Cf}{k:Nat}{op:List Nat}{w:World}(h:Ps c k op w){b:Nat}{t:TypeId}{cs:Array Value}(hb:af w b t cs)(ht:t≠3)(hne:b≠c.g)(hB:c.W0.heap.size≤b)(i:Nat)(v:Value):Ps c k op (w.setCell ⟨b,i,none⟩ v):=by
 obtain⟨ov,hbx,ho⟩:=h.box;refine⟨h.low.setCell (p:=⟨b,i,none⟩) (.inr hB) v,⟨ov,hbx.far (p:=⟨b,i,none⟩) (fun e=>hne e.symm) v,aQ ho ((M (fun k=>k=b) w).setCell (p:=⟨b,i,none⟩) (.inl rfl) v) fun k hk e=>?_⟩,h.le⟩;obtain⟨_,cur,h2⟩:=fe ho hk;subst e;unfold af at hb;rw[hb]at h2;cases h2;exact ht rfl
theorem ac6(L:List Nat)(x:Nat):EO (up L)++[.int .i64 (x:Int)]=EO (up (L++[x])):=by simp
theorem JU(c:Cf)(hc:c.Good)(k:Nat)(op:List Nat)(w:World)(h:Ps c k op w)(hk:k<c.T.length)(hop:op.length≤100000):
  Calls Tryz.prog 107 #[lV c] w fun e w'=>e=.returned (.tuple #[])∧Ps c (k+1) (op++[Np.place c.en (c.T.drop k)]) w'∧Mp c.g c.W0.heap.size w w':=by
 obtain⟨i,hi,hz0,hz1,hz2⟩:=info_parts aer;have HT:=hid (fun(w':World) (hf:ag w w')=>qO c hc k op w' (h.fresh hf));obtain⟨ov,hb,ho⟩:=h.box
 obtain⟨Ao,co,rfl⟩:∃A cp,ov=.slice A op.length cp:=by
  rcases ho.2 with⟨h1,h2⟩|⟨g,cap,cur,h1,_⟩
  ·exact⟨none,0,by rw[h1,h2]⟩
  ·exact⟨_,_,h1⟩
 have htl:=hc.tl;have hk4:k≤100000:=by omega
 have hgw:=hb.lt
 have hne:∀b,(Value.slice Ao op.length co).ownBlock=some b→b≠c.g:=fun b hb'=>by
  obtain⟨h1,cur,h2⟩:=fe ho hb';intro e;subst e;unfold af at hb;rw[hb]at h2;cases h2
 have H:=hid h;have HB:=hid hb;have HO:=hid ho;have aY:=hid hne;have oJ:=hid hop;have HK:=hid hk;have hW0:=hid (show c.W0.heap.size≤w.heap.size from h.low.size);clear hc hb ho h hne;generalize c.T.drop k=l at HT⊢;obtain⟨r0,r1,r3,r2,hr,hp⟩:=OP c.en l;rw[←hp];rw[hr]at HT;clear hr hp;have hfd:=FB;have r3':=cR ((HB.out.cell 3).trans rfl);have e1:((k:Int)+1)=((k+1:Nat):Int):=by simp
 have HE:=hid e1;clear e1;unfold lV at HT⊢;go_enter Tryz.func107,Tryz.ntmps107;go_wp2_with fail
 refine O8 [0] [([(1,true),(2,true),(3,true),(4,true),(5,true),(6,false),(7,true),(8,false)],9),([(10,true),(11,true)],12)] [] (by kernel_rfl) (fun _ _ d _ _ h=>by cases d<;>exact h) (by kernel_rfl) ?_
 repeat(refine V6 rfl (fun K hK=>?_);go_simp;refine hK _ ?_;clear hK K)
 refine YQ ?_;refine dJ ?_
 repeat(refine ak rfl (fun K hK=>?_);go_simp;refine hK _ ?_;clear hK K)
 refine aS rfl (fun K hK=>?_);go_wp2_with fail
 refine(HT.out _ ((M _ _).drewN _)).mono ?_;rintro _ w1 ⟨rfl,hf⟩;have aK:=hid (show ag w w1 from Touch.BD hf);clear hf r3';go_wp2
 refine hK _ _ (aA aK.out) ?_;clear hK K
 repeat(refine ak rfl (fun K hK=>?_);go_simp;refine hK _ ?_;clear hK K)
 refine aS rfl (fun K hK=>?_);go_wp2
 refine hK _ _ (aA (aK.out.alloc _)) ?_;clear hK K;refine dm rfl (fun K hK=>?_)
 go_wp2_with (at_builtin;refine iL _ rfl (.tmp 6) (.tmp 10) 83 rfl c.W0.heap.size 3 i _ 1 8 rfl hi hz0 hz1 hz2 rfl (by decide) (.slice Ao op.length co) op.length (EO (up op)) (by simp[Act.eval]) (aQ HO.out (aK.out.alloc _) (fun _ _ h=>h)) (.slice (some ⟨w1.heap.size,0,none⟩) 1 1) 1 [.int .i64 (r2:Int)] (by simp[Act.eval]) (Src.uT (af.new _ _ _) rfl) (by intro u hu;simp at hu;rw[hu];rfl) (by have:=oJ.out;unfold maxLen;omega) (by have:=oJ.out;omega) (by have h1:=hW0.out;have h2:=aK.out.size;simp;omega) ?_;intro v8 W8 ho8 jI hv8;refine jw.mk ?_)
 have OQ:=hid (show Mp c.g c.W0.heap.size w W8 from Mp.grown (Mp.fresh (aK.out.alloc _)) (aQ HO.out (aK.out.alloc _) (fun _ _ h=>h)) jI)
 have aho:=hid (show Touch (fun b=>b=c.g) c.W0 W8 from((H.out.low.trans ((aK.out.alloc _).mono fun _ h=>h.elim)).grown jI fun b hb=>.inr (by
  have:=(HO.out.lt b hb).1;exact this)))
 have lT:=hid (show af W8 c.g 86 #[c.tv,.int .i64 (k:Int),.int .i64 (c.en:Int),.slice Ao op.length co,.pointer none,.int .i64 0,c.mv,.int .i64 0,.bool false]from
  ((M (fun b=>(Value.slice Ao op.length co).ownBlock=some b) _).grown jI fun b hb=>.inl hb).blk ((aK.out.alloc _).blk HB.out (fun h=>h)) fun hb=>aY.out _ hb rfl)
 rw[ac6]at ho8;have HO8:=hid (show W8.ownsRow c.W0.heap.size 3 1 v8 (op++[r2]).length (EO (up (op++[r2])))from by rw[List.length_append];exact ho8);obtain⟨A8,c8,rfl⟩:=mK ho8;clear ho8 jI hv8;refine jw.go ?_;go_wp2_with fail
 refine dJ ?_
 repeat(refine ak rfl (fun K hK=>?_);go_simp;refine hK _ ?_;clear hK K)
 have z3:=lT.out.frozen 3;have y3:=lT.out.cell 3;have jI:=lT.out.lt;refine dm rfl (fun K hK=>?_);go_wp2_with fail
 refine fH ?_
 have agp:∀b,(Value.slice A8 (op.length+1) c8).ownBlock=some b→b≠c.g:=fun b hb'=>by
  obtain⟨h1,cur,h2⟩:=fe HO8.out hb';intro e;subst e;have hb:=lT.out;unfold af at hb;rw[hb]at h2;cases h2
 have Sa:=hid (show Ps c k (op++[r2]) (W8.setCell ⟨c.g,3,none⟩ (.slice A8 (op.length+1) c8))from
  ⟨aho.out.setCell (p:=⟨c.g,3,none⟩) (.inl rfl) _,⟨.slice A8 (op.length+1) c8,lT.out.put 3 _,aQ HO8.out ((M (fun b=>b=c.g) W8).setCell (p:=⟨c.g,3,none⟩) (.inl rfl) _) agp⟩,H.out.le⟩)
 have OT:=hid (show Mp c.g c.W0.heap.size w (W8.setCell ⟨c.g,3,none⟩ (.slice A8 (op.length+1) c8))from OQ.out.trans (Mp.put W8 3 _));generalize (W8.setCell ⟨c.g,3,none⟩ (.slice A8 (op.length+1) c8))=W9 at Sa OT⊢;obtain⟨ov9,kD,_⟩:=Sa.out.box;have q1:=kD.cell 1;have z1:=kD.frozen 1;have jA:=kD.lt;clear kD z3 y3 jI agp;go_wp2_with fail
 obtain⟨n1,n2⟩:=Sa.out.next HK.out _ HE.out
 (try simp only[Exit.inBlock,Exit.then])
 first|go_end0|refine bodyPost_ret (v:=.tuple #[]) (results_none rfl _ _ _) rfl ?_
 exact⟨rfl,n1,OT.out.trans n2⟩
theorem IA(c:Cf)(hc:c.Good)(k:Nat)(op:List Nat)(x:Nat)(b:UInt8)(w:World)(h:Ps c k (op++[x]) w)(hk:k<c.T.length∨Np.dx b (c.T.drop k)=false):
  Calls Tryz.prog 108 #[lV c,.string ⟨#[b]⟩] w fun e w'=>
   (Np.dx b (c.T.drop k)=true∧e=.returned (aG 0 0)∧Ps c (k+1) op w'∧Mp c.g c.W0.heap.size w w')∨
   (Np.dx b (c.T.drop k)=false∧e=.returned (aG (Np.place c.en (c.T.drop k)) 3)∧Mp c.g c.W0.heap.size w w'):=by
 have HA:=hid (fun(w':World) (hf:ag w w')=>vE c hc k (op++[x]) b w' (h.fresh hf));have HR:=hid (fun(w':World) (hf:ag w w')=>Cu c hc k (op++[x]) w' (h.fresh hf));have H:=hid h;have htl:=hc.tl;clear hc h;generalize hm:Np.dx b (c.T.drop k)=mb at HA hk⊢;generalize Np.place c.en (c.T.drop k)=pl at HR⊢;clear hm;cases mb with
 |false=>
  go_enter Tryz.func108,Tryz.ntmps108;go_wp2_with fail
  refine(HA.out _ ((M _ _).alloc _)).mono ?_;rintro _ w1 ⟨rfl,hf⟩;have aK:=hid (show ag w w1 from Touch.pre hf);have HB1:=hid (hf.blk (af.new w 49 #[.int .i64 0,.int .i64 0]) (fun h=>h));clear hf;go_wp2_with fail
  refine(HR.out _ aK.out).mono ?_;rintro _ w2 ⟨rfl,hf⟩;have bW:=hid (aK.out.trans hf);obtain⟨p0,p1,z0,z1,hlt⟩:=af.two (hf.blk HB1.out (fun h=>h));clear hf;unfold aG;go_wp2_with fail
  (try simp only[Exit.inBlock,Exit.then])
  refine bodyPost_ret (v:=aG pl 3) (by simp[aG,results,Tryz.results108,go_sem,p0,p1]) rfl ?_;refine .inr ⟨trivial,rfl,Mp.fresh ((bW.out.setCell (p:=⟨w.heap.size,0,none⟩) (.inr (Nat.le_refl _)) _).setCell (p:=⟨w.heap.size,1,none⟩) (.inr (Nat.le_refl _)) _)⟩
 |true=>
  have hk1:k<c.T.length:=by
   rcases hk with hk|hk
   ·exact hk
   ·cases hk
  have Dk:=hid hk1;clear hk;have hk4:k≤100000:=by omega
  go_enter Tryz.func108,Tryz.ntmps108;go_wp2_with fail
  refine(HA.out _ ((M _ _).alloc _)).mono ?_;rintro _ w1 ⟨rfl,hf⟩;have aK:=hid (show ag w w1 from Touch.pre hf);have HB1:=hid (hf.blk (af.new w 49 #[.int .i64 0,.int .i64 0]) (fun h=>h));clear hf;have Iu:=hid (H.out.fresh aK.out);obtain⟨ov,hb1,ho1⟩:=Iu.out.box;have HBP:=hid hb1;have HOV:=hid ho1
  obtain⟨go,co,rfl,hco⟩:∃go cp,ov=.slice (some ⟨go,0,none⟩) (op.length+1) cp∧op.length+1≤cp:=by
   rcases ho1.2 with⟨_,h2⟩|⟨g,cap,cur,h1,_,_,h2,_⟩
   ·simp at h2
   ·rw[List.length_append,List.length_singleton]at h1 h2
    exact⟨_,_,h1,h2⟩
  have hne:go≠c.g:=fun e=>by
   obtain⟨h1,cur,h2⟩:=fe ho1 (g:=go) rfl;subst e;unfold af at hb1;rw[hb1]at h2;cases h2
  have hmax:op.length+1≤maxLen:=by
   rcases ho1.2 with⟨_,h2⟩|⟨g,cap,cur,_,_,_,h2,h3,_⟩
   ·simp at h2
   ·rw[List.length_append,List.length_singleton]at h2
    exact Nat.le_trans h2 h3
  unfold maxLen at hmax;have aY:=hid hne;have r3:=cR ((hb1.cell 3).trans rfl);have e1:((op.length:Int)+1)-1=(op.length:Int):=by omega
  have e2:IntKind.i64.wrap ((op.length:Int))=(op.length:Int):=IntWalk.i64_in _ (by omega);have hcl:op.length≤co:=by omega
  have hgp:=hb1.lt;have z3:=hb1.frozen 3;have y3:=hb1.cell 3;clear hb1 ho1 hne;unfold lV at HA HR⊢;go_wp2_with fail
  refine cu [([(0,true),(1,true),(2,true),(3,true),(4,true),(5,true),(6,true),(7,true),(8,true),(9,true),(10,true),(11,true),(12,true),(13,true)],14)] [] (by kernel_rfl) (fun _ _ d _ _ h=>by cases d<;>exact h) (by kernel_rfl) ?_;refine dJ ?_
  repeat(refine ak rfl (fun K hK=>?_);go_simp;refine hK _ ?_;clear hK K)
  clear r3;have y3':(w1.drewN 1).cell? ⟨c.g,3,none⟩=some (.slice (some ⟨go,0,none⟩) (op.length+1) co):=y3.trans rfl;have z3':(w1.drewN 1).frozen? ⟨c.g,3,none⟩=false:=z3;refine dm rfl (fun K hK=>?_);go_wp2_with fail
  refine fH ?_
  have jb:=hid (show Ps c k op ((w1.drewN 1).setCell ⟨c.g,3,none⟩ (.slice (some ⟨go,0,none⟩) op.length co))from
   ⟨(Iu.out.low.drewN 1).setCell (p:=⟨c.g,3,none⟩) (.inl rfl) _,⟨_,(HBP.out.drewN 1).put 3 _,aQ (Yg (by
    have h1:=HOV.out;rw[List.length_append,List.length_singleton]at h1;have e:EO (up (op++[x]))=EO (up op)++[.int .i64 (x:Int)]:=by simp
    rw[e]at h1
    exact h1)) (((M (fun b=>b=c.g) w1).drewN 1).setCell (p:=⟨c.g,3,none⟩) (.inl rfl) _) (fun b hb=>by
     simp only[Value.ownBlock,Option.some.injEq]at hb;rw[←hb];exact aY.out)⟩,Iu.out.le⟩)
  have iI:=hid (show Mp c.g c.W0.heap.size w ((w1.drewN 1).setCell ⟨c.g,3,none⟩ (.slice (some ⟨go,0,none⟩) op.length co))from(Mp.fresh (aK.out.drewN 1)).trans (Mp.put _ 3 _));have jg:=hid (show af ((w1.drewN 1).setCell ⟨c.g,3,none⟩ (.slice (some ⟨go,0,none⟩) op.length co)) w.heap.size 49 #[.int .i64 0,.int .i64 0]from(HB1.out.drewN 1).far (p:=⟨c.g,3,none⟩) (fun e=>by have h1:=H.out.Ap;have h2:w.heap.size=c.g:=e;omega) _);generalize ((w1.drewN 1).setCell ⟨c.g,3,none⟩ (.slice (some ⟨go,0,none⟩) op.length co))=W2 at jb iI jg⊢;obtain⟨ov2,hb2,_⟩:=jb.out.box;have q1:=hb2.cell 1;have z1:=hb2.frozen 1;have hg2:=hb2.lt;have e3:((k:Int)+1)=((k+1:Nat):Int):=by simp
  have HE:=hid e3;obtain⟨p0,p1,y0,y1,hlt⟩:=af.two jg.out;have hgl:c.g<w.heap.size:=H.out.Ap;clear hb2 e3 y3 z3 y3' z3' e1 e2;go_wp2_with fail
  obtain⟨n1,n2⟩:=jb.out.next Dk.out _ HE.out;have DT:=jg.out.far (p:=⟨c.g,1,none⟩) (fun e=>by have h2:w.heap.size=c.g:=e;omega) (.int .i64 ((k:Int)+1));have agq:w.heap.size≠c.g:=fun e=>by omega
  have hB3:c.W0.heap.size≤w.heap.size:=H.out.low.size;have Eo:=n1.put DT (by decide) agq hB3 0 (.int .i64 0);have hb4:=DT.put 0 (.int .i64 0);have jM:=Eo.put hb4 (by decide) agq hB3 1 (.int .i64 0);have hb5:af _ _ 49 #[.int .i64 0,.int .i64 0]:=hb4.put 1 (.int .i64 0);have wO:=(iI.out.trans n2).setCell (p:=⟨w.heap.size,0,none⟩) (.inr (Nat.le_refl _)) (.int .i64 0)|>.setCell (p:=⟨w.heap.size,1,none⟩) (.inr (Nat.le_refl _)) (.int .i64 0)
  obtain⟨f0,f1,_⟩:=af.two hb5
  (try simp only[Exit.inBlock,Exit.then])
  refine bodyPost_ret (v:=aG 0 0) (by simp[aG,results,Tryz.results108,go_sem,f0,f1]) rfl ?_;exact .inl ⟨trivial,rfl,jM,wO⟩
end
section
open Go.RowKit
open Tr (Nd)
open Lx (aB)
def Cv:List (List UInt8×FuncId):=[(Tr.oO,66),(Tr.mU,67),(Tr.bY,68),([104,97,116],69),([98,97,114],69),([118,101,99],69),([100,111,116],69),([116,105,108,100,101],69),([99,104,101,99,107],69)]
def mM(g:Nat)(f:FuncId):Value:=.func (.func f) #[.pointer (some ⟨g,0,none⟩)] #[]
def qP(s:List UInt8):Option FuncId:=(Cv.find? fun x=>x.1==s).map (·.2)
def rJ(g:Nat):List MapEntry:=Cv.zipIdx.map fun x=>⟨.string ⟨x.1.1.toArray⟩,mM g x.1.2,x.2⟩
theorem JV(s:List UInt8):∀(l:List ((List UInt8×Value)×Nat)) (i:Nat),∃j,Instr.findNow .string (.string ⟨s.toArray⟩) (l.map fun x=>⟨.string ⟨x.1.1.toArray⟩,x.1.2,x.2⟩) i=some ((l.find? fun x=>x.1.1==s).map fun x=>(j,x.1.2))
 |[],i=>⟨0,rfl⟩
 |x::l,i=>by
  rw[List.map_cons,Instr.findNow,List.find?_cons]
  have hs:Instr.sameNow .string (.string ⟨s.toArray⟩) (.string ⟨x.1.1.toArray⟩)=some (x.1.1==s):=by
   show some ((⟨s.toArray⟩:ByteArray)==(⟨x.1.1.toArray⟩:ByteArray))=_;rw[bS]
   congr 1
   by_cases h:s=x.1.1
   ·rw[h]
   ·rw[beq_eq_false_iff_ne.2 h,beq_eq_false_iff_ne.2 (fun e=>h e.symm)]
  simp only[hs];cases h:(x.1.1==s)with
  |true=>exact⟨i,rfl⟩
  |false=>exact JV s l (i+1)
theorem Pw(g:Nat)(s:List UInt8):∃j,Instr.findNow .string (.string ⟨s.toArray⟩) (rJ g) 0=some ((qP s).map fun f=>(j,mM g f)):=by
 have h:=JV s (Cv.zipIdx.map fun x=>((x.1.1,mM g x.1.2),x.2)) 0;obtain⟨j,h⟩:=h;refine⟨j,?_⟩;have e:(Cv.zipIdx.map fun x=>((x.1.1,mM g x.1.2),x.2)).map (fun x=>(⟨.string ⟨x.1.1.toArray⟩,x.1.2,x.2⟩:MapEntry))=rJ g:=by rw[List.map_map];rfl
 rw[e]at h;rw[h]
 congr 1
 unfold qP;rw[List.find?_map];simp only[Option.map_map]
 have e2:∀(l:List (List UInt8×FuncId)) (n:Nat),((l.zipIdx n).find? fun x=>x.1.1==s).map (fun x=>(j,mM g x.1.2))=(l.find? fun x=>x.1==s).map fun x=>(j,mM g x.2):=by
  intro l
  induction l with
  |nil=>intro n;rfl
  |cons y l ih=>
   intro n;rw[List.zipIdx_cons,List.find?_cons,List.find?_cons];cases hy:(y.1==s)with
   |true=>rfl
   |false=>exact ih (n+1)
 exact e2 Cv 0
theorem U2(w:World):(zeroValue 82).run Tryz.prog w=.ok .nilFunc w:=by
 have:=Tryz.zeroValue82 w;exact this
theorem aaQ(e:Bool)(s:ByteArray)(w:World):(Instr.checkKey e 10000 9 (.string s)).run Tryz.prog w=.ok () w:=by
 rw[show(10000:Nat)=9999+1 from rfl];unfold Instr.checkKey;simp[run_underlying Tryz.underlying9]
theorem Px(g:Nat)(s:List UInt8)(w:World):∃j,(Instr.findKey 9 (.string ⟨s.toArray⟩) (rJ g)).run Tryz.prog w=.ok ((qP s).map fun f=>(j,mM g f)) w:=by
 obtain⟨j,hj⟩:=Pw g s;refine⟨j,?_⟩;unfold Instr.findKey;simp[run_underlying Tryz.underlying9,hj]
theorem OU{w:World}{bm g clock:Nat}(hb:w.heap[bm]?=some (.map (rJ g).toArray clock))(s:List UInt8)(ok:Bool):
  (Instr.lookup 84 (.map (some bm)) (.string ⟨s.toArray⟩) ok).run Tryz.prog w=.ok (match qP s with
   |some f=>if ok then .tuple #[mM g f,.bool true]else mM g f
   |none=>if ok then .tuple #[.nilFunc,.bool false]else .nilFunc) w:=by
 obtain⟨j,hj⟩:=Px g s w;have hg:(getObj bm).run Tryz.prog w=.ok (.map (rJ g).toArray clock) w:=by simp[getObj,Sem.run,hb]
 have hc:=aaQ;have hz:=U2 w;unfold Instr.lookup;cases hf:qP s with
 |none=>
  rw[hf]at hj;cases ok<;>simp[run_underlying Tryz.underlying84,hg,hc,hj,hz]
 |some f=>
  rw[hf]at hj;cases ok<;>simp[run_underlying Tryz.underlying84,hg,hc,hj]
def Cf.Dn(c:Cf)(bm:Nat):Prop:=c.mv=.map (some bm)∧c.W0.heap[bm]?=some (.map (rJ c.g).toArray 9)∧bm≠c.g
theorem Cf.Dn.at{c:Cf}{bm:Nat}(h:c.Dn bm){k:Nat}{op:List Nat}{w:World}(hp:Ps c k op w):w.heap[bm]?=some (.map (rJ c.g).toArray 9):=
 (hp.low.block bm (Array.getElem?_eq_some_iff.1 h.2.1).1 h.2.2).trans h.2.1
theorem IB(s:List UInt8):qP s=if s=Tr.oO then some 66 else if s=Tr.mU then some 67 else if s=Tr.bY then some 68 else if Np.tH s=true then some 69 else none:=by
 by_cases h1:s=Tr.oO
 ·subst h1;rfl
 ·by_cases h2:s=Tr.mU
  ·subst h2;rfl
  ·by_cases h3:s=Tr.bY
   ·subst h3;rfl
   ·rw[if_neg h1,if_neg h2,if_neg h3]
    have b1:(Tr.oO==s)=false:=by simpa using fun e=>h1 e.symm
    have b2:(Tr.mU==s)=false:=by simpa using fun e=>h2 e.symm
    have b3:(Tr.bY==s)=false:=by simpa using fun e=>h3 e.symm
    unfold qP Cv Np.tH Tr.eu;simp only[List.find?_cons,b1,b2,b3,List.contains_cons,List.find?_nil,List.contains_nil]
    have hc:∀x:List UInt8,(x==s)=(s==x):=fun x=>by
     by_cases e:x=s
     ·subst e;simp
     ·rw[beq_eq_false_iff_ne.2 e,beq_eq_false_iff_ne.2 (fun h=>e h.symm)]
    simp only[hc];cases(s==([104,97,116]:List UInt8))<;>cases(s==([98,97,114]:List UInt8))<;>cases(s==([118,101,99]:List UInt8))<;>cases(s==([100,111,116]:List UInt8))<;>cases(s==([116,105,108,100,101]:List UInt8))<;>cases(s==([99,104,101,99,107]:List UInt8))<;>rfl
theorem zu(s:List UInt8):qP s=none↔Np.special s=false:=by
 rw[IB];unfold Np.special
 by_cases h1:s=Tr.oO
 ·rw[if_pos h1]
  exact⟨fun h=>(by cases h),fun h=>by rw[h1]at h;revert h;decide⟩
 ·by_cases h2:s=Tr.mU
  ·rw[if_neg h1,if_pos h2]
   exact⟨fun h=>(by cases h),fun h=>by rw[h2]at h;revert h;decide⟩
  ·by_cases h3:s=Tr.bY
   ·rw[if_neg h1,if_neg h2,if_pos h3]
    exact⟨fun h=>(by cases h),fun h=>by rw[h3]at h;revert h;decide⟩
   ·have b1:(s==Tr.oO)=false:=by simpa using h1
    have b2:(s==Tr.mU)=false:=by simpa using h2
    have b3:(s==Tr.bY)=false:=by simpa using h3
    rw[if_neg h1,if_neg h2,if_neg h3,b1,b2,b3];cases Np.tH s<;>simp
theorem get_nil(s:ByteArray)(w:World):Calls Tryz.prog 169 #[.pointer none,.string s] w fun e w'=>e=.returned (.tuple #[.int .i64 0,.agg ZN,.bool false])∧ag w w':=by
 go_enter Tryz.func169,Tryz.ntmps169;go_wp2_with fail
 (try simp only[Exit.inBlock,Exit.then])
 obtain⟨p0,p1,p2,p3,_⟩:=af.four (af.new w 24 ZN);refine bodyPost_ret (v:=.tuple #[.int .i64 0,.agg ZN,.bool false]) (by simp[results,Tryz.results169,go_sem,p0,p1,p2,p3]) rfl ?_;exact⟨rfl,(M _ _).alloc _⟩
theorem JW(c:Cf)(k:Nat)(op:List Nat)(s:ByteArray)(w:World)(h:Ps c k op w):
  Calls Tryz.prog 154 #[lV c,.string s] w fun e w'=>e=.returned (.tuple #[.int .i64 0,.bool false])∧ag w w':=by
 obtain⟨ov,hb,_⟩:=h.box;have q4:=hb.cell 4;have hgw:=hb.lt;clear hb;unfold lV;go_enter Tryz.func154,Tryz.ntmps154;go_wp2_with fail
 refine(get_nil s _).mono ?_;rintro _ w1 ⟨rfl,hf⟩;have HF:=hid hf;clear hf q4;go_wp2
 go_ret2;exact⟨rfl,HF.out.alloc _⟩
end
section
open Go.RowKit
open Tr (Nd)
open Lx (aB)
attribute [local go_sem] gD stillUpon
def Jl:List aB→Option Nd
 |[]=>none
 |t::_=>Np.fO t
def Jm(c:Cf)(k:Nat)(op:List Nat)(w:World)(e:Ending)(w':World):Prop:=
 (∃x b,Jl (c.T.drop k)=some x∧e=.returned (.tuple #[.slice (some ⟨b,0,none⟩) 1 1,.bool true])∧aP w.heap.size w' [x] (.slice (some ⟨b,0,none⟩) 1 1)∧Ps c (k+1) op w'∧Mp c.g c.W0.heap.size w w')∨
 (Jl (c.T.drop k)=none∧e=.returned (.tuple #[.slice none 0 0,.bool false])∧ag w w')
theorem Bq(n m:Nat)(h:n=m):((n:Int)==(m:Int))=true:=by rw[h];simp
theorem uH(n m:Nat)(h:n≠m):((n:Int)==(m:Int))=false:=by rw[beq_eq_false_iff_ne];omega
theorem IC(c:Cf)(hc:c.Good)(k:Nat)(op:List Nat)(w:World)(h:Ps c k op w):
  Calls Tryz.prog 141 #[lV c] w (Jm c k op w):=by
 have HT:=hid (fun(w':World) (hf:ag w w')=>qO c hc k op w' (h.fresh hf));have HS:=hid (fun(w':World) (hf:ag w w') (kd:Int) (tx:List UInt8) (hk:k<c.T.length) (htx:tx.length≤maxLen)=>Iz c hc k op kd tx w' (h.fresh hf) hk htx);have kJ:=hid hc.txt;have Cj:=hid hc.par;obtain⟨ov,hb,_⟩:=h.box;have HB:=hid hb;unfold Jm;have H:=hid h;clear h hb hc;cases hl:c.T.drop k with
 |nil=>
  rw[hl]at HT;unfold yK at HT;clear hl;go_enter Tryz.func141,Tryz.ntmps141;go_wp2_with fail
  refine(HT.out _ (M _ _)).mono ?_;rintro _ w1 ⟨rfl,hf⟩;have HF:=hid hf;clear hf;go_wp2
  go_quiet (fail)
  go_wp2
  go_ret2;exact .inr ⟨rfl,rfl,HF.out.alloc _|>.drewN _⟩
 |cons t r=>
  rw[hl]at HT;unfold yK at HT
  have hk:k<c.T.length:=by
   rcases Nat.lt_or_ge k c.T.length with h|h
   ·exact h
   ·rw[List.drop_eq_nil_of_le h]at hl;cases hl
  have hmem:t∈c.T:=List.mem_of_mem_drop (i:=k) (by rw[hl];simp);have HK:=hid hk;have HX:=hid (kJ.out t hmem);have HP:=hid (Cj.out t hmem);clear hmem kJ Cj hl hk;go_enter Tryz.func141,Tryz.ntmps141;go_wp2_with fail
  refine(HT.out _ (M _ _)).mono ?_;rintro _ w1 ⟨rfl,hf⟩;have HF:=hid hf;have xI:=hid (show w.heap.size≤(w1.alloc (.cells #[.int .i64 t.kind,.string ⟨t.text.toArray⟩,.int .i64 (t.from_:Int),.int .i64 (t.eF:Int)] 115)).heap.size from(hf.alloc _).size);clear hf
  by_cases h1:t.kind=1
  ·have e1:=Bq _ 1 h1
   have HL:=hid (show Jl (t::r)=some (.mk 2 t.text 0 [])from by show Np.fO t=_;unfold Np.fO;rw[if_pos h1]);clear h1;go_wp2_with fail
   refine(HS.out _ (HF.out.alloc _) 2 t.text HK.out HX.out).mono ?_;rintro _ w2 ⟨b,rfl,htr,hp,hm⟩;have jK:=hid htr;have jb:=hid hp;have iI:=hid ((Mp.fresh (HF.out.alloc _)).trans hm);clear htr hp hm;unfold aG;go_wp2
   go_ret2;exact .inl ⟨_,b,HL.out,rfl,jK.out.base xI.out,jb.out,iI.out⟩
  ·by_cases h2:t.kind=2
   ·have e1:=uH _ 1 h1
    have e2:=Bq _ 2 h2;have HL:=hid (show Jl (t::r)=some (.mk 3 t.text 0 [])from by show Np.fO t=_;unfold Np.fO;rw[if_neg h1,if_pos h2]);clear h1 h2;go_wp2_with fail
    refine(HS.out _ (HF.out.alloc _) 3 t.text HK.out HX.out).mono ?_;rintro _ w2 ⟨b,rfl,htr,hp,hm⟩;have jK:=hid htr;have jb:=hid hp;have iI:=hid ((Mp.fresh (HF.out.alloc _)).trans hm);clear htr hp hm;unfold aG;go_wp2
    go_ret2;exact .inl ⟨_,b,HL.out,rfl,jK.out.base xI.out,jb.out,iI.out⟩
   ·by_cases h3:t.kind=3
    ·have e1:=uH _ 1 h1
     have e2:=uH _ 2 h2;have e3:=Bq _ 3 h3;have HL:=hid (show Jl (t::r)=some (.mk 4 t.text 0 [])from by show Np.fO t=_;unfold Np.fO;rw[if_neg h1,if_neg h2,if_pos h3]);clear h1 h2 h3;go_wp2_with fail
     refine(HS.out _ (HF.out.alloc _) 4 t.text HK.out HX.out).mono ?_;rintro _ w2 ⟨b,rfl,htr,hp,hm⟩;have jK:=hid htr;have jb:=hid hp;have iI:=hid ((Mp.fresh (HF.out.alloc _)).trans hm);clear htr hp hm;unfold aG;go_wp2
     go_ret2;exact .inl ⟨_,b,HL.out,rfl,jK.out.base xI.out,jb.out,iI.out⟩
    ·have HL:=hid (show Jl (t::r)=none from by show Np.fO t=_;unfold Np.fO;rw[if_neg h1,if_neg h2,if_neg h3])
     have e1:=uH _ 1 h1;have e2:=uH _ 2 h2;have e3:=uH _ 3 h3;clear h1 h2 h3;have HPS:=hid (H.out.fresh (HF.out.alloc (.cells #[.int .i64 t.kind,.string ⟨t.text.toArray⟩,.int .i64 (t.from_:Int),.int .i64 (t.eF:Int)] 115)));go_wp2_with fail
     have hf2:=HF.out.alloc (.cells #[.int .i64 t.kind,.string ⟨t.text.toArray⟩,.int .i64 (t.from_:Int),.int .i64 (t.eF:Int)] 115);have hb2:af (w1.alloc (.cells #[.int .i64 t.kind,.string ⟨t.text.toArray⟩,.int .i64 (t.from_:Int),.int .i64 (t.eF:Int)] 115)) w1.heap.size 115 #[.int .i64 t.kind,.string ⟨t.text.toArray⟩,.int .i64 (t.from_:Int),.int .i64 (t.eF:Int)]:=af.new _ _ _;generalize (w1.alloc (.cells #[.int .i64 t.kind,.string ⟨t.text.toArray⟩,.int .i64 (t.from_:Int),.int .i64 (t.eF:Int)] 115))=W2 at HPS hf2 hb2⊢;have bW:=hid hf2;obtain⟨p0,p1,p2,p3,_,_,_,_,hlt⟩:=af.four hb2;have r0:=cR p0;have r1:=cR p1;obtain⟨ov2,hbx,_⟩:=HPS.out.box;have r5:=cR ((hbx.cell 5).trans rfl);have hgx:=hbx.lt;clear hf2 hb2 p0 p1 p2 p3 hbx
     by_cases h6:t.kind=6
     ·obtain⟨b,hb,hb1,hb2⟩:=HP.out h6
      rw[h6,show((6:Nat):Int)=6 from rfl]at r0;clear h6;rw[hb]at r1;unfold lV;refine cu [] [(0,true),(1,true),(2,true),(3,true),(4,true),(5,true),(6,true),(7,true),(8,true),(9,true),(10,true),(11,true),(12,true),(13,true),(14,true),(15,true)] (by kernel_rfl) (fun _ _ d _ _ h=>by cases d<;>exact h) (by kernel_rfl) ?_;refine EN ?_
      have hbn:b.toNat=(b.toNat-48)+48:=by
       have:49≤b.toNat:=UInt8.le_iff_toNat_le.1 hb1;omega
      have hbr:49≤b.toNat∧b.toNat≤57:=⟨UInt8.le_iff_toNat_le.1 hb1,UInt8.le_iff_toNat_le.1 hb2⟩;obtain⟨m,hm,hm2⟩:∃m,b.toNat=m+48∧1≤m∧m≤9:=⟨b.toNat-48,by omega,by omega,by omega⟩;have e1':((b.toNat:Nat):Int)-48=(m:Int):=by omega
      have w1':IntKind.u8.wrap (m:Int)=(m:Int):=by
       exact IntWalk.u8_in _ (by omega)
      have hwr:decide (IntKind.i64.wrap (IntKind.u8.wrap ((b.toNat:Int)-48))≤0)=false:=by
       rw[e1',w1',IntWalk.i64_in _ (by omega)];simp
       omega
      have ak9:¬(IntKind.i64.wrap (IntKind.u8.wrap ((b.toNat:Int)-48))≤0):=by
       rw[e1',w1',IntWalk.i64_in _ (by omega)];omega
      clear e1' w1';clear hbn hbr
      repeat(refine ak rfl (fun K hK=>?_);go_simp;refine hK _ ?_;clear hK K)
      refine sj ?_;go_wp2
      go_ret2;exact .inr ⟨HL.out,rfl,bW.out.drewN _⟩
     ·have e6:¬((t.kind:Int)=6):=by omega
      clear h6;refine cu [] [(0,true),(1,true),(2,true),(3,true),(4,true),(5,true),(6,true),(7,true),(8,true),(9,true),(10,true),(11,true),(12,true),(13,true),(14,true),(15,true)] (by kernel_rfl) (fun _ _ d _ _ h=>by cases d<;>exact h) (by kernel_rfl) ?_;refine EN ?_
      repeat(refine ak rfl (fun K hK=>?_);go_simp;refine hK _ ?_;clear hK K)
      refine sj ?_;go_wp2
      go_ret2;exact .inr ⟨HL.out,rfl,bW.out.drewN _⟩
end
section
open Go.RowKit
open Tr (Nd)
open Lx (aB)
open Np (R cZ kE eB eP dA bV fD di pArg)
attribute [local go_sem] gD stillUpon
def oK(c:Cf)(k:Nat)(op:List Nat)(r:R (List Nd))(w:World)(e:Ending)(w':World):Prop:=
 match r with
 |.ok items rest=>∃A cp k',e=.returned (.tuple #[.slice A items.length cp,aG 0 0])∧aP w.heap.size w' items (.slice A items.length cp)∧c.T.drop k'=rest∧k≤k'∧Ps c k' op w'∧Mp c.g c.W0.heap.size w w'
 |.out=>True
def uQ(n:Nd)(A:Option Addr)(cp:Nat):Value:=.agg #[.int .i64 n.kind,.string ⟨n.text.toArray⟩,.int .i64 n.ah,.slice A n.kids.length cp]
def ahp(c:Cf)(k:Nat)(op:List Nat)(r:R Nd)(w:World)(e:Ending)(w':World):Prop:=
 match r with
 |.ok a rest=>∃A cp k',e=.returned (.tuple #[uQ a A cp,aG 0 0])∧aP w.heap.size w' a.kids (.slice A a.kids.length cp)∧a.text.length≤maxLen∧c.T.drop k'=rest∧k≤k'∧Ps c k' op w'∧Mp c.g c.W0.heap.size w w'
 |.out=>True
def Nn(c:Cf)(k:Nat)(op:List Nat)(r:R (Option Nd))(w:World)(e:Ending)(w':World):Prop:=
 match r with
 |.ok none rest=>∃k',e=.returned (.tuple #[.agg ZN,.bool false,aG 0 0])∧c.T.drop k'=rest∧k≤k'∧Ps c k' op w'∧Mp c.g c.W0.heap.size w w'
 |.ok (some a) rest=>∃A cp k',e=.returned (.tuple #[uQ a A cp,.bool true,aG 0 0])∧aP w.heap.size w' a.kids (.slice A a.kids.length cp)∧a.text.length≤maxLen∧c.T.drop k'=rest∧k≤k'∧Ps c k' op w'∧Mp c.g c.W0.heap.size w w'
 |.out=>True
theorem Er{c:Cf}{k:Nat}{b:UInt8}(h:Np.dx b (c.T.drop k)=true):k<c.T.length:=by
 rcases Nat.lt_or_ge k c.T.length with h1|h1
 ·exact h1
 ·rw[List.drop_eq_nil_of_le h1]at h;cases h
theorem Br{c:Cf}{k:Nat}(h:c.T.drop k≠[]):k<c.T.length:=by
 rcases Nat.lt_or_ge k c.T.length with h1|h1
 ·exact h1
 ·rw[List.drop_eq_nil_of_le h1]at h;exact absurd rfl h
def Nq(c:Cf)(f:Nat):Prop:=∀(k:Nat) (op:List Nat) (w:World),Ps c k op w→op.length≤k→cZ c.en f op (c.T.drop k)≠.out→Calls Tryz.prog 32 #[lV c] w (oK c k op (cZ c.en f op (c.T.drop k)) w)
def xM(c:Cf)(f:Nat):Prop:=∀(k:Nat) (op:List Nat) (b:UInt8) (w:World),Ps c k op w→op.length≤k→k<c.T.length→kE c.en f b op (c.T.drop k)≠.out→Calls Tryz.prog 106 #[lV c,.string ⟨#[b]⟩] w (oK c k op (kE c.en f b op (c.T.drop k)) w)
def xN(c:Cf)(f:Nat):Prop:=∀(k:Nat) (op:List Nat) (w:World),Ps c k op w→op.length≤k→pArg c.en f op (c.T.drop k)≠.out→Calls Tryz.prog 140 #[lV c] w (ahp c k op (pArg c.en f op (c.T.drop k)) w)
def Jn(c:Cf)(f:Nat):Prop:=∀(k:Nat) (op:List Nat) (b:UInt8) (w:World),Ps c k op w→op.length≤k→eB c.en f b op (c.T.drop k)≠.out→Calls Tryz.prog 110 #[lV c,.string ⟨#[b]⟩] w (Nn c k op (eB c.en f b op (c.T.drop k)) w)
theorem Mp.two{g B:Nat}{a b:World}{k:Nat}{t:TypeId}{x y:Value}(h:Mp g B a b)(hb:af a k t #[x,y])(hk:k≠g)(ht:t≠3):af b k t #[x,y]:=h.blk hb hk ht
theorem aP.mp{B:Nat}{c:Cf}{k:Nat}{op:List Nat}{w w':World}{ks:List Nd}{v:Value}(h:aP B w ks v)(hm:Mp c.g c.W0.heap.size w w')(hp:Ps c k op w):aP B w' ks v:=by
 obtain⟨ov,hb,_⟩:=hp.box;refine h.mv hm fun b cs fr hs _ e=>?_
 rcases hs with rfl|⟨_,cs',fr',h3⟩
 ·unfold af at hb
  rw[hb]at e;cases e
 ·rw[h3]at e
  cases e
def aH(w:World)(g:Nat)(x0 x1:Value):World:=(w.setCell ⟨g,0,none⟩ x0).setCell ⟨g,1,none⟩ x1
theorem af.fT{w:World}{g:Nat}{t:TypeId}{a b:Value}(h:af w g t #[a,b])(x0 x1:Value):af (aH w g x0 x1) g t #[x0,x1]:=(h.put 0 x0).put 1 x1
theorem af.nJ{w:World}{L g:Nat}{t:TypeId}{cs:Array Value}(h:af w L t cs)(hne:L≠g)(x0 x1:Value):af (aH w g x0 x1) L t cs:=(h.far (p:=⟨g,0,none⟩) hne _).far (p:=⟨g,1,none⟩) hne _
theorem Touch.aH{S:Nat→Prop}{w w':World}{g:Nat}(h:Touch S w w')(hg:S g∨w.heap.size≤g)(x0 x1:Value):Touch S w (aH w' g x0 x1):=(h.setCell (p:=⟨g,0,none⟩) hg _).setCell (p:=⟨g,1,none⟩) hg _
theorem Ps.aH{c:Cf}{k:Nat}{op:List Nat}{w:World}(h:Ps c k op w){b:Nat}{t:TypeId}{y0 y1:Value}(hb:af w b t #[y0,y1])(ht:t≠3)(hne:b≠c.g)(hB:c.W0.heap.size≤b)(x0 x1:Value):Ps c k op (aH w b x0 x1):=
 (h.put hb ht hne hB 0 x0).put (hb.put 0 x0) ht hne hB 1 x1
theorem Ps.aO{c:Cf}{k:Nat}{op:List Nat}{w:World}(h:Ps c k op w){b:Nat}{t:TypeId}{y0 y1 y2 y3:Value}(hb:af w b t #[y0,y1,y2,y3])(ht:t≠3)(hne:b≠c.g)(hB:c.W0.heap.size≤b)(x0 x1 x2 x3:Value):Ps c k op (aO w b x0 x1 x2 x3):=
 (((h.put hb ht hne hB 0 x0).put (hb.put 0 x0) ht hne hB 1 x1).put ((hb.put 0 x0).put 1 x1) ht hne hB 2 x2).put (((hb.put 0 x0).put 1 x1).put 2 x2) ht hne hB 3 x3
theorem dS(w:World)(b:Nat)(x0 x1:Value):Touch (fun k=>k=b) w (aH w b x0 x1):=(M (fun k=>k=b) w).aH (.inl rfl) x0 x1
theorem yL(w:World)(b:Nat)(x0 x1 x2 x3:Value):Touch (fun k=>k=b) w (aO w b x0 x1 x2 x3):=(M (fun k=>k=b) w).aO (.inl rfl) x0 x1 x2 x3
theorem aP.far{B:Nat}{w w':World}{b:Nat}{ks:List Nd}{v:Value}(h:aP B w ks v)(ht:Touch (fun k=>k=b) w w')(hb:b<B):aP B w' ks v:=h.mv ht fun k _ _ hk hB=>by omega
theorem aP.other{B:Nat}{w w':World}{b:Nat}{t:TypeId}{cs:Array Value}{ks:List Nd}{v:Value}(h:aP B w ks v)(hb:af w b t cs)(ht:t≠24)(hw:Touch (fun k=>k=b) w w'):aP B w' ks v:=
 h.mv hw fun k cs' fr hk _ e=>by
  subst hk;unfold af at hb;rw[hb]at e;cases e;exact ht rfl
theorem Calls.via{P:Program}{f:FuncId}{args:Array Value}{w:World}{R:Ending→World→Prop}(h:∀Q:Ending→World→Prop,(∀e w',R e w'→Q e w')→Calls P f args w Q):Calls P f args w R:=h R fun _ _ h=>h
theorem Yh(c:Cf)(hc:c.Good)(f:Nat)(hrow:Nq c f):xM c (f+1):=by
 intro k op b w h hop hk hne;have htl:=hc.tl;have oI:=hid (fun(w':World) (hf:ag w w')=>JU c hc k op w' (h.fresh hf) hk (by omega));have HR:=hid hrow;have HF:=hid (fun(k':Nat) (w':World) (h:Ps c k' (op++[Np.place c.en (c.T.drop k)]) w') (hk:k'<c.T.length∨Np.dx b (c.T.drop k')=false)=>IA c hc k' op _ b w' h hk);have H:=hid h;have oJ:=hid hop;have hgl:c.g<w.heap.size:=h.Ap;have HW0:=hid h.low.size
 have hr:kE c.en (f+1) b op (c.T.drop k)=(cZ c.en f (op++[Np.place c.en (c.T.drop k)]) (c.T.drop (k+1))).bind fun items r=>if Np.dx b r then .ok items r.tail else Np.refuse c.en r:=by
  rw[kE,List.tail_drop]
 rw[hr]at hne⊢;generalize Np.place c.en (c.T.drop k)=pl at*;have aY:=hid hne;refine Calls.via fun Q hQ=>?_
 have HQ:=hid hQ;clear hne hr hrow h hop hc hQ;go_enter Tryz.func106,Tryz.ntmps106;go_wp2_with fail
 refine(oI.out _ ((M _ _).alloc _)).mono ?_;rintro _ w1 ⟨rfl,hp1,hm1⟩;have Iu:=hid hp1;have Zi:=hid ((Mp.fresh ((M _ w).alloc _)).trans hm1);have HB1:=hid (hm1.blk (af.new w 49 #[.int .i64 0,.int .i64 0]) (by omega) (by decide));clear hp1 hm1;go_wp2_with fail
 refine(HR.out (k+1) (op++[pl]) _ Iu.out (by have:=oJ.out;simp;omega) (fun h=>aY.out (by rw[h];rfl))).mono ?_;intro e w2 hres;generalize cZ c.en f (op++[pl]) (c.T.drop (k+1))=r at*;cases r with
 |out=>exact absurd rfl aY.out
 |ok items rest=>
  obtain⟨A,cp,k',rfl,htr,hdr,hkk,hp,hm⟩:=hres;have jK:=hid htr;have jb:=hid hp;have HKK:=hid hkk;have iI:=hid (Zi.out.trans hm);have HB2:=hid (hm.blk HB1.out (by omega) (by decide));clear hm hp htr hkk;unfold aG;go_wp2_with fail
  have hmb:=iI.out.alloc (.cells #[.int .i64 0,.int .i64 0] 49);have hfb:ag w2 (w2.alloc (.cells #[.int .i64 0,.int .i64 0] 49)):=(M _ _).alloc _;have hbb:af (w2.alloc (.cells #[.int .i64 0,.int .i64 0] 49)) w2.heap.size 49 #[.int .i64 0,.int .i64 0]:=af.new _ _ _;generalize (w2.alloc (.cells #[.int .i64 0,.int .i64 0] 49))=W3 at hmb hfb hbb⊢;have rM:=hid (show Mp c.g c.W0.heap.size w W3 from hmb);have HB3:=hid (hfb.blk HB2.out (fun h=>h));have HE3:=hid hbb;have ajg:=hid (jK.out.fresh hfb);have oL:=hid (jb.out.fresh hfb);have ahq:=HB2.out.lt;have af8:c.g<w2.heap.size:=jb.out.Ap
  have hnm:k'<c.T.length∨Np.dx b (c.T.drop k')=false:=by
   cases hm:Np.dx b (c.T.drop k')with
   |true=>exact .inl (Er hm)
   |false=>exact .inr rfl
  have uf:=hid hnm;subst hdr
  have agr:=hid (show(Np.R.ok items (c.T.drop k')).bind (fun items r=>if Np.dx b r=true then Np.R.ok items r.tail else Np.refuse c.en r)=if Np.dx b (c.T.drop k')=true then .ok items (c.T.drop (k'+1))else .out from by
   rw[←List.tail_drop];rfl)
  rw[agr.out]at HQ aY;clear hmb hfb hbb jK HB2 jb agr hnm oI HR;refine(HF.out k' _ oL.out uf.out).mono ?_;rintro _ w4 (⟨hm,rfl,hp,hmv⟩|⟨hm,rfl,hmv⟩)
  ·rw[hm,if_pos rfl]at HQ
   have AP:=hid hp;have Es:=hid (rM.out.trans hmv);have iB:=hid (hmv.blk HB3.out (by omega) (by decide));have hbe:=hmv.blk HE3.out (by omega) (by decide);have ajh:=hid (aP.mp ajg.out hmv oL.out);have ags:=hid hbe;obtain⟨p0,p1,y0,y1,hlt⟩:=af.two hbe;obtain⟨s0,s1,x0,x1,hlt2⟩:=af.two iB.out;clear hp hmv hbe hm HF;unfold aG;go_wp2_with fail
   have z5:=iB.out.nJ (Nat.ne_of_lt ahq) (.int .i64 0) (.int .i64 0);have hb5:=z5.fT (.int .i64 0) (.int .i64 0);have hps:=(AP.out.aH ags.out (by decide) (by omega) (by have:=HW0.out;omega) (.int .i64 0) (.int .i64 0)).aH z5 (by decide) (by omega) HW0.out (.int .i64 0) (.int .i64 0);have wO:=(Es.out.aH (g:=w2.heap.size) (.inr (by omega)) (.int .i64 0) (.int .i64 0)).aH (.inr (Nat.le_refl w.heap.size)) (.int .i64 0) (.int .i64 0);have aji:=(ajh.out.other ags.out (by decide) (dS _ _ (.int .i64 0) (.int .i64 0))).other z5 (by decide) (dS _ _ (.int .i64 0) (.int .i64 0));obtain⟨f0,f1,_⟩:=af.two hb5;simp only[aH]at f0 f1
   (try simp only[Exit.inBlock,Exit.then])
   refine bodyPost_ret (v:=.tuple #[.slice A items.length cp,aG 0 0]) (by simp[aG,results,Tryz.results106,go_sem,f0,f1]) rfl ?_;exact HQ.out _ _ ⟨A,cp,k'+1,rfl,aji.base (by have:=Zi.out.size;omega),rfl,by have:=HKK.out;omega,hps,wO⟩
  ·rw[hm,if_neg (by simp)]at aY
   exact absurd rfl aY.out
end
end Go.Proofs.YtcgbccfpcgaikaaGreatDoor
