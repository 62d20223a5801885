/- Part 14 of 48 of a proof. No condition. -/
import Derived.Test.YtnbeemkfmlfgfaaGreatDoorTm13
set_option maxRecDepth 100000
set_option maxHeartbeats 4000000
namespace Go.Proofs.YtnbeemkfmlfgfaaGreatDoor
section
open Go.RowKit
open Xp (Rs aX bI pre bn)
theorem IG(s t:List UInt8):Lib.hasPrefix t s=Xp.pre s t:=by
 unfold Lib.hasPrefix Xp.pre;rw[Bool.eq_iff_iff,List.isPrefixOf_iff_prefix,beq_iff_eq,List.prefix_iff_eq_take];exact eq_comm
theorem aff{w:World}{g:Nat}{t:TypeId}{x0 x1 x2 x3 x4 x5 x6 x7:Value}(h:O w g t #[x0,x1,x2,x3,x4,x5,x6,x7]):
  w.cell? ⟨g,0,none⟩=some x0∧w.cell? ⟨g,1,none⟩=some x1∧w.cell? ⟨g,2,none⟩=some x2∧w.cell? ⟨g,3,none⟩=some x3∧w.cell? ⟨g,4,none⟩=some x4∧w.cell? ⟨g,5,none⟩=some x5∧w.cell? ⟨g,6,none⟩=some x6∧w.cell? ⟨g,7,none⟩=some x7:=
 ⟨h.cell 0,h.cell 1,h.cell 2,h.cell 3,h.cell 4,h.cell 5,h.cell 6,h.cell 7⟩
theorem nZ{w:World}{g:Nat}{t:TypeId}{x0 x1:Value}(h:O w g t #[x0,x1]):w.cell? ⟨g,0,none⟩=some x0∧w.cell? ⟨g,1,none⟩=some x1:=⟨h.cell 0,h.cell 1⟩
theorem pQ(s:List UInt8)(j:Nat)(h:j<bI.length):(bI.take (j+1)).find? (fun x=>x.1==s)=((bI.take j).find? (fun x=>x.1==s)).or (if bI[j].1==s then some bI[j]else none):=by
 rw[List.take_add_one,List.getElem?_eq_getElem h,List.find?_append]
 congr 1
 show(List.find? _ [bI[j]])=_;rw[List.find?_cons];cases bI[j].1==s<;>rfl
theorem qK(s:List UInt8)(j:Nat)(h:j<bI.length)(h0:(bI.take j).find? (fun x=>x.1==s)=none)(he:(bI[j].1==s)=true):bI.find? (fun x=>x.1==s)=some bI[j]:=by
 have h1:(bI.take (j+1)).find? (fun x=>x.1==s)=some bI[j]:=by rw[pQ s j h,h0,he];rfl
 have h2:=List.take_append_drop (j+1) bI;generalize bI[j]=y at h1⊢;rw[←h2,List.find?_append,h1];rfl
theorem qL(s:List UInt8)(j:Nat)(h:j<bI.length):(bI.take (j+1)).any (fun x=>pre s x.1)=((bI.take j).any (fun x=>pre s x.1)||pre s bI[j].1):=Cq bI j h _
theorem Vo(S:ByteArray)(g c:Nat)(l0:List UInt8)(w:World)(hS:S.size≤1099511627776)(h:Xr S g l0 c w):Calls Tryz.prog 218 #[.pointer (some ⟨g,0,none⟩)] w fun e w'=>XB S g w (bn c [] l0) e w':=by
 have HX:=I h;have Dv:=I h.nK;have hg0:=h.lt;have hll:=h.len;obtain⟨q0,q1,q2,_,_,_,_⟩:=fV h.blk;obtain⟨k0,hk0⟩:∃k,k=S.size-l0.length:=⟨_,rfl⟩;have qD:=I hk0;rw[←hk0]at q1;clear h hk0;go_enter Tryz.func218,Tryz.ntmps218;go_wp2_with fail
 have hbr:=O.new w 246 #[.string ⟨#[38,97,109,112,59]⟩,.int .u8 38,.string ⟨#[38,108,116,59]⟩,.int .u8 60,.string ⟨#[38,103,116,59]⟩,.int .u8 62,.string ⟨#[38,113,117,111,116,59]⟩,.int .u8 34];have hf1:=(M (fun _=>False) w).alloc (.cells #[.string ⟨#[38,97,109,112,59]⟩,.int .u8 38,.string ⟨#[38,108,116,59]⟩,.int .u8 60,.string ⟨#[38,103,116,59]⟩,.int .u8 62,.string ⟨#[38,113,117,111,116,59]⟩,.int .u8 34] 246);refine aV (fun W=>ag w W∧O W w.heap.size 246 #[.string ⟨#[38,97,109,112,59]⟩,.int .u8 38,.string ⟨#[38,108,116,59]⟩,.int .u8 60,.string ⟨#[38,103,116,59]⟩,.int .u8 62,.string ⟨#[38,113,117,111,116,59]⟩,.int .u8 34]) ⟨hf1,hbr⟩ ?_;clear hbr hf1 q0 q1 q2;rintro W1 ⟨hf1,mZ⟩;have HT1:=I (show Touch (fun b=>b=g) w W1 from hf1.mono fun _ h=>h.elim);have bS:=I (HX.J.fresh hf1);have HB1:=I mZ;clear hf1 mZ HX
 go_loopw [] (fun wr=>∃(p l1:List UInt8),Hd (p++l1=l0)∧Hd (bn c [] l0=bn c p l1)∧Hd (Touch (fun b=>b=g) w wr)∧Hd (Xr S g l1 c wr)∧Hd (O wr w.heap.size 246 #[.string ⟨#[38,97,109,112,59]⟩,.int .u8 38,.string ⟨#[38,108,116,59]⟩,.int .u8 60,.string ⟨#[38,103,116,59]⟩,.int .u8 62,.string ⟨#[38,113,117,111,116,59]⟩,.int .u8 34])) (fun wr=>S.size-posOf g wr)
 case atStart=>exact⟨[],l0,I rfl,I rfl,HT1,bS,HB1⟩
 case round=>
  obtain⟨p,l1,Vp,HRE,HT,HX,HB⟩:=hrel;have HP:=I (jY HX.J);cases l1 with
  |nil=>
   have aG:=I (show bn c [] l0=.bad [] by rw[HRE.J,bn]);go_wp2_with fail
   refine(iZ S g c _ HX.J).mono ?_;rintro _ w2 ⟨rfl,ht⟩;refine⟨rfl,(?_:XB S g w (bn c [] l0) _ _)⟩;rw[aG.J];exact⟨rfl,HT.J.trans ht⟩
  |cons b l2=>
   go_wp2_with fail
   refine(bK S g c b l2 _ HX.J).mono ?_;rintro _ w2 ⟨rfl,hf2⟩;have eT:=I (HX.J.fresh hf2);have HT2:=I (HT.J.trans (hf2.mono fun _ h=>h.elim));have hb2:=hf2.blk HB.J fun h=>h
   have HB2:=I hb2;obtain⟨s,hs⟩:∃s,s=p++[b]:=⟨_,rfl⟩;have HSS:=I hs
   have HRR:=I (show bn c [] l0=(match bI.find? (fun x=>x.1==s)with
     |some x=>.ok x.2 l2 c
     |none=>if bI.any (fun x=>pre s x.1)then bn c s l2 else .bad (b::l2)) by rw[HRE.J,bn,hs];rfl)
   have Za:=I (show s++l2=l0 by rw[hs,←Vp.J,List.append_assoc];rfl);have hlen:=eT.J.len;obtain⟨hk,hbx,hk2⟩:=uZ eT.J.nK;clear hbx;obtain⟨k,hkk⟩:∃k,k=S.size-(b::l2).length:=⟨_,rfl⟩;have HK:=I hkk;have Ad:=I (show k+1=S.size-l2.length by rw[hkk];exact hk2);have hki:k+1≤S.size:=by rw[hkk];omega
   have qE:=I (show S.extract k0 (k+1)=⟨s.toArray⟩ by
    have h:=oz (S:=S) (p:=s) (r:=l2) (by rw[Za.J];exact Dv.J);rw[Za.J,←qD.J,←Ad.J]at h;exact h)
   have aiV:k0≤k:=by
    have h1:=Vp.J;have h2:=qD.J;have h3:l0.length=p.length+(b::l2).length:=by rw[←h1,List.length_append]
    rw[h2,hkk];omega
   clear hf2 hb2 hs hk hk2 hkk HB HX HT Vp HRE hlen;obtain⟨m0,m1,m2,m3,m4,m5,m6,m7⟩:=aff HB2.J;go_wp2_with fail
   clear m0 m1 m2 m3 m4 m5 m6 m7
   go_loopw [20,5] (fun i bg wr=>∃(j:Nat) (bb:Bool),i=.int .i64 j∧bg=.bool bb∧j≤4∧Hd (bb=(bI.take j).any (fun x=>pre s x.1))∧Hd ((bI.take j).find? (fun x=>x.1==s)=none)∧Hd (Touch (fun b=>b=g) w wr)∧Hd (Xr S g (b::l2) c wr)∧Hd (O wr w.heap.size 246 #[.string ⟨#[38,97,109,112,59]⟩,.int .u8 38,.string ⟨#[38,108,116,59]⟩,.int .u8 60,.string ⟨#[38,103,116,59]⟩,.int .u8 62,.string ⟨#[38,113,117,111,116,59]⟩,.int .u8 34])) (fun i _ _=>4-(intOf i).toNat)
   case atStart=>exact⟨0,false,rfl,rfl,by omega,I rfl,I rfl,HT2,eT,HB2⟩
   case round=>
    obtain⟨j,bb,rfl,rfl,hj,fT,xW,HT,HX,HB⟩:=hrel;rename_i wr _;have hj4:j=0∨j=1∨j=2∨j=3∨j=4:=by omega
    have hw:IntKind.i64.wrap ((k:Int)+1)=(k:Int)+1:=IntWalk.i64_in _ (by omega);have hz1:(k0:Int)≤(k:Int)+1:=by omega
    have hz2:(k:Int)+1≤(S.size:Int):=by omega
    rcases hj4 with rfl|rfl|rfl|rfl|rfl
    ·have hge:wr.heap.size≠g:=by have:=HX.J.lt;omega
     have hgr:w.heap.size<wr.heap.size:=HB.J.lt;have hix:∀W:World,(Instr.index 246 (.agg #[.string ⟨#[38,97,109,112,59]⟩,.int .u8 38,.string ⟨#[38,108,116,59]⟩,.int .u8 60,.string ⟨#[38,103,116,59]⟩,.int .u8 62,.string ⟨#[38,113,117,111,116,59]⟩,.int .u8 34]) (.int .i64 0)).run Tryz.prog W=.ok (.agg #[.string ⟨#[38,97,109,112,59]⟩,.int .u8 38]) W:=fun W=>by with_unfolding_all rfl
     go_wp2_with fail
     clear hix;have mo:=I (O.new wr 245 #[.string ⟨#[38,97,109,112,59]⟩,.int .u8 38]);have iG:=I ((M (fun _=>False) wr).alloc (.cells #[.string ⟨#[38,97,109,112,59]⟩,.int .u8 38] 245));have eu:=I (HT.J.trans (iG.J.mono fun _ h=>h.elim));have dI:=I (HX.J.fresh iG.J);have bV:=I (iG.J.blk HB.J fun h=>h);generalize hr7:wr.heap.size=r7 at mo hge⊢;generalize (wr.alloc (.cells #[.string ⟨#[38,97,109,112,59]⟩,.int .u8 38] 245))=w5 at mo iG eu dI bV⊢;have hex:=qE.J;cases bb with
     |true=>
      obtain⟨q0,q1,q2,f0,f1,f2,hg⟩:=fV dI.J.blk;rw[←HK.J]at q1;obtain⟨n0,n1⟩:=nZ mo.J
      go_quiet (fail)
      have sH:=I (show ag w5 (w5.drewN _)from(M (fun _=>False) w5).drewN nq);have u6:=I (show true=(bI.take (0+1)).any (fun x=>pre s x.1) by rw[qL s 0 (by decide),←fT.J];rfl);have fD:=I (dI.J.fresh sH.J);have dB:=I (eu.J.trans (sH.J.mono fun _ h=>h.elim));have iM:=I (sH.J.blk bV.J fun h=>h);have ko:=I (sH.J.blk mo.J fun h=>h);generalize (w5.drewN nq)=w6 at fD dB iM ko⊢;clear sH q0 q1 q2 f0 f1 f2 hg n0 n1;obtain⟨q0,q1,q2,f0,f1,f2,hg⟩:=fV fD.J.blk;rw[←HK.J]at q1;obtain⟨n0,n1⟩:=nZ ko.J;cases heq:(([38,97,109,112,59]:List UInt8)==s)with
      |true=>
       have hst:((⟨#[38,97,109,112,59]⟩:ByteArray)==⟨s.toArray⟩)=true:=kC [38,97,109,112,59] s true heq;have aG:=I (show bn c [] l0=.ok 38 l2 c by rw[HRR.J,qK s 0 (by decide) xW.J heq];rfl);go_wp2
       go_quiet (fail)
       have hx6:=fD.J.fresh ((M _ w6).drewN nq);have jl:=dB.J.drewN nq;have oO:=ko.J.drewN nq;generalize (w6.drewN nq)=w7 at hx6 jl oO⊢;clear q0 q1 q2 f0 f1 f2 hg n0 n1;obtain⟨q0,q1,q2,f0,f1,f2,hg⟩:=fV hx6.blk;rw[←HK.J]at q1;obtain⟨n0,n1⟩:=nZ oO;have hx7:=hx6.qh;rw[←HK.J]at hx7;have jV:=I hx7;have dS:=I (jl.setCell (p:=⟨g,1,none⟩) (.inl rfl) (.int .i64 ((k:Int)+1)));have G7:r7≠g:=hge;clear hx7 hx6 jl oO;go_wp2
       go_ret;rw[aG.J];exact⟨rfl,dS.J,jV.J⟩
      |false=>
       have hst:((⟨#[38,97,109,112,59]⟩:ByteArray)==⟨s.toArray⟩)=false:=kC [38,97,109,112,59] s false heq;have u7:=I (show(bI.take (0+1)).find? (fun x=>x.1==s)=none by rw[pQ s 0 (by decide),xW.J,show(bI[0].1==s)=false from heq];rfl);go_wp2
       go_quiet (fail)
       go_wp2_with fail
       exact⟨⟨0+1,true,by first|rfl|go_num,rfl,by omega,u6,u7,dB.J.drewN _,fD.J.fresh ((M _ _).drewN _),iM.J.drewN _⟩,by simp[intOf]⟩
     |false=>
      go_wp2_with fail
      obtain⟨p0,p1,_,_,_,_,_⟩:=fV dI.J.blk;rw[←HK.J]at p1;obtain⟨n0,n1⟩:=nZ mo.J;have r0:=cell_regrown p0;have r1:=cell_regrown p1;have r2:=cell_regrown n0;have C0:=I (iN (P:=Tryz.prog) w5 (fun w hw=>(Tryz.strings_HasPrefix ⟨#[38,97,109,112,59]⟩ ⟨s.toArray⟩ w).mono fun _ _ h=>⟨h.1,by rw[h.2];exact M _ _⟩));clear p0 p1 n0 n1;refine wp_region_quiet_below (by kernel_rfl) (by kernel_rfl) ?_
      repeat(with_reducible refine wpQuiet_step (fun K hK=>?_);go_simp;first|(refine hK _ ?_;clear hK K)|(apply Exists.intro;refine⟨fun _=>?_,hK _ ?_⟩;(first|with_reducible exact C0.J _ _);clear hK K))
      refine wpQuiet_nil ?_;rintro w6 ⟨⟨_,_⟩,Ec⟩;have bu:ag w5 w6:=by rw[Ec];exact bE (below_regrown _ _ _)
      clear Ec r0 r1 r2 C0;have fD:=I (dI.J.fresh bu);have dB:=I (eu.J.trans (bu.mono fun _ h=>h.elim));have iM:=I (bu.blk bV.J fun h=>h);have ko:=I (bu.blk mo.J fun h=>h);have u6:=I (show Lib.hasPrefix ([38,97,109,112,59]:List UInt8) s=(bI.take (0+1)).any (fun x=>pre s x.1) by rw[qL s 0 (by decide),←fT.J,IG];rfl);clear bu;obtain⟨q0,q1,q2,f0,f1,f2,hg⟩:=fV fD.J.blk;rw[←HK.J]at q1;obtain⟨n0,n1⟩:=nZ ko.J;cases heq:(([38,97,109,112,59]:List UInt8)==s)with
      |true=>
       have hst:((⟨#[38,97,109,112,59]⟩:ByteArray)==⟨s.toArray⟩)=true:=kC [38,97,109,112,59] s true heq;have aG:=I (show bn c [] l0=.ok 38 l2 c by rw[HRR.J,qK s 0 (by decide) xW.J heq];rfl);go_wp2
       go_quiet (fail)
       have hx6:=fD.J.fresh ((M _ w6).drewN nq);have jl:=dB.J.drewN nq;have oO:=ko.J.drewN nq;generalize (w6.drewN nq)=w7 at hx6 jl oO⊢;clear q0 q1 q2 f0 f1 f2 hg n0 n1;obtain⟨q0,q1,q2,f0,f1,f2,hg⟩:=fV hx6.blk;rw[←HK.J]at q1;obtain⟨n0,n1⟩:=nZ oO;have hx7:=hx6.qh;rw[←HK.J]at hx7;have jV:=I hx7;have dS:=I (jl.setCell (p:=⟨g,1,none⟩) (.inl rfl) (.int .i64 ((k:Int)+1)));have G7:r7≠g:=hge;clear hx7 hx6 jl oO;go_wp2
       go_ret;rw[aG.J];exact⟨rfl,dS.J,jV.J⟩
      |false=>
       have hst:((⟨#[38,97,109,112,59]⟩:ByteArray)==⟨s.toArray⟩)=false:=kC [38,97,109,112,59] s false heq;have u7:=I (show(bI.take (0+1)).find? (fun x=>x.1==s)=none by rw[pQ s 0 (by decide),xW.J,show(bI[0].1==s)=false from heq];rfl);go_wp2
       go_quiet (fail)
       go_wp2_with fail
       exact⟨⟨0+1,Lib.hasPrefix ([38,97,109,112,59]:List UInt8) s,by first|rfl|go_num,rfl,by omega,u6,u7,dB.J.drewN _,fD.J.fresh ((M _ _).drewN _),iM.J.drewN _⟩,by simp[intOf]⟩
    ·have hge:wr.heap.size≠g:=by have:=HX.J.lt;omega
     have hgr:w.heap.size<wr.heap.size:=HB.J.lt;have hix:∀W:World,(Instr.index 246 (.agg #[.string ⟨#[38,97,109,112,59]⟩,.int .u8 38,.string ⟨#[38,108,116,59]⟩,.int .u8 60,.string ⟨#[38,103,116,59]⟩,.int .u8 62,.string ⟨#[38,113,117,111,116,59]⟩,.int .u8 34]) (.int .i64 1)).run Tryz.prog W=.ok (.agg #[.string ⟨#[38,108,116,59]⟩,.int .u8 60]) W:=fun W=>by with_unfolding_all rfl
     go_wp2_with fail
     clear hix;have mo:=I (O.new wr 245 #[.string ⟨#[38,108,116,59]⟩,.int .u8 60]);have iG:=I ((M (fun _=>False) wr).alloc (.cells #[.string ⟨#[38,108,116,59]⟩,.int .u8 60] 245));have eu:=I (HT.J.trans (iG.J.mono fun _ h=>h.elim));have dI:=I (HX.J.fresh iG.J);have bV:=I (iG.J.blk HB.J fun h=>h);generalize hr7:wr.heap.size=r7 at mo hge⊢;generalize (wr.alloc (.cells #[.string ⟨#[38,108,116,59]⟩,.int .u8 60] 245))=w5 at mo iG eu dI bV⊢;have hex:=qE.J;cases bb with
     |true=>
      obtain⟨q0,q1,q2,f0,f1,f2,hg⟩:=fV dI.J.blk;rw[←HK.J]at q1;obtain⟨n0,n1⟩:=nZ mo.J
      go_quiet (fail)
      have sH:=I (show ag w5 (w5.drewN _)from(M (fun _=>False) w5).drewN nq);have u6:=I (show true=(bI.take (1+1)).any (fun x=>pre s x.1) by rw[qL s 1 (by decide),←fT.J];rfl);have fD:=I (dI.J.fresh sH.J);have dB:=I (eu.J.trans (sH.J.mono fun _ h=>h.elim));have iM:=I (sH.J.blk bV.J fun h=>h);have ko:=I (sH.J.blk mo.J fun h=>h);generalize (w5.drewN nq)=w6 at fD dB iM ko⊢;clear sH q0 q1 q2 f0 f1 f2 hg n0 n1;obtain⟨q0,q1,q2,f0,f1,f2,hg⟩:=fV fD.J.blk;rw[←HK.J]at q1;obtain⟨n0,n1⟩:=nZ ko.J;cases heq:(([38,108,116,59]:List UInt8)==s)with
      |true=>
       have hst:((⟨#[38,108,116,59]⟩:ByteArray)==⟨s.toArray⟩)=true:=kC [38,108,116,59] s true heq;have aG:=I (show bn c [] l0=.ok 60 l2 c by rw[HRR.J,qK s 1 (by decide) xW.J heq];rfl);go_wp2
       go_quiet (fail)
       have hx6:=fD.J.fresh ((M _ w6).drewN nq);have jl:=dB.J.drewN nq;have oO:=ko.J.drewN nq;generalize (w6.drewN nq)=w7 at hx6 jl oO⊢;clear q0 q1 q2 f0 f1 f2 hg n0 n1;obtain⟨q0,q1,q2,f0,f1,f2,hg⟩:=fV hx6.blk;rw[←HK.J]at q1;obtain⟨n0,n1⟩:=nZ oO;have hx7:=hx6.qh;rw[←HK.J]at hx7;have jV:=I hx7;have dS:=I (jl.setCell (p:=⟨g,1,none⟩) (.inl rfl) (.int .i64 ((k:Int)+1)));have G7:r7≠g:=hge;clear hx7 hx6 jl oO;go_wp2
       go_ret;rw[aG.J];exact⟨rfl,dS.J,jV.J⟩
      |false=>
       have hst:((⟨#[38,108,116,59]⟩:ByteArray)==⟨s.toArray⟩)=false:=kC [38,108,116,59] s false heq;have u7:=I (show(bI.take (1+1)).find? (fun x=>x.1==s)=none by rw[pQ s 1 (by decide),xW.J,show(bI[1].1==s)=false from heq];rfl);go_wp2
       go_quiet (fail)
       go_wp2_with fail
       exact⟨⟨1+1,true,by first|rfl|go_num,rfl,by omega,u6,u7,dB.J.drewN _,fD.J.fresh ((M _ _).drewN _),iM.J.drewN _⟩,by simp[intOf]⟩
     |false=>
      go_wp2_with fail
      obtain⟨p0,p1,_,_,_,_,_⟩:=fV dI.J.blk;rw[←HK.J]at p1;obtain⟨n0,n1⟩:=nZ mo.J;have r0:=cell_regrown p0;have r1:=cell_regrown p1;have r2:=cell_regrown n0;have C0:=I (iN (P:=Tryz.prog) w5 (fun w hw=>(Tryz.strings_HasPrefix ⟨#[38,108,116,59]⟩ ⟨s.toArray⟩ w).mono fun _ _ h=>⟨h.1,by rw[h.2];exact M _ _⟩));clear p0 p1 n0 n1;refine wp_region_quiet_below (by kernel_rfl) (by kernel_rfl) ?_
      repeat(with_reducible refine wpQuiet_step (fun K hK=>?_);go_simp;first|(refine hK _ ?_;clear hK K)|(apply Exists.intro;refine⟨fun _=>?_,hK _ ?_⟩;(first|with_reducible exact C0.J _ _);clear hK K))
      refine wpQuiet_nil ?_;rintro w6 ⟨⟨_,_⟩,Ec⟩;have bu:ag w5 w6:=by rw[Ec];exact bE (below_regrown _ _ _)
      clear Ec r0 r1 r2 C0;have fD:=I (dI.J.fresh bu);have dB:=I (eu.J.trans (bu.mono fun _ h=>h.elim));have iM:=I (bu.blk bV.J fun h=>h);have ko:=I (bu.blk mo.J fun h=>h);have u6:=I (show Lib.hasPrefix ([38,108,116,59]:List UInt8) s=(bI.take (1+1)).any (fun x=>pre s x.1) by rw[qL s 1 (by decide),←fT.J,IG];rfl);clear bu;obtain⟨q0,q1,q2,f0,f1,f2,hg⟩:=fV fD.J.blk;rw[←HK.J]at q1;obtain⟨n0,n1⟩:=nZ ko.J;cases heq:(([38,108,116,59]:List UInt8)==s)with
      |true=>
       have hst:((⟨#[38,108,116,59]⟩:ByteArray)==⟨s.toArray⟩)=true:=kC [38,108,116,59] s true heq;have aG:=I (show bn c [] l0=.ok 60 l2 c by rw[HRR.J,qK s 1 (by decide) xW.J heq];rfl);go_wp2
       go_quiet (fail)
       have hx6:=fD.J.fresh ((M _ w6).drewN nq);have jl:=dB.J.drewN nq;have oO:=ko.J.drewN nq;generalize (w6.drewN nq)=w7 at hx6 jl oO⊢;clear q0 q1 q2 f0 f1 f2 hg n0 n1;obtain⟨q0,q1,q2,f0,f1,f2,hg⟩:=fV hx6.blk;rw[←HK.J]at q1;obtain⟨n0,n1⟩:=nZ oO;have hx7:=hx6.qh;rw[←HK.J]at hx7;have jV:=I hx7;have dS:=I (jl.setCell (p:=⟨g,1,none⟩) (.inl rfl) (.int .i64 ((k:Int)+1)));have G7:r7≠g:=hge;clear hx7 hx6 jl oO;go_wp2
       go_ret;rw[aG.J];exact⟨rfl,dS.J,jV.J⟩
      |false=>
       have hst:((⟨#[38,108,116,59]⟩:ByteArray)==⟨s.toArray⟩)=false:=kC [38,108,116,59] s false heq;have u7:=I (show(bI.take (1+1)).find? (fun x=>x.1==s)=none by rw[pQ s 1 (by decide),xW.J,show(bI[1].1==s)=false from heq];rfl);go_wp2
       go_quiet (fail)
       go_wp2_with fail
       exact⟨⟨1+1,Lib.hasPrefix ([38,108,116,59]:List UInt8) s,by first|rfl|go_num,rfl,by omega,u6,u7,dB.J.drewN _,fD.J.fresh ((M _ _).drewN _),iM.J.drewN _⟩,by simp[intOf]⟩
    ·have hge:wr.heap.size≠g:=by have:=HX.J.lt;omega
     have hgr:w.heap.size<wr.heap.size:=HB.J.lt;have hix:∀W:World,(Instr.index 246 (.agg #[.string ⟨#[38,97,109,112,59]⟩,.int .u8 38,.string ⟨#[38,108,116,59]⟩,.int .u8 60,.string ⟨#[38,103,116,59]⟩,.int .u8 62,.string ⟨#[38,113,117,111,116,59]⟩,.int .u8 34]) (.int .i64 2)).run Tryz.prog W=.ok (.agg #[.string ⟨#[38,103,116,59]⟩,.int .u8 62]) W:=fun W=>by with_unfolding_all rfl
     go_wp2_with fail
     clear hix;have mo:=I (O.new wr 245 #[.string ⟨#[38,103,116,59]⟩,.int .u8 62]);have iG:=I ((M (fun _=>False) wr).alloc (.cells #[.string ⟨#[38,103,116,59]⟩,.int .u8 62] 245));have eu:=I (HT.J.trans (iG.J.mono fun _ h=>h.elim));have dI:=I (HX.J.fresh iG.J);have bV:=I (iG.J.blk HB.J fun h=>h);generalize hr7:wr.heap.size=r7 at mo hge⊢;generalize (wr.alloc (.cells #[.string ⟨#[38,103,116,59]⟩,.int .u8 62] 245))=w5 at mo iG eu dI bV⊢;have hex:=qE.J;cases bb with
     |true=>
      obtain⟨q0,q1,q2,f0,f1,f2,hg⟩:=fV dI.J.blk;rw[←HK.J]at q1;obtain⟨n0,n1⟩:=nZ mo.J
      go_quiet (fail)
      have sH:=I (show ag w5 (w5.drewN _)from(M (fun _=>False) w5).drewN nq);have u6:=I (show true=(bI.take (2+1)).any (fun x=>pre s x.1) by rw[qL s 2 (by decide),←fT.J];rfl);have fD:=I (dI.J.fresh sH.J);have dB:=I (eu.J.trans (sH.J.mono fun _ h=>h.elim));have iM:=I (sH.J.blk bV.J fun h=>h);have ko:=I (sH.J.blk mo.J fun h=>h);generalize (w5.drewN nq)=w6 at fD dB iM ko⊢;clear sH q0 q1 q2 f0 f1 f2 hg n0 n1;obtain⟨q0,q1,q2,f0,f1,f2,hg⟩:=fV fD.J.blk;rw[←HK.J]at q1;obtain⟨n0,n1⟩:=nZ ko.J;cases heq:(([38,103,116,59]:List UInt8)==s)with
      |true=>
       have hst:((⟨#[38,103,116,59]⟩:ByteArray)==⟨s.toArray⟩)=true:=kC [38,103,116,59] s true heq;have aG:=I (show bn c [] l0=.ok 62 l2 c by rw[HRR.J,qK s 2 (by decide) xW.J heq];rfl);go_wp2
       go_quiet (fail)
       have hx6:=fD.J.fresh ((M _ w6).drewN nq);have jl:=dB.J.drewN nq;have oO:=ko.J.drewN nq;generalize (w6.drewN nq)=w7 at hx6 jl oO⊢;clear q0 q1 q2 f0 f1 f2 hg n0 n1;obtain⟨q0,q1,q2,f0,f1,f2,hg⟩:=fV hx6.blk;rw[←HK.J]at q1;obtain⟨n0,n1⟩:=nZ oO;have hx7:=hx6.qh;rw[←HK.J]at hx7;have jV:=I hx7;have dS:=I (jl.setCell (p:=⟨g,1,none⟩) (.inl rfl) (.int .i64 ((k:Int)+1)));have G7:r7≠g:=hge;clear hx7 hx6 jl oO;go_wp2
       go_ret;rw[aG.J];exact⟨rfl,dS.J,jV.J⟩
      |false=>
       have hst:((⟨#[38,103,116,59]⟩:ByteArray)==⟨s.toArray⟩)=false:=kC [38,103,116,59] s false heq;have u7:=I (show(bI.take (2+1)).find? (fun x=>x.1==s)=none by rw[pQ s 2 (by decide),xW.J,show(bI[2].1==s)=false from heq];rfl);go_wp2
       go_quiet (fail)
       go_wp2_with fail
       exact⟨⟨2+1,true,by first|rfl|go_num,rfl,by omega,u6,u7,dB.J.drewN _,fD.J.fresh ((M _ _).drewN _),iM.J.drewN _⟩,by simp[intOf]⟩
     |false=>
      go_wp2_with fail
      obtain⟨p0,p1,_,_,_,_,_⟩:=fV dI.J.blk;rw[←HK.J]at p1;obtain⟨n0,n1⟩:=nZ mo.J;have r0:=cell_regrown p0;have r1:=cell_regrown p1;have r2:=cell_regrown n0;have C0:=I (iN (P:=Tryz.prog) w5 (fun w hw=>(Tryz.strings_HasPrefix ⟨#[38,103,116,59]⟩ ⟨s.toArray⟩ w).mono fun _ _ h=>⟨h.1,by rw[h.2];exact M _ _⟩));clear p0 p1 n0 n1;refine wp_region_quiet_below (by kernel_rfl) (by kernel_rfl) ?_
      repeat(with_reducible refine wpQuiet_step (fun K hK=>?_);go_simp;first|(refine hK _ ?_;clear hK K)|(apply Exists.intro;refine⟨fun _=>?_,hK _ ?_⟩;(first|with_reducible exact C0.J _ _);clear hK K))
      refine wpQuiet_nil ?_;rintro w6 ⟨⟨_,_⟩,Ec⟩;have bu:ag w5 w6:=by rw[Ec];exact bE (below_regrown _ _ _)
      clear Ec r0 r1 r2 C0;have fD:=I (dI.J.fresh bu);have dB:=I (eu.J.trans (bu.mono fun _ h=>h.elim));have iM:=I (bu.blk bV.J fun h=>h);have ko:=I (bu.blk mo.J fun h=>h);have u6:=I (show Lib.hasPrefix ([38,103,116,59]:List UInt8) s=(bI.take (2+1)).any (fun x=>pre s x.1) by rw[qL s 2 (by decide),←fT.J,IG];rfl);clear bu;obtain⟨q0,q1,q2,f0,f1,f2,hg⟩:=fV fD.J.blk;rw[←HK.J]at q1;obtain⟨n0,n1⟩:=nZ ko.J;cases heq:(([38,103,116,59]:List UInt8)==s)with
      |true=>
       have hst:((⟨#[38,103,116,59]⟩:ByteArray)==⟨s.toArray⟩)=true:=kC [38,103,116,59] s true heq;have aG:=I (show bn c [] l0=.ok 62 l2 c by rw[HRR.J,qK s 2 (by decide) xW.J heq];rfl);go_wp2
       go_quiet (fail)
       have hx6:=fD.J.fresh ((M _ w6).drewN nq);have jl:=dB.J.drewN nq;have oO:=ko.J.drewN nq;generalize (w6.drewN nq)=w7 at hx6 jl oO⊢;clear q0 q1 q2 f0 f1 f2 hg n0 n1;obtain⟨q0,q1,q2,f0,f1,f2,hg⟩:=fV hx6.blk;rw[←HK.J]at q1;obtain⟨n0,n1⟩:=nZ oO;have hx7:=hx6.qh;rw[←HK.J]at hx7;have jV:=I hx7;have dS:=I (jl.setCell (p:=⟨g,1,none⟩) (.inl rfl) (.int .i64 ((k:Int)+1)));have G7:r7≠g:=hge;clear hx7 hx6 jl oO;go_wp2
       go_ret;rw[aG.J];exact⟨rfl,dS.J,jV.J⟩
      |false=>
       have hst:((⟨#[38,103,116,59]⟩:ByteArray)==⟨s.toArray⟩)=false:=kC [38,103,116,59] s false heq;have u7:=I (show(bI.take (2+1)).find? (fun x=>x.1==s)=none by rw[pQ s 2 (by decide),xW.J,show(bI[2].1==s)=false from heq];rfl);go_wp2
       go_quiet (fail)
       go_wp2_with fail
       exact⟨⟨2+1,Lib.hasPrefix ([38,103,116,59]:List UInt8) s,by first|rfl|go_num,rfl,by omega,u6,u7,dB.J.drewN _,fD.J.fresh ((M _ _).drewN _),iM.J.drewN _⟩,by simp[intOf]⟩
    ·have hge:wr.heap.size≠g:=by have:=HX.J.lt;omega
     have hgr:w.heap.size<wr.heap.size:=HB.J.lt;have hix:∀W:World,(Instr.index 246 (.agg #[.string ⟨#[38,97,109,112,59]⟩,.int .u8 38,.string ⟨#[38,108,116,59]⟩,.int .u8 60,.string ⟨#[38,103,116,59]⟩,.int .u8 62,.string ⟨#[38,113,117,111,116,59]⟩,.int .u8 34]) (.int .i64 3)).run Tryz.prog W=.ok (.agg #[.string ⟨#[38,113,117,111,116,59]⟩,.int .u8 34]) W:=fun W=>by with_unfolding_all rfl
     go_wp2_with fail
     clear hix;have mo:=I (O.new wr 245 #[.string ⟨#[38,113,117,111,116,59]⟩,.int .u8 34]);have iG:=I ((M (fun _=>False) wr).alloc (.cells #[.string ⟨#[38,113,117,111,116,59]⟩,.int .u8 34] 245));have eu:=I (HT.J.trans (iG.J.mono fun _ h=>h.elim));have dI:=I (HX.J.fresh iG.J);have bV:=I (iG.J.blk HB.J fun h=>h);generalize hr7:wr.heap.size=r7 at mo hge⊢;generalize (wr.alloc (.cells #[.string ⟨#[38,113,117,111,116,59]⟩,.int .u8 34] 245))=w5 at mo iG eu dI bV⊢;have hex:=qE.J;cases bb with
     |true=>
      obtain⟨q0,q1,q2,f0,f1,f2,hg⟩:=fV dI.J.blk;rw[←HK.J]at q1;obtain⟨n0,n1⟩:=nZ mo.J
      go_quiet (fail)
      have sH:=I (show ag w5 (w5.drewN _)from(M (fun _=>False) w5).drewN nq);have u6:=I (show true=(bI.take (3+1)).any (fun x=>pre s x.1) by rw[qL s 3 (by decide),←fT.J];rfl);have fD:=I (dI.J.fresh sH.J);have dB:=I (eu.J.trans (sH.J.mono fun _ h=>h.elim));have iM:=I (sH.J.blk bV.J fun h=>h);have ko:=I (sH.J.blk mo.J fun h=>h);generalize (w5.drewN nq)=w6 at fD dB iM ko⊢;clear sH q0 q1 q2 f0 f1 f2 hg n0 n1;obtain⟨q0,q1,q2,f0,f1,f2,hg⟩:=fV fD.J.blk;rw[←HK.J]at q1;obtain⟨n0,n1⟩:=nZ ko.J;cases heq:(([38,113,117,111,116,59]:List UInt8)==s)with
      |true=>
       have hst:((⟨#[38,113,117,111,116,59]⟩:ByteArray)==⟨s.toArray⟩)=true:=kC [38,113,117,111,116,59] s true heq;have aG:=I (show bn c [] l0=.ok 34 l2 c by rw[HRR.J,qK s 3 (by decide) xW.J heq];rfl);go_wp2
       go_quiet (fail)
       have hx6:=fD.J.fresh ((M _ w6).drewN nq);have jl:=dB.J.drewN nq;have oO:=ko.J.drewN nq;generalize (w6.drewN nq)=w7 at hx6 jl oO⊢;clear q0 q1 q2 f0 f1 f2 hg n0 n1;obtain⟨q0,q1,q2,f0,f1,f2,hg⟩:=fV hx6.blk;rw[←HK.J]at q1;obtain⟨n0,n1⟩:=nZ oO;have hx7:=hx6.qh;rw[←HK.J]at hx7;have jV:=I hx7;have dS:=I (jl.setCell (p:=⟨g,1,none⟩) (.inl rfl) (.int .i64 ((k:Int)+1)));have G7:r7≠g:=hge;clear hx7 hx6 jl oO;go_wp2
       go_ret;rw[aG.J];exact⟨rfl,dS.J,jV.J⟩
      |false=>
       have hst:((⟨#[38,113,117,111,116,59]⟩:ByteArray)==⟨s.toArray⟩)=false:=kC [38,113,117,111,116,59] s false heq;have u7:=I (show(bI.take (3+1)).find? (fun x=>x.1==s)=none by rw[pQ s 3 (by decide),xW.J,show(bI[3].1==s)=false from heq];rfl);go_wp2
       go_quiet (fail)
       go_wp2_with fail
       exact⟨⟨3+1,true,by first|rfl|go_num,rfl,by omega,u6,u7,dB.J.drewN _,fD.J.fresh ((M _ _).drewN _),iM.J.drewN _⟩,by simp[intOf]⟩
     |false=>
      go_wp2_with fail
      obtain⟨p0,p1,_,_,_,_,_⟩:=fV dI.J.blk;rw[←HK.J]at p1;obtain⟨n0,n1⟩:=nZ mo.J;have r0:=cell_regrown p0;have r1:=cell_regrown p1;have r2:=cell_regrown n0;have C0:=I (iN (P:=Tryz.prog) w5 (fun w hw=>(Tryz.strings_HasPrefix ⟨#[38,113,117,111,116,59]⟩ ⟨s.toArray⟩ w).mono fun _ _ h=>⟨h.1,by rw[h.2];exact M _ _⟩));clear p0 p1 n0 n1;refine wp_region_quiet_below (by kernel_rfl) (by kernel_rfl) ?_
      repeat(with_reducible refine wpQuiet_step (fun K hK=>?_);go_simp;first|(refine hK _ ?_;clear hK K)|(apply Exists.intro;refine⟨fun _=>?_,hK _ ?_⟩;(first|with_reducible exact C0.J _ _);clear hK K))
      refine wpQuiet_nil ?_;rintro w6 ⟨⟨_,_⟩,Ec⟩;have bu:ag w5 w6:=by rw[Ec];exact bE (below_regrown _ _ _)
      clear Ec r0 r1 r2 C0;have fD:=I (dI.J.fresh bu);have dB:=I (eu.J.trans (bu.mono fun _ h=>h.elim));have iM:=I (bu.blk bV.J fun h=>h);have ko:=I (bu.blk mo.J fun h=>h);have u6:=I (show Lib.hasPrefix ([38,113,117,111,116,59]:List UInt8) s=(bI.take (3+1)).any (fun x=>pre s x.1) by rw[qL s 3 (by decide),←fT.J,IG];rfl);clear bu;obtain⟨q0,q1,q2,f0,f1,f2,hg⟩:=fV fD.J.blk;rw[←HK.J]at q1;obtain⟨n0,n1⟩:=nZ ko.J;cases heq:(([38,113,117,111,116,59]:List UInt8)==s)with
      |true=>
       have hst:((⟨#[38,113,117,111,116,59]⟩:ByteArray)==⟨s.toArray⟩)=true:=kC [38,113,117,111,116,59] s true heq;have aG:=I (show bn c [] l0=.ok 34 l2 c by rw[HRR.J,qK s 3 (by decide) xW.J heq];rfl);go_wp2
       go_quiet (fail)
       have hx6:=fD.J.fresh ((M _ w6).drewN nq);have jl:=dB.J.drewN nq;have oO:=ko.J.drewN nq;generalize (w6.drewN nq)=w7 at hx6 jl oO⊢;clear q0 q1 q2 f0 f1 f2 hg n0 n1;obtain⟨q0,q1,q2,f0,f1,f2,hg⟩:=fV hx6.blk;rw[←HK.J]at q1;obtain⟨n0,n1⟩:=nZ oO;have hx7:=hx6.qh;rw[←HK.J]at hx7;have jV:=I hx7;have dS:=I (jl.setCell (p:=⟨g,1,none⟩) (.inl rfl) (.int .i64 ((k:Int)+1)));have G7:r7≠g:=hge;clear hx7 hx6 jl oO;go_wp2
       go_ret;rw[aG.J];exact⟨rfl,dS.J,jV.J⟩
      |false=>
       have hst:((⟨#[38,113,117,111,116,59]⟩:ByteArray)==⟨s.toArray⟩)=false:=kC [38,113,117,111,116,59] s false heq;have u7:=I (show(bI.take (3+1)).find? (fun x=>x.1==s)=none by rw[pQ s 3 (by decide),xW.J,show(bI[3].1==s)=false from heq];rfl);go_wp2
       go_quiet (fail)
       go_wp2_with fail
       exact⟨⟨3+1,Lib.hasPrefix ([38,113,117,111,116,59]:List UInt8) s,by first|rfl|go_num,rfl,by omega,u6,u7,dB.J.drewN _,fD.J.fresh ((M _ _).drewN _),iM.J.drewN _⟩,by simp[intOf]⟩
    ·have GZ:=I (show bI.find? (fun x=>x.1==s)=none from xW.J)
     have adl:=I (show bb=bI.any (fun x=>pre s x.1)from fT.J);cases bb with
     |false=>
      have aG:=I (show bn c [] l0=.bad (b::l2) by rw[HRR.J,GZ.J];show(if bI.any (fun x=>pre s x.1)=true then _ else _)=_;rw[←adl.J];rfl);go_wp2_with fail
      refine(iq S g (b::l2) c _ HX.J).mono ?_;rintro _ w3 ⟨rfl,rfl⟩;refine⟨rfl,(?_:XB S g w (bn c [] l0) _ _)⟩;rw[aG.J];exact⟨rfl,HT.J⟩
     |true=>
      have aG:=I (show bn c [] l0=bn c s l2 by rw[HRR.J,GZ.J];show(if bI.any (fun x=>pre s x.1)=true then _ else _)=_;rw[←adl.J];rfl);obtain⟨q0,q1,q2,f0,f1,f2,hg⟩:=fV HX.J.blk;rw[←HK.J]at q1;have hx4:=HX.J.qh;rw[←HK.J]at hx4;have gD:=I hx4;have iU:=I (HT.J.setCell (p:=⟨g,1,none⟩) (.inl rfl) (.int .i64 ((k:Int)+1)));have iI:=I ((HB.J).far (p:=⟨g,1,none⟩) (by show _≠g;omega) (.int .i64 ((k:Int)+1)));have HM:=I (jY hx4);clear hx4;go_wp2
      refine⟨⟨s,l2,Za,aG,iU,gD,iI⟩,?_⟩;rw[HM.J,HP.J];have h1:=HK.J;have h2:=Ad.J;simp only[List.length_cons]at*;omega
end
section
open Go.RowKit
open Xp (Rs aX gZ bn)
theorem xX(b:UInt8)(k:UInt8):((b.toNat:Int)==(k.toNat:Int))=(b==k):=by
 rw[Bool.eq_iff_iff,beq_iff_eq,beq_iff_eq];constructor
 ·intro h;exact UInt8.toNat_inj.1 (by omega)
 ·rintro rfl;rfl
theorem Af(S:ByteArray)(g c n:Nat)(l:List UInt8)(w:World)(hS:S.size≤1099511627776)(hn:n≤9223372036854775807)(h:Xr S g l c w):Calls Tryz.prog 201 #[.pointer (some ⟨g,0,none⟩),.int .i64 (n:Int)] w fun e w'=>XB S g w (gZ n c l) e w':=by
 have HX:=I h;clear h;cases l with
 |nil=>
  go_enter Tryz.func201,Tryz.ntmps201;go_wp2_with fail
  refine(iZ S g c _ HX.J).mono ?_;rintro _ w1 ⟨rfl,ht⟩;exact⟨rfl,rfl,ht⟩
 |cons b l=>
 have iV:((decide ((200:Int)≤(n:Int))=true∨(decide ((200:Int)≤(n:Int))=false∧((b.toNat:Int)==(60:Int))=true))∧gZ n c (b::l)=.bad (b::l))∨
   (decide ((200:Int)≤(n:Int))=false∧((b.toNat:Int)==(60:Int))=false∧U.aK b=false∧gZ n c (b::l)=.bad (b::l))∨
   (decide ((200:Int)≤(n:Int))=false∧((b.toNat:Int)==(60:Int))=false∧U.aK b=true∧((((b.toNat:Int)==(38:Int))=true∧gZ n c (b::l)=bn c [] (b::l))∨(((b.toNat:Int)==(38:Int))=false∧gZ n c (b::l)=.ok b l c))):=by
  have hc:gZ n c (b::l)=if 200≤n∨b=60∨U.aK b=false then .bad (b::l)else if b=38 then bn c [] (b::l)else .ok b l c:=rfl
  have yG:((b.toNat:Int)==(60:Int))=(b==60):=xX b 60;have Ed:((b.toNat:Int)==(38:Int))=(b==38):=xX b 38;rw[yG,Ed,hc]
  by_cases c1:200≤n
  ·exact .inl ⟨.inl (dT (by omega)),if_pos (.inl c1)⟩
  ·have d1:decide ((200:Int)≤(n:Int))=false:=dF (by omega)
   by_cases c2:b=60
   ·exact .inl ⟨.inr ⟨d1,by rw[c2];rfl⟩,if_pos (.inr (.inl c2))⟩
   ·have e2:(b==60)=false:=by rw[beq_eq_false_iff_ne];exact c2
    cases c3:U.aK b with
    |false=>exact .inr (.inl ⟨d1,e2,rfl,if_pos (.inr (.inr rfl))⟩)
    |true=>
     have hno:¬(200≤n∨b=60∨true=false):=by rintro(h|h|h);exact c1 h;exact c2 h;cases h
     refine .inr (.inr ⟨d1,e2,rfl,?_⟩);rw[if_neg hno]
     by_cases c4:b=38
     ·exact .inl ⟨by rw[c4];rfl,if_pos c4⟩
     ·exact .inr ⟨by rw[beq_eq_false_iff_ne];exact c4,if_neg c4⟩
 have qi:=I (fun(W:World) (h:Xr S g (b::l) c W)=>bK S g c b l W h)
 rcases iV with⟨d1|⟨d1,d2⟩,hfin⟩|⟨d1,d2,d3,hfin⟩|⟨d1,d2,d3,hfin⟩
 focus
  have aG:=I hfin;clear hfin;go_enter Tryz.func201,Tryz.ntmps201;go_wp2_with fail
  refine(qi.J _ HX.J).mono ?_;rintro _ w1 ⟨rfl,hf⟩;have bS:=I (HX.J.fresh hf);have aF:=I hf;clear hf;go_wp2_with fail
  refine(iq S g (b::l) c _ bS.J).mono ?_;rintro _ w2 ⟨rfl,rfl⟩;refine⟨rfl,(?_:XB S g w (gZ n c (b::l)) _ _)⟩;rw[aG.J];exact⟨rfl,aF.J.mono fun _ h=>h.elim⟩
 focus
  have aG:=I hfin;clear hfin;go_enter Tryz.func201,Tryz.ntmps201;go_wp2_with fail
  refine(qi.J _ HX.J).mono ?_;rintro _ w1 ⟨rfl,hf⟩;have bS:=I (HX.J.fresh hf);have aF:=I hf;clear hf;go_wp2_with fail
  refine(iq S g (b::l) c _ bS.J).mono ?_;rintro _ w2 ⟨rfl,rfl⟩;refine⟨rfl,(?_:XB S g w (gZ n c (b::l)) _ _)⟩;rw[aG.J];exact⟨rfl,aF.J.mono fun _ h=>h.elim⟩
 focus
  have aG:=I hfin;clear hfin;go_enter Tryz.func201,Tryz.ntmps201;go_wp2_with fail
  refine(qi.J _ HX.J).mono ?_;rintro _ w1 ⟨rfl,hf⟩;have bS:=I (HX.J.fresh hf);have aF:=I hf;clear hf;go_wp2_with fail
  refine(rZ b _).mono ?_;rintro _ w2 ⟨rfl,hw⟩;replace hw:=hw.symm;subst hw;go_wp2_with fail
  refine(iq S g (b::l) c _ bS.J).mono ?_;rintro _ w2 ⟨rfl,rfl⟩;refine⟨rfl,(?_:XB S g w (gZ n c (b::l)) _ _)⟩;rw[aG.J];exact⟨rfl,aF.J.mono fun _ h=>h.elim⟩
 rcases hfin with⟨d4,hfin⟩|⟨d4,hfin⟩
 focus
  have aG:=I hfin;clear hfin;go_enter Tryz.func201,Tryz.ntmps201;go_wp2_with fail
  refine(qi.J _ HX.J).mono ?_;rintro _ w1 ⟨rfl,hf⟩;have bS:=I (HX.J.fresh hf);have aF:=I (show Touch (fun b=>b=g) w w1 from hf.mono fun _ h=>h.elim);clear hf;go_wp2_with fail
  refine(rZ b _).mono ?_;rintro _ w2 ⟨rfl,hw⟩;replace hw:=hw.symm;subst hw;go_wp2_with fail
  refine(Vo S g c (b::l) _ hS bS.J).mono ?_;intro e w2 he;have he2:=XB.trans aF.J he;rw[←aG.J]at he2;cases hr:gZ n c (b::l)with
  |bad l2=>
   rw[hr]at he2;have h1:=he2.1;subst h1;refine⟨rfl,(?_:XB S g w (gZ n c (b::l)) _ _)⟩;rw[hr];exact he2
  |ok x l2 c2=>
   rw[hr]at he2;obtain⟨rfl,ht,hx⟩:=he2;have HF:=I (show XB S g w (gZ n c (b::l)) (.returned (.int .u8 (x.toNat:Int))) w2 by rw[hr];exact⟨rfl,ht,hx⟩);clear hr ht hx he;go_wp2
   go_ret;exact HF.J
 focus
  have aG:=I hfin;clear hfin;go_enter Tryz.func201,Tryz.ntmps201;go_wp2_with fail
  refine(qi.J _ HX.J).mono ?_;rintro _ w1 ⟨rfl,hf⟩;have hx1:=HX.J.fresh hf;have aF:=I (show Touch (fun b=>b=g) w w1 from hf.mono fun _ h=>h.elim);obtain⟨q0,q1,q2,f0,f1,f2,hg⟩:=fV hx1.blk;have hle:=hx1.len;have hw:IntKind.i64.wrap (((S.size-(b::l).length:Nat):Int)+1)=((S.size-(b::l).length:Nat):Int)+1:=IntWalk.i64_in _ (by omega);have eT:=I hx1.qh;clear hf hx1 hle;generalize S.size-(b::l).length=k at*;go_wp2_with fail
  refine(rZ b _).mono ?_;rintro _ w2 ⟨rfl,hw2⟩;replace hw2:=hw2.symm;subst hw2;go_wp2
  go_ret;rw[aG.J];exact⟨rfl,aF.J.setCell (p:=⟨g,1,none⟩) (.inl rfl) _,eT.J⟩
end
end Go.Proofs.YtnbeemkfmlfgfaaGreatDoor
