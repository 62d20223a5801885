/- Part 19 of 46 of a proof. No condition. -/
import Derived.Test.YtcgbccfpcgaikaaGreatDoorYm18
set_option maxRecDepth 100000
set_option maxHeartbeats 4000000
namespace Go.Proofs.YtcgbccfpcgaikaaGreatDoor
section
open Go.RowKit
open Xp (Rs bQ cO pre eT)
theorem LH(s t:List UInt8):Lib.hasPrefix t s=Xp.pre s t:=by
 unfold Lib.hasPrefix Xp.pre;rw[Bool.eq_iff_iff,List.isPrefixOf_iff_prefix,beq_iff_eq,List.prefix_iff_eq_take];exact eq_comm
theorem aiE{w:World}{g:Nat}{t:TypeId}{x0 x1 x2 x3 x4 x5 x6 x7:Value}(h:af w g t #[x0,x1,x2,x3,x4,x5,x6,x7]):
  w.cell? ⟨g,0,none⟩=some x0∧w.cell? ⟨g,1,none⟩=some x1∧w.cell? ⟨g,2,none⟩=some x2∧w.cell? ⟨g,3,none⟩=some x3∧w.cell? ⟨g,4,none⟩=some x4∧w.cell? ⟨g,5,none⟩=some x5∧w.cell? ⟨g,6,none⟩=some x6∧w.cell? ⟨g,7,none⟩=some x7:=
 ⟨h.cell 0,h.cell 1,h.cell 2,h.cell 3,h.cell 4,h.cell 5,h.cell 6,h.cell 7⟩
theorem oV{w:World}{g:Nat}{t:TypeId}{x0 x1:Value}(h:af w g t #[x0,x1]):w.cell? ⟨g,0,none⟩=some x0∧w.cell? ⟨g,1,none⟩=some x1:=⟨h.cell 0,h.cell 1⟩
theorem qK(s:List UInt8)(j:Nat)(h:j<cO.length):(cO.take (j+1)).find? (fun x=>x.1==s)=((cO.take j).find? (fun x=>x.1==s)).or (if cO[j].1==s then some cO[j]else none):=by
 rw[List.take_add_one,List.getElem?_eq_getElem h,List.find?_append]
 congr 1
 show(List.find? _ [cO[j]])=_;rw[List.find?_cons];cases cO[j].1==s<;>rfl
theorem sG(s:List UInt8)(j:Nat)(h:j<cO.length)(h0:(cO.take j).find? (fun x=>x.1==s)=none)(he:(cO[j].1==s)=true):cO.find? (fun x=>x.1==s)=some cO[j]:=by
 have h1:(cO.take (j+1)).find? (fun x=>x.1==s)=some cO[j]:=by rw[qK s j h,h0,he];rfl
 have h2:=List.take_append_drop (j+1) cO;generalize cO[j]=y at h1⊢;rw[←h2,List.find?_append,h1];rfl
theorem sH(s:List UInt8)(j:Nat)(h:j<cO.length):(cO.take (j+1)).any (fun x=>pre s x.1)=((cO.take j).any (fun x=>pre s x.1)||pre s cO[j].1):=Rb cO j h _
theorem ZP(S:ByteArray)(g c:Nat)(l0:List UInt8)(w:World)(hS:S.size≤1099511627776)(h:Xr S g l0 c w):Calls Tryz.prog 165 #[.pointer (some ⟨g,0,none⟩)] w fun e w'=>XB S g w (eT c [] l0) e w':=by
 have HX:=hid h;have Vw:=hid h.Ef;have hg0:=h.lt;have hll:=h.len;obtain⟨q0,q1,q2,_,_,_,_⟩:=fM h.blk;obtain⟨k0,hk0⟩:∃k,k=S.size-l0.length:=⟨_,rfl⟩;have CX:=hid hk0;rw[←hk0]at q1;clear h hk0;go_enter Tryz.func165,Tryz.ntmps165;go_wp2_with fail
 have hbr:=af.new w 200 #[.string ⟨#[38,97,109,112,59]⟩,.int .u8 38,.string ⟨#[38,108,116,59]⟩,.int .u8 60,.string ⟨#[38,103,116,59]⟩,.int .u8 62,.string ⟨#[38,113,117,111,116,59]⟩,.int .u8 34];have hf1:=(M (fun _=>False) w).alloc (.cells #[.string ⟨#[38,97,109,112,59]⟩,.int .u8 38,.string ⟨#[38,108,116,59]⟩,.int .u8 60,.string ⟨#[38,103,116,59]⟩,.int .u8 62,.string ⟨#[38,113,117,111,116,59]⟩,.int .u8 34] 200);refine bK (fun W=>ag w W∧af W w.heap.size 200 #[.string ⟨#[38,97,109,112,59]⟩,.int .u8 38,.string ⟨#[38,108,116,59]⟩,.int .u8 60,.string ⟨#[38,103,116,59]⟩,.int .u8 62,.string ⟨#[38,113,117,111,116,59]⟩,.int .u8 34]) ⟨hf1,hbr⟩ ?_;clear hbr hf1 q0 q1 q2;rintro W1 ⟨hf1,yx⟩;have HT1:=hid (show Touch (fun b=>b=g) w W1 from hf1.mono fun _ h=>h.elim);have je:=hid (HX.out.fresh hf1);have HB1:=hid yx;clear hf1 yx HX
 go_loopw [] (fun wr=>∃(p l1:List UInt8),Hd (p++l1=l0)∧Hd (eT c [] l0=eT c p l1)∧Hd (Touch (fun b=>b=g) w wr)∧Hd (Xr S g l1 c wr)∧Hd (af wr w.heap.size 200 #[.string ⟨#[38,97,109,112,59]⟩,.int .u8 38,.string ⟨#[38,108,116,59]⟩,.int .u8 60,.string ⟨#[38,103,116,59]⟩,.int .u8 62,.string ⟨#[38,113,117,111,116,59]⟩,.int .u8 34])) (fun wr=>S.size-posOf g wr)
 case atStart=>exact⟨[],l0,hid rfl,hid rfl,HT1,je,HB1⟩
 case round=>
  obtain⟨p,l1,HPL,HRE,HT,HX,HB⟩:=hrel;have HP:=hid (lN HX.out);cases l1 with
  |nil=>
   have dB:=hid (show eT c [] l0=.bad [] by rw[HRE.out,eT]);go_wp2_with fail
   refine(xE S g c _ HX.out).mono ?_;rintro _ w2 ⟨rfl,ht⟩;refine⟨rfl,(?_:XB S g w (eT c [] l0) _ _)⟩;rw[dB.out];exact⟨rfl,HT.out.trans ht⟩
  |cons b l2=>
   go_wp2_with fail
   refine(fG S g c b l2 _ HX.out).mono ?_;rintro _ w2 ⟨rfl,hf2⟩;have p8:=hid (HX.out.fresh hf2);have HT2:=hid (HT.out.trans (hf2.mono fun _ h=>h.elim));have hb2:=hf2.blk HB.out fun h=>h
   have HB2:=hid hb2;obtain⟨s,hs⟩:∃s,s=p++[b]:=⟨_,rfl⟩;have HSS:=hid hs
   have HRR:=hid (show eT c [] l0=(match cO.find? (fun x=>x.1==s)with
     |some x=>.ok x.2 l2 c
     |none=>if cO.any (fun x=>pre s x.1)then eT c s l2 else .bad (b::l2)) by rw[HRE.out,eT,hs];rfl)
   have ace:=hid (show s++l2=l0 by rw[hs,←HPL.out,List.append_assoc];rfl);have hlen:=p8.out.len;obtain⟨hk,hbx,hk2⟩:=BV p8.out.Ef;clear hbx;obtain⟨k,hkk⟩:∃k,k=S.size-(b::l2).length:=⟨_,rfl⟩;have HK:=hid hkk;have uP:=hid (show k+1=S.size-l2.length by rw[hkk];exact hk2);have hki:k+1≤S.size:=by rw[hkk];omega
   have CY:=hid (show S.extract k0 (k+1)=⟨s.toArray⟩ by
    have h:=zK (S:=S) (p:=s) (r:=l2) (by rw[ace.out];exact Vw.out);rw[ace.out,←CX.out,←uP.out]at h;exact h)
   have akW:k0≤k:=by
    have h1:=HPL.out;have h2:=CX.out;have h3:l0.length=p.length+(b::l2).length:=by rw[←h1,List.length_append]
    rw[h2,hkk];omega
   clear hf2 hb2 hs hk hk2 hkk HB HX HT HPL HRE hlen;obtain⟨m0,m1,m2,m3,m4,m5,m6,m7⟩:=aiE HB2.out;go_wp2_with fail
   clear m0 m1 m2 m3 m4 m5 m6 m7
   go_loopw [20,5] (fun i bg wr=>∃(j:Nat) (bb:Bool),i=.int .i64 j∧bg=.bool bb∧j≤4∧Hd (bb=(cO.take j).any (fun x=>pre s x.1))∧Hd ((cO.take j).find? (fun x=>x.1==s)=none)∧Hd (Touch (fun b=>b=g) w wr)∧Hd (Xr S g (b::l2) c wr)∧Hd (af wr w.heap.size 200 #[.string ⟨#[38,97,109,112,59]⟩,.int .u8 38,.string ⟨#[38,108,116,59]⟩,.int .u8 60,.string ⟨#[38,103,116,59]⟩,.int .u8 62,.string ⟨#[38,113,117,111,116,59]⟩,.int .u8 34])) (fun i _ _=>4-(intOf i).toNat)
   case atStart=>exact⟨0,false,rfl,rfl,by omega,hid rfl,hid rfl,HT2,p8,HB2⟩
   case round=>
    obtain⟨j,bb,rfl,rfl,hj,gu,zZ,HT,HX,HB⟩:=hrel;rename_i wr _;have hj4:j=0∨j=1∨j=2∨j=3∨j=4:=by omega
    have hw:IntKind.i64.wrap ((k:Int)+1)=(k:Int)+1:=IntWalk.i64_in _ (by omega);have hz1:(k0:Int)≤(k:Int)+1:=by omega
    have hz2:(k:Int)+1≤(S.size:Int):=by omega
    rcases hj4 with rfl|rfl|rfl|rfl|rfl
    ·have hge:wr.heap.size≠g:=by have:=HX.out.lt;omega
     have hgr:w.heap.size<wr.heap.size:=HB.out.lt;have hix:∀W:World,(Instr.index 200 (.agg #[.string ⟨#[38,97,109,112,59]⟩,.int .u8 38,.string ⟨#[38,108,116,59]⟩,.int .u8 60,.string ⟨#[38,103,116,59]⟩,.int .u8 62,.string ⟨#[38,113,117,111,116,59]⟩,.int .u8 34]) (.int .i64 0)).run Tryz.prog W=.ok (.agg #[.string ⟨#[38,97,109,112,59]⟩,.int .u8 38]) W:=fun W=>by with_unfolding_all rfl
     go_wp2_with fail
     clear hix;have iY:=hid (af.new wr 199 #[.string ⟨#[38,97,109,112,59]⟩,.int .u8 38]);have gL:=hid ((M (fun _=>False) wr).alloc (.cells #[.string ⟨#[38,97,109,112,59]⟩,.int .u8 38] 199));have iW:=hid (HT.out.trans (gL.out.mono fun _ h=>h.elim));have iR:=hid (HX.out.fresh gL.out);have eO:=hid (gL.out.blk HB.out fun h=>h);generalize hr7:wr.heap.size=r7 at iY hge⊢;generalize (wr.alloc (.cells #[.string ⟨#[38,97,109,112,59]⟩,.int .u8 38] 199))=w5 at iY gL iW iR eO⊢;have hex:=CY.out;cases bb with
     |true=>
      obtain⟨q0,q1,q2,f0,f1,f2,hg⟩:=fM iR.out.blk;rw[←HK.out]at q1;obtain⟨n0,n1⟩:=oV iY.out
      go_quiet (fail)
      have ve:=hid (show ag w5 (w5.drewN _)from(M (fun _=>False) w5).drewN nq);have wX:=hid (show true=(cO.take (0+1)).any (fun x=>pre s x.1) by rw[sH s 0 (by decide),←gu.out];rfl);have iJ:=hid (iR.out.fresh ve.out);have iC:=hid (iW.out.trans (ve.out.mono fun _ h=>h.elim));have gy:=hid (ve.out.blk eO.out fun h=>h);have ic:=hid (ve.out.blk iY.out fun h=>h);generalize (w5.drewN nq)=w6 at iJ iC gy ic⊢;clear ve q0 q1 q2 f0 f1 f2 hg n0 n1;obtain⟨q0,q1,q2,f0,f1,f2,hg⟩:=fM iJ.out.blk;rw[←HK.out]at q1;obtain⟨n0,n1⟩:=oV ic.out;cases heq:(([38,97,109,112,59]:List UInt8)==s)with
      |true=>
       have hst:((⟨#[38,97,109,112,59]⟩:ByteArray)==⟨s.toArray⟩)=true:=ko [38,97,109,112,59] s true heq;have dB:=hid (show eT c [] l0=.ok 38 l2 c by rw[HRR.out,sG s 0 (by decide) zZ.out heq];rfl);go_wp2
       go_quiet (fail)
       have hx6:=iJ.out.fresh ((M _ w6).drewN nq);have jq:=iC.out.drewN nq;have qa:=ic.out.drewN nq;generalize (w6.drewN nq)=w7 at hx6 jq qa⊢;clear q0 q1 q2 f0 f1 f2 hg n0 n1;obtain⟨q0,q1,q2,f0,f1,f2,hg⟩:=fM hx6.blk;rw[←HK.out]at q1;obtain⟨n0,n1⟩:=oV qa;have hx7:=hx6.wG;rw[←HK.out]at hx7;have oh:=hid hx7;have jy:=hid (jq.setCell (p:=⟨g,1,none⟩) (.inl rfl) (.int .i64 ((k:Int)+1)));have Km:r7≠g:=hge;clear hx7 hx6 jq qa;go_wp2
       go_ret;rw[dB.out];exact⟨rfl,jy.out,oh.out⟩
      |false=>
       have hst:((⟨#[38,97,109,112,59]⟩:ByteArray)==⟨s.toArray⟩)=false:=ko [38,97,109,112,59] s false heq;have wY:=hid (show(cO.take (0+1)).find? (fun x=>x.1==s)=none by rw[qK s 0 (by decide),zZ.out,show(cO[0].1==s)=false from heq];rfl);go_wp2
       go_quiet (fail)
       go_wp2_with fail
       exact⟨⟨0+1,true,by first|rfl|go_num,rfl,by omega,wX,wY,iC.out.drewN _,iJ.out.fresh ((M _ _).drewN _),gy.out.drewN _⟩,by simp[intOf]⟩
     |false=>
      go_wp2_with fail
      obtain⟨p0,p1,_,_,_,_,_⟩:=fM iR.out.blk;rw[←HK.out]at p1;obtain⟨n0,n1⟩:=oV iY.out;have r0:=cell_regrown p0;have r1:=cell_regrown p1;have r2:=cell_regrown n0;have C0:=hid (lJ (P:=Tryz.prog) w5 (fun w hw=>(Tryz.strings_HasPrefix ⟨#[38,97,109,112,59]⟩ ⟨s.toArray⟩ w).mono fun _ _ h=>⟨h.1,by rw[h.2];exact M _ _⟩));clear p0 p1 n0 n1;refine wp_region_quiet_below (by kernel_rfl) (by kernel_rfl) ?_
      repeat(with_reducible refine wpQuiet_step (fun K hK=>?_);go_simp;first|(refine hK _ ?_;clear hK K)|(apply Exists.intro;refine⟨fun _=>?_,hK _ ?_⟩;(first|with_reducible exact C0.out _ _);clear hK K))
      refine wpQuiet_nil ?_;rintro w6 ⟨⟨_,_⟩,GZ⟩;have dK:ag w5 w6:=by rw[GZ];exact aZ (below_regrown _ _ _)
      clear GZ r0 r1 r2 C0;have iJ:=hid (iR.out.fresh dK);have iC:=hid (iW.out.trans (dK.mono fun _ h=>h.elim));have gy:=hid (dK.blk eO.out fun h=>h);have ic:=hid (dK.blk iY.out fun h=>h);have wX:=hid (show Lib.hasPrefix ([38,97,109,112,59]:List UInt8) s=(cO.take (0+1)).any (fun x=>pre s x.1) by rw[sH s 0 (by decide),←gu.out,LH];rfl);clear dK;obtain⟨q0,q1,q2,f0,f1,f2,hg⟩:=fM iJ.out.blk;rw[←HK.out]at q1;obtain⟨n0,n1⟩:=oV ic.out;cases heq:(([38,97,109,112,59]:List UInt8)==s)with
      |true=>
       have hst:((⟨#[38,97,109,112,59]⟩:ByteArray)==⟨s.toArray⟩)=true:=ko [38,97,109,112,59] s true heq;have dB:=hid (show eT c [] l0=.ok 38 l2 c by rw[HRR.out,sG s 0 (by decide) zZ.out heq];rfl);go_wp2
       go_quiet (fail)
       have hx6:=iJ.out.fresh ((M _ w6).drewN nq);have jq:=iC.out.drewN nq;have qa:=ic.out.drewN nq;generalize (w6.drewN nq)=w7 at hx6 jq qa⊢;clear q0 q1 q2 f0 f1 f2 hg n0 n1;obtain⟨q0,q1,q2,f0,f1,f2,hg⟩:=fM hx6.blk;rw[←HK.out]at q1;obtain⟨n0,n1⟩:=oV qa;have hx7:=hx6.wG;rw[←HK.out]at hx7;have oh:=hid hx7;have jy:=hid (jq.setCell (p:=⟨g,1,none⟩) (.inl rfl) (.int .i64 ((k:Int)+1)));have Km:r7≠g:=hge;clear hx7 hx6 jq qa;go_wp2
       go_ret;rw[dB.out];exact⟨rfl,jy.out,oh.out⟩
      |false=>
       have hst:((⟨#[38,97,109,112,59]⟩:ByteArray)==⟨s.toArray⟩)=false:=ko [38,97,109,112,59] s false heq;have wY:=hid (show(cO.take (0+1)).find? (fun x=>x.1==s)=none by rw[qK s 0 (by decide),zZ.out,show(cO[0].1==s)=false from heq];rfl);go_wp2
       go_quiet (fail)
       go_wp2_with fail
       exact⟨⟨0+1,Lib.hasPrefix ([38,97,109,112,59]:List UInt8) s,by first|rfl|go_num,rfl,by omega,wX,wY,iC.out.drewN _,iJ.out.fresh ((M _ _).drewN _),gy.out.drewN _⟩,by simp[intOf]⟩
    ·have hge:wr.heap.size≠g:=by have:=HX.out.lt;omega
     have hgr:w.heap.size<wr.heap.size:=HB.out.lt;have hix:∀W:World,(Instr.index 200 (.agg #[.string ⟨#[38,97,109,112,59]⟩,.int .u8 38,.string ⟨#[38,108,116,59]⟩,.int .u8 60,.string ⟨#[38,103,116,59]⟩,.int .u8 62,.string ⟨#[38,113,117,111,116,59]⟩,.int .u8 34]) (.int .i64 1)).run Tryz.prog W=.ok (.agg #[.string ⟨#[38,108,116,59]⟩,.int .u8 60]) W:=fun W=>by with_unfolding_all rfl
     go_wp2_with fail
     clear hix;have iY:=hid (af.new wr 199 #[.string ⟨#[38,108,116,59]⟩,.int .u8 60]);have gL:=hid ((M (fun _=>False) wr).alloc (.cells #[.string ⟨#[38,108,116,59]⟩,.int .u8 60] 199));have iW:=hid (HT.out.trans (gL.out.mono fun _ h=>h.elim));have iR:=hid (HX.out.fresh gL.out);have eO:=hid (gL.out.blk HB.out fun h=>h);generalize hr7:wr.heap.size=r7 at iY hge⊢;generalize (wr.alloc (.cells #[.string ⟨#[38,108,116,59]⟩,.int .u8 60] 199))=w5 at iY gL iW iR eO⊢;have hex:=CY.out;cases bb with
     |true=>
      obtain⟨q0,q1,q2,f0,f1,f2,hg⟩:=fM iR.out.blk;rw[←HK.out]at q1;obtain⟨n0,n1⟩:=oV iY.out
      go_quiet (fail)
      have ve:=hid (show ag w5 (w5.drewN _)from(M (fun _=>False) w5).drewN nq);have wX:=hid (show true=(cO.take (1+1)).any (fun x=>pre s x.1) by rw[sH s 1 (by decide),←gu.out];rfl);have iJ:=hid (iR.out.fresh ve.out);have iC:=hid (iW.out.trans (ve.out.mono fun _ h=>h.elim));have gy:=hid (ve.out.blk eO.out fun h=>h);have ic:=hid (ve.out.blk iY.out fun h=>h);generalize (w5.drewN nq)=w6 at iJ iC gy ic⊢;clear ve q0 q1 q2 f0 f1 f2 hg n0 n1;obtain⟨q0,q1,q2,f0,f1,f2,hg⟩:=fM iJ.out.blk;rw[←HK.out]at q1;obtain⟨n0,n1⟩:=oV ic.out;cases heq:(([38,108,116,59]:List UInt8)==s)with
      |true=>
       have hst:((⟨#[38,108,116,59]⟩:ByteArray)==⟨s.toArray⟩)=true:=ko [38,108,116,59] s true heq;have dB:=hid (show eT c [] l0=.ok 60 l2 c by rw[HRR.out,sG s 1 (by decide) zZ.out heq];rfl);go_wp2
       go_quiet (fail)
       have hx6:=iJ.out.fresh ((M _ w6).drewN nq);have jq:=iC.out.drewN nq;have qa:=ic.out.drewN nq;generalize (w6.drewN nq)=w7 at hx6 jq qa⊢;clear q0 q1 q2 f0 f1 f2 hg n0 n1;obtain⟨q0,q1,q2,f0,f1,f2,hg⟩:=fM hx6.blk;rw[←HK.out]at q1;obtain⟨n0,n1⟩:=oV qa;have hx7:=hx6.wG;rw[←HK.out]at hx7;have oh:=hid hx7;have jy:=hid (jq.setCell (p:=⟨g,1,none⟩) (.inl rfl) (.int .i64 ((k:Int)+1)));have Km:r7≠g:=hge;clear hx7 hx6 jq qa;go_wp2
       go_ret;rw[dB.out];exact⟨rfl,jy.out,oh.out⟩
      |false=>
       have hst:((⟨#[38,108,116,59]⟩:ByteArray)==⟨s.toArray⟩)=false:=ko [38,108,116,59] s false heq;have wY:=hid (show(cO.take (1+1)).find? (fun x=>x.1==s)=none by rw[qK s 1 (by decide),zZ.out,show(cO[1].1==s)=false from heq];rfl);go_wp2
       go_quiet (fail)
       go_wp2_with fail
       exact⟨⟨1+1,true,by first|rfl|go_num,rfl,by omega,wX,wY,iC.out.drewN _,iJ.out.fresh ((M _ _).drewN _),gy.out.drewN _⟩,by simp[intOf]⟩
     |false=>
      go_wp2_with fail
      obtain⟨p0,p1,_,_,_,_,_⟩:=fM iR.out.blk;rw[←HK.out]at p1;obtain⟨n0,n1⟩:=oV iY.out;have r0:=cell_regrown p0;have r1:=cell_regrown p1;have r2:=cell_regrown n0;have C0:=hid (lJ (P:=Tryz.prog) w5 (fun w hw=>(Tryz.strings_HasPrefix ⟨#[38,108,116,59]⟩ ⟨s.toArray⟩ w).mono fun _ _ h=>⟨h.1,by rw[h.2];exact M _ _⟩));clear p0 p1 n0 n1;refine wp_region_quiet_below (by kernel_rfl) (by kernel_rfl) ?_
      repeat(with_reducible refine wpQuiet_step (fun K hK=>?_);go_simp;first|(refine hK _ ?_;clear hK K)|(apply Exists.intro;refine⟨fun _=>?_,hK _ ?_⟩;(first|with_reducible exact C0.out _ _);clear hK K))
      refine wpQuiet_nil ?_;rintro w6 ⟨⟨_,_⟩,GZ⟩;have dK:ag w5 w6:=by rw[GZ];exact aZ (below_regrown _ _ _)
      clear GZ r0 r1 r2 C0;have iJ:=hid (iR.out.fresh dK);have iC:=hid (iW.out.trans (dK.mono fun _ h=>h.elim));have gy:=hid (dK.blk eO.out fun h=>h);have ic:=hid (dK.blk iY.out fun h=>h);have wX:=hid (show Lib.hasPrefix ([38,108,116,59]:List UInt8) s=(cO.take (1+1)).any (fun x=>pre s x.1) by rw[sH s 1 (by decide),←gu.out,LH];rfl);clear dK;obtain⟨q0,q1,q2,f0,f1,f2,hg⟩:=fM iJ.out.blk;rw[←HK.out]at q1;obtain⟨n0,n1⟩:=oV ic.out;cases heq:(([38,108,116,59]:List UInt8)==s)with
      |true=>
       have hst:((⟨#[38,108,116,59]⟩:ByteArray)==⟨s.toArray⟩)=true:=ko [38,108,116,59] s true heq;have dB:=hid (show eT c [] l0=.ok 60 l2 c by rw[HRR.out,sG s 1 (by decide) zZ.out heq];rfl);go_wp2
       go_quiet (fail)
       have hx6:=iJ.out.fresh ((M _ w6).drewN nq);have jq:=iC.out.drewN nq;have qa:=ic.out.drewN nq;generalize (w6.drewN nq)=w7 at hx6 jq qa⊢;clear q0 q1 q2 f0 f1 f2 hg n0 n1;obtain⟨q0,q1,q2,f0,f1,f2,hg⟩:=fM hx6.blk;rw[←HK.out]at q1;obtain⟨n0,n1⟩:=oV qa;have hx7:=hx6.wG;rw[←HK.out]at hx7;have oh:=hid hx7;have jy:=hid (jq.setCell (p:=⟨g,1,none⟩) (.inl rfl) (.int .i64 ((k:Int)+1)));have Km:r7≠g:=hge;clear hx7 hx6 jq qa;go_wp2
       go_ret;rw[dB.out];exact⟨rfl,jy.out,oh.out⟩
      |false=>
       have hst:((⟨#[38,108,116,59]⟩:ByteArray)==⟨s.toArray⟩)=false:=ko [38,108,116,59] s false heq;have wY:=hid (show(cO.take (1+1)).find? (fun x=>x.1==s)=none by rw[qK s 1 (by decide),zZ.out,show(cO[1].1==s)=false from heq];rfl);go_wp2
       go_quiet (fail)
       go_wp2_with fail
       exact⟨⟨1+1,Lib.hasPrefix ([38,108,116,59]:List UInt8) s,by first|rfl|go_num,rfl,by omega,wX,wY,iC.out.drewN _,iJ.out.fresh ((M _ _).drewN _),gy.out.drewN _⟩,by simp[intOf]⟩
    ·have hge:wr.heap.size≠g:=by have:=HX.out.lt;omega
     have hgr:w.heap.size<wr.heap.size:=HB.out.lt;have hix:∀W:World,(Instr.index 200 (.agg #[.string ⟨#[38,97,109,112,59]⟩,.int .u8 38,.string ⟨#[38,108,116,59]⟩,.int .u8 60,.string ⟨#[38,103,116,59]⟩,.int .u8 62,.string ⟨#[38,113,117,111,116,59]⟩,.int .u8 34]) (.int .i64 2)).run Tryz.prog W=.ok (.agg #[.string ⟨#[38,103,116,59]⟩,.int .u8 62]) W:=fun W=>by with_unfolding_all rfl
     go_wp2_with fail
     clear hix;have iY:=hid (af.new wr 199 #[.string ⟨#[38,103,116,59]⟩,.int .u8 62]);have gL:=hid ((M (fun _=>False) wr).alloc (.cells #[.string ⟨#[38,103,116,59]⟩,.int .u8 62] 199));have iW:=hid (HT.out.trans (gL.out.mono fun _ h=>h.elim));have iR:=hid (HX.out.fresh gL.out);have eO:=hid (gL.out.blk HB.out fun h=>h);generalize hr7:wr.heap.size=r7 at iY hge⊢;generalize (wr.alloc (.cells #[.string ⟨#[38,103,116,59]⟩,.int .u8 62] 199))=w5 at iY gL iW iR eO⊢;have hex:=CY.out;cases bb with
     |true=>
      obtain⟨q0,q1,q2,f0,f1,f2,hg⟩:=fM iR.out.blk;rw[←HK.out]at q1;obtain⟨n0,n1⟩:=oV iY.out
      go_quiet (fail)
      have ve:=hid (show ag w5 (w5.drewN _)from(M (fun _=>False) w5).drewN nq);have wX:=hid (show true=(cO.take (2+1)).any (fun x=>pre s x.1) by rw[sH s 2 (by decide),←gu.out];rfl);have iJ:=hid (iR.out.fresh ve.out);have iC:=hid (iW.out.trans (ve.out.mono fun _ h=>h.elim));have gy:=hid (ve.out.blk eO.out fun h=>h);have ic:=hid (ve.out.blk iY.out fun h=>h);generalize (w5.drewN nq)=w6 at iJ iC gy ic⊢;clear ve q0 q1 q2 f0 f1 f2 hg n0 n1;obtain⟨q0,q1,q2,f0,f1,f2,hg⟩:=fM iJ.out.blk;rw[←HK.out]at q1;obtain⟨n0,n1⟩:=oV ic.out;cases heq:(([38,103,116,59]:List UInt8)==s)with
      |true=>
       have hst:((⟨#[38,103,116,59]⟩:ByteArray)==⟨s.toArray⟩)=true:=ko [38,103,116,59] s true heq;have dB:=hid (show eT c [] l0=.ok 62 l2 c by rw[HRR.out,sG s 2 (by decide) zZ.out heq];rfl);go_wp2
       go_quiet (fail)
       have hx6:=iJ.out.fresh ((M _ w6).drewN nq);have jq:=iC.out.drewN nq;have qa:=ic.out.drewN nq;generalize (w6.drewN nq)=w7 at hx6 jq qa⊢;clear q0 q1 q2 f0 f1 f2 hg n0 n1;obtain⟨q0,q1,q2,f0,f1,f2,hg⟩:=fM hx6.blk;rw[←HK.out]at q1;obtain⟨n0,n1⟩:=oV qa;have hx7:=hx6.wG;rw[←HK.out]at hx7;have oh:=hid hx7;have jy:=hid (jq.setCell (p:=⟨g,1,none⟩) (.inl rfl) (.int .i64 ((k:Int)+1)));have Km:r7≠g:=hge;clear hx7 hx6 jq qa;go_wp2
       go_ret;rw[dB.out];exact⟨rfl,jy.out,oh.out⟩
      |false=>
       have hst:((⟨#[38,103,116,59]⟩:ByteArray)==⟨s.toArray⟩)=false:=ko [38,103,116,59] s false heq;have wY:=hid (show(cO.take (2+1)).find? (fun x=>x.1==s)=none by rw[qK s 2 (by decide),zZ.out,show(cO[2].1==s)=false from heq];rfl);go_wp2
       go_quiet (fail)
       go_wp2_with fail
       exact⟨⟨2+1,true,by first|rfl|go_num,rfl,by omega,wX,wY,iC.out.drewN _,iJ.out.fresh ((M _ _).drewN _),gy.out.drewN _⟩,by simp[intOf]⟩
     |false=>
      go_wp2_with fail
      obtain⟨p0,p1,_,_,_,_,_⟩:=fM iR.out.blk;rw[←HK.out]at p1;obtain⟨n0,n1⟩:=oV iY.out;have r0:=cell_regrown p0;have r1:=cell_regrown p1;have r2:=cell_regrown n0;have C0:=hid (lJ (P:=Tryz.prog) w5 (fun w hw=>(Tryz.strings_HasPrefix ⟨#[38,103,116,59]⟩ ⟨s.toArray⟩ w).mono fun _ _ h=>⟨h.1,by rw[h.2];exact M _ _⟩));clear p0 p1 n0 n1;refine wp_region_quiet_below (by kernel_rfl) (by kernel_rfl) ?_
      repeat(with_reducible refine wpQuiet_step (fun K hK=>?_);go_simp;first|(refine hK _ ?_;clear hK K)|(apply Exists.intro;refine⟨fun _=>?_,hK _ ?_⟩;(first|with_reducible exact C0.out _ _);clear hK K))
      refine wpQuiet_nil ?_;rintro w6 ⟨⟨_,_⟩,GZ⟩;have dK:ag w5 w6:=by rw[GZ];exact aZ (below_regrown _ _ _)
      clear GZ r0 r1 r2 C0;have iJ:=hid (iR.out.fresh dK);have iC:=hid (iW.out.trans (dK.mono fun _ h=>h.elim));have gy:=hid (dK.blk eO.out fun h=>h);have ic:=hid (dK.blk iY.out fun h=>h);have wX:=hid (show Lib.hasPrefix ([38,103,116,59]:List UInt8) s=(cO.take (2+1)).any (fun x=>pre s x.1) by rw[sH s 2 (by decide),←gu.out,LH];rfl);clear dK;obtain⟨q0,q1,q2,f0,f1,f2,hg⟩:=fM iJ.out.blk;rw[←HK.out]at q1;obtain⟨n0,n1⟩:=oV ic.out;cases heq:(([38,103,116,59]:List UInt8)==s)with
      |true=>
       have hst:((⟨#[38,103,116,59]⟩:ByteArray)==⟨s.toArray⟩)=true:=ko [38,103,116,59] s true heq;have dB:=hid (show eT c [] l0=.ok 62 l2 c by rw[HRR.out,sG s 2 (by decide) zZ.out heq];rfl);go_wp2
       go_quiet (fail)
       have hx6:=iJ.out.fresh ((M _ w6).drewN nq);have jq:=iC.out.drewN nq;have qa:=ic.out.drewN nq;generalize (w6.drewN nq)=w7 at hx6 jq qa⊢;clear q0 q1 q2 f0 f1 f2 hg n0 n1;obtain⟨q0,q1,q2,f0,f1,f2,hg⟩:=fM hx6.blk;rw[←HK.out]at q1;obtain⟨n0,n1⟩:=oV qa;have hx7:=hx6.wG;rw[←HK.out]at hx7;have oh:=hid hx7;have jy:=hid (jq.setCell (p:=⟨g,1,none⟩) (.inl rfl) (.int .i64 ((k:Int)+1)));have Km:r7≠g:=hge;clear hx7 hx6 jq qa;go_wp2
       go_ret;rw[dB.out];exact⟨rfl,jy.out,oh.out⟩
      |false=>
       have hst:((⟨#[38,103,116,59]⟩:ByteArray)==⟨s.toArray⟩)=false:=ko [38,103,116,59] s false heq;have wY:=hid (show(cO.take (2+1)).find? (fun x=>x.1==s)=none by rw[qK s 2 (by decide),zZ.out,show(cO[2].1==s)=false from heq];rfl);go_wp2
       go_quiet (fail)
       go_wp2_with fail
       exact⟨⟨2+1,Lib.hasPrefix ([38,103,116,59]:List UInt8) s,by first|rfl|go_num,rfl,by omega,wX,wY,iC.out.drewN _,iJ.out.fresh ((M _ _).drewN _),gy.out.drewN _⟩,by simp[intOf]⟩
    ·have hge:wr.heap.size≠g:=by have:=HX.out.lt;omega
     have hgr:w.heap.size<wr.heap.size:=HB.out.lt;have hix:∀W:World,(Instr.index 200 (.agg #[.string ⟨#[38,97,109,112,59]⟩,.int .u8 38,.string ⟨#[38,108,116,59]⟩,.int .u8 60,.string ⟨#[38,103,116,59]⟩,.int .u8 62,.string ⟨#[38,113,117,111,116,59]⟩,.int .u8 34]) (.int .i64 3)).run Tryz.prog W=.ok (.agg #[.string ⟨#[38,113,117,111,116,59]⟩,.int .u8 34]) W:=fun W=>by with_unfolding_all rfl
     go_wp2_with fail
     clear hix;have iY:=hid (af.new wr 199 #[.string ⟨#[38,113,117,111,116,59]⟩,.int .u8 34]);have gL:=hid ((M (fun _=>False) wr).alloc (.cells #[.string ⟨#[38,113,117,111,116,59]⟩,.int .u8 34] 199));have iW:=hid (HT.out.trans (gL.out.mono fun _ h=>h.elim));have iR:=hid (HX.out.fresh gL.out);have eO:=hid (gL.out.blk HB.out fun h=>h);generalize hr7:wr.heap.size=r7 at iY hge⊢;generalize (wr.alloc (.cells #[.string ⟨#[38,113,117,111,116,59]⟩,.int .u8 34] 199))=w5 at iY gL iW iR eO⊢;have hex:=CY.out;cases bb with
     |true=>
      obtain⟨q0,q1,q2,f0,f1,f2,hg⟩:=fM iR.out.blk;rw[←HK.out]at q1;obtain⟨n0,n1⟩:=oV iY.out
      go_quiet (fail)
      have ve:=hid (show ag w5 (w5.drewN _)from(M (fun _=>False) w5).drewN nq);have wX:=hid (show true=(cO.take (3+1)).any (fun x=>pre s x.1) by rw[sH s 3 (by decide),←gu.out];rfl);have iJ:=hid (iR.out.fresh ve.out);have iC:=hid (iW.out.trans (ve.out.mono fun _ h=>h.elim));have gy:=hid (ve.out.blk eO.out fun h=>h);have ic:=hid (ve.out.blk iY.out fun h=>h);generalize (w5.drewN nq)=w6 at iJ iC gy ic⊢;clear ve q0 q1 q2 f0 f1 f2 hg n0 n1;obtain⟨q0,q1,q2,f0,f1,f2,hg⟩:=fM iJ.out.blk;rw[←HK.out]at q1;obtain⟨n0,n1⟩:=oV ic.out;cases heq:(([38,113,117,111,116,59]:List UInt8)==s)with
      |true=>
       have hst:((⟨#[38,113,117,111,116,59]⟩:ByteArray)==⟨s.toArray⟩)=true:=ko [38,113,117,111,116,59] s true heq;have dB:=hid (show eT c [] l0=.ok 34 l2 c by rw[HRR.out,sG s 3 (by decide) zZ.out heq];rfl);go_wp2
       go_quiet (fail)
       have hx6:=iJ.out.fresh ((M _ w6).drewN nq);have jq:=iC.out.drewN nq;have qa:=ic.out.drewN nq;generalize (w6.drewN nq)=w7 at hx6 jq qa⊢;clear q0 q1 q2 f0 f1 f2 hg n0 n1;obtain⟨q0,q1,q2,f0,f1,f2,hg⟩:=fM hx6.blk;rw[←HK.out]at q1;obtain⟨n0,n1⟩:=oV qa;have hx7:=hx6.wG;rw[←HK.out]at hx7;have oh:=hid hx7;have jy:=hid (jq.setCell (p:=⟨g,1,none⟩) (.inl rfl) (.int .i64 ((k:Int)+1)));have Km:r7≠g:=hge;clear hx7 hx6 jq qa;go_wp2
       go_ret;rw[dB.out];exact⟨rfl,jy.out,oh.out⟩
      |false=>
       have hst:((⟨#[38,113,117,111,116,59]⟩:ByteArray)==⟨s.toArray⟩)=false:=ko [38,113,117,111,116,59] s false heq;have wY:=hid (show(cO.take (3+1)).find? (fun x=>x.1==s)=none by rw[qK s 3 (by decide),zZ.out,show(cO[3].1==s)=false from heq];rfl);go_wp2
       go_quiet (fail)
       go_wp2_with fail
       exact⟨⟨3+1,true,by first|rfl|go_num,rfl,by omega,wX,wY,iC.out.drewN _,iJ.out.fresh ((M _ _).drewN _),gy.out.drewN _⟩,by simp[intOf]⟩
     |false=>
      go_wp2_with fail
      obtain⟨p0,p1,_,_,_,_,_⟩:=fM iR.out.blk;rw[←HK.out]at p1;obtain⟨n0,n1⟩:=oV iY.out;have r0:=cell_regrown p0;have r1:=cell_regrown p1;have r2:=cell_regrown n0;have C0:=hid (lJ (P:=Tryz.prog) w5 (fun w hw=>(Tryz.strings_HasPrefix ⟨#[38,113,117,111,116,59]⟩ ⟨s.toArray⟩ w).mono fun _ _ h=>⟨h.1,by rw[h.2];exact M _ _⟩));clear p0 p1 n0 n1;refine wp_region_quiet_below (by kernel_rfl) (by kernel_rfl) ?_
      repeat(with_reducible refine wpQuiet_step (fun K hK=>?_);go_simp;first|(refine hK _ ?_;clear hK K)|(apply Exists.intro;refine⟨fun _=>?_,hK _ ?_⟩;(first|with_reducible exact C0.out _ _);clear hK K))
      refine wpQuiet_nil ?_;rintro w6 ⟨⟨_,_⟩,GZ⟩;have dK:ag w5 w6:=by rw[GZ];exact aZ (below_regrown _ _ _)
      clear GZ r0 r1 r2 C0;have iJ:=hid (iR.out.fresh dK);have iC:=hid (iW.out.trans (dK.mono fun _ h=>h.elim));have gy:=hid (dK.blk eO.out fun h=>h);have ic:=hid (dK.blk iY.out fun h=>h);have wX:=hid (show Lib.hasPrefix ([38,113,117,111,116,59]:List UInt8) s=(cO.take (3+1)).any (fun x=>pre s x.1) by rw[sH s 3 (by decide),←gu.out,LH];rfl);clear dK;obtain⟨q0,q1,q2,f0,f1,f2,hg⟩:=fM iJ.out.blk;rw[←HK.out]at q1;obtain⟨n0,n1⟩:=oV ic.out;cases heq:(([38,113,117,111,116,59]:List UInt8)==s)with
      |true=>
       have hst:((⟨#[38,113,117,111,116,59]⟩:ByteArray)==⟨s.toArray⟩)=true:=ko [38,113,117,111,116,59] s true heq;have dB:=hid (show eT c [] l0=.ok 34 l2 c by rw[HRR.out,sG s 3 (by decide) zZ.out heq];rfl);go_wp2
       go_quiet (fail)
       have hx6:=iJ.out.fresh ((M _ w6).drewN nq);have jq:=iC.out.drewN nq;have qa:=ic.out.drewN nq;generalize (w6.drewN nq)=w7 at hx6 jq qa⊢;clear q0 q1 q2 f0 f1 f2 hg n0 n1;obtain⟨q0,q1,q2,f0,f1,f2,hg⟩:=fM hx6.blk;rw[←HK.out]at q1;obtain⟨n0,n1⟩:=oV qa;have hx7:=hx6.wG;rw[←HK.out]at hx7;have oh:=hid hx7;have jy:=hid (jq.setCell (p:=⟨g,1,none⟩) (.inl rfl) (.int .i64 ((k:Int)+1)));have Km:r7≠g:=hge;clear hx7 hx6 jq qa;go_wp2
       go_ret;rw[dB.out];exact⟨rfl,jy.out,oh.out⟩
      |false=>
       have hst:((⟨#[38,113,117,111,116,59]⟩:ByteArray)==⟨s.toArray⟩)=false:=ko [38,113,117,111,116,59] s false heq;have wY:=hid (show(cO.take (3+1)).find? (fun x=>x.1==s)=none by rw[qK s 3 (by decide),zZ.out,show(cO[3].1==s)=false from heq];rfl);go_wp2
       go_quiet (fail)
       go_wp2_with fail
       exact⟨⟨3+1,Lib.hasPrefix ([38,113,117,111,116,59]:List UInt8) s,by first|rfl|go_num,rfl,by omega,wX,wY,iC.out.drewN _,iJ.out.fresh ((M _ _).drewN _),gy.out.drewN _⟩,by simp[intOf]⟩
    ·have Ra:=hid (show cO.find? (fun x=>x.1==s)=none from zZ.out)
     have afK:=hid (show bb=cO.any (fun x=>pre s x.1)from gu.out);cases bb with
     |false=>
      have dB:=hid (show eT c [] l0=.bad (b::l2) by rw[HRR.out,Ra.out];show(if cO.any (fun x=>pre s x.1)=true then _ else _)=_;rw[←afK.out];rfl);go_wp2_with fail
      refine(qJ S g (b::l2) c _ HX.out).mono ?_;rintro _ w3 ⟨rfl,rfl⟩;refine⟨rfl,(?_:XB S g w (eT c [] l0) _ _)⟩;rw[dB.out];exact⟨rfl,HT.out⟩
     |true=>
      have dB:=hid (show eT c [] l0=eT c s l2 by rw[HRR.out,Ra.out];show(if cO.any (fun x=>pre s x.1)=true then _ else _)=_;rw[←afK.out];rfl);obtain⟨q0,q1,q2,f0,f1,f2,hg⟩:=fM HX.out.blk;rw[←HK.out]at q1;have hx4:=HX.out.wG;rw[←HK.out]at hx4;have tZ:=hid hx4;have nU:=hid (HT.out.setCell (p:=⟨g,1,none⟩) (.inl rfl) (.int .i64 ((k:Int)+1)));have iB:=hid ((HB.out).far (p:=⟨g,1,none⟩) (by show _≠g;omega) (.int .i64 ((k:Int)+1)));have HM:=hid (lN hx4);clear hx4;go_wp2
      refine⟨⟨s,l2,ace,dB,nU,tZ,iB⟩,?_⟩;rw[HM.out,HP.out];have h1:=HK.out;have h2:=uP.out;simp only[List.length_cons]at*;omega
end
section
open Go.RowKit
open Xp (Rs bQ jk eT)
theorem Eg(b:UInt8)(k:UInt8):((b.toNat:Int)==(k.toNat:Int))=(b==k):=by
 rw[Bool.eq_iff_iff,beq_iff_eq,beq_iff_eq];constructor
 ·intro h;exact UInt8.toNat_inj.1 (by omega)
 ·rintro rfl;rfl
theorem G5(S:ByteArray)(g c n:Nat)(l:List UInt8)(w:World)(hS:S.size≤1099511627776)(hn:n≤9223372036854775807)(h:Xr S g l c w):Calls Tryz.prog 149 #[.pointer (some ⟨g,0,none⟩),.int .i64 (n:Int)] w fun e w'=>XB S g w (jk n c l) e w':=by
 have HX:=hid h;clear h;cases l with
 |nil=>
  go_enter Tryz.func149,Tryz.ntmps149;go_wp2_with fail
  refine(xE S g c _ HX.out).mono ?_;rintro _ w1 ⟨rfl,ht⟩;exact⟨rfl,rfl,ht⟩
 |cons b l=>
 have Xm:((decide ((200:Int)≤(n:Int))=true∨(decide ((200:Int)≤(n:Int))=false∧((b.toNat:Int)==(60:Int))=true))∧jk n c (b::l)=.bad (b::l))∨
   (decide ((200:Int)≤(n:Int))=false∧((b.toNat:Int)==(60:Int))=false∧U.aU b=false∧jk n c (b::l)=.bad (b::l))∨
   (decide ((200:Int)≤(n:Int))=false∧((b.toNat:Int)==(60:Int))=false∧U.aU b=true∧((((b.toNat:Int)==(38:Int))=true∧jk n c (b::l)=eT c [] (b::l))∨(((b.toNat:Int)==(38:Int))=false∧jk n c (b::l)=.ok b l c))):=by
  have hc:jk n c (b::l)=if 200≤n∨b=60∨U.aU b=false then .bad (b::l)else if b=38 then eT c [] (b::l)else .ok b l c:=rfl
  have h60:((b.toNat:Int)==(60:Int))=(b==60):=Eg b 60;have h38:((b.toNat:Int)==(38:Int))=(b==38):=Eg b 38;rw[h60,h38,hc]
  by_cases c1:200≤n
  ·exact .inl ⟨.inl (dT (by omega)),if_pos (.inl c1)⟩
  ·have d1:decide ((200:Int)≤(n:Int))=false:=dF (by omega)
   by_cases c2:b=60
   ·exact .inl ⟨.inr ⟨d1,by rw[c2];rfl⟩,if_pos (.inr (.inl c2))⟩
   ·have e2:(b==60)=false:=by rw[beq_eq_false_iff_ne];exact c2
    cases c3:U.aU b with
    |false=>exact .inr (.inl ⟨d1,e2,rfl,if_pos (.inr (.inr rfl))⟩)
    |true=>
     have hno:¬(200≤n∨b=60∨true=false):=by rintro(h|h|h);exact c1 h;exact c2 h;cases h
     refine .inr (.inr ⟨d1,e2,rfl,?_⟩);rw[if_neg hno]
     by_cases c4:b=38
     ·exact .inl ⟨by rw[c4];rfl,if_pos c4⟩
     ·exact .inr ⟨by rw[beq_eq_false_iff_ne];exact c4,if_neg c4⟩
 have G6:=hid (fun(W:World) (h:Xr S g (b::l) c W)=>fG S g c b l W h)
 rcases Xm with⟨d1|⟨d1,d2⟩,hfin⟩|⟨d1,d2,d3,hfin⟩|⟨d1,d2,d3,hfin⟩
 focus
  have dB:=hid hfin;clear hfin;go_enter Tryz.func149,Tryz.ntmps149;go_wp2_with fail
  refine(G6.out _ HX.out).mono ?_;rintro _ w1 ⟨rfl,hf⟩;have je:=hid (HX.out.fresh hf);have aK:=hid hf;clear hf;go_wp2_with fail
  refine(qJ S g (b::l) c _ je.out).mono ?_;rintro _ w2 ⟨rfl,rfl⟩;refine⟨rfl,(?_:XB S g w (jk n c (b::l)) _ _)⟩;rw[dB.out];exact⟨rfl,aK.out.mono fun _ h=>h.elim⟩
 focus
  have dB:=hid hfin;clear hfin;go_enter Tryz.func149,Tryz.ntmps149;go_wp2_with fail
  refine(G6.out _ HX.out).mono ?_;rintro _ w1 ⟨rfl,hf⟩;have je:=hid (HX.out.fresh hf);have aK:=hid hf;clear hf;go_wp2_with fail
  refine(qJ S g (b::l) c _ je.out).mono ?_;rintro _ w2 ⟨rfl,rfl⟩;refine⟨rfl,(?_:XB S g w (jk n c (b::l)) _ _)⟩;rw[dB.out];exact⟨rfl,aK.out.mono fun _ h=>h.elim⟩
 focus
  have dB:=hid hfin;clear hfin;go_enter Tryz.func149,Tryz.ntmps149;go_wp2_with fail
  refine(G6.out _ HX.out).mono ?_;rintro _ w1 ⟨rfl,hf⟩;have je:=hid (HX.out.fresh hf);have aK:=hid hf;clear hf;go_wp2_with fail
  refine(uO b _).mono ?_;rintro _ w2 ⟨rfl,hw⟩;replace hw:=hw.symm;subst hw;go_wp2_with fail
  refine(qJ S g (b::l) c _ je.out).mono ?_;rintro _ w2 ⟨rfl,rfl⟩;refine⟨rfl,(?_:XB S g w (jk n c (b::l)) _ _)⟩;rw[dB.out];exact⟨rfl,aK.out.mono fun _ h=>h.elim⟩
 rcases hfin with⟨d4,hfin⟩|⟨d4,hfin⟩
 focus
  have dB:=hid hfin;clear hfin;go_enter Tryz.func149,Tryz.ntmps149;go_wp2_with fail
  refine(G6.out _ HX.out).mono ?_;rintro _ w1 ⟨rfl,hf⟩;have je:=hid (HX.out.fresh hf);have aK:=hid (show Touch (fun b=>b=g) w w1 from hf.mono fun _ h=>h.elim);clear hf;go_wp2_with fail
  refine(uO b _).mono ?_;rintro _ w2 ⟨rfl,hw⟩;replace hw:=hw.symm;subst hw;go_wp2_with fail
  refine(ZP S g c (b::l) _ hS je.out).mono ?_;intro e w2 he;have he2:=XB.trans aK.out he;rw[←dB.out]at he2;cases hr:jk n c (b::l)with
  |bad l2=>
   rw[hr]at he2;have h1:=he2.1;subst h1;refine⟨rfl,(?_:XB S g w (jk n c (b::l)) _ _)⟩;rw[hr];exact he2
  |ok x l2 c2=>
   rw[hr]at he2;obtain⟨rfl,ht,hx⟩:=he2;have HF:=hid (show XB S g w (jk n c (b::l)) (.returned (.int .u8 (x.toNat:Int))) w2 by rw[hr];exact⟨rfl,ht,hx⟩);clear hr ht hx he;go_wp2
   go_ret;exact HF.out
 focus
  have dB:=hid hfin;clear hfin;go_enter Tryz.func149,Tryz.ntmps149;go_wp2_with fail
  refine(G6.out _ HX.out).mono ?_;rintro _ w1 ⟨rfl,hf⟩;have hx1:=HX.out.fresh hf;have aK:=hid (show Touch (fun b=>b=g) w w1 from hf.mono fun _ h=>h.elim);obtain⟨q0,q1,q2,f0,f1,f2,hg⟩:=fM hx1.blk;have hle:=hx1.len;have hw:IntKind.i64.wrap (((S.size-(b::l).length:Nat):Int)+1)=((S.size-(b::l).length:Nat):Int)+1:=IntWalk.i64_in _ (by omega);have p8:=hid hx1.wG;clear hf hx1 hle;generalize S.size-(b::l).length=k at*;go_wp2_with fail
  refine(uO b _).mono ?_;rintro _ w2 ⟨rfl,hw2⟩;replace hw2:=hw2.symm;subst hw2;go_wp2
  go_ret;rw[dB.out];exact⟨rfl,aK.out.setCell (p:=⟨g,1,none⟩) (.inl rfl) _,p8.out⟩
end
end Go.Proofs.YtcgbccfpcgaikaaGreatDoor
