/- Part 13 of 41 of a proof. No condition. -/
import Derived.Laws.IdiomStrings
import Derived.Laws.BytesArg
import Derived.Lib.ConvBytes
import Derived.Test.YtabjglnjjdcfmaaGreatDoorWe12
set_option maxRecDepth 100000
set_option maxHeartbeats 4000000
namespace Go.Proofs.YtabjglnjjdcfmaaGreatDoor
open _root_.List renaming take_add_one->avq,length_append->auZ,length_cons->au0,take_append_of_le_length->aw9,take_of_length_le->avv,map_toArray->awW,map_cons->avg,map_nil->avI
open _root_.Nat renaming le_trans->au2,le_refl->au3,zero_add->au8
open _root_.Go.Proofs.Tryz
section
open Go.RowKit
open Xp (Rs bQ cO pre eT)
theorem LH(s t:List UInt8):Lib.hasPrefix t s=Xp.pre s t:=by
 unfold Lib.hasPrefix Xp.pre;rw[Bool.eq_iff_iff,List.isPrefixOf_iff_prefix,beq_iff_eq,List.prefix_iff_eq_take];exact eq_comm
theorem aiE{w:W_}{g:Nat}{t:TypeId}{x0 x1 x2 x3 x4 x5 x6 x7:Value}(h:af w g t #[x0,x1,x2,x3,x4,x5,x6,x7]):
  w.cell? (B_ g 0)=some x0/\w.cell? (B_ g 1)=some x1/\w.cell? (B_ g 2)=some x2/\w.cell? (B_ g 3)=some x3/\w.cell? (B_ g 4)=some x4/\w.cell? (B_ g 5)=some x5/\w.cell? (B_ g 6)=some x6/\w.cell? (B_ g 7)=some x7:=
 ⟨h.cell 0,h.cell 1,h.cell 2,h.cell 3,h.cell 4,h.cell 5,h.cell 6,h.cell 7⟩
theorem oV{w:W_}{g:Nat}{t:TypeId}{x0 x1:Value}(h:af w g t #[x0,x1]):w.cell? (B_ g 0)=some x0/\w.cell? (B_ g 1)=some x1:=⟨h.cell 0,h.cell 1⟩
theorem qK(s:List UInt8)(j:Nat)(h:j<cO.length):(cO.take (j+1)).find? (λx=>x.1==s)=((cO.take j).find? (λx=>x.1==s)).or (if cO[j].1==s then some cO[j]else none):=by
 rw[avq,List.getElem?_eq_getElem h,List.find?_append]
 congr 1
 show(List.find? _ [cO[j]])=_;rw[List.find?_cons];cases cO[j].1==s<;>rfl
theorem sG(s:List UInt8)(j:Nat)(h:j<cO.length)(h0:(cO.take j).find? (λx=>x.1==s)=none)(he:(cO[j].1==s)=true):cO.find? (λx=>x.1==s)=some cO[j]:=by
 have h1:(cO.take (j+1)).find? (λx=>x.1==s)=some cO[j]:=by rw[qK s j h,h0,he];rfl
 have h2:=List.take_append_drop (j+1) cO;generalize cO[j]=y at h1|-;rw[<-h2,List.find?_append,h1];rfl
theorem sH(s:List UInt8)(j:Nat)(h:j<cO.length):(cO.take (j+1)).any (λx=>pre s x.1)=((cO.take j).any (λx=>pre s x.1)||pre s cO[j].1):=Rb cO j h _
theorem ZP(S:Y_)(g c:Nat)(l0:List UInt8)(w:W_)(hS:S.size<=1099511627776)(h:Xr S g l0 c w):C_ 156 #[.pointer (A_ g 0)] w λe w'=>XB S g w (eT c [] l0) e w':=by
 have HX:=I h;have Vw:=I h.Ef;have hg0:=h.lt;have ab:=h.len;obtain⟨q0,q1,q2,_,_,_,_⟩:=fM h.QN;obtain⟨k0,aA⟩:∃k,k=S.size-l0.length:=⟨_,rfl⟩;have CX:=I aA;rw[<-aA]at q1;clear h aA;go_enter func156,ntmps156;go_wp2_with fail
 have hbr:=af.new w 220 #[.string ⟨#[38,97,109,112,59]⟩,.int .u8 38,.string ⟨#[38,108,116,59]⟩,.int .u8 60,.string ⟨#[38,103,116,59]⟩,.int .u8 62,.string ⟨#[38,113,117,111,116,59]⟩,.int .u8 34];have ae:=(M (λ_=>False) w).alloc (.cells #[.string ⟨#[38,97,109,112,59]⟩,.int .u8 38,.string ⟨#[38,108,116,59]⟩,.int .u8 60,.string ⟨#[38,103,116,59]⟩,.int .u8 62,.string ⟨#[38,113,117,111,116,59]⟩,.int .u8 34] 220);refine bK (λW=>ag w W/\af W w.heap.size 220 #[.string ⟨#[38,97,109,112,59]⟩,.int .u8 38,.string ⟨#[38,108,116,59]⟩,.int .u8 60,.string ⟨#[38,103,116,59]⟩,.int .u8 62,.string ⟨#[38,113,117,111,116,59]⟩,.int .u8 34]) ⟨ae,hbr⟩ ?_;clear hbr ae q0 q1 q2;rintro W1 ⟨ae,yx⟩;have ay:=I (show Touch (λb=>b=g) w W1 from ae.mono λ_ h=>h.elim);have je:=I (HX.QH ae);have aC:=I yx;clear ae yx HX
 go_loopw [] (λwr=>∃(p l1:List UInt8),Hd (p++l1=l0)/\Hd (eT c [] l0=eT c p l1)/\Hd (Touch (λb=>b=g) w wr)/\Hd (Xr S g l1 c wr)/\Hd (af wr w.heap.size 220 #[.string ⟨#[38,97,109,112,59]⟩,.int .u8 38,.string ⟨#[38,108,116,59]⟩,.int .u8 60,.string ⟨#[38,103,116,59]⟩,.int .u8 62,.string ⟨#[38,113,117,111,116,59]⟩,.int .u8 34])) (λwr=>S.size-posOf g wr)
 case atStart=>exact⟨[],l0,I rfl,I rfl,ay,je,aC⟩
 case round=>
  obtain⟨p,l1,al,am,HT,HX,HB⟩:=hrel;have HP:=I (lN HX);cases l1 with
  |nil=>
   have dB:=I (show eT c [] l0=.bad [] by rw[am.out,eT]);go_wp2_with fail
   refine(xE S g c _ HX).mono ?_;rintro _ w2 ⟨rfl,ht⟩;refine⟨rfl,(?_:XB S g w (eT c [] l0) _ _)⟩;rw[dB.out];exact⟨rfl,HT.trans ht⟩
  |cons b l2=>
   go_wp2_with fail
   refine(fG S g c b l2 _ HX).mono ?_;rintro _ w2 ⟨rfl,hf2⟩;have p8:=I (HX.QH hf2);have ao:=I (HT.trans (hf2.mono λ_ h=>h.elim));have hb2:=hf2.QN HB λh=>h
   have aq:=I hb2;obtain⟨s,hs⟩:∃s,s=p++[b]:=⟨_,rfl⟩;have aW:=I hs
   have ah:=I (show eT c [] l0=(match cO.find? (λx=>x.1==s)with
     |some x=>.ok x.2 l2 c
     |none=>if cO.any (λx=>pre s x.1)then eT c s l2 else .bad (b::l2)) by rw[am.out,eT,hs];rfl)
   have ace:=I (show s++l2=l0 by rw[hs,<-al.out,List.append_assoc];rfl);have hlen:=p8.len;obtain⟨hk,ap,hk2⟩:=BV p8.Ef;clear ap;obtain⟨k,ad⟩:∃k,k=S.size-(b::l2).length:=⟨_,rfl⟩;have HK:=I ad;have uP:=I (show k+1=S.size-l2.length by rw[ad];exact hk2);have ak:k+1<=S.size:=by rw[ad];omega
   have CY:=I (show S.extract k0 (k+1)=⟨s.toArray⟩ by
    have h:=zK (S:=S) (p:=s) (r:=l2) (by rw[ace.out];exact Vw);rw[ace.out,<-CX.out,<-uP.out]at h;exact h)
   have akW:k0<=k:=by
    have h1:=al.out;have h2:=CX.out;have h3:l0.length=p.length+(b::l2).length:=by rw[<-h1,auZ]
    rw[h2,ad];omega
   clear hf2 hb2 hs hk hk2 ad HB HX HT al am hlen;obtain⟨m0,m1,m2,m3,m4,m5,m6,m7⟩:=aiE aq;go_wp2_with fail
   clear m0 m1 m2 m3 m4 m5 m6 m7
   go_loopw [20,5] (λi bg wr=>∃(j:Nat) (bb:Bool),i=V j/\bg=.bool bb/\j<=4/\Hd (bb=(cO.take j).any (λx=>pre s x.1))/\Hd ((cO.take j).find? (λx=>x.1==s)=none)/\Hd (Touch (λb=>b=g) w wr)/\Hd (Xr S g (b::l2) c wr)/\Hd (af wr w.heap.size 220 #[.string ⟨#[38,97,109,112,59]⟩,.int .u8 38,.string ⟨#[38,108,116,59]⟩,.int .u8 60,.string ⟨#[38,103,116,59]⟩,.int .u8 62,.string ⟨#[38,113,117,111,116,59]⟩,.int .u8 34])) (λi _ _=>4-(intOf i).toNat)
   case atStart=>exact⟨0,false,rfl,rfl,by omega,I rfl,I rfl,ao,p8,aq⟩
   case round=>
    obtain⟨j,bb,rfl,rfl,hj,gu,zZ,HT,HX,HB⟩:=hrel;rename_i wr _;have aY:j=0\/j=1\/j=2\/j=3\/j=4:=Zo
    have hw:IntKind.i64.wrap ((k:Int)+1)=(k:Int)+1:=IntWalk.i64_in _ Zo;have hz1:(k0:Int)<=(k:Int)+1:=Zo
    have hz2:(k:Int)+1<=(S.size:Int):=Zo
    rcases aY with rfl|rfl|rfl|rfl|rfl
    .have ai:wr.heap.size≠g:=by have:=HX.lt;omega
     have hgr:w.heap.size<wr.heap.size:=HB.lt;have an:∀W:W_,(Instr.index 220 (.agg #[.string ⟨#[38,97,109,112,59]⟩,.int .u8 38,.string ⟨#[38,108,116,59]⟩,.int .u8 60,.string ⟨#[38,103,116,59]⟩,.int .u8 62,.string ⟨#[38,113,117,111,116,59]⟩,.int .u8 34]) (V 0)).run Tryz.prog W=.ok (.agg #[.string ⟨#[38,97,109,112,59]⟩,.int .u8 38]) W:=λW=>by with_unfolding_all rfl
     go_wp2_with fail
     clear an;have iY:=I (af.new wr 219 #[.string ⟨#[38,97,109,112,59]⟩,.int .u8 38]);have gL:=I ((M (λ_=>False) wr).alloc (.cells #[.string ⟨#[38,97,109,112,59]⟩,.int .u8 38] 219));have iW:=I aqS;have iR:=I (HX.QH gL);have eO:=I aus;generalize ar:wr.heap.size=r7 at iY ai|-;generalize (wr.alloc (.cells #[.string ⟨#[38,97,109,112,59]⟩,.int .u8 38] 219))=w5 at iY gL iW iR eO|-;have hex:=CY.out;cases bb with
     |true=>
      obtain⟨q0,q1,q2,f0,f1,f2,hg⟩:=fM iR.QN;rw[<-HK.out]at q1;obtain⟨n0,n1⟩:=oV iY
      go_quiet (fail)
      have ve:=I aeN;have wX:=I (show true=(cO.take (0+1)).any (λx=>pre s x.1) by rw[sH s 0 (by decide),<-gu.out];rfl);have iJ:=I (iR.QH ve);have iC:=I aqT;have gy:=I (ve.QN eO λh=>h);have ic:=I (ve.QN iY λh=>h);generalize (w5.drewN nq)=w6 at iJ iC gy ic|-;clear ve q0 q1 q2 f0 f1 f2 hg n0 n1;obtain⟨q0,q1,q2,f0,f1,f2,hg⟩:=fM iJ.QN;rw[<-HK.out]at q1;obtain⟨n0,n1⟩:=oV ic;cases heq:(([38,97,109,112,59]:List UInt8)==s)with
      |true=>
       have hst:((⟨#[38,97,109,112,59]⟩:Y_)==⟨s.toArray⟩)=true:=ko [38,97,109,112,59] s true heq;have dB:=I arU;go_wp2
       go_quiet (fail)
       have aa:=iJ.QH ((M _ w6).drewN nq);have jq:=iC.drewN nq;have qa:=ic.drewN nq;generalize (w6.drewN nq)=w7 at aa jq qa|-;clear q0 q1 q2 f0 f1 f2 hg n0 n1;obtain⟨q0,q1,q2,f0,f1,f2,hg⟩:=fM aa.QN;rw[<-HK.out]at q1;obtain⟨n0,n1⟩:=oV qa;have ac:=aa.wG;rw[<-HK.out]at ac;have oh:=I ac;have jy:=I (jq.setCell (p:=B_ g 1) Wh (V ((k:Int)+1)));have Km:r7≠g:=ai;clear ac aa jq qa;go_wp2
       exact aaW
      |false=>
       have hst:((⟨#[38,97,109,112,59]⟩:Y_)==⟨s.toArray⟩)=false:=ko [38,97,109,112,59] s false heq;have wY:=I aqm;go_wp2
       go_quiet (fail)
       go_wp2_with fail
       exact⟨⟨0+1,true,by first|rfl|go_num,rfl,by omega,wX,wY,iC.drewN _,iJ.QH aes,gy.drewN _⟩,by simp[intOf]⟩
     |false=>
      go_wp2_with fail
      obtain⟨p0,p1,_,_,_,_,_⟩:=fM iR.QN;rw[<-HK.out]at p1;obtain⟨n0,n1⟩:=oV iY;have r0:=cell_regrown p0;have r1:=cell_regrown p1;have r2:=cell_regrown n0;have C0:=I (lJ (P:=Tryz.prog) w5 (λw hw=>(Tryz.strings_HasPrefix ⟨#[38,97,109,112,59]⟩ ⟨s.toArray⟩ w).mono λ_ _ h=>⟨h.1,by rw[h.2];exact M _ _⟩));clear p0 p1 n0 n1;refine wp_region_quiet_below Pg Pg ?_
      repeat(with_reducible refine wpQuiet_step (λK hK=>?_);go_simp;first|(refine hK _ ?_;clear hK K)|(apply Exists.intro;refine⟨λ_=>?_,hK _ ?_⟩;(first|with_reducible exact C0.out _ _);clear hK K))
      refine wpQuiet_nil ?_;rintro w6 ⟨⟨_,_⟩,GZ⟩;have dK:ag w5 w6:=asC
      clear GZ r0 r1 r2 C0;have iJ:=I (iR.QH dK);have iC:=I akP;have gy:=I asZ;have ic:=I aut;have wX:=I (show Lib.hasPrefix ([38,97,109,112,59]:List UInt8) s=(cO.take (0+1)).any (λx=>pre s x.1) by rw[sH s 0 (by decide),<-gu.out,LH];rfl);clear dK;obtain⟨q0,q1,q2,f0,f1,f2,hg⟩:=fM iJ.QN;rw[<-HK.out]at q1;obtain⟨n0,n1⟩:=oV ic;cases heq:(([38,97,109,112,59]:List UInt8)==s)with
      |true=>
       have hst:((⟨#[38,97,109,112,59]⟩:Y_)==⟨s.toArray⟩)=true:=ko [38,97,109,112,59] s true heq;have dB:=I arU;go_wp2
       go_quiet (fail)
       have aa:=iJ.QH ((M _ w6).drewN nq);have jq:=iC.drewN nq;have qa:=ic.drewN nq;generalize (w6.drewN nq)=w7 at aa jq qa|-;clear q0 q1 q2 f0 f1 f2 hg n0 n1;obtain⟨q0,q1,q2,f0,f1,f2,hg⟩:=fM aa.QN;rw[<-HK.out]at q1;obtain⟨n0,n1⟩:=oV qa;have ac:=aa.wG;rw[<-HK.out]at ac;have oh:=I ac;have jy:=I (jq.setCell (p:=B_ g 1) Wh (V ((k:Int)+1)));have Km:r7≠g:=ai;clear ac aa jq qa;go_wp2
       exact aaW
      |false=>
       have hst:((⟨#[38,97,109,112,59]⟩:Y_)==⟨s.toArray⟩)=false:=ko [38,97,109,112,59] s false heq;have wY:=I aqm;go_wp2
       go_quiet (fail)
       go_wp2_with fail
       exact⟨⟨0+1,Lib.hasPrefix ([38,97,109,112,59]:List UInt8) s,by first|rfl|go_num,rfl,by omega,wX,wY,iC.drewN _,iJ.QH aes,gy.drewN _⟩,by simp[intOf]⟩
    .have ai:wr.heap.size≠g:=by have:=HX.lt;omega
     have hgr:w.heap.size<wr.heap.size:=HB.lt;have an:∀W:W_,(Instr.index 220 (.agg #[.string ⟨#[38,97,109,112,59]⟩,.int .u8 38,.string ⟨#[38,108,116,59]⟩,.int .u8 60,.string ⟨#[38,103,116,59]⟩,.int .u8 62,.string ⟨#[38,113,117,111,116,59]⟩,.int .u8 34]) (V 1)).run Tryz.prog W=.ok (.agg #[.string ⟨#[38,108,116,59]⟩,.int .u8 60]) W:=λW=>by with_unfolding_all rfl
     go_wp2_with fail
     clear an;have iY:=I (af.new wr 219 #[.string ⟨#[38,108,116,59]⟩,.int .u8 60]);have gL:=I ((M (λ_=>False) wr).alloc (.cells #[.string ⟨#[38,108,116,59]⟩,.int .u8 60] 219));have iW:=I aqS;have iR:=I (HX.QH gL);have eO:=I aus;generalize ar:wr.heap.size=r7 at iY ai|-;generalize (wr.alloc (.cells #[.string ⟨#[38,108,116,59]⟩,.int .u8 60] 219))=w5 at iY gL iW iR eO|-;have hex:=CY.out;cases bb with
     |true=>
      obtain⟨q0,q1,q2,f0,f1,f2,hg⟩:=fM iR.QN;rw[<-HK.out]at q1;obtain⟨n0,n1⟩:=oV iY
      go_quiet (fail)
      have ve:=I aeN;have wX:=I (show true=(cO.take (1+1)).any (λx=>pre s x.1) by rw[sH s 1 (by decide),<-gu.out];rfl);have iJ:=I (iR.QH ve);have iC:=I aqT;have gy:=I (ve.QN eO λh=>h);have ic:=I (ve.QN iY λh=>h);generalize (w5.drewN nq)=w6 at iJ iC gy ic|-;clear ve q0 q1 q2 f0 f1 f2 hg n0 n1;obtain⟨q0,q1,q2,f0,f1,f2,hg⟩:=fM iJ.QN;rw[<-HK.out]at q1;obtain⟨n0,n1⟩:=oV ic;cases heq:(([38,108,116,59]:List UInt8)==s)with
      |true=>
       have hst:((⟨#[38,108,116,59]⟩:Y_)==⟨s.toArray⟩)=true:=ko [38,108,116,59] s true heq;have dB:=I arV;go_wp2
       go_quiet (fail)
       have aa:=iJ.QH ((M _ w6).drewN nq);have jq:=iC.drewN nq;have qa:=ic.drewN nq;generalize (w6.drewN nq)=w7 at aa jq qa|-;clear q0 q1 q2 f0 f1 f2 hg n0 n1;obtain⟨q0,q1,q2,f0,f1,f2,hg⟩:=fM aa.QN;rw[<-HK.out]at q1;obtain⟨n0,n1⟩:=oV qa;have ac:=aa.wG;rw[<-HK.out]at ac;have oh:=I ac;have jy:=I (jq.setCell (p:=B_ g 1) Wh (V ((k:Int)+1)));have Km:r7≠g:=ai;clear ac aa jq qa;go_wp2
       exact aaW
      |false=>
       have hst:((⟨#[38,108,116,59]⟩:Y_)==⟨s.toArray⟩)=false:=ko [38,108,116,59] s false heq;have wY:=I aqn;go_wp2
       go_quiet (fail)
       go_wp2_with fail
       exact⟨⟨1+1,true,by first|rfl|go_num,rfl,by omega,wX,wY,iC.drewN _,iJ.QH aes,gy.drewN _⟩,by simp[intOf]⟩
     |false=>
      go_wp2_with fail
      obtain⟨p0,p1,_,_,_,_,_⟩:=fM iR.QN;rw[<-HK.out]at p1;obtain⟨n0,n1⟩:=oV iY;have r0:=cell_regrown p0;have r1:=cell_regrown p1;have r2:=cell_regrown n0;have C0:=I (lJ (P:=Tryz.prog) w5 (λw hw=>(Tryz.strings_HasPrefix ⟨#[38,108,116,59]⟩ ⟨s.toArray⟩ w).mono λ_ _ h=>⟨h.1,by rw[h.2];exact M _ _⟩));clear p0 p1 n0 n1;refine wp_region_quiet_below Pg Pg ?_
      repeat(with_reducible refine wpQuiet_step (λK hK=>?_);go_simp;first|(refine hK _ ?_;clear hK K)|(apply Exists.intro;refine⟨λ_=>?_,hK _ ?_⟩;(first|with_reducible exact C0.out _ _);clear hK K))
      refine wpQuiet_nil ?_;rintro w6 ⟨⟨_,_⟩,GZ⟩;have dK:ag w5 w6:=asC
      clear GZ r0 r1 r2 C0;have iJ:=I (iR.QH dK);have iC:=I akP;have gy:=I asZ;have ic:=I aut;have wX:=I (show Lib.hasPrefix ([38,108,116,59]:List UInt8) s=(cO.take (1+1)).any (λx=>pre s x.1) by rw[sH s 1 (by decide),<-gu.out,LH];rfl);clear dK;obtain⟨q0,q1,q2,f0,f1,f2,hg⟩:=fM iJ.QN;rw[<-HK.out]at q1;obtain⟨n0,n1⟩:=oV ic;cases heq:(([38,108,116,59]:List UInt8)==s)with
      |true=>
       have hst:((⟨#[38,108,116,59]⟩:Y_)==⟨s.toArray⟩)=true:=ko [38,108,116,59] s true heq;have dB:=I arV;go_wp2
       go_quiet (fail)
       have aa:=iJ.QH ((M _ w6).drewN nq);have jq:=iC.drewN nq;have qa:=ic.drewN nq;generalize (w6.drewN nq)=w7 at aa jq qa|-;clear q0 q1 q2 f0 f1 f2 hg n0 n1;obtain⟨q0,q1,q2,f0,f1,f2,hg⟩:=fM aa.QN;rw[<-HK.out]at q1;obtain⟨n0,n1⟩:=oV qa;have ac:=aa.wG;rw[<-HK.out]at ac;have oh:=I ac;have jy:=I (jq.setCell (p:=B_ g 1) Wh (V ((k:Int)+1)));have Km:r7≠g:=ai;clear ac aa jq qa;go_wp2
       exact aaW
      |false=>
       have hst:((⟨#[38,108,116,59]⟩:Y_)==⟨s.toArray⟩)=false:=ko [38,108,116,59] s false heq;have wY:=I aqn;go_wp2
       go_quiet (fail)
       go_wp2_with fail
       exact⟨⟨1+1,Lib.hasPrefix ([38,108,116,59]:List UInt8) s,by first|rfl|go_num,rfl,by omega,wX,wY,iC.drewN _,iJ.QH aes,gy.drewN _⟩,by simp[intOf]⟩
    .have ai:wr.heap.size≠g:=by have:=HX.lt;omega
     have hgr:w.heap.size<wr.heap.size:=HB.lt;have an:∀W:W_,(Instr.index 220 (.agg #[.string ⟨#[38,97,109,112,59]⟩,.int .u8 38,.string ⟨#[38,108,116,59]⟩,.int .u8 60,.string ⟨#[38,103,116,59]⟩,.int .u8 62,.string ⟨#[38,113,117,111,116,59]⟩,.int .u8 34]) (V 2)).run Tryz.prog W=.ok (.agg #[.string ⟨#[38,103,116,59]⟩,.int .u8 62]) W:=λW=>by with_unfolding_all rfl
     go_wp2_with fail
     clear an;have iY:=I (af.new wr 219 #[.string ⟨#[38,103,116,59]⟩,.int .u8 62]);have gL:=I ((M (λ_=>False) wr).alloc (.cells #[.string ⟨#[38,103,116,59]⟩,.int .u8 62] 219));have iW:=I aqS;have iR:=I (HX.QH gL);have eO:=I aus;generalize ar:wr.heap.size=r7 at iY ai|-;generalize (wr.alloc (.cells #[.string ⟨#[38,103,116,59]⟩,.int .u8 62] 219))=w5 at iY gL iW iR eO|-;have hex:=CY.out;cases bb with
     |true=>
      obtain⟨q0,q1,q2,f0,f1,f2,hg⟩:=fM iR.QN;rw[<-HK.out]at q1;obtain⟨n0,n1⟩:=oV iY
      go_quiet (fail)
      have ve:=I aeN;have wX:=I (show true=(cO.take (2+1)).any (λx=>pre s x.1) by rw[sH s 2 (by decide),<-gu.out];rfl);have iJ:=I (iR.QH ve);have iC:=I aqT;have gy:=I (ve.QN eO λh=>h);have ic:=I (ve.QN iY λh=>h);generalize (w5.drewN nq)=w6 at iJ iC gy ic|-;clear ve q0 q1 q2 f0 f1 f2 hg n0 n1;obtain⟨q0,q1,q2,f0,f1,f2,hg⟩:=fM iJ.QN;rw[<-HK.out]at q1;obtain⟨n0,n1⟩:=oV ic;cases heq:(([38,103,116,59]:List UInt8)==s)with
      |true=>
       have hst:((⟨#[38,103,116,59]⟩:Y_)==⟨s.toArray⟩)=true:=ko [38,103,116,59] s true heq;have dB:=I arW;go_wp2
       go_quiet (fail)
       have aa:=iJ.QH ((M _ w6).drewN nq);have jq:=iC.drewN nq;have qa:=ic.drewN nq;generalize (w6.drewN nq)=w7 at aa jq qa|-;clear q0 q1 q2 f0 f1 f2 hg n0 n1;obtain⟨q0,q1,q2,f0,f1,f2,hg⟩:=fM aa.QN;rw[<-HK.out]at q1;obtain⟨n0,n1⟩:=oV qa;have ac:=aa.wG;rw[<-HK.out]at ac;have oh:=I ac;have jy:=I (jq.setCell (p:=B_ g 1) Wh (V ((k:Int)+1)));have Km:r7≠g:=ai;clear ac aa jq qa;go_wp2
       exact aaW
      |false=>
       have hst:((⟨#[38,103,116,59]⟩:Y_)==⟨s.toArray⟩)=false:=ko [38,103,116,59] s false heq;have wY:=I aqo;go_wp2
       go_quiet (fail)
       go_wp2_with fail
       exact⟨⟨2+1,true,by first|rfl|go_num,rfl,by omega,wX,wY,iC.drewN _,iJ.QH aes,gy.drewN _⟩,by simp[intOf]⟩
     |false=>
      go_wp2_with fail
      obtain⟨p0,p1,_,_,_,_,_⟩:=fM iR.QN;rw[<-HK.out]at p1;obtain⟨n0,n1⟩:=oV iY;have r0:=cell_regrown p0;have r1:=cell_regrown p1;have r2:=cell_regrown n0;have C0:=I (lJ (P:=Tryz.prog) w5 (λw hw=>(Tryz.strings_HasPrefix ⟨#[38,103,116,59]⟩ ⟨s.toArray⟩ w).mono λ_ _ h=>⟨h.1,by rw[h.2];exact M _ _⟩));clear p0 p1 n0 n1;refine wp_region_quiet_below Pg Pg ?_
      repeat(with_reducible refine wpQuiet_step (λK hK=>?_);go_simp;first|(refine hK _ ?_;clear hK K)|(apply Exists.intro;refine⟨λ_=>?_,hK _ ?_⟩;(first|with_reducible exact C0.out _ _);clear hK K))
      refine wpQuiet_nil ?_;rintro w6 ⟨⟨_,_⟩,GZ⟩;have dK:ag w5 w6:=asC
      clear GZ r0 r1 r2 C0;have iJ:=I (iR.QH dK);have iC:=I akP;have gy:=I asZ;have ic:=I aut;have wX:=I (show Lib.hasPrefix ([38,103,116,59]:List UInt8) s=(cO.take (2+1)).any (λx=>pre s x.1) by rw[sH s 2 (by decide),<-gu.out,LH];rfl);clear dK;obtain⟨q0,q1,q2,f0,f1,f2,hg⟩:=fM iJ.QN;rw[<-HK.out]at q1;obtain⟨n0,n1⟩:=oV ic;cases heq:(([38,103,116,59]:List UInt8)==s)with
      |true=>
       have hst:((⟨#[38,103,116,59]⟩:Y_)==⟨s.toArray⟩)=true:=ko [38,103,116,59] s true heq;have dB:=I arW;go_wp2
       go_quiet (fail)
       have aa:=iJ.QH ((M _ w6).drewN nq);have jq:=iC.drewN nq;have qa:=ic.drewN nq;generalize (w6.drewN nq)=w7 at aa jq qa|-;clear q0 q1 q2 f0 f1 f2 hg n0 n1;obtain⟨q0,q1,q2,f0,f1,f2,hg⟩:=fM aa.QN;rw[<-HK.out]at q1;obtain⟨n0,n1⟩:=oV qa;have ac:=aa.wG;rw[<-HK.out]at ac;have oh:=I ac;have jy:=I (jq.setCell (p:=B_ g 1) Wh (V ((k:Int)+1)));have Km:r7≠g:=ai;clear ac aa jq qa;go_wp2
       exact aaW
      |false=>
       have hst:((⟨#[38,103,116,59]⟩:Y_)==⟨s.toArray⟩)=false:=ko [38,103,116,59] s false heq;have wY:=I aqo;go_wp2
       go_quiet (fail)
       go_wp2_with fail
       exact⟨⟨2+1,Lib.hasPrefix ([38,103,116,59]:List UInt8) s,by first|rfl|go_num,rfl,by omega,wX,wY,iC.drewN _,iJ.QH aes,gy.drewN _⟩,by simp[intOf]⟩
    .have ai:wr.heap.size≠g:=by have:=HX.lt;omega
     have hgr:w.heap.size<wr.heap.size:=HB.lt;have an:∀W:W_,(Instr.index 220 (.agg #[.string ⟨#[38,97,109,112,59]⟩,.int .u8 38,.string ⟨#[38,108,116,59]⟩,.int .u8 60,.string ⟨#[38,103,116,59]⟩,.int .u8 62,.string ⟨#[38,113,117,111,116,59]⟩,.int .u8 34]) (V 3)).run Tryz.prog W=.ok (.agg #[.string ⟨#[38,113,117,111,116,59]⟩,.int .u8 34]) W:=λW=>by with_unfolding_all rfl
     go_wp2_with fail
     clear an;have iY:=I (af.new wr 219 #[.string ⟨#[38,113,117,111,116,59]⟩,.int .u8 34]);have gL:=I ((M (λ_=>False) wr).alloc (.cells #[.string ⟨#[38,113,117,111,116,59]⟩,.int .u8 34] 219));have iW:=I aqS;have iR:=I (HX.QH gL);have eO:=I aus;generalize ar:wr.heap.size=r7 at iY ai|-;generalize (wr.alloc (.cells #[.string ⟨#[38,113,117,111,116,59]⟩,.int .u8 34] 219))=w5 at iY gL iW iR eO|-;have hex:=CY.out;cases bb with
     |true=>
      obtain⟨q0,q1,q2,f0,f1,f2,hg⟩:=fM iR.QN;rw[<-HK.out]at q1;obtain⟨n0,n1⟩:=oV iY
      go_quiet (fail)
      have ve:=I aeN;have wX:=I (show true=(cO.take (3+1)).any (λx=>pre s x.1) by rw[sH s 3 (by decide),<-gu.out];rfl);have iJ:=I (iR.QH ve);have iC:=I aqT;have gy:=I (ve.QN eO λh=>h);have ic:=I (ve.QN iY λh=>h);generalize (w5.drewN nq)=w6 at iJ iC gy ic|-;clear ve q0 q1 q2 f0 f1 f2 hg n0 n1;obtain⟨q0,q1,q2,f0,f1,f2,hg⟩:=fM iJ.QN;rw[<-HK.out]at q1;obtain⟨n0,n1⟩:=oV ic;cases heq:(([38,113,117,111,116,59]:List UInt8)==s)with
      |true=>
       have hst:((⟨#[38,113,117,111,116,59]⟩:Y_)==⟨s.toArray⟩)=true:=ko [38,113,117,111,116,59] s true heq;have dB:=I arX;go_wp2
       go_quiet (fail)
       have aa:=iJ.QH ((M _ w6).drewN nq);have jq:=iC.drewN nq;have qa:=ic.drewN nq;generalize (w6.drewN nq)=w7 at aa jq qa|-;clear q0 q1 q2 f0 f1 f2 hg n0 n1;obtain⟨q0,q1,q2,f0,f1,f2,hg⟩:=fM aa.QN;rw[<-HK.out]at q1;obtain⟨n0,n1⟩:=oV qa;have ac:=aa.wG;rw[<-HK.out]at ac;have oh:=I ac;have jy:=I (jq.setCell (p:=B_ g 1) Wh (V ((k:Int)+1)));have Km:r7≠g:=ai;clear ac aa jq qa;go_wp2
       exact aaW
      |false=>
       have hst:((⟨#[38,113,117,111,116,59]⟩:Y_)==⟨s.toArray⟩)=false:=ko [38,113,117,111,116,59] s false heq;have wY:=I aqp;go_wp2
       go_quiet (fail)
       go_wp2_with fail
       exact⟨⟨3+1,true,by first|rfl|go_num,rfl,by omega,wX,wY,iC.drewN _,iJ.QH aes,gy.drewN _⟩,by simp[intOf]⟩
     |false=>
      go_wp2_with fail
      obtain⟨p0,p1,_,_,_,_,_⟩:=fM iR.QN;rw[<-HK.out]at p1;obtain⟨n0,n1⟩:=oV iY;have r0:=cell_regrown p0;have r1:=cell_regrown p1;have r2:=cell_regrown n0;have C0:=I (lJ (P:=Tryz.prog) w5 (λw hw=>(Tryz.strings_HasPrefix ⟨#[38,113,117,111,116,59]⟩ ⟨s.toArray⟩ w).mono λ_ _ h=>⟨h.1,by rw[h.2];exact M _ _⟩));clear p0 p1 n0 n1;refine wp_region_quiet_below Pg Pg ?_
      repeat(with_reducible refine wpQuiet_step (λK hK=>?_);go_simp;first|(refine hK _ ?_;clear hK K)|(apply Exists.intro;refine⟨λ_=>?_,hK _ ?_⟩;(first|with_reducible exact C0.out _ _);clear hK K))
      refine wpQuiet_nil ?_;rintro w6 ⟨⟨_,_⟩,GZ⟩;have dK:ag w5 w6:=asC
      clear GZ r0 r1 r2 C0;have iJ:=I (iR.QH dK);have iC:=I akP;have gy:=I asZ;have ic:=I aut;have wX:=I (show Lib.hasPrefix ([38,113,117,111,116,59]:List UInt8) s=(cO.take (3+1)).any (λx=>pre s x.1) by rw[sH s 3 (by decide),<-gu.out,LH];rfl);clear dK;obtain⟨q0,q1,q2,f0,f1,f2,hg⟩:=fM iJ.QN;rw[<-HK.out]at q1;obtain⟨n0,n1⟩:=oV ic;cases heq:(([38,113,117,111,116,59]:List UInt8)==s)with
      |true=>
       have hst:((⟨#[38,113,117,111,116,59]⟩:Y_)==⟨s.toArray⟩)=true:=ko [38,113,117,111,116,59] s true heq;have dB:=I arX;go_wp2
       go_quiet (fail)
       have aa:=iJ.QH ((M _ w6).drewN nq);have jq:=iC.drewN nq;have qa:=ic.drewN nq;generalize (w6.drewN nq)=w7 at aa jq qa|-;clear q0 q1 q2 f0 f1 f2 hg n0 n1;obtain⟨q0,q1,q2,f0,f1,f2,hg⟩:=fM aa.QN;rw[<-HK.out]at q1;obtain⟨n0,n1⟩:=oV qa;have ac:=aa.wG;rw[<-HK.out]at ac;have oh:=I ac;have jy:=I (jq.setCell (p:=B_ g 1) Wh (V ((k:Int)+1)));have Km:r7≠g:=ai;clear ac aa jq qa;go_wp2
       exact aaW
      |false=>
       have hst:((⟨#[38,113,117,111,116,59]⟩:Y_)==⟨s.toArray⟩)=false:=ko [38,113,117,111,116,59] s false heq;have wY:=I aqp;go_wp2
       go_quiet (fail)
       go_wp2_with fail
       exact⟨⟨3+1,Lib.hasPrefix ([38,113,117,111,116,59]:List UInt8) s,by first|rfl|go_num,rfl,by omega,wX,wY,iC.drewN _,iJ.QH aes,gy.drewN _⟩,by simp[intOf]⟩
    .have Ra:=I (show cO.find? (λx=>x.1==s)=none from zZ)
     have afK:=I (show bb=cO.any (λx=>pre s x.1)from gu);cases bb with
     |false=>
      have dB:=I (show eT c [] l0=.bad (b::l2) by rw[ah.out,Ra.out];show(if cO.any (λx=>pre s x.1)=true then _ else _)=_;rw[<-afK.out];rfl);go_wp2_with fail
      refine(qJ S g (b::l2) c _ HX).mono ?_;rintro _ w3 ⟨rfl,rfl⟩;refine⟨rfl,(?_:XB S g w (eT c [] l0) _ _)⟩;rw[dB.out];exact⟨rfl,HT⟩
     |true=>
      have dB:=I (show eT c [] l0=eT c s l2 by rw[ah.out,Ra.out];show(if cO.any (λx=>pre s x.1)=true then _ else _)=_;rw[<-afK.out];rfl);obtain⟨q0,q1,q2,f0,f1,f2,hg⟩:=fM HX.QN;rw[<-HK.out]at q1;have aj:=HX.wG;rw[<-HK.out]at aj;have tZ:=I aj;have nU:=I (HT.setCell (p:=B_ g 1) Wh (V ((k:Int)+1)));have iB:=I ((HB).far (p:=B_ g 1) aih (V ((k:Int)+1)));have HM:=I (lN aj);clear aj;go_wp2
      refine⟨⟨s,l2,ace,dB,nU,tZ,iB⟩,?_⟩;rw[HM.out,HP.out];have h1:=HK.out;have h2:=uP.out;exact atW
end
section
open Go.RowKit
open Xp (Rs bQ jk eT)
theorem Eg(b:UInt8)(k:UInt8):((b.toNat:Int)==(k.toNat:Int))=(b==k):=by
 rw[Bool.eq_iff_iff,beq_iff_eq,beq_iff_eq];constructor
 .intro h;exact UInt8.toNat_inj.1 Zo
 .rintro rfl;rfl
theorem G5(S:Y_)(g c n:Nat)(l:List UInt8)(w:W_)(hS:S.size<=1099511627776)(hn:n<=9223372036854775807)(h:Xr S g l c w):C_ 140 #[.pointer (A_ g 0),V (n:Int)] w λe w'=>XB S g w (jk n c l) e w':=by
 have HX:=I h;clear h;cases l with
 |nil=>
  go_enter func140,ntmps140;go_wp2_with fail
  refine(xE S g c _ HX).mono ?_;exact ar6
 |cons b l=>
 have Xm:((decide ((200:Int)<=(n:Int))=true\/(decide ((200:Int)<=(n:Int))=false/\((b.toNat:Int)==(60:Int))=true))/\jk n c (b::l)=.bad (b::l))\/
   (decide ((200:Int)<=(n:Int))=false/\((b.toNat:Int)==(60:Int))=false/\U.aU b=false/\jk n c (b::l)=.bad (b::l))\/
   (decide ((200:Int)<=(n:Int))=false/\((b.toNat:Int)==(60:Int))=false/\U.aU b=true/\((((b.toNat:Int)==(38:Int))=true/\jk n c (b::l)=eT c [] (b::l))\/(((b.toNat:Int)==(38:Int))=false/\jk n c (b::l)=.ok b l c))):=by
  have hc:jk n c (b::l)=if 200<=n\/b=60\/U.aU b=false then .bad (b::l)else if b=38 then eT c [] (b::l)else .ok b l c:=rfl
  have h60:((b.toNat:Int)==(60:Int))=(b==60):=Eg b 60;have h38:((b.toNat:Int)==(38:Int))=(b==38):=Eg b 38;rw[h60,h38,hc]
  by_cases c1:200<=n
  .exact .inl ⟨.inl (dT Zo),if_pos (.inl c1)⟩
  .have d1:decide ((200:Int)<=(n:Int))=false:=dF Zo
   by_cases c2:b=60
   .exact .inl ⟨.inr ⟨d1,by rw[c2];rfl⟩,if_pos (.inr (.inl c2))⟩
   .have e2:(b==60)=false:=by rw[beq_eq_false_iff_ne];exact c2
    cases c3:U.aU b with
    |false=>exact .inr (.inl ⟨d1,e2,rfl,if_pos (.inr atG)⟩)
    |true=>
     have hno:¬(200<=n\/b=60\/true=false):=by rintro(h|h|h);exact c1 h;exact c2 h;cases h
     refine .inr (.inr ⟨d1,e2,rfl,?_⟩);rw[if_neg hno]
     by_cases c4:b=38
     .exact .inl ⟨by rw[c4];rfl,if_pos c4⟩
     .exact .inr ⟨by rw[beq_eq_false_iff_ne];exact c4,if_neg c4⟩
 have G6:=I (λ(W:W_) (h:Xr S g (b::l) c W)=>fG S g c b l W h)
 rcases Xm with⟨d1|⟨d1,d2⟩,aa⟩|⟨d1,d2,d3,aa⟩|⟨d1,d2,d3,aa⟩
 focus
  have dB:=I aa;clear aa;go_enter func140,ntmps140;go_wp2_with fail
  refine(G6 _ HX).mono ?_;rintro _ w1 ⟨rfl,hf⟩;have je:=I arR;have aK:=I hf;clear hf;go_wp2_with fail
  exact n_
 focus
  have dB:=I aa;clear aa;go_enter func140,ntmps140;go_wp2_with fail
  refine(G6 _ HX).mono ?_;rintro _ w1 ⟨rfl,hf⟩;have je:=I arR;have aK:=I hf;clear hf;go_wp2_with fail
  exact n_
 focus
  have dB:=I aa;clear aa;go_enter func140,ntmps140;go_wp2_with fail
  refine(G6 _ HX).mono ?_;rintro _ w1 ⟨rfl,hf⟩;have je:=I arR;have aK:=I hf;clear hf;go_wp2_with fail
  refine(uO b _).mono ?_;rintro _ w2 ⟨rfl,hw⟩;replace hw:=hw.symm;subst hw;go_wp2_with fail
  exact n_
 rcases aa with⟨d4,aa⟩|⟨d4,aa⟩
 focus
  have dB:=I aa;clear aa;go_enter func140,ntmps140;go_wp2_with fail
  refine(G6 _ HX).mono ?_;rintro _ w1 ⟨rfl,hf⟩;have je:=I arR;have aK:=I aqA;clear hf;go_wp2_with fail
  refine(uO b _).mono ?_;rintro _ w2 ⟨rfl,hw⟩;replace hw:=hw.symm;subst hw;go_wp2_with fail
  refine(ZP S g c (b::l) _ hS je).mono ?_;intro e w2 he;have ae:=XB.trans aK he;rw[<-dB.out]at ae;cases hr:jk n c (b::l)with
  |bad l2=>
   rw[hr]at ae;have h1:=ae.1;subst h1;refine⟨rfl,(?_:XB S g w (jk n c (b::l)) _ _)⟩;rw[hr];exact ae
  |ok x l2 c2=>
   rw[hr]at ae;obtain⟨rfl,ht,hx⟩:=ae;have HF:=I (show XB S g w (jk n c (b::l)) (.returned (.int .u8 (x.toNat:Int))) w2 by rw[hr];exact⟨rfl,ht,hx⟩);clear hr ht hx he;go_wp2
   go_ret;exact HF
 focus
  have dB:=I aa;clear aa;go_enter func140,ntmps140;go_wp2_with fail
  refine(G6 _ HX).mono ?_;rintro _ w1 ⟨rfl,hf⟩;have hx1:=HX.QH hf;have aK:=I aqA;obtain⟨q0,q1,q2,f0,f1,f2,hg⟩:=fM hx1.QN;have hle:=hx1.len;have hw:IntKind.i64.wrap (((S.size-(b::l).length:Nat):Int)+1)=((S.size-(b::l).length:Nat):Int)+1:=IntWalk.i64_in _ Zo;have p8:=I hx1.wG;clear hf hx1 hle;generalize S.size-(b::l).length=k at*;go_wp2_with fail
  refine(uO b _).mono ?_;rintro _ w2 ⟨rfl,hw2⟩;replace hw2:=hw2.symm;subst hw2;go_wp2
  go_ret;rw[dB.out];exact⟨rfl,aK.setCell (p:=B_ g 1) Wh _,p8⟩
end
section
open Go.RowKit
open Xp (Rs bQ jk eT jl)
namespace Xp
theorem Ri(c:Nat):∀(l p:List UInt8) (x:UInt8) (l2:List UInt8) (c2:Nat),eT c p l=.ok x l2 c2->l2.length<l.length
 |[],p,x,l2,c2,h=>by rw[eT]at h;cases h
 |b::l,p,x,l2,c2,h=>by
  rw[eT]at h;split at h
  .cases h;rw[au0];omega
  .split at h
   .have:=Ri c l _ x l2 c2 h
    rw[au0];omega
   .cases h
theorem BZ{n c:Nat}{l:List UInt8}{x:UInt8}{l2:List UInt8}{c2:Nat}(h:jk n c l=.ok x l2 c2):l2.length<l.length:=by
 cases l with
 |nil=>cases h
 |cons b l=>
  have h:(if 200<=n\/b=60\/U.aU b=false then Rs.bad (b::l)else if b=38 then eT c [] (b::l)else .ok b l c)=.ok x l2 c2:=h;split at h
  .cases h
  .split at h
   .exact Ri c _ _ _ _ _ h
   .cases h;rw[au0];omega
theorem Vx{n c:Nat}{l:List UInt8}{x:UInt8}{l2:List UInt8}{c2:Nat}(h:jk n c l=.ok x l2 c2):n<200:=by
 cases l with
 |nil=>cases h
 |cons b l=>
  have h:(if 200<=n\/b=60\/U.aU b=false then Rs.bad (b::l)else if b=38 then eT c [] (b::l)else .ok b l c)=.ok x l2 c2:=h;split at h
  .cases h
  .rename_i hn
   simp only[not_or]at hn;omega
theorem Oh(c:Nat):∀(l p:List UInt8) (x:UInt8) (l2:List UInt8) (c2:Nat),eT c p l=.ok x l2 c2->c2=c
 |[],p,x,l2,c2,h=>by rw[eT]at h;cases h
 |b::l,p,x,l2,c2,h=>by
  rw[eT]at h;split at h
  .cases h;rfl
  .split at h
   .exact Oh c l _ x l2 c2 h
   .cases h
theorem Oi{n c:Nat}{l:List UInt8}{x:UInt8}{l2:List UInt8}{c2:Nat}(h:jk n c l=.ok x l2 c2):c2=c:=by
 cases l with
 |nil=>cases h
 |cons b l=>
  have h:(if 200<=n\/b=60\/U.aU b=false then Rs.bad (b::l)else if b=38 then eT c [] (b::l)else .ok b l c)=.ok x l2 c2:=h;split at h
  .cases h
  .split at h
   .exact Oh c _ _ _ _ _ h
   .cases h;rfl
theorem UD(q:UInt8)(c:Nat):∀(m f:Nat) (acc l:List UInt8),l.length<=m->l.length<f->jl q c f acc l=jl q c (l.length+1) acc l:=by
 intro m
 induction m with
 |zero=>
  intro f acc l hm hf;obtain⟨f,rfl⟩:∃k,f=k+1:=⟨f-1,by omega⟩;have:l=[]:=List.length_eq_zero_iff.1 Zo;subst this;rw[jl,jl]
 |succ m ih=>
  intro f acc l hm hf;obtain⟨f,rfl⟩:∃k,f=k+1:=⟨f-1,by omega⟩;cases l with
  |nil=>rw[jl,jl]
  |cons b l=>
   rw[jl,jl];split
   .rfl
   .cases hc:jk acc.length c (b::l)with
    |bad l2=>rfl
    |ok x l2 c2=>
     have h1:=BZ hc;rw[au0]at hm hf h1
     dsimp only
     rw[ih f (acc++[x]) l2 (by omega) (by omega),ih (b::l).length (acc++[x]) l2 (by omega) (by rw[au0];omega)]
theorem Xn(q:UInt8)(c:Nat)(f:Nat)(acc l:List UInt8)(h:l.length<f):jl q c f acc l=jl q c (l.length+1) acc l:=UD q c _ f acc l PD h
def iZ(q:UInt8)(c:Nat)(acc l:List UInt8):Rs (List UInt8):=jl q c (l.length+1) acc l
theorem CZ(q:UInt8)(c:Nat)(acc:List UInt8):iZ q c acc []=.bad []:=by unfold iZ;rw[jl]
theorem C8(q:UInt8)(c:Nat)(acc l:List UInt8):iZ q c acc (q::l)=.ok acc (q::l) c:=by unfold iZ;rw[jl];exact if_pos rfl
theorem G7{q:UInt8}{c:Nat}{acc l:List UInt8}{b:UInt8}(hb:¬b=q){l2:List UInt8}(hc:jk acc.length c (b::l)=.bad l2):iZ q c acc (b::l)=.bad l2:=by unfold iZ;rw[jl,if_neg hb,hc]
theorem AU{q:UInt8}{c:Nat}{acc l:List UInt8}{b:UInt8}(hb:¬b=q){x:UInt8}{l2:List UInt8}{c2:Nat}(hc:jk acc.length c (b::l)=.ok x l2 c2):iZ q c acc (b::l)=iZ q c (acc++[x]) l2:=by
 unfold iZ;rw[jl,if_neg hb,hc];exact Xn q c _ _ _ (BZ hc)
end Xp
def aiF(B:Nat)(w:W_)(acc:List UInt8)(v:Value):Prop:=(acc=[]/\v=N_)\/
 ∃g cap cur fz,v=.slice (A_ g 0) acc.length cap/\B<=g/\w.heap[g]?=some (.cells cur 5 fz)/\(fz.2=0\/cap<=fz.1)/\acc.length<=cap/\cap<=maxLen/\cur.size=cap/\cur.toList.take acc.length=Lib.byteCells acc
def lQ(B:Nat)(w:W_)(acc:List UInt8)(v:Value):Prop:=B<=w.heap.size/\aiF B w acc v
theorem lQ.nil{B:Nat}{w:W_}(hB:B<=w.heap.size):lQ B w [] (N_):=⟨hB,.inl ⟨rfl,rfl⟩⟩
theorem lQ.pY{B:Nat}{w:W_}{acc:List UInt8}{v:Value}(h:lQ B w acc v):∀k,v.ownBlock=some k->B<=k/\k<w.heap.size:=by
 intro k hk
 rcases h.2 with⟨_,rfl⟩|⟨g,cap,cur,fz,rfl,hb,hg,_⟩
 .cases hk
 .cases hk
  exact⟨hb,(Array.getElem?_eq_some_iff.1 hg).1⟩
theorem lQ.mv{B:Nat}{w w1:W_}{acc:List UInt8}{v:Value}{S:Nat->Prop}(h:lQ B w acc v)(ht:Touch S w w1)(hS:∀k,S k->k<w.heap.size->k<B):lQ B w1 acc v:=by
 refine⟨au2 h.1 ht.size,?_⟩
 rcases h.2 with h|⟨g,cap,cur,fz,rfl,hb,hg,r⟩
 .exact .inl h
 .have hl:=(Array.getElem?_eq_some_iff.1 hg).1
  exact .inr ⟨g,cap,cur,fz,rfl,hb,(ht.block g hl λhs=>by have:=hS g hs hl;omega).trans hg,r⟩
theorem lQ.QH{B:Nat}{w w1:W_}{acc:List UInt8}{v:Value}(h:lQ B w acc v)(ht:ag w w1):lQ B w1 acc v:=h.mv ht λ_ h=>h.elim
theorem lQ.conv(w:W_)(s:Y_)(hs:s.size<=1099511627776):lQ w.heap.size (Lib.bytesWorld w 5 s) s.data.toList (.slice (A_ w.heap.size 0) s.size (grownCap w s.size 0 5))/\ag w (Lib.bytesWorld w 5 s):=by
 have ai:=grownCap_ge w s.size 0 5;have hcm:grownCap w s.size 0 5<=maxLen:=grownCap_le_maxLen w s.size 0 5 vG;have hl:s.data.toList.length=s.size:=P9
 have hcs:(Lib.bytesCells w 5 s).size=grownCap w s.size 0 5:=by
  unfold Lib.bytesCells;rw[Array.size_append,Array.size_map,Array.size_replicate];show s.size+_=_;omega
 refine⟨⟨by rw[Lib.bytesWorld_size];omega,.inr ⟨w.heap.size,grownCap w s.size 0 5,_,_,by rw[hl],au3 _,Lib.bytesWorld_at_new w 5 s,.inr (by rw[hcs];exact au3 _),by rw[hl];exact ai,hcm,hcs,?_⟩⟩,?_⟩
 .unfold Lib.bytesCells
  rw[Array.toList_append,hl,aw9 (by simp)];rw[avv (by simp)];simp[Lib.byteCells]
 .refine⟨?_,?_,?_,by rw[Lib.bytesWorld_size];omega,λk hk _=>Lib.bytesWorld_at_old w 5 s k hk⟩
  all_goals
   unfold Lib.bytesWorld World.freeze;split<;>rfl
section
variable {w:World} {ops:Array Oper} {rest:List Oper} {o:Oper} {a:Act} {Q:Exit→Act→World→Prop}
theorem LJ{P:Program}{t ty e:TypeId}{i:TypeInfo}(ht:P.underlying t=some (.slice e))(hi:P.info? e=some i)(hs1:i.size=1){g n cap:Nat}{cur:Array Value}{fz:Nat×Nat}(hg:w.heap[g]?=some (.cells cur e fz))(an:fz.2=0\/cap<=fz.1)(hcs:cur.size=cap)
  (ad:Addr) (u:Value) (hu:w.cell? ad=some u) (h1:u.oneCell'=true) (hroom:n+1<=cap):
  (Builtin.append_ #[t,t] ty #[.slice (A_ g 0) n cap,.slice (some ad) 1 1]).run P w=.ok (.slice (A_ g 0) (n+1) cap) (w.setCell (B_ g n) u):=by
 have hf:=run_firstCells_some (P:=P) w 1 1 ad 1 1 [u] rfl (λj x hx=>by
  match j,hx with
  |0,hx=>
   cases hx;have:ad.add 0=ad:=by unfold Addr.add;split<;>simp_all
   rw[this];exact hu)
 have am:((B_ g n):Addr).add 0=(B_ g n):=by unfold Addr.add;split<;>simp_all
 have hcell:w.cell? (B_ g n)=some cur[n]:=by
  have hi:n<cur.size:=Zo
  simp[World.cell?,hg,hi]
 have aa:w.frozen? (B_ g n)=false:=by
  obtain⟨lo,hi'⟩:=fz;simp only[World.frozen?,hg,Bool.and_eq_false_iff,decide_eq_false_iff_not]
  rcases an with h|h
  .right;simp only at h;omega
  .left;simp only at h;omega
 have hst:(store (((B_ g n):Addr).add 0) u).run P w=.ok () (w.setCell (B_ g n) u):=by
  rw[am,run_store P w _ u _ h1,hcell];simp[aa]
 have Rj:(storeCells (B_ g n) [u] 0).run P w=.ok () (w.setCell (B_ g n) u):=by
  simp only[storeCells,Sem.run_bind,hst,Result.andThen_ok];rfl
 simp[Builtin.append_,run_underlying ht,sizeOf,typeInfo,hi,hs1,Builtin.lenOf,hroom,hf,Addr.add_lit,Rj]
theorem wpList_append_byte(hgd:o.guard=none)(s x:Operand)
  (ho:o.op=.call {callee:=.builtin .append,args:=#[s,x],argTypes:=#[52,52]})
  {B n g:Nat} {acc:List UInt8} {v:Value} (h:lQ B w acc v) (hn:acc.length=n) (hs:a.eval s=v) (b:UInt8) (hb:af w g 5 #[.int .u8 (b.toNat:Int)]) (hx:a.eval x=.slice (A_ g 0) 1 1) (hlen:n<2^40)
  (hK:∀A cp w',lQ B w' (acc++[b]) (.slice A (n+1) cp)->Touch (λk=>v.ownBlock=some k) w w'->wpList Tryz.prog ops Q rest (a.put o.dst (.slice A (n+1) cp)) w'):wpList Tryz.prog ops Q (o::rest) a w:=by
 subst hn;obtain⟨ac,hOw⟩:=h;obtain⟨i,hi,hz0,hz1,hz2⟩:=info_parts Qn
 have own:∀v',w.ownsRow B 5 1 v' acc.length (Lib.byteCells acc)->v'=v->wpList Tryz.prog ops Q (o::rest) a w:=by
  intro v' h1 hv';subst hv';refine iL _ hgd s x 52 ho B 5 i _ 1 1 underlying52 hi hz0 hz1 hz2 rfl Pf v' acc.length (Lib.byteCells acc) hs h1 _ 1 _ hx asR aqU vG Zo ac λv2 w' ho' hgr hv2=>?_
  obtain⟨A,cp,rfl⟩:=mK ho';have ht:Touch (λk=>v'.ownBlock=some k) w w':=Touch.grown afD hgr λk hk=>.inl hk
  refine hK A cp w' ⟨au2 ac hgr.size,?_⟩ ht
  rcases ho'.2 with⟨h1,h2⟩|⟨g',cap,cur,h1,hB,hg',hn',hc',aa,Lm⟩
  .omega
  .refine .inr ⟨g',cap,cur,(0,0),by rw[h1,auZ];rfl,hB,hg',.inl rfl,by rw[auZ];exact hn',hc',by simpa using aa,?_⟩
   rw[auZ];simp only[Nat.mul_one]at Lm;rw[byteCells_snoc];exact Lm
 rcases hOw with⟨rfl,rfl⟩|⟨g',cap,cur,fz,rfl,hB,hg',an,hn',hc',aa,Lm⟩
 .exact own _ (World.ownsRow_nil _ _ _ _) rfl
 .by_cases hroom:acc.length+1<=cap
  .have hr:=LJ (P:=Tryz.prog) (ty:=o.type) underlying52 hi hz1 hg' an aa (B_ g 0) (.int .u8 (b.toNat:Int)) (by rw[hb.cell];rfl) rfl hroom
   refine wpList_plain hgd λK ab=>?_
   unfold Oper.wp execOp;simp only[ho,resolve,invoke,builtin,Sem.run_bind,Sem.run_pure,Result.andThen_ok,awW,avg,avI,hs,hx,hr];refine ab _ _ (hK (A_ g' 0) cap _ ⟨?_,.inr ⟨g',cap,cur.setIfInBounds acc.length (.int .u8 (b.toNat:Int)),fz,by rw[auZ];rfl,hB,?_,an,by rw[auZ];exact hroom,hc',by rw[Array.size_setIfInBounds];exact aa,?_⟩⟩ ?_)
   .simpa[World.setCell]using ac
   .simp[World.setCell,Array.getElem?_modify,hg']
   .rw[Array.toList_setIfInBounds,auZ,byteCells_snoc,<-Lm]
    show(cur.toList.set acc.length _).take (acc.length+1)=_;rw[avq,List.take_set_of_le (au3 _),List.getElem?_set_self (by simpa using(by omega:acc.length<cur.size))];rfl
   .exact(M (λk=>Value.ownBlock (.slice (A_ g' 0) acc.length cap)=some k) w).setCell (p:=B_ g' acc.length) Wh _
  .have ak:(Lib.byteCells acc).length=acc.length:=Lib.byteCells_length acc
   have holds:∀j u,(Lib.byteCells acc)[j]?=some u->w.cell? (((B_ g' 0):Addr).add j)=some u:=by
    intro j u hu;rw[Addr.add_mid,au8,cell_of_row w g' j cur 5 fz hg'];rw[<-Lm,List.getElem?_take]at hu;split at hu
    .simpa using hu
    .cases hu
   have ai:=grownCap_ge w (acc.length+1) cap 5;have hcm:grownCap w (acc.length+1) cap 5<=maxLen:=grownCap_le_maxLen w (acc.length+1) cap 5 vG
   have hr:=run_append_grow (P:=Tryz.prog) w 52 o.type 5 i _ underlying52 hi hz0 (B_ g' 0) acc.length cap (Lib.byteCells acc) (by rw[hz1,ak,Nat.mul_one]) holds (B_ g 0) 1 1 [.int .u8 (b.toNat:Int)] (by rw[hz1];rfl) (λj u hu=>by
    match j,hu with
    |0,hu=>cases hu;rw[Addr.add_mid,au8,hb.cell];rfl) Zo (by simp only[maxLen]at hc';omega) (by rw[hz2];exact growslice_fits Zo Zo)
   refine wpList_plain hgd λK ab=>?_
   unfold Oper.wp execOp;simp only[ho,resolve,invoke,builtin,Sem.run_bind,Sem.run_pure,Result.andThen_ok,awW,avg,avI,hs,hx,hr];refine ab _ _ (hK (A_ w.heap.size 0) _ _ ⟨?_,.inr ⟨w.heap.size,_,_,(0,0),by rw[auZ];rfl,ac,heap_alloc_new w.drew _,.inl rfl,by rw[auZ];exact ai,hcm,?_,?_⟩⟩ ?_)
   .have:(w.drew).heap.size=w.heap.size:=rfl
    simp
    omega
   .simp only[Array.size_append,List.size_toArray,size_zeroCells,ak]
    have:(Value.int IntKind.u8 0).cells.size=1:=rfl;simp only[au0,List.length_nil,this];omega
   .rw[auZ,byteCells_snoc,Array.toList_append,Array.toList_append]
    rw[aw9 (by simp[ak]),avv (by simp[ak])]
   .exact((M _ _).drewN 1).alloc _
end
theorem lQ.str{B:Nat}{w:W_}{acc:List UInt8}{A:Option Addr}{n cap:Nat}(h:lQ B w acc (.slice A n cap))(hn:acc.length=n):(convert 52 9 (.slice A n cap)).run Tryz.prog w=.ok (S_ acc) w:=by
 subst hn
 rcases h.2 with⟨h2,h1⟩|⟨g,cap',cur,fz,h1,hB,hg,_,_,_,_,Lm⟩
 .injection h1 with e1 e2 e3
  subst e1;subst h2;exact run_convert_bytes_nil w 52 5 underlying52 underlying5 _ _ _ underlying9
 .cases h1
  refine run_convert_bytes_back w 52 9 5 (B_ g 0) cap acc underlying52 underlying5 underlying9 λj hj=>?_
  rw[Addr.add_mid,au8,cell_of_row w g j cur 5 fz hg];have h3:(Lib.byteCells acc)[j]?=some (.int .u8 (acc[j].toNat:Int)):=by simp[Lib.byteCells,hj]
  rw[<-Lm,List.getElem?_take]at h3;rw[if_pos hj]at h3;simpa using h3
end
end Go.Proofs.YtabjglnjjdcfmaaGreatDoor
