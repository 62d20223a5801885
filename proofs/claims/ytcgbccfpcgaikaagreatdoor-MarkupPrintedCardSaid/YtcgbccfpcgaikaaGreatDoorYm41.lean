/- Part 41 of 46 of a proof. No condition. -/
import Derived.Test.YtcgbccfpcgaikaaGreatDoorYm40
set_option maxRecDepth 100000
set_option maxHeartbeats 2000000
namespace Go.Proofs.YtcgbccfpcgaikaaGreatDoor
section
open Go.RowKit
open Tr (Nd)
open Lx (aB)
open Np (R cZ kE eB eP dA bV fD di pArg)
attribute [local go_sem] gD stillUpon
theorem Np.Py{t:aB}{r l:List aB}{ks:List Nd}(h:Np.plainName t r=.ok ks l):ks.length=1:=by
 unfold Np.plainName at h;split at h<;>cases h
 rfl
theorem vG{α:Type}{x:R α}{g:α→List Nd}{ks:List Nd}{r:List aB}(hg:∀a,(g a).length=1)(h:x.map g=.ok ks r):ks.length=1:=by
 cases x<;>simp[Np.R.map,Np.R.bind]at h
 rw[←h.1];exact hg _
theorem Dq{α:Type}{x:R α}{g:α→List aB→R (List Nd)}{ks:List Nd}{r:List aB}(hg:∀a l,g a l=.ok ks r→ks.length=1)(h:x.bind g=.ok ks r):ks.length=1:=by
 cases x with
 |ok a l=>exact hg a l h
 |out=>cases h
theorem aaU{en f:Nat}{op:List Nat}{t:aB}{r l:List aB}{ks:List Nd}(h:fD en f op t r=.ok ks l):ks.length=1:=by
 cases f with
 |zero=>rw[fD]at h;cases h
 |succ f=>
  rw[fD]at h;split at h
  ·exact vG (fun _=>rfl) h
  ·split at h
   ·split at h
    ·exact Dq (fun a l h=>vG (fun _=>rfl) h) h
    ·exact vG (fun _=>rfl) h
   ·split at h
    ·split at h
     ·exact vG (fun _=>rfl) h
     ·cases h
    ·split at h
     ·exact vG (fun _=>rfl) h
     ·exact Np.Py h
theorem aaV{en f:Nat}{op:List Nat}{l r:List aB}{ks:List Nd}(hg:Np.dx 123 l=false)(h:dA en f op l=.ok ks r):ks.length=1:=by
 cases f with
 |zero=>rw[dA]at h;cases h
 |succ f=>
  cases l with
  |nil=>rw[dA]at h;cases h
  |cons t l=>
   rw[dA]at h;split at h
   ·cases h;rfl
   ·split at h
    ·exact aaU h
    ·split at h
     ·exact vG (fun _=>rfl) h
     ·split at h
      ·exact vG (fun _=>rfl) h
      ·split at h
       ·exact vG (fun _=>rfl) h
       ·rw[hg]at h
        cases h
theorem JY{g:Bool}{en:Nat}{base:List Nd}{x y:Option Nd}{l r:List aB}{ks:List Nd}(hb:g=false→base.length=1)(h:Np.scripts g en base x y l=.ok ks r):ks.length=1:=by
 unfold Np.scripts at h;split at h
 ·cases h;rfl
 ·cases h;rfl
 ·cases h;rfl
 ·cases g with
  |true=>cases h
  |false=>cases h;exact hb rfl
theorem aaW{en f:Nat}{op:List Nat}{l r:List aB}{ks:List Nd}(h:eP en f op l=.ok ks r):ks.length=1:=by
 cases f with
 |zero=>rw[eP]at h;cases h
 |succ f=>
  rw[eP]at h;cases hp:dA en f op l with
  |out=>rw[hp]at h;cases h
  |ok base r1=>
   rw[hp]at h;have hb:Np.dx 123 l=false→base.length=1:=fun hg=>aaV hg hp
   refine Dq (fun sub r h=>Dq (fun sup r h=>?_) h) (show(eB en f 95 op r1).bind _=_ from h);split at h
   ·exact Dq (fun sub r h=>JY hb h) h
   ·exact JY hb h
theorem aP.single{B:Nat}{W:World}{x:Nd}{v:Value}(h:aP B W [x] v):∃sl,Src W 4 v 1 [.int .i64 x.kind,.string ⟨x.text.toArray⟩,.int .i64 x.ah,sl]∧aP B W x.kids sl∧x.text.length≤maxLen:=by
 obtain⟨cs,⟨sl,ds,h1,h2,h3⟩,h4⟩:=h.src;rw[show ds=[]from h3]at h1;subst h1;exact⟨sl,h4,h2⟩
def Jp:Value→Nat
 |.slice _ n _=>n
 |_=>0
theorem ahr(c:Cf)(hc:c.Good)(F:Nat)(hF:F≤1000000)(ad7:∀f',f'<F→PW c f'):Nq c F:=by
 intro k op w h hop hne;obtain⟨i,hi,hz0,hz1,hz2⟩:=info_parts IG;have HIT:=hid ad7;have HT:=hid (fun(k':Nat) (w':World) (hp:Ps c k' op w')=>qO c hc k' op w' hp);have HA:=hid (fun(b:UInt8) (k':Nat) (w':World) (hp:Ps c k' op w')=>vE c hc k' op b w' hp);have aju:=hid hc.knz;have htl:=hc.tl;have H:=hid h;have oJ:=hid hop;have Et:=hid hF;have hgl:c.g<w.heap.size:=h.Ap;have HW0:=hid h.low.size;have aY:=hid hne;refine Calls.via fun Q hQ=>?_
 have HQ:=hid hQ;clear hne ad7 h hop hc hQ hF;generalize hX:cZ c.en F op (c.T.drop k)=X at aY HQ;have HX:=hid hX;clear hX;unfold lV;go_enter Tryz.func32,Tryz.ntmps32;go_wp2_with fail
 have hf1:ag w (w.alloc (.cells #[.int .i64 0,.int .i64 0] 49)):=(M _ _).alloc _;have hbf:af (w.alloc (.cells #[.int .i64 0,.int .i64 0] 49)) w.heap.size 49 #[.int .i64 0,.int .i64 0]:=af.new _ _ _;have Cw:(w.alloc (.cells #[.int .i64 0,.int .i64 0] 49)).heap.size=w.heap.size+1:=by simp
 generalize (w.alloc (.cells #[.int .i64 0,.int .i64 0] 49))=W1 at hf1 hbf Cw⊢;have aK:=hid hf1;have tL:=hid hbf;have xq:=hid Cw;clear hf1 hbf Cw
 go_loopw [4] (fun j wr=>∃(k1:Nat) (ks:List Nd) (A:Option Addr) (cp:Nat),j=.slice A ks.length cp∧Hd (af wr w.heap.size 49 #[.int .i64 0,.int .i64 0])∧Hd (Grow (fun _=>False) wr w.heap.size W1.heap.size ks (.slice A ks.length cp))∧Hd (Ps c k1 op wr)∧k≤k1∧Hd (Mp c.g c.W0.heap.size w wr)∧W1.heap.size≤wr.heap.size∧ks.length≤F∧Hd (X=(cZ c.en (F-ks.length) op (c.T.drop k1)).map fun l=>ks++l)) (fun j _=>F-Jp j)
 case atStart=>
  refine⟨k,[],none,0,rfl,tL,Grow.nil _ _ _ _,H.out.fresh aK.out,Nat.le_refl _,Mp.fresh aK.out,Nat.le_refl _,Nat.zero_le _,?_⟩;unfold Hd;rw[←HX.out,List.length_nil,Nat.sub_zero];cases cZ c.en F op (c.T.drop k)<;>rfl
 case round=>
  obtain⟨k1,ks,A,cp,rfl,jg,HG,HP,hkk,HM,hsz,hle,rO⟩:=hrel
  obtain⟨f',hf'⟩:∃f',F-ks.length=f'+1:=by
   rcases Nat.eq_zero_or_pos (F-ks.length)with h0|h0
   ·exfalso
    have h1:=rO.out;rw[h0,cZ]at h1;exact aY.out h1
   ·exact⟨F-ks.length-1,by omega⟩
  have kX:=hid (show X=(cZ c.en (f'+1) op (c.T.drop k1)).map fun l=>ks++l from by rw[rO.out,hf']);have CE:=hid hf';have AJ:=hid hle;have HKK:=hid hkk;have xI:=hid hsz;have hlr:w.heap.size<wr.heap.size:=jg.out.lt;have HGL:=hid (show c.g<wr.heap.size from Nat.lt_trans hgl hlr);clear rO hf' hle hkk hsz;have HT1:=hid (HT.out k1 wr HP.out);have HA1:=hid (fun(b:UInt8) (w':World) (hf:ag wr w')=>HA.out b k1 w' (HP.out.fresh hf));cases hl:c.T.drop k1 with
  |nil=>
   rw[hl]at HT1;unfold yK at HT1
   dsimp only at HT1
   have HL:=hid hl;clear hl
   rcases List.eq_nil_or_concat op with Ny|⟨op',x,Ny⟩
   ·have Eu:=hid (show X=.ok ks (c.T.drop k1)from by
     rw[kX.out,HL.out,cZ,Ny];simp[Np.R.map,Np.R.bind])
    obtain⟨ov,hb,ho⟩:=HP.out.box;obtain⟨Ao,co,rfl⟩:=mK ho;rw[Ny,List.length_nil]at hb;have HB:=hid hb;clear hb ho Ny;go_wp2_with fail
    refine HT1.out.mono ?_;rintro _ w1 ⟨rfl,hf⟩;have gL:=hid hf;have ql:=hid (gL.out.blk jg.out fun h=>h);have hb1:=hf.blk HB.out fun h=>h
    have q3:=hb1.cell 3;have hg1:=hb1.lt;obtain⟨p0,p1,y0,y1,hlt⟩:=af.two ql.out;clear hf hb1;go_wp2_with fail
    have htr:=(((HG.out.tree (by have:=xq.out;omega)).fresh gL.out).other ql.out (by decide) (dS w1 w.heap.size (.int .i64 0) (.int .i64 0))).fresh ((M _ _).alloc (.cells #[.int .i64 0,.string ⟨#[]⟩,.int .i64 (c.en:Int),.int .i64 (c.en:Int)] 115));have hps:=((HP.out.fresh gL.out).aH ql.out (by decide) (by omega) HW0.out (.int .i64 0) (.int .i64 0)).fresh ((M _ _).alloc (.cells #[.int .i64 0,.string ⟨#[]⟩,.int .i64 (c.en:Int),.int .i64 (c.en:Int)] 115));have pq:Mp c.g c.W0.heap.size w _:=((HM.out.fr gL.out).aH (g:=w.heap.size) (.inr (Nat.le_refl _)) (.int .i64 0) (.int .i64 0)).alloc (.cells #[.int .i64 0,.string ⟨#[]⟩,.int .i64 (c.en:Int),.int .i64 (c.en:Int)] 115);have kD:=((ql.out).fT (.int .i64 0) (.int .i64 0)).alloc (.cells #[.int .i64 0,.string ⟨#[]⟩,.int .i64 (c.en:Int),.int .i64 (c.en:Int)] 115);obtain⟨f0,f1,_⟩:=af.two kD;simp only[aH]at htr hps pq f0 f1
    (try simp only[Exit.inBlock,Exit.then])
    refine bodyPost_ret (v:=.tuple #[.slice A ks.length cp,aG 0 0]) (by simp[aG,results,Tryz.results32,go_sem,f0,f1]) rfl ?_;rw[Eu.out]at HQ;exact HQ.out _ _ ⟨A,cp,k1,rfl,htr,rfl,HKK.out,hps,pq⟩
   ·rw[List.concat_eq_append]at Ny
    obtain⟨ov,hb,ho⟩:=HP.out.box
    exact absurd (show X=.out from by
     rw[kX.out,HL.out,cZ,if_pos ⟨rfl,by rw[Ny];simp⟩];rfl) aY.out
  |cons t r=>
   rw[hl]at HT1;unfold yK at HT1
   dsimp only at HT1
   have HL:=hid hl;have hmem:t∈c.T:=List.mem_of_mem_drop (i:=k1) (by rw[hl];simp);have hk0:=aju.out t hmem;have e0:((t.kind:Int)==0)=false:=by rw[beq_eq_false_iff_ne];omega
   have e0p:¬((t.kind:Int)=0):=by omega
   have HXC:=hid (show Np.stops (t::r)=true→X=.ok ks (c.T.drop k1)from fun hs=>by
    rw[kX.out,HL.out,cZ,if_neg (by simp),if_pos (.inr hs)];simp[Np.R.map,Np.R.bind])
   clear hl hmem hk0
   by_cases h8:t.kind=8
   ·have Eu:=hid (HXC.out (by simp[Np.stops,Np.j5,h8]))
    rw[show((t.kind:Nat):Int)=8 from by omega]at HT1;clear h8 e0 e0p;go_wp2_with fail
    refine HT1.out.mono ?_;rintro _ w1 ⟨rfl,hf⟩;have gL:=hid hf;have ql:=hid (gL.out.blk jg.out fun h=>h);clear hf;obtain⟨p0,p1,y0,y1,hlt⟩:=af.two ql.out;go_wp2_with fail
    have htr:=(((HG.out.tree (by have:=xq.out;omega)).fresh gL.out).other ql.out (by decide) (dS w1 w.heap.size (.int .i64 0) (.int .i64 0))).fresh ((M _ _).alloc (.cells #[.int .i64 8,.string ⟨t.text.toArray⟩,.int .i64 (t.from_:Int),.int .i64 (t.eF:Int)] 115));have hps:=((HP.out.fresh gL.out).aH ql.out (by decide) (by omega) HW0.out (.int .i64 0) (.int .i64 0)).fresh ((M _ _).alloc (.cells #[.int .i64 8,.string ⟨t.text.toArray⟩,.int .i64 (t.from_:Int),.int .i64 (t.eF:Int)] 115));have pq:Mp c.g c.W0.heap.size w _:=((HM.out.fr gL.out).aH (g:=w.heap.size) (.inr (Nat.le_refl _)) (.int .i64 0) (.int .i64 0)).alloc (.cells #[.int .i64 8,.string ⟨t.text.toArray⟩,.int .i64 (t.from_:Int),.int .i64 (t.eF:Int)] 115);have kD:=((ql.out).fT (.int .i64 0) (.int .i64 0)).alloc (.cells #[.int .i64 8,.string ⟨t.text.toArray⟩,.int .i64 (t.from_:Int),.int .i64 (t.eF:Int)] 115);obtain⟨f0,f1,_⟩:=af.two kD;simp only[aH]at htr hps pq f0 f1
    (try simp only[Exit.inBlock,Exit.then])
    refine bodyPost_ret (v:=.tuple #[.slice A ks.length cp,aG 0 0]) (by simp[aG,results,Tryz.results32,go_sem,f0,f1]) rfl ?_;rw[Eu.out]at HQ;exact HQ.out _ _ ⟨A,cp,k1,rfl,htr,rfl,HKK.out,hps,pq⟩
   ·have e8:=uH _ 8 h8
    have e8p:¬((t.kind:Int)=8):=by omega
    have H8:=hid (show Np.j5 (t::r)=false from by simp[Np.j5,h8]);clear h8;go_wp2_with fail
    refine HT1.out.mono ?_;rintro _ w1 ⟨rfl,hf⟩;have gL:=hid hf;have ql:=hid (gL.out.blk jg.out fun h=>h);clear hf;go_wp2_with fail
    refine(HA1.out 41 _ (gL.out.alloc (.cells #[.int .i64 (t.kind:Int),.string ⟨t.text.toArray⟩,.int .i64 (t.from_:Int),.int .i64 (t.eF:Int)] 115))).mono ?_;rw[HL.out];rintro _ w2 ⟨rfl,hf⟩;have bW:=hid ((gL.out.alloc (.cells #[.int .i64 (t.kind:Int),.string ⟨t.text.toArray⟩,.int .i64 (t.from_:Int),.int .i64 (t.eF:Int)] 115)).trans hf);have HB2:=hid (hf.blk (ql.out.alloc (.cells #[.int .i64 (t.kind:Int),.string ⟨t.text.toArray⟩,.int .i64 (t.from_:Int),.int .i64 (t.eF:Int)] 115)) fun h=>h);clear hf;cases m41:Np.dx 41 (t::r)with
    |true=>
     have Eu:=hid (HXC.out (by simp[Np.stops,m41]));obtain⟨p0,p1,y0,y1,hlt⟩:=af.two HB2.out;go_wp2_with fail
     have htr:=(((HG.out.tree (by have:=xq.out;omega)).fresh bW.out).other HB2.out (by decide) (dS w2 w.heap.size (.int .i64 0) (.int .i64 0)));have hps:=((HP.out.fresh bW.out).aH HB2.out (by decide) (by omega) HW0.out (.int .i64 0) (.int .i64 0));have pq:Mp c.g c.W0.heap.size w _:=((HM.out.fr bW.out).aH (g:=w.heap.size) (.inr (Nat.le_refl _)) (.int .i64 0) (.int .i64 0));have kD:=((HB2.out).fT (.int .i64 0) (.int .i64 0));obtain⟨f0,f1,_⟩:=af.two kD;simp only[aH]at htr hps pq f0 f1
     (try simp only[Exit.inBlock,Exit.then])
     refine bodyPost_ret (v:=.tuple #[.slice A ks.length cp,aG 0 0]) (by simp[aG,results,Tryz.results32,go_sem,f0,f1]) rfl ?_;rw[Eu.out]at HQ;exact HQ.out _ _ ⟨A,cp,k1,rfl,htr,rfl,HKK.out,hps,pq⟩
    |false=>
     go_wp2_with fail
     refine(HA1.out 93 _ bW.out).mono ?_;rw[HL.out];rintro _ w3 ⟨rfl,hf⟩;have bJ:=hid (bW.out.trans hf);have HB3:=hid (hf.blk HB2.out fun h=>h);clear hf;cases m93:Np.dx 93 (t::r)with
     |true=>
      have Eu:=hid (HXC.out (by simp[Np.stops,m93]));obtain⟨p0,p1,y0,y1,hlt⟩:=af.two HB3.out;go_wp2_with fail
      have htr:=(((HG.out.tree (by have:=xq.out;omega)).fresh bJ.out).other HB3.out (by decide) (dS w3 w.heap.size (.int .i64 0) (.int .i64 0)));have hps:=((HP.out.fresh bJ.out).aH HB3.out (by decide) (by omega) HW0.out (.int .i64 0) (.int .i64 0));have pq:Mp c.g c.W0.heap.size w _:=((HM.out.fr bJ.out).aH (g:=w.heap.size) (.inr (Nat.le_refl _)) (.int .i64 0) (.int .i64 0));have kD:=((HB3.out).fT (.int .i64 0) (.int .i64 0));obtain⟨f0,f1,_⟩:=af.two kD;simp only[aH]at htr hps pq f0 f1
      (try simp only[Exit.inBlock,Exit.then])
      refine bodyPost_ret (v:=.tuple #[.slice A ks.length cp,aG 0 0]) (by simp[aG,results,Tryz.results32,go_sem,f0,f1]) rfl ?_;rw[Eu.out]at HQ;exact HQ.out _ _ ⟨A,cp,k1,rfl,htr,rfl,HKK.out,hps,pq⟩
     |false=>
      go_wp2_with fail
      refine(HA1.out 125 _ bJ.out).mono ?_;rw[HL.out];rintro _ w4 ⟨rfl,hf⟩;have eZ:=hid (bJ.out.trans hf);have iB:=hid (hf.blk HB3.out fun h=>h);clear hf;cases IX:Np.dx 125 (t::r)with
      |true=>
       have Eu:=hid (HXC.out (by simp[Np.stops,IX]));obtain⟨p0,p1,y0,y1,hlt⟩:=af.two iB.out;go_wp2_with fail
       have htr:=(((HG.out.tree (by have:=xq.out;omega)).fresh eZ.out).other iB.out (by decide) (dS w4 w.heap.size (.int .i64 0) (.int .i64 0)));have hps:=((HP.out.fresh eZ.out).aH iB.out (by decide) (by omega) HW0.out (.int .i64 0) (.int .i64 0));have pq:Mp c.g c.W0.heap.size w _:=((HM.out.fr eZ.out).aH (g:=w.heap.size) (.inr (Nat.le_refl _)) (.int .i64 0) (.int .i64 0));have kD:=((iB.out).fT (.int .i64 0) (.int .i64 0));obtain⟨f0,f1,_⟩:=af.two kD;simp only[aH]at htr hps pq f0 f1
       (try simp only[Exit.inBlock,Exit.then])
       refine bodyPost_ret (v:=.tuple #[.slice A ks.length cp,aG 0 0]) (by simp[aG,results,Tryz.results32,go_sem,f0,f1]) rfl ?_;rw[Eu.out]at HQ;exact HQ.out _ _ ⟨A,cp,k1,rfl,htr,rfl,HKK.out,hps,pq⟩
      |false=>
       go_wp2_with fail
       refine(HA1.out 38 _ eZ.out).mono ?_;rw[HL.out];rintro _ w5 ⟨rfl,hf⟩;have eY:=hid (eZ.out.trans hf);have eO:=hid (hf.blk iB.out fun h=>h);clear hf;cases OX:Np.dx 38 (t::r)with
       |true=>
        have Eu:=hid (HXC.out (by simp[Np.stops,OX]));obtain⟨p0,p1,y0,y1,hlt⟩:=af.two eO.out;go_wp2_with fail
        have htr:=(((HG.out.tree (by have:=xq.out;omega)).fresh eY.out).other eO.out (by decide) (dS w5 w.heap.size (.int .i64 0) (.int .i64 0)));have hps:=((HP.out.fresh eY.out).aH eO.out (by decide) (by omega) HW0.out (.int .i64 0) (.int .i64 0));have pq:Mp c.g c.W0.heap.size w _:=((HM.out.fr eY.out).aH (g:=w.heap.size) (.inr (Nat.le_refl _)) (.int .i64 0) (.int .i64 0));have kD:=((eO.out).fT (.int .i64 0) (.int .i64 0));obtain⟨f0,f1,_⟩:=af.two kD;simp only[aH]at htr hps pq f0 f1
        (try simp only[Exit.inBlock,Exit.then])
        refine bodyPost_ret (v:=.tuple #[.slice A ks.length cp,aG 0 0]) (by simp[aG,results,Tryz.results32,go_sem,f0,f1]) rfl ?_;rw[Eu.out]at HQ;exact HQ.out _ _ ⟨A,cp,k1,rfl,htr,rfl,HKK.out,hps,pq⟩
       |false=>
        go_wp2_with fail
        have HNS:=hid (show Np.stops (t::r)=false from by simp[Np.stops,H8.out,m41,m93,IX,OX])
        have HXI:=hid (show X=((eP c.en f' op (c.T.drop k1)).bind fun more r=>(cZ c.en f' op r).map fun items=>more++items).map fun l=>ks++l from by
         rw[kX.out,HL.out,cZ,if_neg (by simp),if_neg (by simp[HNS.out])])
        refine(HIT.out f' (by have:=CE.out;omega) k1 op w5 (HP.out.fresh eY.out) (by have:=oJ.out;have:=HKK.out;omega) (fun h=>aY.out (by rw[HXI.out,h];rfl))).mono ?_;intro e w6 hres;have hone:∀items rest,eP c.en f' op (c.T.drop k1)=.ok items rest→items.length=1:=fun items rest h=>aaW h
        have hparts:=hres.parts (fun h=>aY.out (by rw[HXI.out,h];rfl));clear hres;generalize eP c.en f' op (c.T.drop k1)=Y at HXI hparts hone;obtain⟨A1,n1,uo,i1,er1,rfl,hm,hend⟩:=hparts;have Dp:=hid ((HM.out.fr eY.out).trans hm);have gy:=hid (hm.blk eO.out (by omega) (by decide));have AO:=hid (show w.heap.size<w6.heap.size from gy.out.lt);have JX:=hid hm;have HD5:=hid eY.out;clear hm;obtain⟨items,rest,k',rfl,rfl,rfl,rfl,htr,hdr,IJ,hp⟩:=hend;have hl1:=hone items rest rfl;clear hone
        obtain⟨x,rfl⟩:∃x,items=[x]:=by
         cases items with
         |nil=>simp at hl1
         |cons x l=>
          cases l with
          |nil=>exact⟨x,rfl⟩
          |cons y l=>simp at hl1
        clear hl1
        have HXN:=hid (show X=(cZ c.en f' op (c.T.drop k')).map fun l=>(ks++[x])++l from by
         rw[HXI.out,hdr];show R.map (R.map (cZ c.en f' op rest) (fun items=>[x]++items)) (fun l=>ks++l)=R.map (cZ c.en f' op rest) _;cases cZ c.en f' op rest<;>simp[Np.R.map,Np.R.bind])
        obtain⟨sl,hsrc,agJ,htx⟩:=htr.single;have ajv:=hid hsrc;have ajw:=hid agJ;have kJ:=hid htx;have pg:=hid hp;have uP:=hid IJ;have wK:=hid (show Grow (fun _=>False) w6 w.heap.size W1.heap.size ks (.slice A ks.length cp)from(HG.out.fresh eY.out).mv JX.out (by have:=xq.out;omega) (fun _ h=>h.elim) (fun b hb=>.inr (.inr (PT.Sd (HP.out.fresh eY.out) hb))))
        have HOB:=hid (show∀b,(Value.slice A ks.length cp).ownBlock=some b→b<w5.heap.size from fun b hb=>by
         obtain⟨cs,h1,_⟩:=HG.out;obtain⟨_,cur,h4⟩:=fe h1 hb;exact Nat.lt_of_lt_of_le (Array.getElem?_eq_some_iff.1 h4).1 eY.out.size)
        clear hdr htr hsrc agJ htx hp IJ;unfold aG
        go_wp2_with (at_builtin;refine vF rfl (.tmp 71) (.tmp 72) rfl i _ hi hz0 hz1 hz2 rfl (B0:=w.heap.size) (B:=W1.heap.size) (B1:=w5.heap.size) (ks:=ks) (v:=.slice A ks.length cp) (y:=.slice A1 1 uo) (wK.out.fresh ((M _ _).alloc _)) (by simp[Act.eval]) x sl (by simp[Act.eval]) (ajv.out.fresh ((M _ _).alloc _)) (ajw.out.fresh ((M _ _).alloc _)) (by have:=HD5.out.size;omega) (fun _ h=>h.elim) HOB.out kJ.out (by have:=Et.out;have:=AJ.out;omega) (by have:=xI.out;have:=HD5.out.size;have:=JX.out.size;simp;omega) ?_;intro A8 fq W8 jI bR;refine jw.mk ?_)
        have hlen:(ks++[x]).length=ks.length+1:=by simp
        have um:=bR.ps (pg.out.fresh ((M _ _).alloc (.cells #[.int .i64 0,.int .i64 0] 49))) (by have:=xq.out;have:=HW0.out;omega) (by have:=xq.out;omega);have xO:=bR.mp (Dp.out.fr ((M _ _).alloc (.cells #[.int .i64 0,.int .i64 0] 49))) (by have:=xq.out;omega);have o9:=bR.KM (gy.out.alloc (.cells #[.int .i64 0,.int .i64 0] 49)) (by have:=xq.out;omega);have hs8:W1.heap.size≤W8.heap.size:=by have:=bR.size;have:=xI.out;have:=HD5.out.size;have:=JX.out.size;simp at*;omega
        refine jw.go ?_;go_wp2
        refine⟨⟨k',ks++[x],A8,fq,by rw[hlen],o9,by rw[hlen];exact jI,um,Nat.le_trans HKK.out uP.out,xO,hs8,by have:=CE.out;omega,?_⟩,by simp[Jp];have:=CE.out;omega⟩;unfold Hd;rw[hlen,show F-(ks.length+1)=f' from by have:=CE.out;omega];exact HXN.out
end
end Go.Proofs.YtcgbccfpcgaikaaGreatDoor
