/- Part 43 of 46 of a proof. No condition. -/
import Derived.Test.YtcgbccfpcgaikaaGreatDoorYm42
import Derived.Test.YtcgbccfpcgaikaaGreatDoorYm14
set_option maxRecDepth 100000
set_option maxHeartbeats 2000000
namespace Go.Proofs.YtcgbccfpcgaikaaGreatDoor
section
open Go.RowKit
open Tr (Nd)
open Lx (aB)
theorem aa1(A:Option Addr)(n cp en:Nat)(w:World):Calls Tryz.prog 31 #[.slice A n cp,.int .i64 (en:Int),.pointer none,.int .i64 0] w fun e w'=>
  e=.returned (.pointer (some ⟨w.heap.size,0,none⟩))∧ag w w'∧af w' w.heap.size 86 #[.slice A n cp,.int .i64 0,.int .i64 (en:Int),.slice none 0 0,.pointer none,.int .i64 0,.map (some (w.heap.size+1)),.int .i64 0,.bool false]∧w'.heap[w.heap.size+1]?=some (.map (rJ w.heap.size).toArray 9):=by
 have hmf:∀(fn:Fn) (first cap:Array Value) (w:World),(Instr.makeFunc fn first cap).run Tryz.prog w=.ok (.func fn first cap) w:=fun _ _ _ _=>rfl
 have hmm:∀W:World,(Instr.makeMap 84 none).run Tryz.prog W=.ok (.map (some W.heap.size)) (W.alloc (.map #[] 0)):=fun W=>run_makeMap_plain W 84
 have hsz:(w.alloc (.cells #[.slice A n cp,.int .i64 0,.int .i64 (en:Int),.slice none 0 0,.pointer none,.int .i64 0,.map none,.int .i64 0,.bool false] 86)).heap.size=w.heap.size+1:=by simp
 have h0:(Instr.mapUpdate 84 (.map (some (w.heap.size+1))) (.string ⟨#[102,114,97,99]⟩) (.func (.func 66) #[.pointer (some ⟨w.heap.size,0,none⟩)] #[])).run Tryz.prog ((w.alloc (.cells #[.slice A n cp,.int .i64 0,.int .i64 (en:Int),.slice none 0 0,.pointer none,.int .i64 0,.map none,.int .i64 0,.bool false] 86)).alloc (.map #[] 0))=.ok () ((w.alloc (.cells #[.slice A n cp,.int .i64 0,.int .i64 (en:Int),.slice none 0 0,.pointer none,.int .i64 0,.map none,.int .i64 0,.bool false] 86)).alloc (.map (uq w.heap.size 1).toArray 1)):=by
  have:=Bg (w.alloc (.cells #[.slice A n cp,.int .i64 0,.int .i64 (en:Int),.slice none 0 0,.pointer none,.int .i64 0,.map none,.int .i64 0,.bool false] 86)) w.heap.size 0 [102,114,97,99] 66 rfl rfl;rw[hsz]at this;exact this
 have h1:(Instr.mapUpdate 84 (.map (some (w.heap.size+1))) (.string ⟨#[114,111,111,116]⟩) (.func (.func 67) #[.pointer (some ⟨w.heap.size,0,none⟩)] #[])).run Tryz.prog ((w.alloc (.cells #[.slice A n cp,.int .i64 0,.int .i64 (en:Int),.slice none 0 0,.pointer none,.int .i64 0,.map none,.int .i64 0,.bool false] 86)).alloc (.map (uq w.heap.size 1).toArray 1))=.ok () ((w.alloc (.cells #[.slice A n cp,.int .i64 0,.int .i64 (en:Int),.slice none 0 0,.pointer none,.int .i64 0,.map none,.int .i64 0,.bool false] 86)).alloc (.map (uq w.heap.size 2).toArray 2)):=by
  have:=Bg (w.alloc (.cells #[.slice A n cp,.int .i64 0,.int .i64 (en:Int),.slice none 0 0,.pointer none,.int .i64 0,.map none,.int .i64 0,.bool false] 86)) w.heap.size 1 [114,111,111,116] 67 rfl rfl;rw[hsz]at this;exact this
 have h2:(Instr.mapUpdate 84 (.map (some (w.heap.size+1))) (.string ⟨#[109,97,116,114,105,120]⟩) (.func (.func 68) #[.pointer (some ⟨w.heap.size,0,none⟩)] #[])).run Tryz.prog ((w.alloc (.cells #[.slice A n cp,.int .i64 0,.int .i64 (en:Int),.slice none 0 0,.pointer none,.int .i64 0,.map none,.int .i64 0,.bool false] 86)).alloc (.map (uq w.heap.size 2).toArray 2))=.ok () ((w.alloc (.cells #[.slice A n cp,.int .i64 0,.int .i64 (en:Int),.slice none 0 0,.pointer none,.int .i64 0,.map none,.int .i64 0,.bool false] 86)).alloc (.map (uq w.heap.size 3).toArray 3)):=by
  have:=Bg (w.alloc (.cells #[.slice A n cp,.int .i64 0,.int .i64 (en:Int),.slice none 0 0,.pointer none,.int .i64 0,.map none,.int .i64 0,.bool false] 86)) w.heap.size 2 [109,97,116,114,105,120] 68 rfl rfl;rw[hsz]at this;exact this
 have h3:(Instr.mapUpdate 84 (.map (some (w.heap.size+1))) (.string ⟨#[104,97,116]⟩) (.func (.func 69) #[.pointer (some ⟨w.heap.size,0,none⟩)] #[])).run Tryz.prog ((w.alloc (.cells #[.slice A n cp,.int .i64 0,.int .i64 (en:Int),.slice none 0 0,.pointer none,.int .i64 0,.map none,.int .i64 0,.bool false] 86)).alloc (.map (uq w.heap.size 3).toArray 3))=.ok () ((w.alloc (.cells #[.slice A n cp,.int .i64 0,.int .i64 (en:Int),.slice none 0 0,.pointer none,.int .i64 0,.map none,.int .i64 0,.bool false] 86)).alloc (.map (uq w.heap.size 4).toArray 4)):=by
  have:=Bg (w.alloc (.cells #[.slice A n cp,.int .i64 0,.int .i64 (en:Int),.slice none 0 0,.pointer none,.int .i64 0,.map none,.int .i64 0,.bool false] 86)) w.heap.size 3 [104,97,116] 69 rfl rfl;rw[hsz]at this;exact this
 have h4:(Instr.mapUpdate 84 (.map (some (w.heap.size+1))) (.string ⟨#[98,97,114]⟩) (.func (.func 69) #[.pointer (some ⟨w.heap.size,0,none⟩)] #[])).run Tryz.prog ((w.alloc (.cells #[.slice A n cp,.int .i64 0,.int .i64 (en:Int),.slice none 0 0,.pointer none,.int .i64 0,.map none,.int .i64 0,.bool false] 86)).alloc (.map (uq w.heap.size 4).toArray 4))=.ok () ((w.alloc (.cells #[.slice A n cp,.int .i64 0,.int .i64 (en:Int),.slice none 0 0,.pointer none,.int .i64 0,.map none,.int .i64 0,.bool false] 86)).alloc (.map (uq w.heap.size 5).toArray 5)):=by
  have:=Bg (w.alloc (.cells #[.slice A n cp,.int .i64 0,.int .i64 (en:Int),.slice none 0 0,.pointer none,.int .i64 0,.map none,.int .i64 0,.bool false] 86)) w.heap.size 4 [98,97,114] 69 rfl rfl;rw[hsz]at this;exact this
 have h5:(Instr.mapUpdate 84 (.map (some (w.heap.size+1))) (.string ⟨#[118,101,99]⟩) (.func (.func 69) #[.pointer (some ⟨w.heap.size,0,none⟩)] #[])).run Tryz.prog ((w.alloc (.cells #[.slice A n cp,.int .i64 0,.int .i64 (en:Int),.slice none 0 0,.pointer none,.int .i64 0,.map none,.int .i64 0,.bool false] 86)).alloc (.map (uq w.heap.size 5).toArray 5))=.ok () ((w.alloc (.cells #[.slice A n cp,.int .i64 0,.int .i64 (en:Int),.slice none 0 0,.pointer none,.int .i64 0,.map none,.int .i64 0,.bool false] 86)).alloc (.map (uq w.heap.size 6).toArray 6)):=by
  have:=Bg (w.alloc (.cells #[.slice A n cp,.int .i64 0,.int .i64 (en:Int),.slice none 0 0,.pointer none,.int .i64 0,.map none,.int .i64 0,.bool false] 86)) w.heap.size 5 [118,101,99] 69 rfl rfl;rw[hsz]at this;exact this
 have h6:(Instr.mapUpdate 84 (.map (some (w.heap.size+1))) (.string ⟨#[100,111,116]⟩) (.func (.func 69) #[.pointer (some ⟨w.heap.size,0,none⟩)] #[])).run Tryz.prog ((w.alloc (.cells #[.slice A n cp,.int .i64 0,.int .i64 (en:Int),.slice none 0 0,.pointer none,.int .i64 0,.map none,.int .i64 0,.bool false] 86)).alloc (.map (uq w.heap.size 6).toArray 6))=.ok () ((w.alloc (.cells #[.slice A n cp,.int .i64 0,.int .i64 (en:Int),.slice none 0 0,.pointer none,.int .i64 0,.map none,.int .i64 0,.bool false] 86)).alloc (.map (uq w.heap.size 7).toArray 7)):=by
  have:=Bg (w.alloc (.cells #[.slice A n cp,.int .i64 0,.int .i64 (en:Int),.slice none 0 0,.pointer none,.int .i64 0,.map none,.int .i64 0,.bool false] 86)) w.heap.size 6 [100,111,116] 69 rfl rfl;rw[hsz]at this;exact this
 have h7:(Instr.mapUpdate 84 (.map (some (w.heap.size+1))) (.string ⟨#[116,105,108,100,101]⟩) (.func (.func 69) #[.pointer (some ⟨w.heap.size,0,none⟩)] #[])).run Tryz.prog ((w.alloc (.cells #[.slice A n cp,.int .i64 0,.int .i64 (en:Int),.slice none 0 0,.pointer none,.int .i64 0,.map none,.int .i64 0,.bool false] 86)).alloc (.map (uq w.heap.size 7).toArray 7))=.ok () ((w.alloc (.cells #[.slice A n cp,.int .i64 0,.int .i64 (en:Int),.slice none 0 0,.pointer none,.int .i64 0,.map none,.int .i64 0,.bool false] 86)).alloc (.map (uq w.heap.size 8).toArray 8)):=by
  have:=Bg (w.alloc (.cells #[.slice A n cp,.int .i64 0,.int .i64 (en:Int),.slice none 0 0,.pointer none,.int .i64 0,.map none,.int .i64 0,.bool false] 86)) w.heap.size 7 [116,105,108,100,101] 69 rfl rfl;rw[hsz]at this;exact this
 have h8:(Instr.mapUpdate 84 (.map (some (w.heap.size+1))) (.string ⟨#[99,104,101,99,107]⟩) (.func (.func 69) #[.pointer (some ⟨w.heap.size,0,none⟩)] #[])).run Tryz.prog ((w.alloc (.cells #[.slice A n cp,.int .i64 0,.int .i64 (en:Int),.slice none 0 0,.pointer none,.int .i64 0,.map none,.int .i64 0,.bool false] 86)).alloc (.map (uq w.heap.size 8).toArray 8))=.ok () ((w.alloc (.cells #[.slice A n cp,.int .i64 0,.int .i64 (en:Int),.slice none 0 0,.pointer none,.int .i64 0,.map none,.int .i64 0,.bool false] 86)).alloc (.map (uq w.heap.size 9).toArray 9)):=by
  have:=Bg (w.alloc (.cells #[.slice A n cp,.int .i64 0,.int .i64 (en:Int),.slice none 0 0,.pointer none,.int .i64 0,.map none,.int .i64 0,.bool false] 86)) w.heap.size 8 [99,104,101,99,107] 69 rfl rfl;rw[hsz]at this;exact this
 clear hsz;go_enter Tryz.func31,Tryz.ntmps31;go_wp2
 go_ret;refine⟨rfl,((M _ w).alloc _).alloc _,(af.new w 86 #[.slice A n cp,.int .i64 0,.int .i64 (en:Int),.slice none 0 0,.pointer none,.int .i64 0,.map (some (w.heap.size+1)),.int .i64 0,.bool false]).alloc _,?_⟩;have:=heap_alloc_new (w.alloc (.cells #[.slice A n cp,.int .i64 0,.int .i64 (en:Int),.slice none 0 0,.pointer none,.int .i64 0,.map (some (w.heap.size+1)),.int .i64 0,.bool false] 86)) (.map (uq w.heap.size 9).toArray 9);rw[show(w.alloc (.cells #[.slice A n cp,.int .i64 0,.int .i64 (en:Int),.slice none 0 0,.pointer none,.int .i64 0,.map (some (w.heap.size+1)),.int .i64 0,.bool false] 86)).heap.size=w.heap.size+1 by simp]at this;exact this
end
section
open Go.RowKit
open Tr (Nd)
open Lx (aB)
open Np (R cZ kE eB eP dA bV fD di pArg)
attribute [local go_sem] gD stillUpon
theorem aa2(l:Lx.Bytes):∀t∈(Lx.jr l).1,Lx.kR (Lx.tok t):=Lx.Qh l _ 0
theorem aa3{t:Lx.Tok}(h:Lx.kR t):t.text.length≤maxLen:=by
 have:t.text.length≤200:=by
  rcases h with⟨_,_,e,_⟩|⟨_,h,_⟩|⟨_,h,_⟩|⟨_,h,_⟩|⟨_,a,b,e,_⟩|⟨_,_,e,_⟩|⟨_,_,e,_⟩|⟨_,e⟩
  all_goals first|(rw[e];simp)|omega
 unfold maxLen;omega
theorem Yz{t:Lx.Tok}(h:Lx.kR t):t.kind≠0:=by
 rcases h with⟨h,_⟩|⟨h,_⟩|⟨h,_⟩|⟨h,_⟩|⟨h,_⟩|⟨h,_⟩|⟨h,_⟩|⟨h,_⟩<;>omega
theorem aa4{t:Lx.Tok}(h:Lx.kR t)(hk:t.kind=6):∃b:UInt8,t.text=[b]∧49≤b∧b≤57:=by
 rcases h with⟨h,_⟩|⟨h,_⟩|⟨h,_⟩|⟨h,_⟩|⟨h,_⟩|⟨_,d,e,h1,h2⟩|⟨h,_⟩|⟨h,_⟩
 all_goals first|omega|skip
 refine⟨d,e,h1,?_⟩;rw[UInt8.le_iff_toNat_le]at h2⊢;exact Nat.le_trans h2 (by decide)
def CG(l:List UInt8):R (List Nd):=match Lx.jr l with
 |(ts,none)=>Np.yI l.length ts
 |(_,some _)=>.out
def agW(w:World)(X:R (List Nd))(e:Ending)(w':World):Prop:=
 match X with
 |.ok items _=>∃A cp,e=.returned (.tuple #[.agg #[.int .i64 1,.string ⟨#[]⟩,.int .i64 0,.slice A items.length cp],.bool true,aG 0 0])∧aP w.heap.size w' items (.slice A items.length cp)∧ag w w'
 |.out=>True
theorem Mp.ae'{g B:Nat}{w a b:World}(hf:ag w a)(hm:Mp g B a b)(hg:w.heap.size≤g)(hB:w.heap.size≤B):ag w b:=
 hf.trans' hm fun i hi=>.inr (by rcases hi with rfl|⟨h,_⟩<;>omega)
theorem I4{w:World}{g i:Nat}{t:TypeId}{cs:Array Value}{v:Value}(h:af w g t cs)(hv:cs[i]?=some v):w.setCell ⟨g,i,none⟩ v=w:=by
 have hh:(w.setCell ⟨g,i,none⟩ v).heap=w.heap:=by
  apply Array.ext_getElem?
  intro k
  by_cases hk:k=g
  ·subst hk
   have h1:=h.put i v;unfold af at h h1;rw[h1,h]
   congr 2
   apply Array.ext_getElem?
   intro j;rw[Array.getElem?_setIfInBounds];split
   ·rename_i e
    subst e;split
    ·exact hv.symm
    ·rename_i hl
     rw[Array.getElem?_eq_none (by omega)]at hv;cases hv
   ·rfl
  ·exact Below.heap_setCell w ⟨g,i,none⟩ v k hk
 have:w.setCell ⟨g,i,none⟩ v={w with heap:=(w.setCell ⟨g,i,none⟩ v).heap}:=rfl;rw[this,hh]
theorem OY{w:World}{g:Nat}{t:TypeId}{x y:Value}(h:af w g t #[x,y]):(w.setCell ⟨g,0,none⟩ x).setCell ⟨g,1,none⟩ y=w:=by
 have h0:w.setCell ⟨g,0,none⟩ x=w:=I4 h rfl;rw[h0];exact I4 h rfl
theorem U6(s:ByteArray):s.data.toList.length=s.size:=by simp
theorem aa5(s:ByteArray)(w:World)(hm:s.size≤140737488355328)(hc:(Lx.jr s.data.toList).1.length≤8000)(hne:CG s.data.toList≠.out):Calls Tryz.prog 19 #[.string s,.pointer none,.int .i64 0] w (agW w (CG s.data.toList)):=by
 have hok:=aa2 s.data.toList;unfold CG at hne⊢;cases hl:Lx.jr s.data.toList with
 |mk ts o=>
 rw[hl]at hc hok hne;cases o with
 |some pe=>exact absurd rfl hne
 |none=>
  have nK:=hid (fun(w':World)=>ZC (s:=s) (w:=w') hl hm hc);have jJ:=hid hok;have HC:=hid hc;clear hok hl;simp only at hne⊢;rw[U6]at hne⊢;have HND:=hid hne;clear hne;refine Calls.via fun Q hQ=>?_
  have HQ:=hid hQ;clear hQ;go_enter Tryz.func19,Tryz.ntmps19;go_wp2_with fail
  refine(nK.out _).mono ?_;rintro _ w1 ⟨hf,v,rfl,hown⟩;have jK:=hid (abw hown);obtain⟨At,ct,rfl⟩:=mK hown;have HOWN:=hid hown;have aK:=hid (Touch.pre (Touch.pre hf));have lU:=hid (hf.blk ((af.new w 24 yM).alloc (.cells #[.int .i64 0,.int .i64 0] 49)) (fun h=>h));have tL:=hid (hf.blk (af.new2 w (.cells yM 24) 49 #[.int .i64 0,.int .i64 0]) (fun h=>h));have yc:=hid (show w.heap.size+1<w1.heap.size from tL.out.lt);clear hf hown;go_wp2_with fail
  refine(aa1 At ts.length ct s.size w1).mono ?_;rintro _ w3 ⟨rfl,hf3,hb3,aed⟩
  have HGD:=hid (show Cf.Good ⟨w1.heap.size,w3,.slice At ts.length ct,.map (some (w1.heap.size+1)),s.size,ts⟩from
   ⟨jK.out.fresh hf3,hb3.lt,fun gt o n cap e=>by
    simp only at e;exact Nat.ne_of_lt (HOWN.out.lt gt (by rw[e];rfl)).2,by have:=HC.out;show ts.length≤100000;omega,hm,fun t ht=>aa3 (jJ.out t ht),fun t ht=>Yz (jJ.out t ht),fun t ht hk=>aa4 (jJ.out t ht) hk⟩)
  obtain⟨c,hcc⟩:∃c:Cf,c=⟨w1.heap.size,w3,.slice At ts.length ct,.map (some (w1.heap.size+1)),s.size,ts⟩:=⟨_,rfl⟩;rw[←hcc]at HGD;have HG:=hid (show c.g=w1.heap.size from by rw[hcc]);have HW:=hid (show c.W0=w3 from by rw[hcc]);have OJ:=hid (show c.en=s.size from by rw[hcc]);have yf:=hid (show c.T=ts from by rw[hcc]);have HTV:=hid (show c.tv=.slice At ts.length ct from by rw[hcc])
  have uf:=hid (show c.Dn (w1.heap.size+1)from by
   rw[hcc];exact⟨rfl,aed,fun e=>by have e':w1.heap.size+1=w1.heap.size:=e;omega⟩)
  have oL:=hid (show Ps c 0 [] w3 from by
   rw[hcc];exact⟨M _ _,⟨.slice none 0 0,hb3,World.ownsRow_nil _ _ _ _⟩,Nat.zero_le _⟩)
  have bJ:=hid (aK.out.trans hf3);have oF:=hid (hf3.blk lU.out fun h=>h);have dY:=hid (hf3.blk tL.out fun h=>h);have pI:=hid (show w1.heap.size<w3.heap.size from hb3.lt);clear hcc hf3 hb3 aed;have hne:=HND.out;unfold Np.yI at hne HQ;have aY:=hid hne
  have KL:=hid (show Np.cZ s.size (8*ts.length+8) [] ts≠.out→Calls Tryz.prog 32 #[.pointer (some ⟨w1.heap.size,0,none⟩)] w3 (oK c 0 [] (Np.cZ s.size (8*ts.length+8) [] ts) w3)from fun h=>by
   have h1:=aa0 c HGD.out (w1.heap.size+1) uf.out (8*ts.length+8) (by have:=HC.out;omega) 0 [] w3 oL.out (Nat.le_refl _);unfold lV at h1;rw[HG.out,OJ.out,yf.out,List.drop_zero]at h1;exact h1 h)
  clear hne;go_wp2_with fail
  refine(KL.out (fun h=>aY.out (by rw[h]<;>rfl))).mono ?_;intro e w4 hres;have hparts:=hres.parts (fun h=>aY.out (by rw[h]<;>rfl));clear hres;generalize Np.cZ s.size (8*ts.length+8) [] ts=X at aY HQ hparts;clear KL;obtain⟨A,n,cp,i,er,rfl,iU,hend⟩:=hparts;have hd4:w.heap.size+1<c.g:=by rw[HG.out];exact yc.out
  have Es:=hid iU;have Sz:=hid (iU.blk oF.out (by omega) (by decide));have Az:=hid (iU.blk dY.out (by omega) (by decide));have eZ:=hid (iU.ae' bJ.out (by omega) (by rw[HW.out];have:=bJ.out.size;omega));clear iU;obtain⟨q0,q1,z0,z1,hlt1⟩:=af.two Az.out;obtain⟨items,rest,k',rfl,rfl,rfl,rfl,htr,hdr,hkk,hp⟩:=hend;have ajH:=hid htr;have AP:=hid hp;have HDR:=hid hdr;clear htr hp hdr;unfold aG;go_wp2_with fail
  rw[OY Az.out];clear q0 q1 z0 z1 hlt1;obtain⟨ov,hb4,_⟩:=AP.out.box;rw[HG.out,HTV.out]at hb4;have hkl:k'≤ts.length:=by have:=AP.out.le;rw[yf.out]at this;exact this
  have HKL:=hid hkl;have iB:=hid hb4;have r0:w4.cell? ⟨w.heap.size+1,1,none⟩=some (.int .i64 0):=Az.out.cell 1;have r1:w4.cell? ⟨w1.heap.size,0,none⟩=some (.slice At ts.length ct):=hb4.cell 0;have r2:w4.cell? ⟨w1.heap.size,1,none⟩=some (.int .i64 (k':Int)):=hb4.cell 1;have hl4:=Az.out.lt;have hl5:=hb4.lt;clear hb4 hkl
  by_cases hlast:k'<ts.length
  ·have c1:(k':Int)<(ts.length:Int):=by omega
   have c2:decide ((k':Int)<(ts.length:Int))=true:=decide_eq_true (by omega)
   exact absurd (show(if rest.isEmpty then R.ok items rest else Np.refuse s.size rest)=.out from by
    rw[←HDR.out,if_neg (fun h=>by have h2:=List.isEmpty_iff.1 h;rw[yf.out,List.drop_eq_nil_iff]at h2;omega)];rfl) aY.out
  ·have c1:¬(k':Int)<(ts.length:Int):=by omega
   have c2:decide ((k':Int)<(ts.length:Int))=false:=decide_eq_false (by omega)
   have HX:=hid (show(if rest.isEmpty then R.ok items rest else Np.refuse s.size rest)=.ok items rest from by
    rw[←HDR.out,if_pos (by rw[yf.out,List.drop_eq_nil_of_le (by omega)];rfl)])
   simp only[Np.R.bind]at HQ;rw[HX.out]at HQ
   go_quiet (fail)
   clear r0 r1 r2 hl4 hl5 c1 c2;have KO:=hid (Az.out.drewN nq);have ic:=hid (Sz.out.drewN nq);have gy:=hid (iB.out.drewN nq);have fI:=hid (eZ.out.drewN nq);have iC:=hid (ajH.out.fresh ((M _ w4).drewN nq));generalize w4.drewN nq=w6 at KO ic gy fI iC⊢;obtain⟨q0,q1,z0,z1,hlt1⟩:=af.two KO.out;go_wp2_with fail
   clear q0 q1 z0 z1 hlt1;refine uV (fun W=>af W w1.heap.size 86 #[.slice At ts.length ct,.int .i64 (k':Int),.int .i64 (c.en:Int),ov,.pointer none,.int .i64 0,c.mv,.int .i64 0,.bool false]) [(0,true),(2,true),(3,true),(4,true),(5,true),(6,true),(7,true),(1,false),(8,false),(9,true),(10,false)] (by kernel_rfl) (fun _ _ d _ _ h=>by cases d<;>exact h) (by kernel_rfl) (gy.out.drewN 1) ?_;refine ak rfl (fun K hK=>?_);rw[if_pos (by rfl)];refine⟨.slice A items.length cp,fun W hW=>?_,hK _ ?_⟩
   ·have h8:=hW.cell 8
    have F6:=hW.lt;go_simp
   clear hK K;refine ak rfl (fun K hK=>?_);rw[if_pos (by rfl)];refine⟨.pointer (some ⟨w1.heap.size,0,none⟩),fun W hW=>?_,hK _ ?_⟩
   ·have h8:=hW.cell 8
    have F6:=hW.lt;go_simp
   clear hK K;refine ak rfl (fun K hK=>?_);rw[if_pos (by rfl)];refine⟨.pointer (some ⟨w1.heap.size,0,none⟩),fun W hW=>?_,hK _ ?_⟩
   ·have h8:=hW.cell 8
    have F6:=hW.lt;go_simp
   clear hK K;refine ak rfl (fun K hK=>?_);rw[if_pos (by rfl)];refine⟨.pointer (some ⟨w1.heap.size,8,none⟩),fun W hW=>?_,hK _ ?_⟩
   ·have h8:=hW.cell 8
    have F6:=hW.lt;go_simp
   clear hK K;refine ak rfl (fun K hK=>?_);rw[if_pos (by rfl)];refine⟨.bool false,fun W hW=>?_,hK _ ?_⟩
   ·have h8:=hW.cell 8
    have F6:=hW.lt;go_simp
   clear hK K;refine ak rfl (fun K hK=>?_);rw[if_pos (by rfl)];refine⟨.bool true,fun W hW=>?_,hK _ ?_⟩
   ·have h8:=hW.cell 8
    have F6:=hW.lt;go_simp
   clear hK K;refine ak rfl (fun K hK=>?_);rw[if_pos (by rfl)];refine⟨.agg #[.int .i64 0,.int .i64 0],fun W hW=>?_,hK _ ?_⟩
   ·have h8:=hW.cell 8
    have F6:=hW.lt;go_simp
   clear hK K;refine aS rfl (fun K hK=>?_);go_wp2_with fail
   refine(j6 A items.length cp _).mono ?_;rintro _ w7 ⟨rfl,hf⟩;have hf':ag w6 w7:=Touch.BD hf;have Yo:=hid (hf'.blk KO.out fun h=>h);have Av:=hid (hf'.blk ic.out fun h=>h);have vv:=hid (hf'.blk gy.out fun h=>h);have gW:=hid (fI.out.trans hf');have jy:=hid (iC.out.fresh hf');go_wp2
   refine hK _ _ vv.out ?_;clear hK K hf hf';obtain⟨p0,p1,p2,p3,y0,y1,y2,y3,lW⟩:=af.four Av.out;refine aS rfl (fun K hK=>?_);go_wp2_with fail
   have hne:w.heap.size≠w.heap.size+1:=by omega
   have n1:=Av.out.gH (.int .i64 1) (.string ⟨#[]⟩) (.int .i64 0) (.slice A items.length cp);have n2:=Yo.out.uJ (Ne.symm hne) (.int .i64 1) (.string ⟨#[]⟩) (.int .i64 0) (.slice A items.length cp);have n3:=vv.out.uJ (L:=w1.heap.size) (g:=w.heap.size) (by have:=yc.out;omega) (.int .i64 1) (.string ⟨#[]⟩) (.int .i64 0) (.slice A items.length cp);have RU:ag w _:=gW.out.aO (g:=w.heap.size) (.inr (Nat.le_refl _)) (.int .i64 1) (.string ⟨#[]⟩) (.int .i64 0) (.slice A items.length cp);have bR:=jy.out.far (yL w7 w.heap.size (.int .i64 1) (.string ⟨#[]⟩) (.int .i64 0) (.slice A items.length cp)) (by have:=yc.out;have:=pI.out;omega);simp only[aO]at n1 n2 n3 RU bR;generalize (World.setCell (World.setCell (World.setCell (World.setCell w7 ⟨w.heap.size,0,none⟩ _) ⟨w.heap.size,1,none⟩ _) ⟨w.heap.size,2,none⟩ _) ⟨w.heap.size,3,none⟩ _)=W8 at n1 n2 n3 RU bR⊢;refine hK _ _ n3 ?_;clear hK K p0 p1 p2 p3 y0 y1 y2 y3 lW;have HN1:=hid n1;have Sb:=hid n2;have HN3:=hid n3;have mZ:=hid RU;have Cb:=hid bR;clear n1 n2 n3 RU bR;refine ak rfl (fun K hK=>?_);rw[if_pos (by rfl)];refine⟨.bool true,fun W hW=>?_,hK _ ?_⟩
   ·go_simp
   clear hK K;obtain⟨q0,q1,z0,z1,hlt1⟩:=af.two Sb.out;refine aS rfl (fun K hK=>?_);go_wp2_with fail
   rw[OY Sb.out];refine hK _ _ HN3.out ?_;clear hK K q0 q1 z0 z1 hlt1;refine sj ?_;go_wp2_with fail
   obtain⟨g0,g1,g2,g3,_⟩:=af.four HN1.out;obtain⟨f0,f1,_⟩:=af.two Sb.out
   (try simp only[Exit.inBlock,Exit.then])
   refine bodyPost_ret (v:=.tuple #[.agg #[.int .i64 1,.string ⟨#[]⟩,.int .i64 0,.slice A items.length cp],.bool true,aG 0 0]) (by simp[aG,results,Tryz.results19,go_sem,f0,f1,g0,g1,g2,g3]) rfl ?_;exact HQ.out _ _ ⟨A,cp,rfl,Cb.out.base (by have:=yc.out;have:=pI.out;omega),mZ.out⟩
end
section
open Go.RowKit
open Tr (Nd)
open Lx (aB)
open Np (R)
attribute [local go_sem] gD stillUpon
theorem YA(s:ByteArray)(items:List Nd)(rest:List aB)(w:World)(hm:s.size≤140737488355328)(hc:(Lx.jr s.data.toList).1.length≤8000)(hx:CG s.data.toList=.ok items rest)(hv:Tr.valid (Np.slot items)=true):Calls Tryz.prog 8 #[.string s,.pointer none] w fun e w'=>
  ∃A cp,e=.returned (.tuple #[.agg #[.int .i64 1,.string ⟨#[]⟩,.int .i64 0,.slice A items.length cp],.int .i64 0,.int .i64 0])∧aP w.heap.size w' items (.slice A items.length cp)∧ag w w':=by
 have HP:=hid (fun w'=>aa5 s w' hm hc (by rw[hx];intro h;cases h));rw[hx]at HP;have HV:=hid hv;clear hm hc hx hv;refine Calls.via fun Q hQ=>?_
 have HQ:=hid hQ;clear hQ;go_enter Tryz.func8,Tryz.ntmps8;go_wp2_with fail
 refine(HP.out _).mono ?_;rintro _ w2 ⟨A,cp,rfl,htr,hf⟩;have hb2:=hf.blk (af.new w 24 ZN) (fun h=>h);have hf2:ag w w2:=Touch.pre hf;have DV:aP (w.heap.size+1) w2 items (.slice A items.length cp):=htr.base (by simp);have HS2:=hid (show w.heap.size<w2.heap.size from hb2.lt);have hb3:=(hb2.alloc (.cells #[.int .i64 1,.string ⟨#[]⟩,.int .i64 0,.slice A items.length cp] 24)).alloc (.cells #[.int .i64 0,.int .i64 0] 49);have hf3:=(hf2.alloc (.cells #[.int .i64 1,.string ⟨#[]⟩,.int .i64 0,.slice A items.length cp] 24)).alloc (.cells #[.int .i64 0,.int .i64 0] 49);have h73:af ((w2.alloc (.cells #[.int .i64 1,.string ⟨#[]⟩,.int .i64 0,.slice A items.length cp] 24)).alloc (.cells #[.int .i64 0,.int .i64 0] 49)) w2.heap.size 24 #[.int .i64 1,.string ⟨#[]⟩,.int .i64 0,.slice A items.length cp]:=(af.new _ _ _).alloc _;have ht3:=DV.fresh (((M _ w2).alloc (.cells #[.int .i64 1,.string ⟨#[]⟩,.int .i64 0,.slice A items.length cp] 24)).alloc (.cells #[.int .i64 0,.int .i64 0] 49));have HB3:=hid hb3;have bJ:=hid hf3;have H73:=hid h73;have HT3:=hid ht3;clear hf htr hb2 hf2 DV hb3 hf3 h73 ht3;unfold aG;go_wp2_with fail
 generalize ((w2.alloc (.cells #[.int .i64 1,.string ⟨#[]⟩,.int .i64 0,.slice A items.length cp] 24)).alloc (.cells #[.int .i64 0,.int .i64 0] 49))=W3 at HB3 bJ H73 HT3⊢;refine(CQ (Np.slot items) (.slice A items.length cp) W3 HT3.out.rep (Nat.zero_le _)).mono ?_;rintro _ w4 ⟨rfl,hf⟩;rw[HV.out];have iB:=hid (hf.blk HB3.out fun h=>h);have eZ:=hid (bJ.out.trans hf);have H74:=hid (hf.blk H73.out fun h=>h);have nU:=hid (HT3.out.fresh hf);clear hf;obtain⟨p0,p1,p2,p3,y0,y1,y2,y3,lW⟩:=af.four iB.out;obtain⟨s0,s1,s2,s3,_,_,_,_,adp⟩:=af.four H74.out;go_wp2_with fail
 have n1:=iB.out.gH (.int .i64 1) (.string ⟨#[]⟩) (.int .i64 0) (.slice A items.length cp);have Sn:ag w _:=eZ.out.aO (g:=w.heap.size) (.inr (Nat.le_refl _)) (.int .i64 1) (.string ⟨#[]⟩) (.int .i64 0) (.slice A items.length cp);have htt:=nU.out.far (yL w4 w.heap.size (.int .i64 1) (.string ⟨#[]⟩) (.int .i64 0) (.slice A items.length cp)) (by omega);obtain⟨g0,g1,g2,g3,_⟩:=af.four n1;simp only[aO]at g0 g1 g2 g3 Sn htt
 (try simp only[Exit.inBlock,Exit.then])
 refine bodyPost_ret (v:=.tuple #[.agg #[.int .i64 1,.string ⟨#[]⟩,.int .i64 0,.slice A items.length cp],.int .i64 0,.int .i64 0]) (by simp[results,Tryz.results8,go_sem,g0,g1,g2,g3]) rfl ?_;exact HQ.out _ _ ⟨A,cp,rfl,htt.base (by omega),Sn⟩
end
namespace Np
open Lx (aB Tok)
open Tr (Nd)
theorem afa(W:List (List UInt8×Tok))(a:Nat):Al (Lx.placed a W) (bare (W.map (·.2))):=by
 unfold Al bare;rw[Lx.Dx,List.map_map];simp[Lx.tok,Function.comp_def]
theorem YB(a:Nd)(ha:Tr.fE a):yI 0 (bare (Tr.bC a.kids))=.ok a.kids []:=by
 obtain⟨F,h⟩:=(Tr.PU.all (Tr.count a)).row a.kids (fun x hx=>⟨ha.views x hx,by have:=Tr.cB hx;have:=Tr.aN a;omega⟩) [] ⟨rfl,rfl,rfl⟩;have h1:=h F (Nat.le_refl _);rw[List.append_nil]at h1;have h2:=(reads F F (Nat.le_refl _)).row _ _ _ h1 [] (.inl ⟨rfl,rfl⟩);exact aaG 0 _ _ h2
theorem OZ:∀(l:List Tok) (o:Option Tok),(Lx.flat (Tr.uI o l)).length≤cost l
 |[],_=>Nat.zero_le _
 |t::ts,o=>by
  have:=OZ ts (some t);cases o with
  |none=>
   simp only[Tr.uI,Lx.flat,List.length_append,cost,List.length_nil];omega
  |some a=>
   simp only[Tr.uI,Lx.flat,List.length_append,cost];split
   ·rw[List.length_singleton];omega
   ·rw[List.length_nil];omega
theorem U7(l:List Tok)(o:Option Tok):(Tr.uI o l).length=l.length:=by
 have:=congrArg List.length (Tr.Gt l o);simpa using this
theorem Pz(W:List (List UInt8×Tok))(a:Nat):(Lx.placed a W).length=W.length:=by
 have:=congrArg List.length (Lx.Dx W a);simpa using this
end Np
section
open Tr (Nd)
open Np (R)
theorem PD(a:Nd)(h:Tr.fE a):CG (Tr.xU (Tr.bC a.kids))=.ok a.kids []:=by
 unfold CG;rw[Tr.NL _ (Tr.zS a h)];simp only
 have hs:=Np.R4 (Tr.xU (Tr.bC a.kids)).length 0 _ _ (Np.afa (Tr.uI none (Tr.bC a.kids)) 0);rw[Tr.Gt,Np.YB a h]at hs;cases hp:Np.yI (Tr.xU (Tr.bC a.kids)).length (Lx.placed 0 (Tr.uI none (Tr.bC a.kids)))with
 |out=>rw[hp]at hs;exact hs.elim
 |ok b r=>
  rw[hp]at hs;obtain⟨h1,h2⟩:=hs
  have:r=[]:=by
   cases r with
   |nil=>rfl
   |cons x l=>cases h2
  rw[h1,this]
theorem U8(a:Nd)(h:Tr.fE a):(Tr.xU (Tr.bC a.kids)).length≤1221*Tr.count a:=by
 have h1:=Np.OZ (Tr.bC a.kids) none;have h2:=Nk _ (Tr.zS a h);have h3:=Nl a h;have:(Tr.xU (Tr.bC a.kids)).length≤cost (Tr.bC a.kids):=h1;omega
theorem SX(a:Nd)(h:Tr.fE a):(Lx.jr (Tr.xU (Tr.bC a.kids))).1.length≤3*Tr.count a:=by
 rw[Tr.NL _ (Tr.zS a h)];show(Lx.placed 0 _).length≤_;rw[Np.Pz,Np.U7];exact Nl a h
theorem adM(a:Nd)(h:Tr.fE a):Np.slot a.kids=a:=(Tr.wF a h.1 h.2).symm
end
end Go.Proofs.YtcgbccfpcgaikaaGreatDoor
