/- Part 28 of 48 of a proof. No condition. -/
import Derived.Test.YtnbeemkfmlfgfaaGreatDoorTm4
import Derived.Test.YtnbeemkfmlfgfaaGreatDoorTm26
set_option maxRecDepth 100000
set_option maxHeartbeats 4000000
namespace Go.Proofs.YtnbeemkfmlfgfaaGreatDoor
section
open Go.RowKit
open U (E aA cB jB)
def Kb(w w':World):Prop:=∀k T cs,T≠5→T≠67→O w k T cs→O w' k T cs
theorem Kb.refl(w:World):Kb w w:=fun _ _ _ _ _ h=>h
theorem Kb.trans{a b c:World}(h:Kb a b)(h':Kb b c):Kb a c:=fun k T cs h1 h2 h3=>h' k T cs h1 h2 (h k T cs h1 h2 h3)
structure BW(w0:World)(g:Nat)(l:List UInt8)(w:World):Prop where
 WT:∃cs v,yE w (g+1) g 0 67 cs v l∧cs.size=2
 vV:ag w0 w
 le:w0.heap.size≤g
theorem BW.lt{w0 w:World}{g:Nat}{l:List UInt8}(h:BW w0 g l w):g<w.heap.size:=by
 obtain⟨cs,v,h1,_⟩:=h.WT;exact h1.lt
theorem WU{w:World}{B b o:Nat}{T:TypeId}{cs:Array Value}{v:Value}{l:List UInt8}(h:yE w B b o T cs v l){w':World}(hf:ag w w'):yE w' B b o T cs v l:=
 ⟨hf.blk h.blk (fun h=>h),h.addr,h.buf,fI h.own hf (fun _ _ h=>h),h.ne,h.RO⟩
theorem BW.fresh{w0 w w':World}{g:Nat}{l:List UInt8}(h:BW w0 g l w)(hf:ag w w'):BW w0 g l w':=by
 obtain⟨cs,v,h1,h2⟩:=h.WT;exact⟨⟨cs,v,WU h1 hf,h2⟩,h.vV.trans hf,h.le⟩
theorem ag.kb{w w':World}(hf:ag w w'):Kb w w':=fun _ _ _ _ _ h=>hf.blk h fun h=>h
theorem Ho{w:World}{k:Nat}{T T':TypeId}{cs cs':Array Value}{s:Nat×Nat}(h:O w k T cs)(h':w.heap[k]?=some (.cells cs' T' s)):T=T':=by
 unfold O at h;rw[h]at h';cases h';rfl
theorem BW.step{w0 w w':World}{g:Nat}{l:List UInt8}{cs:Array Value}{v:Value}(h:BW w0 g l w)(hb:yE w (g+1) g 0 67 cs v l){m:List UInt8}{cs':Array Value}{v':Value}
  (hb':yE w' (g+1) g 0 67 cs' v' m) (hs:cs'.size=2) (ht:Touch (fun k=>k=g∨v.ownBlock=some k) w w'):BW w0 g m w'∧Kb w w':=by
 have hl:=h.le;refine⟨⟨⟨cs',v',hb',hs⟩,h.vV.trans' ht ?_,h.le⟩,fun k T ds h1 h2 h3=>ht.blk h3 ?_⟩
 ·rintro i (h1|h1)
  ·right;omega
  ·right;have:=(hb.own.lt _ h1).1;omega
 ·rintro(h4|h4)
  ·subst h4
   exact h2 (Ho h3 hb.blk)
  ·obtain⟨_,h5⟩:=hb.own
   rcases h5 with⟨h5,_⟩|⟨g',cap,cur,h5,_,h6,_⟩
   ·rw[h5]at h4;cases h4
   ·rw[h5]at h4
    cases h4;exact h1 (Ho h3 h6)
theorem Kj{w0 w:World}{g:Nat}{l:List UInt8}(h:BW w0 g l w)(x:Int)(c:UInt8)(hx:x=c.toNat)(hl:l.length+1≤140737488355328):
  Calls Tryz.prog 107 #[.pointer (some ⟨g,0,none⟩),.int .u8 x] w fun e w'=>e=.returned .nilIface∧BW w0 g (l++[c]) w'∧Kb w w':=by
 obtain⟨cs,v,hb,hs⟩:=h.WT;refine(Ma hb (by rw[hs];exact liesBuilder) x c hx hl (by have:=h.lt;omega)).mono ?_;rintro _ w' ⟨rfl,v',hb',ht⟩;exact⟨rfl,h.step hb hb' (by simp[hs]) ht⟩
theorem yl{w0 w:World}{g:Nat}{l:List UInt8}(h:BW w0 g l w)(m:List UInt8)(hl:l.length+m.length≤140737488355328):
  Calls Tryz.prog 105 #[.pointer (some ⟨g,0,none⟩),.string ⟨m.toArray⟩] w fun e w'=>e=.returned (.tuple #[.int .i64 m.length,.nilIface])∧BW w0 g (l++m) w'∧Kb w w':=by
 obtain⟨cs,v,hb,hs⟩:=h.WT;refine(Io hb (by omega) (by rw[hs];exact liesBuilder) ⟨m.toArray⟩ (by show _+m.toArray.size≤_;simpa using hl) (by have:=h.lt;omega)).mono ?_;rintro _ w' ⟨rfl,v',hb',ht⟩;exact⟨by show _=Ending.returned (.tuple #[.int .i64 (m.length:Nat),.nilIface]);simp[ByteArray.size],h.step hb (by simpa using hb') (by simp[hs]) ht⟩
theorem WV{w0 w:World}{g:Nat}{l:List UInt8}(h:BW w0 g l w):
  Calls Tryz.prog 30 #[.pointer (some ⟨g,0,none⟩)] w fun e w'=>e=.returned (.string ⟨l.toArray⟩)∧ag w0 w'∧Kb w w':=by
 obtain⟨cs,v,hb,hs⟩:=h.WT;have hl:=h.le;refine(Px hb).mono ?_;rintro _ w' ⟨rfl,ht⟩;refine⟨rfl,h.vV.trans' ht (fun i h1=>by right;have:=(hb.own.lt _ h1).1;omega),fun k T ds h1 h2 h3=>ht.blk h3 fun h4=>?_⟩;obtain⟨_,h5⟩:=hb.own
 rcases h5 with⟨h5,_⟩|⟨g',cap,cur,h5,_,h6,_⟩
 ·rw[h5]at h4;cases h4
 ·rw[h5]at h4
  cases h4;exact h1 (Ho h3 h6)
theorem adQ(w0 w:World)(h:ag w0 w):BW w0 w.heap.size [] (w.alloc (.cells #[.pointer none,.slice none 0 0] 67)):=
 ⟨⟨_,_,⟨O.new _ _ _,.inl rfl,rfl,World.ownsRow_nil _ _ _ _,by simp[Value.ownBlock],fun _=>rfl⟩,rfl⟩,h.alloc _,h.size⟩
theorem acp(s:List UInt8)(j:Nat):(cB (s.take j)).length≤(cB s).length:=by
 have:cB s=cB (s.take j)++cB (s.drop j):=by unfold U.cB;rw[←List.flatMap_append,List.take_append_drop]
 rw[this,List.length_append];omega
theorem WW(s:List UInt8)(j:Nat)(h:j<s.length):cB (s.take (j+1))=cB (s.take j)++jB s[j]:=by
 rw[List.take_succ_eq_append_getElem h,U.K4]
theorem Jm(s:List UInt8)(w0:World)(g:Nat)(l:List UInt8)(w:World)(h:BW w0 g l w)(hl:l.length+(cB s).length≤140737488355328)(hs:s.length≤9223372036854775807):
  Calls Tryz.prog 106 #[.pointer (some ⟨g,0,none⟩),.string ⟨s.toArray⟩] w fun e w'=>e=.returned (.tuple #[])∧BW w0 g (l++cB s) w'∧Kb w w':=by
 have H:=I h;have HL:=I hl;have uO:=I (show(⟨s.toArray⟩:ByteArray).size=s.length from by simp[ByteArray.size]);obtain⟨t,ht⟩:∃t:ByteArray,t=⟨s.toArray⟩:=⟨_,rfl⟩;rw[←ht];rw[←ht]at uO;have Ef:=I ht;have hm:t.size≤9223372036854775807:=by rw[uO.J];exact hs
 clear h hl ht;go_enter Tryz.func106,Tryz.ntmps106;go_wp2
 go_loopw [4] (fun i wr=>∃j:Nat,i=.int .i64 j∧j≤t.size∧Hd (BW w0 g (l++cB (s.take j)) wr)∧Hd (Kb w wr)) (fun i _=>t.size-(intOf i).toNat)
 case atStart=>exact⟨0,rfl,Nat.zero_le _,I (by simpa[U.Zi]using H.J),Kb.refl _⟩
 case round=>
  obtain⟨j,rfl,hj,HB,HK⟩:=hrel
  by_cases c1:j<t.size
  ·have d1:decide ((j:Int)<(t.size:Int))=true:=dT (by omega)
   have d1':(j:Int)<(t.size:Int):=by omega
   have dG:decide (j<t.size)=true:=dT (by omega);have c1s:j<s.length:=by rw[←uO.J];exact c1
   obtain⟨b,hb⟩:∃b,t[j]'c1=b:=⟨_,rfl⟩;have Gn:=I (show s[j]=b by rw[←hb];have:=Ef.J;subst this;rfl);have HST:=I (WW s j c1s);have uw:=I (show(cB (s.take j)).length+(jB s[j]).length≤(cB s).length by rw[←List.length_append,←HST.J];exact acp s (j+1));rw[Gn.J]at HST uw;clear Gn
   by_cases c2:b=38
   ·have b2:((b.toNat:Int)==38)=true:=BV _ 38 c2
    have Az:=I (show jB b=[38,97,109,112,59] by unfold U.jB;rw[if_pos c2]);go_wp2_with fail
    refine(yl HB.J [38,97,109,112,59] (by have:=uw.J;rw[Az.J]at this;have:=HL.J;rw[List.length_append];omega)).mono ?_;rintro _ w2 ⟨rfl,hb2,hk2⟩;have HB2:=I hb2;have Ad:=I (HK.J.trans hk2);clear hb2 hk2;go_wp2
    go_roundw
    case rel=>exact⟨j+1,by go_num,c1,by unfold Hd;rw[HST.J,Az.J,←List.append_assoc];exact HB2.J,Ad⟩
    case measure=>simp[intOf];omega
   have b2:((b.toNat:Int)==38)=false:=qX _ 38 c2
   by_cases c3:b=60
   ·have b3:((b.toNat:Int)==60)=true:=BV _ 60 c3
    have Az:=I (show jB b=[38,108,116,59] by unfold U.jB;rw[if_neg c2,if_pos c3]);go_wp2_with fail
    refine(yl HB.J [38,108,116,59] (by have:=uw.J;rw[Az.J]at this;have:=HL.J;rw[List.length_append];omega)).mono ?_;rintro _ w2 ⟨rfl,hb2,hk2⟩;have HB2:=I hb2;have Ad:=I (HK.J.trans hk2);clear hb2 hk2;go_wp2
    go_roundw
    case rel=>exact⟨j+1,by go_num,c1,by unfold Hd;rw[HST.J,Az.J,←List.append_assoc];exact HB2.J,Ad⟩
    case measure=>simp[intOf];omega
   have b3:((b.toNat:Int)==60)=false:=qX _ 60 c3
   by_cases c4:b=62
   ·have b4:((b.toNat:Int)==62)=true:=BV _ 62 c4
    have Az:=I (show jB b=[38,103,116,59] by unfold U.jB;rw[if_neg c2,if_neg c3,if_pos c4]);go_wp2_with fail
    refine(yl HB.J [38,103,116,59] (by have:=uw.J;rw[Az.J]at this;have:=HL.J;rw[List.length_append];omega)).mono ?_;rintro _ w2 ⟨rfl,hb2,hk2⟩;have HB2:=I hb2;have Ad:=I (HK.J.trans hk2);clear hb2 hk2;go_wp2
    go_roundw
    case rel=>exact⟨j+1,by go_num,c1,by unfold Hd;rw[HST.J,Az.J,←List.append_assoc];exact HB2.J,Ad⟩
    case measure=>simp[intOf];omega
   have b4:((b.toNat:Int)==62)=false:=qX _ 62 c4
   by_cases c5:b=34
   ·have b5:((b.toNat:Int)==34)=true:=BV _ 34 c5
    have Az:=I (show jB b=[38,113,117,111,116,59] by unfold U.jB;rw[if_neg c2,if_neg c3,if_neg c4,if_pos c5]);go_wp2_with fail
    refine(yl HB.J [38,113,117,111,116,59] (by have:=uw.J;rw[Az.J]at this;have:=HL.J;rw[List.length_append];omega)).mono ?_;rintro _ w2 ⟨rfl,hb2,hk2⟩;have HB2:=I hb2;have Ad:=I (HK.J.trans hk2);clear hb2 hk2;go_wp2
    go_roundw
    case rel=>exact⟨j+1,by go_num,c1,by unfold Hd;rw[HST.J,Az.J,←List.append_assoc];exact HB2.J,Ad⟩
    case measure=>simp[intOf];omega
   have b5:((b.toNat:Int)==34)=false:=qX _ 34 c5;have Az:=I (show jB b=[b] by unfold U.jB;rw[if_neg c2,if_neg c3,if_neg c4,if_neg c5]);go_wp2_with fail
   refine(Kj HB.J _ b rfl (by have:=uw.J;rw[Az.J]at this;have:=HL.J;rw[List.length_append];simp at*;omega)).mono ?_;rintro _ w2 ⟨rfl,hb2,hk2⟩;have HB2:=I hb2;have Ad:=I (HK.J.trans hk2);clear hb2 hk2;go_wp2
   go_roundw
   case rel=>exact⟨j+1,by go_num,c1,by unfold Hd;rw[HST.J,Az.J,←List.append_assoc];exact HB2.J,Ad⟩
   case measure=>simp[intOf];omega
  ·have d1:decide ((j:Int)<(t.size:Int))=false:=dF (by omega)
   have dG:decide (j<t.size)=false:=dF (by omega);have DW:=I (show s.take j=s from List.take_of_length_le (by rw[←uO.J];omega));go_wp2_with fail
   go_end0
   exact⟨rfl,by have:=HB.J;rwa [DW.J]at this,HK.J⟩
end
section
open Go.RowKit
open U (E aA cB jB eO dY rz eH)
def Jn(e:E):Prop:=∀(w0:World) (ge oe g:Nat) (va vk:Value) (l:List UInt8) (w:World),fC w0 ge oe e va vk→BW w0 g l w→l.length+(eO e).length≤8000000→
 Calls Tryz.prog 59 #[.pointer (some ⟨g,0,none⟩),.pointer (some ⟨ge,oe,none⟩)] w fun x w'=>x=.returned (.tuple #[])∧BW w0 g (l++eO e) w'∧Kb w w'
theorem TQ(e:E)(ih:∀x∈e.kids,Jn x):Jn e:=by
 intro w0 ge oe g va vk l w he hb hl;obtain⟨n,ats,ks,t⟩:=e;have HE:=I he;have HB:=I hb;have HL:=I hl;have jw:=I ih;obtain⟨A,ca,hva⟩:=he.2.2.2.2.2.1.slice;obtain⟨B,cb,hvb⟩:=he.2.2.2.2.2.2.1.slice;replace hva:va=.slice A ats.length ca:=hva;replace hvb:vk=.slice B ks.length cb:=hvb;subst hva;subst hvb;have HW:=I (show eO (.mk n ats ks t)=60::n++eH ats++(if t.isEmpty&&ks.isEmpty then [47,62]else 62::cB t++dY ks++([60,47]++n++[62])) by rw[eO])
 have hwl:l.length+(n.length+1+(eH ats).length)+2≤8000000:=by
  rw[HW.J]at hl
  have h2:2≤(if t.isEmpty&&ks.isEmpty then [47,62]else 62::cB t++dY ks++([60,47]++n++[62]):List UInt8).length:=by
   split
   ·simp
   ·simp only[List.length_append,List.length_cons];omega
  simp only[List.length_append,List.length_cons]at hl h2⊢;omega
 have hl1:ats.length≤maxLen:=by obtain⟨_,_,_,h,_⟩:=he.2.2.2.2.2.1;exact h.1
 have hl2:ks.length≤maxLen:=he.2.2.2.2.2.2.1.len;have htl:t.length≤maxLen:=he.2.2.2.2.2.2.2.2;unfold maxLen at hl1 hl2 htl;have hE1:=he.fresh hb.vV;obtain⟨hg,h0,h1,h2,h3,_⟩:=hE1;replace h0:w.cell? ⟨ge,oe,none⟩=some (.string ⟨n.toArray⟩):=h0;have hadd:=fun W:World=>run_string_add_lists (P:=Tryz.prog) W [60] n (by simp) (by omega)
 clear he hb hl ih;go_enter Tryz.func59,Tryz.ntmps59;go_wp2_with fail
 refine(yl HB.J (60::n) (by simp;omega)).mono ?_;rintro _ w1 ⟨rfl,hb1,hk1⟩;have HB1:=I hb1;have HK1:=I hk1;clear hb1 hk1 h0 h1 h2 h3 hg hadd;obtain⟨hg,h0,h1,h2,h3,_⟩:=HE.J.fresh HB1.J.vV;replace h1:w1.cell? ⟨ge,oe+1,none⟩=some (.slice A ats.length ca):=h1;go_wp2_with fail
 clear hg h0 h1 h2 h3
 go_loopw [19] (fun i wr=>∃j:Nat,i=.int .i64 j∧j≤ats.length∧Hd (BW w0 g (l++(60::n)++eH (ats.take j)) wr)∧Hd (Kb w wr)) (fun i _=>ats.length-(intOf i).toNat)
 case atStart=>exact⟨0,rfl,Nat.zero_le _,I (by simpa[eH]using HB1.J),HK1⟩
 case round=>
  obtain⟨j,rfl,hj,Ls,Rf⟩:=hrel
  by_cases c1:j<ats.length
  ·have d1:decide ((j:Int)<(ats.length:Int))=true:=dT (by omega)
   have d1':(j:Int)<(ats.length:Int):=by omega
   have HA:=I (show dW w0 ats _ from HE.J.2.2.2.2.2.1);obtain⟨ga,oa,rfl,hga,m0,m1,hx1,hx2⟩:=HA.J.get j c1;have e0:=Ls.J.vV.cell m0 (fun h=>h);have f0:=Ls.J.vV.cell m1 (fun h=>h);have HAS:=I (U.Gc ats j c1)
   have hxl:(eH (ats.take j)).length+((ats[j]).1.length+(cB (ats[j]).2).length+4)≤(eH ats).length:=by
    have:=U.Ej ats (j+1);rw[HAS.J,List.length_append]at this;unfold U.rz at this;simp only[List.length_append,List.length_cons,List.length_nil]at this;omega
   have agf:(ats[j]).2.length≤9223372036854775807:=hx2;clear m0 m1 hx1 hx2;generalize ats[j]=x at*;have aeA:=fun W:World=>run_string_add_lists (P:=Tryz.prog) W [32] x.1 (by simp) (by omega)
   have abu:=fun W:World=>run_string_add_lists (P:=Tryz.prog) W (32::x.1) [61,34] (by simp;omega) (by simp)
   go_wp2_with fail
   refine(yl (Ls.J.fresh ((M _ wr).alloc (.cells #[.string ⟨x.1.toArray⟩,.string ⟨x.2.toArray⟩] 79))) (32::(x.1++[61,34])) (by simp only[List.length_append,List.length_cons,List.length_nil];omega)).mono ?_;rintro _ w3 ⟨rfl,hb3,hk3⟩;have hq:=hk3 _ _ _ (by decide) (by decide) (O.new wr 79 #[.string ⟨x.1.toArray⟩,.string ⟨x.2.toArray⟩]);have HB3:=I hb3;have HK3:=I (Rf.J.trans ((ag.kb ((M _ wr).alloc _)).trans hk3));have HQ:=I hq;have q1:w3.cell? ⟨wr.heap.size,1,none⟩=some (.string ⟨x.2.toArray⟩):=hq.cell 1;have qz:wr.heap.size<w3.heap.size:=hq.lt;clear hb3 hk3 e0 f0 aeA abu hq;go_wp2_with fail
   refine(Jm x.2 w0 g _ w3 HB3.J (by simp only[List.length_append,List.length_cons,List.length_nil];omega) agf).mono ?_;rintro _ w4 ⟨rfl,hb4,hk4⟩;have iI:=I hb4;have Rh:=I (HK3.J.trans hk4);clear hb4 hk4 q1 qz;go_wp2_with fail
   refine(Kj iI.J _ 34 rfl (by simp only[List.length_append,List.length_cons,List.length_nil];omega)).mono ?_;rintro _ w5 ⟨rfl,hb5,hk5⟩;have bV:=I (show BW w0 g (l++(60::n)++eH (ats.take (j+1))) w5 by rw[HAS.J];unfold U.rz;simpa[List.append_assoc]using hb5);have HK5:=I (Rh.J.trans hk5);clear hb5 hk5;go_wp2
   go_roundw
   case rel=>exact⟨j+1,by go_num,c1,bV,HK5⟩
   case measure=>simp[intOf];omega
  ·have d1:decide ((j:Int)<(ats.length:Int))=false:=dF (by omega)
   obtain rfl:j=ats.length:=by omega
   have HB2:=I (show BW w0 g (l++(60::n)++eH ats) wr by have:=Ls.J;rwa [List.take_length]at this);obtain⟨hg,h0,h1,h2,h3,_⟩:=HE.J.fresh HB2.J.vV;replace h2:wr.cell? ⟨ge,oe+2,none⟩=some (.slice B ks.length cb):=h2;replace h3:wr.cell? ⟨ge,oe+3,none⟩=some (.string ⟨t.toArray⟩):=h3;clear h0 h1 d1 hj
   by_cases c2:t=[]∧ks.length=0
   ·obtain⟨rfl,ck⟩:=c2
    have hks:ks=[]:=List.eq_nil_of_length_eq_zero ck;have HW2:=I (show eO (.mk n ats ks [])=60::n++eH ats++[47,62] by rw[HW.J,hks];rfl);have d2:((ks.length:Int)==0)=true:=by rw[ck];rfl
    clear hks ck;go_wp2_with fail
    refine(yl HB2.J [47,62] (by simp only[List.length_append,List.length_cons,List.length_nil];omega)).mono ?_;rintro _ w6 ⟨rfl,hb6,WX⟩;have iM:=I hb6;have HK6:=I (Rf.J.trans WX);clear hb6 WX;go_wp2
    refine bodyPost_ret (results_none rfl _ _ _) rfl ?_;exact⟨rfl,by rw[HW2.J];simpa[List.append_assoc]using iM.J,HK6.J⟩
   ·have HW2:=I (show eO (.mk n ats ks t)=60::n++eH ats++(62::cB t++dY ks++([60,47]++n++[62])) by
     rw[HW.J,if_neg];rw[Bool.and_eq_true,List.isEmpty_iff,List.isEmpty_iff];rintro⟨e1,e2⟩;exact c2 ⟨e1,by rw[e2];rfl⟩)
    have ajj:l.length+(n.length+1+(eH ats).length)+(1+(cB t).length+(dY ks).length+(n.length+3))≤8000000:=by
     have:=HL.J;rw[HW2.J]at this;simp only[List.length_append,List.length_cons,List.length_nil]at this;omega
    have hte:t.isEmpty=true→((ks.length:Int)==0)=false:=fun h=>by
     rw[beq_eq_false_iff_ne];intro h2;exact c2 ⟨List.isEmpty_iff.1 h,by omega⟩
    have Ef:=I hte;clear c2 hte
    by_cases ct:t.isEmpty=true
    focus
     have d2:=Ef.J ct;have et:t.isEmpty=true:=ct;clear ct;go_wp2_with fail
    rotate_left
    focus
     have et:t.isEmpty=false:=by simpa using ct
     clear ct;go_wp2_with fail
    all_goals
     refine(Kj HB2.J _ 62 rfl (by simp only[List.length_append,List.length_cons];omega)).mono ?_;rintro _ w6 ⟨rfl,hb6,WX⟩;have iM:=I hb6;have HK6:=I (Rf.J.trans WX);clear hb6 WX hg h2 h3;obtain⟨hg,h0,h1,h2,h3,_⟩:=HE.J.fresh iM.J.vV;replace h3:w6.cell? ⟨ge,oe+3,none⟩=some (.string ⟨t.toArray⟩):=h3;clear et
     try clear d2
     clear h0 h1 h2;go_wp2_with fail
     refine(Jm _ w0 g _ w6 iM.J (by simp only[List.length_append,List.length_cons,List.length_nil];omega) htl).mono ?_;rintro _ w7 ⟨rfl,pR,hk7⟩;have ql:=I pR;have HK7:=I (HK6.J.trans hk7);clear pR hk7 hg h3;obtain⟨hg,h0,h1,h2,h3,_⟩:=HE.J.fresh ql.J.vV;replace h2:w7.cell? ⟨ge,oe+2,none⟩=some (.slice B ks.length cb):=h2;clear h0 h1 h3;go_wp2_with fail
     clear hg h2
     go_loopw [64] (fun i wr=>∃j:Nat,i=.int .i64 j∧j≤ks.length∧Hd (BW w0 g (l++(60::n)++eH ats++[62]++cB t++dY (ks.take j)) wr)∧Hd (Kb w wr)) (fun i _=>ks.length-(intOf i).toNat)
     case atStart=>exact⟨0,rfl,Nat.zero_le _,I (by simpa[U.dY]using ql.J),HK7⟩
     case round=>
      obtain⟨j,rfl,hj,Ls,Rf⟩:=hrel;rename_i wr _
      by_cases c1:j<ks.length
      ·have d1:decide ((j:Int)<(ks.length:Int))=true:=dT (by omega)
       have d1':(j:Int)<(ks.length:Int):=by omega
       obtain⟨gk,ok,wa,wk,rfl,eB⟩:=(show dL w0 ks _ from HE.J.2.2.2.2.2.2.1).ru j c1;have HS:=I (U.Gd ks j c1)
       have hsm:(dY (ks.take j)).length+(eO ks[j]).length≤(dY ks).length:=by
        rw[←List.length_append,←HS.J];exact U.K5 ks (j+1)
       obtain⟨hg,h0,h1,h2,h3,_⟩:=HE.J.fresh Ls.J.vV;replace h2:wr.cell? ⟨ge,oe+2,none⟩=some (.slice (some ⟨gk,ok,none⟩) ks.length cb):=h2;have HC:=I (jw.J ks[j] (List.getElem_mem c1) w0 gk (ok+j*4) g wa wk _ wr eB Ls.J (by simp only[List.length_append,List.length_cons,List.length_nil];omega));clear h0 h1 h3 eB;generalize ks[j]=x at*;go_wp2_with fail
       refine HC.J.mono ?_;rintro _ w8 ⟨rfl,xg,hk8⟩;have mE:=I (show BW w0 g (l++(60::n)++eH ats++[62]++cB t++dY (ks.take (j+1))) w8 by rw[HS.J,←List.append_assoc];exact xg);have HK8:=I (Rf.J.trans hk8);clear xg hk8 hg h2;go_wp2
       go_roundw
       case rel=>exact⟨j+1,by go_num,c1,mE,HK8⟩
       case measure=>simp[intOf];omega
      ·have d1:decide ((j:Int)<(ks.length:Int))=false:=dF (by omega)
       obtain rfl:j=ks.length:=by omega
       have mE:=I (show BW w0 g (l++(60::n)++eH ats++[62]++cB t++dY ks) wr by have:=Ls.J;rwa [List.take_length]at this);obtain⟨hg,h0,h1,h2,h3,_⟩:=HE.J.fresh mE.J.vV;replace h0:wr.cell? ⟨ge,oe,none⟩=some (.string ⟨n.toArray⟩):=h0;have hadd:=fun W:World=>run_string_add_lists (P:=Tryz.prog) W [60,47] n (by simp) (by omega)
       have abu:=fun W:World=>run_string_add_lists (P:=Tryz.prog) W ([60,47]++n) [62] (by simp;omega) (by simp)
       clear h1 h2 h3 d1 hj;go_wp2_with fail
       rw[show((⟨(60::47::n).toArray⟩:ByteArray)++⟨#[62]⟩)=⟨(60::47::(n++[62])).toArray⟩from by apply ByteArray.ext;simp[ByteArray.data_append]];refine(yl mE.J (60::47::(n++[62])) (by simp only[List.length_append,List.length_cons,List.length_nil];omega)).mono ?_;rintro _ w9 ⟨rfl,qG,Lt⟩;have jN:=I qG;have HK9:=I (Rf.J.trans Lt);clear qG Lt;go_wp2_with fail
       go_end0
       exact⟨rfl,by rw[HW2.J];simpa[List.append_assoc]using jN.J,HK9.J⟩
theorem WY(e:E):Jn e:=U.E.ind (p:=Jn) TQ e
end
section
open Go.RowKit
open U (E aA eO)
def zO(e:E):List UInt8:=if U.valid e then eO e else []
def vz(e:E):Int:=if U.valid e then 0 else 1
theorem TS(e:E)(va vk:Value)(w:World)(hr:bN w e va vk)(hl:U.valid e=true→(eO e).length≤8000000):
  Calls Tryz.prog 31 #[ev e va vk] w fun x w'=>x=.returned (.tuple #[.string ⟨(zO e).toArray⟩,.int .i64 (vz e)])∧ag w w':=by
 have HV:=I (fun(w:World) (h:bN w e va vk)=>CX e va vk w h);obtain⟨A,ca,hva⟩:=hr.1.slice;obtain⟨B,cb,hvk⟩:=hr.2.1.slice;have HR:=I hr;have HL:=I hl;have HX:=I (WY e);have Dy:=I (show zO e=if U.valid e then eO e else []from rfl);have EM:=I (show vz e=if U.valid e then 0 else 1 from rfl);subst hva;subst hvk;clear hr hl;obtain⟨n,ats,ks,t⟩:=e;unfold ev at*;simp only[E.name,E.attrs,E.kids,E.text]at*;cases hv:U.valid (.mk n ats ks t)with
 |false=>
  have HP:=I (show zO (.mk n ats ks t)=[] by rw[Dy.J,hv];rfl);have HE:=I (show vz (.mk n ats ks t)=1 by rw[EM.J,hv];rfl);rw[HP.J,HE.J];go_enter Tryz.func31,Tryz.ntmps31;go_wp2_with fail
  refine(HV.J _ (HR.J.fresh ((M _ w).alloc _))).mono ?_;rintro _ w1 ⟨rfl,hf⟩;rw[hv];have HF:=I (Touch.pre hf);clear hf;go_wp2
  go_ret2;exact⟨rfl,HF.J⟩
 |true=>
  have HP:=I (show zO (.mk n ats ks t)=eO (.mk n ats ks t) by rw[Dy.J,hv];rfl);have HE:=I (show vz (.mk n ats ks t)=0 by rw[EM.J,hv];rfl);rw[HP.J,HE.J];have HL2:=I (HL.J hv);go_enter Tryz.func31,Tryz.ntmps31;go_wp2_with fail
  refine(HV.J _ (HR.J.fresh ((M _ w).alloc _))).mono ?_;rintro _ w1 ⟨rfl,hf⟩;rw[hv];have HF:=I (Touch.pre hf);have hb0:=hf.blk (O.new w 45 #[.string ⟨n.toArray⟩,.slice A ats.length ca,.slice B ks.length cb,.string ⟨t.toArray⟩]) (fun h=>h);obtain⟨q0,q1,q2,q3,_,_,_,_,hg⟩:=O.four hb0;have nU:=I (show fC w1 w.heap.size 0 (.mk n ats ks t) (.slice A ats.length ca) (.slice B ks.length cb)from⟨hg,q0,q1,q2,q3,HR.J.fresh HF.J⟩);clear hf hb0 q0 q1 q2 q3 hg;go_wp2_with fail
  refine(HX.J w1 w.heap.size 0 w1.heap.size _ _ [] _ nU.J (adQ w1 w1 (M _ _)) (by simpa using HL2.J)).mono ?_;rintro _ w2 ⟨rfl,hb2,_⟩;have HB2:=I hb2;clear hb2;go_wp2_with fail
  refine(WV HB2.J).mono ?_;rintro _ w3 ⟨rfl,hf3,_⟩;have bC:=I (HF.J.trans hf3);clear hf3;go_wp2
  go_ret2;exact⟨rfl,bC.J⟩
end
section
open Go.RowKit
open Tr (Nd)
open U (E az bM)
def lu(B:Nat)(w:World)(vo:Value)(L r:List E)(B2:Nat)(v2:Value)(cs0:List Value):Prop:=B≤B2∧(∀k,vo.ownBlock=some k→k<B2)∧
 w.ownsRow B 45 4 vo (L.length+1) (cs0++[.string ⟨bM.toArray⟩,.slice none 0 0,v2,.string ⟨#[]⟩])∧aZ (fun k=>vo.ownBlock=some k∨k<B∨B2≤k) w (fun W=>kW W L cs0)∧dO B2 w r v2
theorem lu.grow{B:Nat}{w:World}{vo:Value}{L r:List E}{B2:Nat}{v2:Value}{cs0:List Value}(h:lu B w vo L r B2 v2 cs0):dO B w (L++[az bM r]) vo:=by
 obtain⟨h1,h2,h3,h4,h5⟩:=h;refine⟨Nat.le_trans h1 h5.base,_,by rw[List.length_append];exact h3,?_⟩;refine((h4.mono fun i _ hi=>hi.imp id .inl).and (h5.done.mono fun i _ hi=>?_)).imp fun W ⟨g1,g2⟩=>g1.append (kW.one (e:=az bM r) ⟨dW.nil _ _ _,g2,show bM.length≤maxLen by decide,Nat.zero_le _⟩)
 rcases hi with hi|hi
 ·exact h2 i hi
 ·omega
theorem lu.mv{B:Nat}{w w1:World}{vo:Value}{L r:List E}{B2:Nat}{v2:Value}{cs0:List Value}{S:Nat→Prop}(h:lu B w vo L r B2 v2 cs0)(ht:Touch S w w1)(hS:∀k,S k→k<w.heap.size→k<B):lu B w1 vo L r B2 v2 cs0:=by
 obtain⟨h1,h2,h3,h4,h5⟩:=h;refine⟨h1,h2,fI h3 ht fun k hk hs=>?_,h4.step ht (fun i hi hs=>.inr (.inl (hS i hs hi))) (fun _ _ h=>h),h5.mv ht fun k hk hl=>Nat.lt_of_lt_of_le (hS k hk hl) h1⟩;have h6:=h3.lt k hk;have:=hS k hs h6.2;omega
theorem lu.fresh{B:Nat}{w w1:World}{vo:Value}{L r:List E}{B2:Nat}{v2:Value}{cs0:List Value}(h:lu B w vo L r B2 v2 cs0)(ht:ag w w1):lu B w1 vo L r B2 v2 cs0:=h.mv ht fun _ h=>h.elim
theorem lu.len{B:Nat}{w:World}{vo:Value}{L r:List E}{B2:Nat}{v2:Value}{cs0:List Value}(h:lu B w vo L r B2 v2 cs0):cs0.length=L.length*4:=by
 have:=h.2.2.1.1;rw[List.length_append]at this;simp only[List.length_cons,List.length_nil]at this;omega
theorem lu.last{B n:Nat}{w:World}{vo:Value}{L r:List E}{B2:Nat}{v2:Value}{cs0:List Value}(h:lu B w vo L r B2 v2 cs0)(hn:L.length=n):∃g cap,vo=.slice (some ⟨g,0,none⟩) (n+1) cap∧B≤g∧g<w.heap.size∧w.cell? ⟨g,n*4+2,none⟩=some v2∧w.frozen? ⟨g,n*4+2,none⟩=false:=by
 subst hn;have hl:=h.len;obtain⟨_,_,h3,_⟩:=h
 obtain⟨g,cap,rfl,hb⟩:∃g cap,vo=.slice (some ⟨g,0,none⟩) (L.length+1) cap∧B≤g:=by
  rcases h3.2 with⟨_,h0⟩|⟨g,cap,cur,e,hb,_⟩
  ·omega
  ·exact⟨g,cap,e,hb⟩
 have h4:=h3.cellAt (L.length*4+2) (by omega);refine⟨g,cap,rfl,hb,(h3.lt g rfl).2,?_,h3.frozenAt _⟩;rw[h4,List.getElem?_append_right (by omega),show L.length*4+2-cs0.length=2 by omega];rfl
theorem lu.push{B:Nat}{w5 w7 w8 W:World}{vo:Value}{L r:List E}{B2:Nat}{v2 v2' va vk:Value}{cs0 cs2:List Value}{e:E}{g g2:Nat}(h:lu B w5 vo L r B2 v2 cs0)(hi:w5.ownsRow B2 45 4 v2 r.length cs2)(hsi:aZ (fun k=>v2.ownBlock=some k∨k<B2) w5 fun W=>kW W r cs2)
  (h57:ag w5 w7) (z8:aZ (fun k=>k<w5.heap.size) w7 fun W=>bN W e va vk) (ht:Touch (fun k=>v2.ownBlock=some k) w7 w8) (hv:v2'.ownBlock=v2.ownBlock∨v2'.ownBlock=some w7.heap.size)
  (hvo:vo.ownBlock=some g) (hv2:v2'.ownBlock=some g2) (hW:Touch (fun k=>k=g2∨k=g) w8 W) (h9:W.ownsRow B2 45 4 v2' (r.length+1) (cs2++[.string ⟨e.name.toArray⟩,va,vk,.string ⟨e.text.toArray⟩]))
  (h10:W.ownsRow B 45 4 vo (L.length+1) (cs0++[.string ⟨bM.toArray⟩,.slice none 0 0,v2',.string ⟨#[]⟩])):lu B W vo L (r++[e]) B2 v2' cs0:=by
 obtain⟨h1,h2,h3,h4,h5⟩:=h;have hg:=h2 g hvo;have hB5:=h5.base;have hl2:∀k,v2.ownBlock=some k→B2≤k∧k<w5.heap.size:=fun k hk=>hi.lt k hk
 have hg2:∀i,i<w7.heap.size→i=g2→v2.ownBlock=some i:=fun i hi he=>by
  subst he
  rcases hv with hv|hv<;>rw[hv2]at hv
  ·exact hv.symm
  ·cases hv;omega
 have hsz:=h57.size;refine⟨h1,h2,h10,?_,?_⟩
 ·refine(((h4.fresh h57).step (S2:=fun k=>vo.ownBlock=some k∨k<B∨B2≤k) ht (fun i hi hs=>.inr (.inr (hl2 i hs).1)) (fun _ _ h=>h)).step hW (fun i hi hs=>?_) (fun _ _ h=>h))
  rcases hs with hs|hs
  ·rcases Nat.lt_or_ge i w7.heap.size with h6|h6
   ·exact .inr (.inr (hl2 i (hg2 i h6 hs)).1)
   ·exact .inr (.inr (by omega))
  ·subst hs;exact .inl hvo
 ·refine⟨Nat.le_trans (Nat.le_trans hB5 hsz) (Nat.le_trans ht.size hW.size),_,by rw[List.length_append];exact h9,?_⟩
  have e1:∀i,i<w7.heap.size→(v2'.ownBlock=some i∨i<B2)→(v2.ownBlock=some i∨i<B2):=fun i hi hs=>by
   rcases hs with hs|hs
   ·rcases hv with h6|h6<;>rw[h6]at hs
    ·exact .inl hs
    ·cases hs;omega
   ·exact .inr hs
  have hT:∀W',Touch (fun k=>v2'.ownBlock=some k∨k<B2) W W'→Touch (fun k=>v2.ownBlock=some k∨k<B2) w7 W':=fun W' hW'=>by
   have a1:Touch (fun k=>v2.ownBlock=some k∨k<B2) w7 W:=ht.join hW (fun i _ hs=>.inl hs) fun i hi hs=>by
    rcases hs with hs|hs
    ·exact .inl (hg2 i hi hs)
    ·subst hs;exact .inr hg
   exact a1.join hW' (fun _ _ h=>h) e1
  intro W' hW';have a2:=hT W' hW';refine kW.append ((hsi.fresh h57) W' a2) (kW.one (z8 W' (a2.mono fun i hs=>?_)))
  rcases hs with hs|hs
  ·exact(hl2 i hs).2
  ·omega
theorem Hq{w:World}{B t g n cap:Nat}{xs:List Value}{z0 z1 z2 z3:Value}(h:w.ownsRow B t 4 (.slice (some ⟨g,0,none⟩) (n+1) cap) (n+1) (xs++[z0,z1,z2,z3]))(y0 y1 y2 y3:Value):
  ((((w.setCell ⟨g,n*4,none⟩ y0).setCell ⟨g,n*4+1,none⟩ y1).setCell ⟨g,n*4+2,none⟩ y2).setCell ⟨g,n*4+3,none⟩ y3).ownsRow B t 4 (.slice (some ⟨g,0,none⟩) (n+1) cap) (n+1) (xs++[y0,y1,y2,y3]):=by
 have hl:xs.length=n*4:=by have:=h.1;rw[List.length_append]at this;simp only[List.length_cons,List.length_nil]at this;omega
 have h1:=(((((h.stored (n*4) y0).1.stored (n*4+1) y1).1).stored (n*4+2) y2).1.stored (n*4+3) y3).1
 have e:((((xs++[z0,z1,z2,z3]).set (n*4) y0).set (n*4+1) y1).set (n*4+2) y2).set (n*4+3) y3=xs++[y0,y1,y2,y3]:=by
  rw[List.set_append_right _ _ (by omega),List.set_append_right _ _ (by omega),List.set_append_right _ _ (by omega),List.set_append_right _ _ (by omega),show n*4-xs.length=0 by omega,show n*4+1-xs.length=1 by omega,show n*4+2-xs.length=2 by omega,show n*4+3-xs.length=3 by omega];rfl
 rw[e]at h1;exact h1
theorem EN{w:World}{B t g n cap:Nat}{xs:List Value}{z0 z1 z2 z3:Value}(h:w.ownsRow B t 4 (.slice (some ⟨g,0,none⟩) (n+1) cap) (n+1) (xs++[z0,z1,z2,z3]))(y:Value):
  (w.setCell ⟨g,n*4+2,none⟩ y).ownsRow B t 4 (.slice (some ⟨g,0,none⟩) (n+1) cap) (n+1) (xs++[z0,z1,y,z3]):=by
 have hl:xs.length=n*4:=by have:=h.1;rw[List.length_append]at this;simp only[List.length_cons,List.length_nil]at this;omega
 have h1:=(h.stored (n*4+2) y).1
 have e:(xs++[z0,z1,z2,z3]).set (n*4+2) y=xs++[z0,z1,y,z3]:=by
  rw[List.set_append_right _ _ (by omega),show n*4+2-xs.length=2 by omega];rfl
 rw[e]at h1;exact h1
def mG(w:World)(g o:Nat)(x0 x1 x2 x3:Value):World:=(((w.setCell ⟨g,o,none⟩ x0).setCell ⟨g,o+1,none⟩ x1).setCell ⟨g,o+2,none⟩ x2).setCell ⟨g,o+3,none⟩ x3
theorem kF(w:World)(g o:Nat)(x0 x1 x2 x3:Value):Touch (fun k=>k=g) w (mG w g o x0 x1 x2 x3):=
 ((((M (fun k=>k=g) w).setCell (p:=⟨g,o,none⟩) (.inl rfl) _).setCell (p:=⟨g,o+1,none⟩) (.inl rfl) _).setCell (p:=⟨g,o+2,none⟩) (.inl rfl) _).setCell (p:=⟨g,o+3,none⟩) (.inl rfl) _
theorem wL(w:World)(g o:Nat)(x:Value):Touch (fun k=>k=g) w (w.setCell ⟨g,o,none⟩ x):=(M (fun k=>k=g) w).setCell (p:=⟨g,o,none⟩) (.inl rfl) _
theorem lu.stores{B n:Nat}{w5 w7 w8:World}{L r:List E}{B2:Nat}{v2 va vk z0 z1 z2 z3:Value}{cs0 cs2:List Value}{e:E}{g c g2 c2:Nat}(h:lu B w5 (.slice (some ⟨g,0,none⟩) (n+1) c) L r B2 v2 cs0)(hn:L.length=n)(hi:w5.ownsRow B2 45 4 v2 r.length cs2)(hsi:aZ (fun k=>v2.ownBlock=some k∨k<B2) w5 fun W=>kW W r cs2)
  (h57:ag w5 w7) (z8:aZ (fun k=>k<w5.heap.size) w7 fun W=>bN W e va vk) (h8:w8.ownsRow B2 45 4 (.slice (some ⟨g2,0,none⟩) (r.length+1) c2) (r.length+1) (cs2++[z0,z1,z2,z3])) (ht:Touch (fun k=>v2.ownBlock=some k) w7 w8) (hv:(Value.slice (some ⟨g2,0,none⟩) (r.length+1) c2).ownBlock=v2.ownBlock∨(Value.slice (some ⟨g2,0,none⟩) (r.length+1) c2).ownBlock=some w7.heap.size):
  lu B ((mG w8 g2 (r.length*4) (.string ⟨e.name.toArray⟩) va vk (.string ⟨e.text.toArray⟩)).setCell ⟨g,n*4+2,none⟩ (.slice (some ⟨g2,0,none⟩) (r.length+1) c2)) (.slice (some ⟨g,0,none⟩) (n+1) c) L (r++[e]) B2 (.slice (some ⟨g2,0,none⟩) (r.length+1) c2) cs0∧
  lu B (mG (w8.setCell ⟨g,n*4+2,none⟩ (.slice (some ⟨g2,0,none⟩) (r.length+1) c2)) g2 (r.length*4) (.string ⟨e.name.toArray⟩) va vk (.string ⟨e.text.toArray⟩)) (.slice (some ⟨g,0,none⟩) (n+1) c) L (r++[e]) B2 (.slice (some ⟨g2,0,none⟩) (r.length+1) c2) cs0:=by
 subst hn;have hg:g<B2:=h.2.1 g rfl;have hg2:B2≤g2:=(h8.lt g2 rfl).1
 have ho:w8.ownsRow B 45 4 (.slice (some ⟨g,0,none⟩) (L.length+1) c) (L.length+1) (cs0++[.string ⟨bM.toArray⟩,.slice none 0 0,v2,.string ⟨#[]⟩]):=
  fI (fI h.2.2.1 h57 fun k _ hs=>hs) ht fun k hk hs=>by cases hk;have:=(hi.lt g hs).1;omega
 constructor
 ·refine h.push hi hsi h57 z8 ht hv rfl rfl ((kF w8 g2 _ _ _ _ _|>.mono fun i hi=>.inl hi).trans (wL _ g _ _|>.mono fun i hi=>.inr hi)) ?_ ?_
  ·exact fI (Hq h8 _ _ _ _) (wL _ g _ _) fun k hk hs=>by cases hk;have hs:g2=g:=hs;omega
  ·exact EN (fI ho (kF w8 g2 _ _ _ _ _) fun k hk hs=>by cases hk;have hs:g=g2:=hs;omega) _
 ·refine h.push hi hsi h57 z8 ht hv rfl rfl ((wL w8 g _ _|>.mono fun i hi=>.inr hi).trans (kF _ g2 _ _ _ _ _|>.mono fun i hi=>.inl hi)) ?_ ?_
  ·exact Hq (fI h8 (wL _ g _ _) fun k hk hs=>by cases hk;have hs:g2=g:=hs;omega) _ _ _ _
  ·exact fI (EN ho _) (kF _ g2 _ _ _ _ _) fun k hk hs=>by cases hk;have hs:g=g2:=hs;omega
section
variable {w:World} {ops:Array Oper} {rest:List Oper} {o:Oper} {a:Act} {Q:Exit→Act→World→Prop}
theorem EO(hgd:o.guard=none)(s x:Operand)
  (ho:o.op=.call {callee:=.builtin .append,args:=#[s,x],argTypes:=#[43,43]})
  {B n g:Nat} {es:List E} {v:Value} (h:dO B w es v) (hn:es.length=n) (hs:a.eval s=v) (hb:O w g 45 #[.string ⟨bM.toArray⟩,.slice none 0 0,.slice none 0 0,.string ⟨#[]⟩]) (hx:a.eval x=.slice (some ⟨g,0,none⟩) 1 1) (hlen:n<2^40)
  (hK:∀A cp w' cs0,lu B w' (.slice A (n+1) cp) es [] w'.heap.size (.slice none 0 0) cs0→Touch (fun k=>v.ownBlock=some k) w w'→wpList Tryz.prog ops Q rest (a.put o.dst (.slice A (n+1) cp)) w'):wpList Tryz.prog ops Q (o::rest) a w:=by
 subst hn;obtain⟨hBw,cs,h1,h2⟩:=h;obtain⟨i,hi,hz0,hz1,hz2⟩:=info_parts Co;have h3:∀u∈[Value.string ⟨bM.toArray⟩,.slice none 0 0,.slice none 0 0,.string ⟨#[]⟩],u.oneCell'=true:=by simp[Value.oneCell']
 refine jT _ hgd s x 43 ho B 45 i _ 4 80 Tryz.underlying43 hi hz0 hz1 hz2 rfl (by decide) v es.length cs hs h1 _ 1 _ hx (Src.xR hb rfl) h3 (by simp only[maxLen];omega) (by omega) hBw fun v' w' ho' hgr hv'=>?_
 obtain⟨A,cp,rfl⟩:=rT ho';have ht:Touch (fun k=>v.ownBlock=some k) w w':=Touch.grown (M _ _) hgr fun k hk=>.inl hk
 refine hK A cp w' cs ⟨Nat.le_trans hBw hgr.size,fun k hk=>(ho'.lt k hk).2,ho',?_,dO.nil (Nat.le_refl _)⟩ ht;refine h2.step ht (fun i _ hs=>.inl hs) fun i hi hs=>?_
 rcases hs with hs|hs|hs
 ·rcases hv' with h6|h6<;>rw[h6]at hs
  ·exact .inl hs
  ·cases hs;omega
 ·exact .inr hs
 ·have:=hgr.size;omega
end
end
end Go.Proofs.YtnbeemkfmlfgfaaGreatDoor
