/- Part 30 of 46 of a proof. No condition. -/
import Derived.Test.YtcgbccfpcgaikaaGreatDoorYm5
import Derived.Test.YtcgbccfpcgaikaaGreatDoorYm28
set_option maxRecDepth 100000
set_option maxHeartbeats 4000000
namespace Go.Proofs.YtcgbccfpcgaikaaGreatDoor
section
open Go.RowKit
open U (E aJ dV iH)
def Kb(w w':World):Prop:=∀k T cs,T≠5→T≠42→af w k T cs→af w' k T cs
theorem Kb.refl(w:World):Kb w w:=fun _ _ _ _ _ h=>h
theorem Kb.trans{a b c:World}(h:Kb a b)(h':Kb b c):Kb a c:=fun k T cs h1 h2 h3=>h' k T cs h1 h2 (h k T cs h1 h2 h3)
structure BW(w0:World)(g:Nat)(l:List UInt8)(w:World):Prop where
 dW:∃cs v,uU w (g+1) g 0 42 cs v l∧cs.size=2
 xV:ag w0 w
 le:w0.heap.size≤g
theorem BW.lt{w0 w:World}{g:Nat}{l:List UInt8}(h:BW w0 g l w):g<w.heap.size:=by
 obtain⟨cs,v,h1,_⟩:=h.dW;exact h1.lt
theorem aaw{w:World}{B b o:Nat}{T:TypeId}{cs:Array Value}{v:Value}{l:List UInt8}(h:uU w B b o T cs v l){w':World}(hf:ag w w'):uU w' B b o T cs v l:=
 ⟨hf.blk h.blk (fun h=>h),h.addr,h.buf,aQ h.own hf (fun _ _ h=>h),h.ne,h.J7⟩
theorem BW.fresh{w0 w w':World}{g:Nat}{l:List UInt8}(h:BW w0 g l w)(hf:ag w w'):BW w0 g l w':=by
 obtain⟨cs,v,h1,h2⟩:=h.dW;exact⟨⟨cs,v,aaw h1 hf,h2⟩,h.xV.trans hf,h.le⟩
theorem ag.kb{w w':World}(hf:ag w w'):Kb w w':=fun _ _ _ _ _ h=>hf.blk h fun h=>h
theorem KF{w:World}{k:Nat}{T T':TypeId}{cs cs':Array Value}{s:Nat×Nat}(h:af w k T cs)(h':w.heap[k]?=some (.cells cs' T' s)):T=T':=by
 unfold af at h;rw[h]at h';cases h';rfl
theorem BW.step{w0 w w':World}{g:Nat}{l:List UInt8}{cs:Array Value}{v:Value}(h:BW w0 g l w)(hb:uU w (g+1) g 0 42 cs v l){m:List UInt8}{cs':Array Value}{v':Value}
  (hb':uU w' (g+1) g 0 42 cs' v' m) (hs:cs'.size=2) (ht:Touch (fun k=>k=g∨v.ownBlock=some k) w w'):BW w0 g m w'∧Kb w w':=by
 have hl:=h.le;refine⟨⟨⟨cs',v',hb',hs⟩,h.xV.trans' ht ?_,h.le⟩,fun k T ds h1 h2 h3=>ht.blk h3 ?_⟩
 ·rintro i (h1|h1)
  ·right;omega
  ·right;have:=(hb.own.lt _ h1).1;omega
 ·rintro(h4|h4)
  ·subst h4
   exact h2 (KF h3 hb.blk)
  ·obtain⟨_,h5⟩:=hb.own
   rcases h5 with⟨h5,_⟩|⟨g',cap,cur,h5,_,h6,_⟩
   ·rw[h5]at h4;cases h4
   ·rw[h5]at h4
    cases h4;exact h1 (KF h3 h6)
theorem Nc{w0 w:World}{g:Nat}{l:List UInt8}(h:BW w0 g l w)(x:Int)(c:UInt8)(hx:x=c.toNat)(hl:l.length+1≤140737488355328):
  Calls Tryz.prog 77 #[.pointer (some ⟨g,0,none⟩),.int .u8 x] w fun e w'=>e=.returned .nilIface∧BW w0 g (l++[c]) w'∧Kb w w':=by
 obtain⟨cs,v,hb,hs⟩:=h.dW;refine(iP hb (by rw[hs];exact liesBuilder) x c hx hl (by have:=h.lt;omega)).mono ?_;rintro _ w' ⟨rfl,v',hb',ht⟩;exact⟨rfl,h.step hb hb' (by simp[hs]) ht⟩
theorem Ah{w0 w:World}{g:Nat}{l:List UInt8}(h:BW w0 g l w)(m:List UInt8)(hl:l.length+m.length≤140737488355328):
  Calls Tryz.prog 75 #[.pointer (some ⟨g,0,none⟩),.string ⟨m.toArray⟩] w fun e w'=>e=.returned (.tuple #[.int .i64 m.length,.nilIface])∧BW w0 g (l++m) w'∧Kb w w':=by
 obtain⟨cs,v,hb,hs⟩:=h.dW;refine(uL hb (by omega) (by rw[hs];exact liesBuilder) ⟨m.toArray⟩ (by show _+m.toArray.size≤_;simpa using hl) (by have:=h.lt;omega)).mono ?_;rintro _ w' ⟨rfl,v',hb',ht⟩;exact⟨by show _=Ending.returned (.tuple #[.int .i64 (m.length:Nat),.nilIface]);simp[ByteArray.size],h.step hb (by simpa using hb') (by simp[hs]) ht⟩
theorem aax{w0 w:World}{g:Nat}{l:List UInt8}(h:BW w0 g l w):
  Calls Tryz.prog 18 #[.pointer (some ⟨g,0,none⟩)] w fun e w'=>e=.returned (.string ⟨l.toArray⟩)∧ag w0 w'∧Kb w w':=by
 obtain⟨cs,v,hb,hs⟩:=h.dW;have hl:=h.le;refine(zI hb).mono ?_;rintro _ w' ⟨rfl,ht⟩;refine⟨rfl,h.xV.trans' ht (fun i h1=>by right;have:=(hb.own.lt _ h1).1;omega),fun k T ds h1 h2 h3=>ht.blk h3 fun h4=>?_⟩;obtain⟨_,h5⟩:=hb.own
 rcases h5 with⟨h5,_⟩|⟨g',cap,cur,h5,_,h6,_⟩
 ·rw[h5]at h4;cases h4
 ·rw[h5]at h4
  cases h4;exact h1 (KF h3 h6)
theorem af6(w0 w:World)(h:ag w0 w):BW w0 w.heap.size [] (w.alloc (.cells #[.pointer none,.slice none 0 0] 42)):=
 ⟨⟨_,_,⟨af.new _ _ _,.inl rfl,rfl,World.ownsRow_nil _ _ _ _,by simp[Value.ownBlock],fun _=>rfl⟩,rfl⟩,h.alloc _,h.size⟩
theorem ae2(s:List UInt8)(j:Nat):(dV (s.take j)).length≤(dV s).length:=by
 have:dV s=dV (s.take j)++dV (s.drop j):=by unfold U.dV;rw[←List.flatMap_append,List.take_append_drop]
 rw[this,List.length_append];omega
theorem aay(s:List UInt8)(j:Nat)(h:j<s.length):dV (s.take (j+1))=dV (s.take j)++iH s[j]:=by
 rw[List.take_succ_eq_append_getElem h,U.Z6]
theorem Ml(s:List UInt8)(w0:World)(g:Nat)(l:List UInt8)(w:World)(h:BW w0 g l w)(hl:l.length+(dV s).length≤140737488355328)(hs:s.length≤9223372036854775807):
  Calls Tryz.prog 76 #[.pointer (some ⟨g,0,none⟩),.string ⟨s.toArray⟩] w fun e w'=>e=.returned (.tuple #[])∧BW w0 g (l++dV s) w'∧Kb w w':=by
 have H:=hid h;have HL:=hid hl;have xI:=hid (show(⟨s.toArray⟩:ByteArray).size=s.length from by simp[ByteArray.size]);obtain⟨t,ht⟩:∃t:ByteArray,t=⟨s.toArray⟩:=⟨_,rfl⟩;rw[←ht];rw[←ht]at xI;have Oj:=hid ht;have hm:t.size≤9223372036854775807:=by rw[xI.out];exact hs
 clear h hl ht;go_enter Tryz.func76,Tryz.ntmps76;go_wp2
 go_loopw [4] (fun i wr=>∃j:Nat,i=.int .i64 j∧j≤t.size∧Hd (BW w0 g (l++dV (s.take j)) wr)∧Hd (Kb w wr)) (fun i _=>t.size-(intOf i).toNat)
 case atStart=>exact⟨0,rfl,Nat.zero_le _,hid (by simpa[U.acm]using H.out),Kb.refl _⟩
 case round=>
  obtain⟨j,rfl,hj,HB,HK⟩:=hrel
  by_cases c1:j<t.size
  ·have d1:decide ((j:Int)<(t.size:Int))=true:=dT (by omega)
   have d1':(j:Int)<(t.size:Int):=by omega
   have jo:decide (j<t.size)=true:=dT (by omega);have c1s:j<s.length:=by rw[←xI.out];exact c1
   obtain⟨b,hb⟩:∃b,t[j]'c1=b:=⟨_,rfl⟩;have HSB:=hid (show s[j]=b by rw[←hb];have:=Oj.out;subst this;rfl);have HST:=hid (aay s j c1s);have AJ:=hid (show(dV (s.take j)).length+(iH s[j]).length≤(dV s).length by rw[←List.length_append,←HST.out];exact ae2 s (j+1));rw[HSB.out]at HST AJ;clear HSB
   by_cases c2:b=38
   ·have b2:((b.toNat:Int)==38)=true:=sP _ 38 c2
    have Dj:=hid (show iH b=[38,97,109,112,59] by unfold U.iH;rw[if_pos c2]);go_wp2_with fail
    refine(Ah HB.out [38,97,109,112,59] (by have:=AJ.out;rw[Dj.out]at this;have:=HL.out;rw[List.length_append];omega)).mono ?_;rintro _ w2 ⟨rfl,hb2,hk2⟩;have HB2:=hid hb2;have uP:=hid (HK.out.trans hk2);clear hb2 hk2;go_wp2
    go_roundw
    case rel=>exact⟨j+1,by go_num,c1,by unfold Hd;rw[HST.out,Dj.out,←List.append_assoc];exact HB2.out,uP⟩
    case measure=>simp[intOf];omega
   have b2:((b.toNat:Int)==38)=false:=qW _ 38 c2
   by_cases c3:b=60
   ·have b3:((b.toNat:Int)==60)=true:=sP _ 60 c3
    have Dj:=hid (show iH b=[38,108,116,59] by unfold U.iH;rw[if_neg c2,if_pos c3]);go_wp2_with fail
    refine(Ah HB.out [38,108,116,59] (by have:=AJ.out;rw[Dj.out]at this;have:=HL.out;rw[List.length_append];omega)).mono ?_;rintro _ w2 ⟨rfl,hb2,hk2⟩;have HB2:=hid hb2;have uP:=hid (HK.out.trans hk2);clear hb2 hk2;go_wp2
    go_roundw
    case rel=>exact⟨j+1,by go_num,c1,by unfold Hd;rw[HST.out,Dj.out,←List.append_assoc];exact HB2.out,uP⟩
    case measure=>simp[intOf];omega
   have b3:((b.toNat:Int)==60)=false:=qW _ 60 c3
   by_cases c4:b=62
   ·have b4:((b.toNat:Int)==62)=true:=sP _ 62 c4
    have Dj:=hid (show iH b=[38,103,116,59] by unfold U.iH;rw[if_neg c2,if_neg c3,if_pos c4]);go_wp2_with fail
    refine(Ah HB.out [38,103,116,59] (by have:=AJ.out;rw[Dj.out]at this;have:=HL.out;rw[List.length_append];omega)).mono ?_;rintro _ w2 ⟨rfl,hb2,hk2⟩;have HB2:=hid hb2;have uP:=hid (HK.out.trans hk2);clear hb2 hk2;go_wp2
    go_roundw
    case rel=>exact⟨j+1,by go_num,c1,by unfold Hd;rw[HST.out,Dj.out,←List.append_assoc];exact HB2.out,uP⟩
    case measure=>simp[intOf];omega
   have b4:((b.toNat:Int)==62)=false:=qW _ 62 c4
   by_cases c5:b=34
   ·have b5:((b.toNat:Int)==34)=true:=sP _ 34 c5
    have Dj:=hid (show iH b=[38,113,117,111,116,59] by unfold U.iH;rw[if_neg c2,if_neg c3,if_neg c4,if_pos c5]);go_wp2_with fail
    refine(Ah HB.out [38,113,117,111,116,59] (by have:=AJ.out;rw[Dj.out]at this;have:=HL.out;rw[List.length_append];omega)).mono ?_;rintro _ w2 ⟨rfl,hb2,hk2⟩;have HB2:=hid hb2;have uP:=hid (HK.out.trans hk2);clear hb2 hk2;go_wp2
    go_roundw
    case rel=>exact⟨j+1,by go_num,c1,by unfold Hd;rw[HST.out,Dj.out,←List.append_assoc];exact HB2.out,uP⟩
    case measure=>simp[intOf];omega
   have b5:((b.toNat:Int)==34)=false:=qW _ 34 c5;have Dj:=hid (show iH b=[b] by unfold U.iH;rw[if_neg c2,if_neg c3,if_neg c4,if_neg c5]);go_wp2_with fail
   refine(Nc HB.out _ b rfl (by have:=AJ.out;rw[Dj.out]at this;have:=HL.out;rw[List.length_append];simp at*;omega)).mono ?_;rintro _ w2 ⟨rfl,hb2,hk2⟩;have HB2:=hid hb2;have uP:=hid (HK.out.trans hk2);clear hb2 hk2;go_wp2
   go_roundw
   case rel=>exact⟨j+1,by go_num,c1,by unfold Hd;rw[HST.out,Dj.out,←List.append_assoc];exact HB2.out,uP⟩
   case measure=>simp[intOf];omega
  ·have d1:decide ((j:Int)<(t.size:Int))=false:=dF (by omega)
   have jo:decide (j<t.size)=false:=dF (by omega);have nK:=hid (show s.take j=s from List.take_of_length_le (by rw[←xI.out];omega));go_wp2_with fail
   go_end0
   exact⟨rfl,by have:=HB.out;rwa [nK.out]at this,HK.out⟩
end
section
open Go.RowKit
open U (E aJ dV iH fB gF AV dw)
def Mm(e:E):Prop:=∀(w0:World) (ge oe g:Nat) (va vk:Value) (l:List UInt8) (w:World),gZ w0 ge oe e va vk→BW w0 g l w→l.length+(fB e).length≤8000000→
 Calls Tryz.prog 37 #[.pointer (some ⟨g,0,none⟩),.pointer (some ⟨ge,oe,none⟩)] w fun x w'=>x=.returned (.tuple #[])∧BW w0 g (l++fB e) w'∧Kb w w'
theorem X6(e:E)(ih:∀x∈e.kids,Mm x):Mm e:=by
 intro w0 ge oe g va vk l w he hb hl;obtain⟨n,ats,ks,t⟩:=e;have HE:=hid he;have HB:=hid hb;have HL:=hid hl;have q9:=hid ih;obtain⟨A,ca,hva⟩:=he.2.2.2.2.2.1.slice;obtain⟨B,cb,hvb⟩:=he.2.2.2.2.2.2.1.slice;replace hva:va=.slice A ats.length ca:=hva;replace hvb:vk=.slice B ks.length cb:=hvb;subst hva;subst hvb;have HW:=hid (show fB (.mk n ats ks t)=60::n++dw ats++(if t.isEmpty&&ks.isEmpty then [47,62]else 62::dV t++gF ks++([60,47]++n++[62])) by rw[fB])
 have hwl:l.length+(n.length+1+(dw ats).length)+2≤8000000:=by
  rw[HW.out]at hl
  have h2:2≤(if t.isEmpty&&ks.isEmpty then [47,62]else 62::dV t++gF ks++([60,47]++n++[62]):List UInt8).length:=by
   split
   ·simp
   ·simp only[List.length_append,List.length_cons];omega
  simp only[List.length_append,List.length_cons]at hl h2⊢;omega
 have hl1:ats.length≤maxLen:=by obtain⟨_,_,_,h,_⟩:=he.2.2.2.2.2.1;exact h.1
 have hl2:ks.length≤maxLen:=he.2.2.2.2.2.2.1.len;have htl:t.length≤maxLen:=he.2.2.2.2.2.2.2.2;unfold maxLen at hl1 hl2 htl;have hE1:=he.fresh hb.xV;obtain⟨hg,h0,h1,h2,h3,_⟩:=hE1;replace h0:w.cell? ⟨ge,oe,none⟩=some (.string ⟨n.toArray⟩):=h0;have hadd:=fun W:World=>run_string_add_lists (P:=Tryz.prog) W [60] n (by simp) (by omega)
 clear he hb hl ih;go_enter Tryz.func37,Tryz.ntmps37;go_wp2_with fail
 refine(Ah HB.out (60::n) (by simp;omega)).mono ?_;rintro _ w1 ⟨rfl,hb1,hk1⟩;have HB1:=hid hb1;have Dk:=hid hk1;clear hb1 hk1 h0 h1 h2 h3 hg hadd;obtain⟨hg,h0,h1,h2,h3,_⟩:=HE.out.fresh HB1.out.xV;replace h1:w1.cell? ⟨ge,oe+1,none⟩=some (.slice A ats.length ca):=h1;go_wp2_with fail
 clear hg h0 h1 h2 h3
 go_loopw [19] (fun i wr=>∃j:Nat,i=.int .i64 j∧j≤ats.length∧Hd (BW w0 g (l++(60::n)++dw (ats.take j)) wr)∧Hd (Kb w wr)) (fun i _=>ats.length-(intOf i).toNat)
 case atStart=>exact⟨0,rfl,Nat.zero_le _,hid (by simpa[dw]using HB1.out),Dk⟩
 case round=>
  obtain⟨j,rfl,hj,OI,VK⟩:=hrel
  by_cases c1:j<ats.length
  ·have d1:decide ((j:Int)<(ats.length:Int))=true:=dT (by omega)
   have d1':(j:Int)<(ats.length:Int):=by omega
   have HA:=hid (show gJ w0 ats _ from HE.out.2.2.2.2.2.1);obtain⟨ga,oa,rfl,hga,m0,m1,hx1,hx2⟩:=HA.out.get j c1;have e0:=OI.out.xV.cell m0 (fun h=>h);have f0:=OI.out.xV.cell m1 (fun h=>h);have HAS:=hid (U.UF ats j c1)
   have hxl:(dw (ats.take j)).length+((ats[j]).1.length+(dV (ats[j]).2).length+4)≤(dw ats).length:=by
    have:=U.Z7 ats (j+1);rw[HAS.out,List.length_append]at this;unfold U.AV at this;simp only[List.length_append,List.length_cons,List.length_nil]at this;omega
   have ai0:(ats[j]).2.length≤9223372036854775807:=hx2;clear m0 m1 hx1 hx2;generalize ats[j]=x at*;have ahg:=fun W:World=>run_string_add_lists (P:=Tryz.prog) W [32] x.1 (by simp) (by omega)
   have ad1:=fun W:World=>run_string_add_lists (P:=Tryz.prog) W (32::x.1) [61,34] (by simp;omega) (by simp)
   go_wp2_with fail
   refine(Ah (OI.out.fresh ((M _ wr).alloc (.cells #[.string ⟨x.1.toArray⟩,.string ⟨x.2.toArray⟩] 125))) (32::(x.1++[61,34])) (by simp only[List.length_append,List.length_cons,List.length_nil];omega)).mono ?_;rintro _ w3 ⟨rfl,hb3,hk3⟩;have hq:=hk3 _ _ _ (by decide) (by decide) (af.new wr 125 #[.string ⟨x.1.toArray⟩,.string ⟨x.2.toArray⟩]);have HB3:=hid hb3;have HK3:=hid (VK.out.trans ((ag.kb ((M _ wr).alloc _)).trans hk3));have HQ:=hid hq;have q1:w3.cell? ⟨wr.heap.size,1,none⟩=some (.string ⟨x.2.toArray⟩):=hq.cell 1;have qz:wr.heap.size<w3.heap.size:=hq.lt;clear hb3 hk3 e0 f0 ahg ad1 hq;go_wp2_with fail
   refine(Ml x.2 w0 g _ w3 HB3.out (by simp only[List.length_append,List.length_cons,List.length_nil];omega) ai0).mono ?_;rintro _ w4 ⟨rfl,hb4,hk4⟩;have iB:=hid hb4;have HK4:=hid (HK3.out.trans hk4);clear hb4 hk4 q1 qz;go_wp2_with fail
   refine(Nc iB.out _ 34 rfl (by simp only[List.length_append,List.length_cons,List.length_nil];omega)).mono ?_;rintro _ w5 ⟨rfl,hb5,hk5⟩;have eO:=hid (show BW w0 g (l++(60::n)++dw (ats.take (j+1))) w5 by rw[HAS.out];unfold U.AV;simpa[List.append_assoc]using hb5);have HK5:=hid (HK4.out.trans hk5);clear hb5 hk5;go_wp2
   go_roundw
   case rel=>exact⟨j+1,by go_num,c1,eO,HK5⟩
   case measure=>simp[intOf];omega
  ·have d1:decide ((j:Int)<(ats.length:Int))=false:=dF (by omega)
   obtain rfl:j=ats.length:=by omega
   have HB2:=hid (show BW w0 g (l++(60::n)++dw ats) wr by have:=OI.out;rwa [List.take_length]at this);obtain⟨hg,h0,h1,h2,h3,_⟩:=HE.out.fresh HB2.out.xV;replace h2:wr.cell? ⟨ge,oe+2,none⟩=some (.slice B ks.length cb):=h2;replace h3:wr.cell? ⟨ge,oe+3,none⟩=some (.string ⟨t.toArray⟩):=h3;clear h0 h1 d1 hj
   by_cases c2:t=[]∧ks.length=0
   ·obtain⟨rfl,ck⟩:=c2
    have hks:ks=[]:=List.eq_nil_of_length_eq_zero ck;have HW2:=hid (show fB (.mk n ats ks [])=60::n++dw ats++[47,62] by rw[HW.out,hks];rfl);have d2:((ks.length:Int)==0)=true:=by rw[ck];rfl
    clear hks ck;go_wp2_with fail
    refine(Ah HB2.out [47,62] (by simp only[List.length_append,List.length_cons,List.length_nil];omega)).mono ?_;rintro _ w6 ⟨rfl,hb6,hk6⟩;have gy:=hid hb6;have HK6:=hid (VK.out.trans hk6);clear hb6 hk6;go_wp2
    refine bodyPost_ret (results_none rfl _ _ _) rfl ?_;exact⟨rfl,by rw[HW2.out];simpa[List.append_assoc]using gy.out,HK6.out⟩
   ·have HW2:=hid (show fB (.mk n ats ks t)=60::n++dw ats++(62::dV t++gF ks++([60,47]++n++[62])) by
     rw[HW.out,if_neg];rw[Bool.and_eq_true,List.isEmpty_iff,List.isEmpty_iff];rintro⟨e1,e2⟩;exact c2 ⟨e1,by rw[e2];rfl⟩)
    have ak7:l.length+(n.length+1+(dw ats).length)+(1+(dV t).length+(gF ks).length+(n.length+3))≤8000000:=by
     have:=HL.out;rw[HW2.out]at this;simp only[List.length_append,List.length_cons,List.length_nil]at this;omega
    have hte:t.isEmpty=true→((ks.length:Int)==0)=false:=fun h=>by
     rw[beq_eq_false_iff_ne];intro h2;exact c2 ⟨List.isEmpty_iff.1 h,by omega⟩
    have Oj:=hid hte;clear c2 hte
    by_cases ct:t.isEmpty=true
    focus
     have d2:=Oj.out ct;have et:t.isEmpty=true:=ct;clear ct;go_wp2_with fail
    rotate_left
    focus
     have et:t.isEmpty=false:=by simpa using ct
     clear ct;go_wp2_with fail
    all_goals
     refine(Nc HB2.out _ 62 rfl (by simp only[List.length_append,List.length_cons];omega)).mono ?_;rintro _ w6 ⟨rfl,hb6,hk6⟩;have gy:=hid hb6;have HK6:=hid (VK.out.trans hk6);clear hb6 hk6 hg h2 h3;obtain⟨hg,h0,h1,h2,h3,_⟩:=HE.out.fresh gy.out.xV;replace h3:w6.cell? ⟨ge,oe+3,none⟩=some (.string ⟨t.toArray⟩):=h3;clear et
     try clear d2
     clear h0 h1 h2;go_wp2_with fail
     refine(Ml _ w0 g _ w6 gy.out (by simp only[List.length_append,List.length_cons,List.length_nil];omega) htl).mono ?_;rintro _ w7 ⟨rfl,oo,hk7⟩;have vv:=hid oo;have HK7:=hid (HK6.out.trans hk7);clear oo hk7 hg h3;obtain⟨hg,h0,h1,h2,h3,_⟩:=HE.out.fresh vv.out.xV;replace h2:w7.cell? ⟨ge,oe+2,none⟩=some (.slice B ks.length cb):=h2;clear h0 h1 h3;go_wp2_with fail
     clear hg h2
     go_loopw [64] (fun i wr=>∃j:Nat,i=.int .i64 j∧j≤ks.length∧Hd (BW w0 g (l++(60::n)++dw ats++[62]++dV t++gF (ks.take j)) wr)∧Hd (Kb w wr)) (fun i _=>ks.length-(intOf i).toNat)
     case atStart=>exact⟨0,rfl,Nat.zero_le _,hid (by simpa[U.gF]using vv.out),HK7⟩
     case round=>
      obtain⟨j,rfl,hj,OI,VK⟩:=hrel;rename_i wr _
      by_cases c1:j<ks.length
      ·have d1:decide ((j:Int)<(ks.length:Int))=true:=dT (by omega)
       have d1':(j:Int)<(ks.length:Int):=by omega
       obtain⟨gk,ok,wa,wk,rfl,jW⟩:=(show gK w0 ks _ from HE.out.2.2.2.2.2.2.1).yw j c1;have HS:=hid (U.UG ks j c1)
       have hsm:(gF (ks.take j)).length+(fB ks[j]).length≤(gF ks).length:=by
        rw[←List.length_append,←HS.out];exact U.Z8 ks (j+1)
       obtain⟨hg,h0,h1,h2,h3,_⟩:=HE.out.fresh OI.out.xV;replace h2:wr.cell? ⟨ge,oe+2,none⟩=some (.slice (some ⟨gk,ok,none⟩) ks.length cb):=h2;have HC:=hid (q9.out ks[j] (List.getElem_mem c1) w0 gk (ok+j*4) g wa wk _ wr jW OI.out (by simp only[List.length_append,List.length_cons,List.length_nil];omega));clear h0 h1 h3 jW;generalize ks[j]=x at*;go_wp2_with fail
       refine HC.out.mono ?_;rintro _ w8 ⟨rfl,o9,hk8⟩;have lT:=hid (show BW w0 g (l++(60::n)++dw ats++[62]++dV t++gF (ks.take (j+1))) w8 by rw[HS.out,←List.append_assoc];exact o9);have HK8:=hid (VK.out.trans hk8);clear o9 hk8 hg h2;go_wp2
       go_roundw
       case rel=>exact⟨j+1,by go_num,c1,lT,HK8⟩
       case measure=>simp[intOf];omega
      ·have d1:decide ((j:Int)<(ks.length:Int))=false:=dF (by omega)
       obtain rfl:j=ks.length:=by omega
       have lT:=hid (show BW w0 g (l++(60::n)++dw ats++[62]++dV t++gF ks) wr by have:=OI.out;rwa [List.take_length]at this);obtain⟨hg,h0,h1,h2,h3,_⟩:=HE.out.fresh lT.out.xV;replace h0:wr.cell? ⟨ge,oe,none⟩=some (.string ⟨n.toArray⟩):=h0;have hadd:=fun W:World=>run_string_add_lists (P:=Tryz.prog) W [60,47] n (by simp) (by omega)
       have ad1:=fun W:World=>run_string_add_lists (P:=Tryz.prog) W ([60,47]++n) [62] (by simp;omega) (by simp)
       clear h1 h2 h3 d1 hj;go_wp2_with fail
       rw[show((⟨(60::47::n).toArray⟩:ByteArray)++⟨#[62]⟩)=⟨(60::47::(n++[62])).toArray⟩from by apply ByteArray.ext;simp[ByteArray.data_append]];refine(Ah lT.out (60::47::(n++[62])) (by simp only[List.length_append,List.length_cons,List.length_nil];omega)).mono ?_;rintro _ w9 ⟨rfl,kD,hk9⟩;have yz:=hid kD;have HK9:=hid (VK.out.trans hk9);clear kD hk9;go_wp2_with fail
       go_end0
       exact⟨rfl,by rw[HW2.out];simpa[List.append_assoc]using yz.out,HK9.out⟩
theorem aaz(e:E):Mm e:=U.E.ind (p:=Mm) X6 e
end
section
open Go.RowKit
open U (E aJ fB)
def Ck(e:E):List UInt8:=if U.valid e then fB e else []
def xg(e:E):Int:=if U.valid e then 0 else 1
theorem X7(e:E)(va vk:Value)(w:World)(hr:jd w e va vk)(hl:U.valid e=true→(fB e).length≤8000000):
  Calls Tryz.prog 21 #[ev e va vk] w fun x w'=>x=.returned (.tuple #[.string ⟨(Ck e).toArray⟩,.int .i64 (xg e)])∧ag w w':=by
 have HV:=hid (fun(w:World) (h:jd w e va vk)=>Mg e va vk w h);obtain⟨A,ca,hva⟩:=hr.1.slice;obtain⟨B,cb,hvk⟩:=hr.2.1.slice;have HR:=hid hr;have HL:=hid hl;have HX:=hid (aaz e);have HPX:=hid (show Ck e=if U.valid e then fB e else []from rfl);have HPE:=hid (show xg e=if U.valid e then 0 else 1 from rfl);subst hva;subst hvk;clear hr hl;obtain⟨n,ats,ks,t⟩:=e;unfold ev at*;simp only[E.name,E.attrs,E.kids,E.text]at*;cases hv:U.valid (.mk n ats ks t)with
 |false=>
  have HP:=hid (show Ck (.mk n ats ks t)=[] by rw[HPX.out,hv];rfl);have HE:=hid (show xg (.mk n ats ks t)=1 by rw[HPE.out,hv];rfl);rw[HP.out,HE.out];go_enter Tryz.func21,Tryz.ntmps21;go_wp2_with fail
  refine(HV.out _ (HR.out.fresh ((M _ w).alloc _))).mono ?_;rintro _ w1 ⟨rfl,hf⟩;rw[hv];have HF:=hid (Touch.pre hf);clear hf;go_wp2
  go_ret2;exact⟨rfl,HF.out⟩
 |true=>
  have HP:=hid (show Ck (.mk n ats ks t)=fB (.mk n ats ks t) by rw[HPX.out,hv];rfl);have HE:=hid (show xg (.mk n ats ks t)=0 by rw[HPE.out,hv];rfl);rw[HP.out,HE.out];have HL2:=hid (HL.out hv);go_enter Tryz.func21,Tryz.ntmps21;go_wp2_with fail
  refine(HV.out _ (HR.out.fresh ((M _ w).alloc _))).mono ?_;rintro _ w1 ⟨rfl,hf⟩;rw[hv];have HF:=hid (Touch.pre hf);have hb0:=hf.blk (af.new w 55 #[.string ⟨n.toArray⟩,.slice A ats.length ca,.slice B ks.length cb,.string ⟨t.toArray⟩]) (fun h=>h);obtain⟨q0,q1,q2,q3,_,_,_,_,hg⟩:=af.four hb0;have F7:=hid (show gZ w1 w.heap.size 0 (.mk n ats ks t) (.slice A ats.length ca) (.slice B ks.length cb)from⟨hg,q0,q1,q2,q3,HR.out.fresh HF.out⟩);clear hf hb0 q0 q1 q2 q3 hg;go_wp2_with fail
  refine(HX.out w1 w.heap.size 0 w1.heap.size _ _ [] _ F7.out (af6 w1 w1 (M _ _)) (by simpa using HL2.out)).mono ?_;rintro _ w2 ⟨rfl,hb2,_⟩;have HB2:=hid hb2;clear hb2;go_wp2_with fail
  refine(aax HB2.out).mono ?_;rintro _ w3 ⟨rfl,hf3,_⟩;have bJ:=hid (HF.out.trans hf3);clear hf3;go_wp2
  go_ret2;exact⟨rfl,bJ.out⟩
end
section
open Go.RowKit
open Tr (Nd)
open U (E ax dU)
def kS(B:Nat)(w:World)(vo:Value)(L r:List E)(B2:Nat)(v2:Value)(cs0:List Value):Prop:=B≤B2∧(∀k,vo.ownBlock=some k→k<B2)∧
 w.ownsRow B 55 4 vo (L.length+1) (cs0++[.string ⟨dU.toArray⟩,.slice none 0 0,v2,.string ⟨#[]⟩])∧dz (fun k=>vo.ownBlock=some k∨k<B∨B2≤k) w (fun W=>kC W L cs0)∧fQ B2 w r v2
theorem kS.grow{B:Nat}{w:World}{vo:Value}{L r:List E}{B2:Nat}{v2:Value}{cs0:List Value}(h:kS B w vo L r B2 v2 cs0):fQ B w (L++[ax dU r]) vo:=by
 obtain⟨h1,h2,h3,h4,h5⟩:=h;refine⟨Nat.le_trans h1 h5.base,_,by rw[List.length_append];exact h3,?_⟩;refine((h4.mono fun i _ hi=>hi.imp id .inl).and (h5.done.mono fun i _ hi=>?_)).imp fun W ⟨g1,g2⟩=>g1.append (kC.one (e:=ax dU r) ⟨gJ.nil _ _ _,g2,show dU.length≤maxLen by decide,Nat.zero_le _⟩)
 rcases hi with hi|hi
 ·exact h2 i hi
 ·omega
theorem kS.mv{B:Nat}{w w1:World}{vo:Value}{L r:List E}{B2:Nat}{v2:Value}{cs0:List Value}{S:Nat→Prop}(h:kS B w vo L r B2 v2 cs0)(ht:Touch S w w1)(hS:∀k,S k→k<w.heap.size→k<B):kS B w1 vo L r B2 v2 cs0:=by
 obtain⟨h1,h2,h3,h4,h5⟩:=h;refine⟨h1,h2,aQ h3 ht fun k hk hs=>?_,h4.step ht (fun i hi hs=>.inr (.inl (hS i hs hi))) (fun _ _ h=>h),h5.mv ht fun k hk hl=>Nat.lt_of_lt_of_le (hS k hk hl) h1⟩;have h6:=h3.lt k hk;have:=hS k hs h6.2;omega
theorem kS.fresh{B:Nat}{w w1:World}{vo:Value}{L r:List E}{B2:Nat}{v2:Value}{cs0:List Value}(h:kS B w vo L r B2 v2 cs0)(ht:ag w w1):kS B w1 vo L r B2 v2 cs0:=h.mv ht fun _ h=>h.elim
theorem kS.len{B:Nat}{w:World}{vo:Value}{L r:List E}{B2:Nat}{v2:Value}{cs0:List Value}(h:kS B w vo L r B2 v2 cs0):cs0.length=L.length*4:=by
 have:=h.2.2.1.1;rw[List.length_append]at this;simp only[List.length_cons,List.length_nil]at this;omega
theorem kS.last{B n:Nat}{w:World}{vo:Value}{L r:List E}{B2:Nat}{v2:Value}{cs0:List Value}(h:kS B w vo L r B2 v2 cs0)(hn:L.length=n):∃g cap,vo=.slice (some ⟨g,0,none⟩) (n+1) cap∧B≤g∧g<w.heap.size∧w.cell? ⟨g,n*4+2,none⟩=some v2∧w.frozen? ⟨g,n*4+2,none⟩=false:=by
 subst hn;have hl:=h.len;obtain⟨_,_,h3,_⟩:=h
 obtain⟨g,cap,rfl,hb⟩:∃g cap,vo=.slice (some ⟨g,0,none⟩) (L.length+1) cap∧B≤g:=by
  rcases h3.2 with⟨_,h0⟩|⟨g,cap,cur,e,hb,_⟩
  ·omega
  ·exact⟨g,cap,e,hb⟩
 have h4:=h3.cellAt (L.length*4+2) (by omega);refine⟨g,cap,rfl,hb,(h3.lt g rfl).2,?_,h3.frozenAt _⟩;rw[h4,List.getElem?_append_right (by omega),show L.length*4+2-cs0.length=2 by omega];rfl
theorem kS.push{B:Nat}{w5 w7 w8 W:World}{vo:Value}{L r:List E}{B2:Nat}{v2 v2' va vk:Value}{cs0 cs2:List Value}{e:E}{g g2:Nat}(h:kS B w5 vo L r B2 v2 cs0)(hi:w5.ownsRow B2 55 4 v2 r.length cs2)(hsi:dz (fun k=>v2.ownBlock=some k∨k<B2) w5 fun W=>kC W r cs2)
  (h57:ag w5 w7) (FZ:dz (fun k=>k<w5.heap.size) w7 fun W=>jd W e va vk) (ht:Touch (fun k=>v2.ownBlock=some k) w7 w8) (hv:v2'.ownBlock=v2.ownBlock∨v2'.ownBlock=some w7.heap.size)
  (hvo:vo.ownBlock=some g) (hv2:v2'.ownBlock=some g2) (hW:Touch (fun k=>k=g2∨k=g) w8 W) (h9:W.ownsRow B2 55 4 v2' (r.length+1) (cs2++[.string ⟨e.name.toArray⟩,va,vk,.string ⟨e.text.toArray⟩]))
  (h10:W.ownsRow B 55 4 vo (L.length+1) (cs0++[.string ⟨dU.toArray⟩,.slice none 0 0,v2',.string ⟨#[]⟩])):kS B W vo L (r++[e]) B2 v2' cs0:=by
 obtain⟨h1,h2,h3,h4,h5⟩:=h;have hg:=h2 g hvo;have RP:=h5.base;have hl2:∀k,v2.ownBlock=some k→B2≤k∧k<w5.heap.size:=fun k hk=>hi.lt k hk
 have hg2:∀i,i<w7.heap.size→i=g2→v2.ownBlock=some i:=fun i hi he=>by
  subst he
  rcases hv with hv|hv<;>rw[hv2]at hv
  ·exact hv.symm
  ·cases hv;omega
 have hsz:=h57.size;refine⟨h1,h2,h10,?_,?_⟩
 ·refine(((h4.fresh h57).step (S2:=fun k=>vo.ownBlock=some k∨k<B∨B2≤k) ht (fun i hi hs=>.inr (.inr (hl2 i hs).1)) (fun _ _ h=>h)).step hW (fun i hi hs=>?_) (fun _ _ h=>h))
  rcases hs with hs|hs
  ·rcases Nat.lt_or_ge i w7.heap.size with h6|h6
   ·exact .inr (.inr (hl2 i (hg2 i h6 hs)).1)
   ·exact .inr (.inr (by omega))
  ·subst hs;exact .inl hvo
 ·refine⟨Nat.le_trans (Nat.le_trans RP hsz) (Nat.le_trans ht.size hW.size),_,by rw[List.length_append];exact h9,?_⟩
  have e1:∀i,i<w7.heap.size→(v2'.ownBlock=some i∨i<B2)→(v2.ownBlock=some i∨i<B2):=fun i hi hs=>by
   rcases hs with hs|hs
   ·rcases hv with h6|h6<;>rw[h6]at hs
    ·exact .inl hs
    ·cases hs;omega
   ·exact .inr hs
  have hT:∀W',Touch (fun k=>v2'.ownBlock=some k∨k<B2) W W'→Touch (fun k=>v2.ownBlock=some k∨k<B2) w7 W':=fun W' hW'=>by
   have a1:Touch (fun k=>v2.ownBlock=some k∨k<B2) w7 W:=ht.join hW (fun i _ hs=>.inl hs) fun i hi hs=>by
    rcases hs with hs|hs
    ·exact .inl (hg2 i hi hs)
    ·subst hs;exact .inr hg
   exact a1.join hW' (fun _ _ h=>h) e1
  intro W' hW';have a2:=hT W' hW';refine kC.append ((hsi.fresh h57) W' a2) (kC.one (FZ W' (a2.mono fun i hs=>?_)))
  rcases hs with hs|hs
  ·exact(hl2 i hs).2
  ·omega
theorem RQ{w:World}{B t g n cap:Nat}{xs:List Value}{z0 z1 z2 z3:Value}(h:w.ownsRow B t 4 (.slice (some ⟨g,0,none⟩) (n+1) cap) (n+1) (xs++[z0,z1,z2,z3]))(y0 y1 y2 y3:Value):
  ((((w.setCell ⟨g,n*4,none⟩ y0).setCell ⟨g,n*4+1,none⟩ y1).setCell ⟨g,n*4+2,none⟩ y2).setCell ⟨g,n*4+3,none⟩ y3).ownsRow B t 4 (.slice (some ⟨g,0,none⟩) (n+1) cap) (n+1) (xs++[y0,y1,y2,y3]):=by
 have hl:xs.length=n*4:=by have:=h.1;rw[List.length_append]at this;simp only[List.length_cons,List.length_nil]at this;omega
 have h1:=(((((h.stored (n*4) y0).1.stored (n*4+1) y1).1).stored (n*4+2) y2).1.stored (n*4+3) y3).1
 have e:((((xs++[z0,z1,z2,z3]).set (n*4) y0).set (n*4+1) y1).set (n*4+2) y2).set (n*4+3) y3=xs++[y0,y1,y2,y3]:=by
  rw[List.set_append_right _ _ (by omega),List.set_append_right _ _ (by omega),List.set_append_right _ _ (by omega),List.set_append_right _ _ (by omega),show n*4-xs.length=0 by omega,show n*4+1-xs.length=1 by omega,show n*4+2-xs.length=2 by omega,show n*4+3-xs.length=3 by omega];rfl
 rw[e]at h1;exact h1
theorem Ic{w:World}{B t g n cap:Nat}{xs:List Value}{z0 z1 z2 z3:Value}(h:w.ownsRow B t 4 (.slice (some ⟨g,0,none⟩) (n+1) cap) (n+1) (xs++[z0,z1,z2,z3]))(y:Value):
  (w.setCell ⟨g,n*4+2,none⟩ y).ownsRow B t 4 (.slice (some ⟨g,0,none⟩) (n+1) cap) (n+1) (xs++[z0,z1,y,z3]):=by
 have hl:xs.length=n*4:=by have:=h.1;rw[List.length_append]at this;simp only[List.length_cons,List.length_nil]at this;omega
 have h1:=(h.stored (n*4+2) y).1
 have e:(xs++[z0,z1,z2,z3]).set (n*4+2) y=xs++[z0,z1,y,z3]:=by
  rw[List.set_append_right _ _ (by omega),show n*4+2-xs.length=2 by omega];rfl
 rw[e]at h1;exact h1
def Ie(w:World)(g o:Nat)(x0 x1 x2 x3:Value):World:=(((w.setCell ⟨g,o,none⟩ x0).setCell ⟨g,o+1,none⟩ x1).setCell ⟨g,o+2,none⟩ x2).setCell ⟨g,o+3,none⟩ x3
theorem zm(w:World)(g o:Nat)(x0 x1 x2 x3:Value):Touch (fun k=>k=g) w (Ie w g o x0 x1 x2 x3):=
 ((((M (fun k=>k=g) w).setCell (p:=⟨g,o,none⟩) (.inl rfl) _).setCell (p:=⟨g,o+1,none⟩) (.inl rfl) _).setCell (p:=⟨g,o+2,none⟩) (.inl rfl) _).setCell (p:=⟨g,o+3,none⟩) (.inl rfl) _
theorem En(w:World)(g o:Nat)(x:Value):Touch (fun k=>k=g) w (w.setCell ⟨g,o,none⟩ x):=(M (fun k=>k=g) w).setCell (p:=⟨g,o,none⟩) (.inl rfl) _
theorem kS.stores{B n:Nat}{w5 w7 w8:World}{L r:List E}{B2:Nat}{v2 va vk z0 z1 z2 z3:Value}{cs0 cs2:List Value}{e:E}{g c g2 c2:Nat}(h:kS B w5 (.slice (some ⟨g,0,none⟩) (n+1) c) L r B2 v2 cs0)(hn:L.length=n)(hi:w5.ownsRow B2 55 4 v2 r.length cs2)(hsi:dz (fun k=>v2.ownBlock=some k∨k<B2) w5 fun W=>kC W r cs2)
  (h57:ag w5 w7) (FZ:dz (fun k=>k<w5.heap.size) w7 fun W=>jd W e va vk) (h8:w8.ownsRow B2 55 4 (.slice (some ⟨g2,0,none⟩) (r.length+1) c2) (r.length+1) (cs2++[z0,z1,z2,z3])) (ht:Touch (fun k=>v2.ownBlock=some k) w7 w8) (hv:(Value.slice (some ⟨g2,0,none⟩) (r.length+1) c2).ownBlock=v2.ownBlock∨(Value.slice (some ⟨g2,0,none⟩) (r.length+1) c2).ownBlock=some w7.heap.size):
  kS B ((Ie w8 g2 (r.length*4) (.string ⟨e.name.toArray⟩) va vk (.string ⟨e.text.toArray⟩)).setCell ⟨g,n*4+2,none⟩ (.slice (some ⟨g2,0,none⟩) (r.length+1) c2)) (.slice (some ⟨g,0,none⟩) (n+1) c) L (r++[e]) B2 (.slice (some ⟨g2,0,none⟩) (r.length+1) c2) cs0∧
  kS B (Ie (w8.setCell ⟨g,n*4+2,none⟩ (.slice (some ⟨g2,0,none⟩) (r.length+1) c2)) g2 (r.length*4) (.string ⟨e.name.toArray⟩) va vk (.string ⟨e.text.toArray⟩)) (.slice (some ⟨g,0,none⟩) (n+1) c) L (r++[e]) B2 (.slice (some ⟨g2,0,none⟩) (r.length+1) c2) cs0:=by
 subst hn;have hg:g<B2:=h.2.1 g rfl;have hg2:B2≤g2:=(h8.lt g2 rfl).1
 have ho:w8.ownsRow B 55 4 (.slice (some ⟨g,0,none⟩) (L.length+1) c) (L.length+1) (cs0++[.string ⟨dU.toArray⟩,.slice none 0 0,v2,.string ⟨#[]⟩]):=
  aQ (aQ h.2.2.1 h57 fun k _ hs=>hs) ht fun k hk hs=>by cases hk;have:=(hi.lt g hs).1;omega
 constructor
 ·refine h.push hi hsi h57 FZ ht hv rfl rfl ((zm w8 g2 _ _ _ _ _|>.mono fun i hi=>.inl hi).trans (En _ g _ _|>.mono fun i hi=>.inr hi)) ?_ ?_
  ·exact aQ (RQ h8 _ _ _ _) (En _ g _ _) fun k hk hs=>by cases hk;have hs:g2=g:=hs;omega
  ·exact Ic (aQ ho (zm w8 g2 _ _ _ _ _) fun k hk hs=>by cases hk;have hs:g=g2:=hs;omega) _
 ·refine h.push hi hsi h57 FZ ht hv rfl rfl ((En w8 g _ _|>.mono fun i hi=>.inr hi).trans (zm _ g2 _ _ _ _ _|>.mono fun i hi=>.inl hi)) ?_ ?_
  ·exact RQ (aQ h8 (En _ g _ _) fun k hk hs=>by cases hk;have hs:g2=g:=hs;omega) _ _ _ _
  ·exact aQ (Ic ho _) (zm _ g2 _ _ _ _ _) fun k hk hs=>by cases hk;have hs:g=g2:=hs;omega
section
variable {w:World} {ops:Array Oper} {rest:List Oper} {o:Oper} {a:Act} {Q:Exit→Act→World→Prop}
theorem Ig(hgd:o.guard=none)(s x:Operand)
  (ho:o.op=.call {callee:=.builtin .append,args:=#[s,x],argTypes:=#[53,53]})
  {B n g:Nat} {es:List E} {v:Value} (h:fQ B w es v) (hn:es.length=n) (hs:a.eval s=v) (hb:af w g 55 #[.string ⟨dU.toArray⟩,.slice none 0 0,.slice none 0 0,.string ⟨#[]⟩]) (hx:a.eval x=.slice (some ⟨g,0,none⟩) 1 1) (hlen:n<2^40)
  (hK:∀A cp w' cs0,kS B w' (.slice A (n+1) cp) es [] w'.heap.size (.slice none 0 0) cs0→Touch (fun k=>v.ownBlock=some k) w w'→wpList Tryz.prog ops Q rest (a.put o.dst (.slice A (n+1) cp)) w'):wpList Tryz.prog ops Q (o::rest) a w:=by
 subst hn;obtain⟨hBw,cs,h1,h2⟩:=h;obtain⟨i,hi,hz0,hz1,hz2⟩:=info_parts E8;have h3:∀u∈[Value.string ⟨dU.toArray⟩,.slice none 0 0,.slice none 0 0,.string ⟨#[]⟩],u.oneCell'=true:=by simp[Value.oneCell']
 refine iL _ hgd s x 53 ho B 55 i _ 4 80 Tryz.underlying53 hi hz0 hz1 hz2 rfl (by decide) v es.length cs hs h1 _ 1 _ hx (Src.uT hb rfl) h3 (by simp only[maxLen];omega) (by omega) hBw fun v' w' ho' hgr hv'=>?_
 obtain⟨A,cp,rfl⟩:=mK ho';have ht:Touch (fun k=>v.ownBlock=some k) w w':=Touch.grown (M _ _) hgr fun k hk=>.inl hk
 refine hK A cp w' cs ⟨Nat.le_trans hBw hgr.size,fun k hk=>(ho'.lt k hk).2,ho',?_,fQ.nil (Nat.le_refl _)⟩ ht;refine h2.step ht (fun i _ hs=>.inl hs) fun i hi hs=>?_
 rcases hs with hs|hs|hs
 ·rcases hv' with h6|h6<;>rw[h6]at hs
  ·exact .inl hs
  ·cases hs;omega
 ·exact .inr hs
 ·have:=hgr.size;omega
end
end
end Go.Proofs.YtcgbccfpcgaikaaGreatDoor
