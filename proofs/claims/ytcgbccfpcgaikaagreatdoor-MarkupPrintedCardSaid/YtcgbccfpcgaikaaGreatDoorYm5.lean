/- Part 5 of 46 of a proof. No condition. -/
import Derived.Lib.AppendStr
import Derived.Lib.AppendZeros
import Derived.Lib.SliceRun
import Derived.Test.YtcgbccfpcgaikaaGreatDoorYm4
set_option maxRecDepth 100000
set_option maxHeartbeats 1000000
namespace Go.Proofs.YtcgbccfpcgaikaaGreatDoor
section
open Go.RowKit
theorem strCells_eq(s:ByteArray):Lib.strCells s=Lib.byteCells s.data.toList:=by rfl
theorem O9(l m:List UInt8):Lib.byteCells (l++m)=Lib.byteCells l++Lib.byteCells m:=by simp[Lib.byteCells]
theorem uL{w:World}{B b o:Nat}{T:TypeId}{cs:Array Value}{v:Value}{l:List UInt8}(h:uU w B b o T cs v l)(hbB:b<B)
  (hlies:liesAt Tryz.prog Tryz.prog.depth T (cs.size/Tryz.prog.cellsOf T) o 42 1=true) (s:ByteArray) (hlen:l.length+s.size≤140737488355328) (hB:B≤w.heap.size):
  Calls Tryz.prog 75 #[.pointer (some ⟨b,o,none⟩),.string s] w fun e w'=>e=.returned (.tuple #[.int .i64 s.size,.nilIface])∧∃v',uU w' B b o T ((cs.setIfInBounds o (.pointer (some ⟨b,o,none⟩))).setIfInBounds (o+1) v') v' (l++s.data.toList)∧Touch (fun k=>k=b∨v.ownBlock=some k) w w':=by
 obtain⟨i0,hi,hz0,hz1,hz2⟩:=info_parts Qn;have ho:o+1<cs.size:=(Array.getElem?_eq_some_iff.1 h.buf).1;go_enter Tryz.func75,Tryz.ntmps75;go_wp2_with fail
 refine(FX h hlies).mono ?_;rintro e w1 ⟨rfl,hb1,ht1,hs1⟩
 have c1:w1.cell? ⟨b,o+1,none⟩=some v:=by
  rw[hb1.cell,Array.getElem?_setIfInBounds_ne (by omega)];exact h.buf
 have hown:w1.ownsRow B 5 1 v l.length (Lib.byteCells l):=aQ h.own ht1 (fun k hk e=>h.ne (by rw[hk,e]));have HB:=hid hb1;have HT:=hid ht1;have HS:=hid hs1;clear hb1 ht1 hs1
 go_wp2_with (at_builtin;refine Lib.wpList_append_own_string _ rfl _ _ 40 9 rfl B 5 i0 Tryz.underlying40 Tryz.underlying9 hi hz0 hz1 hz2 _ _ _ rfl hown s rfl ?c3 ?c4 ?c5 ?_)
 case c3=>unfold maxLen;omega
 case c4=>omega
 case c5=>have:=HS.out;omega
 intro v' w2 hown' hgrow hnl;have hlt1:=HB.out.lt;have ht2:Touch (fun k=>v.ownBlock=some k) w1 w2:=(M (fun k=>v.ownBlock=some k) w1).grown hgrow (fun g hg=>.inl hg);have hb2:af w2 b T (cs.setIfInBounds o (.pointer (some ⟨b,o,none⟩))):=ht2.blk HB.out h.ne
 have d1:w2.cell? ⟨b,o+1,none⟩=some v:=by
  rw[hb2.cell,Array.getElem?_setIfInBounds_ne (by omega)];exact h.buf
 have f1:w2.frozen? ⟨b,o+1,none⟩=false:=hb2.frozen _;have hne':v'.ownBlock≠some b:=fun e=>by have:=(hown'.lt b e).1;omega
 have hnil:l++s.data.toList=[]→v'=.slice none 0 0:=fun e=>by
  obtain⟨e1,e2⟩:=List.append_eq_nil_iff.1 e;refine hnl.2 ⟨h.J7 e1,?_⟩;apply ByteArray.ext
  apply Array.toList_inj.1
  rw[e2];rfl
 obtain⟨A',cap',rfl⟩:∃A cap,v'=.slice A (l.length+s.size) cap:=by
  rcases hown'.2 with⟨h1,h2⟩|⟨g,cap,cur,h1,_⟩
  ·exact⟨none,0,by rw[h1,h2]⟩
  ·exact⟨_,_,h1⟩
 have HB2:=hid hb2;have HT2:=hid ht2;have HO:=hid hown';have HN:=hid hne';have ahE:=hid hnil;clear hb2 ht2 hown' hne' hgrow hown hnl hnil
 go_wp2
 go_ret2;refine⟨rfl,_,⟨HB2.out.put _ _,.inr ?_,?_,?_,HN.out,ahE.out⟩,?_⟩
 ·rw[Array.getElem?_setIfInBounds_ne (by omega),Array.getElem?_setIfInBounds_self_of_lt (by omega)]
 ·rw[Array.getElem?_setIfInBounds_self_of_lt (by simp;omega)]
 ·have hl:(l++s.data.toList).length=l.length+s.size:=by simp
  rw[O9,←strCells_eq,hl];exact aQ HO.out ((M (·=b) w2).setCell (p:=⟨b,o+1,none⟩) (.inl rfl) _) (fun k hk e=>HN.out (by rw[hk,e]))
 ·exact((HT.out.mono (fun _ h=>.inl h)).trans (HT2.out.mono (fun _ h=>.inr h))).setCell (p:=⟨b,o+1,none⟩) (.inl (.inl rfl)) _
theorem y8{w:World}{B b o:Nat}{T:TypeId}{cs:Array Value}{v:Value}{l:List UInt8}(h:uU w B b o T cs v l):
  Calls Tryz.prog 132 #[.pointer (some ⟨b,o,none⟩)] w fun e w'=>e=.returned (.int .i64 l.length)∧w'=w:=by
 obtain⟨A,cap,rfl⟩:∃A cap,v=.slice A l.length cap:=by
  rcases h.own.2 with⟨h1,h2⟩|⟨g,cap,cur,h1,_⟩
  ·exact⟨none,0,by rw[h1,h2]⟩
  ·exact⟨_,_,h1⟩
 have c1:w.cell? ⟨b,o+1,none⟩=some (.slice A l.length cap):=by rw[h.blk.cell];exact h.buf
 clear h;go_enter Tryz.func132,Tryz.ntmps132;go_wp2
 go_ret;exact⟨rfl,rfl⟩
theorem MU(l:List UInt8)(t:ByteArray):((⟨l.toArray⟩:ByteArray)++t)=⟨(l++t.data.toList).toArray⟩:=by
 apply ByteArray.ext
 simp[ByteArray.data_append]
structure Qq(w:World)(k:Int)(t:ByteArray)(f eF:Int)(acc:List UInt8)(cs:Array Value)(v:Value)(wr:World):Prop where
 tok:af wr w.heap.size 115 #[.int .i64 k,.string t,.int .i64 f,.int .i64 eF]
 dW:uU wr (w.heap.size+2) (w.heap.size+1) 0 42 cs v acc
 size:cs.size=2
 touch:ag w wr
theorem Qq.next{w:World}{k:Int}{t:ByteArray}{f eF:Int}{acc:List UInt8}{cs:Array Value}{v:Value}{wr w':World}(Q:Qq w k t f eF acc cs v wr){c:UInt8}{v':Value}
  (hb:uU w' (w.heap.size+2) (w.heap.size+1) 0 42 ((cs.setIfInBounds 0 (.pointer (some ⟨w.heap.size+1,0,none⟩))).setIfInBounds (0+1) v') v' (acc++[c]))
  (ht:Touch (fun k=>k=w.heap.size+1∨v.ownBlock=some k) wr w'):
  Qq w k t f eF (acc++[c]) ((cs.setIfInBounds 0 (.pointer (some ⟨w.heap.size+1,0,none⟩))).setIfInBounds (0+1) v') v' w':=by
 have hlt:=Q.dW.own.lt;refine⟨ht.blk Q.tok ?_,hb,by simp[Q.size],Q.touch.trans' ht ?_⟩
 ·rintro(h1|h1)
  ·omega
  ·have:=(hlt _ h1).1;omega
 ·rintro i (h1|h1)
  ·right;omega
  ·right;have:=(hlt _ h1).1;omega
theorem V7(t:ByteArray)(f eF:Int)(w:World)(hm:t.size≤1000000000):
  Calls Tryz.prog 133 #[.agg #[.int .i64 3,.string t,.int .i64 f,.int .i64 eF]] w fun e w'=>e=.returned (.string ⟨(Lx.zO t.data.toList).toArray⟩)∧ag w w':=by
 have hll:t.data.toList.length=t.size:=by simp
 have yV:=hid hll;clear hll;go_enter Tryz.func133,Tryz.ntmps133;go_wp2_with fail
 have hs0:Qq w 3 t f eF [] #[.pointer none,.slice none 0 0] (.slice none 0 0) ((w.alloc (.cells #[.int .i64 3,.string t,.int .i64 f,.int .i64 eF] 115)).alloc (.cells #[.pointer none,.slice none 0 0] 42)):=
  ⟨(af.new w _ _).alloc _,⟨af.new2 _ _ _ _,.inl rfl,rfl,World.ownsRow_nil _ _ _ _,by simp[Value.ownBlock],fun _=>rfl⟩,rfl,((M _ w).alloc _).alloc _⟩
 have HS0:=hid hs0;clear hs0;refine(iP HS0.out.dW (by rw[HS0.out.size];exact liesBuilder) _ 34 rfl (by simp) (by simp)).mono ?_;rintro e1 w1 ⟨rfl,v1,hb1,ht1⟩;have yc:=hid (HS0.out.next hb1 ht1);clear hb1 ht1 HS0;have hq:=af.four yc.out.tok;obtain⟨q0,q1,q2,q3,z0,z1,z2,z3,hg⟩:=hq;go_wp2
 go_loopw [4] (fun i wr=>∃(j:Nat) (acc:List UInt8) (cs:Array Value) (v:Value),i=.int .i64 j∧j≤t.size∧acc.length≤2*j+1∧Hd (acc=34::Lx.esc (t.data.toList.take j))∧Hd (Qq w 3 t f eF acc cs v wr)) (fun i _=>t.size-(intOf i).toNat)
 case atStart=>exact⟨0,_,_,_,rfl,Nat.zero_le _,by simp,by simp[Lx.esc,Hd],yc⟩
 case round=>
  obtain⟨j,acc,cs,v,rfl,hj,hacc,HA,HS⟩:=hrel;clear q0 q1 q2 q3 z0 z1 z2 z3 hg yc;obtain⟨q0,q1,q2,q3,z0,z1,z2,z3,hg⟩:=af.four HS.out.tok;have hbl:=HS.out.dW.lt
  by_cases c1:j<t.size
  ·have b1:decide ((j:Int)<(t.size:Int))=true:=by simp;omega
   have b1':(j:Int)<(t.size:Int):=by omega
   have ahF:(0:Int)≤(j:Int):=by omega
   have htk:t.data.toList.take (j+1)=t.data.toList.take j++[t[j]'c1]:=by
    rw[List.take_succ_eq_append_getElem (by rw[yV.out];exact c1)];rfl
   have nK:=hid htk;clear htk
   by_cases c2:t[j]'c1=34
   ·have b2:(((t[j]'c1).toNat:Int)==34)=true:=sP _ 34 c2
    have HE:=hid (show Lx.iH (t[j]'c1)=[92,t[j]'c1] by unfold Lx.iH;rw[if_pos (.inl c2)]);clear c2;go_wp2_with fail
    refine(iP HS.out.dW (by rw[HS.out.size];exact liesBuilder) _ 92 rfl (by omega) (by omega)).mono ?_;rintro e2 w2 ⟨rfl,v2,hb2,ht2⟩;have HS2:=hid (HS.out.next hb2 ht2);clear hb2 ht2;clear q0 q1 q2 q3 z0 z1 z2 z3 hg;obtain⟨q0,q1,q2,q3,z0,z1,z2,z3,hg⟩:=af.four HS2.out.tok;have ahG:=HS2.out.dW.lt;go_wp2_with fail
    refine(iP HS2.out.dW (by rw[HS2.out.size];exact liesBuilder) _ (t[j]'c1) rfl (by simp;omega) (by omega)).mono ?_;rintro e3 w3 ⟨rfl,v3,hb3,ht3⟩;have pI:=hid (HS2.out.next hb3 ht3);clear hb3 ht3;go_wp2
    go_roundw
    case rel=>exact⟨j+1,_,_,_,by go_num,c1,by simp;omega,by rw[nK.out,Lx.J5,HE.out,HA.out];simp[Hd],pI⟩
    case measure=>simp[intOf];omega
   ·have b2:(((t[j]'c1).toNat:Int)==34)=false:=qW _ 34 c2
    by_cases c3:t[j]'c1=92
    ·have b3:(((t[j]'c1).toNat:Int)==92)=true:=sP _ 92 c3
     have HE:=hid (show Lx.iH (t[j]'c1)=[92,t[j]'c1] by unfold Lx.iH;rw[if_pos (.inr c3)]);clear c2 c3;go_wp2_with fail
     refine(iP HS.out.dW (by rw[HS.out.size];exact liesBuilder) _ 92 rfl (by omega) (by omega)).mono ?_;rintro e2 w2 ⟨rfl,v2,hb2,ht2⟩;have HS2:=hid (HS.out.next hb2 ht2);clear hb2 ht2;clear q0 q1 q2 q3 z0 z1 z2 z3 hg;obtain⟨q0,q1,q2,q3,z0,z1,z2,z3,hg⟩:=af.four HS2.out.tok;have ahG:=HS2.out.dW.lt;go_wp2_with fail
     refine(iP HS2.out.dW (by rw[HS2.out.size];exact liesBuilder) _ (t[j]'c1) rfl (by simp;omega) (by omega)).mono ?_;rintro e3 w3 ⟨rfl,v3,hb3,ht3⟩;have pI:=hid (HS2.out.next hb3 ht3);clear hb3 ht3;go_wp2
     go_roundw
     case rel=>exact⟨j+1,_,_,_,by go_num,c1,by simp;omega,by rw[nK.out,Lx.J5,HE.out,HA.out];simp[Hd],pI⟩
     case measure=>simp[intOf];omega
    ·have b3:(((t[j]'c1).toNat:Int)==92)=false:=qW _ 92 c3
     have HE:=hid (show Lx.iH (t[j]'c1)=[t[j]'c1] by unfold Lx.iH;rw[if_neg (fun h=>h.elim c2 c3)]);clear c2 c3;go_wp2_with fail
     refine(iP HS.out.dW (by rw[HS.out.size];exact liesBuilder) _ (t[j]'c1) rfl (by omega) (by omega)).mono ?_;rintro e3 w3 ⟨rfl,v3,hb3,ht3⟩;have pI:=hid (HS.out.next hb3 ht3);clear hb3 ht3;go_wp2
     go_roundw
     case rel=>exact⟨j+1,_,_,_,by go_num,c1,by simp;omega,by rw[nK.out,Lx.J5,HE.out,HA.out];simp[Hd],pI⟩
     case measure=>simp[intOf];omega
  ·have b1:decide ((j:Int)<(t.size:Int))=false:=by simp;omega
   have htk:t.data.toList.take j=t.data.toList:=List.take_of_length_le (by rw[yV.out];omega);have nK:=hid htk;clear htk;go_wp2_with fail
   refine(iP HS.out.dW (by rw[HS.out.size];exact liesBuilder) _ 34 rfl (by omega) (by omega)).mono ?_;rintro e2 w2 ⟨rfl,v2,hb2,ht2⟩;have HS2:=hid (HS.out.next hb2 ht2);clear hb2 ht2;go_wp2_with fail
   refine(zI HS2.out.dW).mono ?_;rintro e3 w3 ⟨rfl,ht3⟩;have HF:=hid (show ag w w3 from HS2.out.touch.trans' ht3 (fun i hk=>by have:=(HS2.out.dW.own.lt _ hk).1;right;omega));clear ht3;go_wp2
   go_ret;refine⟨?_,HF.out⟩;rw[HA.out,nK.out];rfl
theorem Gx(k:Int)(t:ByteArray)(f eF:Int)(w:World)(hm:t.size≤1000000000):
  Calls Tryz.prog 133 #[.agg #[.int .i64 k,.string t,.int .i64 f,.int .i64 eF]] w fun e w'=>e=.returned (.string ⟨(Lx.gB k t.data.toList).toArray⟩)∧ag w w':=by
 by_cases k3:k=3
 ·subst k3
  exact V7 t f eF w hm
 have b3:(k==3)=false:=by simpa using k3
 by_cases k4:k=4
 ·subst k4
  clear b3 k3;go_enter Tryz.func133,Tryz.ntmps133
  go_wp2
  go_ret;exact⟨by rw[MU [92] t];rfl,(M _ w).alloc _⟩
 have b4:(k==4)=false:=by simpa using k4
 by_cases k5:k=5
 ·subst k5
  clear b3 k3 b4 k4;go_enter Tryz.func133,Tryz.ntmps133
  go_wp2
  go_ret;exact⟨by rw[MU [92,102,101,110,99,101] t];rfl,(M _ w).alloc _⟩
 have b5:(k==5)=false:=by simpa using k5
 by_cases k6:k=6
 ·subst k6
  clear b3 k3 b4 k4 b5 k5;go_enter Tryz.func133,Tryz.ntmps133
  go_wp2
  go_ret;exact⟨by rw[MU [35] t];rfl,(M _ w).alloc _⟩
 have b6:(k==6)=false:=by simpa using k6
 have hsp:Lx.gB k t.data.toList=t.data.toList:=by unfold Lx.gB;rw[if_neg k3,if_neg k4,if_neg k5,if_neg k6]
 have pJ:=hid hsp;clear hsp k3 k4 k5 k6;go_enter Tryz.func133,Tryz.ntmps133
 go_wp2
 go_ret;exact⟨by rw[pJ.out];rfl,(M _ w).alloc _⟩
def rE(ka kb:Int)(tb:List UInt8):Bool:=(ka==2&&kb==2)||(ka==4&&kb==1&&(match tb with|[]=>false|b::_=>Lx.dG 3 b))
theorem TY:∀n:Fin 256,(Lx.cls n.1==3)=(decide ((97:Int)≤bits .or .u8 (n.1:Int) 32)&&decide (bits .or .u8 (n.1:Int) 32≤(122:Int))):=by decide+kernel
theorem isEmpty_toList(s:ByteArray):s.toList.isEmpty=decide (s.size=0):=by
 rw[ByteArray.toList_eq,Bool.eq_iff_iff,List.isEmpty_iff_length_eq_zero,decide_eq_true_iff];simp
theorem YR(s:ByteArray)(h:0<s.size):s.data.toList=(s[0]'h)::s.data.toList.drop 1:=by
 have:=List.drop_eq_getElem_cons (l:=s.data.toList) (i:=0) (by simpa using h);rw[List.drop_zero]at this;exact this
theorem abv(s:ByteArray)(h:s.size=0):s.data.toList=[]:=by
 apply List.eq_nil_of_length_eq_zero;simpa using h
theorem YS(ka fa ta kb fb tb':Int)(sa sb:ByteArray)(w:World):
  Calls Tryz.prog 131 #[.agg #[.int .i64 ka,.string sa,.int .i64 fa,.int .i64 ta],.agg #[.int .i64 kb,.string sb,.int .i64 fb,.int .i64 tb']] w fun e w'=>e=.returned (.bool (rE ka kb sb.data.toList))∧ag w w':=by
 by_cases c1:ka=2
 ·subst c1
  by_cases c2:kb=2
  ·subst c2
   have hr:=hid (show rE 2 2 sb.data.toList=true from rfl);go_enter Tryz.func131,Tryz.ntmps131
   go_wp2
   go_ret;exact⟨by rw[hr.out];rfl,((M _ w).alloc _).alloc _⟩
  ·have b2:(kb==2)=false:=by simpa using c2
   have hr:=hid (show rE 2 kb sb.data.toList=false by unfold rE;rw[b2];rfl);clear c2;go_enter Tryz.func131,Tryz.ntmps131
   go_wp2
   go_ret;exact⟨by rw[hr.out];rfl,((M _ w).alloc _).alloc _⟩
 ·have b1:(ka==2)=false:=by simpa using c1
  by_cases c2:ka=4
  ·subst c2
   clear b1 c1
   by_cases c3:kb=1
   ·subst c3
    by_cases c4:sb.size=0
    ·have hr:=hid (show rE 4 1 sb.data.toList=false by rw[abv sb c4];rfl)
     have b4:sb.toList.isEmpty=true:=by rw[isEmpty_toList,decide_eq_true_iff];exact c4
     clear c4;go_enter Tryz.func131,Tryz.ntmps131
     go_wp2
     go_ret;exact⟨by rw[hr.out];rfl,((M _ w).alloc _).alloc _⟩
    ·have h0:0<sb.size:=by omega
     have hr:rE 4 1 sb.data.toList=(decide ((97:Int)≤bits .or .u8 ((sb[0]'h0).toNat:Int) 32)&&decide (bits .or .u8 ((sb[0]'h0).toNat:Int) 32≤(122:Int))):=by
      rw[YR sb h0];exact TY ⟨(sb[0]'h0).toNat,(sb[0]'h0).toNat_lt⟩
     rw[hr];clear hr c4;have b4:sb.toList.isEmpty=false:=by rw[isEmpty_toList,decide_eq_false_iff_not];omega
     cases d1:decide ((97:Int)≤bits .or .u8 ((sb[0]'h0).toNat:Int) 32)with
     |true=>
      go_enter Tryz.func131,Tryz.ntmps131
      go_wp2
      go_ret;exact⟨rfl,((M _ w).alloc _).alloc _⟩
     |false=>
      go_enter Tryz.func131,Tryz.ntmps131
      go_wp2
      go_ret;exact⟨rfl,((M _ w).alloc _).alloc _⟩
   ·have b2:(kb !=1)=true:=by rw[bne_iff_ne];exact c3
    have hr:=hid (show rE 4 kb sb.data.toList=false by unfold rE;rw[beq_eq_false_iff_ne.2 c3];rfl);clear c3;go_enter Tryz.func131,Tryz.ntmps131
    go_wp2
    go_ret;exact⟨by rw[hr.out];rfl,((M _ w).alloc _).alloc _⟩
  ·have b2:(ka !=4)=true:=by rw[bne_iff_ne];exact c2
   have hr:=hid (show rE ka kb sb.data.toList=false by unfold rE;rw[b1,beq_eq_false_iff_ne.2 c2];rfl);clear c1 c2;go_enter Tryz.func131,Tryz.ntmps131
   go_wp2
   go_ret;exact⟨by rw[hr.out];rfl,((M _ w).alloc _).alloc _⟩
def kZ(x:Lx.aB):List Value:=[.int .i64 x.kind,.string ⟨x.text.toArray⟩,.int .i64 x.from_,.int .i64 x.eF]
def BH(W:World)(v:Value)(ts:List Lx.aB):Prop:=
 ∃A cap,v=.slice A ts.length cap∧∀i (hi:i<ts.length),∃g o,A=some ⟨g,o,none⟩∧g<W.heap.size∧
  W.cell? ⟨g,o+i*4,none⟩=some (.int .i64 ts[i].kind)∧W.cell? ⟨g,o+i*4+1,none⟩=some (.string ⟨ts[i].text.toArray⟩)∧W.cell? ⟨g,o+i*4+2,none⟩=some (.int .i64 ts[i].from_)∧W.cell? ⟨g,o+i*4+3,none⟩=some (.int .i64 ts[i].eF)
theorem BH.fresh{W W':World}{v:Value}{ts:List Lx.aB}(h:BH W v ts)(hf:ag W W'):BH W' v ts:=by
 obtain⟨A,cap,hv,hc⟩:=h;refine⟨A,cap,hv,fun i hi=>?_⟩;obtain⟨g,o,h1,h2,h3,h4,h5,h6⟩:=hc i hi;exact⟨g,o,h1,Nat.lt_of_lt_of_le h2 hf.size,hf.cell h3 (fun h=>h),hf.cell h4 (fun h=>h),hf.cell h5 (fun h=>h),hf.cell h6 (fun h=>h)⟩
theorem V8{W:World}{B e:Nat}{v:Value}{ts:List Lx.aB}(h:W.ownsRow B e 4 v ts.length (ts.flatMap kZ))(i:Nat)(hi:i<ts.length):
  ∃g cap,v=.slice (some ⟨g,0,none⟩) ts.length cap∧B≤g∧g<W.heap.size∧∀j u,(kZ ts[i])[j]?=some u→W.cell? ⟨g,4*i+j,none⟩=some u:=by
 rcases h.2 with⟨_,h0⟩|⟨g,cap,cur,hv,hB,r⟩
 ·omega
 ·subst hv
  refine⟨g,cap,rfl,hB,(h.lt g rfl).2,fun j u hu=>?_⟩;have hcl:=h.cells (g:=g) rfl (4*i+j) u ?_
  ·rw[Addr.add_mid,Nat.zero_add]at hcl;exact hcl
  ·have hj:j<4:=by have:=(List.getElem?_eq_some_iff.1 hu).1;simpa[kZ]using this
   clear h r
   induction ts generalizing i with
   |nil=>simp at hi
   |cons x l ih=>
    cases i with
    |zero=>rw[List.flatMap_cons,List.getElem?_append_left (by simp[kZ];omega)];simpa using hu
    |succ i=>
     rw[List.flatMap_cons,List.getElem?_append_right (by simp[kZ];omega)];have:=ih i (by simpa using hi) (by simpa using hu);rw[←this];congr 1;simp[kZ];omega
theorem abw{W:World}{B e:Nat}{v:Value}{ts:List Lx.aB}(h:W.ownsRow B e 4 v ts.length (ts.flatMap kZ)):BH W v ts:=by
 obtain⟨A,cap,hv⟩:∃A cap,v=.slice A ts.length cap:=by
  rcases h.2 with⟨h1,h2⟩|⟨g,cap,cur,h1,_⟩
  ·exact⟨none,0,by rw[h1,h2]⟩
  ·exact⟨_,_,h1⟩
 refine⟨A,cap,hv,fun i hi=>?_⟩;obtain⟨g,cap',h1,h2,h3,h4⟩:=V8 h i hi;rw[hv]at h1;cases h1;refine⟨g,0,rfl,h3,?_⟩;rw[Nat.zero_add,Nat.mul_comm i 4];exact⟨h4 0 _ rfl,h4 1 _ rfl,h4 2 _ rfl,h4 3 _ rfl⟩
theorem BH.nil(W:World):BH W (.slice none 0 0) []:=⟨none,0,rfl,fun i hi=>by simp at hi⟩
def Ints(w:World)(v:Value)(l:List Int):Prop:=
 ∃A cap,v=.slice A l.length cap∧(l=[]∨∃g o,A=some ⟨g,o,none⟩∧g<w.heap.size∧∀i (h:i<l.length),w.cell? ⟨g,o+i,none⟩=some (.int .i64 l[i]))
theorem Ints.get{w:World}{A:Option Addr}{n cap:Nat}{l:List Int}(h:Ints w (.slice A n cap) l)(i:Nat)(hi:i<l.length):∃g o,A=some ⟨g,o,none⟩∧g<w.heap.size∧w.cell? ⟨g,o+i,none⟩=some (.int .i64 l[i]):=by
 obtain⟨A',cap',hv,h⟩:=h;cases hv
 rcases h with rfl|⟨g,o,h1,h2,h3⟩
 ·simp at hi
 ·exact⟨g,o,h1,h2,h3 i hi⟩
theorem Ints.slice{w:World}{v:Value}{l:List Int}(h:Ints w v l):∃A cap,v=.slice A l.length cap:=by
 obtain⟨A,cap,h,_⟩:=h;exact⟨A,cap,h⟩
theorem Ints.nil(w:World)(A:Option Addr)(cap:Nat):Ints w (.slice A 0 cap) []:=⟨A,cap,rfl,.inl rfl⟩
theorem Ints.fresh{w w':World}{v:Value}{l:List Int}(h:Ints w v l)(hf:ag w w'):Ints w' v l:=by
 obtain⟨A,cap,h,h'⟩:=h;exact⟨A,cap,h,h'.imp id fun⟨g,o,h1,h2,h3⟩=>⟨g,o,h1,Nat.lt_of_lt_of_le h2 hf.size,fun i hi=>hf.cell (h3 i hi) (fun h=>h)⟩⟩
theorem Ints.own{w:World}{B e:Nat}{v:Value}{l:List Int}(h:w.ownsRow B e 1 v l.length (l.map fun x=>.int .i64 x)):Ints w v l:=by
 rcases h.2 with⟨h1,h2⟩|⟨g,cap,cur,h1,_⟩
 ·rw[List.length_eq_zero_iff.1 h2,h1]
  exact Ints.nil _ _ _
 ·refine⟨_,cap,h1,.inr ⟨g,0,rfl,(h.lt g (by rw[h1];rfl)).2,fun i hi=>?_⟩⟩
  have:=h.cells (g:=g) (by rw[h1];rfl) i (.int .i64 l[i]) (by simp[hi]);rw[Addr.add_mid,Nat.zero_add]at this;rw[Nat.zero_add];exact this
abbrev EO(l:List Int):List Value:=l.map fun x=>.int .i64 x
theorem aer:(Tryz.prog.info? 3).map (fun i=>(i.zero,i.size,i.bytes))=some (some (.int .i64 0),1,8):=by kernel_rfl
abbrev up(p:List Nat):List Int:=p.map fun n:Nat=>(n:Int)
end
end Go.Proofs.YtcgbccfpcgaikaaGreatDoor
