/- Part 8 of 48 of a proof. No condition. -/
import Derived.Test.YtnbeemkfmlfgfaaGreatDoorTm7
set_option maxRecDepth 100000
set_option maxHeartbeats 2000000
namespace Go.Proofs.YtnbeemkfmlfgfaaGreatDoor
section
open Go.RowKit
theorem Mg:∀n:Fin 256,Tr.letter (UInt8.ofNat n.1)=((decide ((97:Int)≤(n.1:Int))&&decide ((n.1:Int)≤(122:Int)))||(decide ((65:Int)≤(n.1:Int))&&decide ((n.1:Int)≤(90:Int)))):=by decide+kernel
theorem sD(b:UInt8):Tr.letter b=((decide ((97:Int)≤(b.toNat:Int))&&decide ((b.toNat:Int)≤(122:Int)))||(decide ((65:Int)≤(b.toNat:Int))&&decide ((b.toNat:Int)≤(90:Int)))):=by
 have:=Mg ⟨b.toNat,b.toNat_lt⟩;simpa using this
theorem Nc:∀n:Fin 256,Tr.digit (UInt8.ofNat n.1)=(decide ((48:Int)≤(n.1:Int))&&decide ((n.1:Int)≤(57:Int))):=by decide+kernel
theorem GX(b:UInt8):Tr.digit b=(decide ((48:Int)≤(b.toNat:Int))&&decide ((b.toNat:Int)≤(57:Int))):=by
 have:=Nc ⟨b.toNat,b.toNat_lt⟩;simpa using this
theorem AX(b:UInt8)(w:World):
  Calls Tryz.prog 170 #[.int .u8 (b.toNat:Int)] w fun e w'=>e=.returned (.bool (Tr.letter b))∧w'=w:=by
 go_enter Tryz.func170,Tryz.ntmps170;cases h1:decide ((97:Int)≤(b.toNat:Int))with
 |false=>
  have Nf:decide (97≤b.toNat)=false:=by have hx:=h1;simp only[decide_eq_false_iff_not]at hx⊢;omega
  cases h2:decide ((65:Int)≤(b.toNat:Int))with
  |false=>
   have BF:decide (65≤b.toNat)=false:=by have hx:=h2;simp only[decide_eq_false_iff_not]at hx⊢;omega
   go_wp2
   go_ret;exact⟨af _ _ (by rw[sD];simp only[*]<;>rfl),rfl⟩
  |true=>
   have BF:decide (65≤b.toNat)=true:=by have hx:=h2;simp only[decide_eq_true_eq]at hx⊢;omega
   cases h3:decide ((b.toNat:Int)≤(90:Int))with
   |false=>
    go_wp2
    go_ret;exact⟨af _ _ (by rw[sD];simp only[*]<;>rfl),rfl⟩
   |true=>
    go_wp2
    go_ret;exact⟨af _ _ (by rw[sD];simp only[*]<;>rfl),rfl⟩
 |true=>
  have Nf:decide (97≤b.toNat)=true:=by have hx:=h1;simp only[decide_eq_true_eq]at hx⊢;omega
  cases h4:decide ((b.toNat:Int)≤(122:Int))with
  |false=>
   cases h5:decide ((65:Int)≤(b.toNat:Int))with
   |false=>
    have U9:decide (65≤b.toNat)=false:=by have hx:=h5;simp only[decide_eq_false_iff_not]at hx⊢;omega
    go_wp2
    go_ret;exact⟨af _ _ (by rw[sD];simp only[*]<;>rfl),rfl⟩
   |true=>
    have U9:decide (65≤b.toNat)=true:=by have hx:=h5;simp only[decide_eq_true_eq]at hx⊢;omega
    cases h6:decide ((b.toNat:Int)≤(90:Int))with
    |false=>
     go_wp2
     go_ret;exact⟨af _ _ (by rw[sD];simp only[*]<;>rfl),rfl⟩
    |true=>
     go_wp2
     go_ret;exact⟨af _ _ (by rw[sD];simp only[*]<;>rfl),rfl⟩
  |true=>
   go_wp2
   go_ret;exact⟨af _ _ (by rw[sD];simp only[*]<;>rfl),rfl⟩
theorem Cg(b:UInt8)(w:World):
  Calls Tryz.prog 172 #[.int .u8 (b.toNat:Int)] w fun e w'=>e=.returned (.bool (Tr.digit b))∧w'=w:=by
 go_enter Tryz.func172,Tryz.ntmps172;cases h7:decide ((48:Int)≤(b.toNat:Int))with
 |false=>
  have MV:decide (48≤b.toNat)=false:=by have hx:=h7;simp only[decide_eq_false_iff_not]at hx⊢;omega
  go_wp2
  go_ret;exact⟨af _ _ (by rw[GX];simp only[*]<;>rfl),rfl⟩
 |true=>
  have MV:decide (48≤b.toNat)=true:=by have hx:=h7;simp only[decide_eq_true_eq]at hx⊢;omega
  cases h8:decide ((b.toNat:Int)≤(57:Int))with
  |false=>
   go_wp2
   go_ret;exact⟨af _ _ (by rw[GX];simp only[*]<;>rfl),rfl⟩
  |true=>
   go_wp2
   go_ret;exact⟨af _ _ (by rw[GX];simp only[*]<;>rfl),rfl⟩
theorem Mh(s:ByteArray)(w:World)(hm:s.size≤9223372036854775807):
  Calls Tryz.prog 114 #[.string s] w fun e w'=>e=.returned (.bool (s.data.toList.all mW))∧w'=w:=by
 go_enter Tryz.func114,Tryz.ntmps114;go_wp2
 go_loopw [3] (fun i wr=>∃j:Nat,i=.int .i64 j∧j≤s.size∧Hd ((s.data.toList.take j).all mW=true)∧wr=w) (fun i _=>s.size-(intOf i).toNat)
 case atStart=>exact⟨0,rfl,Nat.zero_le _,by simp[Hd],rfl⟩
 case round=>
  obtain⟨j,rfl,hj,HA,rfl⟩:=hrel
  by_cases c1:j<s.size
  ·have d1:decide ((j:Int)<(s.size:Int))=true:=by simp;omega
   have d1':(j:Int)<(s.size:Int):=by omega
   obtain⟨b,hb⟩:∃b,s[j]'c1=b:=⟨_,rfl⟩;have hst:=oq s.data.toList j (by simpa using c1) mW;have hno:=uG s.data.toList j (by simpa using c1) mW;have hbl:s.data.toList[j]'(by simpa using c1)=b:=hb;rw[hbl]at hst hno;have HS:=I hst;have HN:=I hno;clear hst hno hbl;cases h9:decide ((b.toNat:Int)<(32:Int))with
   |false=>
    cases h10:decide ((126:Int)<(b.toNat:Int))with
    |false=>
     have YP:decide (126<b.toNat)=false:=by have hx:=h10;simp only[decide_eq_false_iff_not]at hx⊢;omega
     go_wp2
     go_roundw
     case rel=>exact⟨j+1,by go_num,c1,by unfold Hd;rw[HS.J,HA.J];rw[xy];simp_all,trivial⟩
     case measure=>simp[intOf];omega
    |true=>
     have YP:decide (126<b.toNat)=true:=by have hx:=h10;simp only[decide_eq_true_eq]at hx⊢;omega
     go_wp2
     go_ret;exact⟨by rw[HN.J (by rw[xy];simp_all)];rfl,rfl⟩
   |true=>
    go_wp2
    go_ret;exact⟨by rw[HN.J (by rw[xy];simp_all)];rfl,rfl⟩
  ·have d1:decide ((j:Int)<(s.size:Int))=false:=by simp;omega
   go_wp2
   go_ret;exact⟨by rw[lD s mW j hj c1 HA.J];rfl,rfl⟩
def D7(c b:UInt8):Bool:=!(b==c)
theorem Ng(c b:UInt8):D7 c b=!((b.toNat:Int)==(c.toNat:Int)):=by
 unfold D7
 congr 1
 rw[Bool.eq_iff_iff,beq_iff_eq,beq_iff_eq];constructor
 ·rintro rfl;rfl
 ·intro h;exact UInt8.toNat_inj.1 (by omega)
theorem abG(l:List UInt8)(c:UInt8):l.contains c=!(l.all (D7 c)):=by
 induction l with
 |nil=>rfl
 |cons b l ih=>
  rw[List.contains_cons,List.all_cons,ih];unfold D7;rw[show(c==b)=(b==c)from by rw[Bool.eq_iff_iff,beq_iff_eq,beq_iff_eq];exact eq_comm];cases b==c<;>simp
theorem JP(s:ByteArray)(c:UInt8)(w:World)(hm:s.size≤9223372036854775807):
  Calls Tryz.prog 117 #[.string s,.int .u8 (c.toNat:Int)] w fun e w'=>e=.returned (.bool (s.data.toList.contains c))∧w'=w:=by
 rw[abG];go_enter Tryz.func117,Tryz.ntmps117;go_wp2
 go_loopw [5] (fun i wr=>∃j:Nat,i=.int .i64 j∧j≤s.size∧Hd ((s.data.toList.take j).all (D7 c)=true)∧wr=w) (fun i _=>s.size-(intOf i).toNat)
 case atStart=>exact⟨0,rfl,Nat.zero_le _,by simp[Hd],rfl⟩
 case round=>
  obtain⟨j,rfl,hj,HA,rfl⟩:=hrel
  by_cases c1:j<s.size
  ·have d1:decide ((j:Int)<(s.size:Int))=true:=by simp;omega
   have d1':(j:Int)<(s.size:Int):=by omega
   obtain⟨b,hb⟩:∃b,s[j]'c1=b:=⟨_,rfl⟩;have hst:=oq s.data.toList j (by simpa using c1) (D7 c);have hno:=uG s.data.toList j (by simpa using c1) (D7 c);have hbl:s.data.toList[j]'(by simpa using c1)=b:=hb;rw[hbl]at hst hno;have HS:=I hst;have HN:=I hno;clear hst hno hbl;cases h11:((b.toNat:Int)==(c.toNat:Int))with
   |false=>
    have Ce:((b.toNat:Int) !=(c.toNat:Int))=true:=by rw[bne,h11];rfl
    go_wp2
    go_roundw
    case rel=>exact⟨j+1,by go_num,c1,by unfold Hd;rw[HS.J,HA.J];rw[Ng];simp only[*]<;>rfl,trivial⟩
    case measure=>simp[intOf];omega
   |true=>
    have Ce:((b.toNat:Int) !=(c.toNat:Int))=false:=by rw[bne,h11];rfl
    go_wp2
    go_ret;exact⟨by rw[HN.J (by rw[Ng];simp only[*]<;>rfl)];rfl,rfl⟩
  ·have d1:decide ((j:Int)<(s.size:Int))=false:=by simp;omega
   go_wp2
   go_ret;exact⟨by rw[lD s (D7 c) j hj c1 HA.J];rfl,rfl⟩
theorem JQ(b:UInt8)(w:World):
  Calls Tryz.prog 169 #[.int .u8 (b.toNat:Int)] w fun e w'=>e=.returned (.bool (Tr.character b))∧w'=w:=by
 go_enter Tryz.func169,Tryz.ntmps169;go_wp2_with fail
 refine Calls.mono (AX b _) ?_;rintro _ KH ⟨rfl,kz⟩;replace kz:=kz.symm;subst kz;cases h1:(Tr.letter b)with
 |false=>
  go_wp2_with fail
  refine Calls.mono (JP ⟨(Tr.signs).toArray⟩ b _ (by decide)) ?_;rintro _ Va ⟨rfl,oN⟩;replace oN:=oN.symm;subst oN;cases h2:(Tr.signs.contains b)with
  |false=>
   go_wp2
   go_ret;exact⟨af _ _ (by unfold Tr.character;simp only[*]<;>rfl),rfl⟩
  |true=>
   go_wp2
   go_ret;exact⟨af _ _ (by unfold Tr.character;simp only[*]<;>rfl),rfl⟩
 |true=>
  go_wp2
  go_ret;exact⟨af _ _ (by unfold Tr.character;simp only[*]<;>rfl),rfl⟩
def sF(l:List Tr.Bytes):Array Value:=(l.map fun s=>Value.string ⟨s.toArray⟩).toArray
theorem Iy{l:List Tr.Bytes}{W:World}{g:Nat}(h:O W g 9 (sF l))(i:Nat)(hi:i<l.length):W.cell? ⟨g,i,none⟩=some (.string ⟨l[i].toArray⟩):=by
 rw[h.cell];simp[sF,hi]
theorem Nh(w:World):Calls Tryz.prog 171 #[] w fun e w'=>e=.returned (.slice (some ⟨w.heap.size,0,none⟩) 4 4)∧ag w w'∧O w' w.heap.size 9 (sF Tr.keywords):=by
 go_enter Tryz.func171,Tryz.ntmps171;go_wp2
 go_ret;exact⟨rfl,(M _ _).alloc _,O.new _ _ _⟩
theorem AY(w:World):Calls Tryz.prog 116 #[] w fun e w'=>e=.returned (.slice (some ⟨w.heap.size,0,none⟩) 6 6)∧ag w w'∧O w' w.heap.size 9 (sF Tr.fJ):=by
 go_enter Tryz.func116,Tryz.ntmps116;go_wp2
 go_ret;exact⟨rfl,(M _ _).alloc _,O.new _ _ _⟩
theorem Du(l:List Tr.Bytes)(x:Tr.Bytes)(j:Nat)(h:j<l.length):(l.take (j+1)).contains x=((l.take j).contains x||(l[j]==x)):=by
 rw[List.take_succ_eq_append_getElem h];rw[Bool.eq_iff_iff];simp only[List.contains_iff_mem,List.mem_append,List.mem_singleton,Bool.or_eq_true,beq_iff_eq];rw[eq_comm (a:=x)]
theorem PT(l:List Tr.Bytes)(x:Tr.Bytes)(j:Nat)(h:j<l.length)(e:(l[j]==x)=true):l.contains x=true:=by
 rw[List.contains_iff_mem];rw[beq_iff_eq]at e;exact e▸List.getElem_mem h
theorem Iz(l:List Tr.Bytes)(s:ByteArray)(g:Nat)(w:World)(h:O w g 9 (sF l))(hl:l.length≤1000):
  Calls Tryz.prog 115 #[.slice (some ⟨g,0,none⟩) l.length l.length,.string s] w fun e w'=>e=.returned (.bool (l.contains s.data.toList))∧w'=w:=by
 have HG:=I h;have hg:=h.lt;clear h;go_enter Tryz.func115,Tryz.ntmps115;go_wp2
 go_loopw [5] (fun i wr=>∃j:Nat,i=.int .i64 j∧j≤l.length∧Hd ((l.take j).contains s.data.toList=false)∧wr=w) (fun i _=>l.length-(intOf i).toNat)
 case atStart=>exact⟨0,rfl,Nat.zero_le _,by simp[Hd],rfl⟩
 case round=>
  obtain⟨j,rfl,hj,HA,rfl⟩:=hrel
  by_cases c1:j<l.length
  ·have d1:decide ((j:Int)<(l.length:Int))=true:=dT (by omega)
   have dG:decide (j<l.length)=true:=dT (by omega);have d1':(j:Int)<(l.length:Int):=by omega
   have q:=Iy HG.J j c1;have HS:=I (Du l s.data.toList j c1);have HN:=I (PT l s.data.toList j c1);generalize l[j]=x at*;cases h1:(x==s.data.toList)with
   |false=>
    have D8:((⟨x.toArray⟩:ByteArray)==s)=false:=by rw[aC];exact h1
    have Vb:((⟨x.toArray⟩:ByteArray) !=s)=true:=by rw[bne,D8];rfl
    have h1v:(x==ByteArray.toList s)=false:=by simp only[ByteArray.toList_eq];exact h1
    go_wp2
    go_roundw
    case rel=>exact⟨j+1,by go_num,c1,by unfold Hd;rw[HS.J,HA.J];simp_all,trivial⟩
    case measure=>simp[intOf];omega
   |true=>
    have D8:((⟨x.toArray⟩:ByteArray)==s)=true:=by rw[aC];exact h1
    have Vb:((⟨x.toArray⟩:ByteArray) !=s)=false:=by rw[bne,D8];rfl
    have h1v:(x==ByteArray.toList s)=true:=by simp only[ByteArray.toList_eq];exact h1
    go_wp2
    go_ret;exact⟨by rw[HN.J (by assumption)];rfl,rfl⟩
  ·have d1:decide ((j:Int)<(l.length:Int))=false:=dF (by omega)
   have dG:decide (j<l.length)=false:=dF (by omega);obtain rfl:j=l.length:=by omega
   go_wp2
   go_ret;exact⟨by have:=HA.J;rw[List.take_length]at this;rw[this];rfl,rfl⟩
theorem Sl(s:Tr.Bytes)(h:s.length≠1):Tr.symbol s=(s.all Tr.letter&&decide (2≤s.length)&&decide (s.length≤16)&&!Tr.keywords.contains s&&!Tr.fJ.contains s):=by
 unfold Tr.symbol
 match s,h with
 |[],_=>rfl
 |[c],h=>exact absurd rfl h
 |a::b::l,_=>rfl
theorem F6(s:ByteArray)(w:World)(hm:s.size≤9223372036854775807):
  Calls Tryz.prog 112 #[.string s] w fun e w'=>e=.returned (.bool (Tr.symbol s.data.toList))∧ag w w':=by
 by_cases h1:s.size=1
 ·obtain⟨b,rfl⟩:=QF s h1
  clear h1;go_enter Tryz.func112,Tryz.ntmps112;go_wp2_with fail
  refine Calls.mono (JQ b _) ?_;rintro _ _ ⟨rfl,rfl⟩;go_wp2
  go_ret;exact⟨rfl,M _ _⟩
 ·have d1:((s.size:Int)==(1:Int))=false:=by simp only[beq_eq_false_iff_ne];omega
  have dG:(s.size==1)=false:=by simp only[beq_eq_false_iff_ne];omega
  have d1':¬(s.size:Int)=1:=by omega
  have Ni:=I (Sl s.data.toList (by simpa using h1));have hlen:s.data.toList.length=s.size:=by simp
  clear h1;rw[hlen]at Ni;go_enter Tryz.func112,Tryz.ntmps112;go_wp2
  go_loopw [3] (fun i wr=>∃j:Nat,i=.int .i64 j∧j≤s.size∧Hd ((s.data.toList.take j).all Tr.letter=true)∧wr=w) (fun i _=>s.size-(intOf i).toNat)
  case atStart=>exact⟨0,rfl,Nat.zero_le _,by simp[Hd],rfl⟩
  case round=>
   obtain⟨j,rfl,hj,HA,rfl⟩:=hrel
   by_cases c1:j<s.size
   ·have d1:decide ((j:Int)<(s.size:Int))=true:=by simp;omega
    have d1':(j:Int)<(s.size:Int):=by omega
    obtain⟨b,hb⟩:∃b,s[j]'c1=b:=⟨_,rfl⟩;have hst:=oq s.data.toList j (by simpa using c1) Tr.letter;have hno:=uG s.data.toList j (by simpa using c1) Tr.letter;have hbl:s.data.toList[j]'(by simpa using c1)=b:=hb;rw[hbl]at hst hno;have HS:=I hst;have HN:=I hno;clear hst hno hbl;go_wp2_with fail
    refine Calls.mono (AX b _) ?_;rintro _ KH ⟨rfl,kz⟩;replace kz:=kz.symm;subst kz;cases h1:(Tr.letter b)with
    |false=>
     go_wp2
     go_ret;exact⟨af _ _ (by rw[Ni.J];first|(have hn:=HN.J (by assumption);simp_all)|(have ha:=lD s Tr.letter j hj c1 HA.J;simp_all<;>omega)),(M _ _)⟩
    |true=>
     go_wp2
     go_roundw
     case rel=>exact⟨j+1,by go_num,c1,by unfold Hd;rw[HS.J,HA.J];simp only[*]<;>rfl,trivial⟩
     case measure=>simp[intOf];omega
   ·have d1:decide ((j:Int)<(s.size:Int))=false:=by simp;omega
    cases h2:decide ((2:Int)≤(s.size:Int))with
    |false=>
     have BF:decide (2≤s.size)=false:=by have hx:=h2;simp only[decide_eq_false_iff_not]at hx⊢;omega
     go_wp2
     go_ret;exact⟨af _ _ (by rw[Ni.J];first|(have hn:=HN.J (by assumption);simp_all)|(have ha:=lD s Tr.letter j hj c1 HA.J;simp_all<;>omega)),(M _ _)⟩
    |true=>
     have BF:decide (2≤s.size)=true:=by have hx:=h2;simp only[decide_eq_true_eq]at hx⊢;omega
     cases h3:decide ((s.size:Int)≤(16:Int))with
     |false=>
      go_wp2
      go_ret;exact⟨af _ _ (by rw[Ni.J];first|(have hn:=HN.J (by assumption);simp_all)|(have ha:=lD s Tr.letter j hj c1 HA.J;simp_all<;>omega)),(M _ _)⟩
     |true=>
      go_wp2_with fail
      refine Calls.mono (Nh _) ?_;rintro _ w2 ⟨rfl,hfw2,ade⟩;have aeX:=I ade;clear ade;have aY:=I (show ag wr w2 from qW hfw2);clear hfw2;go_wp2_with fail
      refine Calls.mono (Iz Tr.keywords s _ _ aeX.J (by decide)) ?_;rintro _ w3q ⟨rfl,q8⟩;replace q8:=q8.symm;subst q8;cases h4:(Tr.keywords.contains s.data.toList)with
      |false=>
       go_wp2_with fail
       refine Calls.mono (AY _) ?_;rintro _ w4 ⟨rfl,p9,adf⟩;have aeY:=I adf;clear adf;have dw:=I (show ag w2 w4 from qW p9);clear p9;go_wp2_with fail
       refine Calls.mono (Iz Tr.fJ s _ _ aeY.J (by decide)) ?_;rintro _ w5q ⟨rfl,YQ⟩;replace YQ:=YQ.symm;subst YQ;cases h5:(Tr.fJ.contains s.data.toList)with
       |false=>
        go_wp2
        go_ret;exact⟨af _ _ (by rw[Ni.J];first|(have hn:=HN.J (by assumption);simp_all)|(have ha:=lD s Tr.letter j hj c1 HA.J;simp_all<;>omega)),(aY.J.trans dw.J)⟩
       |true=>
        go_wp2
        go_ret;exact⟨af _ _ (by rw[Ni.J];first|(have hn:=HN.J (by assumption);simp_all)|(have ha:=lD s Tr.letter j hj c1 HA.J;simp_all<;>omega)),(aY.J.trans dw.J)⟩
      |true=>
       go_wp2
       go_ret;exact⟨af _ _ (by rw[Ni.J];first|(have hn:=HN.J (by assumption);simp_all)|(have ha:=lD s Tr.letter j hj c1 HA.J;simp_all<;>omega)),aY.J⟩
def pd(b:UInt8):Bool:=b==46||Tr.digit b
def Nj(s:List UInt8):Bool:=decide (0<s.length)&&(decide (s.length≤20)&&(s.all pd&&(!(s.head?==some 46)&&(!(s.getLast?==some 46)&&decide (s.count 46≤1)))))
theorem Sm(l:List UInt8)(h:∀b∈l,b≠46):l.all pd=l.all Tr.digit∧l.count 46=0:=by
 induction l with
 |nil=>exact⟨rfl,rfl⟩
 |cons b l ih=>
  obtain⟨h1,h2⟩:=ih fun x hx=>h x (by simp[hx])
  have hb:=h b (by simp);refine⟨?_,?_⟩
  ·rw[List.all_cons,List.all_cons,h1]
   unfold pd;rw[show(b==46)=false from by simpa using hb,Bool.false_or]
  ·rw[List.count_cons,h2,show(b==46)=false from by simpa using hb]
   rfl
theorem YR(l:List UInt8)(h:l.all Tr.digit=true):∀b∈l,b≠46:=fun b hb=>BD b (List.all_eq_true.1 h b hb)
theorem abH(l:List UInt8)(h:∀b∈l,b≠46):(l.head?==some 46)=false:=by
 rw[beq_eq_false_iff_ne];intro e;exact h 46 (List.mem_of_head? e) rfl
theorem abI(l:List UInt8)(h:∀b∈l,b≠46):(l.getLast?==some 46)=false:=by
 rw[beq_eq_false_iff_ne];intro e;exact h 46 (List.mem_of_getLast? e) rfl
theorem IA(s:List UInt8):Nj s=Tr.isNum s:=by
 rw[KD];obtain⟨⟨h1,h2⟩,h3⟩:=M4 s;have hs:(s.takeWhile (·≠46))++(s.dropWhile (·≠46))=s:=List.takeWhile_append_dropWhile
 have hno:∀b∈(iW s).1,b≠46:=by
  rw[←h1];intro b hb;have:=List.all_eq_true.1 (List.all_takeWhile (p:=fun b:UInt8=>decide (b≠46)) (l:=s)) b hb;simpa using this
 rw[h1,h2]at hs;clear h1 h2;generalize iW s=c at*;obtain⟨a,b,f⟩:=c;simp only at*;obtain⟨e1,e2⟩:=Sm a hno;cases f with
 |false=>
  simp only[Bool.false_eq_true,if_false,List.append_nil]at hs;subst hs;unfold Nj oM;rw[e1,e2,abH a hno,abI a hno];rw[Bool.eq_iff_iff];simp only[Bool.and_eq_true,decide_eq_true_eq,Bool.not_false,Bool.true_or,Bool.and_true,Nat.zero_le,decide_true,Bool.not_eq_true',beq_eq_false_iff_ne,List.length_pos_iff];constructor
  ·rintro⟨g1,g2,g3⟩;exact⟨g2,g3,g1⟩
  ·rintro⟨g2,g3,g1⟩;exact⟨g1,g2,g3⟩
 |true=>
  simp only[if_true]at hs;subst hs;unfold Nj oM;rw[Bool.eq_iff_iff];simp only[Bool.and_eq_true,decide_eq_true_eq,Bool.not_true,Bool.false_or,Bool.not_eq_true',beq_eq_false_iff_ne,List.all_append,List.all_cons,List.count_append,List.count_cons,e1,e2];have hp:pd 46=true:=by decide
  constructor
  ·rintro⟨_,g2,⟨g3,_,g4⟩,g5,g6,g7⟩
   have hc:b.count 46=0:=by simp at g7;omega
   have hb:∀x∈b,x≠46:=fun x hx e=>by
    have:=List.count_pos_iff.2 (e▸hx);omega
   refine⟨g2,⟨g3,?_⟩,(Sm b hb).1▸g4,?_⟩
   ·rintro rfl;exact g5 rfl
   ·rintro rfl;exact g6 (by simp)
  ·rintro⟨g2,⟨g3,g4⟩,g5,g6⟩
   have hb:=YR b g5;obtain⟨k1,k2⟩:=Sm b hb;refine⟨by simp only[List.length_append,List.length_cons];omega,g2,⟨g3,hp,by rw[k1];exact g5⟩,?_,?_,by rw[k2];simp⟩
   ·intro e
    cases a with
    |nil=>exact g4 rfl
    |cons x a=>simp at e;exact hno x (by simp) e
   ·intro e
    have hl:(a++46::b).getLast?=b.getLast?:=by
     cases b with
     |nil=>exact absurd rfl g6
     |cons y b=>
      obtain⟨z,hz⟩:∃z,(y::b).getLast?=some z:=⟨_,List.getLast?_eq_some_getLast (by simp)⟩;rw[List.getLast?_append,List.getLast?_cons_cons,hz];rfl
    rw[hl]at e;exact hb 46 (List.mem_of_getLast? e) rfl
theorem Nk(b c:UInt8):(b==c)=((b.toNat:Int)==(c.toNat:Int)):=by
 rw[Bool.eq_iff_iff,beq_iff_eq,beq_iff_eq];constructor
 ·rintro rfl;rfl
 ·intro h;exact UInt8.toNat_inj.1 (by omega)
def vX(s:List UInt8)(j:Nat):Bool:=(s.take j).all pd&&((j==0||!(s.head?==some 46))&&(decide (j<s.length)||!(s.getLast?==some 46)))
theorem Sn(s:List UInt8)(h:0<s.length):vX s 0=true:=by simp[vX,h]
theorem last_at(s:List UInt8)(j:Nat)(h:j<s.length)(hl:¬j+1<s.length):s.getLast?=some s[j]:=by
 rw[List.getLast?_eq_getElem?,List.getElem?_eq_getElem (by omega)]
 congr 2
 omega
theorem PU(s:List UInt8)(j:Nat)(h:j<s.length)(hb:s[j]=46)(h1:0<j)(h2:(j:Int)<(s.length:Int)-1)(hn:vX s j=true):vX s (j+1)=true∧(s.take (j+1)).count 46=(s.take j).count 46+1:=by
 unfold vX at hn⊢;rw[List.take_succ_eq_append_getElem h,hb];simp only[Bool.and_eq_true,Bool.or_eq_true,beq_iff_eq,Bool.not_eq_true',decide_eq_true_eq,List.all_append,List.count_append]at hn⊢;obtain⟨g1,g2,g3⟩:=hn;refine⟨⟨⟨g1,by decide⟩,?_,.inl (by omega)⟩,by simp⟩
 rcases g2 with g2|g2
 ·omega
 ·exact .inr g2
theorem PV(s:List UInt8)(j:Nat)(h:j<s.length)(hb:Tr.digit s[j]=true)(hn:vX s j=true):vX s (j+1)=true∧(s.take (j+1)).count 46=(s.take j).count 46:=by
 have hne:=BD _ hb;unfold vX at hn⊢;rw[List.take_succ_eq_append_getElem h];simp only[Bool.and_eq_true,Bool.or_eq_true,beq_iff_eq,Bool.not_eq_true',decide_eq_true_eq,List.all_append,List.count_append,List.all_cons,List.all_nil,and_true]at hn⊢;obtain⟨g1,g2,g3⟩:=hn;refine⟨⟨⟨g1,by simp[pd,hb]⟩,.inr ?_,?_⟩,?_⟩
 ·rcases g2 with g2|g2
  ·subst g2
   rw[beq_eq_false_iff_ne];intro e;rw[List.head?_eq_getElem?,List.getElem?_eq_getElem h]at e;exact hne (by simpa using e)
  ·exact g2
 ·by_cases hl:j+1<s.length
  ·exact .inl hl
  ·refine .inr ?_
   rw[last_at s j h hl,beq_eq_false_iff_ne];intro e;exact hne (by simpa using e)
 ·rw[List.count_cons,show(s[j]==46)=false from by simpa using hne];simp
theorem YS(s:List UInt8)(j:Nat)(h:j<s.length)(hd:Tr.digit s[j]=false)(hp:s[j]≠46∨j=0∨¬(j:Int)<(s.length:Int)-1):Tr.isNum s=false:=by
 rw[←IA,←Bool.not_eq_true];unfold Nj;simp only[Bool.and_eq_true,decide_eq_true_eq,Bool.not_eq_true',beq_eq_false_iff_ne];rintro⟨_,_,g1,g2,g3,_⟩;have hm:=List.all_eq_true.1 g1 s[j] (List.getElem_mem h);unfold pd at hm;rw[hd,Bool.or_false,beq_iff_eq]at hm
 rcases hp with hp|hp|hp
 ·exact hp hm
 ·subst hp
  exact g2 (by rw[List.head?_eq_getElem?,List.getElem?_eq_getElem h,hm])
 ·exact g3 (by rw[last_at s j h (by omega),hm])
theorem Vd(s:List UInt8)(h:0<s.length→vX s s.length=true):Tr.isNum s=(decide (0<s.length)&&(decide (s.length≤20)&&decide (s.count 46≤1))):=by
 rw[←IA];unfold Nj
 by_cases h0:0<s.length
 ·have h1:=h h0
  unfold vX at h1;rw[List.take_length]at h1;simp only[Bool.and_eq_true,Bool.or_eq_true,beq_iff_eq,decide_eq_true_eq,Nat.lt_irrefl,false_or,Nat.ne_of_gt h0]at h1;obtain⟨g1,g2,g3⟩:=h1;rw[g1,g2,g3];simp
 ·simp[h0]
theorem PW(s:ByteArray)(w:World)(hm:s.size≤9223372036854775807):
  Calls Tryz.prog 113 #[.string s] w fun e w'=>e=.returned (.bool (Tr.isNum s.data.toList))∧w'=w:=by
 have hlen:s.data.toList.length=s.size:=by simp
 have HLEN:=I hlen;clear hlen;go_enter Tryz.func113,Tryz.ntmps113;go_wp2
 go_loopw [3,4] (fun p i wr=>∃j:Nat,p=.int .i64 ((s.data.toList.take j).count 46:Nat)∧i=.int .i64 j∧j≤s.size∧Hd (0<s.size→vX s.data.toList j=true)∧wr=w) (fun _ i _=>s.size-(intOf i).toNat)
 case atStart=>exact⟨0,rfl,rfl,Nat.zero_le _,fun h=>Sn _ (by rw[HLEN.J];exact h),rfl⟩
 case round=>
  obtain⟨j,rfl,rfl,hj,HA,rfl⟩:=hrel
  by_cases c1:j<s.size
  ·have d1:decide ((j:Int)<(s.size:Int))=true:=dT (by omega)
   have dG:decide (j<s.size)=true:=dT (by omega);have d1':(j:Int)<(s.size:Int):=by omega
   have c2:j<s.data.toList.length:=by rw[HLEN.J];exact c1
   have hcm:(s.data.toList.take j).count 46≤j:=Nat.le_trans List.count_le_length (List.length_take_le _ _);have HP:=I (PU s.data.toList j c2);have HD:=I (PV s.data.toList j c2);have HN:=I (YS s.data.toList j c2);rw[HLEN.J]at HP HN;obtain⟨n,hn⟩:∃n,(s.data.toList.take j).count 46=n:=⟨_,rfl⟩;rw[hn]at HP HD hcm⊢;clear hn;obtain⟨b,hb⟩:∃b,s.data.toList[j]'c2=b:=⟨_,rfl⟩;have hsb:s[j]'c1=b:=hb;rw[hb]at HP HD HN;clear hb c2;cases h1:((b.toNat:Int)==(46:Int))with
   |false=>
    have xS:((b.toNat:Int) !=(46:Int))=true:=by rw[bne,h1];rfl
    go_wp2_with fail
    refine Calls.mono (Cg b _) ?_;rintro _ KH ⟨rfl,kz⟩;replace kz:=kz.symm;subst kz;cases h2:(Tr.digit b)with
    |false=>
     go_wp2
     go_ret;exact⟨af _ _ (by rw[HN.J (by assumption) (.inl (by rw[ne_eq,←beq_iff_eq,Nk];simp_all))]),rfl⟩
    |true=>
     go_wp2
     go_roundw
     case rel=>
      have hz:=HD.J (by assumption) (HA.J (by omega));exact⟨j+1,by rw[hz.2]<;>go_num,by go_num,c1,fun _=>hz.1,trivial⟩
     case measure=>simp[intOf];omega
   |true=>
    have xS:((b.toNat:Int) !=(46:Int))=false:=by rw[bne,h1];rfl
    cases h3:decide ((0:Int)<(j:Int))with
    |false=>
     have M0:decide (0<j)=false:=by have hx:=h3;simp only[decide_eq_false_iff_not]at hx⊢;omega
     go_wp2_with fail
     refine Calls.mono (Cg b _) ?_;rintro _ Va ⟨rfl,oN⟩;replace oN:=oN.symm;subst oN;cases h4:(Tr.digit b)with
     |false=>
      go_wp2
      go_ret;exact⟨af _ _ (by rw[HN.J (by assumption) (.inr (.inl (by have:=of_decide_eq_false (by assumption:decide ((0:Int)<(j:Int))=false);omega)))]),rfl⟩
     |true=>
      go_wp2
      go_roundw
      case rel=>
       have hz:=HD.J (by assumption) (HA.J (by omega));exact⟨j+1,by rw[hz.2]<;>go_num,by go_num,c1,fun _=>hz.1,trivial⟩
      case measure=>simp[intOf];omega
    |true=>
     have M0:decide (0<j)=true:=by have hx:=h3;simp only[decide_eq_true_eq]at hx⊢;omega
     cases h5:decide ((j:Int)<((s.size:Int)-(1:Int)))with
     |false=>
      go_wp2_with fail
      refine Calls.mono (Cg b _) ?_;rintro _ w3q ⟨rfl,q8⟩;replace q8:=q8.symm;subst q8;cases h6:(Tr.digit b)with
      |false=>
       go_wp2
       go_ret;exact⟨af _ _ (by rw[HN.J (by assumption) (.inr (.inr (by have:=of_decide_eq_false (by assumption:decide ((j:Int)<(s.size:Int)-(1:Int))=false);omega)))]),rfl⟩
      |true=>
       go_wp2
       go_roundw
       case rel=>
        have hz:=HD.J (by assumption) (HA.J (by omega));exact⟨j+1,by rw[hz.2]<;>go_num,by go_num,c1,fun _=>hz.1,trivial⟩
       case measure=>simp[intOf];omega
     |true=>
      go_wp2
      go_roundw
      case rel=>
       have hz:=HP.J (by rw[←beq_iff_eq,Nk];assumption) (by have:=of_decide_eq_true (by assumption:decide ((0:Int)<(j:Int))=true);omega) (of_decide_eq_true (by assumption)) (HA.J (by omega));exact⟨j+1,by rw[hz.2]<;>go_num,by go_num,c1,fun _=>hz.1,trivial⟩
      case measure=>simp[intOf];omega
  ·have d1:decide ((j:Int)<(s.size:Int))=false:=dF (by omega)
   have dG:decide (j<s.size)=false:=dF (by omega);obtain rfl:j=s.size:=by omega
   have htk:s.data.toList.take s.size=s.data.toList:=List.take_of_length_le (by rw[HLEN.J];exact Nat.le_refl _);have HE:=I (Vd s.data.toList (by rw[HLEN.J];exact HA.J));rw[HLEN.J]at HE;rw[htk];obtain⟨n,hn⟩:∃n,s.data.toList.count 46=n:=⟨_,rfl⟩;rw[hn]at HE⊢;clear hn htk;cases h7:decide ((0:Int)<(s.size:Int))with
   |false=>
    have MV:decide (0<s.size)=false:=by have hx:=h7;simp only[decide_eq_false_iff_not]at hx⊢;omega
    go_wp2
    go_ret;exact⟨af _ _ (by rw[HE.J];simp_all<;>omega),rfl⟩
   |true=>
    have MV:decide (0<s.size)=true:=by have hx:=h7;simp only[decide_eq_true_eq]at hx⊢;omega
    cases h8:decide ((s.size:Int)≤(20:Int))with
    |false=>
     go_wp2
     go_ret;exact⟨af _ _ (by rw[HE.J];simp_all<;>omega),rfl⟩
    |true=>
     cases h9:decide ((n:Int)≤(1:Int))with
     |false=>
      have h9n:decide (n≤1)=false:=by have hx:=h9;simp only[decide_eq_false_iff_not]at hx⊢;omega
      go_wp2
      go_ret;exact⟨af _ _ (by rw[HE.J];simp_all<;>omega),rfl⟩
     |true=>
      have h9n:decide (n≤1)=true:=by have hx:=h9;simp only[decide_eq_true_eq]at hx⊢;omega
      go_wp2
      go_ret;exact⟨af _ _ (by rw[HE.J];simp_all<;>omega),rfl⟩
end
end Go.Proofs.YtnbeemkfmlfgfaaGreatDoor
