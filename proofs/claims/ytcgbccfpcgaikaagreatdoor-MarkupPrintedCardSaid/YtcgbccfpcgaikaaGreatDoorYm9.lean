/- Part 9 of 46 of a proof. No condition. -/
import Derived.Test.YtcgbccfpcgaikaaGreatDoorYm8
set_option maxRecDepth 100000
set_option maxHeartbeats 2000000
namespace Go.Proofs.YtcgbccfpcgaikaaGreatDoor
section
open Go.RowKit
theorem Pf:∀n:Fin 256,Tr.letter (UInt8.ofNat n.1)=((decide ((97:Int)≤(n.1:Int))&&decide ((n.1:Int)≤(122:Int)))||(decide ((65:Int)≤(n.1:Int))&&decide ((n.1:Int)≤(90:Int)))):=by decide+kernel
theorem uY(b:UInt8):Tr.letter b=((decide ((97:Int)≤(b.toNat:Int))&&decide ((b.toNat:Int)≤(122:Int)))||(decide ((65:Int)≤(b.toNat:Int))&&decide ((b.toNat:Int)≤(90:Int)))):=by
 have:=Pf ⟨b.toNat,b.toNat_lt⟩;simpa using this
theorem QG:∀n:Fin 256,Tr.digit (UInt8.ofNat n.1)=(decide ((48:Int)≤(n.1:Int))&&decide ((n.1:Int)≤(57:Int))):=by decide+kernel
theorem Ke(b:UInt8):Tr.digit b=(decide ((48:Int)≤(b.toNat:Int))&&decide ((b.toNat:Int)≤(57:Int))):=by
 have:=QG ⟨b.toNat,b.toNat_lt⟩;simpa using this
theorem JI(b:UInt8)(w:World):
  Calls Tryz.prog 87 #[.int .u8 (b.toNat:Int)] w fun e w'=>e=.returned (.bool (Tr.letter b))∧w'=w:=by
 go_enter Tryz.func87,Tryz.ntmps87;cases h1:decide ((97:Int)≤(b.toNat:Int))with
 |false=>
  have Zl:decide (97≤b.toNat)=false:=by have hx:=h1;simp only[decide_eq_false_iff_not]at hx⊢;omega
  cases h2:decide ((65:Int)≤(b.toNat:Int))with
  |false=>
   have GH:decide (65≤b.toNat)=false:=by have hx:=h2;simp only[decide_eq_false_iff_not]at hx⊢;omega
   go_wp2
   go_ret;exact⟨ai _ _ (by rw[uY];simp only[*]<;>rfl),rfl⟩
  |true=>
   have GH:decide (65≤b.toNat)=true:=by have hx:=h2;simp only[decide_eq_true_eq]at hx⊢;omega
   cases h3:decide ((b.toNat:Int)≤(90:Int))with
   |false=>
    go_wp2
    go_ret;exact⟨ai _ _ (by rw[uY];simp only[*]<;>rfl),rfl⟩
   |true=>
    go_wp2
    go_ret;exact⟨ai _ _ (by rw[uY];simp only[*]<;>rfl),rfl⟩
 |true=>
  have Zl:decide (97≤b.toNat)=true:=by have hx:=h1;simp only[decide_eq_true_eq]at hx⊢;omega
  cases h4:decide ((b.toNat:Int)≤(122:Int))with
  |false=>
   cases h5:decide ((65:Int)≤(b.toNat:Int))with
   |false=>
    have h5n:decide (65≤b.toNat)=false:=by have hx:=h5;simp only[decide_eq_false_iff_not]at hx⊢;omega
    go_wp2
    go_ret;exact⟨ai _ _ (by rw[uY];simp only[*]<;>rfl),rfl⟩
   |true=>
    have h5n:decide (65≤b.toNat)=true:=by have hx:=h5;simp only[decide_eq_true_eq]at hx⊢;omega
    cases h6:decide ((b.toNat:Int)≤(90:Int))with
    |false=>
     go_wp2
     go_ret;exact⟨ai _ _ (by rw[uY];simp only[*]<;>rfl),rfl⟩
    |true=>
     go_wp2
     go_ret;exact⟨ai _ _ (by rw[uY];simp only[*]<;>rfl),rfl⟩
  |true=>
   go_wp2
   go_ret;exact⟨ai _ _ (by rw[uY];simp only[*]<;>rfl),rfl⟩
theorem ET(b:UInt8)(w:World):
  Calls Tryz.prog 89 #[.int .u8 (b.toNat:Int)] w fun e w'=>e=.returned (.bool (Tr.digit b))∧w'=w:=by
 go_enter Tryz.func89,Tryz.ntmps89;cases h7:decide ((48:Int)≤(b.toNat:Int))with
 |false=>
  have Qu:decide (48≤b.toNat)=false:=by have hx:=h7;simp only[decide_eq_false_iff_not]at hx⊢;omega
  go_wp2
  go_ret;exact⟨ai _ _ (by rw[Ke];simp only[*]<;>rfl),rfl⟩
 |true=>
  have Qu:decide (48≤b.toNat)=true:=by have hx:=h7;simp only[decide_eq_true_eq]at hx⊢;omega
  cases h8:decide ((b.toNat:Int)≤(57:Int))with
  |false=>
   go_wp2
   go_ret;exact⟨ai _ _ (by rw[Ke];simp only[*]<;>rfl),rfl⟩
  |true=>
   go_wp2
   go_ret;exact⟨ai _ _ (by rw[Ke];simp only[*]<;>rfl),rfl⟩
theorem Pg(s:ByteArray)(w:World)(hm:s.size≤9223372036854775807):
  Calls Tryz.prog 44 #[.string s] w fun e w'=>e=.returned (.bool (s.data.toList.all nP))∧w'=w:=by
 go_enter Tryz.func44,Tryz.ntmps44;go_wp2
 go_loopw [3] (fun i wr=>∃j:Nat,i=.int .i64 j∧j≤s.size∧Hd ((s.data.toList.take j).all nP=true)∧wr=w) (fun i _=>s.size-(intOf i).toNat)
 case atStart=>exact⟨0,rfl,Nat.zero_le _,by simp[Hd],rfl⟩
 case round=>
  obtain⟨j,rfl,hj,HA,rfl⟩:=hrel
  by_cases c1:j<s.size
  ·have d1:decide ((j:Int)<(s.size:Int))=true:=by simp;omega
   have d1':(j:Int)<(s.size:Int):=by omega
   obtain⟨b,hb⟩:∃b,s[j]'c1=b:=⟨_,rfl⟩;have hst:=sw s.data.toList j (by simpa using c1) nP;have hno:=zT s.data.toList j (by simpa using c1) nP;have hbl:s.data.toList[j]'(by simpa using c1)=b:=hb;rw[hbl]at hst hno;have HS:=hid hst;have HN:=hid hno;clear hst hno hbl;cases h9:decide ((b.toNat:Int)<(32:Int))with
   |false=>
    cases h10:decide ((126:Int)<(b.toNat:Int))with
    |false=>
     have ah5:decide (126<b.toNat)=false:=by have hx:=h10;simp only[decide_eq_false_iff_not]at hx⊢;omega
     go_wp2
     go_roundw
     case rel=>exact⟨j+1,by go_num,c1,by unfold Hd;rw[HS.out,HA.out];rw[y9];simp_all,trivial⟩
     case measure=>simp[intOf];omega
    |true=>
     have ah5:decide (126<b.toNat)=true:=by have hx:=h10;simp only[decide_eq_true_eq]at hx⊢;omega
     go_wp2
     go_ret;exact⟨by rw[HN.out (by rw[y9];simp_all)];rfl,rfl⟩
   |true=>
    go_wp2
    go_ret;exact⟨by rw[HN.out (by rw[y9];simp_all)];rfl,rfl⟩
  ·have d1:decide ((j:Int)<(s.size:Int))=false:=by simp;omega
   go_wp2
   go_ret;exact⟨by rw[nD s nP j hj c1 HA.out];rfl,rfl⟩
def GK(c b:UInt8):Bool:=!(b==c)
theorem QH(c b:UInt8):GK c b=!((b.toNat:Int)==(c.toNat:Int)):=by
 unfold GK
 congr 1
 rw[Bool.eq_iff_iff,beq_iff_eq,beq_iff_eq];constructor
 ·rintro rfl;rfl
 ·intro h;exact UInt8.toNat_inj.1 (by omega)
theorem aey(l:List UInt8)(c:UInt8):l.contains c=!(l.all (GK c)):=by
 induction l with
 |nil=>rfl
 |cons b l ih=>
  rw[List.contains_cons,List.all_cons,ih];unfold GK;rw[show(c==b)=(b==c)from by rw[Bool.eq_iff_iff,beq_iff_eq,beq_iff_eq];exact eq_comm];cases b==c<;>simp
theorem MV(s:ByteArray)(c:UInt8)(w:World)(hm:s.size≤9223372036854775807):
  Calls Tryz.prog 47 #[.string s,.int .u8 (c.toNat:Int)] w fun e w'=>e=.returned (.bool (s.data.toList.contains c))∧w'=w:=by
 rw[aey];go_enter Tryz.func47,Tryz.ntmps47;go_wp2
 go_loopw [5] (fun i wr=>∃j:Nat,i=.int .i64 j∧j≤s.size∧Hd ((s.data.toList.take j).all (GK c)=true)∧wr=w) (fun i _=>s.size-(intOf i).toNat)
 case atStart=>exact⟨0,rfl,Nat.zero_le _,by simp[Hd],rfl⟩
 case round=>
  obtain⟨j,rfl,hj,HA,rfl⟩:=hrel
  by_cases c1:j<s.size
  ·have d1:decide ((j:Int)<(s.size:Int))=true:=by simp;omega
   have d1':(j:Int)<(s.size:Int):=by omega
   obtain⟨b,hb⟩:∃b,s[j]'c1=b:=⟨_,rfl⟩;have hst:=sw s.data.toList j (by simpa using c1) (GK c);have hno:=zT s.data.toList j (by simpa using c1) (GK c);have hbl:s.data.toList[j]'(by simpa using c1)=b:=hb;rw[hbl]at hst hno;have HS:=hid hst;have HN:=hid hno;clear hst hno hbl;cases h11:((b.toNat:Int)==(c.toNat:Int))with
   |false=>
    have QD:((b.toNat:Int) !=(c.toNat:Int))=true:=by rw[bne,h11];rfl
    go_wp2
    go_roundw
    case rel=>exact⟨j+1,by go_num,c1,by unfold Hd;rw[HS.out,HA.out];rw[QH];simp only[*]<;>rfl,trivial⟩
    case measure=>simp[intOf];omega
   |true=>
    have QD:((b.toNat:Int) !=(c.toNat:Int))=false:=by rw[bne,h11];rfl
    go_wp2
    go_ret;exact⟨by rw[HN.out (by rw[QH];simp only[*]<;>rfl)];rfl,rfl⟩
  ·have d1:decide ((j:Int)<(s.size:Int))=false:=by simp;omega
   go_wp2
   go_ret;exact⟨by rw[nD s (GK c) j hj c1 HA.out];rfl,rfl⟩
theorem MW(b:UInt8)(w:World):
  Calls Tryz.prog 86 #[.int .u8 (b.toNat:Int)] w fun e w'=>e=.returned (.bool (Tr.character b))∧w'=w:=by
 go_enter Tryz.func86,Tryz.ntmps86;go_wp2_with fail
 refine Calls.mono (JI b _) ?_;rintro _ Zm ⟨rfl,pM⟩;replace pM:=pM.symm;subst pM;cases h1:(Tr.letter b)with
 |false=>
  go_wp2_with fail
  refine Calls.mono (MV ⟨(Tr.signs).toArray⟩ b _ (by decide)) ?_;rintro _ w2q ⟨rfl,sU⟩;replace sU:=sU.symm;subst sU;cases h2:(Tr.signs.contains b)with
  |false=>
   go_wp2
   go_ret;exact⟨ai _ _ (by unfold Tr.character;simp only[*]<;>rfl),rfl⟩
  |true=>
   go_wp2
   go_ret;exact⟨ai _ _ (by unfold Tr.character;simp only[*]<;>rfl),rfl⟩
 |true=>
  go_wp2
  go_ret;exact⟨ai _ _ (by unfold Tr.character;simp only[*]<;>rfl),rfl⟩
def D8(l:List Tr.Bytes):Array Value:=(l.map fun s=>Value.string ⟨s.toArray⟩).toArray
theorem WH{l:List Tr.Bytes}{W:World}{g:Nat}(h:af W g 9 (D8 l))(i:Nat)(hi:i<l.length):W.cell? ⟨g,i,none⟩=some (.string ⟨l[i].toArray⟩):=by
 rw[h.cell];simp[D8,hi]
theorem QI(w:World):Calls Tryz.prog 88 #[] w fun e w'=>e=.returned (.slice (some ⟨w.heap.size,0,none⟩) 4 4)∧ag w w'∧af w' w.heap.size 9 (D8 Tr.keywords):=by
 go_enter Tryz.func88,Tryz.ntmps88;go_wp2
 go_ret;exact⟨rfl,(M _ _).alloc _,af.new _ _ _⟩
theorem JJ(w:World):Calls Tryz.prog 46 #[] w fun e w'=>e=.returned (.slice (some ⟨w.heap.size,0,none⟩) 6 6)∧ag w w'∧af w' w.heap.size 9 (D8 Tr.eu):=by
 go_enter Tryz.func46,Tryz.ntmps46;go_wp2
 go_ret;exact⟨rfl,(M _ _).alloc _,af.new _ _ _⟩
theorem Ph(l:List Tr.Bytes)(x:Tr.Bytes)(j:Nat)(h:j<l.length):(l.take (j+1)).contains x=((l.take j).contains x||(l[j]==x)):=by
 rw[List.take_succ_eq_append_getElem h];rw[Bool.eq_iff_iff];simp only[List.contains_iff_mem,List.mem_append,List.mem_singleton,Bool.or_eq_true,beq_iff_eq];rw[eq_comm (a:=x)]
theorem Uk(l:List Tr.Bytes)(x:Tr.Bytes)(j:Nat)(h:j<l.length)(e:(l[j]==x)=true):l.contains x=true:=by
 rw[List.contains_iff_mem];rw[beq_iff_eq]at e;exact e▸List.getElem_mem h
theorem QJ(l:List Tr.Bytes)(s:ByteArray)(g:Nat)(w:World)(h:af w g 9 (D8 l))(hl:l.length≤1000):
  Calls Tryz.prog 45 #[.slice (some ⟨g,0,none⟩) l.length l.length,.string s] w fun e w'=>e=.returned (.bool (l.contains s.data.toList))∧w'=w:=by
 have HG:=hid h;have hg:=h.lt;clear h;go_enter Tryz.func45,Tryz.ntmps45;go_wp2
 go_loopw [5] (fun i wr=>∃j:Nat,i=.int .i64 j∧j≤l.length∧Hd ((l.take j).contains s.data.toList=false)∧wr=w) (fun i _=>l.length-(intOf i).toNat)
 case atStart=>exact⟨0,rfl,Nat.zero_le _,by simp[Hd],rfl⟩
 case round=>
  obtain⟨j,rfl,hj,HA,rfl⟩:=hrel
  by_cases c1:j<l.length
  ·have d1:decide ((j:Int)<(l.length:Int))=true:=dT (by omega)
   have jo:decide (j<l.length)=true:=dT (by omega);have d1':(j:Int)<(l.length:Int):=by omega
   have q:=WH HG.out j c1;have HS:=hid (Ph l s.data.toList j c1);have HN:=hid (Uk l s.data.toList j c1);generalize l[j]=x at*;cases h1:(x==s.data.toList)with
   |false=>
    have QK:((⟨x.toArray⟩:ByteArray)==s)=false:=by rw[bS];exact h1
    have h1t:((⟨x.toArray⟩:ByteArray) !=s)=true:=by rw[bne,QK];rfl
    have h1v:(x==ByteArray.toList s)=false:=by simp only[ByteArray.toList_eq];exact h1
    go_wp2
    go_roundw
    case rel=>exact⟨j+1,by go_num,c1,by unfold Hd;rw[HS.out,HA.out];simp_all,trivial⟩
    case measure=>simp[intOf];omega
   |true=>
    have QK:((⟨x.toArray⟩:ByteArray)==s)=true:=by rw[bS];exact h1
    have h1t:((⟨x.toArray⟩:ByteArray) !=s)=false:=by rw[bne,QK];rfl
    have h1v:(x==ByteArray.toList s)=true:=by simp only[ByteArray.toList_eq];exact h1
    go_wp2
    go_ret;exact⟨by rw[HN.out (by assumption)];rfl,rfl⟩
  ·have d1:decide ((j:Int)<(l.length:Int))=false:=dF (by omega)
   have jo:decide (j<l.length)=false:=dF (by omega);obtain rfl:j=l.length:=by omega
   go_wp2
   go_ret;exact⟨by have:=HA.out;rw[List.take_length]at this;rw[this];rfl,rfl⟩
theorem WI(s:Tr.Bytes)(h:s.length≠1):Tr.symbol s=(s.all Tr.letter&&decide (2≤s.length)&&decide (s.length≤16)&&!Tr.keywords.contains s&&!Tr.eu.contains s):=by
 unfold Tr.symbol
 match s,h with
 |[],_=>rfl
 |[c],h=>exact absurd rfl h
 |a::b::l,_=>rfl
theorem Ul(s:ByteArray)(w:World)(hm:s.size≤9223372036854775807):
  Calls Tryz.prog 42 #[.string s] w fun e w'=>e=.returned (.bool (Tr.symbol s.data.toList))∧ag w w':=by
 by_cases h1:s.size=1
 ·obtain⟨b,rfl⟩:=Vj s h1
  clear h1;go_enter Tryz.func42,Tryz.ntmps42;go_wp2_with fail
  refine Calls.mono (MW b _) ?_;rintro _ _ ⟨rfl,rfl⟩;go_wp2
  go_ret;exact⟨rfl,M _ _⟩
 ·have d1:((s.size:Int)==(1:Int))=false:=by simp only[beq_eq_false_iff_ne];omega
  have jo:(s.size==1)=false:=by simp only[beq_eq_false_iff_ne];omega
  have d1':¬(s.size:Int)=1:=by omega
  have QL:=hid (WI s.data.toList (by simpa using h1));have hlen:s.data.toList.length=s.size:=by simp
  clear h1;rw[hlen]at QL;go_enter Tryz.func42,Tryz.ntmps42;go_wp2
  go_loopw [3] (fun i wr=>∃j:Nat,i=.int .i64 j∧j≤s.size∧Hd ((s.data.toList.take j).all Tr.letter=true)∧wr=w) (fun i _=>s.size-(intOf i).toNat)
  case atStart=>exact⟨0,rfl,Nat.zero_le _,by simp[Hd],rfl⟩
  case round=>
   obtain⟨j,rfl,hj,HA,rfl⟩:=hrel
   by_cases c1:j<s.size
   ·have d1:decide ((j:Int)<(s.size:Int))=true:=by simp;omega
    have d1':(j:Int)<(s.size:Int):=by omega
    obtain⟨b,hb⟩:∃b,s[j]'c1=b:=⟨_,rfl⟩;have hst:=sw s.data.toList j (by simpa using c1) Tr.letter;have hno:=zT s.data.toList j (by simpa using c1) Tr.letter;have hbl:s.data.toList[j]'(by simpa using c1)=b:=hb;rw[hbl]at hst hno;have HS:=hid hst;have HN:=hid hno;clear hst hno hbl;go_wp2_with fail
    refine Calls.mono (JI b _) ?_;rintro _ Zm ⟨rfl,pM⟩;replace pM:=pM.symm;subst pM;cases h1:(Tr.letter b)with
    |false=>
     go_wp2
     go_ret;exact⟨ai _ _ (by rw[QL.out];first|(have hn:=HN.out (by assumption);simp_all)|(have ha:=nD s Tr.letter j hj c1 HA.out;simp_all<;>omega)),(M _ _)⟩
    |true=>
     go_wp2
     go_roundw
     case rel=>exact⟨j+1,by go_num,c1,by unfold Hd;rw[HS.out,HA.out];simp only[*]<;>rfl,trivial⟩
     case measure=>simp[intOf];omega
   ·have d1:decide ((j:Int)<(s.size:Int))=false:=by simp;omega
    cases h2:decide ((2:Int)≤(s.size:Int))with
    |false=>
     have GH:decide (2≤s.size)=false:=by have hx:=h2;simp only[decide_eq_false_iff_not]at hx⊢;omega
     go_wp2
     go_ret;exact⟨ai _ _ (by rw[QL.out];first|(have hn:=HN.out (by assumption);simp_all)|(have ha:=nD s Tr.letter j hj c1 HA.out;simp_all<;>omega)),(M _ _)⟩
    |true=>
     have GH:decide (2≤s.size)=true:=by have hx:=h2;simp only[decide_eq_true_eq]at hx⊢;omega
     cases h3:decide ((s.size:Int)≤(16:Int))with
     |false=>
      go_wp2
      go_ret;exact⟨ai _ _ (by rw[QL.out];first|(have hn:=HN.out (by assumption);simp_all)|(have ha:=nD s Tr.letter j hj c1 HA.out;simp_all<;>omega)),(M _ _)⟩
     |true=>
      go_wp2_with fail
      refine Calls.mono (QI _) ?_;rintro _ w2 ⟨rfl,hfw2,afA⟩;have ah6:=hid afA;clear afA;have bW:=hid (show ag wr w2 from qV hfw2);clear hfw2;go_wp2_with fail
      refine Calls.mono (QJ Tr.keywords s _ _ ah6.out (by decide)) ?_;rintro _ w3q ⟨rfl,BJ⟩;replace BJ:=BJ.symm;subst BJ;cases h4:(Tr.keywords.contains s.data.toList)with
      |false=>
       go_wp2_with fail
       refine Calls.mono (JJ _) ?_;rintro _ w4 ⟨rfl,ER,afB⟩;have ah7:=hid afB;clear afB;have eZ:=hid (show ag w2 w4 from qV ER);clear ER;go_wp2_with fail
       refine Calls.mono (QJ Tr.eu s _ _ ah7.out (by decide)) ?_;rintro _ w5q ⟨rfl,abQ⟩;replace abQ:=abQ.symm;subst abQ;cases h5:(Tr.eu.contains s.data.toList)with
       |false=>
        go_wp2
        go_ret;exact⟨ai _ _ (by rw[QL.out];first|(have hn:=HN.out (by assumption);simp_all)|(have ha:=nD s Tr.letter j hj c1 HA.out;simp_all<;>omega)),(bW.out.trans eZ.out)⟩
       |true=>
        go_wp2
        go_ret;exact⟨ai _ _ (by rw[QL.out];first|(have hn:=HN.out (by assumption);simp_all)|(have ha:=nD s Tr.letter j hj c1 HA.out;simp_all<;>omega)),(bW.out.trans eZ.out)⟩
      |true=>
       go_wp2
       go_ret;exact⟨ai _ _ (by rw[QL.out];first|(have hn:=HN.out (by assumption);simp_all)|(have ha:=nD s Tr.letter j hj c1 HA.out;simp_all<;>omega)),bW.out⟩
def pd(b:UInt8):Bool:=b==46||Tr.digit b
def QM(s:List UInt8):Bool:=decide (0<s.length)&&(decide (s.length≤20)&&(s.all pd&&(!(s.head?==some 46)&&(!(s.getLast?==some 46)&&decide (s.count 46≤1)))))
theorem WJ(l:List UInt8)(h:∀b∈l,b≠46):l.all pd=l.all Tr.digit∧l.count 46=0:=by
 induction l with
 |nil=>exact⟨rfl,rfl⟩
 |cons b l ih=>
  obtain⟨h1,h2⟩:=ih fun x hx=>h x (by simp[hx])
  have hb:=h b (by simp);refine⟨?_,?_⟩
  ·rw[List.all_cons,List.all_cons,h1]
   unfold pd;rw[show(b==46)=false from by simpa using hb,Bool.false_or]
  ·rw[List.count_cons,h2,show(b==46)=false from by simpa using hb]
   rfl
theorem abR(l:List UInt8)(h:l.all Tr.digit=true):∀b∈l,b≠46:=fun b hb=>D7 b (List.all_eq_true.1 h b hb)
theorem aez(l:List UInt8)(h:∀b∈l,b≠46):(l.head?==some 46)=false:=by
 rw[beq_eq_false_iff_ne];intro e;exact h 46 (List.mem_of_head? e) rfl
theorem aeA(l:List UInt8)(h:∀b∈l,b≠46):(l.getLast?==some 46)=false:=by
 rw[beq_eq_false_iff_ne];intro e;exact h 46 (List.mem_of_getLast? e) rfl
theorem Ls(s:List UInt8):QM s=Tr.isNum s:=by
 rw[NT];obtain⟨⟨h1,h2⟩,h3⟩:=Qw s;have hs:(s.takeWhile (·≠46))++(s.dropWhile (·≠46))=s:=List.takeWhile_append_dropWhile
 have hno:∀b∈(gT s).1,b≠46:=by
  rw[←h1];intro b hb;have:=List.all_eq_true.1 (List.all_takeWhile (p:=fun b:UInt8=>decide (b≠46)) (l:=s)) b hb;simpa using this
 rw[h1,h2]at hs;clear h1 h2;generalize gT s=c at*;obtain⟨a,b,f⟩:=c;simp only at*;obtain⟨e1,e2⟩:=WJ a hno;cases f with
 |false=>
  simp only[Bool.false_eq_true,if_false,List.append_nil]at hs;subst hs;unfold QM pK;rw[e1,e2,aez a hno,aeA a hno];rw[Bool.eq_iff_iff];simp only[Bool.and_eq_true,decide_eq_true_eq,Bool.not_false,Bool.true_or,Bool.and_true,Nat.zero_le,decide_true,Bool.not_eq_true',beq_eq_false_iff_ne,List.length_pos_iff];constructor
  ·rintro⟨g1,g2,g3⟩;exact⟨g2,g3,g1⟩
  ·rintro⟨g2,g3,g1⟩;exact⟨g1,g2,g3⟩
 |true=>
  simp only[if_true]at hs;subst hs;unfold QM pK;rw[Bool.eq_iff_iff];simp only[Bool.and_eq_true,decide_eq_true_eq,Bool.not_true,Bool.false_or,Bool.not_eq_true',beq_eq_false_iff_ne,List.all_append,List.all_cons,List.count_append,List.count_cons,e1,e2];have hp:pd 46=true:=by decide
  constructor
  ·rintro⟨_,g2,⟨g3,_,g4⟩,g5,g6,g7⟩
   have hc:b.count 46=0:=by simp at g7;omega
   have hb:∀x∈b,x≠46:=fun x hx e=>by
    have:=List.count_pos_iff.2 (e▸hx);omega
   refine⟨g2,⟨g3,?_⟩,(WJ b hb).1▸g4,?_⟩
   ·rintro rfl;exact g5 rfl
   ·rintro rfl;exact g6 (by simp)
  ·rintro⟨g2,⟨g3,g4⟩,g5,g6⟩
   have hb:=abR b g5;obtain⟨k1,k2⟩:=WJ b hb;refine⟨by simp only[List.length_append,List.length_cons];omega,g2,⟨g3,hp,by rw[k1];exact g5⟩,?_,?_,by rw[k2];simp⟩
   ·intro e
    cases a with
    |nil=>exact g4 rfl
    |cons x a=>simp at e;exact hno x (by simp) e
   ·intro e
    have hl:(a++46::b).getLast?=b.getLast?:=by
     cases b with
     |nil=>exact absurd rfl g6
     |cons y b=>
      obtain⟨z,hz⟩:∃z,(y::b).getLast?=some z:=⟨_,List.getLast?_eq_some_getLast (by simp)⟩;rw[List.getLast?_append,List.getLast?_cons_cons,hz];rfl
    rw[hl]at e;exact hb 46 (List.mem_of_getLast? e) rfl
theorem QN(b c:UInt8):(b==c)=((b.toNat:Int)==(c.toNat:Int)):=by
 rw[Bool.eq_iff_iff,beq_iff_eq,beq_iff_eq];constructor
 ·rintro rfl;rfl
 ·intro h;exact UInt8.toNat_inj.1 (by omega)
def yg(s:List UInt8)(j:Nat):Bool:=(s.take j).all pd&&((j==0||!(s.head?==some 46))&&(decide (j<s.length)||!(s.getLast?==some 46)))
theorem WK(s:List UInt8)(h:0<s.length):yg s 0=true:=by simp[yg,h]
theorem last_at(s:List UInt8)(j:Nat)(h:j<s.length)(hl:¬j+1<s.length):s.getLast?=some s[j]:=by
 rw[List.getLast?_eq_getElem?,List.getElem?_eq_getElem (by omega)]
 congr 2
 omega
theorem Um(s:List UInt8)(j:Nat)(h:j<s.length)(hb:s[j]=46)(h1:0<j)(h2:(j:Int)<(s.length:Int)-1)(hn:yg s j=true):yg s (j+1)=true∧(s.take (j+1)).count 46=(s.take j).count 46+1:=by
 unfold yg at hn⊢;rw[List.take_succ_eq_append_getElem h,hb];simp only[Bool.and_eq_true,Bool.or_eq_true,beq_iff_eq,Bool.not_eq_true',decide_eq_true_eq,List.all_append,List.count_append]at hn⊢;obtain⟨g1,g2,g3⟩:=hn;refine⟨⟨⟨g1,by decide⟩,?_,.inl (by omega)⟩,by simp⟩
 rcases g2 with g2|g2
 ·omega
 ·exact .inr g2
theorem Un(s:List UInt8)(j:Nat)(h:j<s.length)(hb:Tr.digit s[j]=true)(hn:yg s j=true):yg s (j+1)=true∧(s.take (j+1)).count 46=(s.take j).count 46:=by
 have hne:=D7 _ hb;unfold yg at hn⊢;rw[List.take_succ_eq_append_getElem h];simp only[Bool.and_eq_true,Bool.or_eq_true,beq_iff_eq,Bool.not_eq_true',decide_eq_true_eq,List.all_append,List.count_append,List.all_cons,List.all_nil,and_true]at hn⊢;obtain⟨g1,g2,g3⟩:=hn;refine⟨⟨⟨g1,by simp[pd,hb]⟩,.inr ?_,?_⟩,?_⟩
 ·rcases g2 with g2|g2
  ·subst g2
   rw[beq_eq_false_iff_ne];intro e;rw[List.head?_eq_getElem?,List.getElem?_eq_getElem h]at e;exact hne (by simpa using e)
  ·exact g2
 ·by_cases hl:j+1<s.length
  ·exact .inl hl
  ·refine .inr ?_
   rw[last_at s j h hl,beq_eq_false_iff_ne];intro e;exact hne (by simpa using e)
 ·rw[List.count_cons,show(s[j]==46)=false from by simpa using hne];simp
theorem abS(s:List UInt8)(j:Nat)(h:j<s.length)(hd:Tr.digit s[j]=false)(hp:s[j]≠46∨j=0∨¬(j:Int)<(s.length:Int)-1):Tr.isNum s=false:=by
 rw[←Ls,←Bool.not_eq_true];unfold QM;simp only[Bool.and_eq_true,decide_eq_true_eq,Bool.not_eq_true',beq_eq_false_iff_ne];rintro⟨_,_,g1,g2,g3,_⟩;have hm:=List.all_eq_true.1 g1 s[j] (List.getElem_mem h);unfold pd at hm;rw[hd,Bool.or_false,beq_iff_eq]at hm
 rcases hp with hp|hp|hp
 ·exact hp hm
 ·subst hp
  exact g2 (by rw[List.head?_eq_getElem?,List.getElem?_eq_getElem h,hm])
 ·exact g3 (by rw[last_at s j h (by omega),hm])
theorem Zn(s:List UInt8)(h:0<s.length→yg s s.length=true):Tr.isNum s=(decide (0<s.length)&&(decide (s.length≤20)&&decide (s.count 46≤1))):=by
 rw[←Ls];unfold QM
 by_cases h0:0<s.length
 ·have h1:=h h0
  unfold yg at h1;rw[List.take_length]at h1;simp only[Bool.and_eq_true,Bool.or_eq_true,beq_iff_eq,decide_eq_true_eq,Nat.lt_irrefl,false_or,Nat.ne_of_gt h0]at h1;obtain⟨g1,g2,g3⟩:=h1;rw[g1,g2,g3];simp
 ·simp[h0]
theorem Uo(s:ByteArray)(w:World)(hm:s.size≤9223372036854775807):
  Calls Tryz.prog 43 #[.string s] w fun e w'=>e=.returned (.bool (Tr.isNum s.data.toList))∧w'=w:=by
 have hlen:s.data.toList.length=s.size:=by simp
 have HLEN:=hid hlen;clear hlen;go_enter Tryz.func43,Tryz.ntmps43;go_wp2
 go_loopw [3,4] (fun p i wr=>∃j:Nat,p=.int .i64 ((s.data.toList.take j).count 46:Nat)∧i=.int .i64 j∧j≤s.size∧Hd (0<s.size→yg s.data.toList j=true)∧wr=w) (fun _ i _=>s.size-(intOf i).toNat)
 case atStart=>exact⟨0,rfl,rfl,Nat.zero_le _,fun h=>WK _ (by rw[HLEN.out];exact h),rfl⟩
 case round=>
  obtain⟨j,rfl,rfl,hj,HA,rfl⟩:=hrel
  by_cases c1:j<s.size
  ·have d1:decide ((j:Int)<(s.size:Int))=true:=dT (by omega)
   have jo:decide (j<s.size)=true:=dT (by omega);have d1':(j:Int)<(s.size:Int):=by omega
   have c2:j<s.data.toList.length:=by rw[HLEN.out];exact c1
   have hcm:(s.data.toList.take j).count 46≤j:=Nat.le_trans List.count_le_length (List.length_take_le _ _);have HP:=hid (Um s.data.toList j c2);have HD:=hid (Un s.data.toList j c2);have HN:=hid (abS s.data.toList j c2);rw[HLEN.out]at HP HN;obtain⟨n,hn⟩:∃n,(s.data.toList.take j).count 46=n:=⟨_,rfl⟩;rw[hn]at HP HD hcm⊢;clear hn;obtain⟨b,hb⟩:∃b,s.data.toList[j]'c2=b:=⟨_,rfl⟩;have hsb:s[j]'c1=b:=hb;rw[hb]at HP HD HN;clear hb c2;cases h1:((b.toNat:Int)==(46:Int))with
   |false=>
    have Gy:((b.toNat:Int) !=(46:Int))=true:=by rw[bne,h1];rfl
    go_wp2_with fail
    refine Calls.mono (ET b _) ?_;rintro _ Zm ⟨rfl,pM⟩;replace pM:=pM.symm;subst pM;cases h2:(Tr.digit b)with
    |false=>
     go_wp2
     go_ret;exact⟨ai _ _ (by rw[HN.out (by assumption) (.inl (by rw[ne_eq,←beq_iff_eq,QN];simp_all))]),rfl⟩
    |true=>
     go_wp2
     go_roundw
     case rel=>
      have hz:=HD.out (by assumption) (HA.out (by omega));exact⟨j+1,by rw[hz.2]<;>go_num,by go_num,c1,fun _=>hz.1,trivial⟩
     case measure=>simp[intOf];omega
   |true=>
    have Gy:((b.toNat:Int) !=(46:Int))=false:=by rw[bne,h1];rfl
    cases h3:decide ((0:Int)<(j:Int))with
    |false=>
     have Y1:decide (0<j)=false:=by have hx:=h3;simp only[decide_eq_false_iff_not]at hx⊢;omega
     go_wp2_with fail
     refine Calls.mono (ET b _) ?_;rintro _ w2q ⟨rfl,sU⟩;replace sU:=sU.symm;subst sU;cases h4:(Tr.digit b)with
     |false=>
      go_wp2
      go_ret;exact⟨ai _ _ (by rw[HN.out (by assumption) (.inr (.inl (by have:=of_decide_eq_false (by assumption:decide ((0:Int)<(j:Int))=false);omega)))]),rfl⟩
     |true=>
      go_wp2
      go_roundw
      case rel=>
       have hz:=HD.out (by assumption) (HA.out (by omega));exact⟨j+1,by rw[hz.2]<;>go_num,by go_num,c1,fun _=>hz.1,trivial⟩
      case measure=>simp[intOf];omega
    |true=>
     have Y1:decide (0<j)=true:=by have hx:=h3;simp only[decide_eq_true_eq]at hx⊢;omega
     cases h5:decide ((j:Int)<((s.size:Int)-(1:Int)))with
     |false=>
      go_wp2_with fail
      refine Calls.mono (ET b _) ?_;rintro _ w3q ⟨rfl,BJ⟩;replace BJ:=BJ.symm;subst BJ;cases h6:(Tr.digit b)with
      |false=>
       go_wp2
       go_ret;exact⟨ai _ _ (by rw[HN.out (by assumption) (.inr (.inr (by have:=of_decide_eq_false (by assumption:decide ((j:Int)<(s.size:Int)-(1:Int))=false);omega)))]),rfl⟩
      |true=>
       go_wp2
       go_roundw
       case rel=>
        have hz:=HD.out (by assumption) (HA.out (by omega));exact⟨j+1,by rw[hz.2]<;>go_num,by go_num,c1,fun _=>hz.1,trivial⟩
       case measure=>simp[intOf];omega
     |true=>
      go_wp2
      go_roundw
      case rel=>
       have hz:=HP.out (by rw[←beq_iff_eq,QN];assumption) (by have:=of_decide_eq_true (by assumption:decide ((0:Int)<(j:Int))=true);omega) (of_decide_eq_true (by assumption)) (HA.out (by omega));exact⟨j+1,by rw[hz.2]<;>go_num,by go_num,c1,fun _=>hz.1,trivial⟩
      case measure=>simp[intOf];omega
  ·have d1:decide ((j:Int)<(s.size:Int))=false:=dF (by omega)
   have jo:decide (j<s.size)=false:=dF (by omega);obtain rfl:j=s.size:=by omega
   have htk:s.data.toList.take s.size=s.data.toList:=List.take_of_length_le (by rw[HLEN.out];exact Nat.le_refl _);have HE:=hid (Zn s.data.toList (by rw[HLEN.out];exact HA.out));rw[HLEN.out]at HE;rw[htk];obtain⟨n,hn⟩:∃n,s.data.toList.count 46=n:=⟨_,rfl⟩;rw[hn]at HE⊢;clear hn htk;cases h7:decide ((0:Int)<(s.size:Int))with
   |false=>
    have Qu:decide (0<s.size)=false:=by have hx:=h7;simp only[decide_eq_false_iff_not]at hx⊢;omega
    go_wp2
    go_ret;exact⟨ai _ _ (by rw[HE.out];simp_all<;>omega),rfl⟩
   |true=>
    have Qu:decide (0<s.size)=true:=by have hx:=h7;simp only[decide_eq_true_eq]at hx⊢;omega
    cases h8:decide ((s.size:Int)≤(20:Int))with
    |false=>
     go_wp2
     go_ret;exact⟨ai _ _ (by rw[HE.out];simp_all<;>omega),rfl⟩
    |true=>
     cases h9:decide ((n:Int)≤(1:Int))with
     |false=>
      have h9n:decide (n≤1)=false:=by have hx:=h9;simp only[decide_eq_false_iff_not]at hx⊢;omega
      go_wp2
      go_ret;exact⟨ai _ _ (by rw[HE.out];simp_all<;>omega),rfl⟩
     |true=>
      have h9n:decide (n≤1)=true:=by have hx:=h9;simp only[decide_eq_true_eq]at hx⊢;omega
      go_wp2
      go_ret;exact⟨ai _ _ (by rw[HE.out];simp_all<;>omega),rfl⟩
end
end Go.Proofs.YtcgbccfpcgaikaaGreatDoor
