/- Part 7 of 46 of a proof. No condition. -/
import Derived.Laws.Rows
import Derived.Test.YtcgbccfpcgaikaaGreatDoorYm6
set_option maxRecDepth 100000
set_option maxHeartbeats 2000000
namespace Go.Proofs.YtcgbccfpcgaikaaGreatDoor
section
open Go.RowKit
theorem BI(l:List UInt8)(c:UInt8):decide ((0:Int)≤Lib.indexByte l c)=l.contains c:=by
 induction l with
 |nil=>rfl
 |cons b l ih=>
  rw[Lib.indexByte,List.contains_cons];cases h:b==c with
  |true=>
   have:b=c:=by simpa using h
   subst this;simp
  |false=>
   have h2:(c==b)=false:=by
    rw[beq_eq_false_iff_ne]at h⊢;exact fun e=>h e.symm
   rw[h2,Bool.false_or,←ih]
   have hlo:-1≤Lib.indexByte l c:=by
    clear ih
    induction l with
    |nil=>show(-1:Int)≤-1;decide
    |cons b l ih=>rw[Lib.indexByte];split<;>(try split)<;>omega
   cases h3:Lib.indexByte l c==-1 with
   |true=>
    have:Lib.indexByte l c=-1:=by simpa using h3
    rw[this];rfl
   |false=>
    have:Lib.indexByte l c≠-1:=by simpa using h3
    simp only[Bool.false_eq_true,if_false];rw[Bool.eq_iff_iff,decide_eq_true_iff,decide_eq_true_iff];omega
theorem Vj(s:ByteArray)(h:s.size=1):∃c,s=⟨#[c]⟩:=by
 obtain⟨⟨l⟩⟩:=s
 match l,h with
 |[c],_=>exact⟨c,rfl⟩
theorem aeu(s:ByteArray)(h:s.size=2):∃a b,s=⟨#[a,b]⟩:=by
 obtain⟨⟨l⟩⟩:=s
 match l,h with
 |[a,b],_=>exact⟨a,b,rfl⟩
theorem contains_one(l:List UInt8)(c:UInt8)(w:World):
  Calls Tryz.prog 91 #[.string ⟨l.toArray⟩,.string ⟨#[c]⟩] w fun e w'=>e=.returned (.bool (l.contains c))∧w'=w:=by
 have:=Tryz.strings_Contains_one ⟨l.toArray⟩ c w;rw[←BI];exact this
theorem D6(l:List UInt8)(c:UInt8)(w:World):
  Calls Tryz.prog 95 #[.string ⟨l.toArray⟩,.int .u8 (c.toNat:Int)] w fun e w'=>e=.returned (.int .i64 (Lib.indexByte l c))∧w'=w:=by
 have:=Tryz.strings_IndexByte ⟨l.toArray⟩ (c.toNat:Int) w;simpa using this
theorem Wu(c:UInt8):Tr.signs.contains c=([43,45,42,47,61,60,62,44,59,58,33,124,39,63,126,64]:List UInt8).contains c:=rfl
theorem Wv:∀n:Fin 256,Tr.rz.contains (UInt8.ofNat n.1)=([40,41,91,93,123,125,60,62,47,124,46]:List UInt8).contains (UInt8.ofNat n.1):=by decide+kernel
theorem JG(c:UInt8):Tr.rz.contains c=([40,41,91,93,123,125,60,62,47,124,46]:List UInt8).contains c:=by
 have:=Wv ⟨c.toNat,c.toNat_lt⟩;simpa using this
theorem Ww(s:ByteArray)(w:World)(hm:s.size≤9223372036854775807):
  Calls Tryz.prog 49 #[.string s] w fun e w'=>e=.returned (.bool (Tr.symbol s.data.toList))∧w'=w:=by
 by_cases h1:s.size=1
 ·obtain⟨c,rfl⟩:=Vj s h1
  clear h1 hm;have hsz:(ByteArray.size ⟨#[c]⟩:Int)=1:=rfl
  have hsp:Tr.symbol (ByteArray.data ⟨#[c]⟩).toList=(([c]:List UInt8).all Tr.letter||([43,45,42,47,61,60,62,44,59,58,33,124,39,63,126,64]:List UInt8).contains c):=by
   show(Tr.letter c||Tr.signs.contains c)=((Tr.letter c&&true)||_);rw[Bool.and_true,Wu]
  have pJ:=hid hsp;clear hsp;go_enter Tryz.func49,Tryz.ntmps49;go_wp2_with fail
  refine Calls.mono (JE (⟨#[c]⟩:ByteArray) _ (by first|assumption|exact(show 1≤9223372036854775807 by decide))) ?_;rintro _ _ ⟨rfl,rfl⟩;cases h1:(([c]:List UInt8).all Tr.letter)with
  |false=>
   go_wp2_with fail
   refine Calls.mono (contains_one ([43,45,42,47,61,60,62,44,59,58,33,124,39,63,126,64]:List UInt8) c _) ?_;rintro _ _ ⟨rfl,rfl⟩;cases h2:(([43,45,42,47,61,60,62,44,59,58,33,124,39,63,126,64]:List UInt8).contains c)with
   |false=>
    go_wp2
    go_ret;exact⟨ai _ _ (by rw[pJ.out]<;>(simp only[*]<;>rfl)),rfl⟩
   |true=>
    go_wp2
    go_ret;exact⟨ai _ _ (by rw[pJ.out]<;>(simp only[*]<;>rfl)),rfl⟩
  |true=>
   go_wp2
   go_ret;exact⟨ai _ _ (by rw[pJ.out]<;>(simp only[*]<;>rfl)),rfl⟩
 ·have h1':((s.size:Int)==(1:Int))=false:=by rw[beq_eq_false_iff_ne];omega
  have hsp:Tr.symbol s.data.toList=(decide ((2:Int)≤(s.size:Int))&&(decide ((s.size:Int)≤(16:Int))&&(s.data.toList.all Tr.letter&&((!Tr.keywords.contains s.data.toList)&&!Tr.eu.contains s.data.toList)))):=by
   have hl:s.data.toList.length=s.size:=by simp
   have e1:decide ((2:Int)≤(s.size:Int))=decide (2≤s.data.toList.length):=by rw[hl,Bool.eq_iff_iff,decide_eq_true_iff,decide_eq_true_iff];omega
   have e2:decide ((s.size:Int)≤(16:Int))=decide (s.data.toList.length≤16):=by rw[hl,Bool.eq_iff_iff,decide_eq_true_iff,decide_eq_true_iff];omega
   rw[e1,e2];rw[←hl]at h1;generalize s.data.toList=l at*
   match l,h1 with
   |[],_=>rfl
   |[c],h1=>exact absurd rfl h1
   |a::b::l,_=>
    show((a::b::l).all Tr.letter&&decide (2≤(a::b::l).length)&&decide ((a::b::l).length≤16)&&!Tr.keywords.contains (a::b::l)&&!Tr.eu.contains (a::b::l))=_;generalize (a::b::l).all Tr.letter=x1;generalize decide (2≤(a::b::l).length)=x2;generalize decide ((a::b::l).length≤16)=x3;generalize Tr.keywords.contains (a::b::l)=x4;generalize Tr.eu.contains (a::b::l)=x5;cases x1<;>cases x2<;>cases x3<;>cases x4<;>cases x5<;>rfl
  have pJ:=hid hsp;clear hsp h1;go_enter Tryz.func49,Tryz.ntmps49;cases h3:decide ((2:Int)≤(s.size:Int))with
  |false=>
   have Y1:decide (2≤s.size)=false:=by have hx:=h3;simp only[decide_eq_false_iff_not]at hx⊢;omega
   go_wp2
   go_ret;exact⟨ai _ _ (by rw[pJ.out]<;>(simp only[*]<;>rfl)),rfl⟩
  |true=>
   have Y1:decide (2≤s.size)=true:=by have hx:=h3;simp only[decide_eq_true_eq]at hx⊢;omega
   cases h4:decide ((s.size:Int)≤(16:Int))with
   |false=>
    go_wp2
    go_ret;exact⟨ai _ _ (by rw[pJ.out]<;>(simp only[*]<;>rfl)),rfl⟩
   |true=>
    go_wp2_with fail
    refine Calls.mono (JE s _ (by first|assumption|exact(show 1≤9223372036854775807 by decide))) ?_;rintro _ _ ⟨rfl,rfl⟩;cases h5:(s.data.toList.all Tr.letter)with
    |false=>
     go_wp2
     go_ret;exact⟨ai _ _ (by rw[pJ.out]<;>(simp only[*]<;>rfl)),rfl⟩
    |true=>
     go_wp2_with fail
     refine Calls.mono (TZ s _) ?_;rintro _ _ ⟨rfl,rfl⟩;cases h6:(Tr.keywords.contains s.data.toList)with
     |false=>
      go_wp2_with fail
      refine Calls.mono (Lp s _) ?_;rintro _ _ ⟨rfl,rfl⟩;cases h7:(Tr.eu.contains s.data.toList)with
      |false=>
       go_wp2
       go_ret;exact⟨ai _ _ (by rw[pJ.out]<;>(simp only[*]<;>rfl)),rfl⟩
      |true=>
       go_wp2
       go_ret;exact⟨ai _ _ (by rw[pJ.out]<;>(simp only[*]<;>rfl)),rfl⟩
     |true=>
      go_wp2
      go_ret;exact⟨ai _ _ (by rw[pJ.out]<;>(simp only[*]<;>rfl)),rfl⟩
theorem Y2(s:ByteArray)(w:World):
  Calls Tryz.prog 53 #[.string s] w fun e w'=>e=.returned (.bool (Tr.fence s.data.toList))∧w'=w:=by
 by_cases h1:s.size=2
 ·obtain⟨a,b,rfl⟩:=aeu s h1
  clear h1;have hsz:(ByteArray.size ⟨#[a,b]⟩:Int)=2:=rfl
  have hsp:Tr.fence (ByteArray.data ⟨#[a,b]⟩).toList=(decide ((0:Int)≤(Lib.indexByte ([40,41,91,93,123,125,60,62,47,124,46]:List UInt8) a))&&decide ((0:Int)≤(Lib.indexByte ([40,41,91,93,123,125,60,62,47,124,46]:List UInt8) b))):=by
   rw[BI,BI,←JG,←JG]
   first|done|rfl
  have pJ:=hid hsp;clear hsp;go_enter Tryz.func53,Tryz.ntmps53;go_wp2_with fail
  refine Calls.mono (D6 ([40,41,91,93,123,125,60,62,47,124,46]:List UInt8) a _) ?_;rintro _ _ ⟨rfl,rfl⟩;cases h8:decide ((0:Int)≤(Lib.indexByte ([40,41,91,93,123,125,60,62,47,124,46]:List UInt8) a))with
  |false=>
   go_wp2
   go_ret;exact⟨ai _ _ (by rw[pJ.out]<;>(simp only[*]<;>rfl)),rfl⟩
  |true=>
   go_wp2_with fail
   refine Calls.mono (D6 ([40,41,91,93,123,125,60,62,47,124,46]:List UInt8) b _) ?_;rintro _ _ ⟨rfl,rfl⟩;cases h9:decide ((0:Int)≤(Lib.indexByte ([40,41,91,93,123,125,60,62,47,124,46]:List UInt8) b))with
   |false=>
    go_wp2
    go_ret;exact⟨ai _ _ (by rw[pJ.out]<;>(simp only[*]<;>rfl)),rfl⟩
   |true=>
    go_wp2
    go_ret;exact⟨ai _ _ (by rw[pJ.out]<;>(simp only[*]<;>rfl)),rfl⟩
 ·have h1':((s.size:Int)==(2:Int))=false:=by rw[beq_eq_false_iff_ne];omega
  have hsp:Tr.fence s.data.toList=false:=by
   have hl:s.data.toList.length=s.size:=by simp
   rw[←hl]at h1;generalize s.data.toList=l at*
   match l,h1 with
   |[],_=>rfl
   |[_],_=>rfl
   |[_,_],h1=>exact absurd rfl h1
   |_::_::_::_,_=>rfl
  have pJ:=hid hsp;clear hsp h1;go_enter Tryz.func53,Tryz.ntmps53;go_wp2
  go_ret;exact⟨ai _ _ (by rw[pJ.out]<;>(simp only[*]<;>rfl)),rfl⟩
def gT(l:List UInt8):List UInt8×List UInt8×Bool:=
 if(0:Int)≤Lib.indexByte l 46 then(l.take (Lib.indexByte l 46).toNat,l.drop ((Lib.indexByte l 46).toNat+1),true)else(l,[],false)
theorem afo(l:List UInt8)(c:UInt8):Lib.indexByte l c<l.length:=by
 induction l with
 |nil=>show(-1:Int)<0;decide
 |cons b l ih=>
  rw[Lib.indexByte,List.length_cons];split
  ·omega
  ·split<;>omega
theorem Vk(s:ByteArray)(l:List UInt8)(h:s.data.toList=l):s=⟨l.toArray⟩:=by
 apply ByteArray.ext
 apply Array.toList_inj.1
 rw[h]
theorem Qv(s:ByteArray)(k:Nat):s.extract 0 k=⟨(s.data.toList.take k).toArray⟩:=by
 apply Vk
 rw[Lib.extract_data];simp
theorem extract_drop(s:ByteArray)(k:Nat):s.extract k s.size=⟨(s.data.toList.drop k).toArray⟩:=by
 apply Vk
 rw[Lib.extract_to_end]
theorem Y3(a b a' b':ByteArray)(c c':Bool)(h1:a=a')(h2:b=b')(h3:c=c'):Ending.returned (.tuple #[.string a,.string b,.bool c])=.returned (.tuple #[.string a',.string b',.bool c']):=by rw[h1,h2,h3]
theorem Y4(s:ByteArray)(w:World)(hm:s.size≤9223372036854775807):
  Calls Tryz.prog 129 #[.string s,.string ⟨#[46]⟩] w fun e w'=>e=.returned (.tuple #[.string ⟨(gT s.data.toList).1.toArray⟩,.string ⟨(gT s.data.toList).2.1.toArray⟩,.bool (gT s.data.toList).2.2])∧∃n,w'=w.drewN n:=by
 have hl:s.data.toList.length=s.size:=by simp
 have hlt:=afo s.data.toList 46;have hc:=hid (show gT s.data.toList=_ from rfl);have HIX:=hid (Tryz.stringslite_Index_one s 46);rw[hl]at hlt;clear hl;unfold gT at hc⊢;generalize hix:Lib.indexByte s.data.toList 46=i at*;clear hix
 by_cases h0:0≤i
 ·have d0:decide ((0:Int)≤i)=true:=by simp;omega
  obtain⟨k,rfl⟩:∃k:Nat,i=k:=⟨i.toNat,by omega⟩;clear h0 hc;go_enter Tryz.func129,Tryz.ntmps129;go_wp2_with fail
  refine(HIX.out _).mono ?_;rintro _ _ ⟨rfl,rfl⟩;have d1:(k:Int)≤(s.size:Int):=by omega
  have d2:(k:Int)+1≤(s.size:Int):=by omega
  have d3:k≤s.size:=by omega
  have d4:k+1≤s.size:=by omega
  go_wp2
  go_quiet (fail)
  go_wp2
  go_ret3;refine⟨Y3 _ _ _ _ _ _ ?_ ?_ ?_,_,rfl⟩
  ·exact Qv s k
  ·exact extract_drop s (k+1)
  ·rfl
 ·have d0:decide ((0:Int)≤i)=false:=by simp;omega
  rw[if_neg h0];go_enter Tryz.func129,Tryz.ntmps129;go_wp2_with fail
  refine(HIX.out _).mono ?_;rintro _ _ ⟨rfl,rfl⟩;clear hc h0;go_wp2
  go_ret3;refine⟨?_,0,rfl⟩
  first|rfl|exact Y3 _ _ _ _ _ _ rfl rfl rfl
theorem aev(s:ByteArray)(w:World)(hm:s.size≤9223372036854775807):
  Calls Tryz.prog 93 #[.string s,.string ⟨#[46]⟩] w fun e w'=>e=.returned (.tuple #[.string ⟨(gT s.data.toList).1.toArray⟩,.string ⟨(gT s.data.toList).2.1.toArray⟩,.bool (gT s.data.toList).2.2])∧ag w w':=by
 go_enter Tryz.func93,Tryz.ntmps93;go_wp2_with fail
 refine(Y4 s _ hm).mono ?_;rintro _ _ ⟨rfl,n,rfl⟩;go_wp2
 go_ret3;exact⟨rfl,(M _ _).drewN _⟩
def pK(l:List UInt8):Bool:=l.all Tr.digit&&!(l==[])
theorem NR(l:List UInt8)(w:World)(hm:ByteArray.size ⟨l.toArray⟩≤9223372036854775807):
  Calls Tryz.prog 94 #[.string ⟨l.toArray⟩] w fun e w'=>e=.returned (.bool (pK l))∧w'=w:=Wt ⟨l.toArray⟩ w hm
theorem NS(b:UInt8)(l:List UInt8):gT (b::l)=if b=46 then([],l,true)else(b::(gT l).1,(gT l).2.1,(gT l).2.2):=by
 unfold gT;rw[Lib.indexByte]
 by_cases h:b=46
 ·subst h;simp
 ·have h':(b==46)=false:=by simpa using h
  rw[h',if_neg h];simp only[Bool.false_eq_true,if_false]
  have hlo:-1≤Lib.indexByte l 46:=by
   induction l with
   |nil=>show(-1:Int)≤-1;decide
   |cons b l ih=>rw[Lib.indexByte];split<;>(try split)<;>omega
  by_cases h2:Lib.indexByte l 46=-1
  ·rw[h2];simp
  ·have h3:(Lib.indexByte l 46==-1)=false:=by simpa using h2
   rw[h3];simp only[Bool.false_eq_true,if_false];rw[if_pos (by omega),if_pos (by omega)];have e:(Lib.indexByte l 46+1).toNat=(Lib.indexByte l 46).toNat+1:=by omega
   rw[e];simp
theorem D7(b:UInt8)(h:Tr.digit b=true):b≠46:=by rintro rfl;revert h;decide
theorem Qw(l:List UInt8):(l.takeWhile (·≠46)=(gT l).1∧l.dropWhile (·≠46)=if(gT l).2.2 then 46::(gT l).2.1 else [])∧((gT l).2.2=false→(gT l).1=l∧(gT l).2.1=[]):=by
 induction l with
 |nil=>exact⟨⟨rfl,rfl⟩,fun _=>⟨rfl,rfl⟩⟩
 |cons b l ih=>
  rw[NS];obtain⟨h1,h2⟩:=ih
  by_cases h:b=46
  ·subst h
   rw[if_pos rfl];exact⟨⟨rfl,rfl⟩,fun h=>by cases h⟩
  ·rw[if_neg h]
   refine⟨⟨?_,?_⟩,fun hx=>?_⟩
   ·rw[List.takeWhile_cons,if_pos (by simpa using h),h1.1]
   ·rw[List.dropWhile_cons,if_pos (by simpa using h),h1.2]
   ·obtain⟨e1,e2⟩:=h2 hx
    exact⟨by rw[e1],e2⟩
theorem NT(l:List UInt8):Tr.isNum l=(decide (l.length≤20)&&(pK (gT l).1&&(!(gT l).2.2||pK (gT l).2.1))):=by
 obtain⟨h1,h2⟩:=Qw l;unfold Tr.isNum;rw[h1.1,h1.2]
 have hall:(gT l).2.2=true→l.all Tr.digit=false:=by
  clear h1 h2
  induction l with
  |nil=>intro h;cases h
  |cons b l ih=>
   rw[NS]
   by_cases h:b=46
   ·subst h;intro _;rfl
   ·rw[if_neg h]
    intro hx;rw[List.all_cons,ih hx,Bool.and_false]
 have hne:(gT l).2.2=true→l≠[]:=by rintro h rfl;cases h
 cases hc:(gT l).2.2 with
 |false=>
  obtain⟨e1,e2⟩:=h2 hc;rw[e1];unfold pK;cases l with
  |nil=>rfl
  |cons b l=>simp
 |true=>
  rw[hall hc];unfold pK;generalize (gT l).1=a;generalize (gT l).2.1=b;have:=hne hc;cases a<;>cases b<;>simp[this,Bool.and_assoc]
theorem abJ(l:List UInt8):(gT l).1.length≤l.length∧(gT l).2.1.length≤l.length:=by
 unfold gT;split
 ·simp only[List.length_take,List.length_drop];omega
 ·simp
theorem T9(s:ByteArray)(w:World)(hm:s.size≤9223372036854775807):
  Calls Tryz.prog 50 #[.string s] w fun e w'=>e=.returned (.bool (Tr.isNum s.data.toList))∧ag w w':=by
 have hl:s.data.toList.length=s.size:=by simp
 have hcl:=abJ s.data.toList;rw[hl]at hcl;have hm1:ByteArray.size ⟨(gT s.data.toList).2.1.toArray⟩≤9223372036854775807:=by show(gT s.data.toList).2.1.toArray.size≤_;simp;omega
 have hm2:ByteArray.size ⟨(gT s.data.toList).1.toArray⟩≤9223372036854775807:=by show(gT s.data.toList).1.toArray.size≤_;simp;omega
 have hsp:Tr.isNum s.data.toList=(decide ((s.size:Int)≤(20:Int))&&(pK (gT s.data.toList).1&&(!(gT s.data.toList).2.2||pK (gT s.data.toList).2.1))):=by
  rw[NT,hl];congr 1;rw[Bool.eq_iff_iff,decide_eq_true_iff,decide_eq_true_iff];omega
 have pJ:=hid hsp;clear hsp hl hcl;go_enter Tryz.func50,Tryz.ntmps50;go_wp2_with fail
 refine Calls.mono (aev s _ hm) ?_;rintro _ w8 ⟨rfl,afp⟩;have mZ:=hid (show ag w w8 from qV afp);clear afp;cases h10:decide ((s.size:Int)≤(20:Int))with
 |false=>
  go_wp2
  go_ret;exact⟨ai _ _ (by rw[pJ.out]<;>(simp only[*]<;>rfl)),(kV mZ.out)⟩
 |true=>
  go_wp2_with fail
  refine Calls.mono (NR (gT s.data.toList).1 _ hm2) ?_;rintro _ _ ⟨rfl,rfl⟩;cases h11:(pK (gT s.data.toList).1)with
  |false=>
   go_wp2
   go_ret;exact⟨ai _ _ (by rw[pJ.out]<;>(simp only[*]<;>rfl)),(kV mZ.out)⟩
  |true=>
   cases h12:(gT s.data.toList).2.2 with
   |false=>
    go_wp2
    go_ret;exact⟨ai _ _ (by rw[pJ.out]<;>(simp only[*]<;>rfl)),(kV mZ.out)⟩
   |true=>
    go_wp2_with fail
    refine Calls.mono (NR (gT s.data.toList).2.1 _ hm1) ?_;rintro _ _ ⟨rfl,rfl⟩;cases JF:(pK (gT s.data.toList).2.1)with
    |false=>
     go_wp2
     go_ret;exact⟨ai _ _ (by rw[pJ.out]<;>(simp only[*]<;>rfl)),(kV mZ.out)⟩
    |true=>
     go_wp2
     go_ret;exact⟨ai _ _ (by rw[pJ.out]<;>(simp only[*]<;>rfl)),(kV mZ.out)⟩
def gQ(W:World):List Tr.Nd→List Value→Prop
 |[],cs=>cs=[]
 |k::ks,cs=>∃sl ds,cs=.int .i64 k.kind::.string ⟨k.text.toArray⟩::.int .i64 k.ah::sl::ds∧aD W k.kids sl∧k.text.length≤maxLen∧gQ W ks ds
theorem gQ.length{W:World}:∀{ks:List Tr.Nd} {cs:List Value},gQ W ks cs→cs.length=ks.length*4
 |[],cs,h=>by rw[show cs=[]from h];rfl
 |k::ks,cs,⟨sl,ds,h,_,_,hd⟩=>by
  have:=gQ.length hd;rw[h];simp only[List.length_cons];omega
theorem gQ.fresh{W W':World}(hf:ag W W'):∀{ks:List Tr.Nd} {cs:List Value},gQ W ks cs→gQ W' ks cs
 |[],_,h=>h
 |_::_,_,⟨sl,ds,h,hr,ht,hd⟩=>⟨sl,ds,h,hr.fresh hf,ht,hd.fresh hf⟩
theorem gQ.append{W:World}:∀{ks ms:List Tr.Nd} {cs ds:List Value},gQ W ks cs→gQ W ms ds→gQ W (ks++ms) (cs++ds)
 |[],_,cs,_,h,h'=>by rw[show cs=[]from h];exact h'
 |_::_,_,_,_,⟨sl,es,h,hr,ht,hd⟩,h'=>⟨sl,es++_,by rw[h];rfl,hr,ht,hd.append h'⟩
theorem aD.oneCell{W:World}{ks:List Tr.Nd}{v:Value}(h:aD W ks v):v.oneCell'=true:=by
 obtain⟨A,cap,rfl⟩:=h.slice;rfl
theorem gQ.oneCell{W:World}:∀{ks:List Tr.Nd} {cs:List Value},gQ W ks cs→∀u∈cs,u.oneCell'=true
 |[],cs,h,u,hu=>by rw[show cs=[]from h]at hu;cases hu
 |_::_,_,⟨sl,ds,h,hr,_,hd⟩,u,hu=>by
  rw[h]at hu
  rcases List.mem_cons.1 hu with rfl|hu
  ·rfl
  ·rcases List.mem_cons.1 hu with rfl|hu
   ·rfl
   ·rcases List.mem_cons.1 hu with rfl|hu
    ·rfl
    ·rcases List.mem_cons.1 hu with rfl|hu
     ·exact hr.oneCell
     ·exact hd.oneCell u hu
theorem Qx{W:World}{g:Nat}:∀(ks:List Tr.Nd) (o:Nat) (sl:Nat→Value),(∀i (hi:i<ks.length),ks[i].text.length≤maxLen)→(∀i (hi:i<ks.length),W.cell? ⟨g,o+i*4,none⟩=some (.int .i64 ks[i].kind))→
  (∀i (hi:i<ks.length),W.cell? ⟨g,o+i*4+1,none⟩=some (.string ⟨ks[i].text.toArray⟩))→(∀i (hi:i<ks.length),W.cell? ⟨g,o+i*4+2,none⟩=some (.int .i64 ks[i].ah))→(∀i,i<ks.length→W.cell? ⟨g,o+i*4+3,none⟩=some (sl i))→
  (∀i (hi:i<ks.length),aD W ks[i].kids (sl i))→∃cs,gQ W ks cs∧∀j u,cs[j]?=some u→W.cell? ⟨g,o+j,none⟩=some u
 |[],o,sl,_,_,_,_,_,_=>⟨[],rfl,fun j u hu=>by simp at hu⟩
 |k::ks,o,sl,ht,h0,h1,h2,h3,hk=>by
  have e:∀i,o+(i+1)*4=o+4+i*4:=fun i=>by omega
  obtain⟨cs,hc,hx⟩:=Qx ks (o+4) (fun i=>sl (i+1)) (fun i hi=>ht (i+1) (by simpa using hi)) (fun i hi=>by rw[←e];exact h0 (i+1) (by simpa using hi)) (fun i hi=>by rw[←e];exact h1 (i+1) (by simpa using hi))
   (fun i hi=>by rw[←e];exact h2 (i+1) (by simpa using hi)) (fun i hi=>by rw[←e];exact h3 (i+1) (by simpa using hi)) (fun i hi=>hk (i+1) (by simpa using hi))
  refine⟨_,⟨sl 0,cs,rfl,hk 0 (by simp),ht 0 (by simp),hc⟩,fun j u hu=>?_⟩
  match j,hu with
  |0,hu=>have:=h0 0 (by simp);simp at hu this;rw[←hu];exact this
  |1,hu=>have:=h1 0 (by simp);simp at hu this;rw[←hu];exact this
  |2,hu=>have:=h2 0 (by simp);simp at hu this;rw[←hu];exact this
  |3,hu=>have:=h3 0 (by simp);simp at hu this;rw[←hu];exact this
  |j+4,hu=>
   have:=hx j u (by simpa using hu);rw[show o+(j+4)=o+4+j by omega];exact this
theorem aD.cells{W:World}{ks:List Tr.Nd}{A:Option Addr}{n cap:Nat}(h:aD W ks (.slice A n cap)):
  n=ks.length∧∃cs,gQ W ks cs∧(ks=[]∨∃g o,A=some ⟨g,o,none⟩∧g<W.heap.size∧∀j u,cs[j]?=some u→W.cell? ⟨g,o+j,none⟩=some u):=by
 generalize hv:Value.slice A n cap=v at h;cases h with
 |nil A' cap'=>cases hv;exact⟨rfl,[],rfl,.inl rfl⟩
 |row g o cap' _ sl hg hl ht h0 h1 h2 h3 hk=>
  cases hv;obtain⟨cs,h1',h2'⟩:=Qx ks o sl ht h0 h1 h2 h3 hk;exact⟨rfl,cs,h1',.inr ⟨g,o,rfl,hg,h2'⟩⟩
theorem gQ.get{W:World}:∀{ks:List Tr.Nd} {cs:List Value},gQ W ks cs→∀i (hi:i<ks.length),∃sl,cs[i*4]?=some (.int .i64 ks[i].kind)∧cs[i*4+1]?=some (.string ⟨ks[i].text.toArray⟩)∧cs[i*4+2]?=some (.int .i64 ks[i].ah)∧cs[i*4+3]?=some sl∧
  aD W ks[i].kids sl∧ks[i].text.length≤maxLen
 |[],_,_,i,hi=>by simp at hi
 |k::ks,cs,⟨sl,ds,h,hr,ht,hd⟩,i,hi=>by
  subst h;cases i with
  |zero=>exact⟨sl,rfl,rfl,rfl,rfl,hr,ht⟩
  |succ i=>
   obtain⟨s,g0,g1,g2,g3,g4,g5⟩:=hd.get i (by simpa using hi);refine⟨s,?_,?_,?_,?_,g4,g5⟩
   ·rw[show(i+1)*4=i*4+4 by omega];exact g0
   ·rw[show(i+1)*4+1=i*4+1+4 by omega];exact g1
   ·rw[show(i+1)*4+2=i*4+2+4 by omega];exact g2
   ·rw[show(i+1)*4+3=i*4+3+4 by omega];exact g3
theorem gQ.rep{W:World}{ks:List Tr.Nd}{cs:List Value}{g cap:Nat}(h:gQ W ks cs)(hg:g<W.heap.size)(hl:ks.length≤maxLen)(hc:∀j u,cs[j]?=some u→W.cell? ⟨g,j,none⟩=some u):aD W ks (.slice (some ⟨g,0,none⟩) ks.length cap):=by
 refine aD.row g 0 cap ks (fun i=>(cs[i*4+3]?).getD (.bool false)) hg hl ?_ ?_ ?_ ?_ ?_ ?_
 all_goals (intro i hi;obtain⟨sl,g0,g1,g2,g3,g4,g5⟩:=h.get i hi)
 ·exact g5
 ·rw[Nat.zero_add];exact hc _ _ g0
 ·rw[Nat.zero_add];exact hc _ _ g1
 ·rw[Nat.zero_add];exact hc _ _ g2
 ·rw[Nat.zero_add,g3];exact hc _ _ g3
 ·rw[g3];exact g4
theorem gQ.own{W:World}{ks:List Tr.Nd}{cs:List Value}{B e:Nat}{v:Value}(h:gQ W ks cs)(ho:W.ownsRow B e 4 v ks.length cs):aD W ks v:=by
 rcases ho.2 with⟨rfl,h0⟩|⟨g,cap,cur,rfl,hB,hb,h1,h2,_⟩
 ·rw[List.length_eq_zero_iff.1 h0]
  exact .nil _ _
 ·exact h.rep (ho.lt g rfl).2 (Nat.le_trans h1 h2) fun j u hu=>by
   have:=ho.cells (g:=g) rfl j u hu;rw[Addr.add_mid,Nat.zero_add]at this;exact this
end
section
open Go.RowKit
attribute [local go_sem] Oper.semAt_some
def Y5:Value:=.agg #[.string ⟨#[114,111,119]⟩,.int .i64 0,.func (.func 48) #[] #[]]
theorem Ua:Tryz.prog.built 66 [(0,.string ⟨#[114,111,119]⟩),(1,.int .i64 0),(2,.func (.func 48) #[] #[])]=some #[.string ⟨#[114,111,119]⟩,.int .i64 0,.func (.func 48) #[] #[]]:=by kernel_rfl
def Y6:Value:=.agg #[.string ⟨#[115,121,109]⟩,.int .i64 0,.func (.func 49) #[] #[]]
theorem Ub:Tryz.prog.built 66 [(0,.string ⟨#[115,121,109]⟩),(1,.int .i64 0),(2,.func (.func 49) #[] #[])]=some #[.string ⟨#[115,121,109]⟩,.int .i64 0,.func (.func 49) #[] #[]]:=by kernel_rfl
def Y7:Value:=.agg #[.string ⟨#[110,117,109]⟩,.int .i64 0,.func (.func 50) #[] #[]]
theorem Uc:Tryz.prog.built 66 [(0,.string ⟨#[110,117,109]⟩),(1,.int .i64 0),(2,.func (.func 50) #[] #[])]=some #[.string ⟨#[110,117,109]⟩,.int .i64 0,.func (.func 50) #[] #[]]:=by kernel_rfl
def Y8:Value:=.agg #[.string ⟨#[116,101,120,116]⟩,.int .i64 0,.func (.func 51) #[] #[]]
theorem Ud:Tryz.prog.built 66 [(0,.string ⟨#[116,101,120,116]⟩),(1,.int .i64 0),(2,.func (.func 51) #[] #[])]=some #[.string ⟨#[116,101,120,116]⟩,.int .i64 0,.func (.func 51) #[] #[]]:=by kernel_rfl
def Y9:Value:=.agg #[.string ⟨#[102,114,97,99]⟩,.int .i64 2,.func (.func 48) #[] #[]]
theorem Ue:Tryz.prog.built 66 [(0,.string ⟨#[102,114,97,99]⟩),(1,.int .i64 2),(2,.func (.func 48) #[] #[])]=some #[.string ⟨#[102,114,97,99]⟩,.int .i64 2,.func (.func 48) #[] #[]]:=by kernel_rfl
def Za:Value:=.agg #[.string ⟨#[114,111,111,116]⟩,.int .i64 2,.func (.func 48) #[] #[]]
theorem Uf:Tryz.prog.built 66 [(0,.string ⟨#[114,111,111,116]⟩),(1,.int .i64 2),(2,.func (.func 48) #[] #[])]=some #[.string ⟨#[114,111,111,116]⟩,.int .i64 2,.func (.func 48) #[] #[]]:=by kernel_rfl
def Zb:Value:=.agg #[.string ⟨#[115,117,98]⟩,.int .i64 2,.func (.func 48) #[] #[]]
theorem Ug:Tryz.prog.built 66 [(0,.string ⟨#[115,117,98]⟩),(1,.int .i64 2),(2,.func (.func 48) #[] #[])]=some #[.string ⟨#[115,117,98]⟩,.int .i64 2,.func (.func 48) #[] #[]]:=by kernel_rfl
def Zc:Value:=.agg #[.string ⟨#[115,117,112]⟩,.int .i64 2,.func (.func 48) #[] #[]]
theorem Uh:Tryz.prog.built 66 [(0,.string ⟨#[115,117,112]⟩),(1,.int .i64 2),(2,.func (.func 48) #[] #[])]=some #[.string ⟨#[115,117,112]⟩,.int .i64 2,.func (.func 48) #[] #[]]:=by kernel_rfl
def Zd:Value:=.agg #[.string ⟨#[98,111,116,104]⟩,.int .i64 3,.func (.func 48) #[] #[]]
theorem Ui:Tryz.prog.built 66 [(0,.string ⟨#[98,111,116,104]⟩),(1,.int .i64 3),(2,.func (.func 48) #[] #[])]=some #[.string ⟨#[98,111,116,104]⟩,.int .i64 3,.func (.func 48) #[] #[]]:=by kernel_rfl
def Vl:Value:=.agg #[.string ⟨#[97,99,99,101,110,116]⟩,.int .i64 1,.func (.func 52) #[] #[]]
theorem Qy:Tryz.prog.built 66 [(0,.string ⟨#[97,99,99,101,110,116]⟩),(1,.int .i64 1),(2,.func (.func 52) #[] #[])]=some #[.string ⟨#[97,99,99,101,110,116]⟩,.int .i64 1,.func (.func 52) #[] #[]]:=by kernel_rfl
def Vm:Value:=.agg #[.string ⟨#[102,101,110,99,101]⟩,.int .i64 1,.func (.func 53) #[] #[]]
theorem Qz:Tryz.prog.built 66 [(0,.string ⟨#[102,101,110,99,101]⟩),(1,.int .i64 1),(2,.func (.func 53) #[] #[])]=some #[.string ⟨#[102,101,110,99,101]⟩,.int .i64 1,.func (.func 53) #[] #[]]:=by kernel_rfl
def Vn:Value:=.agg #[.string ⟨#[109,97,116,114,105,120]⟩,.int .i64 0,.func (.func 48) #[] #[]]
theorem QA:Tryz.prog.built 66 [(0,.string ⟨#[109,97,116,114,105,120]⟩),(1,.int .i64 0),(2,.func (.func 48) #[] #[])]=some #[.string ⟨#[109,97,116,114,105,120]⟩,.int .i64 0,.func (.func 48) #[] #[]]:=by kernel_rfl
def o7:Array Value:=#[.string ⟨#[]⟩,.int .i64 0,.nilFunc,.string ⟨#[114,111,119]⟩,.int .i64 0,.func (.func 48) #[] #[],.string ⟨#[115,121,109]⟩,.int .i64 0,.func (.func 49) #[] #[],.string ⟨#[110,117,109]⟩,.int .i64 0,.func (.func 50) #[] #[],.string ⟨#[116,101,120,116]⟩,.int .i64 0,.func (.func 51) #[] #[],.string ⟨#[102,114,97,99]⟩,.int .i64 2,.func (.func 48) #[] #[],.string ⟨#[114,111,111,116]⟩,.int .i64 2,.func (.func 48) #[] #[],.string ⟨#[115,117,98]⟩,.int .i64 2,.func (.func 48) #[] #[],.string ⟨#[115,117,112]⟩,.int .i64 2,.func (.func 48) #[] #[],.string ⟨#[98,111,116,104]⟩,.int .i64 3,.func (.func 48) #[] #[],.string ⟨#[97,99,99,101,110,116]⟩,.int .i64 1,.func (.func 52) #[] #[],.string ⟨#[102,101,110,99,101]⟩,.int .i64 1,.func (.func 53) #[] #[],.string ⟨#[109,97,116,114,105,120]⟩,.int .i64 0,.func (.func 48) #[] #[]]
def NU:Array Value:=#[.string ⟨#[]⟩,.int .i64 0,.nilFunc,.string ⟨#[]⟩,.int .i64 0,.nilFunc,.string ⟨#[]⟩,.int .i64 0,.nilFunc,.string ⟨#[]⟩,.int .i64 0,.nilFunc,.string ⟨#[]⟩,.int .i64 0,.nilFunc,.string ⟨#[]⟩,.int .i64 0,.nilFunc,.string ⟨#[]⟩,.int .i64 0,.nilFunc,.string ⟨#[]⟩,.int .i64 0,.nilFunc,.string ⟨#[]⟩,.int .i64 0,.nilFunc,.string ⟨#[]⟩,.int .i64 0,.nilFunc,.string ⟨#[]⟩,.int .i64 0,.nilFunc,.string ⟨#[]⟩,.int .i64 0,.nilFunc,.string ⟨#[]⟩,.int .i64 0,.nilFunc]
theorem Pd(w:World):(zeroValue 67).run Tryz.prog w=.ok (.agg NU) w:=by kernel_rfl
theorem Uj:Tryz.prog.built 67 [(1,Y5),(2,Y6),(3,Y7),(4,Y8),(5,Y9),(6,Za),(7,Zb),(8,Zc),(9,Zd),(10,Vl),(11,Vm),(12,Vn)]=some o7:=by kernel_rfl
theorem NV:(Tryz.prog.info? 67).map (·.size)=some 39:=by kernel_rfl
theorem Pe:o7.all (·.oneCell')=true:=by kernel_rfl
theorem cK{t:TypeId}{cs:Array Value}{ops:Array Oper}{rest:List Oper}{o:Oper}{a:Act}{w:World}{Q:Exit→Act→World→Prop}(vs:List (Nat×Value))(hb:Tryz.prog.built t vs=some cs)(xs:Array (Nat×Operand))(hg:o.guard=none)(ho:o.op=.build t xs)
  (hx:(xs.map fun p=>(p.1,a.eval p.2))=vs.toArray) (v:Value) (hv:v=.agg cs) (h:wpList Tryz.prog ops Q rest (a.put o.dst v) w):wpList Tryz.prog ops Q (o::rest) a w:=by
 subst hv;refine wpList_plain hg fun K hK=>?_
 unfold Oper.wp execOp;simp only[ho,Sem.run_bind,hx];rw[run_build w t vs.toArray _ hb];simp only[Result.andThen_ok];exact hK _ _ h
theorem Ze(w:World):
  Calls Tryz.prog 27 #[] w fun e w'=>e=.returned (.agg o7)∧ag w w':=by
 have hz:=Pd;go_enter Tryz.func27,Tryz.ntmps27
 go_wp2_with (first
  |(refine cK _ Ua _ rfl rfl rfl Y5 rfl ?_)
  |(refine cK _ Ub _ rfl rfl rfl Y6 rfl ?_)
  |(refine cK _ Uc _ rfl rfl rfl Y7 rfl ?_)
  |(refine cK _ Ud _ rfl rfl rfl Y8 rfl ?_)
  |(refine cK _ Ue _ rfl rfl rfl Y9 rfl ?_)
  |(refine cK _ Uf _ rfl rfl rfl Za rfl ?_)
  |(refine cK _ Ug _ rfl rfl rfl Zb rfl ?_)
  |(refine cK _ Uh _ rfl rfl rfl Zc rfl ?_)
  |(refine cK _ Ui _ rfl rfl rfl Zd rfl ?_)
  |(refine cK _ Qy _ rfl rfl rfl Vl rfl ?_)
  |(refine cK _ Qz _ rfl rfl rfl Vm rfl ?_)
  |(refine cK _ QA _ rfl rfl rfl Vn rfl ?_)
  |(refine cK _ Uj _ rfl rfl rfl (.agg o7) rfl ?_)
  |(refine wpList_store_row rfl 67 _ _ rfl w.heap.size o7 rfl rfl 67 NU (af.new _ _ _) NV rfl Pe ?_))
 refine bodyPost_ret (results_cell_row (fn:=Tryz.f27) (p:=0) rfl _ _ w.heap.size 67 o7 (0,0) _ rfl (setRow_heap _ _ _ _ _ _ (af.new _ _ _)) Tryz.underlying67 rfl NV) rfl ?_;exact⟨rfl,((M _ w).alloc _).setRow (.inr (Nat.le_refl _)) _⟩
end
section
open Go.RowKit
theorem lK{f:Nat}{args:Array Value}{v:Value}{w:World}(h:Calls Tryz.prog f args w fun e w'=>e=.returned v∧w'=w):Calls Tryz.prog f args w fun e w'=>e=.returned v∧ag w w':=
 h.mono fun _ _ h=>⟨h.1,by rw[h.2];exact M _ _⟩
def jG(m:Int):Array Value:=o7.push (.int .i64 m)
def mJ(k c:Int)(n:Nat)(slots:Int):Bool:=
 if k==1 then(c==(0:Int))&&decide ((n:Int)≤(200:Int))
 else if k==12 then decide ((1:Int)≤c)&&(decide (c≤(16:Int))&&(decide ((1:Int)≤(n:Int))&&(decide ((n:Int)≤(256:Int))&&(((n:Int)%c)==(0:Int)))))
 else(c==(0:Int))&&((n:Int)==slots)
theorem qp(t:List UInt8)(ah slots:Int)(k len:Nat)(fid:Nat)(tx:Bool)(A:Option Addr)(cap c g o:Nat)(w:World)(hk1:1≤k)(hk2:k≤12)(hcf:∀(a:Array Value) (w':World),(callFunc fid a).run Tryz.prog w'=.ok (.enter fid a) w')
  (ct:∀w',Calls Tryz.prog fid #[.string ⟨t.toArray⟩] w' fun e w''=>e=.returned (.bool tx)∧ag w' w'')
  (a0:w.cell? ⟨g,o,none⟩=some (.int .i64 (k:Int))) (a1:w.cell? ⟨g,o+1,none⟩=some (.string ⟨t.toArray⟩)) (a2:w.cell? ⟨g,o+2,none⟩=some (.int .i64 ah)) (a3:w.cell? ⟨g,o+3,none⟩=some (.slice A len cap))
  (c1:w.cell? ⟨c,k*3+1,none⟩=some (.int .i64 slots)) (c2:w.cell? ⟨c,k*3+2,none⟩=some (.func (.func fid) #[] #[])):
  Calls Tryz.prog 54 #[.pointer (some ⟨c,0,none⟩),.pointer (some ⟨g,o,none⟩)] w fun e w'=>e=.returned (.bool (tx&&mJ k ah len slots))∧ag w w':=by
 have CT:=hid ct;clear ct;have e1:decide ((k:Int)<(1:Int))=false:=dF (by omega);have e2:decide ((12:Int)<(k:Int))=false:=dF (by omega);have e3:decide (k<1)=false:=dF (by omega);have e4:decide (12<k)=false:=dF (by omega);have e5:(k:Int)<13:=by omega
 have e6:k<13:=by omega
 go_enter Tryz.func54,Tryz.ntmps54;go_wp2_with fail
 refine bK (fun W=>ag w W) aF ?_;rintro w1 kH;have aK:=hid kH;clear kH;obtain⟨Wx,Wy,Wz,WB⟩:=xW aK.out a0 a1 a2 a3;have WC:=Touch.cell aK.out c1 (fun h=>h);have WE:=Touch.cell aK.out c2 (fun h=>h);clear a0 a1 a2 a3 c1 c2;have afq:=cR Wx;have afr:=cR Wy;have afs:=cR Wz;have aft:=cR WB;have afu:=cR WC;have afv:=cR WE;have ag4:=hid (lJ (P:=Tryz.prog) w1 (fun w hw=>CT.out _));refine wp_region_quiet_below (by kernel_rfl) (by kernel_rfl) ?_
 repeat(quiet_step (first|with_reducible exact ag4.out _ _))
 refine wpQuiet_nil ?_;rintro w2 ⟨⟨_,_⟩,afw⟩;have hfw2:ag w1 w2:=by rw[afw];exact aZ (below_regrown _ _ _)
 clear afw afq afr afs aft afu afv;have bW:=hid (show ag w1 w2 from qV hfw2);obtain⟨akA,akB,akC,akD⟩:=xW bW.out Wx Wy Wz WB;have akE:=Touch.cell bW.out WC (fun h=>h);have akF:=Touch.cell bW.out WE (fun h=>h);clear Wx Wy Wz WB WC WE;clear hfw2;cases h1:tx with
 |false=>
  go_wp2
  go_ret;exact⟨ai _ _ (by unfold mJ;simp only[*]<;>rfl),(kV (aK.out.trans bW.out))⟩
 |true=>
  cases h2:((k:Int)==(1:Int))with
  |false=>
   have QB:((k:Int) !=(1:Int))=true:=by rw[bne,h2];rfl
   have GH:(k==1)=false:=by have hx:=h2;simp only[beq_eq_false_iff_ne,ne_eq]at hx⊢;omega
   cases h3:((k:Int)==(12:Int))with
   |false=>
    have D5:((k:Int) !=(12:Int))=true:=by rw[bne,h3];rfl
    have Y1:(k==12)=false:=by have hx:=h3;simp only[beq_eq_false_iff_ne,ne_eq]at hx⊢;omega
    cases h4:(ah==(0:Int))with
    |false=>
     have QC:(ah !=(0:Int))=true:=by rw[bne,h4];rfl
     go_wp2
     go_quiet (fail)
     go_wp2
     go_ret;exact⟨ai _ _ (by unfold mJ;simp only[*]<;>rfl),(kV (aK.out.trans bW.out))⟩
    |true=>
     have QC:(ah !=(0:Int))=false:=by rw[bne,h4];rfl
     go_wp2
     go_quiet (fail)
     cases h5:((len:Int)==slots)with
     |false=>
      have Zf:((len:Int) !=slots)=true:=by rw[bne,h5];rfl
      go_wp2
      go_ret;exact⟨ai _ _ (by unfold mJ;simp only[*]<;>rfl),(kV (aK.out.trans bW.out))⟩
     |true=>
      have Zf:((len:Int) !=slots)=false:=by rw[bne,h5];rfl
      go_wp2
      go_ret;exact⟨ai _ _ (by unfold mJ;simp only[*]<;>rfl),(kV (aK.out.trans bW.out))⟩
   |true=>
    have D5:((k:Int) !=(12:Int))=false:=by rw[bne,h3];rfl
    have Y1:(k==12)=true:=by have hx:=h3;simp only[beq_iff_eq]at hx⊢;omega
    cases h6:decide ((1:Int)≤ah)with
    |false=>
     go_wp2
     go_quiet (fail)
     go_wp2
     go_ret;exact⟨ai _ _ (by unfold mJ;simp only[*]<;>rfl),(kV (aK.out.trans bW.out))⟩
    |true=>
     have h6p:=of_decide_eq_true h6;cases h7:decide (ah≤(16:Int))with
     |false=>
      go_wp2
      go_quiet (fail)
      go_wp2
      go_ret;exact⟨ai _ _ (by unfold mJ;simp only[*]<;>rfl),(kV (aK.out.trans bW.out))⟩
     |true=>
      have h7p:=of_decide_eq_true h7;cases h8:decide ((1:Int)≤(len:Int))with
      |false=>
       have h8n:decide (1≤len)=false:=by have hx:=h8;simp only[decide_eq_false_iff_not]at hx⊢;omega
       go_wp2
       go_quiet (fail)
       go_wp2
       go_ret;exact⟨ai _ _ (by unfold mJ;simp only[*]<;>rfl),(kV (aK.out.trans bW.out))⟩
      |true=>
       have h8p:=of_decide_eq_true h8;have h8n:decide (1≤len)=true:=by have hx:=h8;simp only[decide_eq_true_eq]at hx⊢;omega
       cases h9:decide ((len:Int)≤(256:Int))with
       |false=>
        have h9n:decide (len≤256)=false:=by have hx:=h9;simp only[decide_eq_false_iff_not]at hx⊢;omega
        go_wp2
        go_quiet (fail)
        go_wp2
        go_ret;exact⟨ai _ _ (by unfold mJ;simp only[*]<;>rfl),(kV (aK.out.trans bW.out))⟩
       |true=>
        have h9p:=of_decide_eq_true h9;have h9n:decide (len≤256)=true:=by have hx:=h9;simp only[decide_eq_true_eq]at hx⊢;omega
        go_wp2
        go_quiet (fail)
        cases h10:(((len:Int)%ah)==(0:Int))with
        |false=>
         have abK:(((len:Int)%ah) !=(0:Int))=true:=by rw[bne,h10];rfl
         go_wp2
         go_ret;exact⟨ai _ _ (by unfold mJ;simp only[*]<;>rfl),(kV (aK.out.trans bW.out))⟩
        |true=>
         have abK:(((len:Int)%ah) !=(0:Int))=false:=by rw[bne,h10];rfl
         go_wp2
         go_ret;exact⟨ai _ _ (by unfold mJ;simp only[*]<;>rfl),(kV (aK.out.trans bW.out))⟩
  |true=>
   have QB:((k:Int) !=(1:Int))=false:=by rw[bne,h2];rfl
   have GH:(k==1)=true:=by have hx:=h2;simp only[beq_iff_eq]at hx⊢;omega
   cases h11:(ah==(0:Int))with
   |false=>
    have QD:(ah !=(0:Int))=true:=by rw[bne,h11];rfl
    go_wp2
    go_ret;exact⟨ai _ _ (by unfold mJ;simp only[*]<;>rfl),(kV (aK.out.trans bW.out))⟩
   |true=>
    have QD:(ah !=(0:Int))=false:=by rw[bne,h11];rfl
    cases h12:decide ((len:Int)≤(200:Int))with
    |false=>
     have ah3:decide (len≤200)=false:=by have hx:=h12;simp only[decide_eq_false_iff_not]at hx⊢;omega
     go_wp2
     go_ret;exact⟨ai _ _ (by unfold mJ;simp only[*]<;>rfl),(kV (aK.out.trans bW.out))⟩
    |true=>
     have akL:=of_decide_eq_true h12;have ah3:decide (len≤200)=true:=by have hx:=h12;simp only[decide_eq_true_eq]at hx⊢;omega
     go_wp2
     go_ret;exact⟨ai _ _ (by unfold mJ;simp only[*]<;>rfl),(kV (aK.out.trans bW.out))⟩
end
end Go.Proofs.YtcgbccfpcgaikaaGreatDoor
