/- Part 4 of 48 of a proof. No condition. -/
import Derived.Lib.AppendStr
import Derived.Test.YtnbeemkfmlfgfaaGreatDoorTm3
set_option maxRecDepth 100000
set_option maxHeartbeats 1000000
namespace Go.Proofs.YtnbeemkfmlfgfaaGreatDoor
section
open Go.RowKit
theorem strCells_eq(s:ByteArray):Lib.strCells s=Lib.byteCells s.data.toList:=by rfl
theorem Mc(l m:List UInt8):Lib.byteCells (l++m)=Lib.byteCells l++Lib.byteCells m:=by simp[Lib.byteCells]
theorem Io{w:World}{B b o:Nat}{T:TypeId}{cs:Array Value}{v:Value}{l:List UInt8}(h:yE w B b o T cs v l)(hbB:b<B)
  (hlies:liesAt Tryz.prog Tryz.prog.depth T (cs.size/Tryz.prog.cellsOf T) o 67 1=true) (s:ByteArray) (hlen:l.length+s.size≤140737488355328) (hB:B≤w.heap.size):
  Calls Tryz.prog 105 #[.pointer (some ⟨b,o,none⟩),.string s] w fun e w'=>e=.returned (.tuple #[.int .i64 s.size,.nilIface])∧∃v',yE w' B b o T ((cs.setIfInBounds o (.pointer (some ⟨b,o,none⟩))).setIfInBounds (o+1) v') v' (l++s.data.toList)∧Touch (fun k=>k=b∨v.ownBlock=some k) w w':=by
 obtain⟨i0,hi,hz0,hz1,hz2⟩:=info_parts MJ;have ho:o+1<cs.size:=(Array.getElem?_eq_some_iff.1 h.buf).1;go_enter Tryz.func105,Tryz.ntmps105;go_wp2_with fail
 refine(Dt h hlies).mono ?_;rintro e w1 ⟨rfl,hb1,ht1,hs1⟩
 have c1:w1.cell? ⟨b,o+1,none⟩=some v:=by
  rw[hb1.cell,Array.getElem?_setIfInBounds_ne (by omega)];exact h.buf
 have hown:w1.ownsRow B 5 1 v l.length (Lib.byteCells l):=fI h.own ht1 (fun k hk e=>h.ne (by rw[hk,e]));have HB:=I hb1;have HT:=I ht1;have HS:=I hs1;clear hb1 ht1 hs1
 go_wp2_with (at_builtin;refine Lib.wpList_append_own_string _ rfl _ _ 65 9 rfl B 5 i0 Tryz.underlying65 Tryz.underlying9 hi hz0 hz1 hz2 _ _ _ rfl hown s rfl ?c3 ?c4 ?c5 ?_)
 case c3=>unfold maxLen;omega
 case c4=>omega
 case c5=>have:=HS.J;omega
 intro v' w2 hown' hgrow hnl;have hlt1:=HB.J.lt;have ht2:Touch (fun k=>v.ownBlock=some k) w1 w2:=(M (fun k=>v.ownBlock=some k) w1).grown hgrow (fun g hg=>.inl hg);have hb2:O w2 b T (cs.setIfInBounds o (.pointer (some ⟨b,o,none⟩))):=ht2.blk HB.J h.ne
 have d1:w2.cell? ⟨b,o+1,none⟩=some v:=by
  rw[hb2.cell,Array.getElem?_setIfInBounds_ne (by omega)];exact h.buf
 have f1:w2.frozen? ⟨b,o+1,none⟩=false:=hb2.frozen _;have hne':v'.ownBlock≠some b:=fun e=>by have:=(hown'.lt b e).1;omega
 have hnil:l++s.data.toList=[]→v'=.slice none 0 0:=fun e=>by
  obtain⟨e1,e2⟩:=List.append_eq_nil_iff.1 e;refine hnl.2 ⟨h.RO e1,?_⟩;apply ByteArray.ext
  apply Array.toList_inj.1
  rw[e2];rfl
 obtain⟨A',cap',rfl⟩:∃A cap,v'=.slice A (l.length+s.size) cap:=by
  rcases hown'.2 with⟨h1,h2⟩|⟨g,cap,cur,h1,_⟩
  ·exact⟨none,0,by rw[h1,h2]⟩
  ·exact⟨_,_,h1⟩
 have HB2:=I hb2;have HT2:=I ht2;have HO:=I hown';have HN:=I hne';have aeT:=I hnil;clear hb2 ht2 hown' hne' hgrow hown hnl hnil
 go_wp2
 go_ret2;refine⟨rfl,_,⟨HB2.J.put _ _,.inr ?_,?_,?_,HN.J,aeT.J⟩,?_⟩
 ·rw[Array.getElem?_setIfInBounds_ne (by omega),Array.getElem?_setIfInBounds_self_of_lt (by omega)]
 ·rw[Array.getElem?_setIfInBounds_self_of_lt (by simp;omega)]
 ·have hl:(l++s.data.toList).length=l.length+s.size:=by simp
  rw[Mc,←strCells_eq,hl];exact fI HO.J ((M (·=b) w2).setCell (p:=⟨b,o+1,none⟩) (.inl rfl) _) (fun k hk e=>HN.J (by rw[hk,e]))
 ·exact((HT.J.mono (fun _ h=>.inl h)).trans (HT2.J.mono (fun _ h=>.inr h))).setCell (p:=⟨b,o+1,none⟩) (.inl (.inl rfl)) _
end
end Go.Proofs.YtnbeemkfmlfgfaaGreatDoor
