/- Part 16 of 48 of a proof. No condition. -/
import Derived.Test.YtnbeemkfmlfgfaaGreatDoorTm15
set_option maxRecDepth 100000
set_option maxHeartbeats 8000000
namespace Go.Proofs.YtnbeemkfmlfgfaaGreatDoor
section
open Go.RowKit
open Xp (Rs aX white aL jy gH iK aD au)
open U (E aA)
namespace Xp
def kQ(c:Nat)(aB:aA)(l:List UInt8):Rs (aA×Bool):=iK c (9-aB.length) aB l
theorem sK{c:Nat}{aB:aA}{l:List UInt8}(h:aB.length≤8):kQ c aB l=match l.dropWhile white with
  |[]=>.bad []
  |b::l2=>if b=47 then(match aL 62 c l2 with
    |.bad l3=>.bad l3
    |.ok _ l3 _=>.ok (aB,true) l3 c)
   else if b=62 then .ok (aB,false) l2 c
   else if(b::l2).length<l.length∧U.letter b=true∧aB.length<8 then(match gH aB c (b::l2)with
    |.bad l3=>.bad l3
    |.ok a l3 _=>kQ c (aB++[a]) l3)
   else .bad (b::l2):=by
 have h1:9-aB.length=(8-aB.length)+1:=by omega
 have h2:∀a,kQ c (aB++[a])=iK c (8-aB.length) (aB++[a]):=fun a=>by
  unfold kQ;rw[List.length_append,show 9-(aB.length+[a].length)=8-aB.length by simp only[List.length_cons,List.length_nil];omega]
 simp only[h2];unfold kQ;rw[h1,iK];rfl
theorem IM{c:Nat}{aB:aA}{l:List UInt8}(h:aB.length≤8)(hd:l.dropWhile white=[]):kQ c aB l=.bad []:=by rw[sK h,hd]
theorem Dw{c:Nat}{aB:aA}{l l2 l3:List UInt8}(h:aB.length≤8)(hd:l.dropWhile white=47::l2)(he:aL 62 c l2=.bad l3):kQ c aB l=.bad l3:=by
 rw[sK h,hd];simp only[if_pos,he]
theorem Eh{c:Nat}{aB:aA}{l l2 l3:List UInt8}{u:Unit}{c3:Nat}(h:aB.length≤8)(hd:l.dropWhile white=47::l2)(he:aL 62 c l2=.ok u l3 c3):kQ c aB l=.ok (aB,true) l3 c:=by
 rw[sK h,hd];simp only[if_pos,he]
theorem KU{c:Nat}{aB:aA}{l l2:List UInt8}(h:aB.length≤8)(hd:l.dropWhile white=62::l2):kQ c aB l=.ok (aB,false) l2 c:=by
 rw[sK h,hd];exact(if_neg (by decide)).trans (if_pos rfl)
theorem uN{c:Nat}{aB:aA}{l l2:List UInt8}{b:UInt8}(h:aB.length≤8)(hd:l.dropWhile white=b::l2)(h1:¬b=47)(h2:¬b=62)(h3:¬((b::l2).length<l.length∧U.letter b=true∧aB.length<8)):kQ c aB l=.bad (b::l2):=by
 rw[sK h,hd];exact(if_neg h1).trans ((if_neg h2).trans (if_neg h3))
theorem IP{c:Nat}{aB:aA}{l l2 l3:List UInt8}{b:UInt8}(h:aB.length≤8)(hd:l.dropWhile white=b::l2)(h1:¬b=47)(h2:¬b=62)(h3:(b::l2).length<l.length∧U.letter b=true∧aB.length<8)(ha:gH aB c (b::l2)=.bad l3):kQ c aB l=.bad l3:=by
 rw[sK h,hd];refine(if_neg h1).trans ((if_neg h2).trans ((if_pos h3).trans ?_));rw[ha]
theorem F9{c:Nat}{aB:aA}{l l2 l3:List UInt8}{b:UInt8}{a:List UInt8×List UInt8}{c3:Nat}(h:aB.length≤8)(hd:l.dropWhile white=b::l2)(h1:¬b=47)(h2:¬b=62)(h3:(b::l2).length<l.length∧U.letter b=true∧aB.length<8)(ha:gH aB c (b::l2)=.ok a l3 c3):kQ c aB l=kQ c (aB++[a]) l3:=by
 rw[sK h,hd];refine(if_neg h1).trans ((if_neg h2).trans ((if_pos h3).trans ?_));rw[ha]
theorem Zb{aB:aA}{c:Nat}{l:List UInt8}{x:List UInt8×List UInt8}{l1:List UInt8}{c1:Nat}(h:gH aB c l=.ok x l1 c1):l1.length<l.length:=by
 cases hn:jy c l with
 |bad l2=>rw[sJ hn]at h;cases h
 |ok nm l2 c2=>
  rw[ve hn]at h;have hl:=(Eg hn).2;cases l2 with
  |nil=>cases h
  |cons b l3=>
   have h:(if b≠61∨aB.any (fun x=>x.1==nm)=true then Rs.bad (b::l3)else uL nm c (aL 34 c l3))=.ok x l1 c1:=h;split at h
   ·cases h
   ·cases he:aL 34 c l3 with
    |bad l4=>rw[he]at h;cases h
    |ok u l4 c4=>
     rw[he]at h;have h:uK nm c (fZ 34 c [] l4)=.ok x l1 c1:=h;have h4:=(lg 34 c l3).len;rw[he]at h4;have h4:l4.length≤l3.length:=h4;cases ht:fZ 34 c [] l4 with
     |bad l5=>rw[ht]at h;cases h
     |ok v l5 c5=>
      rw[ht]at h;cases h;have h5:=KT 34 c _ l4 [] v l5 c5 (Nat.le_refl _) ht;have h6:(l5.drop 1).length≤l5.length:=by rw[List.length_drop];omega
      simp only[List.length_cons,List.length_nil]at h5 hl;omega
def Cs(n:Nat)(nm:List UInt8)(c:Nat):Rs (aA×Bool)→Rs E
 |.bad l1=>.bad l1
 |.ok (aB,true) l1 _=>.ok (.mk nm aB [] []) l1 c
 |.ok (aB,false) l1 _=>match aD (au n) nm l1 c with
  |.bad l2=>.bad l2
  |.ok (ks,t) l2 c2=>.ok (.mk nm aB ks t) l2 c2
theorem KV{n c:Nat}{nm l l2:List UInt8}{aB:aA}{c1:Nat}(h:aD (au n) nm l c=.bad l2):Cs n nm c (.ok (aB,false) l c1)=.bad l2:=by
 show(match aD (au n) nm l c with|.bad l2=>_|.ok (ks,t) l2 c2=>_)=_;rw[h]
theorem NL{n c:Nat}{nm l l2 t:List UInt8}{aB:aA}{ks:List E}{c1 c2:Nat}(h:aD (au n) nm l c=.ok (ks,t) l2 c2):Cs n nm c (.ok (aB,false) l c1)=.ok (.mk nm aB ks t) l2 c2:=by
 show(match aD (au n) nm l c with|.bad l2=>_|.ok (ks,t) l2 c2=>_)=_;rw[h]
theorem QV{n c:Nat}{b:UInt8}{l':List UInt8}(hb:U.letter b=true)(hc:c<3000):au (n+1) (b::l') c=Cs n ((b::l').takeWhile U.inner) (c+1) (kQ (c+1) [] ((b::l').dropWhile U.inner)):=by
 rw[au,if_neg (by rintro(h|h);rw[hb]at h;cases h;omega)];show _=Cs n _ (c+1) (iK (c+1) 9 [] ((b::l').dropWhile U.inner));cases iK (c+1) 9 [] ((b::l').dropWhile U.inner)with
 |bad l1=>rfl
 |ok p l1 c1=>
  obtain⟨aB,z⟩:=p;cases z with
  |true=>rfl
  |false=>rfl
theorem Ct{n c:Nat}{b:UInt8}{l':List UInt8}(h:U.letter b=false∨3000≤c):au (n+1) (b::l') c=.bad (b::l'):=by rw[au,if_pos h]
theorem FE{c:Nat}{b:UInt8}{l':List UInt8}(h:U.letter b=true):jy c (b::l')=.ok ((b::l').takeWhile U.inner) ((b::l').dropWhile U.inner) c:=if_pos h
end Xp
def XE(S:ByteArray)(g:Nat)(w:World)(r:Rs E)(e:Ending)(w':World):Prop:=match r with
 |.ok x l' c'=>∃va vk,e=.returned (ev x va vk)∧Touch (fun b=>b=g) w w'∧aZ (fun k=>k<w.heap.size) w' (fun W=>bN W x va vk)∧Xr S g l' c' w'
 |.bad l'=>XS S g w l' e w'
def Cu(S:ByteArray)(g n:Nat):Prop:=∀(d:Int) (l:List UInt8) (c:Nat) (w:World),d=65-(n:Int)→Xr S g l c w→
 Calls Tryz.prog 110 #[.pointer (some ⟨g,0,none⟩),.int .i64 d] w fun e w'=>XE S g w (au n l c) e w'
def XC(S:ByteArray)(g E0:Nat)(nm:List UInt8)(va:Value)(w:World)(r:Rs (List E×List UInt8))(e:Ending)(w':World):Prop:=match r with
 |.ok x l' c'=>e=.returned (.tuple #[])∧∃A n cp,O w' E0 45 #[.string ⟨nm.toArray⟩,va,.slice A n cp,.string ⟨x.2.toArray⟩]∧x.2.length≤maxLen∧
   aZ (fun k=>k<w.heap.size) w' (fun W=>dL W x.1 (.slice A n cp))∧Touch (fun b=>b=g∨b=E0) w w'∧Xr S g l' c' w'
 |.bad l'=>e=.panicked (QO (S.size-l'.length))∧Touch (fun b=>b=g∨b=E0) w w'
def abl(S:ByteArray)(g n:Nat):Prop:=∀(d:Int) (nm:List UInt8) (va:Value) (E0:Nat) (l:List UInt8) (c:Nat) (w:World),d=64-(n:Int)→nm.length≤S.size→E0≠g→
 O w E0 45 #[.string ⟨nm.toArray⟩,va,.slice none 0 0,.string ⟨#[]⟩]→Xr S g l c w→
 Calls Tryz.prog 167 #[.pointer (some ⟨g,0,none⟩),.pointer (some ⟨E0,0,none⟩),.int .i64 d] w fun e w'=>XC S g E0 nm va w (aD (au n) nm l c) e w'
end
section
open Go.RowKit
open Xp (Rs aX white aL jy gH iK aD au kQ Cs)
open U (E aA)
attribute [local go_sem] jg stillUpon
theorem NM{g B:Nat}{w:World}{aB:aA}{v:Value}(h:lU B w aB v)(hg:g<B):aZ (fun b=>b=g) w fun W=>dW W aB v:=h.NK.mono fun i _ hi=>by subst hi;exact hg
theorem Vx(S:ByteArray)(g:Nat):Cu S g 0:=by
 intro d l c w hd h;have HX:=I h;have hd1:decide ((64:Int)<d)=true:=dT (by omega);have hd2:(64:Int)<d:=by omega
 have dh:=I ((M (fun _=>False) w).alloc (.cells Z 45));have HX0:=I (HX.J.fresh dh.J);clear h hd;cases l with
 |nil=>
  have aG:=I (show au 0 [] c=.bad [] by rw[au]);go_enter Tryz.func110,Tryz.ntmps110;go_wp2_with fail
  refine(iZ S g c _ HX0.J).mono ?_;rintro _ w1 ⟨rfl,ht⟩;refine⟨rfl,(?_:XE S g w (au 0 [] c) _ _)⟩;rw[aG.J];exact⟨rfl,(dh.J.mono fun _ h=>h.elim).trans ht⟩
 |cons b l'=>
  have aG:=I (show au 0 (b::l') c=.bad (b::l') by rw[au]);cases hb:U.letter b with
  |false=>
   go_enter Tryz.func110,Tryz.ntmps110;go_wp2_with fail
   refine(bK S g c b l' _ HX0.J).mono ?_;rintro _ w1 ⟨rfl,hf⟩;have bS:=I (HX0.J.fresh hf);have aF:=I (dh.J.trans hf);clear hf;go_wp2_with fail
   refine(jv b _).mono ?_;rintro _ w2 ⟨rfl,hw⟩;subst hw;go_wp2_with fail
   refine(iq S g (b::l') c _ bS.J).mono ?_;rintro _ w3 ⟨rfl,rfl⟩;refine⟨rfl,(?_:XE S g w (au 0 (b::l') c) _ _)⟩;rw[aG.J];exact⟨rfl,aF.J.mono fun _ h=>h.elim⟩
  |true=>
   by_cases hc:3000≤c
   all_goals
    go_enter Tryz.func110,Tryz.ntmps110;go_wp2_with fail
    refine(bK S g c b l' _ HX0.J).mono ?_;rintro _ w1 ⟨rfl,hf⟩;have bS:=I (HX0.J.fresh hf);have aF:=I (dh.J.trans hf);obtain⟨q0,q1,q2,f0,f1,f2,hg⟩:=fV bS.J.blk;clear hf;go_wp2_with fail
    refine(jv b _).mono ?_;rintro _ w2 ⟨rfl,hw⟩;subst hw
    first
     |(have hc2:decide ((3000:Int)≤(c:Int))=true:=dT (by omega);clear hc;go_wp2_with fail)
     |(have hc2:decide ((3000:Int)≤(c:Int))=false:=dF (by omega);clear hc;go_wp2_with fail)
    refine(iq S g (b::l') c _ bS.J).mono ?_;rintro _ w3 ⟨rfl,rfl⟩;refine⟨rfl,(?_:XE S g w (au 0 (b::l') c) _ _)⟩;rw[aG.J];exact⟨rfl,aF.J.mono fun _ h=>h.elim⟩
theorem IQ{S:ByteArray}{g c2:Nat}{nm t l:List UInt8}{aB:aA}{ks:List E}{w w7:World}{va vk:Value}(_hR:O w7 w.heap.size 45 Z)(ht:Touch (fun b=>b=g) w w7)(hx:Xr S g l c2 w7)
  (hva:aZ (fun k=>k<w.heap.size+1) w7 fun W=>dW W aB va) (hvk:aZ (fun k=>k<w.heap.size+1) w7 fun W=>dL W ks vk) (hnl:nm.length≤maxLen) (htl:t.length≤maxLen) (hg:g<w.heap.size):
  XE S g w (.ok (.mk nm aB ks t) l c2) (.returned (.agg #[.string ⟨nm.toArray⟩,va,vk,.string ⟨t.toArray⟩])) (aH w7 w.heap.size (.string ⟨nm.toArray⟩) va vk (.string ⟨t.toArray⟩)):=by
 have IU:=(M (fun k=>k=w.heap.size) w7).aH (g:=w.heap.size) (.inl rfl) (.string ⟨nm.toArray⟩) va vk (.string ⟨t.toArray⟩);refine⟨va,vk,rfl,ht.aH (.inr (Nat.le_refl _)) _ _ _ _,?_,hx.move IU (by omega)⟩;refine((hva.and hvk).step IU (fun i _ hi=>?_) fun i _ hi=>?_).imp fun W h=>⟨h.1,h.2,hnl,htl⟩
 ·show i<w.heap.size+1;omega
 ·show i<w.heap.size+1;omega
theorem SG(S:ByteArray)(g n:Nat)(hS:S.size≤1099511627776)(hn:n<64)(hcont:abl S g n):Cu S g (n+1):=by
 intro d l c w hd h;have HX:=I h;have HC:=I hcont;have hd1:decide ((64:Int)<d)=false:=dF (by omega);have hd2:¬(64:Int)<d:=by omega
 have HD:=I (show d=64-(n:Int) by omega);have hg0:=h.lt;have dh:=I ((M (fun _=>False) w).alloc (.cells Z 45));have gm:=I (O.new w 45 Z);have HX0:=I (HX.J.fresh dh.J);clear h hd hcont hn;cases l with
 |nil=>
  have aG:=I (show au (n+1) [] c=.bad [] by rw[au]);go_enter Tryz.func110,Tryz.ntmps110;go_wp2_with fail
  refine(iZ S g c _ HX0.J).mono ?_;rintro _ w1 ⟨rfl,ht⟩;refine⟨rfl,(?_:XE S g w (au (n+1) [] c) _ _)⟩;rw[aG.J];exact⟨rfl,(dh.J.mono fun _ h=>h.elim).trans ht⟩
 |cons b l'=>
  cases hb:U.letter b with
  |false=>
   have aG:=I (show au (n+1) (b::l') c=.bad (b::l')from Xp.Ct (.inl hb));go_enter Tryz.func110,Tryz.ntmps110;go_wp2_with fail
   refine(bK S g c b l' _ HX0.J).mono ?_;rintro _ w1 ⟨rfl,hf⟩;have bS:=I (HX0.J.fresh hf);have aF:=I (dh.J.trans hf);clear hf;go_wp2_with fail
   refine(jv b _).mono ?_;rintro _ w2 ⟨rfl,hw⟩;subst hw;go_wp2_with fail
   refine(iq S g (b::l') c _ bS.J).mono ?_;rintro _ w3 ⟨rfl,rfl⟩;refine⟨rfl,(?_:XE S g w (au (n+1) (b::l') c) _ _)⟩;rw[aG.J];exact⟨rfl,aF.J.mono fun _ h=>h.elim⟩
  |true=>
   by_cases hc:3000≤c
   ·have aG:=I (show au (n+1) (b::l') c=.bad (b::l')from Xp.Ct (.inr hc))
    have hc2:decide ((3000:Int)≤(c:Int))=true:=dT (by omega);clear hc;go_enter Tryz.func110,Tryz.ntmps110;go_wp2_with fail
    refine(bK S g c b l' _ HX0.J).mono ?_;rintro _ w1 ⟨rfl,hf⟩;have bS:=I (HX0.J.fresh hf);have aF:=I (dh.J.trans hf);obtain⟨q0,q1,q2,f0,f1,f2,hg⟩:=fV bS.J.blk;clear hf;go_wp2_with fail
    refine(jv b _).mono ?_;rintro _ w2 ⟨rfl,hw⟩;subst hw;go_wp2_with fail
    refine(iq S g (b::l') c _ bS.J).mono ?_;rintro _ w3 ⟨rfl,rfl⟩;refine⟨rfl,(?_:XE S g w (au (n+1) (b::l') c) _ _)⟩;rw[aG.J];exact⟨rfl,aF.J.mono fun _ h=>h.elim⟩
   ·have ja:=I (Xp.QV (n:=n) (c:=c) (l':=l') hb (by omega))
    have ng:=I (Xp.FE (c:=c+1) (l':=l') hb);have hc2:decide ((3000:Int)≤(c:Int))=false:=dF (by omega);have hwc:IntKind.i64.wrap ((c:Int)+1)=(c:Int)+1:=IntWalk.i64_in _ (by omega);clear hc;go_enter Tryz.func110,Tryz.ntmps110;go_wp2_with fail
    refine(bK S g c b l' _ HX0.J).mono ?_;rintro _ w1 ⟨rfl,hf⟩;have bS:=I (HX0.J.fresh hf);have aF:=I (dh.J.trans hf);have HR1:=I (hf.blk gm.J fun h=>h);obtain⟨q0,q1,q2,f0,f1,f2,hg⟩:=fV bS.J.blk;clear hf HX HX0 dh gm;go_wp2_with fail
    refine(jv b _).mono ?_;rintro _ w2 ⟨rfl,hw⟩;subst hw;go_wp2_with fail
    have eT:=I (show Xr S g (b::l') (c+1) (w2.setCell ⟨g,2,none⟩ (.int .i64 ((c:Int)+1)))from⟨bS.J.blk.put 2 _,bS.J.nK⟩);have HT2:=I (show Touch (fun b=>b=g) w (w2.setCell ⟨g,2,none⟩ (.int .i64 ((c:Int)+1)))from Touch.setCell (p:=⟨g,2,none⟩) (show Touch (fun b=>b=g) w w2 from aF.J.mono fun _ h=>h.elim) (.inl rfl) _);have HR2:=I (HR1.J.far (p:=⟨g,2,none⟩) (by show _≠g;omega) (.int .i64 ((c:Int)+1)));generalize (w2.setCell ⟨g,2,none⟩ (.int .i64 ((c:Int)+1)))=w2b at eT HT2 HR2⊢;clear q0 q1 q2 f0 f1 f2 hg bS aF HR1 hwc hc2;refine(Bb S g (c+1) (b::l') _ hS eT.J).mono ?_;intro e w3 he;have kr:=I (Eg ng.J);rw[ng.J]at he;obtain⟨rfl,ht,hx⟩:=he;have iP:=I hx;have HT3:=I (HT2.J.trans ht);have HR3:=I (ht.blk HR2.J fun h=>by omega);have Ai:=I eT.J.len;clear ht hx hb eT HT2 HR2 ng;generalize (b::l').takeWhile U.inner=nm at*;generalize (b::l').dropWhile U.inner=l1 at*;obtain⟨E0,hE0⟩:∃b,b=w3.heap.size:=⟨_,rfl⟩;have nU:=I hE0;have hE1:w.heap.size<E0:=by have:=HR3.J.lt;omega
    clear hE0;go_wp2_with fail
    rw[←nU.J]
    refine aV (fun W=>Touch (fun b=>b=g) w W∧Xr S g l1 (c+1) W∧O W w.heap.size 45 Z∧O W E0 45 #[.string ⟨nm.toArray⟩,.slice none 0 0,.slice none 0 0,.string ⟨#[]⟩]∧E0+1≤W.heap.size)
     ⟨HT3.J.alloc _,iP.J.fresh ((M _ _).alloc _),HR3.J.alloc _,by rw[nU.J];exact O.new _ _ _,by rw[nU.J];simp⟩ ?_
    rintro W1 ⟨ht1,hx1,hr1,he1,hs1⟩;have HT1:=I ht1;have bS:=I hx1;have HR1:=I hr1;have HB1:=I he1;have uq:=I (lU.nil (w:=W1) hs1);clear ht1 hx1 hr1 he1 hs1 HT3 iP HR3 nU
    go_loopw [] (fun wr=>∃(aB:aA) (l1:List UInt8) (A:Option Addr) (n1 cp:Nat),Hd (aB.length=n1)∧n1≤8∧Hd (au (n+1) (b::l') c=Cs n nm (c+1) (kQ (c+1) aB l1))∧Hd (O wr E0 45 #[.string ⟨nm.toArray⟩,.slice A n1 cp,.slice none 0 0,.string ⟨#[]⟩])∧
     Hd (lU (E0+1) wr aB (.slice A n1 cp))∧Hd (Touch (fun b=>b=g) w wr)∧Hd (Xr S g l1 (c+1) wr)∧Hd (O wr w.heap.size 45 Z)) (fun wr=>S.size-posOf g wr)
    case atStart=>exact⟨[],l1,none,0,0,I rfl,Nat.zero_le _,ja,HB1,uq,HT1,bS,HR1⟩
    case round=>
     clear ja HB1 uq HT1 bS HR1;obtain⟨aB,l1,A,n1,cp,Ga,hn1,ja,HB,HG,HT,HX,HR⟩:=hrel;rename_i wr _;have HP:=I (jY HX.J);have IV:=I (show aB.length≤8 by rw[Ga.J];exact hn1);have hsz:=HT.J.size;have hEl:=HB.J.lt;have ni:E0≠g:=by omega
     cases hd:l1.dropWhile white with
     |nil=>
      have aG:=I (show au (n+1) (b::l') c=.bad [] by rw[ja.J,Xp.IM IV.J hd];rfl);have HD2:=I hd;clear hd;go_wp2_with fail
      refine(lS S g (c+1) l1 _ hS HX.J).mono ?_;rintro _ w4 ⟨rfl,ht,hx⟩;rw[HD2.J]at hx⊢;have gD:=I hx;have iU:=I (HT.J.trans ht);clear ht hx;generalize decide (([]:List UInt8).length<l1.length)=z;go_wp2_with fail
      refine(iZ S g (c+1) _ gD.J).mono ?_;rintro _ w5 ⟨rfl,F4⟩;refine⟨rfl,(?_:XE S g w (au (n+1) (b::l') c) _ _)⟩;rw[aG.J];exact⟨rfl,iU.J.trans F4⟩
     |cons b2 l2=>
      have HD2:=I hd;have HL2:=I (show(b2::l2).length≤l1.length by rw[←hd];exact(aX.len (Xp.aX.dropWhile white l1)));clear hd;go_wp2_with fail
      refine(lS S g (c+1) l1 _ hS HX.J).mono ?_;rintro _ w4 ⟨rfl,ht,hx⟩;rw[HD2.J]at hx⊢;have gD:=I hx;have iU:=I (HT.J.trans ht);have HR4:=I (ht.blk HR.J fun h=>by omega);have iI:=I (ht.blk HB.J fun h=>by omega);have Ei:=I (HG.J.mv ht fun k hk _=>by omega);clear ht hx;obtain⟨z,hz⟩:∃z,decide ((b2::l2).length<l1.length)=z:=⟨_,rfl⟩;rw[hz];have HZ:=I hz;clear hz;go_wp2_with fail
      refine(bK S g (c+1) b2 l2 _ gD.J).mono ?_;rintro _ w5 ⟨rfl,hf⟩;have dI:=I (gD.J.fresh hf);have eu:=I (iU.J.trans (hf.mono fun _ h=>h.elim));have qj:=I (hf.blk HR4.J fun h=>h);have bV:=I (hf.blk iI.J fun h=>h);have oD:=I (Ei.J.fresh hf);clear hf gD iU HR4 iI Ei HX HT HR HB HG
      by_cases h47:b2=47
      ·have J8:((b2.toNat:Int)==(47:Int))=true:=by rw[h47];rfl
       have ado:=I (show l1.dropWhile white=47::l2 by rw[HD2.J,h47]);clear h47;obtain⟨q0,q1,q2,f0,f1,f2,hg⟩:=fV dI.J.blk;have hle:=dI.J.len;have hw:IntKind.i64.wrap (((S.size-(b2::l2).length:Nat):Int)+1)=((S.size-(b2::l2).length:Nat):Int)+1:=IntWalk.i64_in _ (by omega);have fD:=I dI.J.qh;have dB:=I (eu.J.setCell (p:=⟨g,1,none⟩) (.inl rfl) (.int .i64 (((S.size-(b2::l2).length:Nat):Int)+1)));have vM:=I (qj.J.far (p:=⟨g,1,none⟩) (by show _≠g;omega) (.int .i64 (((S.size-(b2::l2).length:Nat):Int)+1)));have iM:=I (bV.J.far (p:=⟨g,1,none⟩) (by show _≠g;omega) (.int .i64 (((S.size-(b2::l2).length:Nat):Int)+1)));have lG:=I (oD.J.mv ((M (fun b=>b=g) w5).setCell (p:=⟨g,1,none⟩) (.inl rfl) (.int .i64 (((S.size-(b2::l2).length:Nat):Int)+1))) fun k hk _=>by omega);generalize S.size-(b2::l2).length=k at*;go_wp2_with fail
       generalize (w5.setCell ⟨g,1,none⟩ (.int .i64 ((k:Int)+1)))=w6 at fD dB vM iM lG⊢;clear q0 q1 q2 f0 f1 f2 hg hle hw dI eu qj bV oD;have SF:=I (show Calls Tryz.prog 109 #[.pointer (some ⟨g,0,none⟩),.int .u8 62] w6 fun e w'=>XU S g w6 (aL 62 (c+1) l2) e w' from qb S g (c+1) 62 l2 w6 hS fD.J);refine SF.J.mono ?_;intro e w7 he;cases hr:aL 62 (c+1) l2 with
       |bad l3=>
        have aG:=I (show au (n+1) (b::l') c=.bad l3 by rw[ja.J,Xp.Dw IV.J ado.J hr];rfl);rw[hr]at he;obtain⟨rfl,ht⟩:=he;refine⟨rfl,(?_:XE S g w (au (n+1) (b::l') c) _ _)⟩;rw[aG.J];exact⟨rfl,dB.J.trans ht⟩
       |ok u l3 c3=>
        have hc3:=rU hr;subst hc3;have aG:=I (show au (n+1) (b::l') c=.ok (.mk nm aB [] []) l3 (c+1) by rw[ja.J,Xp.Eh IV.J ado.J hr];rfl);rw[hr]at he;obtain⟨rfl,ht,hx⟩:=he;have jV:=I hx;have dS:=I (dB.J.trans ht);have qN:=I (ht.blk vM.J fun h=>by omega);have ql:=I (ht.blk iM.J fun h=>by omega);have uu:=I (lG.J.mv ht fun k hk _=>by omega);clear ht hx hr fD dB vM iM lG SF;have IW:=I (IQ (c2:=c+1) (nm:=nm) (aB:=aB) (ks:=[]) (t:=[]) qN.J dS.J jV.J (uu.J.NK.mono fun i _ hi=>by omega) (fun W _=>dL.nil none 0) (by have:=kr.J.1;have:=Ai.J;simp only[maxLen];omega) (Nat.zero_le _) hg0);obtain⟨e0,e1,e2,e3,_,_,_,_,_⟩:=O.four ql.J;obtain⟨_,_,_,_,z0,z1,z2,z3,hlz⟩:=O.four qN.J;obtain⟨t0,t1,t2,t3,_,_,_,_,_⟩:=O.four (qN.J.dJ (.string ⟨nm.toArray⟩) (.slice A n1 cp) (.slice none 0 0) (.string ⟨#[]⟩));simp only[aH]at t0 t1 t2 t3;go_wp2
        refine bodyPost_ret (v:=.agg #[.string ⟨nm.toArray⟩,.slice A n1 cp,.slice none 0 0,.string ⟨#[]⟩]) (by simp[results,Tryz.results110,go_sem,t0,t1,t2,t3]) rfl ?_;rw[aG.J];exact IW.J
      ·by_cases xe:b2=62
       ·have J8:((b2.toNat:Int)==(47:Int))=false:=by rw[show((b2.toNat:Int)==(47:Int))=(b2==47)from xX b2 47,beq_eq_false_iff_ne];exact h47
        have adp:((b2.toNat:Int)==(62:Int))=true:=by rw[xe];rfl
        have adq:=I (show kQ (c+1) aB l1=.ok (aB,false) l2 (c+1)from Xp.KU IV.J (by rw[HD2.J,xe]));clear h47 xe;obtain⟨q0,q1,q2,f0,f1,f2,hg⟩:=fV dI.J.blk;have hle:=dI.J.len;have hw:IntKind.i64.wrap (((S.size-(b2::l2).length:Nat):Int)+1)=((S.size-(b2::l2).length:Nat):Int)+1:=IntWalk.i64_in _ (by omega);have fD:=I dI.J.qh;have dB:=I (eu.J.setCell (p:=⟨g,1,none⟩) (.inl rfl) (.int .i64 (((S.size-(b2::l2).length:Nat):Int)+1)));have vM:=I (qj.J.far (p:=⟨g,1,none⟩) (by show _≠g;omega) (.int .i64 (((S.size-(b2::l2).length:Nat):Int)+1)));have iM:=I (bV.J.far (p:=⟨g,1,none⟩) (by show _≠g;omega) (.int .i64 (((S.size-(b2::l2).length:Nat):Int)+1)));have lG:=I (oD.J.mv ((M (fun b=>b=g) w5).setCell (p:=⟨g,1,none⟩) (.inl rfl) (.int .i64 (((S.size-(b2::l2).length:Nat):Int)+1))) fun k hk _=>by omega);generalize S.size-(b2::l2).length=k at*;go_wp2_with fail
        generalize (w5.setCell ⟨g,1,none⟩ (.int .i64 ((k:Int)+1)))=w6 at fD dB vM iM lG⊢;clear q0 q1 q2 f0 f1 f2 hg hle hw dI eu qj bV oD;have Gb:=I (HC.J d nm (.slice A n1 cp) E0 l2 (c+1) w6 HD.J (by have:=kr.J.1;have:=Ai.J;omega) (by omega) iM.J fD.J);refine Gb.J.mono ?_;intro e w7 he;cases hr:aD (au n) nm l2 (c+1)with
        |bad l3=>
         have aG:=I (show au (n+1) (b::l') c=.bad l3 by rw[ja.J,adq.J,Xp.KV hr]);rw[hr]at he;obtain⟨rfl,ht⟩:=he;refine⟨rfl,(?_:XE S g w (au (n+1) (b::l') c) _ _)⟩;rw[aG.J];exact⟨rfl,dB.J.trans' ht fun k hk=>hk.elim .inl fun h=>.inr (by omega)⟩
        |ok x l3 c3=>
         obtain⟨ks,tx⟩:=x;have aG:=I (show au (n+1) (b::l') c=.ok (.mk nm aB ks tx) l3 c3 by rw[ja.J,adq.J,Xp.NL hr]);rw[hr]at he;obtain⟨rfl,A3,n3,KW,hb,htl,hst,ht,hx⟩:=he;have jV:=I hx;have dS:=I (show Touch (fun b=>b=g) w w7 from dB.J.trans' ht fun k hk=>hk.elim .inl fun h=>.inr (by omega));have qN:=I (ht.blk vM.J fun h=>by omega);have ql:=I hb;have uu:=I (lG.J.mv ht fun k hk _=>by omega);have gX:=I htl;have hs6:=vM.J.lt;have HST:=I (show aZ (fun k=>k<w.heap.size+1) w7 fun W=>dL W ks (.slice A3 n3 KW)from hst.mono fun i _ hi=>by omega);clear ht hx hr hb htl hst fD dB vM iM lG Gb;have IW:=I (IQ (c2:=c3) (nm:=nm) (aB:=aB) (ks:=ks) (t:=tx) qN.J dS.J jV.J (uu.J.NK.mono fun i _ hi=>by omega) HST.J (by have:=kr.J.1;have:=Ai.J;simp only[maxLen];omega) gX.J hg0);obtain⟨e0,e1,e2,e3,_,_,_,_,_⟩:=O.four ql.J;obtain⟨_,_,_,_,z0,z1,z2,z3,hlz⟩:=O.four qN.J;obtain⟨t0,t1,t2,t3,_,_,_,_,_⟩:=O.four (qN.J.dJ (.string ⟨nm.toArray⟩) (.slice A n1 cp) (.slice A3 n3 KW) (.string ⟨tx.toArray⟩));simp only[aH]at t0 t1 t2 t3;simp only at e3 t3;go_wp2
         refine bodyPost_ret (v:=.agg #[.string ⟨nm.toArray⟩,.slice A n1 cp,.slice A3 n3 KW,.string ⟨tx.toArray⟩]) (by simp[results,Tryz.results110,go_sem,t0,t1,t2,t3]) rfl ?_;rw[aG.J];exact IW.J
       ·have J8:((b2.toNat:Int)==(47:Int))=false:=by rw[show((b2.toNat:Int)==(47:Int))=(b2==47)from xX b2 47,beq_eq_false_iff_ne];exact h47
        have adp:((b2.toNat:Int)==(62:Int))=false:=by rw[show((b2.toNat:Int)==(62:Int))=(b2==62)from xX b2 62,beq_eq_false_iff_ne];exact xe
        have Vy:=I h47;have Vz:=I xe;clear h47 xe
        have iV:(((z=false)∨(z=true∧U.letter b2=false)∨(z=true∧U.letter b2=true∧decide ((n1:Int)<(8:Int))=false))∧kQ (c+1) aB l1=.bad (b2::l2))∨(z=true∧U.letter b2=true∧decide ((n1:Int)<(8:Int))=true∧n1<8):=by
         have hz:=HZ.J;cases z with
         |false=>exact .inl ⟨.inl rfl,Xp.uN IV.J HD2.J Vy.J Vz.J fun h=>by rw[decide_eq_false_iff_not]at hz;exact hz h.1⟩
         |true=>
          cases hl:U.letter b2 with
          |false=>exact .inl ⟨.inr (.inl ⟨rfl,rfl⟩),Xp.uN IV.J HD2.J Vy.J Vz.J fun h=>by rw[hl]at h;exact absurd h.2.1 (by decide)⟩
          |true=>
           by_cases h8:n1<8
           ·exact .inr ⟨rfl,rfl,dT (by omega),h8⟩
           ·exact .inl ⟨.inr (.inr ⟨rfl,rfl,dF (by omega)⟩),Xp.uN IV.J HD2.J Vy.J Vz.J fun h=>h8 (by rw[←Ga.J];exact h.2.2)⟩
        have aiX:=I (jv b2)
        rcases iV with⟨hz|⟨hz,hl⟩|⟨hz,hl,h8⟩,J9⟩|⟨hz,hl,h8,QK⟩
        focus
         subst hz;have aG:=I (show au (n+1) (b::l') c=.bad (b2::l2) by rw[ja.J,J9];rfl);clear J9;go_wp2_with fail
         refine(iq S g (b2::l2) (c+1) _ dI.J).mono ?_;rintro _ w9 ⟨rfl,rfl⟩;refine⟨rfl,(?_:XE S g w (au (n+1) (b::l') c) _ _)⟩;rw[aG.J];exact⟨rfl,eu.J⟩
        focus
         subst hz;have aG:=I (show au (n+1) (b::l') c=.bad (b2::l2) by rw[ja.J,J9];rfl);clear J9;go_wp2_with fail
         refine(jv b2 _).mono ?_;rintro _ w6 ⟨rfl,hw⟩;subst hw;go_wp2_with fail
         refine(iq S g (b2::l2) (c+1) _ dI.J).mono ?_;rintro _ w9 ⟨rfl,rfl⟩;refine⟨rfl,(?_:XE S g w (au (n+1) (b::l') c) _ _)⟩;rw[aG.J];exact⟨rfl,eu.J⟩
        focus
         subst hz;have aG:=I (show au (n+1) (b::l') c=.bad (b2::l2) by rw[ja.J,J9];rfl);clear J9;obtain⟨e0,e1,e2,e3,_,_,_,_,hlb⟩:=O.four bV.J;go_wp2_with fail
         refine(jv b2 _).mono ?_;rintro _ w6 ⟨rfl,hw⟩;subst hw;go_wp2_with fail
         refine(iq S g (b2::l2) (c+1) _ dI.J).mono ?_;rintro _ w9 ⟨rfl,rfl⟩;refine⟨rfl,(?_:XE S g w (au (n+1) (b::l') c) _ _)⟩;rw[aG.J];exact⟨rfl,eu.J⟩
        focus
         subst hz;obtain⟨e0,e1,e2,e3,y0,y1,y2,y3,hlb⟩:=O.four bV.J;have HL:=I hl;go_wp2_with fail
         refine(jv b2 _).mono ?_;rintro _ w6 ⟨rfl,hw⟩;subst hw;go_wp2_with fail
         have k1:=cT (S:=fun k=>k=g) e1 (by omega);have j6:=I e1;clear e0 e1 e2 e3 J8 adp hl h8
         refine fu (fun W=>∃x:Turned (fun k=>k=g) w6,W=x.W) (bq.of [(0,true),(1,true),(2,true),(3,true),(4,true)] (.lone 5 (.lone 6 .nil))) [0,1,2,3,4,5,6] 7 (Array.replicate 7 true++Array.replicate 3 false) (fun _=>True)
          (bq.of [(8,true)] (.lone 9 .nil)) [8,9] (Array.replicate 10 true) (by kernel_rfl) (fun _ _ d _ _ h=>by cases d<;>exact h) (by kernel_rfl) ⟨⟨_,(M _ _).drewN 1⟩,rfl⟩ ?_
         unfold bq.of
         repeat(refine aS rfl (fun K hK=>?_);go_simp;refine hK _ ?_;clear hK K;first|done|unfold bq.of)
         clear k1;refine ax rfl (fun K hK=>?_);go_wp2_with fail
         have lG:=I (oD.J.fresh ((M _ w6).drewN 1));refine(Vr S g (c+1) (b2::l2) aB (.slice A n1 cp) _ hS (NM lG.J (by omega)) (dI.J.fresh ((M _ _).drewN 1))).mono ?_;intro e w7 he;cases ha:gH aB (c+1) (b2::l2)with
         |bad l3=>
          have aG:=I (show au (n+1) (b::l') c=.bad l3 by rw[ja.J,Xp.IP IV.J HD2.J Vy.J Vz.J ⟨of_decide_eq_true HZ.J,HL.J,by rw[Ga.J];exact QK⟩ ha];rfl);rw[ha]at he;obtain⟨rfl,ht⟩:=he;refine⟨rfl,(?_:XE S g w (au (n+1) (b::l') c) _ _)⟩;rw[aG.J];exact⟨rfl,eu.J.trans (((M _ w6).drewN 1).trans ht)⟩
         |ok y l3 c3=>
          obtain⟨y1,y2⟩:=y;have HYL:=I (Vv ha);have yH:=I (Xp.Zb ha);have vg:=I (show au (n+1) (b::l') c=Cs n nm (c+1) (kQ (c+1) (aB++[(y1,y2)]) l3) by rw[ja.J,Xp.F9 IV.J HD2.J Vy.J Vz.J ⟨of_decide_eq_true HZ.J,HL.J,by rw[Ga.J];exact QK⟩ ha]);rw[ha]at he;obtain⟨rfl,ht,hx⟩:=he;have hc3:=HYL.J.2.2;subst hc3;have adr:=I dI.J.len;have dS:=I (show Touch (fun b=>b=g) w6 w7 from((M _ w6).drewN 1).trans ht);have jV:=I hx;clear ht hx ha;go_wp2
          refine hK _ _ ⟨⟨_,dS.J⟩,rfl⟩ ?_;clear hK K;refine ax rfl (fun K hK=>?_);go_wp2
          refine hK _ _ ⟨⟨_,dS.J.alloc _⟩,rfl⟩ ?_;clear hK K;have dX:=I (O.new w7 79 #[.string ⟨y1.toArray⟩,.string ⟨y2.toArray⟩]);have gq:=I (dS.J.alloc (.cells #[.string ⟨y1.toArray⟩,.string ⟨y2.toArray⟩] 79));have lC:=I (jV.J.fresh ((M _ w7).alloc (.cells #[.string ⟨y1.toArray⟩,.string ⟨y2.toArray⟩] 79)));generalize (w7.alloc (.cells #[.string ⟨y1.toArray⟩,.string ⟨y2.toArray⟩] 79))=wA at dX gq lC⊢;have nu:=I (oD.J.mv gq.J fun k hk _=>by omega);have lH:=I (gq.J.blk bV.J fun h=>by omega);have QT:=I (gq.J.blk qj.J fun h=>by omega);have HOW:=I nu.J.jE;refine iY rfl (fun K hK=>?_)
          go_wp2_with (at_builtin;go_loud (refine xZ rfl (.tmp 81) (.tmp 86) rfl nu.J Ga.J (by simp[Act.eval]) (y1,y2) (by have:=HYL.J;have:=adr.J;rw[List.length_cons]at*;simp only[maxLen];constructor<;>omega) dX.J (by simp[Act.eval]) (by omega) ?_);intro A8 c8 w8 gJ bW;refine iC.mk ?_)
          have qM:=I (lC.J.move bW fun h=>by have:=(HOW.J _ h).1;omega);have mE:=I (bW.blk lH.J fun h=>by have:=(HOW.J _ h).1;omega);have qF:=I (bW.blk QT.J fun h=>by have:=(HOW.J _ h).1;omega);have oC:=I (show Touch (fun b=>b=g) w w8 from(eu.J.trans gq.J).trans' bW fun k hk=>.inr (by have:=(HOW.J _ hk).1;omega));have nT:=I gJ;clear bW gJ;obtain⟨_,_,_,_,_,q1,_,_,wo⟩:=O.four mE.J;refine iC.go ?_;go_wp2
          refine hK _ _ trivial ?_;clear hK K
          repeat(refine aS rfl (fun K hK=>?_);go_simp;refine hK _ ?_;clear hK K)
          refine ax rfl (fun K hK=>?_);go_wp2
          refine hK _ _ trivial ?_;clear hK K;have eY:=(M (fun k=>k=E0) w8).setCell (p:=⟨E0,1,none⟩) (.inl rfl) (.slice A8 (n1+1) c8);have jN:=I (show O (w8.setCell ⟨E0,1,none⟩ (.slice A8 (n1+1) c8)) E0 45 #[.string ⟨nm.toArray⟩,.slice A8 (n1+1) c8,.slice none 0 0,.string ⟨#[]⟩]from mE.J.put 1 _);have jc:=I (qM.J.move eY (by omega));have uo:=I (eY.blk qF.J fun h=>by omega);have bU:=I (oC.J.trans' eY fun k hk=>.inr (by omega));have iE:=I (nT.J.mv eY fun k hk _=>by omega);have HM:=I (jY jc.J);clear eY q1 wo;refine jJ ?_;go_wp2
          refine⟨⟨aB++[(y1,y2)],l3,A8,n1+1,c8,I (by rw[List.length_append,Ga.J];rfl),by omega,vg,jN,iE,bU,jc,uo⟩,?_⟩;rw[HM.J,HP.J];have h1:=adr.J;have h2:=yH.J;have h3:=HL2.J;rw[List.length_cons]at*;omega
end
end Go.Proofs.YtnbeemkfmlfgfaaGreatDoor
