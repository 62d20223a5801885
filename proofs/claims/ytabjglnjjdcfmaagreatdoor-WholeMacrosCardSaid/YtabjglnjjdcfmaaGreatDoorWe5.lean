/- Part 5 of 41 of a proof. No condition. -/
import Derived.Test.YtabjglnjjdcfmaaGreatDoorShelf
import Derived.Laws.Rows
import Derived.Test.YtabjglnjjdcfmaaGreatDoorWe3
set_option maxRecDepth 100000
set_option maxHeartbeats 1000000
namespace Go.Proofs.YtabjglnjjdcfmaaGreatDoor
open _root_.Nat renaming zero_le->au1,zero_add->au8
open _root_.List renaming getElem_cons_succ->avC,take_length->avm,all_cons->au9
open _root_.Bool renaming and_assoc->awz,and_false->avD,and_true->avw,false_eq_true->avH
open _root_.UInt8 renaming ofNat->avr
open _root_.ByteArray renaming toList->avd,size->av7
open _root_.Go.Proofs.Tryz
section
open Go.ChangeShapes Go.WideShapes Go.ChangeAt Go.RowKit
inductive aD(W:W_):List Tr.Nd->Value->Prop
 |nil (A:Option Addr) (cap:Nat):aD W [] (.slice A 0 cap)
 |row (g o cap:Nat) (ks:List Tr.Nd) (sl:Nat->Value) (hg:g<W.heap.size) (hl:ks.length<=maxLen) (ht:∀i (hi:i<ks.length),ks[i].QG.length<=maxLen)
   (h0:∀i (hi:i<ks.length),W.cell? (B_ g (o+i*4))=some (V ks[i].QI))
   (h1:∀i (hi:i<ks.length),W.cell? (B_ g (o+i*4+1))=some (S_ ks[i].QG))
   (h2:∀i (hi:i<ks.length),W.cell? (B_ g (o+i*4+2))=some (V ks[i].ah))
   (h3:∀i,i<ks.length->W.cell? (B_ g (o+i*4+3))=some (sl i))
   (hk:∀i (hi:i<ks.length),aD W ks[i].Qx (sl i)):aD W ks (.slice (A_ g o) ks.length cap)
theorem aD.QH{W W':W_}{ks:List Tr.Nd}{v:Value}(h:aD W ks v)(hf:ag W W'):aD W' ks v:=by
 induction h with
 |nil A cap=>exact .nil A cap
 |row g o cap ks sl hg hl ht h0 h1 h2 h3 hk ih=>
  exact .row g o cap ks sl (Nat.lt_of_lt_of_le hg hf.size) hl ht (λi hi=>hf.cell (h0 i hi) PR) (λi hi=>hf.cell (h1 i hi) PR) (λi hi=>hf.cell (h2 i hi) PR) (λi hi=>hf.cell (h3 i hi) PR) ih
theorem aD.slice{W:W_}{ks:List Tr.Nd}{v:Value}(h:aD W ks v):∃A cap,v=.slice A ks.length cap:=by
 cases h with
 |nil A cap=>exact⟨A,cap,rfl⟩
 |row g o cap _ sl=>exact⟨_,cap,rfl⟩
theorem aD.len{W:W_}{ks:List Tr.Nd}{v:Value}(h:aD W ks v):ks.length<=maxLen:=by
 cases h with
 |nil A cap=>exact au1 _
 |row g o cap _ sl hg hl=>exact hl
theorem aD.texts{W:W_}{ks:List Tr.Nd}{v:Value}(h:aD W ks v)(i:Nat)(hi:i<ks.length):ks[i].QG.length<=maxLen:=by
 cases h with
 |nil A cap=>simp at hi
 |row g o cap _ sl hg hl ht=>exact ht i hi
theorem aD.get{W:W_}{ks:List Tr.Nd}{A:Option Addr}{len cap:Nat}(h:aD W ks (.slice A len cap))(i:Nat)(hi:i<ks.length):
  ∃g o sl,A=A_ g o/\g<W.heap.size/\W.cell? (B_ g (o+i*4))=some (V ks[i].QI)/\W.cell? (B_ g (o+i*4+1))=some (S_ ks[i].QG)/\
   W.cell? (B_ g (o+i*4+2))=some (V ks[i].ah)/\W.cell? (B_ g (o+i*4+3))=some sl/\aD W ks[i].Qx sl:=by
 generalize hv:Value.slice A len cap=v at h;cases h with
 |nil A cap=>simp at hi
 |row g o cap _ sl hg hl ht h0 h1 h2 h3 hk=>
  cases hv;exact⟨g,o,sl i,rfl,hg,h0 i hi,h1 i hi,h2 i hi,h3 i hi,hk i hi⟩
section
variable {H:Type} {enc:TypeId×Value→H}
end
end
section
open Go.RowKit
theorem bK{p:W_->Prop}{W:W_}(F:W_->Prop)(hF:F W)(h:∀W',F W'->p W'):p W:=h W hF
theorem lJ{P:Program}{f:Nat}{args:Array Value}{v:Value}(W:W_)(h:∀w,ag W w->Calls P f args w λe w'=>e=.returned v/\ag w w'):
  ∀d os,Calls P f args (Go.Sort.grow (redrawn W d) os) λe w''=>e=.returned v/\∃p:Regrown,w''=Go.Sort.grow (redrawn W p.d) p.os:=
 λ_ _=>Calls.regrown_of ((h _ (aZ SX)).mono λ_ _ h=>⟨h.1,h.2.below⟩)
theorem bS(a b:Y_):(a==b)=(a.data.toList==b.data.toList):=by
 show(a.data==b.data)=_;simp
theorem ai(a b:Bool)(h:a=b):Ending.returned (.bool a)=.returned (.bool b):=by rw[h]
theorem Wi(n m:Tr.Nd)(sl sm:Value)(w:W_)(hi:∀w',ag w w'->C_ 22 #[sl,sm] w' λe w''=>e=.returned (.bool (Tr.rY n.Qx m.Qx))/\ag w' w''):
  C_ 11 #[.agg #[V n.QI,S_ n.QG,V n.ah,sl],.agg #[V m.QI,S_ m.QG,V m.ah,sm]] w λe w'=>e=.returned (.bool (Tr.Gj n m))/\ag w w':=by
 have HI:=I hi;clear hi;have HE:=I (Tr.YH n m);go_enter func11,ntmps11;cases h1:(n.QI==m.QI)with
 |false=>
  have Gy:(n.QI !=m.QI)=true:=atL
  go_wp2
  exact ard
 |true=>
  have Gy:(n.QI !=m.QI)=false:=atL
  cases h2:(n.QG==m.QG)with
  |false=>
   have Qr:((⟨n.QG.toArray⟩:Y_)==(⟨m.QG.toArray⟩:Y_))=false:=aty
   have ab:((⟨n.QG.toArray⟩:Y_) !=(⟨m.QG.toArray⟩:Y_))=true:=atM
   go_wp2
   exact ard
  |true=>
   have Qr:((⟨n.QG.toArray⟩:Y_)==(⟨m.QG.toArray⟩:Y_))=true:=aty
   have ab:((⟨n.QG.toArray⟩:Y_) !=(⟨m.QG.toArray⟩:Y_))=false:=atM
   cases h3:(n.ah==m.ah)with
   |false=>
    have D5:(n.ah !=m.ah)=true:=ani
    go_wp2
    exact ard
   |true=>
    have D5:(n.ah !=m.ah)=false:=ani
    go_wp2_with fail
    refine Calls.mono (HI _ aF) ?_;rintro _ w3 ⟨rfl,aa⟩;have bJ:=I (show ag w w3 from qV aa);have jB:af w3 (w.heap.size) 31 #[V n.QI,.string (⟨n.QG.toArray⟩:Y_),V n.ah,sl]:=Touch.QN aa Zp PR;have uM:af w3 (w.heap.size+1) 31 #[V m.QI,.string (⟨m.QG.toArray⟩:Y_),V m.ah,sm]:=Touch.QN aa Zp PR;obtain⟨mF,mG,mH,mI,_⟩:=af.QM jB;obtain⟨xy,xA,xB,xC,_⟩:=af.QM uM;clear aa;go_wp2
    go_ret;exact⟨ai _ _ (by rw[HE.out];simp_all),(kV bJ)⟩
theorem Qs:∀(xs ys:List Tr.Nd) (k:Nat) (hx:k<xs.length) (hy:k<ys.length),Tr.rY (xs.take (k+1)) (ys.take (k+1))=(Tr.rY (xs.take k) (ys.take k)&&Tr.Gj xs[k] ys[k])
 |x::xs,y::ys,0,_,_=>by simp[Tr.rY]
 |x::xs,y::ys,k+1,hx,hy=>by
  simp only[List.take_succ_cons,Tr.rY,avC];rw[Qs xs ys k (by simpa using hx) (by simpa using hy),awz]
 |[],_,_,hx,_=>by simp at hx
 |_::_,[],_,_,hy=>by simp at hy
theorem YV:∀(xs ys:List Tr.Nd) (k:Nat) (hx:k<xs.length) (hy:k<ys.length),Tr.Gj xs[k] ys[k]=false->Tr.rY xs ys=false
 |x::xs,y::ys,0,_,_,h=>by simp only[List.getElem_cons_zero]at h;rw[Tr.rY,h,Bool.false_and]
 |x::xs,y::ys,k+1,hx,hy,h=>by
  simp only[avC]at h;rw[Tr.rY,YV xs ys k (by simpa using hx) (by simpa using hy) h,avD]
 |[],_,_,hx,_,_=>by simp at hx
 |_::_,[],_,_,hy,_=>by simp at hy
theorem YW(ks ls:List Tr.Nd)(v1 v2:Value)(w:W_)(h1:aD w ks v1)(h2:aD w ls v2)
  (hi:∀x∈ks,∀(y:Tr.Nd) (sx sy:Value) (w':W_),aD w' x.Qx sx->aD w' y.Qx sy->C_ 11 #[.agg #[V x.QI,S_ x.QG,V x.ah,sx],.agg #[V y.QI,S_ y.QG,V y.ah,sy]] w' λe w''=>e=.returned (.bool (Tr.Gj x y))/\ag w' w''):
  C_ 22 #[v1,v2] w λe w'=>e=.returned (.bool (Tr.rY ks ls))/\ag w w':=by
 have HI:=I hi;clear hi;have hlen:=h1.len;unfold maxLen at hlen;obtain⟨A,cap,rfl⟩:=h1.slice;obtain⟨B,cbp,rfl⟩:=h2.slice;have aL:=I h1;have ar:=I h2;clear h1 h2;have yV:=I (Tr.Vf ks ls)
 by_cases c0:ks.length=ls.length
 .have b0:((ks.length:Int)==(ls.length:Int))=true:=by rw[c0];simp
  have b0':((ks.length:Int) !=(ls.length:Int))=false:=by rw[bne,b0];rfl
  have C0:=I c0;clear c0;go_enter func22,ntmps22;go_wp2
  go_loopw [5] (λi wr=>∃j:Nat,i=V j/\j<=ks.length/\Hd (Tr.rY (ks.take j) (ls.take j)=true)/\Hd (ag w wr)) (λi _=>ks.length-(intOf i).toNat)
  case atStart=>exact⟨0,rfl,au1 _,by simp[Tr.rY,Hd],M _ _⟩
  case round=>
   obtain⟨j,rfl,hj,HA,HF⟩:=hrel
   by_cases c1:j<ks.length
   .have d1:decide ((j:Int)<(ks.length:Int))=true:=by simp;omega
    have aE:(j:Int)<(ks.length:Int):=Zo
    have c1y:j<ls.length:=by rw[<-C0.out];exact c1
    have d1y:(j:Int)<(ls.length:Int):=Zo
    obtain⟨g,o,sx,rfl,hg,m0,m1,m2,m3,su⟩:=aL.get j c1;obtain⟨g',o',sy,rfl,hg',n0,n1,n2,n3,au⟩:=ar.get j c1y;have HS:=I (Qs ks ls j c1 c1y);have HN:=I (YV ks ls j c1 c1y);have HX:=I (HI ks[j] f_ ls[j] sx sy);have a0:=HF.cell m0 PR;have a1:=HF.cell m1 PR;have a2:=HF.cell m2 PR;have a3:=HF.cell m3 PR;have b0:=HF.cell n0 PR;have b1:=HF.cell n1 PR;have b2:=HF.cell n2 PR;have b3:=HF.cell n3 PR;have JD:=I su;have HRL:=I au;clear m0 m1 m2 m3 n0 n1 n2 n3 su au HI aL ar;generalize ks[j]=x at*;generalize ls[j]=y at*;go_wp2_with fail
    refine bK (λW=>ag wr W) aF ?_;rintro w4 ER;have eZ:=I ER;clear ER;obtain⟨Wj,Wl,Wm,Wn⟩:=xW eZ a0 a1 a2 a3;obtain⟨Wo,Wp,Wq,Ws⟩:=xW eZ b0 b1 b2 b3;clear a0 a1 a2 a3 b0 b1 b2 b3;have aff:=cR Wj;have afg:=cR Wl;have afh:=cR Wm;have afi:=cR Wn;have afj:=cR Wo;have afk:=cR Wp;have afl:=cR Wq;have afm:=cR Ws;have ag3:=I (lJ (P:=Tryz.prog) w4 (λw hw=>HX _ (JD.QH (Touch.trans (HF.trans eZ) hw)) (HRL.QH (Touch.trans (HF.trans eZ) hw))));refine wp_region_quiet_below Pg Pg ?_
    repeat(quiet_step (first|with_reducible exact ag3.out _ _))
    refine wpQuiet_nil ?_;rintro w5 ⟨⟨_,_⟩,afn⟩;have Qt:ag w4 w5:=by rw[afn];exact aZ SX
    clear afn aff afg afh afi afj afk afl afm;have eY:=I (show ag w4 w5 from qV Qt);obtain⟨aks,akt,aku,akv⟩:=xW eY Wj Wl Wm Wn;obtain⟨akw,akx,aky,akz⟩:=xW eY Wo Wp Wq Ws;clear Wj Wl Wm Wn Wo Wp Wq Ws;clear Qt;cases h4:Tr.Gj x y with
    |false=>
     go_wp2
     go_ret;exact⟨by rw[HN.out (by assumption)];rfl,(HF.trans (eZ.trans eY))⟩
    |true=>
     go_wp2
     go_roundw
     case rel=>exact⟨j+1,by go_num,c1,by unfold Hd;rw[HS.out,HA.out];simpa using atE,(HF.trans (eZ.trans eY))⟩
     case measure=>simp[intOf];omega
   .have d1:decide ((j:Int)<(ks.length:Int))=false:=by simp;omega
    obtain rfl:j=ks.length:=Zo
    go_wp2
    go_ret;refine⟨?_,HF⟩;have:=HA.out;rw[avm,C0.out,avm]at this;rw[this];rfl
 .have b0:((ks.length:Int)==(ls.length:Int))=false:=by rw[beq_eq_false_iff_ne];omega
  have b0':((ks.length:Int) !=(ls.length:Int))=true:=by rw[bne,b0];rfl
  have lg:=I (yV c0);clear c0;go_enter func22,ntmps22;go_wp2
  go_ret;exact⟨by rw[lg.out];rfl,M _ _⟩
theorem YX(m:Nat):∀(n:Tr.Nd) (y:Tr.Nd) (sl sm:Value) (w:W_),Tr.count n<=m->aD w n.Qx sl->aD w y.Qx sm->
  C_ 11 #[.agg #[V n.QI,S_ n.QG,V n.ah,sl],.agg #[V y.QI,S_ y.QG,V y.ah,sm]] w λe w'=>e=.returned (.bool (Tr.Gj n y))/\ag w w':=by
 induction m with
 |zero=>intro n _ _ _ _ h;have:=Tr.bX n;omega
 |succ m ih=>
  intro n y sl sm w hc h1 h2;refine Wi n y sl sm w λw' hf=>YW n.Qx y.Qx sl sm w' (h1.QH hf) (h2.QH hf) λx hx z sx sz w'' g1 g2=>ih x z sx sz w'' ?_ g1 g2
  have:=Tr.cB hx;have:=Tr.aN n;omega
theorem sw(l:List UInt8)(j:Nat)(h:j<l.length)(p:UInt8->Bool):(l.take (j+1)).all p=((l.take j).all p&&p l[j]):=by
 rw[List.take_add_one,List.getElem?_eq_getElem h,List.all_append];simp only[Option.toList_some,au9,List.all_nil,avw]
theorem zT(l:List UInt8)(j:Nat)(h:j<l.length)(p:UInt8->Bool)(hn:p l[j]=false):l.all p=false:=by
 rw[List.all_eq_false];exact⟨l[j],List.getElem_mem _,by rw[hn];decide⟩
theorem uC(s:Y_):s.toList.isEmpty=(s.data.toList==[]):=by
 rw[ByteArray.toList_eq];cases s.data.toList<;>rfl
theorem nD(s:Y_)(p:UInt8->Bool)(j:Nat)(hj:j<=s.size)(hn:¬j<s.size)(h:(s.data.toList.take j).all p=true):s.data.toList.all p=true:=by
 have:s.data.toList.length=s.size:=P9
 rwa [List.take_of_length_le (by omega)]at h
theorem Pb:∀n:Fin 256,Tr.D8 (avr n.1)=(!decide (bits .or .u8 (n.1:Int) 32<(97:Int))&&!decide ((122:Int)<bits .or .u8 (n.1:Int) 32)):=I_
theorem Gz(b:UInt8):Tr.D8 b=(!decide (bits .or .u8 (b.toNat:Int) 32<(97:Int))&&!decide ((122:Int)<bits .or .u8 (b.toNat:Int) 32)):=by
 have:=Pb ⟨b.toNat,b.toNat_lt⟩;exact ah7
theorem YY:∀n:Fin 256,Tr.digit (avr n.1)=(!decide ((n.1:Int)<(48:Int))&&!decide ((57:Int)<(n.1:Int))):=I_
theorem Ka(b:UInt8):Tr.digit b=(!decide ((b.toNat:Int)<(48:Int))&&!decide ((57:Int)<(b.toNat:Int))):=by
 have:=YY ⟨b.toNat,b.toNat_lt⟩;exact ah7
def nP(b:UInt8):Bool:=decide (32<=b)&&decide (b<=126)
theorem YZ:∀n:Fin 256,nP (avr n.1)=(!decide ((n.1:Int)<(32:Int))&&!decide ((126:Int)<(n.1:Int))):=I_
theorem y9(b:UInt8):nP b=(!decide ((b.toNat:Int)<(32:Int))&&!decide ((126:Int)<(b.toNat:Int))):=by
 have:=YZ ⟨b.toNat,b.toNat_lt⟩;exact ah7
theorem JE(s:Y_)(w:W_)(hm:s.size<=9223372036854775807):
  C_ 81 #[.string s] w λe w'=>e=.returned (.bool (s.data.toList.all Tr.D8))/\w'=w:=by
 go_enter func81,ntmps81;go_wp2
 go_loopw [3] (λi wr=>∃j:Nat,i=V j/\j<=s.size/\Hd ((s.data.toList.take j).all Tr.D8=true)/\wr=w) (λi _=>s.size-(intOf i).toNat)
 case atStart=>exact⟨0,rfl,au1 _,by simp[Hd],rfl⟩
 case round=>
  obtain⟨j,rfl,hj,HA,rfl⟩:=hrel
  by_cases c1:j<s.size
  .have d1:decide ((j:Int)<(s.size:Int))=true:=by simp;omega
   have aE:(j:Int)<(s.size:Int):=Zo
   obtain⟨b,hb⟩:∃b,s[j]'c1=b:=⟨_,rfl⟩;have hst:=sw s.data.toList j r_ Tr.D8;have hno:=zT s.data.toList j r_ Tr.D8;have hbl:s.data.toList[j]' r_=b:=hb;rw[hbl]at hst hno;have HS:=I hst;have HN:=I hno;clear hst hno hbl;cases h1:decide ((bits .or .u8 (b.toNat:Int) (32:Int))<(97:Int))with
   |false=>
    cases h2:decide ((122:Int)<(bits .or .u8 (b.toNat:Int) (32:Int)))with
    |false=>
     go_wp2
     go_roundw
     case rel=>exact⟨j+1,by go_num,c1,by unfold Hd;rw[HS.out,HA.out];rw[Gz];simp_all,trivial⟩
     case measure=>simp[intOf];omega
    |true=>
     go_wp2
     exact aul
   |true=>
    go_wp2
    exact aul
  .have d1:decide ((j:Int)<(s.size:Int))=false:=by simp;omega
   go_wp2
   go_ret;exact⟨by rw[nD s Tr.D8 j hj c1 HA.out];rfl,rfl⟩
theorem Wt(s:Y_)(w:W_)(hm:s.size<=9223372036854775807):
  C_ 95 #[.string s] w λe w'=>e=.returned (.bool (s.data.toList.all Tr.digit&&!(s.data.toList==[])))/\w'=w:=by
 go_enter func95,ntmps95;go_wp2
 go_loopw [3] (λi wr=>∃j:Nat,i=V j/\j<=s.size/\Hd ((s.data.toList.take j).all Tr.digit=true)/\wr=w) (λi _=>s.size-(intOf i).toNat)
 case atStart=>exact⟨0,rfl,au1 _,by simp[Hd],rfl⟩
 case round=>
  obtain⟨j,rfl,hj,HA,rfl⟩:=hrel
  by_cases c1:j<s.size
  .have d1:decide ((j:Int)<(s.size:Int))=true:=by simp;omega
   have aE:(j:Int)<(s.size:Int):=Zo
   obtain⟨b,hb⟩:∃b,s[j]'c1=b:=⟨_,rfl⟩;have hst:=sw s.data.toList j r_ Tr.digit;have hno:=zT s.data.toList j r_ Tr.digit;have hbl:s.data.toList[j]' r_=b:=hb;rw[hbl]at hst hno;have HS:=I hst;have HN:=I hno;clear hst hno hbl;cases h3:decide ((b.toNat:Int)<(48:Int))with
   |false=>
    cases h4:decide ((57:Int)<(b.toNat:Int))with
    |false=>
     have aa:decide (57<b.toNat)=false:=asJ
     go_wp2
     go_roundw
     case rel=>exact⟨j+1,by go_num,c1,by unfold Hd;rw[HS.out,HA.out];rw[Ka];simp_all,trivial⟩
     case measure=>simp[intOf];omega
    |true=>
     have aa:decide (57<b.toNat)=true:=ati
     go_wp2
     exact aum
   |true=>
    go_wp2
    exact aum
  .have d1:decide ((j:Int)<(s.size:Int))=false:=by simp;omega
   cases h5:(s.data.toList==([]:List UInt8))with
   |false=>
    have ab:(s==(⟨#[]⟩:Y_))=false:=by rw[bS];exact h5
    have h5t:(s !=(⟨#[]⟩:Y_))=true:=by rw[bne,ab];rfl
    have h5e:(avd s).isEmpty=false:=by rw[uC];exact h5
    go_wp2
    exact aqO
   |true=>
    have ab:(s==(⟨#[]⟩:Y_))=true:=by rw[bS];exact h5
    have h5t:(s !=(⟨#[]⟩:Y_))=false:=by rw[bne,ab];rfl
    have h5e:(avd s).isEmpty=true:=by rw[uC];exact h5
    go_wp2
    exact aqO
theorem Y0(s:Y_)(w:W_)(hm:s.size<=9223372036854775807):
  C_ 54 #[.string s] w λe w'=>e=.returned (.bool (s.data.toList.all nP&&decide ((s.size:Int)<=(200:Int))))/\w'=w:=by
 go_enter func54,ntmps54;go_wp2
 go_loopw [3] (λi wr=>∃j:Nat,i=V j/\j<=s.size/\Hd ((s.data.toList.take j).all nP=true)/\wr=w) (λi _=>s.size-(intOf i).toNat)
 case atStart=>exact⟨0,rfl,au1 _,by simp[Hd],rfl⟩
 case round=>
  obtain⟨j,rfl,hj,HA,rfl⟩:=hrel
  by_cases c1:j<s.size
  .have d1:decide ((j:Int)<(s.size:Int))=true:=by simp;omega
   have aE:(j:Int)<(s.size:Int):=Zo
   obtain⟨b,hb⟩:∃b,s[j]'c1=b:=⟨_,rfl⟩;have hst:=sw s.data.toList j r_ nP;have hno:=zT s.data.toList j r_ nP;have hbl:s.data.toList[j]' r_=b:=hb;rw[hbl]at hst hno;have HS:=I hst;have HN:=I hno;clear hst hno hbl;cases h6:decide ((b.toNat:Int)<(32:Int))with
   |false=>
    cases h7:decide ((126:Int)<(b.toNat:Int))with
    |false=>
     have Qu:decide (126<b.toNat)=false:=asK
     go_wp2
     go_roundw
     case rel=>exact⟨j+1,by go_num,c1,by unfold Hd;rw[HS.out,HA.out];rw[y9];simp_all,trivial⟩
     case measure=>simp[intOf];omega
    |true=>
     have Qu:decide (126<b.toNat)=true:=atj
     go_wp2
     exact aun
   |true=>
    go_wp2
    exact aun
  .have d1:decide ((j:Int)<(s.size:Int))=false:=by simp;omega
   cases h8:decide ((s.size:Int)<=(200:Int))with
   |false=>
    go_wp2
    exact arn
   |true=>
    go_wp2
    exact arn
theorem Lp(s:Y_)(w:W_):
  C_ 55 #[.string s] w λe w'=>e=.returned (.bool (Tr.eu.contains s.data.toList))/\w'=w:=by
 go_enter func55,ntmps55;cases h9:(s.data.toList==([104,97,116]:List UInt8))with
 |false=>
  have aa:(s==(⟨#[104,97,116]⟩:Y_))=false:=by rw[bS];exact h9
  have h9t:(s !=(⟨#[104,97,116]⟩:Y_))=true:=by rw[bne,aa];rfl
  have h9l:(avd s==[104,97,116])=false:=by rw[ByteArray.toList_eq];exact h9
  cases h10:(s.data.toList==([98,97,114]:List UInt8))with
  |false=>
   have abz:(s==(⟨#[98,97,114]⟩:Y_))=false:=by rw[bS];exact h10
   have ahJ:(s !=(⟨#[98,97,114]⟩:Y_))=true:=by rw[bne,abz];rfl
   have ahK:(avd s==[98,97,114])=false:=by rw[ByteArray.toList_eq];exact h10
   cases h11:(s.data.toList==([118,101,99]:List UInt8))with
   |false=>
    have abA:(s==(⟨#[118,101,99]⟩:Y_))=false:=by rw[bS];exact h11
    have ahL:(s !=(⟨#[118,101,99]⟩:Y_))=true:=by rw[bne,abA];rfl
    have ahM:(avd s==[118,101,99])=false:=by rw[ByteArray.toList_eq];exact h11
    cases ac:(s.data.toList==([100,111,116]:List UInt8))with
    |false=>
     have abB:(s==(⟨#[100,111,116]⟩:Y_))=false:=by rw[bS];exact ac
     have ahN:(s !=(⟨#[100,111,116]⟩:Y_))=true:=by rw[bne,abB];rfl
     have ahO:(avd s==[100,111,116])=false:=by rw[ByteArray.toList_eq];exact ac
     cases JF:(s.data.toList==([116,105,108,100,101]:List UInt8))with
     |false=>
      have abC:(s==(⟨#[116,105,108,100,101]⟩:Y_))=false:=by rw[bS];exact JF
      have ahP:(s !=(⟨#[116,105,108,100,101]⟩:Y_))=true:=by rw[bne,abC];rfl
      have ahQ:(avd s==[116,105,108,100,101])=false:=by rw[ByteArray.toList_eq];exact JF
      cases GA:(s.data.toList==([99,104,101,99,107]:List UInt8))with
      |false=>
       have abD:(s==(⟨#[99,104,101,99,107]⟩:Y_))=false:=by rw[bS];exact GA
       have ahR:(s !=(⟨#[99,104,101,99,107]⟩:Y_))=true:=by rw[bne,abD];rfl
       have ahS:(avd s==[99,104,101,99,107])=false:=by rw[ByteArray.toList_eq];exact GA
       go_wp2
       exact aid
      |true=>
       have abD:(s==(⟨#[99,104,101,99,107]⟩:Y_))=true:=by rw[bS];exact GA
       have ahR:(s !=(⟨#[99,104,101,99,107]⟩:Y_))=false:=by rw[bne,abD];rfl
       have ahS:(avd s==[99,104,101,99,107])=true:=by rw[ByteArray.toList_eq];exact GA
       go_wp2
       exact aid
     |true=>
      have abC:(s==(⟨#[116,105,108,100,101]⟩:Y_))=true:=by rw[bS];exact JF
      have ahP:(s !=(⟨#[116,105,108,100,101]⟩:Y_))=false:=by rw[bne,abC];rfl
      have ahQ:(avd s==[116,105,108,100,101])=true:=by rw[ByteArray.toList_eq];exact JF
      go_wp2
      exact aid
    |true=>
     have abB:(s==(⟨#[100,111,116]⟩:Y_))=true:=by rw[bS];exact ac
     have ahN:(s !=(⟨#[100,111,116]⟩:Y_))=false:=by rw[bne,abB];rfl
     have ahO:(avd s==[100,111,116])=true:=by rw[ByteArray.toList_eq];exact ac
     go_wp2
     exact aid
   |true=>
    have abA:(s==(⟨#[118,101,99]⟩:Y_))=true:=by rw[bS];exact h11
    have ahL:(s !=(⟨#[118,101,99]⟩:Y_))=false:=by rw[bne,abA];rfl
    have ahM:(avd s==[118,101,99])=true:=by rw[ByteArray.toList_eq];exact h11
    go_wp2
    exact aid
  |true=>
   have abz:(s==(⟨#[98,97,114]⟩:Y_))=true:=by rw[bS];exact h10
   have ahJ:(s !=(⟨#[98,97,114]⟩:Y_))=false:=by rw[bne,abz];rfl
   have ahK:(avd s==[98,97,114])=true:=by rw[ByteArray.toList_eq];exact h10
   go_wp2
   exact aid
 |true=>
  have aa:(s==(⟨#[104,97,116]⟩:Y_))=true:=by rw[bS];exact h9
  have h9t:(s !=(⟨#[104,97,116]⟩:Y_))=false:=by rw[bne,aa];rfl
  have h9l:(avd s==[104,97,116])=true:=by rw[ByteArray.toList_eq];exact h9
  go_wp2
  exact aid
theorem TZ(s:Y_)(w:W_):
  C_ 83 #[.string s] w λe w'=>e=.returned (.bool (Tr.GK.contains s.data.toList))/\w'=w:=by
 go_enter func83,ntmps83;cases GD:(s.data.toList==([102,114,97,99]:List UInt8))with
 |false=>
  have abE:(s==(⟨#[102,114,97,99]⟩:Y_))=false:=by rw[bS];exact GD
  have ahT:(s !=(⟨#[102,114,97,99]⟩:Y_))=true:=by rw[bne,abE];rfl
  have ahU:(avd s==[102,114,97,99])=false:=by rw[ByteArray.toList_eq];exact GD
  cases aa:(s.data.toList==([114,111,111,116]:List UInt8))with
  |false=>
   have abF:(s==(⟨#[114,111,111,116]⟩:Y_))=false:=by rw[bS];exact aa
   have ahV:(s !=(⟨#[114,111,111,116]⟩:Y_))=true:=by rw[bne,abF];rfl
   have ahW:(avd s==[114,111,111,116])=false:=by rw[ByteArray.toList_eq];exact aa
   cases GG:(s.data.toList==([109,97,116,114,105,120]:List UInt8))with
   |false=>
    have abG:(s==(⟨#[109,97,116,114,105,120]⟩:Y_))=false:=by rw[bS];exact GG
    have ahX:(s !=(⟨#[109,97,116,114,105,120]⟩:Y_))=true:=by rw[bne,abG];rfl
    have ahY:(avd s==[109,97,116,114,105,120])=false:=by rw[ByteArray.toList_eq];exact GG
    cases ab:(s.data.toList==([102,101,110,99,101]:List UInt8))with
    |false=>
     have abH:(s==(⟨#[102,101,110,99,101]⟩:Y_))=false:=by rw[bS];exact ab
     have ahZ:(s !=(⟨#[102,101,110,99,101]⟩:Y_))=true:=by rw[bne,abH];rfl
     have ah0:(avd s==[102,101,110,99,101])=false:=by rw[ByteArray.toList_eq];exact ab
     go_wp2
     exact aqZ
    |true=>
     have abH:(s==(⟨#[102,101,110,99,101]⟩:Y_))=true:=by rw[bS];exact ab
     have ahZ:(s !=(⟨#[102,101,110,99,101]⟩:Y_))=false:=by rw[bne,abH];rfl
     have ah0:(avd s==[102,101,110,99,101])=true:=by rw[ByteArray.toList_eq];exact ab
     go_wp2
     exact aqZ
   |true=>
    have abG:(s==(⟨#[109,97,116,114,105,120]⟩:Y_))=true:=by rw[bS];exact GG
    have ahX:(s !=(⟨#[109,97,116,114,105,120]⟩:Y_))=false:=by rw[bne,abG];rfl
    have ahY:(avd s==[109,97,116,114,105,120])=true:=by rw[ByteArray.toList_eq];exact GG
    go_wp2
    exact aqZ
  |true=>
   have abF:(s==(⟨#[114,111,111,116]⟩:Y_))=true:=by rw[bS];exact aa
   have ahV:(s !=(⟨#[114,111,111,116]⟩:Y_))=false:=by rw[bne,abF];rfl
   have ahW:(avd s==[114,111,111,116])=true:=by rw[ByteArray.toList_eq];exact aa
   go_wp2
   exact aqZ
 |true=>
  have abE:(s==(⟨#[102,114,97,99]⟩:Y_))=true:=by rw[bS];exact GD
  have ahT:(s !=(⟨#[102,114,97,99]⟩:Y_))=false:=by rw[bne,abE];rfl
  have ahU:(avd s==[102,114,97,99])=true:=by rw[ByteArray.toList_eq];exact GD
  go_wp2
  exact aqZ
theorem uW(s:Y_)(w:W_):
  C_ 52 #[.string s] w λe w'=>e=.returned (.bool (s.data.toList.isEmpty))/\w'=w:=by
 go_enter func52,ntmps52;cases aa:(s.data.toList==([]:List UInt8))with
 |false=>
  have abI:(s==(⟨#[]⟩:Y_))=false:=by rw[bS];exact aa
  have ah1:(s !=(⟨#[]⟩:Y_))=true:=by rw[bne,abI];rfl
  have ah2:(avd s).isEmpty=false:=by rw[uC];exact aa
  go_wp2
  go_ret;exact⟨ai _ _ (by cases hs:s.data.toList<;>simp_all),rfl⟩
 |true=>
  have abI:(s==(⟨#[]⟩:Y_))=true:=by rw[bS];exact aa
  have ah1:(s !=(⟨#[]⟩:Y_))=false:=by rw[bne,abI];rfl
  have ah2:(avd s).isEmpty=true:=by rw[uC];exact aa
  go_wp2
  go_ret;exact⟨ai _ _ (by cases hs:s.data.toList<;>simp_all),rfl⟩
theorem BI(l:List UInt8)(c:UInt8):decide ((0:Int)<=Lib.indexByte l c)=l.contains c:=by
 induction l with
 |nil=>rfl
 |cons b l ih=>
  rw[Lib.indexByte,List.contains_cons];cases h:b==c with
  |true=>
   have:b=c:=aiu
   subst this;simp
  |false=>
   have h2:(c==b)=false:=by
    rw[beq_eq_false_iff_ne]at h|-;exact λe=>h e.symm
   rw[h2,Bool.false_or,<-ih]
   have ai:-1<=Lib.indexByte l c:=by
    clear ih
    induction l with
    |nil=>show(-1:Int)<=-1;decide
    |cons b l ih=>rw[Lib.indexByte];split<;>(try split)<;>omega
   cases h3:Lib.indexByte l c==-1 with
   |true=>
    have:Lib.indexByte l c=-1:=aeQ
    rw[this];rfl
   |false=>
    have:Lib.indexByte l c≠-1:=aeQ
    simp only[avH,if_false];exact aqw
theorem Vj(s:Y_)(h:s.size=1):∃c,s=⟨#[c]⟩:=by
 obtain⟨⟨l⟩⟩:=s
 match l,h with
 |[c],_=>exact⟨c,rfl⟩
theorem aeu(s:Y_)(h:s.size=2):∃a b,s=⟨#[a,b]⟩:=by
 obtain⟨⟨l⟩⟩:=s
 match l,h with
 |[a,b],_=>exact⟨a,b,rfl⟩
theorem contains_one(l:List UInt8)(c:UInt8)(w:W_):
  C_ 82 #[S_ l,.string ⟨#[c]⟩] w λe w'=>e=.returned (.bool (l.contains c))/\w'=w:=by
 have:=Tryz.strings_Contains_one ⟨l.toArray⟩ c w;rw[<-BI];exact this
theorem D6(l:List UInt8)(c:UInt8)(w:W_):
  C_ 96 #[S_ l,.int .u8 (c.toNat:Int)] w λe w'=>e=.returned (V (Lib.indexByte l c))/\w'=w:=by
 have:=Tryz.strings_IndexByte ⟨l.toArray⟩ (c.toNat:Int) w;exact ah7
theorem Wu(c:UInt8):Tr.signs.contains c=([43,45,42,47,61,60,62,44,59,58,33,124,39,63,126,64]:List UInt8).contains c:=rfl
theorem Wv:∀n:Fin 256,Tr.rz.contains (avr n.1)=([40,41,91,93,123,125,60,62,47,124,46]:List UInt8).contains (avr n.1):=I_
theorem JG(c:UInt8):Tr.rz.contains c=([40,41,91,93,123,125,60,62,47,124,46]:List UInt8).contains c:=by
 have:=Wv ⟨c.toNat,c.toNat_lt⟩;exact ah7
theorem Ww(s:Y_)(w:W_)(hm:s.size<=9223372036854775807):
  C_ 41 #[.string s] w λe w'=>e=.returned (.bool (Tr.symbol s.data.toList))/\w'=w:=by
 by_cases h1:s.size=1
 .obtain⟨c,rfl⟩:=Vj s h1
  clear h1 hm;have hsz:(av7 ⟨#[c]⟩:Int)=1:=rfl
  have hsp:Tr.symbol (ByteArray.data ⟨#[c]⟩).toList=(([c]:List UInt8).all Tr.D8||([43,45,42,47,61,60,62,44,59,58,33,124,39,63,126,64]:List UInt8).contains c):=by
   show(Tr.D8 c||Tr.signs.contains c)=((Tr.D8 c&&true)||_);rw[avw,Wu]
  have pJ:=I hsp;clear hsp;go_enter func41,ntmps41;go_wp2_with fail
  refine Calls.mono (JE (⟨#[c]⟩:Y_) _ asx) ?_;rintro _ _ ⟨rfl,rfl⟩;cases h1:(([c]:List UInt8).all Tr.D8)with
  |false=>
   go_wp2_with fail
   refine Calls.mono (contains_one ([43,45,42,47,61,60,62,44,59,58,33,124,39,63,126,64]:List UInt8) c _) ?_;rintro _ _ ⟨rfl,rfl⟩;cases h2:(([43,45,42,47,61,60,62,44,59,58,33,124,39,63,126,64]:List UInt8).contains c)with
   |false=>
    go_wp2
    exact u_
   |true=>
    go_wp2
    exact u_
  |true=>
   go_wp2
   exact u_
 .have h1':((s.size:Int)==(1:Int))=false:=by rw[beq_eq_false_iff_ne];omega
  have hsp:Tr.symbol s.data.toList=(decide ((2:Int)<=(s.size:Int))&&(decide ((s.size:Int)<=(16:Int))&&(s.data.toList.all Tr.D8&&((!Tr.GK.contains s.data.toList)&&!Tr.eu.contains s.data.toList)))):=by
   have hl:s.data.toList.length=s.size:=P9
   have e1:decide ((2:Int)<=(s.size:Int))=decide (2<=s.data.toList.length):=ar9
   have e2:decide ((s.size:Int)<=(16:Int))=decide (s.data.toList.length<=16):=ar9
   rw[e1,e2];rw[<-hl]at h1;generalize s.data.toList=l at*
   match l,h1 with
   |[],_=>rfl
   |[c],h1=>exact absurd rfl h1
   |a::b::l,_=>
    show((a::b::l).all Tr.D8&&decide (2<=(a::b::l).length)&&decide ((a::b::l).length<=16)&&!Tr.GK.contains (a::b::l)&&!Tr.eu.contains (a::b::l))=_;generalize (a::b::l).all Tr.D8=x1;generalize decide (2<=(a::b::l).length)=x2;generalize decide ((a::b::l).length<=16)=x3;generalize Tr.GK.contains (a::b::l)=x4;generalize Tr.eu.contains (a::b::l)=x5;cases x1<;>cases x2<;>cases x3<;>cases x4<;>cases x5<;>rfl
  have pJ:=I hsp;clear hsp h1;go_enter func41,ntmps41;cases h3:decide ((2:Int)<=(s.size:Int))with
  |false=>
   have Y1:decide (2<=s.size)=false:=by have hx:=h3;simp only[decide_eq_false_iff_not]at hx|-;omega
   go_wp2
   exact u_
  |true=>
   have Y1:decide (2<=s.size)=true:=by have hx:=h3;simp only[decide_eq_true_eq]at hx|-;omega
   cases h4:decide ((s.size:Int)<=(16:Int))with
   |false=>
    go_wp2
    exact u_
   |true=>
    go_wp2_with fail
    refine Calls.mono (JE s _ asx) ?_;rintro _ _ ⟨rfl,rfl⟩;cases h5:(s.data.toList.all Tr.D8)with
    |false=>
     go_wp2
     exact u_
    |true=>
     go_wp2_with fail
     refine Calls.mono (TZ s _) ?_;rintro _ _ ⟨rfl,rfl⟩;cases h6:(Tr.GK.contains s.data.toList)with
     |false=>
      go_wp2_with fail
      refine Calls.mono (Lp s _) ?_;rintro _ _ ⟨rfl,rfl⟩;cases h7:(Tr.eu.contains s.data.toList)with
      |false=>
       go_wp2
       exact u_
      |true=>
       go_wp2
       exact u_
     |true=>
      go_wp2
      exact u_
theorem Y2(s:Y_)(w:W_):
  C_ 56 #[.string s] w λe w'=>e=.returned (.bool (Tr.fence s.data.toList))/\w'=w:=by
 by_cases h1:s.size=2
 .obtain⟨a,b,rfl⟩:=aeu s h1
  clear h1;have hsz:(av7 ⟨#[a,b]⟩:Int)=2:=rfl
  have hsp:Tr.fence (ByteArray.data ⟨#[a,b]⟩).toList=(decide ((0:Int)<=(Lib.indexByte ([40,41,91,93,123,125,60,62,47,124,46]:List UInt8) a))&&decide ((0:Int)<=(Lib.indexByte ([40,41,91,93,123,125,60,62,47,124,46]:List UInt8) b))):=by
   rw[BI,BI,<-JG,<-JG]
   first|done|rfl
  have pJ:=I hsp;clear hsp;go_enter func56,ntmps56;go_wp2_with fail
  refine Calls.mono (D6 ([40,41,91,93,123,125,60,62,47,124,46]:List UInt8) a _) ?_;rintro _ _ ⟨rfl,rfl⟩;cases h8:decide ((0:Int)<=(Lib.indexByte ([40,41,91,93,123,125,60,62,47,124,46]:List UInt8) a))with
  |false=>
   go_wp2
   exact u_
  |true=>
   go_wp2_with fail
   refine Calls.mono (D6 ([40,41,91,93,123,125,60,62,47,124,46]:List UInt8) b _) ?_;rintro _ _ ⟨rfl,rfl⟩;cases h9:decide ((0:Int)<=(Lib.indexByte ([40,41,91,93,123,125,60,62,47,124,46]:List UInt8) b))with
   |false=>
    go_wp2
    exact u_
   |true=>
    go_wp2
    exact u_
 .have h1':((s.size:Int)==(2:Int))=false:=by rw[beq_eq_false_iff_ne];omega
  have hsp:Tr.fence s.data.toList=false:=by
   have hl:s.data.toList.length=s.size:=P9
   rw[<-hl]at h1;generalize s.data.toList=l at*
   match l,h1 with
   |[],_=>rfl
   |[_],_=>rfl
   |[_,_],h1=>exact absurd rfl h1
   |_::_::_::_,_=>rfl
  have pJ:=I hsp;clear hsp h1;go_enter func56,ntmps56;go_wp2
  exact u_
def gT(l:List UInt8):List UInt8×List UInt8×Bool:=
 if(0:Int)<=Lib.indexByte l 46 then(l.take (Lib.indexByte l 46).toNat,l.drop ((Lib.indexByte l 46).toNat+1),true)else(l,[],false)
theorem afo(l:List UInt8)(c:UInt8):Lib.indexByte l c<l.length:=by
 induction l with
 |nil=>show(-1:Int)<0;decide
 |cons b l ih=>
  rw[Lib.indexByte,List.length_cons];split
  .omega
  .split<;>omega
theorem Vk(s:Y_)(l:List UInt8)(h:s.data.toList=l):s=⟨l.toArray⟩:=by
 apply ByteArray.ext
 apply Array.toList_inj.1
 rw[h]
theorem Qv(s:Y_)(k:Nat):s.extract 0 k=⟨(s.data.toList.take k).toArray⟩:=by
 apply Vk
 rw[Lib.extract_data];simp
theorem extract_drop(s:Y_)(k:Nat):s.extract k s.size=⟨(s.data.toList.drop k).toArray⟩:=by
 apply Vk
 rw[Lib.extract_to_end]
theorem Y3(a b a' b':Y_)(c c':Bool)(h1:a=a')(h2:b=b')(h3:c=c'):Ending.returned (.tuple #[.string a,.string b,.bool c])=.returned (.tuple #[.string a',.string b',.bool c']):=by rw[h1,h2,h3]
theorem Y4(s:Y_)(w:W_)(hm:s.size<=9223372036854775807):
  C_ 129 #[.string s,.string ⟨#[46]⟩] w λe w'=>e=.returned (.tuple #[.string ⟨(gT s.data.toList).1.toArray⟩,.string ⟨(gT s.data.toList).2.1.toArray⟩,.bool (gT s.data.toList).2.2])/\∃n,w'=w.drewN n:=by
 have hl:s.data.toList.length=s.size:=P9
 have hlt:=afo s.data.toList 46;have hc:=I (show gT s.data.toList=_ from rfl);have a7:=I (Tryz.stringslite_Index_one s 46);rw[hl]at hlt;clear hl;unfold gT at hc|-;generalize an:Lib.indexByte s.data.toList 46=i at*;clear an
 by_cases h0:0<=i
 .have d0:decide ((0:Int)<=i)=true:=by simp;omega
  obtain⟨k,rfl⟩:∃k:Nat,i=k:=⟨i.toNat,by omega⟩;clear h0 hc;go_enter func129,ntmps129;go_wp2_with fail
  refine(a7 _).mono ?_;rintro _ _ ⟨rfl,rfl⟩;have d1:(k:Int)<=(s.size:Int):=Zo
  have d2:(k:Int)+1<=(s.size:Int):=Zo
  have d3:k<=s.size:=Zo
  have d4:k+1<=s.size:=Zo
  go_wp2
  go_quiet (fail)
  go_wp2
  go_ret3;refine⟨Y3 _ _ _ _ _ _ ?_ ?_ ?_,_,rfl⟩
  .exact Qv s k
  .exact extract_drop s (k+1)
  .rfl
 .have d0:decide ((0:Int)<=i)=false:=by simp;omega
  rw[if_neg h0];go_enter func129,ntmps129;go_wp2_with fail
  refine(a7 _).mono ?_;rintro _ _ ⟨rfl,rfl⟩;clear hc h0;go_wp2
  go_ret3;refine⟨?_,0,rfl⟩
  first|rfl|exact Y3 _ _ _ _ _ _ rfl rfl rfl
theorem aev(s:Y_)(w:W_)(hm:s.size<=9223372036854775807):
  C_ 94 #[.string s,.string ⟨#[46]⟩] w λe w'=>e=.returned (.tuple #[.string ⟨(gT s.data.toList).1.toArray⟩,.string ⟨(gT s.data.toList).2.1.toArray⟩,.bool (gT s.data.toList).2.2])/\ag w w':=by
 go_enter func94,ntmps94;go_wp2_with fail
 refine(Y4 s _ hm).mono ?_;rintro _ _ ⟨rfl,n,rfl⟩;go_wp2
 go_ret3;exact⟨rfl,(M _ _).drewN _⟩
def pK(l:List UInt8):Bool:=l.all Tr.digit&&!(l==[])
theorem NR(l:List UInt8)(w:W_)(hm:av7 ⟨l.toArray⟩<=9223372036854775807):
  C_ 95 #[S_ l] w λe w'=>e=.returned (.bool (pK l))/\w'=w:=Wt ⟨l.toArray⟩ w hm
theorem NS(b:UInt8)(l:List UInt8):gT (b::l)=if b=46 then([],l,true)else(b::(gT l).1,(gT l).2.1,(gT l).2.2):=by
 unfold gT;rw[Lib.indexByte]
 by_cases h:b=46
 .subst h;simp
 .have h':(b==46)=false:=by simpa using h
  rw[h',if_neg h];simp only[avH,if_false]
  have ai:-1<=Lib.indexByte l 46:=by
   induction l with
   |nil=>show(-1:Int)<=-1;decide
   |cons b l ih=>rw[Lib.indexByte];split<;>(try split)<;>omega
  by_cases h2:Lib.indexByte l 46=-1
  .rw[h2];simp
  .have h3:(Lib.indexByte l 46==-1)=false:=by simpa using h2
   rw[h3];simp only[avH,if_false];rw[if_pos (by omega),if_pos (by omega)];have e:(Lib.indexByte l 46+1).toNat=(Lib.indexByte l 46).toNat+1:=Zo
   rw[e];simp
theorem Qw(l:List UInt8):(l.takeWhile (·≠46)=(gT l).1/\l.dropWhile (·≠46)=if(gT l).2.2 then 46::(gT l).2.1 else [])/\((gT l).2.2=false->(gT l).1=l/\(gT l).2.1=[]):=by
 induction l with
 |nil=>exact⟨⟨rfl,rfl⟩,λ_=>⟨rfl,rfl⟩⟩
 |cons b l ih=>
  rw[NS];obtain⟨h1,h2⟩:=ih
  by_cases h:b=46
  .subst h
   rw[if_pos rfl];exact⟨⟨rfl,rfl⟩,λh=>by cases h⟩
  .rw[if_neg h]
   refine⟨⟨?_,?_⟩,λhx=>?_⟩
   .rw[List.takeWhile_cons,if_pos (by simpa using h),h1.1]
   .rw[List.dropWhile_cons,if_pos (by simpa using h),h1.2]
   .obtain⟨e1,e2⟩:=h2 hx
    exact⟨by rw[e1],e2⟩
theorem NT(l:List UInt8):Tr.isNum l=(decide (l.length<=20)&&(pK (gT l).1&&(!(gT l).2.2||pK (gT l).2.1))):=by
 obtain⟨h1,h2⟩:=Qw l;unfold Tr.isNum;rw[h1.1,h1.2]
 have hall:(gT l).2.2=true->l.all Tr.digit=false:=by
  clear h1 h2
  induction l with
  |nil=>intro h;cases h
  |cons b l ih=>
   rw[NS]
   by_cases h:b=46
   .subst h;intro _;rfl
   .rw[if_neg h]
    intro hx;rw[au9,ih hx,avD]
 have hne:(gT l).2.2=true->l≠[]:=by rintro h rfl;cases h
 cases hc:(gT l).2.2 with
 |false=>
  obtain⟨e1,e2⟩:=h2 hc;rw[e1];unfold pK;cases l with
  |nil=>rfl
  |cons b l=>simp
 |true=>
  rw[hall hc];unfold pK;generalize (gT l).1=a;generalize (gT l).2.1=b;have:=hne hc;cases a<;>cases b<;>simp[this,awz]
theorem abJ(l:List UInt8):(gT l).1.length<=l.length/\(gT l).2.1.length<=l.length:=by
 unfold gT;split
 .simp only[List.length_take,List.length_drop];omega
 .simp
theorem T9(s:Y_)(w:W_)(hm:s.size<=9223372036854775807):
  C_ 53 #[.string s] w λe w'=>e=.returned (.bool (Tr.isNum s.data.toList))/\ag w w':=by
 have hl:s.data.toList.length=s.size:=P9
 have aa:=abJ s.data.toList;rw[hl]at aa;have aL:av7 ⟨(gT s.data.toList).2.1.toArray⟩<=9223372036854775807:=by show(gT s.data.toList).2.1.toArray.size<=_;simp;omega
 have aI:av7 ⟨(gT s.data.toList).1.toArray⟩<=9223372036854775807:=by show(gT s.data.toList).1.toArray.size<=_;simp;omega
 have hsp:Tr.isNum s.data.toList=(decide ((s.size:Int)<=(20:Int))&&(pK (gT s.data.toList).1&&(!(gT s.data.toList).2.2||pK (gT s.data.toList).2.1))):=by
  rw[NT,hl];congr 1;exact aqw
 have pJ:=I hsp;clear hsp hl aa;go_enter func53,ntmps53;go_wp2_with fail
 refine Calls.mono (aev s _ hm) ?_;rintro _ w8 ⟨rfl,afp⟩;have mZ:=I (show ag w w8 from qV afp);clear afp;cases h10:decide ((s.size:Int)<=(20:Int))with
 |false=>
  go_wp2
  exact aqx
 |true=>
  go_wp2_with fail
  refine Calls.mono (NR (gT s.data.toList).1 _ aI) ?_;rintro _ _ ⟨rfl,rfl⟩;cases h11:(pK (gT s.data.toList).1)with
  |false=>
   go_wp2
   exact aqx
  |true=>
   cases ac:(gT s.data.toList).2.2 with
   |false=>
    go_wp2
    exact aqx
   |true=>
    go_wp2_with fail
    refine Calls.mono (NR (gT s.data.toList).2.1 _ aL) ?_;rintro _ _ ⟨rfl,rfl⟩;cases JF:(pK (gT s.data.toList).2.1)with
    |false=>
     go_wp2
     exact aqx
    |true=>
     go_wp2
     exact aqx
def gQ(W:W_):List Tr.Nd->List Value->Prop
 |[],cs=>cs=[]
 |k::ks,cs=>∃sl ds,cs=V k.QI::S_ k.QG::V k.ah::sl::ds/\aD W k.Qx sl/\k.QG.length<=maxLen/\gQ W ks ds
theorem gQ.append{W:W_}:∀{ks ms:List Tr.Nd} {cs ds:List Value},gQ W ks cs->gQ W ms ds->gQ W (ks++ms) (cs++ds)
 |[],_,cs,_,h,h'=>by rw[show cs=[]from h];exact h'
 |_::_,_,_,_,⟨sl,es,h,hr,ht,hd⟩,h'=>⟨sl,es++_,by rw[h];rfl,hr,ht,hd.append h'⟩
theorem aD.oneCell{W:W_}{ks:List Tr.Nd}{v:Value}(h:aD W ks v):v.oneCell'=true:=by
 exact auf
theorem gQ.get{W:W_}:∀{ks:List Tr.Nd} {cs:List Value},gQ W ks cs->∀i (hi:i<ks.length),∃sl,cs[i*4]?=some (V ks[i].QI)/\cs[i*4+1]?=some (S_ ks[i].QG)/\cs[i*4+2]?=some (V ks[i].ah)/\cs[i*4+3]?=some sl/\
  aD W ks[i].Qx sl/\ks[i].QG.length<=maxLen
 |[],_,_,i,hi=>by simp at hi
 |k::ks,cs,⟨sl,ds,h,hr,ht,hd⟩,i,hi=>by
  subst h;cases i with
  |zero=>exact⟨sl,rfl,rfl,rfl,rfl,hr,ht⟩
  |succ i=>
   obtain⟨s,g0,g1,g2,g3,g4,g5⟩:=hd.get i am5;refine⟨s,?_,?_,?_,?_,g4,g5⟩
   .rw[show(i+1)*4=i*4+4 by omega];exact g0
   .rw[show(i+1)*4+1=i*4+1+4 by omega];exact g1
   .rw[show(i+1)*4+2=i*4+2+4 by omega];exact g2
   .rw[show(i+1)*4+3=i*4+3+4 by omega];exact g3
theorem gQ.rep{W:W_}{ks:List Tr.Nd}{cs:List Value}{g cap:Nat}(h:gQ W ks cs)(hg:g<W.heap.size)(hl:ks.length<=maxLen)(hc:∀j u,cs[j]?=some u->W.cell? (B_ g j)=some u):aD W ks (.slice (A_ g 0) ks.length cap):=by
 refine aD.row g 0 cap ks (λi=>(cs[i*4+3]?).getD (.bool false)) hg hl ?_ ?_ ?_ ?_ ?_ ?_
 all_goals (intro i hi;obtain⟨sl,g0,g1,g2,g3,g4,g5⟩:=h.get i hi)
 .exact g5
 .rw[au8];exact hc _ _ g0
 .rw[au8];exact hc _ _ g1
 .rw[au8];exact hc _ _ g2
 .rw[au8,g3];exact hc _ _ g3
 .rw[g3];exact g4
theorem gQ.own{W:W_}{ks:List Tr.Nd}{cs:List Value}{B e:Nat}{v:Value}(h:gQ W ks cs)(ho:W.ownsRow B e 4 v ks.length cs):aD W ks v:=by
 rcases ho.2 with⟨rfl,h0⟩|⟨g,cap,cur,rfl,hB,hb,h1,h2,_⟩
 .rw[List.length_eq_zero_iff.1 h0]
  exact .nil _ _
 .exact h.rep (ho.lt g rfl).2 (Nat.le_trans h1 h2) λj u hu=>by
   have:=ho.cells (g:=g) rfl j u hu;rw[Addr.add_mid,au8]at this;exact this
end
section
open Go.RowKit
attribute [local go_sem] Oper.semAt_some
def Y5:Value:=.agg #[.string ⟨#[114,111,119]⟩,V 0,.func (.func 52) #[] #[]]
theorem Ua:Tryz.prog.built 91 [(0,.string ⟨#[114,111,119]⟩),(1,V 0),(2,.func (.func 52) #[] #[])]=some #[.string ⟨#[114,111,119]⟩,V 0,.func (.func 52) #[] #[]]:=Pg
def Y6:Value:=.agg #[.string ⟨#[115,121,109]⟩,V 0,.func (.func 41) #[] #[]]
theorem Ub:Tryz.prog.built 91 [(0,.string ⟨#[115,121,109]⟩),(1,V 0),(2,.func (.func 41) #[] #[])]=some #[.string ⟨#[115,121,109]⟩,V 0,.func (.func 41) #[] #[]]:=Pg
def Y7:Value:=.agg #[.string ⟨#[110,117,109]⟩,V 0,.func (.func 53) #[] #[]]
theorem Uc:Tryz.prog.built 91 [(0,.string ⟨#[110,117,109]⟩),(1,V 0),(2,.func (.func 53) #[] #[])]=some #[.string ⟨#[110,117,109]⟩,V 0,.func (.func 53) #[] #[]]:=Pg
def Y8:Value:=.agg #[.string ⟨#[116,101,120,116]⟩,V 0,.func (.func 54) #[] #[]]
theorem Ud:Tryz.prog.built 91 [(0,.string ⟨#[116,101,120,116]⟩),(1,V 0),(2,.func (.func 54) #[] #[])]=some #[.string ⟨#[116,101,120,116]⟩,V 0,.func (.func 54) #[] #[]]:=Pg
def Y9:Value:=.agg #[.string ⟨#[102,114,97,99]⟩,V 2,.func (.func 52) #[] #[]]
theorem Ue:Tryz.prog.built 91 [(0,.string ⟨#[102,114,97,99]⟩),(1,V 2),(2,.func (.func 52) #[] #[])]=some #[.string ⟨#[102,114,97,99]⟩,V 2,.func (.func 52) #[] #[]]:=Pg
def Za:Value:=.agg #[.string ⟨#[114,111,111,116]⟩,V 2,.func (.func 52) #[] #[]]
theorem Uf:Tryz.prog.built 91 [(0,.string ⟨#[114,111,111,116]⟩),(1,V 2),(2,.func (.func 52) #[] #[])]=some #[.string ⟨#[114,111,111,116]⟩,V 2,.func (.func 52) #[] #[]]:=Pg
def Zb:Value:=.agg #[.string ⟨#[115,117,98]⟩,V 2,.func (.func 52) #[] #[]]
theorem Ug:Tryz.prog.built 91 [(0,.string ⟨#[115,117,98]⟩),(1,V 2),(2,.func (.func 52) #[] #[])]=some #[.string ⟨#[115,117,98]⟩,V 2,.func (.func 52) #[] #[]]:=Pg
def Zc:Value:=.agg #[.string ⟨#[115,117,112]⟩,V 2,.func (.func 52) #[] #[]]
theorem Uh:Tryz.prog.built 91 [(0,.string ⟨#[115,117,112]⟩),(1,V 2),(2,.func (.func 52) #[] #[])]=some #[.string ⟨#[115,117,112]⟩,V 2,.func (.func 52) #[] #[]]:=Pg
def Zd:Value:=.agg #[.string ⟨#[98,111,116,104]⟩,V 3,.func (.func 52) #[] #[]]
theorem Ui:Tryz.prog.built 91 [(0,.string ⟨#[98,111,116,104]⟩),(1,V 3),(2,.func (.func 52) #[] #[])]=some #[.string ⟨#[98,111,116,104]⟩,V 3,.func (.func 52) #[] #[]]:=Pg
def Vl:Value:=.agg #[.string ⟨#[97,99,99,101,110,116]⟩,V 1,.func (.func 55) #[] #[]]
theorem Qy:Tryz.prog.built 91 [(0,.string ⟨#[97,99,99,101,110,116]⟩),(1,V 1),(2,.func (.func 55) #[] #[])]=some #[.string ⟨#[97,99,99,101,110,116]⟩,V 1,.func (.func 55) #[] #[]]:=Pg
def Vm:Value:=.agg #[.string ⟨#[102,101,110,99,101]⟩,V 1,.func (.func 56) #[] #[]]
theorem Qz:Tryz.prog.built 91 [(0,.string ⟨#[102,101,110,99,101]⟩),(1,V 1),(2,.func (.func 56) #[] #[])]=some #[.string ⟨#[102,101,110,99,101]⟩,V 1,.func (.func 56) #[] #[]]:=Pg
def Vn:Value:=.agg #[.string ⟨#[109,97,116,114,105,120]⟩,V 0,.func (.func 52) #[] #[]]
theorem QA:Tryz.prog.built 91 [(0,.string ⟨#[109,97,116,114,105,120]⟩),(1,V 0),(2,.func (.func 52) #[] #[])]=some #[.string ⟨#[109,97,116,114,105,120]⟩,V 0,.func (.func 52) #[] #[]]:=Pg
def o7:Array Value:=#[E_,V 0,.nilFunc,.string ⟨#[114,111,119]⟩,V 0,.func (.func 52) #[] #[],.string ⟨#[115,121,109]⟩,V 0,.func (.func 41) #[] #[],.string ⟨#[110,117,109]⟩,V 0,.func (.func 53) #[] #[],.string ⟨#[116,101,120,116]⟩,V 0,.func (.func 54) #[] #[],.string ⟨#[102,114,97,99]⟩,V 2,.func (.func 52) #[] #[],.string ⟨#[114,111,111,116]⟩,V 2,.func (.func 52) #[] #[],.string ⟨#[115,117,98]⟩,V 2,.func (.func 52) #[] #[],.string ⟨#[115,117,112]⟩,V 2,.func (.func 52) #[] #[],.string ⟨#[98,111,116,104]⟩,V 3,.func (.func 52) #[] #[],.string ⟨#[97,99,99,101,110,116]⟩,V 1,.func (.func 55) #[] #[],.string ⟨#[102,101,110,99,101]⟩,V 1,.func (.func 56) #[] #[],.string ⟨#[109,97,116,114,105,120]⟩,V 0,.func (.func 52) #[] #[]]
def NU:Array Value:=#[E_,V 0,.nilFunc,E_,V 0,.nilFunc,E_,V 0,.nilFunc,E_,V 0,.nilFunc,E_,V 0,.nilFunc,E_,V 0,.nilFunc,E_,V 0,.nilFunc,E_,V 0,.nilFunc,E_,V 0,.nilFunc,E_,V 0,.nilFunc,E_,V 0,.nilFunc,E_,V 0,.nilFunc,E_,V 0,.nilFunc]
theorem Pd(w:W_):(zeroValue 92).run Tryz.prog w=.ok (.agg NU) w:=Pg
theorem Uj:Tryz.prog.built 92 [(1,Y5),(2,Y6),(3,Y7),(4,Y8),(5,Y9),(6,Za),(7,Zb),(8,Zc),(9,Zd),(10,Vl),(11,Vm),(12,Vn)]=some o7:=Pg
theorem NV:(Tryz.prog.info? 92).map (·.size)=some 39:=Pg
theorem Pe:o7.all (·.oneCell')=true:=Pg
theorem cK{t:TypeId}{cs:Array Value}{ops:Array Oper}{rest:List Oper}{o:Oper}{a:Act}{w:W_}{Q:Exit->Act->W_->Prop}(vs:List (Nat×Value))(hb:Tryz.prog.built t vs=some cs)(xs:Array (Nat×Operand))(hg:o.guard=none)(ho:o.op=.build t xs)
  (hx:(xs.map λp=>(p.1,a.eval p.2))=vs.toArray) (v:Value) (hv:v=.agg cs) (h:wpList Tryz.prog ops Q rest (a.put o.dst v) w):wpList Tryz.prog ops Q (o::rest) a w:=by
 subst hv;refine wpList_plain hg λK hK=>?_
 unfold Oper.wp execOp;simp only[ho,Sem.run_bind,hx];rw[run_build w t vs.toArray _ hb];simp only[Result.andThen_ok];exact hK _ _ h
theorem Ze(w:W_):
  C_ 30 #[] w λe w'=>e=.returned (.agg o7)/\ag w w':=by
 have hz:=Pd;go_enter func30,ntmps30
 go_wp2_with (first
  |(refine cK _ Ua _ rfl rfl rfl Y5 rfl ?_)
  |(refine cK _ Ub _ rfl rfl rfl Y6 rfl ?_)
  |(refine cK _ Uc _ rfl rfl rfl Y7 rfl ?_)
  |(refine cK _ Ud _ rfl rfl rfl Y8 rfl ?_)
  |(refine cK _ Ue _ rfl rfl rfl Y9 rfl ?_)
  |(refine cK _ Uf _ rfl rfl rfl Za rfl ?_)
  |(refine cK _ Ug _ rfl rfl rfl Zb rfl ?_)
  |(refine cK _ Uh _ rfl rfl rfl Zc rfl ?_)
  |(refine cK _ Ui _ rfl rfl rfl Zd rfl ?_)
  |(refine cK _ Qy _ rfl rfl rfl Vl rfl ?_)
  |(refine cK _ Qz _ rfl rfl rfl Vm rfl ?_)
  |(refine cK _ QA _ rfl rfl rfl Vn rfl ?_)
  |(refine cK _ Uj _ rfl rfl rfl (.agg o7) rfl ?_)
  |(refine wpList_store_row rfl 92 _ _ rfl w.heap.size o7 rfl rfl 92 NU aqP NV rfl Pe ?_))
 refine bodyPost_ret (results_cell_row (fn:=Tryz.f30) (p:=0) rfl _ _ w.heap.size 92 o7 (0,0) _ rfl (setRow_heap _ _ _ _ _ _ aqP) underlying92 rfl NV) rfl ?_;exact⟨rfl,((M _ w).alloc _).setRow ET _⟩
end
end Go.Proofs.YtabjglnjjdcfmaaGreatDoor
