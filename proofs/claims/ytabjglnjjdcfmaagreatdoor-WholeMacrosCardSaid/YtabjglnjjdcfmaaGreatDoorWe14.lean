/- Part 14 of 41 of a proof. No condition. -/
import Derived.Test.YtabjglnjjdcfmaaGreatDoorWe13
set_option maxRecDepth 100000
set_option maxHeartbeats 8000000
namespace Go.Proofs.YtabjglnjjdcfmaaGreatDoor
open _root_.List renaming length_cons->au0,length_append->auZ,length_nil->ava,flatMap_append->av9,dropWhile_cons->av8,cons_append->au',all_cons->au9,takeWhile_cons->av2,take_add_one->avq,getElem?_eq_getElem->ave,take_append_drop->awD
open _root_.Nat renaming le_trans->au2,zero_add->au8
open _root_.Go.Proofs.Tryz
section
open Go.RowKit
open Xp (Rs bQ jk eT jl bB nM)
open U (E aJ)
def XA(S:Y_)(g:Nat)(w:W_)(r:Rs (List UInt8×List UInt8))(e:Ending)(w':W_):Prop:=match r with
 |.ok x l' c'=>e=.returned (.agg #[S_ x.1,S_ x.2])/\Touch (λb=>b=g) w w'/\Xr S g l' c' w'
 |.bad l'=>XS S g w l' e w'
theorem af.afL{w:W_}{g:Nat}{t:TypeId}{x0 x1:Value}(h:af w g t #[x0,x1]):
  w.cell? (B_ g 0)=some x0/\w.cell? (B_ g 1)=some x1/\w.frozen? (B_ g 0)=false/\w.frozen? (B_ g 1)=false/\g<w.heap.size:=⟨h.cell 0,h.cell 1,h.frozen 0,h.frozen 1,h.lt⟩
def Ca(nm:List UInt8)(c:Nat):Rs (List UInt8)->Rs (List UInt8×List UInt8)
 |.bad l4=>.bad l4
 |.ok v l4 _=>.ok (nm,v) (l4.drop 1) c
def Eh(nm:List UInt8)(c:Nat):Rs Unit->Rs (List UInt8×List UInt8)
 |.bad l3=>.bad l3
 |.ok _ l3 _=>Ca nm c (Xp.iZ 34 c [] l3)
def adX(aM:aJ)(nm:List UInt8)(c:Nat):List UInt8->Rs (List UInt8×List UInt8)
 |[]=>.bad []
 |b::l2=>if b≠61\/aM.any (λx=>x.1==nm)=true then .bad (b::l2)else Eh nm c (bB 34 c l2)
theorem G8{aM:aJ}{c:Nat}{l l1:List UInt8}(h:nM c l=.bad l1):Xp.gM aM c l=.bad l1:=by unfold Xp.gM;rw[h]
theorem Fb{aM:aJ}{c:Nat}{l nm l1:List UInt8}{c1:Nat}(h:nM c l=.ok nm l1 c1):Xp.gM aM c l=adX aM nm c l1:=by
 unfold Xp.gM;rw[h];cases l1 with
 |nil=>rfl
 |cons b l2=>
  show(if _ then _ else _)=(if _ then _ else _);split
  .rfl
  .cases he:bB 34 c l2 with
   |bad l3=>rfl
   |ok u l3 c3=>
    cases ht:jl 34 c (l3.length+1) [] l3 with
    |bad l4=>simp only[Eh,Ca,Xp.iZ,ht]
    |ok v l4 c4=>simp only[Eh,Ca,Xp.iZ,ht]
theorem ZQ{c:Nat}{l x l1:List UInt8}{c1:Nat}(h:nM c l=.ok x l1 c1):c1=c:=by
 cases l with
 |nil=>cases h
 |cons b l=>
  have h:(if U.D8 b=true then Rs.ok ((b::l).takeWhile U.inner) ((b::l).dropWhile U.inner) c else .bad (b::l))=.ok x l1 c1:=h;split at h
  .cases h;rfl
  .cases h
theorem ZR(S:Y_)(g c:Nat)(l:List UInt8)(aM:aJ)(va:Value)(w:W_)(hS:S.size<=1099511627776)(has:dz (λb=>b=g) w λW=>gJ W aM va)(h:Xr S g l c w):C_ 115 #[.pointer (A_ g 0),va] w λe w'=>XA S g w (Xp.gM aM c l) e w':=by
 have HX:=I h;have HAS:=I has;have hg0:=h.lt;obtain⟨A0,ca0,aa⟩:=has.now.slice;subst aa;clear h has;have jQ:=I ((M (λ_=>False) w).alloc (.cells #[E_,E_] 142));have jV:=I (af.new w 142 #[E_,E_]);cases aI:nM c l with
 |bad l1=>
  have dB:=I (show Xp.gM aM c l=.bad l1 from G8 aI);go_enter func115,ntmps115;go_wp2_with fail
  refine(DC S g c l _ hS (HX.QH jQ)).mono ?_;intro e w1 he;rw[aI]at he;obtain⟨rfl,ht⟩:=he;refine⟨rfl,(?_:XA S g w (Xp.gM aM c l) _ _)⟩;rw[dB.out];exact⟨rfl,(jQ.mono λ_ h=>h.elim).trans ht⟩
 |ok nm l1 c1=>
 have hc1:=ZQ aI;subst hc1;have uf:=I aI;have aO:=I (show Xp.gM aM c1 l=adX aM nm c1 l1 from Fb aI);clear aI;go_enter func115,ntmps115;go_wp2_with fail
 refine(DC S g c1 l _ hS (HX.QH jQ)).mono ?_;intro e w1 he;rw[uf.out]at he;obtain⟨rfl,ht,hx⟩:=he;have je:=I hx;have ay:=I as5;have aL:=I auL;clear ht hx jQ jV HX uf;cases l1 with
 |nil=>
  have dB:=I (show Xp.gM aM c1 l=.bad []from aO);go_wp2_with fail
  refine(xE S g c1 _ je).mono ?_;rintro _ w2 ⟨rfl,ht⟩;refine⟨rfl,(?_:XA S g w (Xp.gM aM c1 l) _ _)⟩;rw[dB.out];exact⟨rfl,ay.trans ht⟩
 |cons b l2=>
 by_cases hb:b=61
 rotate_left
 focus
  have av:((b.toNat:Int) !=(61:Int))=true:=si b 61 hb;have dB:=I (show Xp.gM aM c1 l=.bad (b::l2) by rw[aO.out];exact if_pos (.inl hb));clear hb;go_wp2_with fail
  refine(fG S g c1 b l2 _ je).mono ?_;rintro _ w2 ⟨rfl,hf⟩;have p8:=I (je.QH hf);have ao:=I (ay.trans arp);clear hf;go_wp2_with fail
  refine(qJ S g (b::l2) c1 _ p8).mono ?_;rintro _ w3 ⟨rfl,rfl⟩;refine⟨rfl,(?_:XA S g w (Xp.gM aM c1 l) _ _)⟩;rw[dB.out];exact⟨rfl,ao⟩
 have av:((b.toNat:Int) !=(61:Int))=false:=qC b 61 hb;have aiG:=I hb;clear hb;go_wp2_with fail
 refine(fG S g c1 b l2 _ je).mono ?_;rintro _ w2 ⟨rfl,hf⟩;have p8:=I (je.QH hf);have ao:=I (ay.trans arp);have ar:=I (hf.QN aL λh=>h);clear hf je aL;go_wp2_with fail
 refine(Kj aM nm _ _ (HAS _ ao)).mono ?_;rintro _ w3 ⟨rfl,hf⟩;have p9:=I (p8.QH hf);have aw:=I (ao.trans arp);have an:=I (hf.QN ar λh=>h);clear hf p8 ar ay ao;cases hh:aM.any (λx=>x.1==nm)with
 |true=>
  have dB:=I (show Xp.gM aM c1 l=.bad (b::l2) by rw[aO.out];exact if_pos (.inr hh));go_wp2_with fail
  refine(qJ S g (b::l2) c1 _ p9).mono ?_;rintro _ w4 ⟨rfl,rfl⟩;refine⟨rfl,(?_:XA S g w (Xp.gM aM c1 l) _ _)⟩;rw[dB.out];exact⟨rfl,aw⟩
 |false=>
 have ab:=I (show Xp.gM aM c1 l=Eh nm c1 (bB 34 c1 l2) by
  rw[aO.out];exact if_neg (by rintro(h|h);exact h aiG;rw[hh]at h;cases h))
 clear aO hh;obtain⟨q0,q1,q2,f0,f1,f2,hg⟩:=fM p9.QN;have hle:=p9.len;have hw:IntKind.i64.wrap (((S.size-(b::l2).length:Nat):Int)+1)=((S.size-(b::l2).length:Nat):Int)+1:=IntWalk.i64_in _ Zo;have tZ:=I p9.wG;have nU:=I (aw.setCell (p:=B_ g 1) Wh (V (((S.size-(b::l2).length:Nat):Int)+1)));have ac:=I (an.far (p:=B_ g 1) aih (V (((S.size-(b::l2).length:Nat):Int)+1)));generalize S.size-(b::l2).length=k at*;go_wp2_with fail
 generalize (w3.setCell (B_ g 1) (V ((k:Int)+1)))=w4 at tZ nU ac|-;clear q0 q1 q2 f0 f1 f2 hg hle hw p9 aw an;have afM:=I (show C_ 73 #[.pointer (A_ g 0),.int .u8 34] w4 λe w'=>XU S g w4 (bB 34 c1 l2) e w' from qY S g c1 34 l2 w4 hS tZ);refine afM.mono ?_;intro e w5 he;cases hr:bB 34 c1 l2 with
 |bad l3=>
  have dB:=I (show Xp.gM aM c1 l=.bad l3 by rw[ab.out,hr];rfl);rw[hr]at he;obtain⟨rfl,ht⟩:=he;refine⟨rfl,(?_:XA S g w (Xp.gM aM c1 l) _ _)⟩;rw[dB.out];exact⟨rfl,nU.trans ht⟩
 |ok u l3 c3=>
 have hc3:=uF hr;subst hc3;have ad:=I (show Xp.gM aM c3 l=Ca nm c3 (Xp.iZ 34 c3 [] l3) by rw[ab.out,hr];rfl);rw[hr]at he;obtain⟨rfl,ht,hx⟩:=he;have iR:=I hx;have iW:=I (nU.trans ht);have CS:=I (ht.QN ac λh=>by omega);have hbase:w.heap.size+1<=w5.heap.size:=by have:=CS.lt;omega
 clear ht hx hr tZ nU ac ab afM;obtain⟨c,rfl⟩:∃c,c=c3:=⟨_,rfl⟩;go_wp2
 go_loopw [6] (λv wr=>∃(acc l1:List UInt8) (A:Option Addr) (n cp:Nat),v=.slice A n cp/\Hd (acc.length=n)/\n<=1000/\Hd (Xp.iZ 34 c [] l3=Xp.iZ 34 c acc l1)/\Hd (lQ (w.heap.size+1) wr acc (.slice A n cp))/\Hd (Touch (λb=>b=g) w wr)/\Hd (Xr S g l1 c wr)/\Hd (af wr w.heap.size 142 #[E_,E_])) (λ_ wr=>S.size-posOf g wr)
 case atStart=>exact⟨[],l3,none,0,0,rfl,I rfl,by omega,I rfl,lQ.nil hbase,iW,iR,CS⟩
 case round=>
  obtain⟨acc,l1,A,n,cp,rfl,wH,hn,kJ,HG,HT,HX,HR⟩:=hrel;rename_i wr _;have HP:=I (lN HX);have aK:=HX.lt;cases l1 with
  |nil=>
   have dB:=I (show Xp.gM aM c l=.bad [] by rw[ad.out,kJ.out,Xp.CZ];rfl);go_wp2_with fail
   refine(xE S g c _ HX).mono ?_;rintro _ w9 ⟨rfl,sI⟩;refine⟨rfl,(?_:XA S g w (Xp.gM aM c l) _ _)⟩;rw[dB.out];exact⟨rfl,HT.trans sI⟩
  |cons b l2=>
   by_cases hb:b=34
   .have av:((b.toNat:Int) !=(34:Int))=false:=qC b 34 hb
    have Oj:=I (show Xp.iZ 34 c [] l3=.ok acc (34::l2) c by rw[kJ.out,hb];exact Xp.C8 34 c acc l2);have aF:=I hb;clear hb;go_wp2_with fail
    refine(fG S g c b l2 _ HX).mono ?_;rintro _ w9 ⟨rfl,iT⟩;have qb:=I (HX.QH iT);have lS:=I akQ;have Rk:=I (iT.QN HR λh=>h);have qL:=I (HG.QH iT);have dB:=I (show Xp.gM aM c l=.ok (nm,acc) l2 c by rw[ad.out,Oj.out];rfl);clear iT;obtain⟨q0,q1,q2,f0,f1,f2,hg⟩:=fM qb.QN;have hle:=qb.len;have hw:IntKind.i64.wrap (((S.size-(b::l2).length:Nat):Int)+1)=((S.size-(b::l2).length:Nat):Int)+1:=IntWalk.i64_in _ Zo;have AB:=I qb.wG;have sJ:=I (lS.setCell (p:=B_ g 1) Wh (V (((S.size-(b::l2).length:Nat):Int)+1)));have z8:=I (Rk.far (p:=B_ g 1) aih (V (((S.size-(b::l2).length:Nat):Int)+1)));have hcv:=(qL.mv ((M (λb=>b=g) w9).setCell (p:=B_ g 1) Wh (V (((S.size-(b::l2).length:Nat):Int)+1))) λk hk _=>by omega).str wH;generalize S.size-(b::l2).length=k at*;obtain⟨y0,y1,z0,z1,hgr⟩:=af.afL Rk;have akX:w.heap.size≠g:=Zo
    have akG:g≠w.heap.size:=Zo
    go_wp2_with fail
    have al:=I (show af _ w.heap.size 142 #[S_ nm,S_ acc]from(z8.put 0 (S_ nm)).put 1 (S_ acc));have Ol:=I (((M (λk=>k=w.heap.size) (w9.setCell (B_ g 1) (V ((k:Int)+1)))).setCell (p:=B_ w.heap.size 0) Wh (S_ nm)).setCell (p:=B_ w.heap.size 1) Wh (S_ acc));obtain⟨r0,r1,_⟩:=af.afL al;refine bodyPost_ret (v:=.agg #[S_ nm,S_ acc]) (by simp[results,results115,go_sem,r0,r1]) rfl ?_;rw[dB.out];exact⟨rfl,sJ.trans' Ol λk hk=>.inr Zo,AB.move Ol Zo⟩
   .have av:((b.toNat:Int) !=(34:Int))=true:=si b 34 hb
    cases hr:jk n c (b::l2)with
    |bad l7=>
     have dB:=I (show Xp.gM aM c l=.bad l7 by rw[ad.out,kJ.out,Xp.G7 hb (by rw[wH.out];exact hr)];rfl);clear hb;go_wp2_with fail
     refine(fG S g c b l2 _ HX).mono ?_;rintro _ w9 ⟨rfl,iT⟩;have qb:=I (HX.QH iT);have lS:=I akQ;clear iT;go_wp2_with fail
     refine(G5 S g c n (b::l2) _ hS Zo qb).mono ?_;intro e w3 he;rw[hr]at he;obtain⟨rfl,ht⟩:=he;refine⟨rfl,(?_:XA S g w (Xp.gM aM c l) _ _)⟩;rw[dB.out];exact⟨rfl,lS.trans ht⟩
    |ok x l7 c7=>
     have ZB:=I (show Xp.iZ 34 c [] l3=Xp.iZ 34 c (acc++[x]) l7 by rw[kJ.out];exact Xp.AU hb (by rw[wH.out];exact hr));have aE:=Xp.Vx hr;have hlt:=Xp.BZ hr;have aP:=Xp.Oi hr;subst aP;have ah:=I hr;have G9:=I hlt;clear hb hr hlt;go_wp2_with fail
     refine(fG S g c7 b l2 _ HX).mono ?_;rintro _ w9 ⟨rfl,iT⟩;have qb:=I (HX.QH iT);have lS:=I akQ;have qL:=I (HG.QH iT);have Rk:=I (iT.QN HR λh=>h);clear iT;go_wp2_with fail
     refine(G5 S g c7 n (b::l2) _ hS Zo qb).mono ?_;intro e w3 he;rw[ah.out]at he;obtain⟨rfl,ht,hx⟩:=he;have p9:=I (hx.QH ((M _ w3).alloc (.cells #[.int .u8 (x.toNat:Int)] 5)));have aw:=I ((lS.trans ht).alloc (.cells #[.int .u8 (x.toNat:Int)] 5));have ZT:=I aq6;have kW:=I (af.new w3 5 #[.int .u8 (x.toNat:Int)]);have an:=I ((ht.QN Rk λh=>by omega).alloc (.cells #[.int .u8 (x.toNat:Int)] 5));clear ht hx
     go_wp2_with (at_builtin;go_loud (refine wpList_append_byte rfl (.tmp 31) (.tmp 36) rfl ZT wH WH x kW WH Zo ?_);intro A8 c8 w8 jI bR;refine jw.mk ?_)
     have HOW:=I ZT.pY;have LK:=I (p9.move bR λh=>by have:=(HOW _ h).1;omega);have Cb:=I atc;have wI:=I jI;have ZU:=I (bR.QN an λh=>by have:=(HOW _ h).1;omega);have HM:=I (lN LK);clear jI bR;refine jw.go ?_;go_wp2
     go_roundw
     case rel=>exact⟨acc++[x],l7,A8,n+1,c8,rfl,I arY,by omega,ZB,wI,Cb,LK,ZU⟩
     case measure=>
      exact asz
end
section
open Go.RowKit
open Xp (Rs bQ jk jl)
open U (E aJ)
namespace Xp
theorem Om(q:UInt8)(c:Nat):∀(m:Nat) (l acc v l2:List UInt8) (c2:Nat),l.length<=m->iZ q c acc l=.ok v l2 c2->v.length+l2.length<=acc.length+l.length:=by
 intro m
 induction m with
 |zero=>
  intro l acc v l2 c2 hm h;have:l=[]:=List.length_eq_zero_iff.1 Zo;subst this;rw[CZ]at h;cases h
 |succ m ih=>
  intro l acc v l2 c2 hm h;cases l with
  |nil=>rw[CZ]at h;cases h
  |cons b l=>
   by_cases hb:b=q
   .subst hb
    rw[C8]at h;cases h;exact Nat.le_refl _
   .cases hc:jk acc.length c (b::l)with
    |bad l3=>rw[G7 hb hc]at h;cases h
    |ok x l3 c3=>
     rw[AU hb hc]at h;have h1:=BZ hc;rw[au0]at hm h1|-;have:=ih l3 (acc++[x]) v l2 c2 Zo h;exact ar3
end Xp
theorem He{c:Nat}{l x l1:List UInt8}{c1:Nat}(h:Xp.nM c l=.ok x l1 c1):x.length<=l.length/\l1.length<=l.length:=by
 cases l with
 |nil=>cases h
 |cons b l=>
  have h:(if U.D8 b=true then Rs.ok ((b::l).takeWhile U.inner) ((b::l).dropWhile U.inner) c else .bad (b::l))=.ok x l1 c1:=h;split at h
  .cases h
   have h1:((b::l).takeWhile U.inner++(b::l).dropWhile U.inner).length=(b::l).length:=by rw[List.takeWhile_append_dropWhile]
   rw[auZ]at h1;omega
  .cases h
theorem ZV{aM:aJ}{c:Nat}{l:List UInt8}{x:List UInt8×List UInt8}{l1:List UInt8}{c1:Nat}(h:Xp.gM aM c l=.ok x l1 c1):x.1.length<=l.length/\x.2.length<=l.length/\c1=c:=by
 cases hn:Xp.nM c l with
 |bad l2=>rw[G8 hn]at h;cases h
 |ok nm l2 c2=>
  rw[Fb hn]at h;have hl:=He hn;cases l2 with
  |nil=>cases h
  |cons b l3=>
   have h:(if b≠61\/aM.any (λx=>x.1==nm)=true then Rs.bad (b::l3)else Eh nm c (Xp.bB 34 c l3))=.ok x l1 c1:=h;split at h
   .cases h
   .cases he:Xp.bB 34 c l3 with
    |bad l4=>rw[he]at h;cases h
    |ok u l4 c4=>
     rw[he]at h;have h:Ca nm c (Xp.iZ 34 c [] l4)=.ok x l1 c1:=h;have h4:=(Xp.pW 34 c l3).len;rw[he]at h4;have h4:l4.length<=l3.length:=h4;cases ht:Xp.iZ 34 c [] l4 with
     |bad l5=>rw[ht]at h;cases h
     |ok v l5 c5=>
      rw[ht]at h;cases h;have h5:=Xp.Om 34 c _ l4 [] v l5 c5 PD ht;have h6:=hl.2;simp only[au0,ava]at h5 h6;exact⟨hl.1,by show v.length<=_;omega,rfl⟩
def Cc(aM:aJ):List Value:=aM.flatMap λx=>[S_ x.1,S_ x.2]
theorem LM:∀(aM:aJ) (i:Nat) (hi:i<aM.length),(Cc aM)[i*2]?=some (S_ aM[i].1)/\(Cc aM)[i*2+1]?=some (S_ aM[i].2)
 |[],i,h=>by simp at h
 |x::l,0,_=>⟨rfl,rfl⟩
 |x::l,i+1,h=>by
  have:=LM l i aiu;rw[show(i+1)*2=i*2+2 by omega,show i*2+2+1=i*2+1+2 by omega];exact this
def nN(B:Nat)(w:W_)(aM:aJ)(v:Value):Prop:=B<=w.heap.size/\(∀x∈aM,x.1.length<=maxLen/\x.2.length<=maxLen)/\w.ownsRow B 142 2 v aM.length (Cc aM)
theorem nN.nil{B:Nat}{w:W_}(hB:B<=w.heap.size):nN B w [] (N_):=⟨hB,aub,World.ownsRow_nil _ _ _ _⟩
theorem nN.pY{B:Nat}{w:W_}{aM:aJ}{v:Value}(h:nN B w aM v):∀k,v.ownBlock=some k->B<=k/\k<w.heap.size:=λk hk=>h.2.2.lt k hk
theorem nN.mv{B:Nat}{w w1:W_}{aM:aJ}{v:Value}{S:Nat->Prop}(h:nN B w aM v)(ht:Touch S w w1)(hS:∀k,S k->k<w.heap.size->k<B):nN B w1 aM v:=by
 refine⟨au2 h.1 ht.size,h.2.1,aQ h.2.2 ht λk hk hs=>?_⟩;have h3:=h.2.2.lt k hk;have:=hS k hs h3.2;omega
theorem nN.QH{B:Nat}{w w1:W_}{aM:aJ}{v:Value}(h:nN B w aM v)(ht:ag w w1):nN B w1 aM v:=h.mv ht λ_ h=>h.elim
theorem nN.rep{B:Nat}{w:W_}{aM:aJ}{v:Value}(h:nN B w aM v):gJ w aM v:=by
 obtain⟨_,hx,ho⟩:=h
 rcases ho.2 with⟨rfl,h0⟩|⟨g,cap,cur,rfl,hB,hb,h1,h2,_⟩
 .have:aM=[]:=List.length_eq_zero_iff.1 h0
  subst this;exact gJ.nil _ _ _
 .refine⟨_,cap,rfl,⟨au2 h1 h2,h1⟩,hx,.inr ⟨g,0,rfl,(ho.lt g rfl).2,λi hi=>?_⟩⟩
  obtain⟨c0,c1⟩:=LM aM i hi;have e0:=ho.cells (g:=g) rfl _ _ c0;have e1:=ho.cells (g:=g) rfl _ _ c1;rw[Addr.add_mid,au8]at e0 e1;rw[au8];exact⟨e0,e1⟩
theorem nN.acf{B:Nat}{w:W_}{aM:aJ}{v:Value}(h:nN B w aM v):dz (λk=>k<B) w λW=>gJ W aM v:=λ_ hW=>(h.mv hW λ_ h _=>h).rep
section
variable {w:World} {ops:Array Oper} {rest:List Oper} {o:Oper} {a:Act} {Q:Exit→Act→World→Prop}
theorem Hf(hgd:o.guard=none)(s x:Operand)
  (ho:o.op=.call {callee:=.builtin .append,args:=#[s,x],argTypes:=#[59,59]})
  {B n g:Nat} {aM:aJ} {v:Value} (h:nN B w aM v) (hn:aM.length=n) (hs:a.eval s=v) (y:List UInt8×List UInt8) (hy:y.1.length<=maxLen/\y.2.length<=maxLen) (hb:af w g 142 #[S_ y.1,S_ y.2]) (hx:a.eval x=.slice (A_ g 0) 1 1) (hlen:n<2^40)
  (hK:∀A cp w',nN B w' (aM++[y]) (.slice A (n+1) cp)->Touch (λk=>v.ownBlock=some k) w w'->wpList Tryz.prog ops Q rest (a.put o.dst (.slice A (n+1) cp)) w'):wpList Tryz.prog ops Q (o::rest) a w:=by
 subst hn;obtain⟨ac,hall,h1⟩:=h;obtain⟨i,hi,hz0,hz1,hz2⟩:=info_parts ab9;refine iL _ hgd s x 59 ho B 142 i _ 2 32 underlying59 hi hz0 hz1 hz2 rfl Pf v aM.length (Cc aM) hs h1 _ 1 _ hx asR aqU vG Zo ac λv' w' ho' hgr hv'=>?_
 obtain⟨A,cp,rfl⟩:=mK ho';have ht:Touch (λk=>v.ownBlock=some k) w w':=Touch.grown afD hgr λk hk=>.inl hk
 refine hK A cp w' ⟨au2 ac hgr.size,λz hz=>?_,?_⟩ ht
 .rcases List.mem_append.1 hz with hz|hz
  .exact hall z hz
  .rw[List.mem_singleton.1 hz];exact hy
 .rw[auZ]
  have:Cc (aM++[y])=Cc aM++[S_ y.1,S_ y.2]:=by unfold Cc;rw[av9];rfl
  rw[this];exact ho'
end
def zf(w:W_)(g o:Nat)(x0 x1 x2 x3:Value):W_:=(((w.setCell (B_ g o) x0).setCell (B_ g (o+1)) x1).setCell (B_ g (o+2)) x2).setCell (B_ g (o+3)) x3
theorem Ac(w:W_)(g o:Nat)(x0 x1 x2 x3:Value):Touch (λk=>k=g) w (zf w g o x0 x1 x2 x3):=
 ((((M (λk=>k=g) w).setCell (p:=B_ g o) Wh _).setCell (p:=B_ g (o+1)) Wh _).setCell (p:=B_ g (o+2)) Wh _).setCell (p:=B_ g (o+3)) Wh _
theorem ZW{w:W_}{B t g n cap:Nat}{xs:List Value}{z0 z1 z2 z3:Value}(h:w.ownsRow B t 4 (.slice (A_ g 0) (n+1) cap) (n+1) (xs++[z0,z1,z2,z3]))(y0 y1 y2 y3:Value):
  (zf w g (n*4) y0 y1 y2 y3).ownsRow B t 4 (.slice (A_ g 0) (n+1) cap) (n+1) (xs++[y0,y1,y2,y3]):=by
 have hl:xs.length=n*4:=adv
 have h1:=(((((h.stored (n*4) y0).1.stored (n*4+1) y1).1).stored (n*4+2) y2).1.stored (n*4+3) y3).1
 have e:((((xs++[z0,z1,z2,z3]).set (n*4) y0).set (n*4+1) y1).set (n*4+2) y2).set (n*4+3) y3=xs++[y0,y1,y2,y3]:=by
  exact v_
 rw[e]at h1;exact h1
def wJ(B:Nat)(w:W_)(es:List E)(e:E)(va vk v:Value):Prop:=B<=w.heap.size/\∃cs0,w.ownsRow B 62 4 v (es.length+1) (cs0++[E_,N_,N_,E_])/\
 dz (λk=>v.ownBlock=some k\/k<B) w λW=>kC W es cs0/\jd W e va vk
theorem wJ.mv{B:Nat}{w w1:W_}{es:List E}{e:E}{va vk v:Value}{S:Nat->Prop}(h:wJ B w es e va vk v)(ht:Touch S w w1)(hS:∀k,S k->k<w.heap.size->k<B):wJ B w1 es e va vk v:=by
 exact yg
theorem wJ.cells{B n:Nat}{w:W_}{es:List E}{e:E}{va vk v:Value}(h:wJ B w es e va vk v)(hn:es.length=n):∃g cap,v=.slice (A_ g 0) (n+1) cap/\n+1<=cap/\B<=g/\g<w.heap.size/\
  w.cell? (B_ g (n*4))=some (E_)/\w.cell? (B_ g (n*4+1))=some (N_)/\w.cell? (B_ g (n*4+2))=some (N_)/\w.cell? (B_ g (n*4+3))=some (E_)/\
  w.frozen? (B_ g (n*4))=false/\w.frozen? (B_ g (n*4+1))=false/\w.frozen? (B_ g (n*4+2))=false/\w.frozen? (B_ g (n*4+3))=false:=by
 subst hn;obtain⟨hB,cs,h1,h2⟩:=h;have hl:cs.length=es.length*4:=by have:=h1.1;rw[auZ]at this;simp only[au0,ava]at this;omega
 obtain⟨g,cap,rfl,aa,hb⟩:∃g cap,v=.slice (A_ g 0) (es.length+1) cap/\es.length+1<=cap/\B<=g:=by
  rcases h1.2 with⟨_,h0⟩|⟨g,cap,cur,e,hb,_,h5,_⟩
  .omega
  .exact⟨g,cap,e,h5,hb⟩
 have hc:∀i z,([Value.string ⟨#[]⟩,N_,N_,E_])[i]?=some z->i<4->w.cell? (B_ g (es.length*4+i))=some z:=λi z hz a8=>by
  rw[h1.cellAt _ (by omega),List.getElem?_append_right (by omega),show es.length*4+i-cs.length=i by omega];exact hz
 exact⟨g,cap,rfl,aa,hb,(h1.lt g rfl).2,hc 0 _ rfl Zo,hc 1 _ rfl Zo,hc 2 _ rfl Zo,hc 3 _ rfl Zo,h1.frozenAt _,h1.frozenAt _,h1.frozenAt _,h1.frozenAt _⟩
theorem wJ.put{B n:Nat}{w:W_}{es:List E}{e:E}{va vk:Value}{g cap:Nat}(h:wJ B w es e va vk (.slice (A_ g 0) (n+1) cap))(hn:es.length=n):
  fQ B (zf w g (n*4) (S_ e.name) va vk (S_ e.QG)) (es++[e]) (.slice (A_ g 0) (n+1) cap):=by
 subst hn;obtain⟨hB,cs,h1,h2⟩:=h;refine⟨au2 hB (Ac w g _ _ _ _ _).size,_,by rw[auZ];exact ZW h1 _ _ _ _,?_⟩;refine(h2.step (Ac w g _ _ _ _ _) (λi _ hs=>.inl (by subst hs;rfl)) anI).imp λW ⟨g1,g2⟩=>g1.append (kC.one g2)
section
variable {w:World} {ops:Array Oper} {rest:List Oper} {o:Oper} {a:Act} {Q:Exit→Act→World→Prop}
theorem Gd(hgd:o.guard=none)(s x:Operand)
  (ho:o.op=.call {callee:=.builtin .append,args:=#[s,x],argTypes:=#[60,60]})
  {B n g:Nat} {es:List E} {v:Value} (h:fQ B w es v) (hn:es.length=n) (hs:a.eval s=v) (e:E) {va vk:Value} (hb:af w g 62 Z) (hx:a.eval x=.slice (A_ g 0) 1 1)
  (w0:Nat) (hB:B<=w0) (hown:∀k,v.ownBlock=some k->k<w0) (FZ:dz (λk=>k<w0) w λW=>jd W e va vk) (hlen:n<2^40)
  (hK:∀A cp w',wJ B w' es e va vk (.slice A (n+1) cp)->Touch (λk=>v.ownBlock=some k) w w'->wpList Tryz.prog ops Q rest (a.put o.dst (.slice A (n+1) cp)) w'):wpList Tryz.prog ops Q (o::rest) a w:=by
 subst hn;obtain⟨ac,cs,h1,h2⟩:=h;obtain⟨i,hi,hz0,hz1,hz2⟩:=info_parts E8;have h3:∀u∈[Value.string ⟨#[]⟩,N_,N_,E_],u.oneCell'=true:=aqU
 refine iL _ hgd s x 60 ho B 62 i _ 4 80 underlying60 hi hz0 hz1 hz2 rfl Pf v es.length cs hs h1 _ 1 _ hx asR h3 vG Zo ac λv' w' ho' hgr hv'=>?_
 obtain⟨A,cp,rfl⟩:=mK ho';have ht:Touch (λk=>v.ownBlock=some k) w w':=Touch.grown afD hgr λk hk=>.inl hk
 refine hK A cp w' ⟨au2 ac hgr.size,_,ho',?_⟩ ht
 have hS:∀i,i<w.heap.size->((Value.slice A (es.length+1) cp).ownBlock=some i\/i<B)->(v.ownBlock=some i\/i<B):=λi hi hs=>by
  rcases hs with hs|hs
  .rcases hv' with h6|h6<;>rw[h6]at hs
   .exact .inl hs
   .cases hs;omega
  .exact .inr hs
 refine(h2.step ht asy hS).and (FZ.step ht (λi hi hs=>hown i hs) λi hi hs=>?_)
 rcases hS i hi hs with h6|h6
 .exact hown i h6
 .omega
end
end
section
open Go.RowKit
open Xp (Rs bQ Dq bB nM gM nQ dh aR)
open U (E aJ)
namespace Xp
def kg(c:Nat)(aM:aJ)(l:List UInt8):Rs (aJ×Bool):=nQ c (9-aM.length) aM l
theorem vg{c:Nat}{aM:aJ}{l:List UInt8}(h:aM.length<=8):kg c aM l=match l.dropWhile Dq with
  |[]=>.bad []
  |b::l2=>if b=47 then(match bB 62 c l2 with
    |.bad l3=>.bad l3
    |.ok _ l3 _=>.ok (aM,true) l3 c)
   else if b=62 then .ok (aM,false) l2 c
   else if(b::l2).length<l.length/\U.D8 b=true/\aM.length<8 then(match gM aM c (b::l2)with
    |.bad l3=>.bad l3
    |.ok a l3 _=>kg c (aM++[a]) l3)
   else .bad (b::l2):=by
 have h1:9-aM.length=(8-aM.length)+1:=Zo
 have h2:∀a,kg c (aM++[a])=nQ c (8-aM.length) (aM++[a]):=λa=>by
  unfold kg;rw[auZ,show 9-(aM.length+[a].length)=8-aM.length by simp only[au0,ava];omega]
 simp only[h2];unfold kg;rw[h1,nQ];rfl
theorem Xo{c:Nat}{aM:aJ}{l:List UInt8}(h:aM.length<=8)(hd:l.dropWhile Dq=[]):kg c aM l=.bad []:=by rw[vg h,hd]
theorem Pp{c:Nat}{aM:aJ}{l l2 l3:List UInt8}(h:aM.length<=8)(hd:l.dropWhile Dq=47::l2)(he:bB 62 c l2=.bad l3):kg c aM l=.bad l3:=by
 rw[vg h,hd];simp only[if_pos,he]
theorem Hg{c:Nat}{aM:aJ}{l l2 l3:List UInt8}{u:Unit}{c3:Nat}(h:aM.length<=8)(hd:l.dropWhile Dq=47::l2)(he:bB 62 c l2=.ok u l3 c3):kg c aM l=.ok (aM,true) l3 c:=by
 rw[vg h,hd];simp only[if_pos,he]
theorem Hl{c:Nat}{aM:aJ}{l l2:List UInt8}(h:aM.length<=8)(hd:l.dropWhile Dq=62::l2):kg c aM l=.ok (aM,false) l2 c:=by
 rw[vg h,hd];exact(if_neg Pf).trans (if_pos rfl)
theorem DF{c:Nat}{aM:aJ}{l l2:List UInt8}{b:UInt8}(h:aM.length<=8)(hd:l.dropWhile Dq=b::l2)(h1:¬b=47)(h2:¬b=62)(h3:¬((b::l2).length<l.length/\U.D8 b=true/\aM.length<8)):kg c aM l=.bad (b::l2):=by
 rw[vg h,hd];exact(if_neg h1).trans ((if_neg h2).trans (if_neg h3))
theorem Xq{c:Nat}{aM:aJ}{l l2 l3:List UInt8}{b:UInt8}(h:aM.length<=8)(hd:l.dropWhile Dq=b::l2)(h1:¬b=47)(h2:¬b=62)(h3:(b::l2).length<l.length/\U.D8 b=true/\aM.length<8)(ha:gM aM c (b::l2)=.bad l3):kg c aM l=.bad l3:=by
 rw[vg h,hd];refine(if_neg h1).trans ((if_neg h2).trans ((if_pos h3).trans ?_));rw[ha]
theorem JM{c:Nat}{aM:aJ}{l l2 l3:List UInt8}{b:UInt8}{a:List UInt8×List UInt8}{c3:Nat}(h:aM.length<=8)(hd:l.dropWhile Dq=b::l2)(h1:¬b=47)(h2:¬b=62)(h3:(b::l2).length<l.length/\U.D8 b=true/\aM.length<8)(ha:gM aM c (b::l2)=.ok a l3 c3):kg c aM l=kg c (aM++[a]) l3:=by
 rw[vg h,hd];refine(if_neg h1).trans ((if_neg h2).trans ((if_pos h3).trans ?_));rw[ha]
theorem acg{aM:aJ}{c:Nat}{l:List UInt8}{x:List UInt8×List UInt8}{l1:List UInt8}{c1:Nat}(h:gM aM c l=.ok x l1 c1):l1.length<l.length:=by
 cases hn:nM c l with
 |bad l2=>rw[G8 hn]at h;cases h
 |ok nm l2 c2=>
  rw[Fb hn]at h;have hl:=(He hn).2;cases l2 with
  |nil=>cases h
  |cons b l3=>
   have h:(if b≠61\/aM.any (λx=>x.1==nm)=true then Rs.bad (b::l3)else Eh nm c (bB 34 c l3))=.ok x l1 c1:=h;split at h
   .cases h
   .cases he:bB 34 c l3 with
    |bad l4=>rw[he]at h;cases h
    |ok u l4 c4=>
     rw[he]at h;have h:Ca nm c (iZ 34 c [] l4)=.ok x l1 c1:=h;have h4:=(pW 34 c l3).len;rw[he]at h4;have h4:l4.length<=l3.length:=h4;cases ht:iZ 34 c [] l4 with
     |bad l5=>rw[ht]at h;cases h
     |ok v l5 c5=>
      rw[ht]at h;cases h;have h5:=Om 34 c _ l4 [] v l5 c5 PD ht;have h6:(l5.drop 1).length<=l5.length:=by rw[List.length_drop];omega
      simp only[au0,ava]at h5 hl;omega
def C9(n:Nat)(nm:List UInt8)(c:Nat):Rs (aJ×Bool)->Rs E
 |.bad l1=>.bad l1
 |.ok (aM,true) l1 _=>.ok (.mk nm aM [] []) l1 c
 |.ok (aM,false) l1 _=>match dh (aR n) nm l1 c with
  |.bad l2=>.bad l2
  |.ok (ks,t) l2 c2=>.ok (.mk nm aM ks t) l2 c2
theorem ZX{n c:Nat}{nm l l2:List UInt8}{aM:aJ}{c1:Nat}(h:dh (aR n) nm l c=.bad l2):C9 n nm c (.ok (aM,false) l c1)=.bad l2:=by
 show(match dh (aR n) nm l c with|.bad l2=>_|.ok (ks,t) l2 c2=>_)=_;rw[h]
theorem Kn{n c:Nat}{nm l l2 t:List UInt8}{aM:aJ}{ks:List E}{c1 c2:Nat}(h:dh (aR n) nm l c=.ok (ks,t) l2 c2):C9 n nm c (.ok (aM,false) l c1)=.ok (.mk nm aM ks t) l2 c2:=by
 show(match dh (aR n) nm l c with|.bad l2=>_|.ok (ks,t) l2 c2=>_)=_;rw[h]
theorem Vy{n c:Nat}{b:UInt8}{l':List UInt8}(hb:U.D8 b=true)(hc:c<3000):aR (n+1) (b::l') c=C9 n ((b::l').takeWhile U.inner) (c+1) (kg (c+1) [] ((b::l').dropWhile U.inner)):=by
 rw[aR,if_neg (by rintro(h|h);rw[hb]at h;cases h;omega)];show _=C9 n _ (c+1) (nQ (c+1) 9 [] ((b::l').dropWhile U.inner));cases nQ (c+1) 9 [] ((b::l').dropWhile U.inner)with
 |bad l1=>rfl
 |ok p l1 c1=>
  obtain⟨aM,z⟩:=p;cases z with
  |true=>rfl
  |false=>rfl
theorem Rl{n c:Nat}{b:UInt8}{l':List UInt8}(h:U.D8 b=false\/3000<=c):aR (n+1) (b::l') c=.bad (b::l'):=by rw[aR,if_pos h]
theorem Vz{c:Nat}{b:UInt8}{l':List UInt8}(h:U.D8 b=true):nM c (b::l')=.ok ((b::l').takeWhile U.inner) ((b::l').dropWhile U.inner) c:=if_pos h
end Xp
def XE(S:Y_)(g:Nat)(w:W_)(r:Rs E)(e:Ending)(w':W_):Prop:=match r with
 |.ok x l' c'=>∃va vk,e=.returned (ev x va vk)/\Touch (λb=>b=g) w w'/\dz (λk=>k<w.heap.size) w' (λW=>jd W x va vk)/\Xr S g l' c' w'
 |.bad l'=>XS S g w l' e w'
def LP(S:Y_)(g n:Nat):Prop:=∀(d:Int) (l:List UInt8) (c:Nat) (w:W_),d=65-(n:Int)->Xp.ZF (aR n l c)->Xr S g l c w->
 C_ 74 #[.pointer (A_ g 0),V d] w λe w'=>XE S g w (aR n l c) e w'
def XC(S:Y_)(g E0:Nat)(nm:List UInt8)(va:Value)(w:W_)(r:Rs (List E×List UInt8))(e:Ending)(w':W_):Prop:=match r with
 |.ok x l' c'=>e=.returned (.tuple #[])/\∃A n cp,af w' E0 62 #[S_ nm,va,.slice A n cp,S_ x.2]/\x.2.length<=maxLen/\
   dz (λk=>k<w.heap.size) w' (λW=>gK W x.1 (.slice A n cp))/\Touch (λb=>b=g\/b=E0) w w'/\Xr S g l' c' w'
 |.bad l'=>e=.panicked (flt (S.size-l'.length))/\Touch (λb=>b=g\/b=E0) w w'
def adY(S:Y_)(g n:Nat):Prop:=∀(d:Int) (nm:List UInt8) (va:Value) (E0:Nat) (l:List UInt8) (c:Nat) (w:W_),d=64-(n:Int)->nm.length<=S.size->E0≠g->
 af w E0 62 #[S_ nm,va,N_,E_]->Xp.ZF (dh (aR n) nm l c)->Xr S g l c w->
 C_ 114 #[.pointer (A_ g 0),.pointer (A_ E0 0),V d] w λe w'=>XC S g E0 nm va w (dh (aR n) nm l c) e w'
end
section
open Go.RowKit
open Xp (Rs bQ Dq bB nM gM nQ dh aR kg C9)
open U (E aJ)
attribute [local go_sem] gD stillUpon
theorem ach{g B:Nat}{w:W_}{aM:aJ}{v:Value}(h:nN B w aM v)(hg:g<B):dz (λb=>b=g) w λW=>gJ W aM v:=h.acf.mono λi _ hi=>by subst hi;exact hg
theorem ZY(S:Y_)(g:Nat):LP S g 0:=λ_ l c _ _ ab _=>Xp.sF (l:=l) ab (by rw[aR])
theorem LQ{S:Y_}{g c2:Nat}{nm t l:List UInt8}{aM:aJ}{ks:List E}{w w7:W_}{va vk:Value}(_hR:af w7 w.heap.size 62 Z)(ht:Touch (λb=>b=g) w w7)(hx:Xr S g l c2 w7)
  (aa:dz (λk=>k<w.heap.size+1) w7 λW=>gJ W aM va) (ac:dz (λk=>k<w.heap.size+1) w7 λW=>gK W ks vk) (aP:nm.length<=maxLen) (au:t.length<=maxLen) (hg:g<w.heap.size):
  XE S g w (.ok (.mk nm aM ks t) l c2) (.returned (.agg #[S_ nm,va,vk,S_ t])) (aO w7 w.heap.size (S_ nm) va vk (S_ t)):=by
 have fA:=(M (λk=>k=w.heap.size) w7).aO (g:=w.heap.size) Wh (S_ nm) va vk (S_ t);refine⟨va,vk,rfl,ht.aO ET _ _ _ _,?_,hx.move fA Zo⟩;refine((aa.and ac).step fA (λi _ hi=>?_) λi _ hi=>?_).imp λW h=>⟨h.1,h.2,aP,au⟩
 .show i<w.heap.size+1;omega
 .show i<w.heap.size+1;omega
theorem Xt(S:Y_)(g n:Nat)(hS:S.size<=1099511627776)(hn:n<64)(ah:adY S g n):LP S g (n+1):=by
 intro d l c w hd ab h;have jJ:=I ab;have HX:=I h;have HC:=I ah;have aH:decide ((64:Int)<d)=false:=dF Zo;have aZ:¬(64:Int)<d:=Zo
 have HD:=I (show d=64-(n:Int) by omega);have hg0:=h.lt;have jQ:=I ((M (λ_=>False) w).alloc (.cells Z 62));have jV:=I (af.new w 62 Z);have aa:=I (HX.QH jQ);clear h hd ah hn ab;cases l with
 |nil=>
  exact Xp.sF jJ (by rw[aR])
 |cons b l'=>
  cases hb:U.D8 b with
  |false=>
   exact Xp.sF jJ (Xp.Rl (.inl hb))
  |true=>
   by_cases hc:3000<=c
   .exact Xp.sF jJ (Xp.Rl (.inr hc))
   .have ug:=I (Xp.Vy (n:=n) (c:=c) (l':=l') hb Zo)
    have uf:=I (Xp.Vz (c:=c+1) (l':=l') hb);have hc2:decide ((3000:Int)<=(c:Int))=false:=dF Zo;have hwc:IntKind.i64.wrap ((c:Int)+1)=(c:Int)+1:=IntWalk.i64_in _ Zo;clear hc;go_enter func74,ntmps74;go_wp2_with fail
    refine(fG S g c b l' _ aa).mono ?_;rintro _ w1 ⟨rfl,hf⟩;have je:=I (aa.QH hf);have aK:=I (jQ.trans hf);have aL:=I (hf.QN jV λh=>h);obtain⟨q0,q1,q2,f0,f1,f2,hg⟩:=fM je.QN;clear hf HX aa jQ jV;go_wp2_with fail
    refine(pX b _).mono ?_;rintro _ w2 ⟨rfl,hw⟩;subst hw;go_wp2_with fail
    have p8:=I (show Xr S g (b::l') (c+1) (w2.setCell (B_ g 2) (V ((c:Int)+1)))from⟨je.QN.put 2 _,je.Ef⟩);have ao:=I (show Touch (λb=>b=g) w (w2.setCell (B_ g 2) (V ((c:Int)+1)))from Touch.setCell (p:=B_ g 2) (show Touch (λb=>b=g) w w2 from aK.mono λ_ h=>h.elim) Wh _);have ar:=I (aL.far (p:=B_ g 2) aih (V ((c:Int)+1)));generalize (w2.setCell (B_ g 2) (V ((c:Int)+1)))=w2b at p8 ao ar|-;clear q0 q1 q2 f0 f1 f2 hg je aK aL hwc hc2;refine(DC S g (c+1) (b::l') _ hS p8).mono ?_;intro e w3 he;have wH:=I (He uf);rw[uf.out]at he;obtain⟨rfl,ht,hx⟩:=he;have p9:=I hx;have aw:=I (ao.trans ht);have an:=I (ht.QN ar λh=>by omega);have av:=I p8.len;clear ht hx hb p8 ao ar uf;generalize (b::l').takeWhile U.inner=nm at*;generalize (b::l').dropWhile U.inner=l1 at*;obtain⟨E0,al⟩:∃b,b=w3.heap.size:=⟨_,rfl⟩;have F7:=I al;have aj:w.heap.size<E0:=by have:=an.lt;omega
    clear al;go_wp2_with fail
    rw[<-F7.out]
    refine bK (λW=>Touch (λb=>b=g) w W/\Xr S g l1 (c+1) W/\af W w.heap.size 62 Z/\af W E0 62 #[S_ nm,N_,N_,E_]/\E0+1<=W.heap.size)
     ⟨aw.alloc _,p9.QH Q_,an.alloc _,by rw[F7.out];exact af.new _ _ _,by rw[F7.out];simp⟩ ?_
    rintro W1 ⟨ad,hx1,hr1,aq,hs1⟩;have ay:=I ad;have je:=I hx1;have aL:=I hr1;have aC:=I aq;have Da:=I (nN.nil (w:=W1) hs1);clear ad hx1 hr1 aq hs1 aw p9 an F7
    go_loopw [] (λwr=>∃(aM:aJ) (l1:List UInt8) (A:Option Addr) (n1 cp:Nat),Hd (aM.length=n1)/\n1<=8/\Hd (aR (n+1) (b::l') c=C9 n nm (c+1) (kg (c+1) aM l1))/\Hd (af wr E0 62 #[S_ nm,.slice A n1 cp,N_,E_])/\
     Hd (nN (E0+1) wr aM (.slice A n1 cp))/\Hd (Touch (λb=>b=g) w wr)/\Hd (Xr S g l1 (c+1) wr)/\Hd (af wr w.heap.size 62 Z)) (λwr=>S.size-posOf g wr)
    case atStart=>exact⟨[],l1,none,0,0,I rfl,Nat.zero_le _,ug,aC,Da,ay,je,aL⟩
    case round=>
     clear ug aC Da ay je aL;obtain⟨aM,l1,A,n1,cp,JN,ag,ug,HB,HG,HT,HX,HR⟩:=hrel;rename_i wr _;have HP:=I (lN HX);have LU:=I (show aM.length<=8 by rw[JN.out];exact ag);have hsz:=HT.size;have am:=HB.lt;have Oo:E0≠g:=Zo
     cases hd:l1.dropWhile Dq with
     |nil=>
      exact Xp.sF jJ (by rw[ug.out,Xp.Xo LU.out hd];rfl)
     |cons b2 l2=>
      have ae:=I hd;have aE:=I (show(b2::l2).length<=l1.length by rw[<-hd];exact(bQ.len (Xp.bQ.dropWhile Dq l1)));clear hd;go_wp2_with fail
      refine(vW S g (c+1) l1 _ hS HX).mono ?_;rintro _ w4 ⟨rfl,ht,hx⟩;rw[ae.out]at hx|-;have tZ:=I hx;have nU:=I (HT.trans ht);have ac:=I (ht.QN HR λh=>by omega);have iB:=I (ht.QN HB λh=>by omega);have a3:=I (HG.mv ht λk hk _=>by omega);clear ht hx;obtain⟨z,hz⟩:∃z,decide ((b2::l2).length<l1.length)=z:=⟨_,rfl⟩;rw[hz];have HZ:=I hz;clear hz;go_wp2_with fail
      refine(fG S g (c+1) b2 l2 _ tZ).mono ?_;rintro _ w5 ⟨rfl,hf⟩;have iR:=I (tZ.QH hf);have iW:=I (nU.trans arp);have CS:=I (hf.QN ac λh=>h);have eO:=I (hf.QN iB λh=>h);have xG:=I (a3.QH hf);clear hf tZ nU ac iB a3 HX HT HR HB HG
      by_cases ai:b2=47
      .have aci:((b2.toNat:Int)==(47:Int))=true:=by rw[ai];rfl
       have afN:=I (show l1.dropWhile Dq=47::l2 by rw[ae.out,ai]);clear ai;obtain⟨q0,q1,q2,f0,f1,f2,hg⟩:=fM iR.QN;have hle:=iR.len;have hw:IntKind.i64.wrap (((S.size-(b2::l2).length:Nat):Int)+1)=((S.size-(b2::l2).length:Nat):Int)+1:=IntWalk.i64_in _ Zo;have iJ:=I iR.wG;have iC:=I asA;have Ei:=I asS;have gy:=I asT;have wK:=I aqt;generalize S.size-(b2::l2).length=k at*;go_wp2_with fail
       generalize (w5.setCell (B_ g 1) (V ((k:Int)+1)))=w6 at iJ iC Ei gy wK|-;clear q0 q1 q2 f0 f1 f2 hg hle hw iR iW CS eO xG;have Xl:=I (show C_ 73 #[.pointer (A_ g 0),.int .u8 62] w6 λe w'=>XU S g w6 (bB 62 (c+1) l2) e w' from qY S g (c+1) 62 l2 w6 hS iJ);refine Xl.mono ?_;intro e w7 he;cases hr:bB 62 (c+1) l2 with
       |bad l3=>
        exact Xp.sF jJ (by rw[ug.out,Xp.Pp LU.out afN.out hr];rfl)
       |ok u l3 c3=>
        have hc3:=uF hr;subst hc3;have dB:=I (show aR (n+1) (b::l') c=.ok (.mk nm aM [] []) l3 (c+1) by rw[ug.out,Xp.Hg LU.out afN.out hr];rfl);rw[hr]at he;obtain⟨rfl,ht,hx⟩:=he;have oh:=I hx;have jy:=I (iC.trans ht);have JO:=I (ht.QN Ei λh=>by omega);have vv:=I (ht.QN gy λh=>by omega);have Ej:=I (wK.mv ht λk hk _=>by omega);clear ht hx hr iJ iC Ei gy wK Xl;have ZZ:=I (LQ (c2:=c+1) (nm:=nm) (aM:=aM) (ks:=[]) (t:=[]) JO jy oh (Ej.acf.mono λi _ hi=>by omega) (λW _=>gK.nil none 0) atx JI hg0);obtain⟨e0,e1,e2,e3,_,_,_,_,_⟩:=af.QM vv;obtain⟨_,_,_,_,z0,z1,z2,z3,ax⟩:=af.QM JO;obtain⟨t0,t1,t2,t3,_,_,_,_,_⟩:=af.QM (JO.gH (S_ nm) (.slice A n1 cp) (N_) (E_));simp only[aO]at t0 t1 t2 t3;go_wp2
        refine bodyPost_ret (v:=.agg #[S_ nm,.slice A n1 cp,N_,E_]) auo rfl ?_;rw[dB.out];exact ZZ
      .by_cases VA:b2=62
       .have aci:((b2.toNat:Int)==(47:Int))=false:=by rw[show((b2.toNat:Int)==(47:Int))=(b2==47)from Eg b2 47,beq_eq_false_iff_ne];exact ai
        have afO:((b2.toNat:Int)==(62:Int))=true:=by rw[VA];rfl
        have afP:=I (show kg (c+1) aM l1=.ok (aM,false) l2 (c+1)from Xp.Hl LU (by rw[ae.out,VA]));clear ai VA;obtain⟨q0,q1,q2,f0,f1,f2,hg⟩:=fM iR.QN;have hle:=iR.len;have hw:IntKind.i64.wrap (((S.size-(b2::l2).length:Nat):Int)+1)=((S.size-(b2::l2).length:Nat):Int)+1:=IntWalk.i64_in _ Zo;have iJ:=I iR.wG;have iC:=I asA;have Ei:=I asS;have gy:=I asT;have wK:=I aqt;generalize S.size-(b2::l2).length=k at*;go_wp2_with fail
        generalize (w5.setCell (B_ g 1) (V ((k:Int)+1)))=w6 at iJ iC Ei gy wK|-;clear q0 q1 q2 f0 f1 f2 hg hle hw iR iW CS eO xG;cases hr:dh (aR n) nm l2 (c+1)with
        |bad l3=>
         exact Xp.sF jJ (by rw[ug.out,afP.out,Xp.ZX hr])
        |ok x l3 c3=>
         have Rm:=I (HC d nm (.slice A n1 cp) E0 l2 (c+1) w6 HD (by have:=wH.out.1;have:=av.out;omega) Zo gy ⟨_,_,_,hr⟩ iJ);refine Rm.mono ?_;intro e w7 he;obtain⟨ks,tx⟩:=x;have dB:=I (show aR (n+1) (b::l') c=.ok (.mk nm aM ks tx) l3 c3 by rw[ug.out,afP.out,Xp.Kn hr]);rw[hr]at he;obtain⟨rfl,A3,n3,cp3,hb,au,hst,ht,hx⟩:=he;have oh:=I hx;have jy:=I (show Touch (λb=>b=g) w w7 from iC.trans' ht λk hk=>hk.elim .inl λh=>.inr Zo);have JO:=I (ht.QN Ei λh=>by omega);have vv:=I hb;have Ej:=I (wK.mv ht λk hk _=>by omega);have wL:=I au;have ap:=Ei.lt;have HST:=I (show dz (λk=>k<w.heap.size+1) w7 λW=>gK W ks (.slice A3 n3 cp3)from hst.mono λi _ hi=>by omega);clear ht hx hr hb au hst iJ iC Ei gy wK Rm;have ZZ:=I (LQ (c2:=c3) (nm:=nm) (aM:=aM) (ks:=ks) (t:=tx) JO jy oh (Ej.acf.mono λi _ hi=>by omega) HST atx wL hg0);obtain⟨e0,e1,e2,e3,_,_,_,_,_⟩:=af.QM vv;obtain⟨_,_,_,_,z0,z1,z2,z3,ax⟩:=af.QM JO;obtain⟨t0,t1,t2,t3,_,_,_,_,_⟩:=af.QM (JO.gH (S_ nm) (.slice A n1 cp) (.slice A3 n3 cp3) (S_ tx));simp only[aO]at t0 t1 t2 t3;simp only at e3 t3;go_wp2
         refine bodyPost_ret (v:=.agg #[S_ nm,.slice A n1 cp,.slice A3 n3 cp3,S_ tx]) auo rfl ?_;rw[dB.out];exact ZZ
       .have aci:((b2.toNat:Int)==(47:Int))=false:=by rw[show((b2.toNat:Int)==(47:Int))=(b2==47)from Eg b2 47,beq_eq_false_iff_ne];exact ai
        have afO:((b2.toNat:Int)==(62:Int))=false:=by rw[show((b2.toNat:Int)==(62:Int))=(b2==62)from Eg b2 62,beq_eq_false_iff_ne];exact VA
        have Z0:=I ai;have Z5:=I VA;clear ai VA
        have Xm:(((z=false)\/(z=true/\U.D8 b2=false)\/(z=true/\U.D8 b2=true/\decide ((n1:Int)<(8:Int))=false))/\kg (c+1) aM l1=.bad (b2::l2))\/(z=true/\U.D8 b2=true/\decide ((n1:Int)<(8:Int))=true/\n1<8):=by
         have hz:=HZ.out;cases z with
         |false=>exact .inl ⟨.inl rfl,Xp.DF LU ae Z0 Z5 λh=>by rw[decide_eq_false_iff_not]at hz;exact hz h.1⟩
         |true=>
          cases hl:U.D8 b2 with
          |false=>exact .inl ⟨.inr atX,Xp.DF LU ae Z0 Z5 λh=>by rw[hl]at h;exact absurd h.2.1 Pf⟩
          |true=>
           by_cases h8:n1<8
           .exact .inr ⟨rfl,rfl,dT Zo,h8⟩
           .exact .inl ⟨.inr (.inr ⟨rfl,rfl,dF Zo⟩),Xp.DF LU ae Z0 Z5 λh=>h8 (by rw[<-JN.out];exact h.2.2)⟩
        have akY:=I (pX b2)
        rcases Xm with⟨hz|⟨hz,hl⟩|⟨hz,hl,h8⟩,acj⟩|⟨hz,hl,h8,ak⟩
        focus
         exact arZ
        focus
         exact arZ
        focus
         exact arZ
        focus
         subst hz;obtain⟨e0,e1,e2,e3,y0,y1,y2,y3,aB⟩:=af.QM eO;have HL:=I hl;go_wp2_with fail
         refine(pX b2 _).mono ?_;rintro _ w6 ⟨rfl,hw⟩;subst hw;go_wp2_with fail
         have k1:=cT (S:=λk=>k=g) e1 Zo;have kI:=I e1;clear e0 e1 e2 e3 aci afO hl h8
         refine CW (λW=>∃x:Turned (λk=>k=g) w6,W=x.W) (gq.of [(0,true),(1,true),(2,true),(3,true),(4,true)] (.lone 5 (.lone 6 .nil))) [0,1,2,3,4,5,6] 7 (Array.replicate 7 true++Array.replicate 3 false) (λ_=>True)
          (gq.of [(8,true)] (.lone 9 .nil)) [8,9] (Array.replicate 10 true) Pg Ph Pg ⟨⟨_,(M _ _).drewN 1⟩,rfl⟩ ?_
         unfold gq.of
         repeat(refine V9 ?_;first|done|unfold gq.of)
         clear k1;refine aW rfl (λK hK=>?_);go_wp2_with fail
         have wK:=I (xG.QH ((M _ w6).drewN 1));refine(ZR S g (c+1) (b2::l2) aM (.slice A n1 cp) _ hS (ach wK Zo) (iR.QH ((M _ _).drewN 1))).mono ?_;intro e w7 he;cases ha:gM aM (c+1) (b2::l2)with
         |bad l3=>
          exact Xp.sF jJ (by rw[ug.out,Xp.Xq LU.out ae.out Z0.out Z5.out ⟨of_decide_eq_true HZ.out,HL.out,by rw[JN.out];exact ak⟩ ha];rfl)
         |ok y l3 c3=>
          obtain⟨y1,y2⟩:=y;have a9:=I (ZV ha);have G9:=I (Xp.acg ha);have ack:=I (show aR (n+1) (b::l') c=C9 n nm (c+1) (kg (c+1) (aM++[(y1,y2)]) l3) by rw[ug.out,Xp.JM LU.out ae.out Z0.out Z5.out ⟨of_decide_eq_true HZ.out,HL.out,by rw[JN.out];exact ak⟩ ha]);rw[ha]at he;obtain⟨rfl,ht,hx⟩:=he;have hc3:=a9.out.2.2;subst hc3;have afQ:=I iR.len;have jy:=I (show Touch (λb=>b=g) w6 w7 from((M _ w6).drewN 1).trans ht);have oh:=I hx;clear ht hx ha;go_wp2
          refine hK _ _ ⟨⟨_,jy⟩,rfl⟩ ?_;clear hK K;refine aW rfl (λK hK=>?_);go_wp2
          refine hK _ _ ⟨⟨_,jy.alloc _⟩,rfl⟩ ?_;clear hK K;have kW:=I (af.new w7 142 #[S_ y1,S_ y2]);have sJ:=I (jy.alloc (.cells #[S_ y1,S_ y2] 142));have AB:=I (oh.QH ((M _ w7).alloc (.cells #[S_ y1,S_ y2] 142)));generalize (w7.alloc (.cells #[S_ y1,S_ y2] 142))=wA at kW sJ AB|-;have LV:=I (xG.mv sJ λk hk _=>by omega);have ql:=I (sJ.QN eO λh=>by omega);have z8:=I (sJ.QN CS λh=>by omega);have HOW:=I LV.pY;refine BU rfl (λK hK=>?_)
          go_wp2_with (at_builtin;go_loud (refine Hf rfl (.tmp 81) (.tmp 86) rfl LV JN WH (y1,y2) (by have:=a9.out;have:=afQ.out;rw[au0]at*;simp only[maxLen];constructor<;>omega) kW WH Zo ?_);intro A8 c8 w8 jI bR;refine jw.mk ?_)
          have LK:=I (AB.move bR λh=>by have:=(HOW _ h).1;omega);have lT:=I (bR.QN ql λh=>by have:=(HOW _ h).1;omega);have ZU:=I (bR.QN z8 λh=>by have:=(HOW _ h).1;omega);have Cb:=I (show Touch (λb=>b=g) w w8 from(iW.trans sJ).trans' bR λk hk=>.inr aey);have wI:=I jI;clear bR jI;obtain⟨_,_,_,_,_,q1,_,_,Rn⟩:=af.QM lT;refine jw.go ?_;go_wp2
          refine hK _ _ trivial ?_;clear hK K
          repeat(refine V9 ?_)
          refine aW rfl (λK hK=>?_);go_wp2
          refine hK _ _ trivial ?_;clear hK K;have sI:=(M (λk=>k=E0) w8).setCell (p:=B_ E0 1) Wh (.slice A8 (n1+1) c8);have yz:=I (show af (w8.setCell (B_ E0 1) (.slice A8 (n1+1) c8)) E0 62 #[S_ nm,.slice A8 (n1+1) c8,N_,E_]from lT.put 1 _);have qb:=I (LK.move sI Zo);have Rk:=I (sI.QN ZU λh=>by omega);have lS:=I (Cb.trans' sI λk hk=>.inr Zo);have qL:=I (wI.mv sI λk hk _=>by omega);have HM:=I (lN qb);clear sI q1 Rn;refine sQ ?_;go_wp2
          refine⟨⟨aM++[(y1,y2)],l3,A8,n1+1,c8,I (by rw[auZ,JN.out];rfl),by omega,ack,yz,qL,lS,qb,Rk⟩,?_⟩;rw[HM.out,HP.out];have h1:=afQ.out;have h2:=G9.out;have h3:=aE.out;rw[au0]at*;omega
end
namespace Xp
open U (E aJ QJ D8 inner aU)
theorem Ko{p:UInt8->Bool}:∀(q:QJ) (b:UInt8) (l:QJ),(q++b::l).dropWhile p=b::l->q.all p=true/\p b=false
 |[],b,l,h=>by
  refine⟨rfl,?_⟩;cases hb:p b with
  |false=>rfl
  |true=>
   rw[List.nil_append,av8,if_pos hb]at h;have:=(bQ.dropWhile p l).len;rw[h,au0]at this;omega
 |a::q,b,l,h=>by
  rw[au',av8]at h;cases ha:p a with
  |false=>
   rw[if_neg (by rw[ha];decide)]at h;have:=congrArg List.length h;rw[au0,auZ,au0]at this;omega
  |true=>
   rw[if_pos ha]at h;obtain⟨h1,h2⟩:=Ko q b l h;exact⟨by rw[au9,ha,h1];rfl,h2⟩
theorem Kq{p:UInt8->Bool}:∀(q l:QJ),q.all p=true->(q++l).takeWhile p=q++l.takeWhile p/\(q++l).dropWhile p=l.dropWhile p
 |[],_,_=>⟨rfl,rfl⟩
 |a::q,l,h=>by
  rw[au9,Bool.and_eq_true]at h;obtain⟨h1,h2⟩:=Kq q l h.2;rw[au',av2,av8,if_pos h.1,if_pos h.1,h1,h2];exact ah5
theorem Db{p:UInt8->Bool}{b:UInt8}(l:QJ)(h:p b=false):(b::l).takeWhile p=[]/\(b::l).dropWhile p=b::l:=by
 rw[av2,av8,h];exact ah5
theorem UE{el:QJ->Nat->Rs E}(ac:∀l c,bQ (el l c).left l):∀(m f:Nat) (ks:List E) (l:QJ) (c:Nat),l.length<=m->l.length<f->jZ el f ks l c=jZ el (l.length+1) ks l c:=by
 intro m
 induction m with
 |zero=>
  intro f ks l c hm hf;obtain⟨f,rfl⟩:∃k,f=k+1:=⟨f-1,by omega⟩;have:l=[]:=List.length_eq_zero_iff.1 Zo;subst this;rw[jZ,jZ]
 |succ m ih=>
  intro f ks l c hm hf;obtain⟨f,rfl⟩:∃k,f=k+1:=⟨f-1,by omega⟩;cases l with
  |nil=>rw[jZ,jZ]
  |cons b l=>
   rw[jZ,jZ];have h1:=(ac (b::l) c).len;split
   .rfl
   .cases he:el (b::l) c with
    |bad l1=>rfl
    |ok e l1 c1=>
     rw[he]at h1;have h1:l1.length<=(b::l).length:=h1;have h2:=(bQ.dropWhile Dq l1).len
     dsimp only
     cases hd:l1.dropWhile Dq with
     |nil=>rfl
     |cons b2 l3=>
      rw[hd]at h2;rw[au0]at hm hf h1 h2
      dsimp only
      split
      .rw[ih f (ks++[e]) l3 c1 (by omega) (by omega),ih (b::l).length (ks++[e]) l3 c1 (by omega) (by rw[au0];omega)]
      .rfl
theorem Xu{el:QJ->Nat->Rs E}(ac:∀l c,bQ (el l c).left l)(f:Nat)(ks:List E)(l:QJ)(c:Nat)(h:l.length<f):jZ el f ks l c=jZ el (l.length+1) ks l c:=UE ac _ f ks l c PD h
def om(el:QJ->Nat->Rs E)(ks:List E)(l:QJ)(c:Nat):Rs (List E):=jZ el (l.length+1) ks l c
end Xp
namespace U
def iH(b:UInt8):QJ:=if b=38 then [38,97,109,112,59]else if b=60 then [38,108,116,59]else if b=62 then [38,103,116,59]else if b=34 then [38,113,117,111,116,59]else [b]
def dV(s:QJ):QJ:=s.flatMap iH
theorem Z6(s:QJ)(b:UInt8):dV (s++[b])=dV s++iH b:=by unfold dV;rw[av9];simp
theorem acm:dV []=[]:=rfl
def AV(a:QJ×QJ):QJ:=32::a.1++[61,34]++dV a.2++[34]
def dw(l:aJ):QJ:=l.flatMap AV
theorem UF(l:aJ)(j:Nat)(h:j<l.length):dw (l.take (j+1))=dw (l.take j)++AV l[j]:=by
 unfold dw;rw[avq,ave h,av9];simp
theorem Z7(l:aJ)(j:Nat):(dw (l.take j)).length<=(dw l).length:=by
 have:dw l=dw (l.take j)++dw (l.drop j):=by unfold dw;rw[<-av9,awD]
 exact auu
mutual
def fB:E->QJ
 |.mk n a ks t=>60::n++dw a++(if t.isEmpty&&ks.isEmpty then [47,62]else 62::dV t++gF ks++([60,47]++n++[62]))
def gF:List E->QJ
 |[]=>[]
 |x::xs=>fB x++gF xs
end
theorem yA(l:List E):gF l=l.flatMap fB:=by
 induction l with
 |nil=>rw[gF];rfl
 |cons x l ih=>rw[gF,ih,List.flatMap_cons]
theorem UG(l:List E)(j:Nat)(h:j<l.length):gF (l.take (j+1))=gF (l.take j)++fB l[j]:=by
 rw[yA,yA,avq,ave h,av9];simp
theorem Z8(l:List E)(j:Nat):(gF (l.take j)).length<=(gF l).length:=by
 have:gF l=gF (l.take j)++gF (l.drop j):=by rw[yA,yA,yA,<-av9,awD]
 exact auu
end U
end Go.Proofs.YtabjglnjjdcfmaaGreatDoor
