/- Part 33 of 48 of a proof. No condition. -/
import Derived.Test.YtnbeemkfmlfgfaaGreatDoorTm32
set_option maxRecDepth 100000
set_option maxHeartbeats 1000000
namespace Go.Proofs.YtnbeemkfmlfgfaaGreatDoor
namespace Xp
open U (E aA Bytes letter inner aK)
theorem Kq{s:UInt8}{f:Nat}{acc:Bytes}{l:Bytes}{c:Nat}(h:aR (G l c)≠s):iO s (f+1) acc (G l c)=iO s f (acc++(iA acc.length (G l c)).1) (iA acc.length (G l c)).2:=by
 rw[iO,if_pos ⟨rfl,h⟩]
theorem HY(s:UInt8)(hs:s≠0)(c:Nat):∀(m:Nat) (l acc:Bytes) (f:Nat),l.length≤m→l.length<f→acc.length≤200→match fZ s c acc l with
  |.ok x l2 c2=>iO s f acc (G l c)=(x,G l2 c)∧c2=c∧∃l3,l2=s::l3
  |.bad l2=>bP l2 (iO s f acc (G l c)).2:=by
 intro m
 induction m with
 |zero=>
  intro l acc f hm hf ha;obtain⟨f,rfl⟩:∃k,f=k+1:=⟨f-1,by omega⟩;have:l=[]:=List.length_eq_zero_iff.1 (by omega);subst this;rw[sI];show bP [] _;rw[Kq (by rw[sW];exact fun h=>hs h.symm)];have h1:=Hz acc.length ha [] c;have h1:bP [] (iA acc.length (G [] c)).2:=h1;rw[l6 h1.2];exact h1
 |succ m ih=>
  intro l acc f hm hf ha;obtain⟨f,rfl⟩:∃k,f=k+1:=⟨f-1,by omega⟩;cases l with
  |nil=>
   rw[sI];show bP [] _;rw[Kq (by rw[sW];exact fun h=>hs h.symm)];have h1:=Hz acc.length ha [] c;have h1:bP [] (iA acc.length (G [] c)).2:=h1;rw[l6 h1.2];exact h1
  |cons b l=>
   by_cases hb:b=s
   ·subst hb
    rw[xY];exact⟨by rw[iO,if_neg (by rw[kH];exact fun h=>h.2 rfl)],rfl,l,rfl⟩
   ·rw[Kq (by rw[kH];exact hb)]
    have h1:=Hz acc.length ha (b::l) c;cases hc:gZ acc.length c (b::l)with
    |bad l2=>
     rw[hc]at h1;have h1:bP l2 (iA acc.length (G (b::l) c)).2:=h1;rw[Ag hb hc];show bP l2 _;rw[l6 h1.2];exact h1
    |ok x l2 c2=>
     rw[hc]at h1;have h1:iA acc.length (G (b::l) c)=([x],G l2 c)∧c2=c:=h1;rw[wm hb hc,h1.1];have h2:=xA hc;have h3:=BH hc;rw[List.length_cons]at hm hf h2;exact ih l2 (acc++[x]) f (by omega) (by omega) (by rw[List.length_append];simp only[List.length_cons,List.length_nil];omega)
def xN(nm:Bytes)(f:Nat)(q2:Q):(Bytes×Bytes)×Q:=
 ((nm,(iO 34 f [] (aM 34 (aM 61 q2))).1),aM 34 (iO 34 f [] (aM 34 (aM 61 q2))).2)
theorem Gr{q:Q}(h:q.b=true)(nm:Bytes)(f:Nat):(xN nm f q).2=q:=by
 unfold xN;rw[fH h (by decide),fH h (by decide),l6 h];exact fH h (by decide)
theorem Rq(aB:aA)(h8:aB.length<8)(q:Q):iB aB q=xN (kY q) ((if aB.any (fun x=>x.1==kY q)then dD (dz q)else dz q).l.length+2) (if aB.any (fun x=>x.1==kY q)then dD (dz q)else dz q):=by
 unfold iB xN;rw[if_neg (by omega)]
theorem EZ(aB:aA)(h8:aB.length=8)(q:Q):(iB aB q).2=dD q:=by
 have h1:iB aB q=iB aB (dD q):=by
  unfold iB;rw[if_pos h8,if_pos h8];rfl
 rw[h1,Ud rfl]
theorem aao(aB:aA)(h8:aB.length<8)(l:Bytes)(c:Nat):match gH aB c l with
  |.ok x l2 c2=>iB aB (G l c)=(x,G l2 c)∧c2=c
  |.bad l2=>bP l2 (iB aB (G l c)).2:=by
 rw[Rq aB h8];have h1:=De l c;cases hn:jy c l with
 |bad l1=>
  rw[hn]at h1;have h1:bP l1 (dz (G l c)):=h1;rw[sJ hn];show bP l1 _;have h2:(if aB.any (fun x=>x.1==kY (G l c))then dD (dz (G l c))else dz (G l c))=dz (G l c):=by split;exact zR h1.2;rfl
  rw[h2,Gr h1.2];exact h1
 |ok nm l1 c1=>
  rw[hn]at h1;have h1:dz (G l c)=G l1 c∧kY (G l c)=nm∧c1=c:=h1;rw[ve hn,h1.1,h1.2.1]
  have hx:Mw aB nm c l1=match l1 with
    |[]=>.bad []
    |b::l2=>if b≠61∨aB.any (fun x=>x.1==nm)=true then .bad (b::l2)else uL nm c (aL 34 c l2):=by cases l1<;>rfl
  by_cases hd:aB.any (fun x=>x.1==nm)=true
  ·rw[if_pos hd]
   have:Mw aB nm c l1=.bad l1:=by
    rw[hx];cases l1 with
    |nil=>rfl
    |cons b l2=>exact if_pos (.inr hd)
   rw[this];show bP l1 _;rw[Gr rfl];exact⟨rfl,rfl⟩
  ·rw[if_neg hd]
   have h2:=vD 61 (by decide) l1 c;cases l1 with
   |nil=>
    rw[hx];show bP [] _;unfold xN;have h2:bP [] (aM 61 (G [] c)):=h2;rw[fH h2.2 (by decide),l6 h2.2];show bP [] (aM 34 (aM 61 (G [] c)));rw[fH h2.2 (by decide)];exact h2
   |cons b l2=>
    rw[hx]
    by_cases hb:b=61
    ·subst hb
     show match(if _ then _ else _:Rs (Bytes×Bytes))with
      |.ok x l2 c2=>_
      |.bad l2=>_
     rw[if_neg (by rintro(h|h);exact h rfl;exact hd h)];have h3:=vD 34 (by decide) l2 c;unfold xN;rw[vC];cases he:aL 34 c l2 with
     |bad l3=>
      rw[he]at h3;have h3:bP l3 (aM 34 (G l2 c)):=h3;show bP l3 _;rw[l6 h3.2];show bP l3 (aM 34 (aM 34 (G l2 c)));rw[fH h3.2 (by decide)];exact h3
     |ok u l3 c3=>
      have hl3:=(lg 34 c l2).len;rw[he]at h3 hl3;have h3:aM 34 (G l2 c)=G l3 c∧c3=c:=h3;have hl3:l3.length≤l2.length:=hl3;rw[h3.1]
      show match uK nm c (fZ 34 c [] l3)with
       |.ok x l2 c2=>_
       |.bad l2=>_
      have h4:=HY 34 (by decide) c _ l3 [] ((61::l2).length+2) (Nat.le_refl _) (by rw[List.length_cons];omega) (by simp);cases ht:fZ 34 c [] l3 with
      |bad l4=>
       rw[ht]at h4;have h4:bP l4 (iO 34 ((61::l2).length+2) [] (G l3 c)).2:=h4;show bP l4 (aM 34 (iO 34 ((61::l2).length+2) [] (G l3 c)).2);rw[fH h4.2 (by decide)];exact h4
      |ok v l4 c4=>
       rw[ht]at h4;have h4:iO 34 ((61::l2).length+2) [] (G l3 c)=(v,G l4 c)∧c4=c∧∃l5,l4=34::l5:=h4;obtain⟨h4,_,l5,rfl⟩:=h4;show((nm,(iO 34 ((61::l2).length+2) [] (G l3 c)).1),aM 34 (iO 34 ((61::l2).length+2) [] (G l3 c)).2)=((nm,v),G ((34::l5).drop 1) c)∧c=c;rw[h4];exact⟨by rw[vC];rfl,rfl⟩
    ·show match(if _ then _ else _:Rs (Bytes×Bytes))with
      |.ok x l2 c2=>_
      |.bad l2=>_
     rw[if_pos (.inl hb)];show bP _ _;unfold xN;rw[EX hb,fH (q:=dD _) rfl (by decide),l6 (q:=dD _) rfl];show bP _ (aM 34 (dD _));rw[fH (q:=dD _) rfl (by decide)];exact⟨rfl,rfl⟩
def xO(r:aA×Q):(aA×Bool)×Q:=if aR r.2=47 then((r.1,true),bA [47,62] r.2)else((r.1,false),aM 62 r.2)
theorem Js{q:Q}(h:q.b=true)(aB:aA):(xO (aB,q)).2=q:=by
 unfold xO;rw[og h,if_neg (by decide)];exact fH h (by decide)
theorem Xm(l:Bytes)(c:Nat):(!(j4 (G l c)).isEmpty)=decide ((l.dropWhile white).length<l.length):=by
 have h1:(l.takeWhile white++l.dropWhile white).length=l.length:=by rw[List.takeWhile_append_dropWhile]
 rw[List.length_append]at h1;show(!(l.takeWhile white).isEmpty)=_;cases h:l.takeWhile white with
 |nil=>rw[h]at h1;simp only[List.length_nil]at h1;exact(decide_eq_false (by omega)).symm
 |cons b t=>rw[h]at h1;simp only[List.length_cons]at h1;exact(decide_eq_true (by omega)).symm
theorem Xn:∀(m:Nat) (aB:aA) (l:Bytes) (c f:Nat),8-aB.length≤m→aB.length≤8→9-aB.length<f→match kQ c aB l with
  |.ok x l2 c2=>xO (kG f aB (!(j4 (G l c)).isEmpty) (bB (G l c)))=(x,G l2 c)∧c2=c
  |.bad l2=>bP l2 (xO (kG f aB (!(j4 (G l c)).isEmpty) (bB (G l c)))).2:=by
 intro m
 induction m using Nat.strongRecOn with
 |ind m ih=>
 intro aB l c f hm h8 hf;obtain⟨f,rfl⟩:∃k,f=k+1:=⟨f-1,by omega⟩;rw[Xm,(tZ l c).1];cases hd:l.dropWhile white with
 |nil=>
  rw[IM h8 hd];show bP [] _;have h1:kG (f+1) aB (decide (([]:Bytes).length<l.length)) (G [] c)=(aB,G [] c):=by rw[kG,sW,if_neg (fun h=>by have:=h.2;revert this;decide)]
  rw[h1];unfold xO;rw[sW,if_neg (by decide)];show bP [] (aM 62 (G [] c));rw[take_nil (by decide)];exact⟨rfl,rfl⟩
 |cons b l2=>
  have hstop:(letter b=false∨¬(b::l2).length<l.length)→kG (f+1) aB (decide ((b::l2).length<l.length)) (G (b::l2) c)=(aB,G (b::l2) c):=by
   intro h;rw[kG,kH,if_neg ?_];rintro⟨h1,h2⟩
   rcases h with h|h
   ·rw[h]at h2;cases h2
   ·exact h (of_decide_eq_true h1)
  by_cases h47:b=47
  ·subst h47
   rw[hstop (.inl (by decide))];have h1:=vD 62 (by decide) l2 c
   have hh:xO (aB,G (47::l2) c)=((aB,true),aM 62 (G l2 c)):=by
    unfold xO;rw[kH,if_pos rfl,bA,bA,vC];rfl
   rw[hh];cases he:aL 62 c l2 with
   |bad l3=>rw[he]at h1;rw[Dw h8 hd he];exact h1
   |ok u l3 c3=>
    rw[he]at h1;have h1:aM 62 (G l2 c)=G l3 c∧c3=c:=h1;rw[Eh h8 hd he];exact⟨by rw[h1.1],rfl⟩
  by_cases xe:b=62
  ·subst xe
   rw[hstop (.inl (by decide)),KU h8 hd];exact⟨by unfold xO;rw[kH,if_neg (by decide),vC],rfl⟩
  by_cases h3:(b::l2).length<l.length∧letter b=true
  ·have hgo:kG (f+1) aB (decide ((b::l2).length<l.length)) (G (b::l2) c)=kG f (aB++[(iB aB (G (b::l2) c)).1]) (!(j4 (iB aB (G (b::l2) c)).2).isEmpty) (bB (iB aB (G (b::l2) c)).2):=by
    rw[kG,kH,if_pos ⟨decide_eq_true h3.1,h3.2⟩]
   rw[hgo]
   by_cases h9:aB.length<8
   ·have h1:=aao aB h9 (b::l2) c
    cases ha:gH aB c (b::l2)with
    |bad l3=>
     rw[ha]at h1;have h1:bP l3 (iB aB (G (b::l2) c)).2:=h1;rw[IP h8 hd h47 xe ⟨h3.1,h3.2,h9⟩ ha];show bP l3 _;rw[(gF h1.2).1,rV h1.2,Js h1.2];exact h1
    |ok a l3 c3=>
     rw[ha]at h1;have h1:iB aB (G (b::l2) c)=(a,G l3 c)∧c3=c:=h1;rw[F9 h8 hd h47 xe ⟨h3.1,h3.2,h9⟩ ha,h1.1]
     exact ih (7-aB.length) (by omega) (aB++[a]) l3 c f (by rw[List.length_append];simp only[List.length_cons,List.length_nil];omega) (by rw[List.length_append];simp only[List.length_cons,List.length_nil];omega)
      (by rw[List.length_append];simp only[List.length_cons,List.length_nil];omega)
   ·rw[uN h8 hd h47 xe (fun h=>h9 h.2.2)]
    have h1:=EZ aB (by omega) (G (b::l2) c);show bP _ _;rw[h1,(gF (q:=dD _) rfl).1,rV (q:=dD _) rfl,Js (q:=dD _) rfl];exact⟨rfl,rfl⟩
  ·have hb:letter b=false∨¬(b::l2).length<l.length:=by
    by_cases h:(b::l2).length<l.length
    ·left
     cases hl:letter b with
     |false=>rfl
     |true=>exact absurd ⟨h,hl⟩ h3
    ·exact .inr h
   rw[hstop hb,uN h8 hd h47 xe (fun h=>h3 ⟨h.1,h.2.1⟩)];show bP _ _;unfold xO;rw[kH,if_neg h47];show bP _ (aM 62 _);rw[EX xe];exact⟨rfl,rfl⟩
end Xp
namespace Xp
open U (E aA Bytes letter inner aK)
def Br(nm:Bytes)(q:Q):Q:=aM 62 (bB (bA nm q))
theorem rF{q:Q}(h:q.b=true){nm:Bytes}(hnm:∀b∈nm,b≠0):Br nm q=q:=by
 unfold Br;rw[oH h _ hnm,(gF h).1,fH h (by decide)]
theorem Rt{nm:Bytes}(hnm:∀b∈nm,b≠0)(l:Bytes)(c:Nat):match fe nm c l with
  |.ok _ l1 _=>Br nm (aM 47 (G l c))=G l1 c
  |.bad l1=>bP l1 (Br nm (aM 47 (G l c))):=by
 unfold fe;have h1:=vD 47 (by decide) l c;cases he:aL 47 c l with
 |bad l1=>
  rw[he]at h1;have h1:bP l1 (aM 47 (G l c)):=h1;show bP l1 _;rw[rF h1.2 hnm];exact h1
 |ok u l1 c1=>
  rw[he]at h1;have h1:aM 47 (G l c)=G l1 c∧c1=c:=h1;rw[h1.1];have h2:=EY nm hnm l1 c;unfold Br
  dsimp only
  cases hl:iX c nm l1 with
  |bad l2=>
   rw[hl]at h2;have h2:bP l2 (bA nm (G l1 c)):=h2;show bP l2 _;rw[(gF h2.2).1,fH h2.2 (by decide)];exact h2
  |ok v l2 c2=>
   rw[hl]at h2;have h2:bA nm (G l1 c)=G l2 c∧c2=c:=h2;rw[h2.1,(tZ l2 c).1];have h3:=vD 62 (by decide) (l2.dropWhile white) c
   dsimp only
   cases hx:aL 62 c (l2.dropWhile white)with
   |bad l3=>rw[hx]at h3;exact h3
   |ok v l3 c3=>rw[hx]at h3;exact h3.1
structure OU(el:Bytes→Nat→Rs E)(cO:Q→E×Q):Prop where
 rel:∀l c,c≤3000→match el l c with
  |.ok e l1 c1=>cO (G l c)=(e,G l1 c1)∧c1≤3000
  |.bad l1=>bP l1 (cO (G l c)).2
 stuck:∀q:Q,q.b=true→bP q.l (cO q).2
 nil:∀c,el [] c=.bad []
 left:∀l c,aX (el l c).left l
theorem Dh{q:Q}(h:q.b=true)(el:Q→E×Q)(f:Nat)(ks:List E):(mD el f ks q)=(ks,q):=by
 cases f with
 |zero=>rfl
 |succ f=>rw[mD,if_pos h]
theorem LB{el:Bytes→Nat→Rs E}{cO:Q→E×Q}(hel:OU el cO){l:Bytes}{c f:Nat}(hf:0<f)(ks:List E)(h:¬aR (G l c)=60):bP l (mD cO f ks (G l c)).2:=by
 obtain⟨f,rfl⟩:∃k,f=k+1:=⟨f-1,by omega⟩;have h1:aM 60 (G l c)=dD (G l c):=if_neg h;rw[mD,if_neg (by show¬false=true;decide),h1,og (q:=dD _) rfl,if_neg (by decide)];have h2:=hel.stuck (dD (G l c)) rfl;rw[(gF h2.2).1,Dh h2.2];exact h2
theorem aap{el:Bytes→Nat→Rs E}{cO:Q→E×Q}(hel:OU el cO):∀(m:Nat) (l:Bytes) (c:Nat) (ks:List E) (f f':Nat),l.length≤m→l.length<f→l.length+1<f'→c≤3000→match fG el f ks l c with
  |.ok ks' l2 c2=>mD cO f' ks (G (60::l) c)=(ks',G l2 c2)∧c2≤3000
  |.bad l2=>bP l2 (mD cO f' ks (G (60::l) c)).2:=by
 intro m
 induction m using Nat.strongRecOn with
 |ind m ih=>
 intro l c ks f f' hm hf hf' hc;obtain⟨f,rfl⟩:∃k,f=k+1:=⟨f-1,by omega⟩;obtain⟨f',rfl⟩:∃k,f'=k+1:=⟨f'-1,by omega⟩
 have hgo:mD cO (f'+1) ks (G (60::l) c)=if aR (G l c)=47 then(ks,G l c)else mD cO f' (ks++[(cO (G l c)).1]) (bB (cO (G l c)).2):=by
  rw[mD,if_neg (by show¬false=true;decide),vC]
 rw[hgo];cases l with
 |nil=>
  rw[fG];rw[sW,if_neg (by decide)];have h1:=hel.rel [] c hc;rw[hel.nil]at h1;have h1:bP [] (cO (G [] c)).2:=h1;show bP [] _;rw[(gF h1.2).1,Dh h1.2];exact h1
 |cons b l=>
  rw[fG,kH]
  by_cases hb:b=47
  ·rw[if_pos hb,if_pos hb]
   exact⟨rfl,hc⟩
  rw[if_neg hb,if_neg hb];have h1:=hel.rel (b::l) c hc;have h2:=(hel.left (b::l) c).len;cases he:el (b::l) c with
  |bad l1=>
   rw[he]at h1;have h1:bP l1 (cO (G (b::l) c)).2:=h1;show bP l1 _;rw[(gF h1.2).1,Dh h1.2];exact h1
  |ok e l1 c1=>
   rw[he]at h1 h2;have h1:cO (G (b::l) c)=(e,G l1 c1)∧c1≤3000:=h1;have h2:l1.length≤(b::l).length:=h2;rw[h1.1]
   dsimp only
   rw[(tZ l1 c1).1];have h3:=(aX.dropWhile white l1).len;rw[List.length_cons]at*;cases hd:l1.dropWhile white with
   |nil=>exact LB hel (by omega) _ (by rw[sW];decide)
   |cons b2 l3=>
    dsimp only
    rw[hd,List.length_cons]at h3
    by_cases yG:b2=60
    ·subst yG
     rw[if_pos rfl];exact ih l3.length (by omega) l3 c1 _ f f' (Nat.le_refl _) (by omega) (by omega) h1.2
    ·rw[if_neg yG]
     exact LB hel (by omega) _ (by rw[kH];exact yG)
theorem Qn{el:Bytes→Nat→Rs E}{cO:Q→E×Q}(hel:OU el cO){nm:Bytes}(hnm:∀b∈nm,b≠0)(l:Bytes)(c:Nat)(hc:c≤3000):match aD el nm l c with
  |.ok x l2 c2=>(bR cO (G l c)).1=x∧Br nm (bR cO (G l c)).2=G l2 c2∧c2≤3000
  |.bad l2=>bP l2 (Br nm (bR cO (G l c)).2):=by
 have aaq:=(tZ l c).2;have hsp:=(tZ l c).1;cases hd:l.dropWhile white with
 |nil=>
  rw[Go.Proofs.YtnbeemkfmlfgfaaGreatDoor.xM hd];rw[hd]at hsp;unfold bR;rw[hsp,aaq,sW,if_pos (by decide)];show bP [] _;cases hs:bH (l.takeWhile white)with
  |false=>
   simp only[Bool.false_eq_true,if_false];rw[l6 (q:=dD _) rfl,oH (q:=dD _) rfl _ (by decide),rF (q:=dD _) rfl hnm];exact⟨rfl,rfl⟩
  |true=>
   simp only[if_true];unfold bH at hs;rw[Bool.and_eq_true,decide_eq_true_eq]at hs;have h1:=HY 60 (by decide) c 0 [] (l.takeWhile white) ((G [] c).l.length+2) (Nat.le_refl _) (by show 0<_;omega) hs.2;rw[sI]at h1;have h1:bP [] (iO 60 ((G [] c).l.length+2) (l.takeWhile white) (G [] c)).2:=h1;rw[oH h1.2 _ (by decide),rF h1.2 hnm];exact h1
 |cons b l2=>
  rw[hd]at hsp
  by_cases hb:b=60
  ·subst hb
   rw[Go.Proofs.YtnbeemkfmlfgfaaGreatDoor.sM hd rfl];unfold bR;rw[hsp,aaq,kH,if_neg (by decide)];have h1:=aap hel _ l2 c [] (l2.length+1) ((G (60::l2) c).l.length+2) (Nat.le_refl _) (by omega) (by show _<(60::l2).length+2;rw[List.length_cons];omega) hc
   dsimp only
   show match yR nm (l.takeWhile white) (fG el (l2.length+1) [] l2 c)with
    |.ok x l2 c2=>_
    |.bad l2=>_
   cases hk:fG el (l2.length+1) [] l2 c with
   |bad l3=>
    rw[hk]at h1;have h1:bP l3 (mD cO ((G (60::l2) c).l.length+2) [] (G (60::l2) c)).2:=h1;show bP l3 _;rw[fH h1.2 (by decide),rF h1.2 hnm];exact h1
   |ok ks l3 c3=>
    rw[hk]at h1;have h1:mD cO ((G (60::l2) c).l.length+2) [] (G (60::l2) c)=(ks,G l3 c3)∧c3≤3000:=h1;rw[h1.1];have h2:=Rt hnm l3 c3
    show match rC (ks,if bH (l.takeWhile white)&&ks.isEmpty then l.takeWhile white else []) c3 (fe nm c3 l3)with
     |.ok x l2 c2=>_
     |.bad l2=>_
    cases he:fe nm c3 l3 with
    |bad l4=>rw[he]at h2;exact h2
    |ok u l4 c4=>rw[he]at h2;exact⟨by rw[Bool.and_comm],h2,h1.2⟩
  ·unfold bR
   rw[hsp,aaq,kH,if_pos hb];cases hs:bH (l.takeWhile white)with
   |false=>
    rw[Go.Proofs.YtnbeemkfmlfgfaaGreatDoor.Bf hd hb hs];simp only[Bool.false_eq_true,if_false];show bP _ _;rw[l6 (q:=dD _) rfl,oH (q:=dD _) rfl _ (by decide),rF (q:=dD _) rfl hnm];exact⟨rfl,rfl⟩
   |true=>
    rw[Go.Proofs.YtnbeemkfmlfgfaaGreatDoor.zD hd hb hs];simp only[if_true];unfold bH at hs;rw[Bool.and_eq_true,decide_eq_true_eq]at hs;have h1:=HY 60 (by decide) c _ (b::l2) (l.takeWhile white) ((G (b::l2) c).l.length+2) (Nat.le_refl _) (by show(b::l2).length<(b::l2).length+2;omega) hs.2;cases ht:fZ 60 c (l.takeWhile white) (b::l2)with
    |bad l3=>
     rw[ht]at h1;have h1:bP l3 (iO 60 ((G (b::l2) c).l.length+2) (l.takeWhile white) (G (b::l2) c)).2:=h1;show bP l3 _;rw[oH h1.2 _ (by decide),rF h1.2 hnm];exact h1
    |ok t l3 c3=>
     rw[ht]at h1;have h1:iO 60 ((G (b::l2) c).l.length+2) (l.takeWhile white) (G (b::l2) c)=(t,G l3 c)∧c3=c∧∃l4,l3=60::l4:=h1;obtain⟨h1,_,l4,rfl⟩:=h1;rw[h1];have h2:=Rt hnm l4 c
     show match rC (([]:List E),t) c (fe nm c l4)with
      |.ok x l2 c2=>_
      |.bad l2=>_
     have h3:bA [60,47] (G (60::l4) c)=aM 47 (G l4 c):=by rw[bA,bA,vC];rfl
     dsimp only
     rw[h3];cases he:fe nm c l4 with
     |bad l5=>rw[he]at h2;exact h2
     |ok u l5 c5=>rw[he]at h2;exact⟨rfl,h2,hc⟩
theorem OV(b:UInt8)(h:inner b=true):b≠0:=by
 rintro rfl
 revert h
 decide
theorem Di{l:Bytes}{c:Nat}(h:c<3000):kS false (G l c)=G l (c+1):=by
 have hw:Hy ((c:Int)+1)=(c:Int)+1:=Go.IntWalk.i64_in _ (by omega);unfold kS G;rw[hw];show Q.mk l ((c:Int)+1) (false||false||decide (3000<((c:Int)+1)))=Q.mk l ((c+1:Nat):Int) false;rw[decide_eq_false (by omega)];rfl
theorem aar{el:Bytes→Nat→Rs E}{cO:Q→E×Q}(hel:OU el cO)(n:Nat)(hn:el=au n)(b:UInt8)(l:Bytes)(c:Nat)(hb:letter b=true)(hc:c<3000):match au (n+1) (b::l) c with
  |.ok e l1 c1=>mU (bR cO) (G (b::l) (c+1))=(e,G l1 c1)∧c1≤3000
  |.bad l1=>bP l1 (mU (bR cO) (G (b::l) (c+1))).2:=by
 subst hn;rw[QV hb hc];have h1:=De (b::l) (c+1);rw[FE hb]at h1;have h1:dz (G (b::l) (c+1))=G ((b::l).dropWhile inner) (c+1)∧kY (G (b::l) (c+1))=(b::l).takeWhile inner∧c+1=c+1:=h1;unfold mU;rw[h1.1,h1.2.1];have hnm:∀x∈(b::l).takeWhile inner,x≠0:=fun x hx=>OV x (List.all_eq_true.1 (List.all_takeWhile (p:=inner) (l:=b::l)) x hx)
 generalize (b::l).takeWhile inner=nm at*;generalize (b::l).dropWhile inner=l1 at*;have h2:=Xn 8 [] l1 (c+1) 10 (by simp) (by simp) (by simp);generalize kG 10 [] (!(j4 (G l1 (c+1))).isEmpty) (bB (G l1 (c+1)))=r at*;obtain⟨ra,rq⟩:=r
 dsimp only
 unfold xO at h2
 dsimp only at h2
 by_cases hp:aR rq=47
 ·rw[if_pos hp]at h2⊢
  cases ha:kQ (c+1) [] l1 with
  |bad l2=>rw[ha]at h2;exact h2
  |ok x l2 c2=>
   obtain⟨aB,z⟩:=x;rw[ha]at h2;have h3:((ra,true),bA [47,62] rq)=((aB,z),G l2 (c+1))∧c2=c+1:=h2;obtain⟨h3,_⟩:=h3;injection h3 with h4 h5
   injection h4 with h4 h6
   subst h4 h6;rw[h5];exact⟨rfl,hc⟩
 ·rw[if_neg hp]at h2⊢
  cases ha:kQ (c+1) [] l1 with
  |bad l2=>
   rw[ha]at h2;have h2:bP l2 (aM 62 rq):=h2;show bP l2 (Br nm (bR cO (aM 62 rq)).2);rw[uU h2.2];show bP l2 (Br nm (aM 62 rq));rw[rF h2.2 hnm];exact h2
  |ok x l2 c2=>
   obtain⟨aB,z⟩:=x;rw[ha]at h2;have h3:((ra,false),aM 62 rq)=((aB,z),G l2 (c+1))∧c2=c+1:=h2;obtain⟨h3,_⟩:=h3;injection h3 with h4 h5
   injection h4 with h4 h6
   subst h4 h6;rw[h5];have h7:=Qn hel hnm l2 (c+1) hc;cases hr:aD (au n) nm l2 (c+1)with
   |bad l3=>rw[hr]at h7;rw[KV hr];exact h7
   |ok y l3 c3=>
    obtain⟨ks,t⟩:=y;rw[hr]at h7;rw[NL hr];obtain⟨g1,g2,g3⟩:=h7;show(E.mk nm ra (bR cO (G l2 (c+1))).1.1 (bR cO (G l2 (c+1))).1.2,Br nm (bR cO (G l2 (c+1))).2)=(E.mk nm ra ks t,G l3 c3)∧c3≤3000;rw[g1,g2];exact⟨rfl,g3⟩
theorem Gs:∀n:Nat,OU (au n) (gy n)
 |0=>{
  rel:=fun l c _=>by
   rw[au];show bP l (gy 0 (G l c)).2;rw[gy,yZ (show(kS true (G l c)).b=true by unfold kS G;rfl)];exact⟨rfl,rfl⟩
  stuck:=fun q h=>rR h 0
  nil:=fun c=>by rw[au]
  left:=fun l c=>jQ 0 l c}
 |n+1=>{
  rel:=fun l c hc=>by
   have hfull:¬c<3000→bP l (gy (n+1) (G l c)).2:=fun h=>by
    have hw:Hy ((c:Int)+1)=(c:Int)+1:=Go.IntWalk.i64_in _ (by omega)
    have hb:(kS false (G l c)).b=true:=by
     unfold kS G;rw[hw];show(false||false||decide (3000<((c:Int)+1)))=true;rw[decide_eq_true (by omega)];rfl
    rw[gy,yZ hb];exact⟨rfl,hb⟩
   cases l with
   |nil=>
    rw[au]
    by_cases h:c<3000
    ·show bP [] _
     rw[gy,Di h];have h1:=De [] (c+1);have h1:bP [] (dz (G [] (c+1))):=h1;unfold mU;rw[(gF h1.2).1,rV h1.2]
     dsimp only
     rw[og h1.2,if_neg (by decide),fH h1.2 (by decide),uU h1.2]
     dsimp only
     have h2:kY (G [] (c+1))=[]:=rfl;rw[h2,show bA ([]:Bytes) (dz (G [] (c+1)))=dz (G [] (c+1))from rfl,(gF h1.2).1,fH h1.2 (by decide)];exact h1
    ·exact hfull h
   |cons b l=>
    by_cases h:c<3000
    ·cases hb:letter b with
     |true=>
      have h1:=aar (Gs n) n rfl b l c hb h;rw[gy,Di h];exact h1
     |false=>
      rw[Ct (.inl hb)];show bP _ _;rw[gy,Di h];have h1:=De (b::l) (c+1);have h0:jy (c+1) (b::l)=.bad (b::l):=by show(if letter b=true then _ else _)=_;rw[hb];rfl
      rw[h0]at h1;have h1:bP (b::l) (dz (G (b::l) (c+1))):=h1;unfold mU;rw[(gF h1.2).1,rV h1.2]
      dsimp only
      rw[og h1.2,if_neg (by decide),fH h1.2 (by decide),uU h1.2]
      dsimp only
      have h2:kY (G (b::l) (c+1))=[]:=by unfold kY;rw[kH,hb];rfl
      rw[h2,show bA ([]:Bytes) (dz (G (b::l) (c+1)))=dz (G (b::l) (c+1))from rfl,(gF h1.2).1,fH h1.2 (by decide)];exact h1
    ·rw[Ct (.inr (by omega))]
     exact hfull h
  stuck:=fun q h=>rR h (n+1)
  nil:=fun c=>by rw[au]
  left:=fun l c=>jQ (n+1) l c}
theorem Xo(T:Bytes):OQ T=dP T:=by
 have h0:bB ⟨T,0,false⟩=G (T.dropWhile white) 0:=rfl;unfold OQ dP dV;rw[h0];have h1:=vD 60 (by decide) (T.dropWhile white) 0;have hz:=(BI T).len;cases he:aL 60 0 (T.dropWhile white)with
 |bad l1=>
  have hl:=(lg 60 0 (T.dropWhile white)).len;have hl2:=(aX.dropWhile white T).len;rw[he]at h1 hl;have hl:l1.length≤(T.dropWhile white).length:=hl;have h1:bP l1 (aM 60 (G (T.dropWhile white) 0)):=h1;have h2:=rR h1.2 64
  dsimp only
  rw[(gF h2.2).1,if_pos (.inl h2.2),h2.1,h1.1];rw[show((T.length-l1.length:Nat):Int)=(T.length:Int)-l1.length by omega]
 |ok u l1 c1=>
  have hl:=(lg 60 0 (T.dropWhile white)).len;have hl2:=(aX.dropWhile white T).len;rw[he]at h1 hl;have hl:l1.length≤(T.dropWhile white).length:=hl;have h1:aM 60 (G (T.dropWhile white) 0)=G l1 0∧c1=0:=h1;rw[h1.1];have h2:=(Gs 64).rel l1 0 (by omega);have hl3:=(jQ 64 l1 0).len
  dsimp only
  cases hx:au 64 l1 0 with
  |bad l2=>
   rw[hx]at h2 hl3;have hl3:l2.length≤l1.length:=hl3;have h2:bP l2 (gy 64 (G l1 0)).2:=h2;rw[(gF h2.2).1,if_pos (.inl h2.2),h2.1]
   dsimp only
   rw[show((T.length-l2.length:Nat):Int)=(T.length:Int)-l2.length by omega]
  |ok e l2 c2=>
   rw[hx]at h2 hl3;have hl3:l2.length≤l1.length:=hl3;have h2:gy 64 (G l1 0)=(e,G l2 c2)∧c2≤3000:=h2;rw[h2.1]
   dsimp only
   rw[(tZ l2 c2).1];have hl4:=(aX.dropWhile white l2).len;cases hd:l2.dropWhile white with
   |nil=>exact if_neg (by rintro(h|h);cases h;exact h rfl)
   |cons b l3=>
    rw[if_pos (.inr (by show b::l3≠[];simp))];show(uB,((T.length-(b::l3).length:Nat):Int),(3:Int))=(uB,(T.length:Int)-(b::l3).length,3);rw[hd]at hl4;rw[show((T.length-(b::l3).length:Nat):Int)=(T.length:Int)-(b::l3).length by omega]
end Xp
section
open Go.RowKit
open Xp (aX Q aR dD aM bA white)
structure Xq(S:ByteArray)(g:Nat)(q:Q)(w:World):Prop where
 blk:O w g 127 #[.string S,.int .i64 ((S.size-q.l.length:Nat):Int),.int .i64 q.k,.bool q.b]
 nK:aX q.l S.data.toList
theorem Xq.move{S:ByteArray}{g:Nat}{q:Q}{w w':World}{X:Nat→Prop}(h:Xq S g q w)(ht:Touch X w w')(hg:¬X g):Xq S g q w':=⟨ht.blk h.blk hg,h.nK⟩
theorem Xq.fresh{S:ByteArray}{g:Nat}{q:Q}{w w':World}(h:Xq S g q w)(hf:ag w w'):Xq S g q w':=h.move hf fun h=>h
theorem Xq.lt{S:ByteArray}{g:Nat}{q:Q}{w:World}(h:Xq S g q w):g<w.heap.size:=h.blk.lt
theorem Xq.len{S:ByteArray}{g:Nat}{q:Q}{w:World}(h:Xq S g q w):q.l.length≤S.size:=by
 have:=h.nK.len;simpa using this
theorem Xq.stop{S:ByteArray}{g:Nat}{q:Q}{w:World}(h:Xq S g q w):Xq S g (dD q) (w.setCell ⟨g,3,none⟩ (.bool true)):=⟨h.blk.put 3 _,h.nK⟩
theorem Xq.qh{S:ByteArray}{g:Nat}{b:UInt8}{l:List UInt8}{k:Int}{z:Bool}{w:World}(h:Xq S g ⟨b::l,k,z⟩ w):Xq S g ⟨l,k,z⟩ (w.setCell ⟨g,1,none⟩ (.int .i64 (((S.size-(b::l).length:Nat):Int)+1))):=by
 obtain⟨hk,_,hk2⟩:=uZ (b:=b) (l:=l) h.nK;refine⟨?_,(aX.cons b).trans h.nK⟩;have:=h.blk.put 1 (.int .i64 (((S.size-(b::l).length:Nat):Int)+1));rw[show(((S.size-(b::l).length:Nat):Int)+1)=((S.size-l.length:Nat):Int) by rw[←hk2];rfl]at this⊢;exact this
theorem jb(S:ByteArray)(g:Nat)(q:Q)(w:World)(h:Xq S g q w):Calls Tryz.prog 121 #[.pointer (some ⟨g,0,none⟩)] w fun e w'=>e=.returned (.int .u8 ((aR q).toNat:Int))∧ag w w':=by
 obtain⟨q0,q1,q2,q3,_,_,_,_,hg⟩:=O.four h.blk;have HX:=I h;obtain⟨l,k,z⟩:=q;clear h;simp only at q0 q1 q2 q3;cases z with
 |true=>
  have HP:=I (show aR ⟨l,k,true⟩=0 from rfl);rw[HP.J];generalize S.size-l.length=j at*;go_enter Tryz.func121,Tryz.ntmps121;go_wp2
  go_quiet (fail)
  go_wp2
  go_ret;exact⟨rfl,(M _ _).drewN _⟩
 |false=>
  cases l with
  |nil=>
   have HP:=I (show aR ⟨[],k,false⟩=0 from rfl);rw[HP.J];rw[show S.size-([]:List UInt8).length=S.size from rfl]at q1;have d1:decide ((S.size:Int)≤(S.size:Int))=true:=dT (Int.le_refl _);have dG:decide (S.size≤S.size)=true:=dT (Nat.le_refl _);go_enter Tryz.func121,Tryz.ntmps121;go_wp2
   go_quiet (fail)
   go_wp2
   go_ret;exact⟨rfl,(M _ _).drewN _⟩
  |cons b l=>
   have HP:=I (show aR ⟨b::l,k,false⟩=b from rfl);rw[HP.J];obtain⟨hk,hb,_⟩:=uZ (b:=b) (l:=l) HX.J.nK;generalize S.size-(b::l).length=j at*;have hki:(j:Int)<(S.size:Int):=by omega
   have d1:decide ((S.size:Int)≤(j:Int))=false:=dF (by omega);have dG:decide (S.size≤j)=false:=dF (by omega);go_enter Tryz.func121,Tryz.ntmps121;go_wp2
   go_quiet (fail)
   go_wp2
   go_quiet (fail)
   go_wp2
   go_ret;exact⟨rfl,((M _ _).drewN _).drewN _⟩
theorem zS{q:Q}{c:UInt8}(hc:c≠0)(h:aR q=c):∃l,q=⟨c::l,q.k,false⟩:=by
 obtain⟨l,k,z⟩:=q;cases z with
 |true=>exact absurd h.symm hc
 |false=>
  cases l with
  |nil=>exact absurd h.symm hc
  |cons b l=>
   have h:b=c:=h;subst h;exact⟨l,rfl⟩
theorem oI(S:ByteArray)(g:Nat)(c:UInt8)(q:Q)(w:World)(hS:S.size≤1099511627776)(hc:c≠0)(h:Xq S g q w):Calls Tryz.prog 67 #[.pointer (some ⟨g,0,none⟩),.int .u8 (c.toNat:Int)] w fun e w'=>e=.returned (.tuple #[])∧Touch (fun b=>b=g) w w'∧Xq S g (aM c q) w':=by
 have HX:=I h;clear h
 by_cases hp:aR q=c
 ·have HT:=I (show aM c q={q with l:=q.l.drop 1} from if_pos hp)
  obtain⟨l,hq⟩:=zS hc hp;have hne:=jm (aR q) c hp;clear hp;go_enter Tryz.func67,Tryz.ntmps67;go_wp2_with fail
  refine(jb S g q w HX.J).mono ?_;rintro _ w1 ⟨rfl,hf⟩;have aF:=I (show Touch (fun b=>b=g) w w1 from hf.mono fun _ h=>h.elim);have bS:=I (HX.J.fresh hf);clear hf;obtain⟨k,hk⟩:∃k,k=q.k:=⟨_,rfl⟩;rw[←hk]at hq;clear hk;generalize aR q=pk at*;subst hq;obtain⟨q0,q1,q2,q3,f0,f1,f2,f3,hg⟩:=O.four bS.J.blk;have eT:=I bS.J.qh;have hle:=bS.J.len;simp only at q0 q1 q2 q3 hle;have hw:IntKind.i64.wrap (((S.size-(c::l).length:Nat):Int)+1)=((S.size-(c::l).length:Nat):Int)+1:=IntWalk.i64_in _ (by omega);generalize S.size-(c::l).length=j at*;go_wp2
  refine bodyPost_end (v:=.tuple #[]) (results_none rfl _ _ _) rfl ?_;rw[HT.J];exact⟨rfl,aF.J.setCell (p:=⟨g,1,none⟩) (.inl rfl) _,eT.J⟩
 ·have HT:=I (show aM c q=dD q from if_neg hp)
  have hne:=jU (aR q) c hp;clear hp;go_enter Tryz.func67,Tryz.ntmps67;go_wp2_with fail
  refine(jb S g q w HX.J).mono ?_;rintro _ w1 ⟨rfl,hf⟩;have aF:=I (show Touch (fun b=>b=g) w w1 from hf.mono fun _ h=>h.elim);have bS:=I (HX.J.fresh hf);clear hf;obtain⟨q0,q1,q2,q3,f0,f1,f2,f3,hg⟩:=O.four bS.J.blk;have eT:=I bS.J.stop;obtain⟨p0,p1,p2,p3,_,_,_,_,_⟩:=O.four eT.J.blk;rw[show(dD q).b=true from rfl]at p3;clear q0 q1 q2 p0 p1 p2;go_wp2
  refine bodyPost_end (v:=.tuple #[]) (results_none rfl _ _ _) rfl ?_;rw[HT.J];exact⟨rfl,aF.J.setCell (p:=⟨g,3,none⟩) (.inl rfl) _,eT.J⟩
end
end Go.Proofs.YtnbeemkfmlfgfaaGreatDoor
