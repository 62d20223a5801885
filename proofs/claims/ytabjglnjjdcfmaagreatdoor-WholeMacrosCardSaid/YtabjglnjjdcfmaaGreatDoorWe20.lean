/- Part 20 of 41 of a proof. No condition. -/
import Derived.Test.YtabjglnjjdcfmaaGreatDoorWe19
set_option maxRecDepth 100000
set_option maxHeartbeats 4000000
namespace Go.Proofs.YtabjglnjjdcfmaaGreatDoor
open _root_.Bool renaming and_eq_true->auY
open _root_.List renaming length_map->avh,mem_cons_of_mem->av5,map_map->avy,map_congr_left->av1,map_take->aw8,map_cons->avg,length_cons->au0,map_nil->avI,length_nil->ava,flatMap_cons->av0,length_append->auZ,append_assoc->au6,take_length->avm,isEmpty_iff->avV
open _root_.Nat renaming zero_le->au1,le_refl->au3
open _root_.Go.Proofs.Tryz
namespace U
open Tr (Nd)
theorem xe(r:Bool):∀(l:List Nd),Tr.iV r l=true->∀x∈l,((x.QI==1) !=r)=true/\Tr.form x=true
 |[],_,x,hx=>by cases hx
 |y::l,h,x,hx=>by
  rw[Tr.iV,auY,auY]at h
  rcases List.mem_cons.1 hx with rfl|hx
  .exact h.1
  .exact xe r l h.2 x hx
theorem Bb(x:Nd)(hf:Tr.form x=true)(hk:(x.QI==1)=false):∀r∈x.Qx,r.QI=1/\Tr.form r=true/\∀y∈r.Qx,(y.QI==1)=false/\Tr.form y=true/\Tr.count y<Tr.count r/\Tr.count r<Tr.count x:=by
 intro r hr;rw[Tr.kG,auY,hk]at hf;obtain⟨h1,h2⟩:=xe _ _ hf.2 r hr;have h1':r.QI=1:=asb
 refine⟨h1',h2,λy hy=>?_⟩;rw[Tr.kG,auY,h1']at h2;obtain⟨h3,h4⟩:=xe _ _ h2.2 y hy;have:=Tr.cB hy;have:=Tr.aN r;have:=Tr.cB hr;have:=Tr.aN x;exact⟨by simpa using h3,h4,by omega,by omega⟩
theorem Fs(k c:Int)(n:Nat)(h:Tr.bM k c n=true)(h1:(k==1)=false):
  (k=2/\n=0)\/(k=3/\n=0)\/(k=4/\n=0)\/(k=5/\n=2)\/(k=6/\n=2)\/(k=7/\n=2)\/(k=8/\n=2)\/(k=9/\n=3)\/(k=10/\n=1)\/(k=11/\n=1)\/(k=12/\1<=c/\c<=16/\1<=n/\n<=256/\(n:Int)%c=0):=by
 have h1':k≠1:=asb
 unfold Tr.bM at h
 by_cases ac:k=12
 .rw[if_pos ac]at h
  simp only[auY,decide_eq_true_eq]at h;exact .inr (.inr (.inr (.inr (.inr (.inr (.inr (.inr (.inr (.inr ⟨ac,h.1.1.1.1,h.1.1.1.2,h.1.1.2,h.1.2,h.2⟩)))))))))
 .rw[if_neg ac]at h
  by_cases hc:c≠0
  .rw[if_pos hc]at h;cases h
  .rw[if_neg hc,if_neg h1']at h
   by_cases ha:k=2\/k=3\/k=4
   .rw[if_pos ha,decide_eq_true_eq]at h
    rcases ha with ha|ha|ha
    .exact .inl ⟨ha,h⟩
    .exact .inr (.inl ⟨ha,h⟩)
    .exact .inr (.inr (.inl ⟨ha,h⟩))
   .rw[if_neg ha]at h
    by_cases hb:k=5\/k=6\/k=7\/k=8
    .rw[if_pos hb,decide_eq_true_eq]at h
     rcases hb with hb|hb|hb|hb
     .exact .inr arb
     .exact .inr (.inr arb)
     .exact .inr (.inr (.inr arb))
     .exact .inr (.inr (.inr (.inr arb)))
    .rw[if_neg hb]at h
     by_cases h9:k=9
     .rw[if_pos h9,decide_eq_true_eq]at h
      exact .inr (.inr (.inr (.inr (.inr (.inr (.inr (.inl ⟨h9,h⟩)))))))
     .rw[if_neg h9]at h
      by_cases hd:k=10\/k=11
      .rw[if_pos hd,decide_eq_true_eq]at h
       rcases hd with hd|hd
       .exact .inr as0
       .exact .inr (.inr as0)
      .rw[if_neg hd]at h;cases h
theorem VH(k:Int)(t:QJ)(h:Tr.dR k t=true)(hk:¬k=2/\¬k=3/\¬k=4/\¬k=10/\¬k=11):t=[]:=by
 unfold Tr.dR at h;rw[if_neg hk.1,if_neg hk.2.1,if_neg hk.2.2.1,if_neg hk.2.2.2.1,if_neg hk.2.2.2.2]at h;exact List.isEmpty_iff.1 h
theorem OG(t:QJ)(h:Tr.fence t=true):∃a b,t=[a,b]:=by
 unfold Tr.fence at h;split at h
 .exact⟨_,_,rfl⟩
 .cases h
theorem xK:(decide ((([]:aJ)).length<=8)&&jY [])=true:=rfl
theorem ahd(k:Int)(t:QJ)(c:Int)(ss:List (List E))(ht:Tr.dR k t=true)(hk:Tr.bM k c ss.length=true)(h1:(k==1)=false)(h:∀l∈ss,∀x∈l,Ia x):Ia (FY k t c ss):=by
 have hlen:∀(f:List E->E),(ss.map f).length=ss.length:=λf=>avh f
 rcases Fs k c ss.length hk h1 with⟨rfl,hn⟩|⟨rfl,hn⟩|⟨rfl,hn⟩|⟨rfl,hn⟩|⟨rfl,hn⟩|⟨rfl,hn⟩|⟨rfl,hn⟩|⟨rfl,hn⟩|⟨rfl,hn⟩|⟨rfl,hn⟩|⟨rfl,hc1,hc2,ag,aE,hm⟩
 .have hv:nX 2 t 0=true:=by rw[Ag _ _ _ (by omega),ht];rfl
  show Ia (.mk (if qX t then yt else yu) [] [] t);cases hl:qX t with
  |true=>exact Jh yt Pf t (by show(qX t&&true&&true&&nX 2 t 0)=true;rw[hl,hv];rfl) (tF _ _ ht)
  |false=>exact Jh yu Pf t (by show(!qX t&&true&&true&&nX 2 t 0)=true;rw[hl,hv];rfl) (tF _ _ ht)
 .exact Jh CU Pf t (by show(true&&true&&true&&nX 3 t 0)=true;rw[Ag _ _ _ (by omega),ht];rfl) (tF _ _ ht)
 .exact Jh qG Pf t (by show(true&&true&&true&&nX 4 t 0)=true;rw[Ag _ _ _ (by omega),ht];rfl) (tF _ _ ht)
 .exact rows_ok lq Pf Pf [] ss h aeB xK
 .match ss,hn,h with
  |[]::[b],_,h=>exact rows_ok fV Pf Pf [] [b] (λl hl=>h l (av5 _ hl)) rfl xK
  |(a0::a)::[b],_,h=>exact rows_ok fZ Pf Pf [] [b,a0::a] (λl hl=>h l arP) rfl xK
 .exact rows_ok mW Pf Pf [] ss h aeB xK
 .exact rows_ok mX Pf Pf [] ss h aeB xK
 .exact rows_ok gN Pf Pf [] ss h (by show(true&&decide ((ss.map (ax aj)).length=3)&&true&&decide (0=0))=true;rw[hlen,hn];rfl) xK
 .have hv:nX 10 t 1=true:=by rw[Ag _ _ _ (by omega),ht];rfl
  refine rows_ok bI Pf Pf [(ji,t)] ss h ?_ ?_
  .show(true&&decide ((ss.map (ax aj)).length=1)&&nX 10 t 1&&decide (1=1))=true
   rw[hlen,hn,hv];rfl
  .show(true&&((jH ji&&fu t)&&true&&decide ([ji].Nodup)))=true
   rw[tF _ _ ht];decide
 .obtain⟨a,b,rfl⟩:=OG t at5
  have hv:nX 11 [a,b] 1=true:=by rw[Ag _ _ _ (by omega),ht];rfl
  have VI:=tF _ _ ht
  have aa:fu [a]=true/\fu [b]=true:=by
   unfold fu at VI|-;simp only[List.all_cons,List.all_nil,Bool.and_true,auY]at VI|-;exact⟨⟨VI.1.1,rfl⟩,VI.1.2,rfl⟩
  refine rows_ok aV Pf Pf [(qH,[a]),(nR,[b])] ss h ?_ ?_
  .show(true&&decide ((ss.map (ax aj)).length=1)&&(true&&true&&nX 11 [a,b] 1)&&decide (2=2))=true
   rw[hlen,hn,hv];rfl
  .show(true&&((jH qH&&fu [a])&&((jH nR&&fu [b])&&true)&&decide ([qH,nR].Nodup)))=true
   rw[aa.1,aa.2];decide
 .have aB:(c.toNat:Int)=c:=by omega
  have ac:ss.length%c.toNat=0:=by
   have:((ss.length%c.toNat:Nat):Int)=0:=aqr
   omega
  have aF:=Fq c.toNat Zo ss ac;have ap:=KE c.toNat Zo ss ac
  have hmap:(GL c.toNat (ss.map (ax bq)))=(GL c.toNat ss).map λr=>r.map (ax bq):=by
   unfold GL;rw[avh,avy];refine av1 λr _=>?_
   show((ss.map (ax bq)).drop _).take _=((ss.drop _).take _).map _;rw[aw8,List.map_drop]
  show Ia (.mk bE [] ((GL c.toNat (ss.map (ax bq))).map (ax dU)) []);rw[hmap,avy];refine acL (GL c.toNat ss) c.toNat ?_ Zo Zo (λr hr=>(ap r hr).1) (λr hr l hl=>h l ((ap r hr).2 l hl));rw[aF.1];have:0<ss.length/c.toNat:=Nat.div_pos (Nat.le_of_dvd Zo (Nat.dvd_of_mod_eq_zero ac)) Zo;exact this
theorem MO:∀(m:Nat) (x:Nd),Tr.count x<=m->Tr.form x=true->(x.QI==1)=false->Ia (iX x):=by
 intro m
 induction m with
 |zero=>intro x h;have:=Tr.bX x;omega
 |succ m ih=>
  intro x hm hf hk;have hs:=Bb x hf hk;rw[Tr.kG,auY,auY]at hf;rw[qI];refine ahd _ _ _ _ hf.1.1 arF hk λl hl e he=>?_
  exact afA
theorem VJ(n:Nd)(h:Tr.valid n=true):oq (nT n)=true/\proper (nT n)=true:=by
 unfold Tr.valid at h;simp only[auY]at h;refine zS gU Pf _ λe he=>?_
 rw[zb]at he;obtain⟨y,hy,rfl⟩:=List.mem_map.1 he;have hf:=h.1.1.2;rw[Tr.kG,auY,h.1.1.1]at hf;obtain⟨h3,h4⟩:=xe _ _ hf.2 y hy;exact MO _ y PD h4 aeQ
def Fu:List (List E)->Nat
 |[]=>0
 |l::ls=>az l+Fu ls
def maxD:List (List E)->Nat
 |[]=>0
 |l::ls=>max (aX l) (maxD ls)
theorem Bc(nm:QJ)(ss:List (List E)):az (ss.map (ax nm))=ss.length+Fu ss:=by
 induction ss with
 |nil=>rfl
 |cons l ss ih=>
  rw[avg,az,ih,Fu,au0];show count (.mk nm [] l [])+_=_;rw[count];omega
theorem Bd(nm:QJ)(ss:List (List E)):aX (ss.map (ax nm))<=1+maxD ss:=by
 induction ss with
 |nil=>exact au1 _
 |cons l ss ih=>
  rw[avg,aX,maxD];have:depth (ax nm l)=aX l+1:=by show depth (.mk nm [] l [])=_;rw[depth]
  omega
theorem UR(nm:QJ)(gs:List (List E)):az (gs.map (ax nm))=gs.length+az gs.flatten:=by
 induction gs with
 |nil=>rfl
 |cons g gs ih=>
  rw[avg,az,ih,List.flatten_cons,Xe,au0];show count (.mk nm [] g [])+_=_;rw[count];omega
theorem UT(nm:QJ)(gs:List (List E)):aX (gs.map (ax nm))<=1+aX gs.flatten:=by
 induction gs with
 |nil=>exact au1 _
 |cons g gs ih=>
  rw[avg,aX,List.flatten_cons,EY];have:depth (ax nm g)=aX g+1:=by show depth (.mk nm [] g [])=_;rw[depth]
  omega
theorem aeY(k:Int)(t:QJ)(c:Int)(ss:List (List E))(hk:Tr.bM k c ss.length=true)(h1:(k==1)=false):
  count (FY k t c ss)<=1+2*ss.length+Fu ss/\depth (FY k t c ss)<=(if ss.length=0 then 1 else 3+maxD ss):=by
 have hrc:=Bc aj ss;have aa:=Bd aj ss
 rcases Fs k c ss.length hk h1 with⟨rfl,hn⟩|⟨rfl,hn⟩|⟨rfl,hn⟩|⟨rfl,hn⟩|⟨rfl,hn⟩|⟨rfl,hn⟩|⟨rfl,hn⟩|⟨rfl,hn⟩|⟨rfl,hn⟩|⟨rfl,hn⟩|⟨rfl,hc1,hc2,ag,aE,hm⟩
 .rw[if_pos hn]
  show count (.mk _ [] [] t)<=_/\depth (.mk _ [] [] t)<=_;rw[count,az,depth,aX];omega
 .rw[if_pos hn]
  show count (.mk _ [] [] t)<=_/\depth (.mk _ [] [] t)<=_;rw[count,az,depth,aX];omega
 .rw[if_pos hn]
  show count (.mk _ [] [] t)<=_/\depth (.mk _ [] [] t)<=_;rw[count,az,depth,aX];omega
 .rw[if_neg (by omega)]
  show count (.mk _ [] (ss.map (ax aj)) [])<=_/\depth (.mk _ [] (ss.map (ax aj)) [])<=_;exact arG
 .rw[if_neg (by omega)]
  match ss,hn with
  |[]::[b],_=>
   show count (.mk fV [] [ax aj b] [])<=_/\depth (.mk fV [] [ax aj b] [])<=_;have h2:=Bc aj [b];have h3:=Bd aj [b];simp only[avg,avI,Fu,maxD,au0,ava]at h2 h3|-;rw[count,depth,h2];simp only[az,aX]at*;omega
  |(a0::a)::[b],_=>
   show count (.mk fZ [] [ax aj b,ax aj (a0::a)] [])<=_/\depth (.mk fZ [] [ax aj b,ax aj (a0::a)] [])<=_;have h2:=Bc aj [b,a0::a];have h3:=Bd aj [b,a0::a];simp only[avg,avI,Fu,maxD,au0,ava]at h2 h3|-;rw[count,depth,h2];omega
 .rw[if_neg (by omega)]
  show count (.mk _ [] (ss.map (ax aj)) [])<=_/\depth (.mk _ [] (ss.map (ax aj)) [])<=_;exact arG
 .rw[if_neg (by omega)]
  show count (.mk _ [] (ss.map (ax aj)) [])<=_/\depth (.mk _ [] (ss.map (ax aj)) [])<=_;exact arG
 .rw[if_neg (by omega)]
  show count (.mk _ [] (ss.map (ax aj)) [])<=_/\depth (.mk _ [] (ss.map (ax aj)) [])<=_;exact arG
 .rw[if_neg (by omega)]
  show count (.mk _ _ (ss.map (ax aj)) [])<=_/\depth (.mk _ _ (ss.map (ax aj)) [])<=_;exact arG
 .rw[if_neg (by omega)]
  show count (.mk _ _ (ss.map (ax aj)) [])<=_/\depth (.mk _ _ (ss.map (ax aj)) [])<=_;exact arG
 .rw[if_neg (by omega)]
  have aB:(c.toNat:Int)=c:=Zo
  have ac:(ss.map (ax bq)).length%c.toNat=0:=by
   have:((ss.length%c.toNat:Nat):Int)=0:=aqr
   rw[avh];omega
  have hg:=Fq c.toNat Zo (ss.map (ax bq)) ac;have h2:=UR dU (GL c.toNat (ss.map (ax bq)));have h3:=UT dU (GL c.toNat (ss.map (ax bq)));have h4:=Bc bq ss;have h5:=Bd bq ss;have h6:ss.length/c.toNat<=ss.length:=Nat.div_le_self _ _;rw[hg.2]at h2 h3;rw[hg.1,avh]at h2;show count (.mk bE [] ((GL c.toNat (ss.map (ax bq))).map (ax dU)) [])<=_/\depth (.mk bE [] ((GL c.toNat (ss.map (ax bq))).map (ax dU)) [])<=_;exact arG
theorem Mi(l:List Nd)(h:∀y∈l,count (iX y)<=2*Tr.count y/\2*depth (iX y)<=3*Tr.depth y):az (eU l)<=2*Tr.az l/\2*aX (eU l)<=3*Tr.aX l:=by
 induction l with
 |nil=>rw[eU,az,aX];omega
 |cons y l ih=>
  have h1:=ih λz hz=>h z (av5 _ hz)
  have h2:=h y alH;rw[eU,az,aX,Tr.az,Tr.aX];omega
theorem aas:∀(m:Nat) (x:Nd),Tr.count x<=m->Tr.form x=true->(x.QI==1)=false->count (iX x)<=2*Tr.count x/\2*depth (iX x)<=3*Tr.depth x:=by
 intro m
 induction m with
 |zero=>intro x h;have:=Tr.bX x;omega
 |succ m ih=>
  intro x hm hf hk;have hs:=Bb x hf hk;rw[Tr.kG,auY,auY]at hf;rw[qI];have hz:=aeY x.QI x.QG x.ah (nS x.Qx) arF hk;have hl:(nS x.Qx).length=x.Qx.length:=by rw[iM,avh]
  have aa:∀l:List Nd,(∀r∈l,r∈x.Qx)->l.length+Fu (nS l)<=2*Tr.az l-l.length/\l.length<=Tr.az l/\(l≠[]->2*maxD (nS l)+3<=3*Tr.aX l):=by
   intro l
   induction l with
   |nil=>intro _;rw[nS,Fu,Tr.az];exact⟨au3 _,au3 _,λh=>absurd rfl h⟩
   |cons r l ihl=>
    intro hm';obtain⟨h1,h2,h3⟩:=ihl λz hz=>hm' z (av5 _ hz)
    have hr:=hs r (hm' r alH)
    have h4:=Mi r.Qx λy hy=>by
     obtain⟨g1,g2,g3,g4⟩:=hr.2.2 y hy;exact ih y Zo g2 g1
    rw[iM,avg,<-iM,Fu,maxD,Tr.az,Tr.aX,Tr.aN r,Tr.oN r,au0];refine⟨by omega,by omega,λ_=>?_⟩
    by_cases hl0:l=[]
    .subst hl0
     rw[nS,maxD,Tr.aX];omega
    .have:=h3 hl0
     omega
  obtain⟨h1,h2,h3⟩:=aa x.Qx λr hr=>hr
  rw[Tr.aN x,Tr.oN x];refine⟨by omega,?_⟩
  by_cases h0:(nS x.Qx).length=0
  .rw[if_pos h0]at hz;omega
  .rw[if_neg h0]at hz
   have:=h3 (λh=>by rw[hl,h]at h0;exact h0 rfl);omega
theorem OH(n:Nd)(h:Tr.valid n=true):count (nT n)<=2*Tr.count n/\2*depth (nT n)<=3*Tr.depth n:=by
 unfold Tr.valid at h;simp only[auY]at h;have hf:=h.1.1.2;rw[Tr.kG,auY,h.1.1.1]at hf
 have:=Mi n.Qx λy hy=>by
  obtain⟨h3,h4⟩:=xe _ _ hf.2 y hy;exact aas _ y PD h4 aeQ
 show count (.mk gU [] (eU n.Qx) [])<=_/\2*depth (.mk gU [] (eU n.Qx) [])<=_;rw[count,depth,Tr.aN n,Tr.oN n];omega
theorem Fv(n:Nd)(h:Tr.valid n=true):valid (nT n)=true:=by
 have h1:=VJ n h;have h2:=OH n h;unfold Tr.valid at h;simp only[auY,decide_eq_true_eq]at h;unfold valid;rw[h1.2,Bool.true_and,auY,decide_eq_true_eq,decide_eq_true_eq];omega
end U
namespace U
open Tr (Nd)
theorem Bp(ss:List (List E)):iN (ss.map (ax aj))=ss.map λl=>.mk 1 [] 0 (bN l):=by
 rw[sK,avy];exact av1 λl _=>rfl
theorem X4(gs:List (List (List E))):jL ((gs.map λr=>r.map (ax bq)).map (ax dU))=gs.flatten.map λl=>.mk 1 [] 0 (bN l):=by
 rw[Fh]
 induction gs with
 |nil=>rfl
 |cons r gs ih=>
  rw[avg,avg,av0,ih,List.flatten_cons,List.map_append]
  congr 1
  show iN (r.map (ax bq))=_;rw[sK,avy];exact av1 λl _=>rfl
theorem aeZ(k:Int)(t:QJ)(c:Int)(ss:List (List E))(ht:Tr.dR k t=true)(hk:Tr.bM k c ss.length=true)(h1:(k==1)=false):dX (FY k t c ss)=.mk k t c (ss.map λl=>.mk 1 [] 0 (bN l)):=by
 have hc0:k≠12->c=0:=by
  intro h;have h2:=hk;unfold Tr.bM at h2;rw[if_neg h]at h2
  by_cases hc:c=0
  .exact hc
  .rw[if_pos hc]at h2;cases h2
 have ab:=VH k t ht
 rcases Fs k c ss.length hk h1 with⟨rfl,hn⟩|⟨rfl,hn⟩|⟨rfl,hn⟩|⟨rfl,hn⟩|⟨rfl,hn⟩|⟨rfl,hn⟩|⟨rfl,hn⟩|⟨rfl,hn⟩|⟨rfl,hn⟩|⟨rfl,hn⟩|⟨rfl,hc1,hc2,ag,aE,hm⟩
 .rw[hc0 (by decide),List.length_eq_zero_iff.1 hn]
  show dX (.mk (if qX t then yt else yu) [] [] t)=.mk 2 t 0 [];cases qX t<;>rfl
 .rw[hc0 (by decide),List.length_eq_zero_iff.1 hn];rfl
 .rw[hc0 (by decide),List.length_eq_zero_iff.1 hn];rfl
 .rw[hc0 (by decide),ab (by decide)]
  show Nd.mk 5 [] 0 (iN (ss.map (ax aj)))=_;rw[Bp]
 .rw[hc0 (by decide),ab (by decide)]
  match ss,hn with
  |[]::[b],_=>rfl
  |(a0::a)::[b],_=>rfl
 .rw[hc0 (by decide),ab (by decide)]
  show Nd.mk 7 [] 0 (iN (ss.map (ax aj)))=_;rw[Bp]
 .rw[hc0 (by decide),ab (by decide)]
  show Nd.mk 8 [] 0 (iN (ss.map (ax aj)))=_;rw[Bp]
 .rw[hc0 (by decide),ab (by decide)]
  show Nd.mk 9 [] 0 (iN (ss.map (ax aj)))=_;rw[Bp]
 .rw[hc0 (by decide)]
  match ss,hn with
  |[l],_=>rfl
 .rw[hc0 (by decide)]
  obtain⟨a,b,rfl⟩:=OG t at5
  match ss,hn with
  |[l],_=>rfl
 .rw[ab (by decide)]
  have aB:(c.toNat:Int)=c:=Zo
  have ac:ss.length%c.toNat=0:=by
   have:((ss.length%c.toNat:Nat):Int)=0:=aqr
   omega
  have aF:=Fq c.toNat Zo ss ac;have ap:=KE c.toNat Zo ss ac
  have hmap:(GL c.toNat (ss.map (ax bq)))=(GL c.toNat ss).map λr=>r.map (ax bq):=by
   unfold GL;rw[avh,avy];refine av1 λr _=>?_
   show((ss.map (ax bq)).drop _).take _=((ss.drop _).take _).map _;rw[aw8,List.map_drop]
  have ahe:wT (((GL c.toNat ss).map λr=>r.map (ax bq)).map (ax dU))=c.toNat:=by
   have aa:0<(GL c.toNat ss).length:=by
    rw[aF.1];exact Nat.div_pos (Nat.le_of_dvd Zo (Nat.dvd_of_mod_eq_zero ac)) Zo
   cases hg:GL c.toNat ss with
   |nil=>rw[hg]at aa;cases aa
   |cons r gs=>
    have:=(ap r (by rw[hg];exact List.mem_cons_self ..)).1;show(r.map (ax bq)).length=_;rw[avh,this]
  show Nd.mk 12 [] (wT ((GL c.toNat (ss.map (ax bq))).map (ax dU)):Int) (jL ((GL c.toNat (ss.map (ax bq))).map (ax dU)))=_;rw[hmap,ahe,X4,aF.2,aB]
theorem RN(r:Nd)(h1:r.QI=1)(hf:Tr.form r=true):r=.mk 1 [] 0 r.Qx:=by
 rw[Tr.kG,auY,auY,h1]at hf;have ht:r.QG=[]:=VH 1 r.QG hf.1.1 Pf
 have hc:r.ah=0:=by
  have h2:=hf.1.2;unfold Tr.bM at h2;rw[if_neg (by decide)]at h2
  by_cases hc:r.ah=0
  .exact hc
  .rw[if_pos hc]at h2;cases h2
 obtain⟨k,t,c,ks⟩:=r;show Nd.mk k t c ks=_;replace h1:k=1:=h1;replace ht:t=[]:=ht;replace hc:c=0:=hc;subst h1 ht hc;rfl
theorem Mj(l:List Nd)(h:∀x∈l,dX (iX x)=x):bN (eU l)=l:=by
 rw[Fg,zb,avy]
 conv=>rhs;rw[<-List.map_id l]
 exact av1 h
theorem aat:∀(m:Nat) (x:Nd),Tr.count x<=m->Tr.form x=true->(x.QI==1)=false->dX (iX x)=x:=by
 intro m
 induction m with
 |zero=>intro x h;have:=Tr.bX x;omega
 |succ m ih=>
  intro x hm hf hk;have hs:=Bb x hf hk;have hf2:=hf;rw[Tr.kG,auY,auY]at hf2;rw[qI,aeZ _ _ _ _ hf2.1.1 (by rw[iM,avh];exact hf2.1.2) hk,iM,avy]
  have ar:(x.Qx.map ((λl=>Nd.mk 1 [] 0 (bN l))∘λn=>eU n.Qx))=x.Qx:=by
   conv=>rhs;rw[<-List.map_id x.Qx]
   refine av1 λr hr=>?_
   obtain⟨g1,g2,g3⟩:=hs r hr;show Nd.mk 1 [] 0 (bN (eU r.Qx))=r
   rw[Mj r.Qx λy hy=>by
    obtain⟨h1,h2,h3,h4⟩:=g3 y hy;exact ih y Zo h2 h1]
   exact(RN r g1 g2).symm
  rw[ar];cases x;rfl
theorem aau(n:Nd)(h:Tr.valid n=true):eG (nT n)=n:=by
 have h2:=h;unfold Tr.valid at h2;simp only[auY]at h2;have hk:n.QI=1:=by simpa using h2.1.1.1
 have hf:=h2.1.1.2;show Nd.mk 1 [] 0 (bN (eU n.Qx))=n
 rw[Mj n.Qx λy hy=>by
  have hf2:=hf;rw[Tr.kG,auY,h2.1.1.1]at hf2;obtain⟨h3,h4⟩:=xe _ _ hf2.2 y hy;exact aat _ y PD h4 aeQ]
 exact(RN n hk hf).symm
end U
section
open Go.RowKit
open Tr (Nd)
open U (E aJ XH Jf eG bN)
theorem UU(m:Nd)(hm:Tr.valid m=true)(va vk:Value)(w:W_)(hr:jd w (U.nT m) va vk):
  C_ 21 #[ev (U.nT m) va vk] w λx w'=>∃v,x=.returned (.tuple #[v,V 0,V 0])/\nW w w' m v:=by
 have ad:=U.Fv m hm;have ab:=(U.VJ m hm).1;have hb:=U.aau m hm;have aI:(U.nT m).name=U.gU:=rfl;generalize U.nT m=e at*;obtain⟨A,ca,aa⟩:=hr.1.slice;obtain⟨B,cb,ac⟩:=hr.2.1.slice;have HR:=I hr;have HV:=I (λ(w:W_) (h:jd w e va vk)=>Mg e va vk w h);rw[ad]at HV;have gL:=I (λ(w:W_) (g:Nat) (h:gZ w g 0 e va vk)=>XM e g 0 va vk w h aI ab)
 have aL:=I (λ(w:W_) (g:Nat) (h:gZ w g 0 e va vk)=>show C_ 39 #[.pointer (A_ g 0)] w λx w'=>∃v,x=.returned v/\nW w w' m v from by
  have h2:=aaq e g 0 va vk w h (H9 e ab (.inl aI)) (by unfold U.valid at ad;simp only[auY,decide_eq_true_eq]at ad;omega);rw[hb]at h2;exact h2)
 have HM:=I hm;clear hr ad ab hb aI hm;obtain⟨n,Gg,ks,t⟩:=e;replace aa:va=.slice A Gg.length ca:=aa;replace ac:vk=.slice B ks.length cb:=ac;subst aa;subst ac;unfold ev at*;simp only[E.name,E.QG]at*;go_enter func21,ntmps21;go_wp2_with fail
 have hb0:=(af.new w 62 #[S_ n,.slice A Gg.length ca,.slice B ks.length cb,S_ t]).alloc (.cells ZN 31);have hb1:=af.new2 w (.cells #[S_ n,.slice A Gg.length ca,.slice B ks.length cb,S_ t] 62) 31 ZN;refine(HV _ (HR.QH aui)).mono ?_;rintro _ w1 ⟨rfl,ae⟩;have aK:=I (Touch.pre (Touch.pre ae));have aB:=I (ae.QN hb0 λh=>h);have aC:=I (ae.QN hb1 λh=>h);clear ae hb0 hb1;go_wp2_with fail
 obtain⟨q0,q1,q2,q3,_,_,_,_,hg⟩:=af.QM aB;refine(gL w1 w.heap.size ⟨hg,q0,q1,q2,q3,HR.QH aK⟩).mono ?_;rintro _ w2 ⟨rfl,hf2⟩;have bW:=I (aK.trans hf2);have aiZ:=I (hf2.QN aB λh=>h);have aq:=I (hf2.QN aC λh=>h);clear hf2 q0 q1 q2 q3 hg;go_wp2_with fail
 obtain⟨q0,q1,q2,q3,_,_,_,_,hg⟩:=af.QM aiZ;refine(aL w2 w.heap.size ⟨hg,q0,q1,q2,q3,HR.QH bW⟩).mono ?_;rintro _ w3 ⟨v3,rfl,sl,rfl,hf3,au,qd⟩;obtain⟨Ar,cr,rfl⟩:=qd.now.slice;have bJ:=I aro;have ai:=I (hf3.QN aq λh=>h);have zh:=I (show dz (λk=>k<w2.heap.size) w3 λW=>aD W m.Qx (.slice Ar m.Qx.length cr)from qd);have wL:=I au;have hz2:=bW.size;have ag:=I (λ(W:W_) (h:aD W m.Qx (.slice Ar m.Qx.length cr))=>CQ m _ W h au);rw[HM.out]at ag;have G9:=I aq.lt;clear hf3 qd q0 q1 q2 q3 hg au;unfold nv;obtain⟨rk,rt,rc,Ib⟩:=m;simp only[Nd.QI,Nd.QG,Nd.ah,Nd.Qx]at*;go_wp2_with fail
 have ao:=(M (λ_=>False) w3).alloc (.cells #[V rk,S_ rt,V rc,.slice Ar Ib.length cr] 31);have av:=af.new w3 31 #[V rk,S_ rt,V rc,.slice Ar Ib.length cr];refine(ag _ (zh _ (ao.mono λ_ h=>h.elim))).mono ?_;rintro _ w4 ⟨rfl,jf⟩;have acM:=I (ao.trans jf);have eZ:=I (bJ.trans acM);have iB:=I (acM.QN ai λh=>h);have HN4:=I (jf.QN av λh=>h);have Kz:=I (zh.QH acM);clear jf ao av;obtain⟨p0,p1,p2,p3,y0,y1,y2,y3,hg1⟩:=af.QM iB;obtain⟨u0,u1,u2,u3,_,_,_,_,hgn⟩:=af.QM HN4;go_wp2_with fail
 obtain⟨r0,r1,r2,r3,_,_,_,_,_⟩:=af.QM (iB.gH (V rk) (S_ rt) (V rc) (.slice Ar Ib.length cr));simp only[aO]at r0 r1 r2 r3;refine bodyPost_ret (v:=.tuple #[.agg #[V rk,S_ rt,V rc,.slice Ar Ib.length cr],V 0,V 0]) (by simp[results,results21,go_sem,r0,r1,r2,r3]) rfl ?_;refine⟨_,rfl,.slice Ar Ib.length cr,rfl,Touch.aO eZ Ls _ _ _ _,wL,?_⟩;exact Kz.step ((M (λk=>k=w.heap.size+1) w4).aO Wh _ _ _ _) (λi _ hi=>by have hi:i=w.heap.size+1:=hi;have:=G9.out;omega) atZ
end
namespace U
open Tr (Nd)
theorem Ji(l:List UInt8):(dV l).length<=6*l.length:=by
 induction l with
 |nil=>exact au3 _
 |cons b l ih=>
  have h:(iH b).length<=6:=by unfold iH;(repeat' split)<;>simp
  have h2:(dV (b::l)).length=(iH b).length+(dV l).length:=by unfold dV;rw[av0,auZ]
  rw[h2,au0];omega
def Sh(e:E):Prop:=(fB e).length<=3700*count e
theorem ae0(l:List E)(h:∀x∈l,Sh x):(gF l).length<=3700*az l:=by
 induction l with
 |nil=>rw[gF];exact au1 _
 |cons x l ih=>
  have h1:=h x alH;have h2:=ih λy hy=>h y (av5 _ hy)
  unfold Sh at h1;rw[gF,az,auZ];omega
theorem Fw(n:QJ)(a:aJ)(ks:List E)(t:QJ)(hn:n.length<=20)(ha:(dw a).length<=2430)(ht:t.length<=200)(h:∀x∈ks,Sh x):Sh (.mk n a ks t):=by
 have h1:=ae0 ks h;have h2:=Ji t;unfold Sh;rw[fB,count];split
 .exact atB
 .exact atB
theorem vZ(n m:QJ)(a:aJ)(hn:n.length<=20)(hm:m.length<=20)(ha:(dw a).length<=2430)(ss:List (List E))(h:∀l∈ss,∀x∈l,Sh x):Sh (.mk n a (ss.map (ax m)) []):=by
 refine Fw n a _ [] hn ha Pf λx hx=>?_
 obtain⟨l,hl,rfl⟩:=List.mem_map.1 hx;exact Fw m [] l [] hm Pf Pf (h l hl)
theorem aav{s:QJ}(h:fu s=true):s.length<=200:=by
 unfold fu at h;rw[auY,decide_eq_true_eq]at h;exact h.2
theorem ahf(k:Int)(t:QJ)(c:Int)(ss:List (List E))(ht:Tr.dR k t=true)(hk:Tr.bM k c ss.length=true)(h1:(k==1)=false)(h:∀l∈ss,∀x∈l,Sh x):Sh (FY k t c ss):=by
 have au:=aav (tF _ _ ht)
 rcases Fs k c ss.length hk h1 with⟨rfl,hn⟩|⟨rfl,hn⟩|⟨rfl,hn⟩|⟨rfl,hn⟩|⟨rfl,hn⟩|⟨rfl,hn⟩|⟨rfl,hn⟩|⟨rfl,hn⟩|⟨rfl,hn⟩|⟨rfl,hn⟩|⟨rfl,hc1,hc2,ag,aE,hm⟩
 .show Sh (.mk (if qX t then yt else yu) [] [] t)
  exact Fw _ _ _ _ (by cases qX t<;>decide) Pf au λ_ hx=>nomatch hx
 .exact Fw CU [] [] t Pf Pf au λ_ hx=>nomatch hx
 .exact Fw qG [] [] t Pf Pf au λ_ hx=>nomatch hx
 .exact vZ lq aj [] Pf Pf Pf ss h
 .match ss,hn,h with
  |[]::[b],_,h=>exact vZ fV aj [] Pf Pf Pf [b] λl hl=>h l (av5 _ hl)
  |(a0::a)::[b],_,h=>exact vZ fZ aj [] Pf Pf Pf [b,a0::a] λl hl=>h l arP
 .exact vZ mW aj [] Pf Pf Pf ss h
 .exact vZ mX aj [] Pf Pf Pf ss h
 .exact vZ gN aj [] Pf Pf Pf ss h
 .refine vZ bI aj [(ji,t)] Pf Pf ?_ ss h
  have h6:=Ji t;unfold dw AV;simp only[av0,List.flatMap_nil,auZ,au0,ava];have:ji.length=6:=rfl;omega
 .refine vZ aV aj [(qH,t.take 1),(nR,t.drop 1)] Pf Pf ?_ ss h
  have h6:=Ji (t.take 1);have h7:=Ji (t.drop 1);have h8:(t.take 1).length<=1:=by rw[List.length_take];omega
  have h9:(t.drop 1).length<=200:=by rw[List.length_drop];omega
  unfold dw AV;simp only[av0,List.flatMap_nil,auZ,au0,ava];have:qH.length=4:=rfl;have:nR.length=5:=rfl;omega
 .have ac:ss.length%c.toNat=0:=by
   have aB:(c.toNat:Int)=c:=Zo
   have:((ss.length%c.toNat:Nat):Int)=0:=aqr
   omega
  have ap:=KE c.toNat Zo ss ac
  have hmap:(GL c.toNat (ss.map (ax bq)))=(GL c.toNat ss).map λr=>r.map (ax bq):=by
   unfold GL;rw[avh,avy];refine av1 λr _=>?_
   show((ss.map (ax bq)).drop _).take _=((ss.drop _).take _).map _;rw[aw8,List.map_drop]
  show Sh (.mk bE [] ((GL c.toNat (ss.map (ax bq))).map (ax dU)) []);rw[hmap,avy];refine Fw bE [] _ [] Pf Pf Pf λx hx=>?_
  obtain⟨r,hr,rfl⟩:=List.mem_map.1 hx;exact vZ dU bq [] Pf Pf Pf r λl hl=>h l ((ap r hr).2 l hl)
theorem ae1:∀(m:Nat) (x:Nd),Tr.count x<=m->Tr.form x=true->(x.QI==1)=false->Sh (iX x):=by
 intro m
 induction m with
 |zero=>intro x h;have:=Tr.bX x;omega
 |succ m ih=>
  intro x hm hf hk;have hs:=Bb x hf hk;rw[Tr.kG,auY,auY]at hf;rw[qI];refine ahf _ _ _ _ hf.1.1 arF hk λl hl e he=>?_
  exact afA
theorem Mk(n:Nd)(h:Tr.valid n=true):(fB (nT n)).length<=8000000:=by
 have h2:=(OH n h).1
 have hc:Tr.count n<=1000:=by
  exact ase
 have h3:Sh (nT n):=by
  refine Fw gU [] (eU n.Qx) [] Pf Pf Pf λx hx=>?_
  unfold Tr.valid at h;simp only[auY]at h;rw[zb]at hx;obtain⟨y,hy,rfl⟩:=List.mem_map.1 hx;have hf:=h.1.1.2;rw[Tr.kG,auY,h.1.1.1]at hf;obtain⟨h3,h4⟩:=xe _ _ hf.2 y hy;exact ae1 _ y PD h4 aeQ
 unfold Sh at h3;omega
end U
section
open Go.RowKit
open Tr (Nd)
open U (E aJ fB XH Jf nT)
theorem RO(m:Nd)(hv:Tr.valid m=true)(w:W_):
  C_ 10 #[S_ (fB (nT m))] w λx w'=>∃v,x=.returned (.tuple #[v,V 0,V 0])/\nW w w' m v:=by
 have Cj:=I (λ(W:W_)=>XF ⟨(fB (nT m)).toArray⟩ (nT m) [] _ W (show(fB (nT m)).length<=_ from Nat.le_trans (U.Mk m hv) Pf) (Xp.M9 _ (U.Fv m hv)));have fU:=I (λ(va vk:Value) (W:W_) (h:jd W (nT m) va vk)=>UU m hv va vk W h);have aB:=I abR;have jQ:=I ((M (λ_=>False) w).alloc (.cells ZN 31));generalize fB (nT m)=T at*;generalize nT m=e at*;obtain⟨n,Gg,ks,t⟩:=e;clear hv;unfold ev at fU Cj;simp only[E.name,E.QG]at fU Cj;go_enter func10,ntmps10;go_wp2_with fail
 generalize (w.alloc (.cells ZN 31))=w0 at aB jQ|-;refine(Cj _).mono ?_;rintro _ w1 ⟨va,vk,rfl,ae,X5⟩;have aK:=I (jQ.trans ae);have aC:=I (ae.QN aB λh=>h);have ab:=I X5.now;obtain⟨A,ca,aa⟩:=X5.now.1.slice;obtain⟨B,cb,ac⟩:=X5.now.2.1.slice;clear ae X5 jQ aB Cj;replace aa:va=.slice A Gg.length ca:=aa;replace ac:vk=.slice B ks.length cb:=ac;subst aa;subst ac;obtain⟨rk,rt,rc,Ib⟩:=m;have ad:=I ((M (λ_=>False) w1).alloc (.cells #[S_ n,.slice A Gg.length ca,.slice B ks.length cb,S_ t] 62));have oI:=I (af.new w1 62 #[S_ n,.slice A Gg.length ca,.slice B ks.length cb,S_ t]);go_wp2_with fail
 have bW:=I (aK.trans ad);have aq:=I (ad.QN aC λh=>h);have ar:=I (ab.QH ad);clear aK aC ab ad oI;generalize (w1.alloc (.cells #[S_ n,.slice A Gg.length ca,.slice B ks.length cb,S_ t] 62))=w2 at bW aq ar|-;refine(fU _ _ _ ar).mono ?_;rintro _ w3 ⟨v3,rfl,s3,rfl,hf3,af5,qd⟩;obtain⟨A3,c3,rfl⟩:=qd.now.slice;have bJ:=I aro;have ai:=I (hf3.QN aq λh=>h);have wL:=I af5;have G9:=I aq.lt;have HST:=I (show dz (λk=>k<w2.heap.size) w3 λW=>aD W Ib (.slice A3 Ib.length c3)from qd);have hz2:=bW.size;clear hf3 qd af5;obtain⟨p0,p1,p2,p3,y0,y1,y2,y3,hg1⟩:=af.QM ai;unfold nv;simp only[Nd.QI,Nd.QG,Nd.ah,Nd.Qx];go_wp2_with fail
 obtain⟨r0,r1,r2,r3,_,_,_,_,_⟩:=af.QM (ai.gH (V rk) (S_ rt) (V rc) (.slice A3 Ib.length c3));simp only[aO]at r0 r1 r2 r3;refine bodyPost_ret (v:=.tuple #[.agg #[V rk,S_ rt,V rc,.slice A3 Ib.length c3],V 0,V 0]) (by simp[results,results10,go_sem,r0,r1,r2,r3]) rfl ?_;refine⟨_,rfl,.slice A3 Ib.length c3,rfl,Touch.aO bJ Ls _ _ _ _,wL,?_⟩;exact HST.step ((M (λk=>k=w.heap.size) w3).aO Wh _ _ _ _) (λi _ hi=>by have hi:i=w.heap.size:=hi;have:=G9.out;omega) atZ
end
section
open Go.RowKit
open U (E aJ dV iH)
def Kb(w w':W_):Prop:=∀k T cs,T≠5->T≠54->af w k T cs->af w' k T cs
theorem Kb.refl(w:W_):Kb w w:=λ_ _ _ _ _ h=>h
theorem Kb.trans{a b c:W_}(h:Kb a b)(h':Kb b c):Kb a c:=λk T cs h1 h2 h3=>h' k T cs h1 h2 (h k T cs h1 h2 h3)
structure BW(w0:W_)(g:Nat)(l:List UInt8)(w:W_):Prop where
 dW:∃cs v,uU w (g+1) g 0 54 cs v l/\cs.size=2
 xV:ag w0 w
 le:w0.heap.size<=g
theorem BW.lt{w0 w:W_}{g:Nat}{l:List UInt8}(h:BW w0 g l w):g<w.heap.size:=by
 obtain⟨cs,v,h1,_⟩:=h.dW;exact h1.lt
theorem aaw{w:W_}{B b o:Nat}{T:TypeId}{cs:Array Value}{v:Value}{l:List UInt8}(h:uU w B b o T cs v l){w':W_}(hf:ag w w'):uU w' B b o T cs v l:=
 ⟨hf.QN h.QN PR,h.addr,h.buf,aQ h.own hf anI,h.ne,h.J7⟩
theorem BW.QH{w0 w w':W_}{g:Nat}{l:List UInt8}(h:BW w0 g l w)(hf:ag w w'):BW w0 g l w':=by
 obtain⟨cs,v,h1,h2⟩:=h.dW;exact⟨⟨cs,v,aaw h1 hf,h2⟩,h.xV.trans hf,h.le⟩
theorem ag.kb{w w':W_}(hf:ag w w'):Kb w w':=λ_ _ _ _ _ h=>hf.QN h λh=>h
theorem KF{w:W_}{k:Nat}{T T':TypeId}{cs cs':Array Value}{s:Nat×Nat}(h:af w k T cs)(h':w.heap[k]?=some (.cells cs' T' s)):T=T':=by
 unfold af at h;rw[h]at h';cases h';rfl
theorem BW.step{w0 w w':W_}{g:Nat}{l:List UInt8}{cs:Array Value}{v:Value}(h:BW w0 g l w)(hb:uU w (g+1) g 0 54 cs v l){m:List UInt8}{cs':Array Value}{v':Value}
  (hb':uU w' (g+1) g 0 54 cs' v' m) (hs:cs'.size=2) (ht:Touch (λk=>k=g\/v.ownBlock=some k) w w'):BW w0 g m w'/\Kb w w':=by
 have hl:=h.le;refine⟨⟨⟨cs',v',hb',hs⟩,h.xV.trans' ht ?_,h.le⟩,λk T ds h1 h2 h3=>ht.QN h3 ?_⟩
 .rintro i (h1|h1)
  .right;omega
  .right;have:=(hb.own.lt _ h1).1;omega
 .rintro(h4|h4)
  .subst h4
   exact h2 (KF h3 hb.QN)
  .obtain⟨_,h5⟩:=hb.own
   rcases h5 with⟨h5,_⟩|⟨g',cap,cur,h5,_,h6,_⟩
   .rw[h5]at h4;cases h4
   .rw[h5]at h4
    cases h4;exact h1 (KF h3 h6)
theorem Nc{w0 w:W_}{g:Nat}{l:List UInt8}(h:BW w0 g l w)(x:Int)(c:UInt8)(hx:x=c.toNat)(hl:l.length+1<=140737488355328):
  C_ 71 #[.pointer (A_ g 0),.int .u8 x] w λe w'=>e=.returned .nilIface/\BW w0 g (l++[c]) w'/\Kb w w':=by
 obtain⟨cs,v,hb,hs⟩:=h.dW;refine(iP hb (by rw[hs];exact liesBuilder) x c hx hl (by have:=h.lt;omega)).mono ?_;rintro _ w' ⟨rfl,v',hb',ht⟩;exact⟨rfl,h.step hb hb' auw ht⟩
theorem Ah{w0 w:W_}{g:Nat}{l:List UInt8}(h:BW w0 g l w)(m:List UInt8)(hl:l.length+m.length<=140737488355328):
  C_ 69 #[.pointer (A_ g 0),S_ m] w λe w'=>e=.returned (.tuple #[V m.length,.nilIface])/\BW w0 g (l++m) w'/\Kb w w':=by
 obtain⟨cs,v,hb,hs⟩:=h.dW;refine(uL hb Zo (by rw[hs];exact liesBuilder) ⟨m.toArray⟩ (by show _+m.toArray.size<=_;simpa using hl) (by have:=h.lt;omega)).mono ?_;rintro _ w' ⟨rfl,v',hb',ht⟩;exact⟨by show _=Ending.returned (.tuple #[V (m.length:Nat),.nilIface]);simp[ByteArray.size],h.step hb (by simpa using hb') auw ht⟩
theorem aax{w0 w:W_}{g:Nat}{l:List UInt8}(h:BW w0 g l w):
  C_ 17 #[.pointer (A_ g 0)] w λe w'=>e=.returned (S_ l)/\ag w0 w'/\Kb w w':=by
 obtain⟨cs,v,hb,hs⟩:=h.dW;have hl:=h.le;refine(zI hb).mono ?_;rintro _ w' ⟨rfl,ht⟩;refine⟨rfl,h.xV.trans' ht (λi h1=>by right;have:=(hb.own.lt _ h1).1;omega),λk T ds h1 h2 h3=>ht.QN h3 λh4=>?_⟩;obtain⟨_,h5⟩:=hb.own
 rcases h5 with⟨h5,_⟩|⟨g',cap,cur,h5,_,h6,_⟩
 .rw[h5]at h4;cases h4
 .rw[h5]at h4
  cases h4;exact h1 (KF h3 h6)
theorem af6(w0 w:W_)(h:ag w0 w):BW w0 w.heap.size [] (w.alloc (.cells #[.pointer none,N_] 54)):=
 ⟨⟨_,_,⟨af.new _ _ _,.inl rfl,rfl,World.ownsRow_nil _ _ _ _,by simp[Value.ownBlock],λ_=>rfl⟩,rfl⟩,h.alloc _,h.size⟩
theorem ae2(s:List UInt8)(j:Nat):(dV (s.take j)).length<=(dV s).length:=by
 have:dV s=dV (s.take j)++dV (s.drop j):=by unfold U.dV;rw[<-List.flatMap_append,List.take_append_drop]
 exact auu
theorem aay(s:List UInt8)(j:Nat)(h:j<s.length):dV (s.take (j+1))=dV (s.take j)++iH s[j]:=by
 rw[List.take_succ_eq_append_getElem h,U.Z6]
theorem Ml(s:List UInt8)(w0:W_)(g:Nat)(l:List UInt8)(w:W_)(h:BW w0 g l w)(hl:l.length+(dV s).length<=140737488355328)(hs:s.length<=9223372036854775807):
  C_ 70 #[.pointer (A_ g 0),.string ⟨s.toArray⟩] w λe w'=>e=.returned (.tuple #[])/\BW w0 g (l++dV s) w'/\Kb w w':=by
 have H:=I h;have HL:=I hl;have xI:=I (show(⟨s.toArray⟩:Y_).size=s.length from by simp[ByteArray.size]);obtain⟨t,ht⟩:∃t:Y_,t=⟨s.toArray⟩:=⟨_,rfl⟩;rw[<-ht];rw[<-ht]at xI;have Oj:=I ht;have hm:t.size<=9223372036854775807:=by rw[xI.out];exact hs
 clear h hl ht;go_enter func70,ntmps70;go_wp2
 go_loopw [4] (λi wr=>∃j:Nat,i=V j/\j<=t.size/\Hd (BW w0 g (l++dV (s.take j)) wr)/\Hd (Kb w wr)) (λi _=>t.size-(intOf i).toNat)
 case atStart=>exact⟨0,rfl,au1 _,I (by simpa[U.acm]using H.out),Kb.refl _⟩
 case round=>
  obtain⟨j,rfl,hj,HB,HK⟩:=hrel
  by_cases c1:j<t.size
  .have d1:decide ((j:Int)<(t.size:Int))=true:=dT Zo
   have aE:(j:Int)<(t.size:Int):=Zo
   have jo:decide (j<t.size)=true:=dT Zo;have c1s:j<s.length:=by rw[<-xI.out];exact c1
   obtain⟨b,hb⟩:∃b,t[j]'c1=b:=⟨_,rfl⟩;have aa:=I (show s[j]=b by rw[<-hb];have:=Oj.out;subst this;rfl);have HST:=I (aay s j c1s);have AJ:=I (show(dV (s.take j)).length+(iH s[j]).length<=(dV s).length by rw[<-auZ,<-HST.out];exact ae2 s (j+1));rw[aa.out]at HST AJ;clear aa
   by_cases c2:b=38
   .have b2:((b.toNat:Int)==38)=true:=sP _ 38 c2
    have Dj:=I (show iH b=[38,97,109,112,59] by unfold U.iH;rw[if_pos c2]);go_wp2_with fail
    refine(Ah HB [38,97,109,112,59] L_).mono ?_;rintro _ w2 ⟨rfl,hb2,hk2⟩;have aq:=I hb2;have uP:=I auy;clear hb2 hk2;go_wp2
    go_roundw
    case rel=>exact⟨j+1,by go_num,c1,by unfold Hd;rw[HST.out,Dj.out,<-au6];exact aq,uP⟩
    case measure=>simp[intOf];omega
   have b2:((b.toNat:Int)==38)=false:=qW _ 38 c2
   by_cases c3:b=60
   .have b3:((b.toNat:Int)==60)=true:=sP _ 60 c3
    have Dj:=I (show iH b=[38,108,116,59] by unfold U.iH;rw[if_neg c2,if_pos c3]);go_wp2_with fail
    refine(Ah HB [38,108,116,59] L_).mono ?_;rintro _ w2 ⟨rfl,hb2,hk2⟩;have aq:=I hb2;have uP:=I auy;clear hb2 hk2;go_wp2
    go_roundw
    case rel=>exact⟨j+1,by go_num,c1,by unfold Hd;rw[HST.out,Dj.out,<-au6];exact aq,uP⟩
    case measure=>simp[intOf];omega
   have b3:((b.toNat:Int)==60)=false:=qW _ 60 c3
   by_cases c4:b=62
   .have b4:((b.toNat:Int)==62)=true:=sP _ 62 c4
    have Dj:=I (show iH b=[38,103,116,59] by unfold U.iH;rw[if_neg c2,if_neg c3,if_pos c4]);go_wp2_with fail
    refine(Ah HB [38,103,116,59] L_).mono ?_;rintro _ w2 ⟨rfl,hb2,hk2⟩;have aq:=I hb2;have uP:=I auy;clear hb2 hk2;go_wp2
    go_roundw
    case rel=>exact⟨j+1,by go_num,c1,by unfold Hd;rw[HST.out,Dj.out,<-au6];exact aq,uP⟩
    case measure=>simp[intOf];omega
   have b4:((b.toNat:Int)==62)=false:=qW _ 62 c4
   by_cases c5:b=34
   .have b5:((b.toNat:Int)==34)=true:=sP _ 34 c5
    have Dj:=I (show iH b=[38,113,117,111,116,59] by unfold U.iH;rw[if_neg c2,if_neg c3,if_neg c4,if_pos c5]);go_wp2_with fail
    refine(Ah HB [38,113,117,111,116,59] L_).mono ?_;rintro _ w2 ⟨rfl,hb2,hk2⟩;have aq:=I hb2;have uP:=I auy;clear hb2 hk2;go_wp2
    go_roundw
    case rel=>exact⟨j+1,by go_num,c1,by unfold Hd;rw[HST.out,Dj.out,<-au6];exact aq,uP⟩
    case measure=>simp[intOf];omega
   have b5:((b.toNat:Int)==34)=false:=qW _ 34 c5;have Dj:=I (show iH b=[b] by unfold U.iH;rw[if_neg c2,if_neg c3,if_neg c4,if_neg c5]);go_wp2_with fail
   refine(Nc HB _ b rfl (by have:=AJ.out;rw[Dj.out]at this;have:=HL.out;rw[auZ];simp at*;omega)).mono ?_;rintro _ w2 ⟨rfl,hb2,hk2⟩;have aq:=I hb2;have uP:=I auy;clear hb2 hk2;go_wp2
   go_roundw
   case rel=>exact⟨j+1,by go_num,c1,by unfold Hd;rw[HST.out,Dj.out,<-au6];exact aq,uP⟩
   case measure=>simp[intOf];omega
  .have d1:decide ((j:Int)<(t.size:Int))=false:=dF Zo
   have jo:decide (j<t.size)=false:=dF Zo;have nK:=I (show s.take j=s from List.take_of_length_le (by rw[<-xI.out];omega));go_wp2_with fail
   go_end0
   exact⟨rfl,by have:=HB.out;rwa [nK]at this,HK⟩
end
section
open Go.RowKit
open U (E aJ dV iH fB gF AV dw)
def Mm(e:E):Prop:=∀(w0:W_) (ge oe g:Nat) (va vk:Value) (l:List UInt8) (w:W_),gZ w0 ge oe e va vk->BW w0 g l w->l.length+(fB e).length<=8000000->
 C_ 35 #[.pointer (A_ g 0),.pointer (A_ ge oe)] w λx w'=>x=.returned (.tuple #[])/\BW w0 g (l++fB e) w'/\Kb w w'
theorem X6(e:E)(ih:∀x∈e.Qx,Mm x):Mm e:=by
 intro w0 ge oe g va vk l w he hb hl;obtain⟨n,Gg,ks,t⟩:=e;have HE:=I he;have HB:=I hb;have HL:=I hl;have q9:=I ih;obtain⟨A,ca,aa⟩:=he.2.2.2.2.2.1.slice;obtain⟨B,cb,ac⟩:=he.2.2.2.2.2.2.1.slice;replace aa:va=.slice A Gg.length ca:=aa;replace ac:vk=.slice B ks.length cb:=ac;subst aa;subst ac;have HW:=I (show fB (.mk n Gg ks t)=60::n++dw Gg++(if t.isEmpty&&ks.isEmpty then [47,62]else 62::dV t++gF ks++([60,47]++n++[62])) by rw[fB])
 have aZ:l.length+(n.length+1+(dw Gg).length)+2<=8000000:=by
  rw[HW.out]at hl
  have h2:2<=(if t.isEmpty&&ks.isEmpty then [47,62]else 62::dV t++gF ks++([60,47]++n++[62]):List UInt8).length:=by
   split
   .simp
   .simp only[auZ,au0];omega
  simp only[auZ,au0]at hl h2|-;omega
 have aQ:Gg.length<=maxLen:=atY
 have hl2:ks.length<=maxLen:=he.2.2.2.2.2.2.1.len;have au:t.length<=maxLen:=he.2.2.2.2.2.2.2.2;unfold maxLen at aQ hl2 au;have aj:=he.QH hb.xV;obtain⟨hg,h0,h1,h2,h3,_⟩:=aj;replace h0:w.cell? (B_ ge oe)=some (S_ n):=h0;have am:=λW:W_=>run_string_add_lists (P:=Tryz.prog) W [60] n P9 Zo
 clear he hb hl ih;go_enter func35,ntmps35;go_wp2_with fail
 refine(Ah HB (60::n) WN).mono ?_;rintro _ w1 ⟨rfl,hb1,aD⟩;have aC:=I hb1;have Dk:=I aD;clear hb1 aD h0 h1 h2 h3 hg am;obtain⟨hg,h0,h1,h2,h3,_⟩:=HE.QH aC.xV;replace h1:w1.cell? (B_ ge (oe+1))=some (.slice A Gg.length ca):=h1;go_wp2_with fail
 clear hg h0 h1 h2 h3
 go_loopw [19] (λi wr=>∃j:Nat,i=V j/\j<=Gg.length/\Hd (BW w0 g (l++(60::n)++dw (Gg.take j)) wr)/\Hd (Kb w wr)) (λi _=>Gg.length-(intOf i).toNat)
 case atStart=>exact⟨0,rfl,au1 _,I (by simpa[dw]using aC.out),Dk⟩
 case round=>
  obtain⟨j,rfl,hj,OI,VK⟩:=hrel
  by_cases c1:j<Gg.length
  .have d1:decide ((j:Int)<(Gg.length:Int))=true:=dT Zo
   have aE:(j:Int)<(Gg.length:Int):=Zo
   have HA:=I (show gJ w0 Gg _ from HE.out.2.2.2.2.2.1);obtain⟨ga,oa,rfl,ap,m0,m1,hx1,hx2⟩:=HA.get j c1;have e0:=OI.xV.cell m0 PR;have f0:=OI.xV.cell m1 PR;have HAS:=I (U.UF Gg j c1)
   have ak:(dw (Gg.take j)).length+((Gg[j]).1.length+(dV (Gg[j]).2).length+4)<=(dw Gg).length:=by
    have:=U.Z7 Gg (j+1);rw[HAS.out,auZ]at this;unfold U.AV at this;exact as1
   have ai0:(Gg[j]).2.length<=9223372036854775807:=hx2;clear m0 m1 hx1 hx2;generalize Gg[j]=x at*;have ahg:=λW:W_=>run_string_add_lists (P:=Tryz.prog) W [32] x.1 P9 Zo
   have ad1:=λW:W_=>run_string_add_lists (P:=Tryz.prog) W (32::x.1) [61,34] WN P9
   go_wp2_with fail
   refine(Ah (OI.QH ((M _ wr).alloc (.cells #[S_ x.1,S_ x.2] 142))) (32::(x.1++[61,34])) JY).mono ?_;rintro _ w3 ⟨rfl,hb3,hk3⟩;have hq:=hk3 _ _ _ Pf Pf (af.new wr 142 #[S_ x.1,S_ x.2]);have ai:=I hb3;have HK3:=I (VK.trans ((ag.kb ((M _ wr).alloc _)).trans hk3));have HQ:=I hq;have q1:w3.cell? (B_ wr.heap.size 1)=some (S_ x.2):=hq.cell 1;have qz:wr.heap.size<w3.heap.size:=hq.lt;clear hb3 hk3 e0 f0 ahg ad1 hq;go_wp2_with fail
   refine(Ml x.2 w0 g _ w3 ai JY ai0).mono ?_;rintro _ w4 ⟨rfl,hb4,hk4⟩;have iB:=I hb4;have HK4:=I (HK3.trans hk4);clear hb4 hk4 q1 qz;go_wp2_with fail
   refine(Nc iB _ 34 rfl JY).mono ?_;rintro _ w5 ⟨rfl,al,aG⟩;have eO:=I (show BW w0 g (l++(60::n)++dw (Gg.take (j+1))) w5 by rw[HAS.out];unfold U.AV;simpa[au6]using al);have av:=I (HK4.trans aG);clear al aG;go_wp2
   go_roundw
   case rel=>exact⟨j+1,by go_num,c1,eO,av⟩
   case measure=>simp[intOf];omega
  .have d1:decide ((j:Int)<(Gg.length:Int))=false:=dF Zo
   obtain rfl:j=Gg.length:=Zo
   have aq:=I (show BW w0 g (l++(60::n)++dw Gg) wr by have:=OI.out;rwa [avm]at this);obtain⟨hg,h0,h1,h2,h3,_⟩:=HE.QH aq.xV;replace h2:wr.cell? (B_ ge (oe+2))=some (.slice B ks.length cb):=h2;replace h3:wr.cell? (B_ ge (oe+3))=some (S_ t):=h3;clear h0 h1 d1 hj
   by_cases c2:t=[]/\ks.length=0
   .obtain⟨rfl,ck⟩:=c2
    have ar:ks=[]:=List.eq_nil_of_length_eq_zero ck;have ae:=I (show fB (.mk n Gg ks [])=60::n++dw Gg++[47,62] by rw[HW.out,ar];rfl);have d2:((ks.length:Int)==0)=true:=by rw[ck];rfl
    clear ar ck;go_wp2_with fail
    refine(Ah aq [47,62] JY).mono ?_;rintro _ w6 ⟨rfl,aw,ab⟩;have gy:=I aw;have aY:=I (VK.trans ab);clear aw ab;go_wp2
    refine bodyPost_ret Un rfl ?_;exact⟨rfl,by rw[ae.out];simpa[au6]using gy.out,aY⟩
   .have ae:=I (show fB (.mk n Gg ks t)=60::n++dw Gg++(62::dV t++gF ks++([60,47]++n++[62])) by
     rw[HW.out,if_neg];rw[auY,avV,avV];rintro⟨e1,e2⟩;exact c2 ⟨e1,by rw[e2];rfl⟩)
    have ak7:l.length+(n.length+1+(dw Gg).length)+(1+(dV t).length+(gF ks).length+(n.length+3))<=8000000:=by
     have:=HL.out;rw[ae.out]at this;exact as1
    have ad:t.isEmpty=true->((ks.length:Int)==0)=false:=λh=>by
     rw[beq_eq_false_iff_ne];intro h2;exact c2 ⟨List.isEmpty_iff.1 h,by omega⟩
    have Oj:=I ad;clear c2 ad
    by_cases ct:t.isEmpty=true
    focus
     have d2:=Oj.out ct;have et:t.isEmpty=true:=ct;clear ct;go_wp2_with fail
    rotate_left
    focus
     have et:t.isEmpty=false:=by simpa using ct
     clear ct;go_wp2_with fail
    all_goals
     refine(Nc aq _ 62 rfl (by simp only[auZ,au0];omega)).mono ?_;rintro _ w6 ⟨rfl,aw,ab⟩;have gy:=I aw;have aY:=I (VK.trans ab);clear aw ab hg h2 h3;obtain⟨hg,h0,h1,h2,h3,_⟩:=HE.QH gy.xV;replace h3:w6.cell? (B_ ge (oe+3))=some (S_ t):=h3;clear et
     try clear d2
     clear h0 h1 h2;go_wp2_with fail
     refine(Ml _ w0 g _ w6 gy JY au).mono ?_;rintro _ w7 ⟨rfl,oo,ah⟩;have vv:=I oo;have HK7:=I (aY.trans ah);clear oo ah hg h3;obtain⟨hg,h0,h1,h2,h3,_⟩:=HE.QH vv.xV;replace h2:w7.cell? (B_ ge (oe+2))=some (.slice B ks.length cb):=h2;clear h0 h1 h3;go_wp2_with fail
     clear hg h2
     go_loopw [64] (λi wr=>∃j:Nat,i=V j/\j<=ks.length/\Hd (BW w0 g (l++(60::n)++dw Gg++[62]++dV t++gF (ks.take j)) wr)/\Hd (Kb w wr)) (λi _=>ks.length-(intOf i).toNat)
     case atStart=>exact⟨0,rfl,au1 _,I (by simpa[U.gF]using vv.out),HK7⟩
     case round=>
      obtain⟨j,rfl,hj,OI,VK⟩:=hrel;rename_i wr _
      by_cases c1:j<ks.length
      .have d1:decide ((j:Int)<(ks.length:Int))=true:=dT Zo
       have aE:(j:Int)<(ks.length:Int):=Zo
       obtain⟨gk,ok,wa,wk,rfl,jW⟩:=(show gK w0 ks _ from HE.out.2.2.2.2.2.2.1).yw j c1;have HS:=I (U.UG ks j c1)
       have hsm:(gF (ks.take j)).length+(fB ks[j]).length<=(gF ks).length:=by
        rw[<-auZ,<-HS.out];exact U.Z8 ks (j+1)
       obtain⟨hg,h0,h1,h2,h3,_⟩:=HE.QH OI.xV;replace h2:wr.cell? (B_ ge (oe+2))=some (.slice (A_ gk ok) ks.length cb):=h2;have HC:=I (q9 ks[j] f_ w0 gk (ok+j*4) g wa wk _ wr jW OI JY);clear h0 h1 h3 jW;generalize ks[j]=x at*;go_wp2_with fail
       refine HC.mono ?_;rintro _ w8 ⟨rfl,o9,an⟩;have lT:=I (show BW w0 g (l++(60::n)++dw Gg++[62]++dV t++gF (ks.take (j+1))) w8 by rw[HS.out,<-au6];exact o9);have HK8:=I (VK.trans an);clear o9 an hg h2;go_wp2
       go_roundw
       case rel=>exact⟨j+1,by go_num,c1,lT,HK8⟩
       case measure=>simp[intOf];omega
      .have d1:decide ((j:Int)<(ks.length:Int))=false:=dF Zo
       obtain rfl:j=ks.length:=Zo
       have lT:=I (show BW w0 g (l++(60::n)++dw Gg++[62]++dV t++gF ks) wr by have:=OI.out;rwa [avm]at this);obtain⟨hg,h0,h1,h2,h3,_⟩:=HE.QH lT.xV;replace h0:wr.cell? (B_ ge oe)=some (S_ n):=h0;have am:=λW:W_=>run_string_add_lists (P:=Tryz.prog) W [60,47] n P9 Zo
       have ad1:=λW:W_=>run_string_add_lists (P:=Tryz.prog) W ([60,47]++n) [62] WN P9
       clear h1 h2 h3 d1 hj;go_wp2_with fail
       rw[show((⟨(60::47::n).toArray⟩:Y_)++⟨#[62]⟩)=⟨(60::47::(n++[62])).toArray⟩from by apply ByteArray.ext;simp[ByteArray.data_append]];refine(Ah lT (60::47::(n++[62])) JY).mono ?_;rintro _ w9 ⟨rfl,kD,ao⟩;have yz:=I kD;have HK9:=I (VK.trans ao);clear kD ao;go_wp2_with fail
       go_end0
       exact⟨rfl,by rw[ae.out];simpa[au6]using yz.out,HK9⟩
theorem aaz(e:E):Mm e:=U.E.ind (p:=Mm) X6 e
end
section
open Go.RowKit
open U (E aJ fB)
def Ck(e:E):List UInt8:=if U.valid e then fB e else []
def xg(e:E):Int:=if U.valid e then 0 else 1
theorem X7(e:E)(va vk:Value)(w:W_)(hr:jd w e va vk)(hl:U.valid e=true->(fB e).length<=8000000):
  C_ 19 #[ev e va vk] w λx w'=>x=.returned (.tuple #[S_ (Ck e),V (xg e)])/\ag w w':=by
 have HV:=I (λ(w:W_) (h:jd w e va vk)=>Mg e va vk w h);obtain⟨A,ca,aa⟩:=hr.1.slice;obtain⟨B,cb,ac⟩:=hr.2.1.slice;have HR:=I hr;have HL:=I hl;have HX:=I (aaz e);have ae:=I (show Ck e=if U.valid e then fB e else []from rfl);have a6:=I (show xg e=if U.valid e then 0 else 1 from rfl);subst aa;subst ac;clear hr hl;obtain⟨n,Gg,ks,t⟩:=e;unfold ev at*;simp only[E.name,E.Zn,E.Qx,E.QG]at*;cases hv:U.valid (.mk n Gg ks t)with
 |false=>
  have HP:=I (show Ck (.mk n Gg ks t)=[] by rw[ae.out,hv];rfl);have HE:=I (show xg (.mk n Gg ks t)=1 by rw[a6.out,hv];rfl);rw[HP.out,HE.out];go_enter func19,ntmps19;go_wp2_with fail
  refine(HV _ (HR.QH aq4)).mono ?_;rintro _ w1 ⟨rfl,hf⟩;rw[hv];have HF:=I aic;clear hf;go_wp2
  go_ret2;exact⟨rfl,HF⟩
 |true=>
  have HP:=I (show Ck (.mk n Gg ks t)=fB (.mk n Gg ks t) by rw[ae.out,hv];rfl);have HE:=I (show xg (.mk n Gg ks t)=0 by rw[a6.out,hv];rfl);rw[HP.out,HE.out];have aE:=I (HL hv);go_enter func19,ntmps19;go_wp2_with fail
  refine(HV _ (HR.QH aq4)).mono ?_;rintro _ w1 ⟨rfl,hf⟩;rw[hv];have HF:=I aic;have hb0:=hf.QN (af.new w 62 #[S_ n,.slice A Gg.length ca,.slice B ks.length cb,S_ t]) PR;obtain⟨q0,q1,q2,q3,_,_,_,_,hg⟩:=af.QM hb0;have F7:=I (show gZ w1 w.heap.size 0 (.mk n Gg ks t) (.slice A Gg.length ca) (.slice B ks.length cb)from⟨hg,q0,q1,q2,q3,HR.QH HF⟩);clear hf hb0 q0 q1 q2 q3 hg;go_wp2_with fail
  refine(HX w1 w.heap.size 0 w1.heap.size _ _ [] _ F7 (af6 w1 w1 afD) (by simpa using aE.out)).mono ?_;rintro _ w2 ⟨rfl,hb2,_⟩;have aq:=I hb2;clear hb2;go_wp2_with fail
  refine(aax aq).mono ?_;rintro _ w3 ⟨rfl,hf3,_⟩;have bJ:=I (HF.trans hf3);clear hf3;go_wp2
  go_ret2;exact⟨rfl,bJ⟩
end
end Go.Proofs.YtabjglnjjdcfmaaGreatDoor
