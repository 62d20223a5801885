/- Part 29 of 46 of a proof. No condition. -/
import Derived.Test.YtcgbccfpcgaikaaGreatDoorYm28
set_option maxRecDepth 100000
set_option maxHeartbeats 2000000
namespace Go.Proofs.YtcgbccfpcgaikaaGreatDoor
namespace U
open Tr (Nd)
theorem xe(r:Bool):∀(l:List Nd),Tr.iV r l=true→∀x∈l,((x.kind==1) !=r)=true∧Tr.form x=true
 |[],_,x,hx=>by cases hx
 |y::l,h,x,hx=>by
  rw[Tr.iV,Bool.and_eq_true,Bool.and_eq_true]at h
  rcases List.mem_cons.1 hx with rfl|hx
  ·exact h.1
  ·exact xe r l h.2 x hx
theorem Bb(x:Nd)(hf:Tr.form x=true)(hk:(x.kind==1)=false):∀r∈x.kids,r.kind=1∧Tr.form r=true∧∀y∈r.kids,(y.kind==1)=false∧Tr.form y=true∧Tr.count y<Tr.count r∧Tr.count r<Tr.count x:=by
 intro r hr;rw[Tr.kG,Bool.and_eq_true,hk]at hf;obtain⟨h1,h2⟩:=xe _ _ hf.2 r hr;have h1':r.kind=1:=by simpa using h1
 refine⟨h1',h2,fun y hy=>?_⟩;rw[Tr.kG,Bool.and_eq_true,h1']at h2;obtain⟨h3,h4⟩:=xe _ _ h2.2 y hy;have:=Tr.cB hy;have:=Tr.aN r;have:=Tr.cB hr;have:=Tr.aN x;exact⟨by simpa using h3,h4,by omega,by omega⟩
theorem Fs(k c:Int)(n:Nat)(h:Tr.bM k c n=true)(h1:(k==1)=false):
  (k=2∧n=0)∨(k=3∧n=0)∨(k=4∧n=0)∨(k=5∧n=2)∨(k=6∧n=2)∨(k=7∧n=2)∨(k=8∧n=2)∨(k=9∧n=3)∨(k=10∧n=1)∨(k=11∧n=1)∨(k=12∧1≤c∧c≤16∧1≤n∧n≤256∧(n:Int)%c=0):=by
 have h1':k≠1:=by simpa using h1
 unfold Tr.bM at h
 by_cases h12:k=12
 ·rw[if_pos h12]at h
  simp only[Bool.and_eq_true,decide_eq_true_eq]at h;exact .inr (.inr (.inr (.inr (.inr (.inr (.inr (.inr (.inr (.inr ⟨h12,h.1.1.1.1,h.1.1.1.2,h.1.1.2,h.1.2,h.2⟩)))))))))
 ·rw[if_neg h12]at h
  by_cases hc:c≠0
  ·rw[if_pos hc]at h;cases h
  ·rw[if_neg hc,if_neg h1']at h
   by_cases ha:k=2∨k=3∨k=4
   ·rw[if_pos ha,decide_eq_true_eq]at h
    rcases ha with ha|ha|ha
    ·exact .inl ⟨ha,h⟩
    ·exact .inr (.inl ⟨ha,h⟩)
    ·exact .inr (.inr (.inl ⟨ha,h⟩))
   ·rw[if_neg ha]at h
    by_cases hb:k=5∨k=6∨k=7∨k=8
    ·rw[if_pos hb,decide_eq_true_eq]at h
     rcases hb with hb|hb|hb|hb
     ·exact .inr (.inr (.inr (.inl ⟨hb,h⟩)))
     ·exact .inr (.inr (.inr (.inr (.inl ⟨hb,h⟩))))
     ·exact .inr (.inr (.inr (.inr (.inr (.inl ⟨hb,h⟩)))))
     ·exact .inr (.inr (.inr (.inr (.inr (.inr (.inl ⟨hb,h⟩))))))
    ·rw[if_neg hb]at h
     by_cases h9:k=9
     ·rw[if_pos h9,decide_eq_true_eq]at h
      exact .inr (.inr (.inr (.inr (.inr (.inr (.inr (.inl ⟨h9,h⟩)))))))
     ·rw[if_neg h9]at h
      by_cases hd:k=10∨k=11
      ·rw[if_pos hd,decide_eq_true_eq]at h
       rcases hd with hd|hd
       ·exact .inr (.inr (.inr (.inr (.inr (.inr (.inr (.inr (.inl ⟨hd,h⟩))))))))
       ·exact .inr (.inr (.inr (.inr (.inr (.inr (.inr (.inr (.inr (.inl ⟨hd,h⟩)))))))))
      ·rw[if_neg hd]at h;cases h
theorem VH(k:Int)(t:Bytes)(h:Tr.dR k t=true)(hk:¬k=2∧¬k=3∧¬k=4∧¬k=10∧¬k=11):t=[]:=by
 unfold Tr.dR at h;rw[if_neg hk.1,if_neg hk.2.1,if_neg hk.2.2.1,if_neg hk.2.2.2.1,if_neg hk.2.2.2.2]at h;exact List.isEmpty_iff.1 h
theorem OG(t:Bytes)(h:Tr.fence t=true):∃a b,t=[a,b]:=by
 unfold Tr.fence at h;split at h
 ·exact⟨_,_,rfl⟩
 ·cases h
theorem xK:(decide ((([]:aJ)).length≤8)&&jY [])=true:=rfl
theorem ahd(k:Int)(t:Bytes)(c:Int)(ss:List (List E))(ht:Tr.dR k t=true)(hk:Tr.bM k c ss.length=true)(h1:(k==1)=false)(h:∀l∈ss,∀x∈l,Ia x):Ia (FY k t c ss):=by
 have hlen:∀(f:List E→E),(ss.map f).length=ss.length:=fun f=>List.length_map f
 rcases Fs k c ss.length hk h1 with⟨rfl,hn⟩|⟨rfl,hn⟩|⟨rfl,hn⟩|⟨rfl,hn⟩|⟨rfl,hn⟩|⟨rfl,hn⟩|⟨rfl,hn⟩|⟨rfl,hn⟩|⟨rfl,hn⟩|⟨rfl,hn⟩|⟨rfl,hc1,hc2,hn1,hn2,hm⟩
 ·have hv:nX 2 t 0=true:=by rw[Ag _ _ _ (by omega),ht];rfl
  show Ia (.mk (if qX t then yt else yu) [] [] t);cases hl:qX t with
  |true=>exact Jh yt (by decide) t (by show(qX t&&true&&true&&nX 2 t 0)=true;rw[hl,hv];rfl) (tF _ _ ht)
  |false=>exact Jh yu (by decide) t (by show(!qX t&&true&&true&&nX 2 t 0)=true;rw[hl,hv];rfl) (tF _ _ ht)
 ·exact Jh CU (by decide) t (by show(true&&true&&true&&nX 3 t 0)=true;rw[Ag _ _ _ (by omega),ht];rfl) (tF _ _ ht)
 ·exact Jh qG (by decide) t (by show(true&&true&&true&&nX 4 t 0)=true;rw[Ag _ _ _ (by omega),ht];rfl) (tF _ _ ht)
 ·exact rows_ok lq (by decide) (by decide) [] ss h (by show(true&&decide ((ss.map (ax aj)).length=2)&&true&&decide (0=0))=true;rw[hlen,hn];rfl) xK
 ·match ss,hn,h with
  |[]::[b],_,h=>exact rows_ok fV (by decide) (by decide) [] [b] (fun l hl=>h l (List.mem_cons_of_mem _ hl)) rfl xK
  |(a0::a)::[b],_,h=>exact rows_ok fZ (by decide) (by decide) [] [b,a0::a] (fun l hl=>h l (by simp only[List.mem_cons,List.not_mem_nil,or_false]at hl⊢;exact hl.symm)) rfl xK
 ·exact rows_ok mW (by decide) (by decide) [] ss h (by show(true&&decide ((ss.map (ax aj)).length=2)&&true&&decide (0=0))=true;rw[hlen,hn];rfl) xK
 ·exact rows_ok mX (by decide) (by decide) [] ss h (by show(true&&decide ((ss.map (ax aj)).length=2)&&true&&decide (0=0))=true;rw[hlen,hn];rfl) xK
 ·exact rows_ok gN (by decide) (by decide) [] ss h (by show(true&&decide ((ss.map (ax aj)).length=3)&&true&&decide (0=0))=true;rw[hlen,hn];rfl) xK
 ·have hv:nX 10 t 1=true:=by rw[Ag _ _ _ (by omega),ht];rfl
  refine rows_ok bI (by decide) (by decide) [(ji,t)] ss h ?_ ?_
  ·show(true&&decide ((ss.map (ax aj)).length=1)&&nX 10 t 1&&decide (1=1))=true
   rw[hlen,hn,hv];rfl
  ·show(true&&((jH ji&&fu t)&&true&&decide ([ji].Nodup)))=true
   rw[tF _ _ ht];decide
 ·obtain⟨a,b,rfl⟩:=OG t (by have:=ht;unfold Tr.dR at this;simpa using this)
  have hv:nX 11 [a,b] 1=true:=by rw[Ag _ _ _ (by omega),ht];rfl
  have VI:=tF _ _ ht
  have hva:fu [a]=true∧fu [b]=true:=by
   unfold fu at VI⊢;simp only[List.all_cons,List.all_nil,Bool.and_true,Bool.and_eq_true]at VI⊢;exact⟨⟨VI.1.1,rfl⟩,VI.1.2,rfl⟩
  refine rows_ok aV (by decide) (by decide) [(qH,[a]),(nR,[b])] ss h ?_ ?_
  ·show(true&&decide ((ss.map (ax aj)).length=1)&&(true&&true&&nX 11 [a,b] 1)&&decide (2=2))=true
   rw[hlen,hn,hv];rfl
  ·show(true&&((jH qH&&fu [a])&&((jH nR&&fu [b])&&true)&&decide ([qH,nR].Nodup)))=true
   rw[hva.1,hva.2];decide
 ·have hcn:(c.toNat:Int)=c:=by omega
  have hmn:ss.length%c.toNat=0:=by
   have:((ss.length%c.toNat:Nat):Int)=0:=by rw[Int.natCast_emod,hcn];exact hm
   omega
  have hgl:=Fq c.toNat (by omega) ss hmn;have hga:=KE c.toNat (by omega) ss hmn
  have hmap:(grid c.toNat (ss.map (ax bq)))=(grid c.toNat ss).map fun r=>r.map (ax bq):=by
   unfold grid;rw[List.length_map,List.map_map];refine List.map_congr_left fun r _=>?_
   show((ss.map (ax bq)).drop _).take _=((ss.drop _).take _).map _;rw[List.map_take,List.map_drop]
  show Ia (.mk bE [] ((grid c.toNat (ss.map (ax bq))).map (ax dU)) []);rw[hmap,List.map_map];refine acL (grid c.toNat ss) c.toNat ?_ (by omega) (by omega) (fun r hr=>(hga r hr).1) (fun r hr l hl=>h l ((hga r hr).2 l hl));rw[hgl.1];have:0<ss.length/c.toNat:=Nat.div_pos (Nat.le_of_dvd (by omega) (Nat.dvd_of_mod_eq_zero hmn)) (by omega);exact this
theorem MO:∀(m:Nat) (x:Nd),Tr.count x≤m→Tr.form x=true→(x.kind==1)=false→Ia (iX x):=by
 intro m
 induction m with
 |zero=>intro x h;have:=Tr.bX x;omega
 |succ m ih=>
  intro x hm hf hk;have hs:=Bb x hf hk;rw[Tr.kG,Bool.and_eq_true,Bool.and_eq_true]at hf;rw[qI];refine ahd _ _ _ _ hf.1.1 (by rw[iM,List.length_map];exact hf.1.2) hk fun l hl e he=>?_
  rw[iM]at hl;obtain⟨r,hr,rfl⟩:=List.mem_map.1 hl;rw[zb]at he;obtain⟨y,hy,rfl⟩:=List.mem_map.1 he;obtain⟨h1,h2,h3,h4⟩:=(hs r hr).2.2 y hy;exact ih y (by omega) h2 h1
theorem VJ(n:Nd)(h:Tr.valid n=true):oq (nT n)=true∧proper (nT n)=true:=by
 unfold Tr.valid at h;simp only[Bool.and_eq_true]at h;refine zS gU (by decide) _ fun e he=>?_
 rw[zb]at he;obtain⟨y,hy,rfl⟩:=List.mem_map.1 he;have hf:=h.1.1.2;rw[Tr.kG,Bool.and_eq_true,h.1.1.1]at hf;obtain⟨h3,h4⟩:=xe _ _ hf.2 y hy;exact MO _ y (Nat.le_refl _) h4 (by simpa using h3)
def Fu:List (List E)→Nat
 |[]=>0
 |l::ls=>az l+Fu ls
def maxD:List (List E)→Nat
 |[]=>0
 |l::ls=>max (aX l) (maxD ls)
theorem Bc(nm:Bytes)(ss:List (List E)):az (ss.map (ax nm))=ss.length+Fu ss:=by
 induction ss with
 |nil=>rfl
 |cons l ss ih=>
  rw[List.map_cons,az,ih,Fu,List.length_cons];show count (.mk nm [] l [])+_=_;rw[count];omega
theorem Bd(nm:Bytes)(ss:List (List E)):aX (ss.map (ax nm))≤1+maxD ss:=by
 induction ss with
 |nil=>exact Nat.zero_le _
 |cons l ss ih=>
  rw[List.map_cons,aX,maxD];have:depth (ax nm l)=aX l+1:=by show depth (.mk nm [] l [])=_;rw[depth]
  omega
theorem UR(nm:Bytes)(gs:List (List E)):az (gs.map (ax nm))=gs.length+az gs.flatten:=by
 induction gs with
 |nil=>rfl
 |cons g gs ih=>
  rw[List.map_cons,az,ih,List.flatten_cons,Xe,List.length_cons];show count (.mk nm [] g [])+_=_;rw[count];omega
theorem UT(nm:Bytes)(gs:List (List E)):aX (gs.map (ax nm))≤1+aX gs.flatten:=by
 induction gs with
 |nil=>exact Nat.zero_le _
 |cons g gs ih=>
  rw[List.map_cons,aX,List.flatten_cons,EY];have:depth (ax nm g)=aX g+1:=by show depth (.mk nm [] g [])=_;rw[depth]
  omega
theorem aeY(k:Int)(t:Bytes)(c:Int)(ss:List (List E))(hk:Tr.bM k c ss.length=true)(h1:(k==1)=false):
  count (FY k t c ss)≤1+2*ss.length+Fu ss∧depth (FY k t c ss)≤(if ss.length=0 then 1 else 3+maxD ss):=by
 have hrc:=Bc aj ss;have hrd:=Bd aj ss
 rcases Fs k c ss.length hk h1 with⟨rfl,hn⟩|⟨rfl,hn⟩|⟨rfl,hn⟩|⟨rfl,hn⟩|⟨rfl,hn⟩|⟨rfl,hn⟩|⟨rfl,hn⟩|⟨rfl,hn⟩|⟨rfl,hn⟩|⟨rfl,hn⟩|⟨rfl,hc1,hc2,hn1,hn2,hm⟩
 ·rw[if_pos hn]
  show count (.mk _ [] [] t)≤_∧depth (.mk _ [] [] t)≤_;rw[count,az,depth,aX];omega
 ·rw[if_pos hn]
  show count (.mk _ [] [] t)≤_∧depth (.mk _ [] [] t)≤_;rw[count,az,depth,aX];omega
 ·rw[if_pos hn]
  show count (.mk _ [] [] t)≤_∧depth (.mk _ [] [] t)≤_;rw[count,az,depth,aX];omega
 ·rw[if_neg (by omega)]
  show count (.mk _ [] (ss.map (ax aj)) [])≤_∧depth (.mk _ [] (ss.map (ax aj)) [])≤_;rw[count,depth];omega
 ·rw[if_neg (by omega)]
  match ss,hn with
  |[]::[b],_=>
   show count (.mk fV [] [ax aj b] [])≤_∧depth (.mk fV [] [ax aj b] [])≤_;have h2:=Bc aj [b];have h3:=Bd aj [b];simp only[List.map_cons,List.map_nil,Fu,maxD,List.length_cons,List.length_nil]at h2 h3⊢;rw[count,depth,h2];simp only[az,aX]at*;omega
  |(a0::a)::[b],_=>
   show count (.mk fZ [] [ax aj b,ax aj (a0::a)] [])≤_∧depth (.mk fZ [] [ax aj b,ax aj (a0::a)] [])≤_;have h2:=Bc aj [b,a0::a];have h3:=Bd aj [b,a0::a];simp only[List.map_cons,List.map_nil,Fu,maxD,List.length_cons,List.length_nil]at h2 h3⊢;rw[count,depth,h2];omega
 ·rw[if_neg (by omega)]
  show count (.mk _ [] (ss.map (ax aj)) [])≤_∧depth (.mk _ [] (ss.map (ax aj)) [])≤_;rw[count,depth];omega
 ·rw[if_neg (by omega)]
  show count (.mk _ [] (ss.map (ax aj)) [])≤_∧depth (.mk _ [] (ss.map (ax aj)) [])≤_;rw[count,depth];omega
 ·rw[if_neg (by omega)]
  show count (.mk _ [] (ss.map (ax aj)) [])≤_∧depth (.mk _ [] (ss.map (ax aj)) [])≤_;rw[count,depth];omega
 ·rw[if_neg (by omega)]
  show count (.mk _ _ (ss.map (ax aj)) [])≤_∧depth (.mk _ _ (ss.map (ax aj)) [])≤_;rw[count,depth];omega
 ·rw[if_neg (by omega)]
  show count (.mk _ _ (ss.map (ax aj)) [])≤_∧depth (.mk _ _ (ss.map (ax aj)) [])≤_;rw[count,depth];omega
 ·rw[if_neg (by omega)]
  have hcn:(c.toNat:Int)=c:=by omega
  have hmn:(ss.map (ax bq)).length%c.toNat=0:=by
   have:((ss.length%c.toNat:Nat):Int)=0:=by rw[Int.natCast_emod,hcn];exact hm
   rw[List.length_map];omega
  have hg:=Fq c.toNat (by omega) (ss.map (ax bq)) hmn;have h2:=UR dU (grid c.toNat (ss.map (ax bq)));have h3:=UT dU (grid c.toNat (ss.map (ax bq)));have h4:=Bc bq ss;have h5:=Bd bq ss;have h6:ss.length/c.toNat≤ss.length:=Nat.div_le_self _ _;rw[hg.2]at h2 h3;rw[hg.1,List.length_map]at h2;show count (.mk bE [] ((grid c.toNat (ss.map (ax bq))).map (ax dU)) [])≤_∧depth (.mk bE [] ((grid c.toNat (ss.map (ax bq))).map (ax dU)) [])≤_;rw[count,depth];omega
theorem Mi(l:List Nd)(h:∀y∈l,count (iX y)≤2*Tr.count y∧2*depth (iX y)≤3*Tr.depth y):az (eU l)≤2*Tr.az l∧2*aX (eU l)≤3*Tr.aX l:=by
 induction l with
 |nil=>rw[eU,az,aX];omega
 |cons y l ih=>
  have h1:=ih fun z hz=>h z (List.mem_cons_of_mem _ hz)
  have h2:=h y (List.mem_cons_self ..);rw[eU,az,aX,Tr.az,Tr.aX];omega
theorem aas:∀(m:Nat) (x:Nd),Tr.count x≤m→Tr.form x=true→(x.kind==1)=false→count (iX x)≤2*Tr.count x∧2*depth (iX x)≤3*Tr.depth x:=by
 intro m
 induction m with
 |zero=>intro x h;have:=Tr.bX x;omega
 |succ m ih=>
  intro x hm hf hk;have hs:=Bb x hf hk;rw[Tr.kG,Bool.and_eq_true,Bool.and_eq_true]at hf;rw[qI];have hz:=aeY x.kind x.text x.ah (nS x.kids) (by rw[iM,List.length_map];exact hf.1.2) hk;have hl:(nS x.kids).length=x.kids.length:=by rw[iM,List.length_map]
  have hsum:∀l:List Nd,(∀r∈l,r∈x.kids)→l.length+Fu (nS l)≤2*Tr.az l-l.length∧l.length≤Tr.az l∧(l≠[]→2*maxD (nS l)+3≤3*Tr.aX l):=by
   intro l
   induction l with
   |nil=>intro _;rw[nS,Fu,Tr.az];exact⟨Nat.le_refl _,Nat.le_refl _,fun h=>absurd rfl h⟩
   |cons r l ihl=>
    intro hm';obtain⟨h1,h2,h3⟩:=ihl fun z hz=>hm' z (List.mem_cons_of_mem _ hz)
    have hr:=hs r (hm' r (List.mem_cons_self ..))
    have h4:=Mi r.kids fun y hy=>by
     obtain⟨g1,g2,g3,g4⟩:=hr.2.2 y hy;exact ih y (by omega) g2 g1
    rw[iM,List.map_cons,←iM,Fu,maxD,Tr.az,Tr.aX,Tr.aN r,Tr.oN r,List.length_cons];refine⟨by omega,by omega,fun _=>?_⟩
    by_cases hl0:l=[]
    ·subst hl0
     rw[nS,maxD,Tr.aX];omega
    ·have:=h3 hl0
     omega
  obtain⟨h1,h2,h3⟩:=hsum x.kids fun r hr=>hr
  rw[Tr.aN x,Tr.oN x];refine⟨by omega,?_⟩
  by_cases h0:(nS x.kids).length=0
  ·rw[if_pos h0]at hz;omega
  ·rw[if_neg h0]at hz
   have:=h3 (fun h=>by rw[hl,h]at h0;exact h0 rfl);omega
theorem OH(n:Nd)(h:Tr.valid n=true):count (nT n)≤2*Tr.count n∧2*depth (nT n)≤3*Tr.depth n:=by
 unfold Tr.valid at h;simp only[Bool.and_eq_true]at h;have hf:=h.1.1.2;rw[Tr.kG,Bool.and_eq_true,h.1.1.1]at hf
 have:=Mi n.kids fun y hy=>by
  obtain⟨h3,h4⟩:=xe _ _ hf.2 y hy;exact aas _ y (Nat.le_refl _) h4 (by simpa using h3)
 show count (.mk gU [] (eU n.kids) [])≤_∧2*depth (.mk gU [] (eU n.kids) [])≤_;rw[count,depth,Tr.aN n,Tr.oN n];omega
theorem Fv(n:Nd)(h:Tr.valid n=true):valid (nT n)=true:=by
 have h1:=VJ n h;have h2:=OH n h;unfold Tr.valid at h;simp only[Bool.and_eq_true,decide_eq_true_eq]at h;unfold valid;rw[h1.2,Bool.true_and,Bool.and_eq_true,decide_eq_true_eq,decide_eq_true_eq];omega
end U
namespace U
open Tr (Nd)
theorem Bp(ss:List (List E)):iN (ss.map (ax aj))=ss.map fun l=>.mk 1 [] 0 (bN l):=by
 rw[sK,List.map_map];exact List.map_congr_left fun l _=>rfl
theorem X4(gs:List (List (List E))):jL ((gs.map fun r=>r.map (ax bq)).map (ax dU))=gs.flatten.map fun l=>.mk 1 [] 0 (bN l):=by
 rw[Fh]
 induction gs with
 |nil=>rfl
 |cons r gs ih=>
  rw[List.map_cons,List.map_cons,List.flatMap_cons,ih,List.flatten_cons,List.map_append]
  congr 1
  show iN (r.map (ax bq))=_;rw[sK,List.map_map];exact List.map_congr_left fun l _=>rfl
theorem aeZ(k:Int)(t:Bytes)(c:Int)(ss:List (List E))(ht:Tr.dR k t=true)(hk:Tr.bM k c ss.length=true)(h1:(k==1)=false):dX (FY k t c ss)=.mk k t c (ss.map fun l=>.mk 1 [] 0 (bN l)):=by
 have hc0:k≠12→c=0:=by
  intro h;have h2:=hk;unfold Tr.bM at h2;rw[if_neg h]at h2
  by_cases hc:c=0
  ·exact hc
  ·rw[if_pos hc]at h2;cases h2
 have hnt:=VH k t ht
 rcases Fs k c ss.length hk h1 with⟨rfl,hn⟩|⟨rfl,hn⟩|⟨rfl,hn⟩|⟨rfl,hn⟩|⟨rfl,hn⟩|⟨rfl,hn⟩|⟨rfl,hn⟩|⟨rfl,hn⟩|⟨rfl,hn⟩|⟨rfl,hn⟩|⟨rfl,hc1,hc2,hn1,hn2,hm⟩
 ·rw[hc0 (by decide),List.length_eq_zero_iff.1 hn]
  show dX (.mk (if qX t then yt else yu) [] [] t)=.mk 2 t 0 [];cases qX t<;>rfl
 ·rw[hc0 (by decide),List.length_eq_zero_iff.1 hn];rfl
 ·rw[hc0 (by decide),List.length_eq_zero_iff.1 hn];rfl
 ·rw[hc0 (by decide),hnt (by decide)]
  show Nd.mk 5 [] 0 (iN (ss.map (ax aj)))=_;rw[Bp]
 ·rw[hc0 (by decide),hnt (by decide)]
  match ss,hn with
  |[]::[b],_=>rfl
  |(a0::a)::[b],_=>rfl
 ·rw[hc0 (by decide),hnt (by decide)]
  show Nd.mk 7 [] 0 (iN (ss.map (ax aj)))=_;rw[Bp]
 ·rw[hc0 (by decide),hnt (by decide)]
  show Nd.mk 8 [] 0 (iN (ss.map (ax aj)))=_;rw[Bp]
 ·rw[hc0 (by decide),hnt (by decide)]
  show Nd.mk 9 [] 0 (iN (ss.map (ax aj)))=_;rw[Bp]
 ·rw[hc0 (by decide)]
  match ss,hn with
  |[l],_=>rfl
 ·rw[hc0 (by decide)]
  obtain⟨a,b,rfl⟩:=OG t (by have:=ht;unfold Tr.dR at this;simpa using this)
  match ss,hn with
  |[l],_=>rfl
 ·rw[hnt (by decide)]
  have hcn:(c.toNat:Int)=c:=by omega
  have hmn:ss.length%c.toNat=0:=by
   have:((ss.length%c.toNat:Nat):Int)=0:=by rw[Int.natCast_emod,hcn];exact hm
   omega
  have hgl:=Fq c.toNat (by omega) ss hmn;have hga:=KE c.toNat (by omega) ss hmn
  have hmap:(grid c.toNat (ss.map (ax bq)))=(grid c.toNat ss).map fun r=>r.map (ax bq):=by
   unfold grid;rw[List.length_map,List.map_map];refine List.map_congr_left fun r _=>?_
   show((ss.map (ax bq)).drop _).take _=((ss.drop _).take _).map _;rw[List.map_take,List.map_drop]
  have ahe:wT (((grid c.toNat ss).map fun r=>r.map (ax bq)).map (ax dU))=c.toNat:=by
   have hpos:0<(grid c.toNat ss).length:=by
    rw[hgl.1];exact Nat.div_pos (Nat.le_of_dvd (by omega) (Nat.dvd_of_mod_eq_zero hmn)) (by omega)
   cases hg:grid c.toNat ss with
   |nil=>rw[hg]at hpos;cases hpos
   |cons r gs=>
    have:=(hga r (by rw[hg];exact List.mem_cons_self ..)).1;show(r.map (ax bq)).length=_;rw[List.length_map,this]
  show Nd.mk 12 [] (wT ((grid c.toNat (ss.map (ax bq))).map (ax dU)):Int) (jL ((grid c.toNat (ss.map (ax bq))).map (ax dU)))=_;rw[hmap,ahe,X4,hgl.2,hcn]
theorem RN(r:Nd)(h1:r.kind=1)(hf:Tr.form r=true):r=.mk 1 [] 0 r.kids:=by
 rw[Tr.kG,Bool.and_eq_true,Bool.and_eq_true,h1]at hf;have ht:r.text=[]:=VH 1 r.text hf.1.1 (by decide)
 have hc:r.ah=0:=by
  have h2:=hf.1.2;unfold Tr.bM at h2;rw[if_neg (by decide)]at h2
  by_cases hc:r.ah=0
  ·exact hc
  ·rw[if_pos hc]at h2;cases h2
 obtain⟨k,t,c,ks⟩:=r;show Nd.mk k t c ks=_;replace h1:k=1:=h1;replace ht:t=[]:=ht;replace hc:c=0:=hc;subst h1 ht hc;rfl
theorem Mj(l:List Nd)(h:∀x∈l,dX (iX x)=x):bN (eU l)=l:=by
 rw[Fg,zb,List.map_map]
 conv=>rhs;rw[←List.map_id l]
 exact List.map_congr_left h
theorem aat:∀(m:Nat) (x:Nd),Tr.count x≤m→Tr.form x=true→(x.kind==1)=false→dX (iX x)=x:=by
 intro m
 induction m with
 |zero=>intro x h;have:=Tr.bX x;omega
 |succ m ih=>
  intro x hm hf hk;have hs:=Bb x hf hk;have hf2:=hf;rw[Tr.kG,Bool.and_eq_true,Bool.and_eq_true]at hf2;rw[qI,aeZ _ _ _ _ hf2.1.1 (by rw[iM,List.length_map];exact hf2.1.2) hk,iM,List.map_map]
  have hks:(x.kids.map ((fun l=>Nd.mk 1 [] 0 (bN l))∘fun n=>eU n.kids))=x.kids:=by
   conv=>rhs;rw[←List.map_id x.kids]
   refine List.map_congr_left fun r hr=>?_
   obtain⟨g1,g2,g3⟩:=hs r hr;show Nd.mk 1 [] 0 (bN (eU r.kids))=r
   rw[Mj r.kids fun y hy=>by
    obtain⟨h1,h2,h3,h4⟩:=g3 y hy;exact ih y (by omega) h2 h1]
   exact(RN r g1 g2).symm
  rw[hks];cases x;rfl
theorem aau(n:Nd)(h:Tr.valid n=true):eG (nT n)=n:=by
 have h2:=h;unfold Tr.valid at h2;simp only[Bool.and_eq_true]at h2;have hk:n.kind=1:=by simpa using h2.1.1.1
 have hf:=h2.1.1.2;show Nd.mk 1 [] 0 (bN (eU n.kids))=n
 rw[Mj n.kids fun y hy=>by
  have hf2:=hf;rw[Tr.kG,Bool.and_eq_true,h2.1.1.1]at hf2;obtain⟨h3,h4⟩:=xe _ _ hf2.2 y hy;exact aat _ y (Nat.le_refl _) h4 (by simpa using h3)]
 exact(RN n hk hf).symm
end U
section
open Go.RowKit
open Tr (Nd)
open U (E aJ XH Jf eG bN)
theorem UU(m:Nd)(hm:Tr.valid m=true)(va vk:Value)(w:World)(hr:jd w (U.nT m) va vk):
  Calls Tryz.prog 23 #[ev (U.nT m) va vk] w fun x w'=>∃v,x=.returned (.tuple #[v,.int .i64 0,.int .i64 0])∧nW w w' m v:=by
 have hev:=U.Fv m hm;have hok:=(U.VJ m hm).1;have hb:=U.aau m hm;have hnm:(U.nT m).name=U.gU:=rfl;generalize U.nT m=e at*;obtain⟨A,ca,hva⟩:=hr.1.slice;obtain⟨B,cb,hvk⟩:=hr.2.1.slice;have HR:=hid hr;have HV:=hid (fun(w:World) (h:jd w e va vk)=>Mg e va vk w h);rw[hev]at HV;have gL:=hid (fun(w:World) (g:Nat) (h:gZ w g 0 e va vk)=>XM e g 0 va vk w h hnm hok)
 have HIT:=hid (fun(w:World) (g:Nat) (h:gZ w g 0 e va vk)=>show Calls Tryz.prog 41 #[.pointer (some ⟨g,0,none⟩)] w fun x w'=>∃v,x=.returned v∧nW w w' m v from by
  have h2:=aaq e g 0 va vk w h (H9 e hok (.inl hnm)) (by unfold U.valid at hev;simp only[Bool.and_eq_true,decide_eq_true_eq]at hev;omega);rw[hb]at h2;exact h2)
 have HM:=hid hm;clear hr hev hok hb hnm hm;obtain⟨n,ats,ks,t⟩:=e;replace hva:va=.slice A ats.length ca:=hva;replace hvk:vk=.slice B ks.length cb:=hvk;subst hva;subst hvk;unfold ev at*;simp only[E.name,E.text]at*;go_enter Tryz.func23,Tryz.ntmps23;go_wp2_with fail
 have hb0:=(af.new w 55 #[.string ⟨n.toArray⟩,.slice A ats.length ca,.slice B ks.length cb,.string ⟨t.toArray⟩]).alloc (.cells ZN 24);have hb1:=af.new2 w (.cells #[.string ⟨n.toArray⟩,.slice A ats.length ca,.slice B ks.length cb,.string ⟨t.toArray⟩] 55) 24 ZN;refine(HV.out _ (HR.out.fresh (((M _ w).alloc _).alloc _))).mono ?_;rintro _ w1 ⟨rfl,hf1⟩;have aK:=hid (Touch.pre (Touch.pre hf1));have HB0:=hid (hf1.blk hb0 fun h=>h);have HB1:=hid (hf1.blk hb1 fun h=>h);clear hf1 hb0 hb1;go_wp2_with fail
 obtain⟨q0,q1,q2,q3,_,_,_,_,hg⟩:=af.four HB0.out;refine(gL.out w1 w.heap.size ⟨hg,q0,q1,q2,q3,HR.out.fresh aK.out⟩).mono ?_;rintro _ w2 ⟨rfl,hf2⟩;have bW:=hid (aK.out.trans hf2);have aiZ:=hid (hf2.blk HB0.out fun h=>h);have HB2:=hid (hf2.blk HB1.out fun h=>h);clear hf2 q0 q1 q2 q3 hg;go_wp2_with fail
 obtain⟨q0,q1,q2,q3,_,_,_,_,hg⟩:=af.four aiZ.out;refine(HIT.out w2 w.heap.size ⟨hg,q0,q1,q2,q3,HR.out.fresh bW.out⟩).mono ?_;rintro _ w3 ⟨v3,rfl,sl,rfl,hf3,htl,qd⟩;obtain⟨Ar,cr,rfl⟩:=qd.now.slice;have bJ:=hid (bW.out.trans hf3);have HB3:=hid (hf3.blk HB2.out fun h=>h);have zh:=hid (show dz (fun k=>k<w2.heap.size) w3 fun W=>aD W m.kids (.slice Ar m.kids.length cr)from qd);have wL:=hid htl;have hz2:=bW.out.size;have HVA:=hid (fun(W:World) (h:aD W m.kids (.slice Ar m.kids.length cr))=>CQ m _ W h htl);rw[HM.out]at HVA;have G9:=hid HB2.out.lt;clear hf3 qd q0 q1 q2 q3 hg htl;unfold nv;obtain⟨rk,rt,rc,Ib⟩:=m;simp only[Nd.kind,Nd.text,Nd.ah,Nd.kids]at*;go_wp2_with fail
 have hfa:=(M (fun _=>False) w3).alloc (.cells #[.int .i64 rk,.string ⟨rt.toArray⟩,.int .i64 rc,.slice Ar Ib.length cr] 24);have hbn:=af.new w3 24 #[.int .i64 rk,.string ⟨rt.toArray⟩,.int .i64 rc,.slice Ar Ib.length cr];refine(HVA.out _ (zh.out _ (hfa.mono fun _ h=>h.elim))).mono ?_;rintro _ w4 ⟨rfl,jf⟩;have acM:=hid (hfa.trans jf);have eZ:=hid (bJ.out.trans acM.out);have iB:=hid (acM.out.blk HB3.out fun h=>h);have HN4:=hid (jf.blk hbn fun h=>h);have Kz:=hid (zh.out.fresh acM.out);clear jf hfa hbn;obtain⟨p0,p1,p2,p3,y0,y1,y2,y3,hg1⟩:=af.four iB.out;obtain⟨u0,u1,u2,u3,_,_,_,_,hgn⟩:=af.four HN4.out;go_wp2_with fail
 obtain⟨r0,r1,r2,r3,_,_,_,_,_⟩:=af.four (iB.out.gH (.int .i64 rk) (.string ⟨rt.toArray⟩) (.int .i64 rc) (.slice Ar Ib.length cr));simp only[aO]at r0 r1 r2 r3;refine bodyPost_ret (v:=.tuple #[.agg #[.int .i64 rk,.string ⟨rt.toArray⟩,.int .i64 rc,.slice Ar Ib.length cr],.int .i64 0,.int .i64 0]) (by simp[results,Tryz.results23,go_sem,r0,r1,r2,r3]) rfl ?_;refine⟨_,rfl,.slice Ar Ib.length cr,rfl,Touch.aO eZ.out (.inr (by omega)) _ _ _ _,wL.out,?_⟩;exact Kz.out.step ((M (fun k=>k=w.heap.size+1) w4).aO (.inl rfl) _ _ _ _) (fun i _ hi=>by have hi:i=w.heap.size+1:=hi;have:=G9.out;omega) (fun i _ hi=>by omega)
end
namespace U
open Tr (Nd)
theorem Ji(l:List UInt8):(dV l).length≤6*l.length:=by
 induction l with
 |nil=>exact Nat.le_refl _
 |cons b l ih=>
  have h:(iH b).length≤6:=by unfold iH;(repeat' split)<;>simp
  have h2:(dV (b::l)).length=(iH b).length+(dV l).length:=by unfold dV;rw[List.flatMap_cons,List.length_append]
  rw[h2,List.length_cons];omega
def Sh(e:E):Prop:=(fB e).length≤3700*count e
theorem ae0(l:List E)(h:∀x∈l,Sh x):(gF l).length≤3700*az l:=by
 induction l with
 |nil=>rw[gF];exact Nat.zero_le _
 |cons x l ih=>
  have h1:=h x (List.mem_cons_self ..);have h2:=ih fun y hy=>h y (List.mem_cons_of_mem _ hy)
  unfold Sh at h1;rw[gF,az,List.length_append];omega
theorem Fw(n:Bytes)(a:aJ)(ks:List E)(t:Bytes)(hn:n.length≤20)(ha:(dw a).length≤2430)(ht:t.length≤200)(h:∀x∈ks,Sh x):Sh (.mk n a ks t):=by
 have h1:=ae0 ks h;have h2:=Ji t;unfold Sh;rw[fB,count];split
 ·simp only[List.length_append,List.length_cons,List.length_nil];omega
 ·simp only[List.length_append,List.length_cons,List.length_nil];omega
theorem vZ(n m:Bytes)(a:aJ)(hn:n.length≤20)(hm:m.length≤20)(ha:(dw a).length≤2430)(ss:List (List E))(h:∀l∈ss,∀x∈l,Sh x):Sh (.mk n a (ss.map (ax m)) []):=by
 refine Fw n a _ [] hn ha (by decide) fun x hx=>?_
 obtain⟨l,hl,rfl⟩:=List.mem_map.1 hx;exact Fw m [] l [] hm (by decide) (by decide) (h l hl)
theorem aav{s:Bytes}(h:fu s=true):s.length≤200:=by
 unfold fu at h;rw[Bool.and_eq_true,decide_eq_true_eq]at h;exact h.2
theorem ahf(k:Int)(t:Bytes)(c:Int)(ss:List (List E))(ht:Tr.dR k t=true)(hk:Tr.bM k c ss.length=true)(h1:(k==1)=false)(h:∀l∈ss,∀x∈l,Sh x):Sh (FY k t c ss):=by
 have htl:=aav (tF _ _ ht)
 rcases Fs k c ss.length hk h1 with⟨rfl,hn⟩|⟨rfl,hn⟩|⟨rfl,hn⟩|⟨rfl,hn⟩|⟨rfl,hn⟩|⟨rfl,hn⟩|⟨rfl,hn⟩|⟨rfl,hn⟩|⟨rfl,hn⟩|⟨rfl,hn⟩|⟨rfl,hc1,hc2,hn1,hn2,hm⟩
 ·show Sh (.mk (if qX t then yt else yu) [] [] t)
  exact Fw _ _ _ _ (by cases qX t<;>decide) (by decide) htl fun _ hx=>nomatch hx
 ·exact Fw CU [] [] t (by decide) (by decide) htl fun _ hx=>nomatch hx
 ·exact Fw qG [] [] t (by decide) (by decide) htl fun _ hx=>nomatch hx
 ·exact vZ lq aj [] (by decide) (by decide) (by decide) ss h
 ·match ss,hn,h with
  |[]::[b],_,h=>exact vZ fV aj [] (by decide) (by decide) (by decide) [b] fun l hl=>h l (List.mem_cons_of_mem _ hl)
  |(a0::a)::[b],_,h=>exact vZ fZ aj [] (by decide) (by decide) (by decide) [b,a0::a] fun l hl=>h l (by simp only[List.mem_cons,List.not_mem_nil,or_false]at hl⊢;exact hl.symm)
 ·exact vZ mW aj [] (by decide) (by decide) (by decide) ss h
 ·exact vZ mX aj [] (by decide) (by decide) (by decide) ss h
 ·exact vZ gN aj [] (by decide) (by decide) (by decide) ss h
 ·refine vZ bI aj [(ji,t)] (by decide) (by decide) ?_ ss h
  have h6:=Ji t;unfold dw AV;simp only[List.flatMap_cons,List.flatMap_nil,List.length_append,List.length_cons,List.length_nil];have:ji.length=6:=rfl;omega
 ·refine vZ aV aj [(qH,t.take 1),(nR,t.drop 1)] (by decide) (by decide) ?_ ss h
  have h6:=Ji (t.take 1);have h7:=Ji (t.drop 1);have h8:(t.take 1).length≤1:=by rw[List.length_take];omega
  have h9:(t.drop 1).length≤200:=by rw[List.length_drop];omega
  unfold dw AV;simp only[List.flatMap_cons,List.flatMap_nil,List.length_append,List.length_cons,List.length_nil];have:qH.length=4:=rfl;have:nR.length=5:=rfl;omega
 ·have hmn:ss.length%c.toNat=0:=by
   have hcn:(c.toNat:Int)=c:=by omega
   have:((ss.length%c.toNat:Nat):Int)=0:=by rw[Int.natCast_emod,hcn];exact hm
   omega
  have hga:=KE c.toNat (by omega) ss hmn
  have hmap:(grid c.toNat (ss.map (ax bq)))=(grid c.toNat ss).map fun r=>r.map (ax bq):=by
   unfold grid;rw[List.length_map,List.map_map];refine List.map_congr_left fun r _=>?_
   show((ss.map (ax bq)).drop _).take _=((ss.drop _).take _).map _;rw[List.map_take,List.map_drop]
  show Sh (.mk bE [] ((grid c.toNat (ss.map (ax bq))).map (ax dU)) []);rw[hmap,List.map_map];refine Fw bE [] _ [] (by decide) (by decide) (by decide) fun x hx=>?_
  obtain⟨r,hr,rfl⟩:=List.mem_map.1 hx;exact vZ dU bq [] (by decide) (by decide) (by decide) r fun l hl=>h l ((hga r hr).2 l hl)
theorem ae1:∀(m:Nat) (x:Nd),Tr.count x≤m→Tr.form x=true→(x.kind==1)=false→Sh (iX x):=by
 intro m
 induction m with
 |zero=>intro x h;have:=Tr.bX x;omega
 |succ m ih=>
  intro x hm hf hk;have hs:=Bb x hf hk;rw[Tr.kG,Bool.and_eq_true,Bool.and_eq_true]at hf;rw[qI];refine ahf _ _ _ _ hf.1.1 (by rw[iM,List.length_map];exact hf.1.2) hk fun l hl e he=>?_
  rw[iM]at hl;obtain⟨r,hr,rfl⟩:=List.mem_map.1 hl;rw[zb]at he;obtain⟨y,hy,rfl⟩:=List.mem_map.1 he;obtain⟨h1,h2,h3,h4⟩:=(hs r hr).2.2 y hy;exact ih y (by omega) h2 h1
theorem Mk(n:Nd)(h:Tr.valid n=true):(fB (nT n)).length≤8000000:=by
 have h2:=(OH n h).1
 have hc:Tr.count n≤1000:=by
  unfold Tr.valid at h;simp only[Bool.and_eq_true,decide_eq_true_eq]at h;exact h.1.2
 have h3:Sh (nT n):=by
  refine Fw gU [] (eU n.kids) [] (by decide) (by decide) (by decide) fun x hx=>?_
  unfold Tr.valid at h;simp only[Bool.and_eq_true]at h;rw[zb]at hx;obtain⟨y,hy,rfl⟩:=List.mem_map.1 hx;have hf:=h.1.1.2;rw[Tr.kG,Bool.and_eq_true,h.1.1.1]at hf;obtain⟨h3,h4⟩:=xe _ _ hf.2 y hy;exact ae1 _ y (Nat.le_refl _) h4 (by simpa using h3)
 unfold Sh at h3;omega
end U
section
open Go.RowKit
open Tr (Nd)
open U (E aJ fB XH Jf nT)
theorem RO(m:Nd)(hv:Tr.valid m=true)(w:World):
  Calls Tryz.prog 10 #[.string ⟨(fB (nT m)).toArray⟩] w fun x w'=>∃v,x=.returned (.tuple #[v,.int .i64 0,.int .i64 0])∧nW w w' m v:=by
 have Cj:=hid (fun(W:World)=>XF ⟨(fB (nT m)).toArray⟩ (nT m) [] _ W (show(fB (nT m)).length≤_ from Nat.le_trans (U.Mk m hv) (by decide)) (Xp.M9 _ (U.Fv m hv)));have fU:=hid (fun(va vk:Value) (W:World) (h:jd W (nT m) va vk)=>UU m hv va vk W h);have HB0:=hid (af.new w 24 ZN);have jQ:=hid ((M (fun _=>False) w).alloc (.cells ZN 24));generalize fB (nT m)=T at*;generalize nT m=e at*;obtain⟨n,ats,ks,t⟩:=e;clear hv;unfold ev at fU Cj;simp only[E.name,E.text]at fU Cj;go_enter Tryz.func10,Tryz.ntmps10;go_wp2_with fail
 generalize (w.alloc (.cells ZN 24))=w0 at HB0 jQ⊢;refine(Cj.out _).mono ?_;rintro _ w1 ⟨va,vk,rfl,hf1,X5⟩;have aK:=hid (jQ.out.trans hf1);have HB1:=hid (hf1.blk HB0.out fun h=>h);have HRV:=hid X5.now;obtain⟨A,ca,hva⟩:=X5.now.1.slice;obtain⟨B,cb,hvk⟩:=X5.now.2.1.slice;clear hf1 X5 jQ HB0 Cj;replace hva:va=.slice A ats.length ca:=hva;replace hvk:vk=.slice B ks.length cb:=hvk;subst hva;subst hvk;obtain⟨rk,rt,rc,Ib⟩:=m;have HFE:=hid ((M (fun _=>False) w1).alloc (.cells #[.string ⟨n.toArray⟩,.slice A ats.length ca,.slice B ks.length cb,.string ⟨t.toArray⟩] 55));have oI:=hid (af.new w1 55 #[.string ⟨n.toArray⟩,.slice A ats.length ca,.slice B ks.length cb,.string ⟨t.toArray⟩]);go_wp2_with fail
 have bW:=hid (aK.out.trans HFE.out);have HB2:=hid (HFE.out.blk HB1.out fun h=>h);have HR2:=hid (HRV.out.fresh HFE.out);clear aK HB1 HRV HFE oI;generalize (w1.alloc (.cells #[.string ⟨n.toArray⟩,.slice A ats.length ca,.slice B ks.length cb,.string ⟨t.toArray⟩] 55))=w2 at bW HB2 HR2⊢;refine(fU.out _ _ _ HR2.out).mono ?_;rintro _ w3 ⟨v3,rfl,s3,rfl,hf3,af5,qd⟩;obtain⟨A3,c3,rfl⟩:=qd.now.slice;have bJ:=hid (bW.out.trans hf3);have HB3:=hid (hf3.blk HB2.out fun h=>h);have wL:=hid af5;have G9:=hid HB2.out.lt;have HST:=hid (show dz (fun k=>k<w2.heap.size) w3 fun W=>aD W Ib (.slice A3 Ib.length c3)from qd);have hz2:=bW.out.size;clear hf3 qd af5;obtain⟨p0,p1,p2,p3,y0,y1,y2,y3,hg1⟩:=af.four HB3.out;unfold nv;simp only[Nd.kind,Nd.text,Nd.ah,Nd.kids];go_wp2_with fail
 obtain⟨r0,r1,r2,r3,_,_,_,_,_⟩:=af.four (HB3.out.gH (.int .i64 rk) (.string ⟨rt.toArray⟩) (.int .i64 rc) (.slice A3 Ib.length c3));simp only[aO]at r0 r1 r2 r3;refine bodyPost_ret (v:=.tuple #[.agg #[.int .i64 rk,.string ⟨rt.toArray⟩,.int .i64 rc,.slice A3 Ib.length c3],.int .i64 0,.int .i64 0]) (by simp[results,Tryz.results10,go_sem,r0,r1,r2,r3]) rfl ?_;refine⟨_,rfl,.slice A3 Ib.length c3,rfl,Touch.aO bJ.out (.inr (by omega)) _ _ _ _,wL.out,?_⟩;exact HST.out.step ((M (fun k=>k=w.heap.size) w3).aO (.inl rfl) _ _ _ _) (fun i _ hi=>by have hi:i=w.heap.size:=hi;have:=G9.out;omega) (fun i _ hi=>by omega)
end
end Go.Proofs.YtcgbccfpcgaikaaGreatDoor
