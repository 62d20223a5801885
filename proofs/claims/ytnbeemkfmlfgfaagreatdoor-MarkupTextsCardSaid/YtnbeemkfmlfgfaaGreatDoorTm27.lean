/- Part 27 of 48 of a proof. No condition. -/
import Derived.Test.YtnbeemkfmlfgfaaGreatDoorTm26
set_option maxRecDepth 100000
set_option maxHeartbeats 2000000
namespace Go.Proofs.YtnbeemkfmlfgfaaGreatDoor
namespace U
open Tr (Nd)
theorem Lm(x:Nd)(hc:Tr.count x≤10)(hd:Tr.depth x≤10):Tr.valid (.mk 1 [] 0 [x])=((x.kind !=1)&&Tr.form x):=by
 unfold Tr.valid;have h1:decide (Tr.count (.mk 1 [] 0 [x])≤1000)=true:=by rw[Tr.count,Tr.aj,Tr.aj];exact decide_eq_true (by omega)
 have h2:decide (Tr.depth (.mk 1 [] 0 [x])≤24)=true:=by rw[Tr.depth,Tr.aP,Tr.aP];exact decide_eq_true (by omega)
 rw[h1,h2,Bool.and_true,Bool.and_true,Tr.form,Tr.ku,Tr.ku,Bool.and_true];show(true&&(true&&((x.kind==1) !=true)&&Tr.form x))=_;rw[Bool.true_and,Bool.true_and];cases h:x.kind==1<;>simp[bne,h]
theorem qV(k:Int)(t:Bytes)(s:Nat)(hs:s≤1):eU k t s=((k !=1)&&(Tr.gI k t&&Tr.cZ k 0 s)):=by
 have h:s=0∨s=1:=by omega
 unfold eU
 rcases h with rfl|rfl
 ·rw[Lm _ (by rw[Tr.count,List.replicate,Tr.aj];omega) (by rw[Tr.depth,List.replicate,Tr.aP];omega),Tr.form,List.replicate,Tr.ku,Bool.and_true];rfl
 ·rw[Lm _ (by simp only[Tr.count,List.replicate,Tr.aj,dN];omega) (by simp only[Tr.depth,List.replicate,Tr.aP,dN];decide),Tr.form]
  show((k !=1)&&(Tr.gI k t&&Tr.cZ k 0 1&&Tr.ku (k==1) [dN]))=_;cases h:k==1 with
  |true=>simp[bne,h]
  |false=>
   rw[show Tr.ku false [dN]=true from by simp only[Tr.ku,dN,Tr.form];rfl,Bool.and_true]
def jG:List Bytes:=[pO,qC,vL,lF,iL,dK,fo,jo,jq,eF,bF,aT,aU]
def lX:List Bytes:=[bJ,ah,aJ]
theorem Hg:∀n∈jG++lX++[bM],eG n=true:=by decide
def EL(e:E):Prop:=mM e=true∧proper e=true∧e.name∈jG
theorem Z6(n:Bytes)(hn:n∈lX)(a:aA)(ks:List E)(t:Bytes)(x:E)(hx:x.name∈jG):kD (.mk n a ks t) x=true:=by
 obtain⟨m,b,ls,s⟩:=x;have h1:n=bJ∨n=ah∨n=aJ:=by simpa[lX]using hn
 have h2:∀m∈jG,!(decide (m=bJ)||decide (m=ah)||decide (m=aJ)||decide (m=bM)):=by decide
 show(if _ then _ else _)=true;rw[if_pos h1];exact h2 m hx
theorem Z7(n:Bytes)(hn:n∈lX)(l:List E):bQ (.mk n [] l [])=true:=by
 have h1:n=bJ∨n=ah∨n=aJ:=by simpa[lX]using hn
 rcases h1 with rfl|rfl|rfl<;>rfl
theorem CY(n:Bytes)(hn:eG n=true)(l:List E):pM (.mk n [] l [])=true:=by
 show(eG n&&bG []&&(([]:Bytes).isEmpty||l.isEmpty)&&decide (0≤8)&&dQ [])=true;rw[hn];rfl
theorem Oz(n:Bytes)(hn:n∈lX)(l:List E)(h:∀x∈l,EL x):mM (az n l)=true∧proper (az n l)=true:=by
 unfold az;rw[rP,Z7 n hn,mX,CY n (Hg n (by simp[hn]))];refine⟨?_,?_⟩
 ·rw[Bool.true_and,vO,List.all_eq_true]
  intro x hx;rw[Z6 n hn _ _ _ x (h x hx).2.2,(h x hx).1];rfl
 ·rw[Bool.true_and,kZ,List.all_eq_true]
  exact fun x hx=>(h x hx).2.1
theorem rows_ok(n:Bytes)(hn:n∈jG)(h0:n≠aU)(a:aA)(ls:List (List E))(h:∀l∈ls,∀x∈l,EL x)(ho:bQ (.mk n a (ls.map (az ah)) [])=true)(ha:(decide (a.length≤8)&&dQ a)=true):EL (.mk n a (ls.map (az ah)) []):=by
 have hadm:∀m∈jG,m≠aU→¬(m=bJ∨m=ah∨m=aJ)∧m≠bM:=by decide
 have hr:∀x∈ls.map (az ah),mM x=true∧proper x=true∧x.name=ah:=by
  intro x hx;obtain⟨l,hl,rfl⟩:=List.mem_map.1 hx;have:=Oz ah (by simp[lX]) l (h l hl);exact⟨this.1,this.2,rfl⟩
 refine⟨?_,?_,hn⟩
 ·rw[rP,ho,Bool.true_and,vO,List.all_eq_true]
  intro x hx;obtain⟨h1,_,h3⟩:=hr x hx;obtain⟨m,b,js,s⟩:=x;rw[h1,Bool.and_true];show(if _ then _ else _)=true;rw[if_neg (hadm n hn h0).1,if_neg h0,if_neg (hadm n hn h0).2];exact decide_eq_true h3
 ·rw[mX,Bool.and_eq_true]
  refine⟨?_,?_⟩
  ·show(eG n&&bG []&&(([]:Bytes).isEmpty||(ls.map (az ah)).isEmpty)&&decide (a.length≤8)&&dQ a)=true
   rw[Bool.and_eq_true]at ha;rw[Hg n (by simp[hn]),ha.1,ha.2];rfl
  ·rw[kZ,List.all_eq_true]
   exact fun x hx=>(hr x hx).2.1
theorem FK(n:Bytes)(hn:n∈jG)(t:Bytes)(ho:bQ (.mk n [] [] t)=true)(ht:bG t=true):EL (.mk n [] [] t):=by
 refine⟨?_,?_,hn⟩
 ·rw[rP,ho];exact(by rw[E.kids,Dx];rfl)
 ·rw[mX,Bool.and_eq_true]
  refine⟨?_,by rw[E.kids,jI]⟩;show(eG n&&bG t&&(t.isEmpty||true)&&decide (0≤8)&&dQ [])=true;rw[Hg n (by simp[hn]),ht,Bool.or_true];rfl
theorem OA{α:Type}(c:Nat)(hc:0<c)(l:List α)(hd:l.length%c=0):∀r∈grid c l,r.length=c∧∀x∈r,x∈l:=by
 intro r hr;unfold grid at hr;obtain⟨i,hi,rfl⟩:=List.mem_map.1 hr;have hi:=List.mem_range.1 hi;have h1:l.length=l.length/c*c:=by have:=Nat.div_add_mod l.length c;rw[Nat.mul_comm]at this;omega
 have h2:(l.length+c-1)/c=l.length/c:=by
  have:=zw c (l.length/c) hc;rw[←h1]at this;exact this
 rw[h2]at hi;have h3:(i+1)*c≤l.length/c*c:=Nat.mul_le_mul_right c hi;rw[Nat.add_mul,Nat.one_mul]at h3;refine⟨by rw[List.length_take,List.length_drop];omega,fun x hx=>List.mem_of_mem_drop (List.mem_of_mem_take hx)⟩
theorem Ji{α:Type}(c:Nat)(hc:0<c)(l:List α)(hd:l.length%c=0):(grid c l).length=l.length/c∧(grid c l).flatten=l:=by
 have h1:l.length=l.length/c*c:=by have:=Nat.div_add_mod l.length c;rw[Nat.mul_comm]at this;omega
 have h2:(l.length+c-1)/c=l.length/c:=by
  have:=zw c (l.length/c) hc;rw[←h1]at this;exact this
 refine⟨by unfold grid;rw[List.length_map,List.length_range,h2],?_⟩;unfold grid;rw[h2]
 have:∀k,k*c≤l.length→((List.range k).map fun r=>(l.drop (r*c)).take c).flatten=l.take (k*c):=by
  intro k
  induction k with
  |zero=>intro _;simp
  |succ k ih=>
   intro hk;rw[Nat.add_mul,Nat.one_mul]at hk⊢;rw[List.range_succ,List.map_append,List.flatten_append,ih (by omega),List.map_singleton,List.flatten_singleton,List.take_add]
 rw[this _ (by omega),List.take_of_length_le (by omega)]
theorem Z8(gs:List (List (List E)))(c:Nat)(h0:0<gs.length)(hc:1≤c)(hc2:c≤16)(hl:∀r∈gs,r.length=c)(h:∀r∈gs,∀l∈r,∀x∈l,EL x):EL (.mk aU [] (gs.map fun r=>az bM (r.map (az aJ))) []):=by
 have hr:∀r∈gs,mM (az bM (r.map (az aJ)))=true∧proper (az bM (r.map (az aJ)))=true:=by
  intro r hr
  have hx:∀x∈r.map (az aJ),mM x=true∧proper x=true∧x.name=aJ:=by
   intro x hx;obtain⟨l,hl,rfl⟩:=List.mem_map.1 hx;have:=Oz aJ (by simp[lX]) l (h r hr l hl);exact⟨this.1,this.2,rfl⟩
  have ho:bQ (az bM (r.map (az aJ)))=true:=by
   show(true&&(decide (1≤(r.map (az aJ)).length)&&decide ((r.map (az aJ)).length≤16))&&true&&decide (0=0))=true;rw[List.length_map,hl r hr,decide_eq_true hc,decide_eq_true hc2];rfl
  refine⟨?_,?_⟩
  ·rw[rP,ho,Bool.true_and,vO,List.all_eq_true]
   intro x hx';obtain⟨h1,_,h3⟩:=hx x hx';obtain⟨m,b,js,s⟩:=x;rw[h1,Bool.and_true];exact decide_eq_true h3
  ·rw[mX,Bool.and_eq_true]
   refine⟨CY bM (by decide) _,?_⟩;rw[kZ,List.all_eq_true];exact fun x hx'=>(hx x hx').2.1
 refine⟨?_,?_,(show aU∈jG by decide)⟩
 ·have ho:bQ (.mk aU [] (gs.map fun r=>az bM (r.map (az aJ))) [])=true:=by
   show(true&&decide (1≤(gs.map fun r=>az bM (r.map (az aJ))).length)&&true&&decide (0=0))=true;rw[List.length_map,decide_eq_true (show 1≤gs.length from h0)];rfl
  rw[rP,ho,Bool.true_and,vO,List.all_eq_true];intro x hx;obtain⟨r,hr',rfl⟩:=List.mem_map.1 hx;rw[(hr r hr').1,Bool.and_true];have hlr:=hl r hr'
  match gs,h0,hl with
  |g::gs',_,hl=>
   show(true&&decide ((r.map (az aJ)).length=(g.map (az aJ)).length))=true;rw[List.length_map,List.length_map,hlr,hl g (List.mem_cons_self ..)];simp
 ·rw[mX,Bool.and_eq_true]
  refine⟨CY aU (by decide) _,?_⟩;rw[kZ,List.all_eq_true];intro x hx;obtain⟨r,hr',rfl⟩:=List.mem_map.1 hx;exact(hr r hr').2
theorem Qe:∀n:Fin 256,Tr.character (UInt8.ofNat n.1)=true→aK (UInt8.ofNat n.1)=true:=by decide+kernel
theorem Jj(b:UInt8)(h:Tr.character b=true):aK b=true:=by
 have:=Qe ⟨b.toNat,b.toNat_lt⟩;simp only[UInt8.ofNat_toNat]at this;exact this h
theorem OB:∀n:Fin 256,Tr.digit (UInt8.ofNat n.1)=true→aK (UInt8.ofNat n.1)=true:=by decide+kernel
theorem Bp(b:UInt8)(h:Tr.digit b=true):aK b=true:=by
 have:=OB ⟨b.toNat,b.toNat_lt⟩;simp only[UInt8.ofNat_toNat]at this;exact this h
theorem OC(b:UInt8)(h:Tr.letter b=true):aK b=true:=Jj b (by unfold Tr.character;rw[h];rfl)
theorem Ki{p q:UInt8→Bool}(h:∀b,p b=true→q b=true)(s:Bytes)(hs:s.all p=true):s.all q=true:=by
 rw[List.all_eq_true]at hs⊢;exact fun b hb=>h b (hs b hb)
theorem WN(s:Bytes)(h1:(s.takeWhile (·≠46)).all Tr.digit=true)(h2:∀d b,s.dropWhile (·≠46)=d::b→b.all Tr.digit=true):s.all aK=true:=by
 induction s with
 |nil=>rfl
 |cons x r ih=>
  rw[List.all_cons,Bool.and_eq_true]
  by_cases hx:x=46
  ·subst hx
   refine⟨by decide,Ki Bp r (h2 46 r (by simp[List.dropWhile]))⟩
  ·rw[List.takeWhile_cons_of_pos (by simpa using hx),List.all_cons,Bool.and_eq_true]at h1
   refine⟨Bp x h1.1,ih h1.2 fun d b hd=>h2 d b ?_⟩;rw[List.dropWhile_cons_of_pos (by simpa using hx),hd]
theorem rE(k:Int)(s:Bytes)(h:Tr.gI k s=true):bG s=true:=by
 unfold bG;rw[Bool.and_eq_true,decide_eq_true_eq];unfold Tr.gI at h;split at h
 ·unfold Tr.symbol at h
  split at h
  ·exact⟨by rw[List.all_cons,Jj _ h];rfl,by simp⟩
  ·simp only[Bool.and_eq_true,decide_eq_true_eq]at h
   exact⟨Ki OC s h.1.1.1.1,by omega⟩
 split at h
 ·unfold Tr.isNum at h
  simp only[Bool.and_eq_true,decide_eq_true_eq,Bool.or_eq_true]at h;refine⟨?_,by omega⟩
  rcases h.2 with h2|h2
  ·exact Ki Bp s h2
  ·split at h2
   ·rename_i d b hd
    simp only[Bool.and_eq_true]at h2;refine WN s h2.1.1.2 fun d' b' hd'=>?_
    rw[hd]at hd';cases hd';exact h2.2
   ·cases h2
 split at h
 ·simp only[Bool.and_eq_true,decide_eq_true_eq]at h
  exact⟨by have:=h.2;unfold Tr.aK at this;exact this,h.1⟩
 split at h
 ·have hm:=List.contains_iff_mem.1 h
  have ha:∀t∈Tr.fJ,t.all aK=true∧t.length≤200:=by decide
  exact ha s hm
 split at h
 ·unfold Tr.fence at h
  split at h
  ·rename_i a b
   rw[Bool.and_eq_true]at h;have hd:∀c∈Tr.su,aK c=true:=by decide
   exact⟨by rw[List.all_cons,List.all_cons,hd a (List.contains_iff_mem.1 h.1),hd b (List.contains_iff_mem.1 h.2)];rfl,by simp⟩
  ·cases h
 ·rw[List.isEmpty_iff.1 h];exact⟨rfl,by simp⟩
end U
namespace U
open Tr (Nd)
theorem xE(r:Bool):∀(l:List Nd),Tr.ku r l=true→∀x∈l,((x.kind==1) !=r)=true∧Tr.form x=true
 |[],_,x,hx=>by cases hx
 |y::l,h,x,hx=>by
  rw[Tr.ku,Bool.and_eq_true,Bool.and_eq_true]at h
  rcases List.mem_cons.1 hx with rfl|hx
  ·exact h.1
  ·exact xE r l h.2 x hx
theorem CZ(x:Nd)(hf:Tr.form x=true)(hk:(x.kind==1)=false):∀r∈x.kids,r.kind=1∧Tr.form r=true∧∀y∈r.kids,(y.kind==1)=false∧Tr.form y=true∧Tr.count y<Tr.count r∧Tr.count r<Tr.count x:=by
 intro r hr;rw[Tr.mg,Bool.and_eq_true,hk]at hf;obtain⟨h1,h2⟩:=xE _ _ hf.2 r hr;have h1':r.kind=1:=by simpa using h1
 refine⟨h1',h2,fun y hy=>?_⟩;rw[Tr.mg,Bool.and_eq_true,h1']at h2;obtain⟨h3,h4⟩:=xE _ _ h2.2 y hy;have:=Tr.dm hy;have:=Tr.aI r;have:=Tr.dm hr;have:=Tr.aI x;exact⟨by simpa using h3,h4,by omega,by omega⟩
theorem Hl(k c:Int)(n:Nat)(h:Tr.cZ k c n=true)(h1:(k==1)=false):
  (k=2∧n=0)∨(k=3∧n=0)∨(k=4∧n=0)∨(k=5∧n=2)∨(k=6∧n=2)∨(k=7∧n=2)∨(k=8∧n=2)∨(k=9∧n=3)∨(k=10∧n=1)∨(k=11∧n=1)∨(k=12∧1≤c∧c≤16∧1≤n∧n≤256∧(n:Int)%c=0):=by
 have h1':k≠1:=by simpa using h1
 unfold Tr.cZ at h
 by_cases h12:k=12
 ·rw[if_pos h12]at h
  simp only[Bool.and_eq_true,decide_eq_true_eq]at h;exact .inr (.inr (.inr (.inr (.inr (.inr (.inr (.inr (.inr (.inr ⟨h12,h.1.1.1.1,h.1.1.1.2,h.1.1.2,h.1.2,h.2⟩)))))))))
 ·rw[if_neg h12]at h
  by_cases hc:c≠0
  ·rw[if_pos hc]at h;cases h
  ·rw[if_neg hc,if_neg h1']at h
   by_cases ha:k=2∨k=3∨k=4
   ·rw[if_pos ha,decide_eq_true_eq]at h
    rcases ha with ha|ha|ha
    ·exact .inl ⟨ha,h⟩
    ·exact .inr (.inl ⟨ha,h⟩)
    ·exact .inr (.inr (.inl ⟨ha,h⟩))
   ·rw[if_neg ha]at h
    by_cases hb:k=5∨k=6∨k=7∨k=8
    ·rw[if_pos hb,decide_eq_true_eq]at h
     rcases hb with hb|hb|hb|hb
     ·exact .inr (.inr (.inr (.inl ⟨hb,h⟩)))
     ·exact .inr (.inr (.inr (.inr (.inl ⟨hb,h⟩))))
     ·exact .inr (.inr (.inr (.inr (.inr (.inl ⟨hb,h⟩)))))
     ·exact .inr (.inr (.inr (.inr (.inr (.inr (.inl ⟨hb,h⟩))))))
    ·rw[if_neg hb]at h
     by_cases h9:k=9
     ·rw[if_pos h9,decide_eq_true_eq]at h
      exact .inr (.inr (.inr (.inr (.inr (.inr (.inr (.inl ⟨h9,h⟩)))))))
     ·rw[if_neg h9]at h
      by_cases hd:k=10∨k=11
      ·rw[if_pos hd,decide_eq_true_eq]at h
       rcases hd with hd|hd
       ·exact .inr (.inr (.inr (.inr (.inr (.inr (.inr (.inr (.inl ⟨hd,h⟩))))))))
       ·exact .inr (.inr (.inr (.inr (.inr (.inr (.inr (.inr (.inr (.inl ⟨hd,h⟩)))))))))
      ·rw[if_neg hd]at h;cases h
theorem WO(t:Bytes)(h:Tr.fence t=true):∃a b,t=[a,b]:=by
 unfold Tr.fence at h;split at h
 ·exact⟨_,_,rfl⟩
 ·cases h
theorem vS:(decide ((([]:aA)).length≤8)&&dQ [])=true:=rfl
theorem aey(k:Int)(t:Bytes)(c:Int)(ss:List (List E))(ht:Tr.gI k t=true)(hk:Tr.cZ k c ss.length=true)(h1:(k==1)=false)(h:∀l∈ss,∀x∈l,EL x):EL (BG k t c ss):=by
 have hlen:∀(f:List E→E),(ss.map f).length=ss.length:=fun f=>List.length_map f
 rcases Hl k c ss.length hk h1 with⟨rfl,hn⟩|⟨rfl,hn⟩|⟨rfl,hn⟩|⟨rfl,hn⟩|⟨rfl,hn⟩|⟨rfl,hn⟩|⟨rfl,hn⟩|⟨rfl,hn⟩|⟨rfl,hn⟩|⟨rfl,hn⟩|⟨rfl,hc1,hc2,hn1,hn2,hm⟩
 ·have hv:eU 2 t 0=true:=by rw[qV _ _ _ (by omega),ht];rfl
  show EL (.mk (if iR t then pO else qC) [] [] t);cases hl:iR t with
  |true=>exact FK pO (by decide) t (by show(iR t&&true&&true&&eU 2 t 0)=true;rw[hl,hv];rfl) (rE _ _ ht)
  |false=>exact FK qC (by decide) t (by show(!iR t&&true&&true&&eU 2 t 0)=true;rw[hl,hv];rfl) (rE _ _ ht)
 ·exact FK vL (by decide) t (by show(true&&true&&true&&eU 3 t 0)=true;rw[qV _ _ _ (by omega),ht];rfl) (rE _ _ ht)
 ·exact FK lF (by decide) t (by show(true&&true&&true&&eU 4 t 0)=true;rw[qV _ _ _ (by omega),ht];rfl) (rE _ _ ht)
 ·exact rows_ok iL (by decide) (by decide) [] ss h (by show(true&&decide ((ss.map (az ah)).length=2)&&true&&decide (0=0))=true;rw[hlen,hn];rfl) vS
 ·match ss,hn,h with
  |[]::[b],_,h=>exact rows_ok dK (by decide) (by decide) [] [b] (fun l hl=>h l (List.mem_cons_of_mem _ hl)) rfl vS
  |(a0::a)::[b],_,h=>exact rows_ok fo (by decide) (by decide) [] [b,a0::a] (fun l hl=>h l (by simp only[List.mem_cons,List.not_mem_nil,or_false]at hl⊢;exact hl.symm)) rfl vS
 ·exact rows_ok jo (by decide) (by decide) [] ss h (by show(true&&decide ((ss.map (az ah)).length=2)&&true&&decide (0=0))=true;rw[hlen,hn];rfl) vS
 ·exact rows_ok jq (by decide) (by decide) [] ss h (by show(true&&decide ((ss.map (az ah)).length=2)&&true&&decide (0=0))=true;rw[hlen,hn];rfl) vS
 ·exact rows_ok eF (by decide) (by decide) [] ss h (by show(true&&decide ((ss.map (az ah)).length=3)&&true&&decide (0=0))=true;rw[hlen,hn];rfl) vS
 ·have hv:eU 10 t 1=true:=by rw[qV _ _ _ (by omega),ht];rfl
  refine rows_ok bF (by decide) (by decide) [(cK,t)] ss h ?_ ?_
  ·show(true&&decide ((ss.map (az ah)).length=1)&&eU 10 t 1&&decide (1=1))=true
   rw[hlen,hn,hv];rfl
  ·show(true&&((eG cK&&bG t)&&true&&decide ([cK].Nodup)))=true
   rw[rE _ _ ht];decide
 ·obtain⟨a,b,rfl⟩:=WO t (by have:=ht;unfold Tr.gI at this;simpa using this)
  have hv:eU 11 [a,b] 1=true:=by rw[qV _ _ _ (by omega),ht];rfl
  have htv:=rE _ _ ht
  have hva:bG [a]=true∧bG [b]=true:=by
   unfold bG at htv⊢;simp only[List.all_cons,List.all_nil,Bool.and_true,Bool.and_eq_true]at htv⊢;exact⟨⟨htv.1.1,rfl⟩,htv.1.2,rfl⟩
  refine rows_ok aT (by decide) (by decide) [(fK,[a]),(dM,[b])] ss h ?_ ?_
  ·show(true&&decide ((ss.map (az ah)).length=1)&&(true&&true&&eU 11 [a,b] 1)&&decide (2=2))=true
   rw[hlen,hn,hv];rfl
  ·show(true&&((eG fK&&bG [a])&&((eG dM&&bG [b])&&true)&&decide ([fK,dM].Nodup)))=true
   rw[hva.1,hva.2];decide
 ·have hcn:(c.toNat:Int)=c:=by omega
  have hmn:ss.length%c.toNat=0:=by
   have:((ss.length%c.toNat:Nat):Int)=0:=by rw[Int.natCast_emod,hcn];exact hm
   omega
  have hgl:=Ji c.toNat (by omega) ss hmn;have hga:=OA c.toNat (by omega) ss hmn
  have hmap:(grid c.toNat (ss.map (az aJ)))=(grid c.toNat ss).map fun r=>r.map (az aJ):=by
   unfold grid;rw[List.length_map,List.map_map];refine List.map_congr_left fun r _=>?_
   show((ss.map (az aJ)).drop _).take _=((ss.drop _).take _).map _;rw[List.map_take,List.map_drop]
  show EL (.mk aU [] ((grid c.toNat (ss.map (az aJ))).map (az bM)) []);rw[hmap,List.map_map];refine Z8 (grid c.toNat ss) c.toNat ?_ (by omega) (by omega) (fun r hr=>(hga r hr).1) (fun r hr l hl=>h l ((hga r hr).2 l hl));rw[hgl.1];have:0<ss.length/c.toNat:=Nat.div_pos (Nat.le_of_dvd (by omega) (Nat.dvd_of_mod_eq_zero hmn)) (by omega);exact this
theorem acj:∀(m:Nat) (x:Nd),Tr.count x≤m→Tr.form x=true→(x.kind==1)=false→EL (dH x):=by
 intro m
 induction m with
 |zero=>intro x h;have:=Tr.gQ x;omega
 |succ m ih=>
  intro x hm hf hk;have hs:=CZ x hf hk;rw[Tr.mg,Bool.and_eq_true,Bool.and_eq_true]at hf;rw[jD];refine aey _ _ _ _ hf.1.1 (by rw[fQ,List.length_map];exact hf.1.2) hk fun l hl e he=>?_
  rw[fQ]at hl;obtain⟨r,hr,rfl⟩:=List.mem_map.1 hl;rw[ze]at he;obtain⟨y,hy,rfl⟩:=List.mem_map.1 he;obtain⟨h1,h2,h3,h4⟩:=(hs r hr).2.2 y hy;exact ih y (by omega) h2 h1
theorem ack(n:Nd)(h:Tr.valid n=true):mM (nJ n)=true∧proper (nJ n)=true:=by
 unfold Tr.valid at h;simp only[Bool.and_eq_true]at h;refine Oz bJ (by decide) _ fun e he=>?_
 rw[ze]at he;obtain⟨y,hy,rfl⟩:=List.mem_map.1 he;have hf:=h.1.1.2;rw[Tr.mg,Bool.and_eq_true,h.1.1.1]at hf;obtain⟨h3,h4⟩:=xE _ _ hf.2 y hy;exact acj _ y (Nat.le_refl _) h4 (by simpa using h3)
def C8:List (List E)→Nat
 |[]=>0
 |l::ls=>aj l+C8 ls
def maxD:List (List E)→Nat
 |[]=>0
 |l::ls=>max (aP l) (maxD ls)
theorem yU(nm:Bytes)(ss:List (List E)):aj (ss.map (az nm))=ss.length+C8 ss:=by
 induction ss with
 |nil=>rfl
 |cons l ss ih=>
  rw[List.map_cons,aj,ih,C8,List.length_cons];show count (.mk nm [] l [])+_=_;rw[count];omega
theorem yV(nm:Bytes)(ss:List (List E)):aP (ss.map (az nm))≤1+maxD ss:=by
 induction ss with
 |nil=>exact Nat.zero_le _
 |cons l ss ih=>
  rw[List.map_cons,aP,maxD];have:depth (az nm l)=aP l+1:=by show depth (.mk nm [] l [])=_;rw[depth]
  omega
theorem Qf(nm:Bytes)(gs:List (List E)):aj (gs.map (az nm))=gs.length+aj gs.flatten:=by
 induction gs with
 |nil=>rfl
 |cons g gs ih=>
  rw[List.map_cons,aj,ih,List.flatten_cons,Cj,List.length_cons];show count (.mk nm [] g [])+_=_;rw[count];omega
theorem Qg(nm:Bytes)(gs:List (List E)):aP (gs.map (az nm))≤1+aP gs.flatten:=by
 induction gs with
 |nil=>exact Nat.zero_le _
 |cons g gs ih=>
  rw[List.map_cons,aP,List.flatten_cons,vZ];have:depth (az nm g)=aP g+1:=by show depth (.mk nm [] g [])=_;rw[depth]
  omega
theorem acm(k:Int)(t:Bytes)(c:Int)(ss:List (List E))(hk:Tr.cZ k c ss.length=true)(h1:(k==1)=false):
  count (BG k t c ss)≤1+2*ss.length+C8 ss∧depth (BG k t c ss)≤(if ss.length=0 then 1 else 3+maxD ss):=by
 have hrc:=yU ah ss;have hrd:=yV ah ss
 rcases Hl k c ss.length hk h1 with⟨rfl,hn⟩|⟨rfl,hn⟩|⟨rfl,hn⟩|⟨rfl,hn⟩|⟨rfl,hn⟩|⟨rfl,hn⟩|⟨rfl,hn⟩|⟨rfl,hn⟩|⟨rfl,hn⟩|⟨rfl,hn⟩|⟨rfl,hc1,hc2,hn1,hn2,hm⟩
 ·rw[if_pos hn]
  show count (.mk _ [] [] t)≤_∧depth (.mk _ [] [] t)≤_;rw[count,aj,depth,aP];omega
 ·rw[if_pos hn]
  show count (.mk _ [] [] t)≤_∧depth (.mk _ [] [] t)≤_;rw[count,aj,depth,aP];omega
 ·rw[if_pos hn]
  show count (.mk _ [] [] t)≤_∧depth (.mk _ [] [] t)≤_;rw[count,aj,depth,aP];omega
 ·rw[if_neg (by omega)]
  show count (.mk _ [] (ss.map (az ah)) [])≤_∧depth (.mk _ [] (ss.map (az ah)) [])≤_;rw[count,depth];omega
 ·rw[if_neg (by omega)]
  match ss,hn with
  |[]::[b],_=>
   show count (.mk dK [] [az ah b] [])≤_∧depth (.mk dK [] [az ah b] [])≤_;have h2:=yU ah [b];have h3:=yV ah [b];simp only[List.map_cons,List.map_nil,C8,maxD,List.length_cons,List.length_nil]at h2 h3⊢;rw[count,depth,h2];simp only[aj,aP]at*;omega
  |(a0::a)::[b],_=>
   show count (.mk fo [] [az ah b,az ah (a0::a)] [])≤_∧depth (.mk fo [] [az ah b,az ah (a0::a)] [])≤_;have h2:=yU ah [b,a0::a];have h3:=yV ah [b,a0::a];simp only[List.map_cons,List.map_nil,C8,maxD,List.length_cons,List.length_nil]at h2 h3⊢;rw[count,depth,h2];omega
 ·rw[if_neg (by omega)]
  show count (.mk _ [] (ss.map (az ah)) [])≤_∧depth (.mk _ [] (ss.map (az ah)) [])≤_;rw[count,depth];omega
 ·rw[if_neg (by omega)]
  show count (.mk _ [] (ss.map (az ah)) [])≤_∧depth (.mk _ [] (ss.map (az ah)) [])≤_;rw[count,depth];omega
 ·rw[if_neg (by omega)]
  show count (.mk _ [] (ss.map (az ah)) [])≤_∧depth (.mk _ [] (ss.map (az ah)) [])≤_;rw[count,depth];omega
 ·rw[if_neg (by omega)]
  show count (.mk _ _ (ss.map (az ah)) [])≤_∧depth (.mk _ _ (ss.map (az ah)) [])≤_;rw[count,depth];omega
 ·rw[if_neg (by omega)]
  show count (.mk _ _ (ss.map (az ah)) [])≤_∧depth (.mk _ _ (ss.map (az ah)) [])≤_;rw[count,depth];omega
 ·rw[if_neg (by omega)]
  have hcn:(c.toNat:Int)=c:=by omega
  have hmn:(ss.map (az aJ)).length%c.toNat=0:=by
   have:((ss.length%c.toNat:Nat):Int)=0:=by rw[Int.natCast_emod,hcn];exact hm
   rw[List.length_map];omega
  have hg:=Ji c.toNat (by omega) (ss.map (az aJ)) hmn;have h2:=Qf bM (grid c.toNat (ss.map (az aJ)));have h3:=Qg bM (grid c.toNat (ss.map (az aJ)));have h4:=yU aJ ss;have h5:=yV aJ ss;have h6:ss.length/c.toNat≤ss.length:=Nat.div_le_self _ _;rw[hg.2]at h2 h3;rw[hg.1,List.length_map]at h2;show count (.mk aU [] ((grid c.toNat (ss.map (az aJ))).map (az bM)) [])≤_∧depth (.mk aU [] ((grid c.toNat (ss.map (az aJ))).map (az bM)) [])≤_;rw[count,depth];omega
theorem Jk(l:List Nd)(h:∀y∈l,count (dH y)≤2*Tr.count y∧2*depth (dH y)≤3*Tr.depth y):aj (cz l)≤2*Tr.aj l∧2*aP (cz l)≤3*Tr.aP l:=by
 induction l with
 |nil=>rw[cz,aj,aP];omega
 |cons y l ih=>
  have h1:=ih fun z hz=>h z (List.mem_cons_of_mem _ hz)
  have h2:=h y (List.mem_cons_self ..);rw[cz,aj,aP,Tr.aj,Tr.aP];omega
theorem WQ:∀(m:Nat) (x:Nd),Tr.count x≤m→Tr.form x=true→(x.kind==1)=false→count (dH x)≤2*Tr.count x∧2*depth (dH x)≤3*Tr.depth x:=by
 intro m
 induction m with
 |zero=>intro x h;have:=Tr.gQ x;omega
 |succ m ih=>
  intro x hm hf hk;have hs:=CZ x hf hk;rw[Tr.mg,Bool.and_eq_true,Bool.and_eq_true]at hf;rw[jD];have hz:=acm x.kind x.text x.ai (lQ x.kids) (by rw[fQ,List.length_map];exact hf.1.2) hk;have hl:(lQ x.kids).length=x.kids.length:=by rw[fQ,List.length_map]
  have hsum:∀l:List Nd,(∀r∈l,r∈x.kids)→l.length+C8 (lQ l)≤2*Tr.aj l-l.length∧l.length≤Tr.aj l∧(l≠[]→2*maxD (lQ l)+3≤3*Tr.aP l):=by
   intro l
   induction l with
   |nil=>intro _;rw[lQ,C8,Tr.aj];exact⟨Nat.le_refl _,Nat.le_refl _,fun h=>absurd rfl h⟩
   |cons r l ihl=>
    intro hm';obtain⟨h1,h2,h3⟩:=ihl fun z hz=>hm' z (List.mem_cons_of_mem _ hz)
    have hr:=hs r (hm' r (List.mem_cons_self ..))
    have h4:=Jk r.kids fun y hy=>by
     obtain⟨g1,g2,g3,g4⟩:=hr.2.2 y hy;exact ih y (by omega) g2 g1
    rw[fQ,List.map_cons,←fQ,C8,maxD,Tr.aj,Tr.aP,Tr.aI r,Tr.mP r,List.length_cons];refine⟨by omega,by omega,fun _=>?_⟩
    by_cases hl0:l=[]
    ·subst hl0
     rw[lQ,maxD,Tr.aP];omega
    ·have:=h3 hl0
     omega
  obtain⟨h1,h2,h3⟩:=hsum x.kids fun r hr=>hr
  rw[Tr.aI x,Tr.mP x];refine⟨by omega,?_⟩
  by_cases h0:(lQ x.kids).length=0
  ·rw[if_pos h0]at hz;omega
  ·rw[if_neg h0]at hz
   have:=h3 (fun h=>by rw[hl,h]at h0;exact h0 rfl);omega
theorem Lp(n:Nd)(h:Tr.valid n=true):count (nJ n)≤2*Tr.count n∧2*depth (nJ n)≤3*Tr.depth n:=by
 unfold Tr.valid at h;simp only[Bool.and_eq_true]at h;have hf:=h.1.1.2;rw[Tr.mg,Bool.and_eq_true,h.1.1.1]at hf
 have:=Jk n.kids fun y hy=>by
  obtain⟨h3,h4⟩:=xE _ _ hf.2 y hy;exact WQ _ y (Nat.le_refl _) h4 (by simpa using h3)
 show count (.mk bJ [] (cz n.kids) [])≤_∧2*depth (.mk bJ [] (cz n.kids) [])≤_;rw[count,depth,Tr.aI n,Tr.mP n];omega
theorem TP(n:Nd)(h:Tr.valid n=true):valid (nJ n)=true:=by
 have h1:=ack n h;have h2:=Lp n h;unfold Tr.valid at h;simp only[Bool.and_eq_true,decide_eq_true_eq]at h;unfold valid;rw[h1.2,Bool.true_and,Bool.and_eq_true,decide_eq_true_eq,decide_eq_true_eq];omega
end U
namespace U
open Tr (Nd)
end U
namespace U
open Tr (Nd)
theorem FL(l:List UInt8):(cB l).length≤6*l.length:=by
 induction l with
 |nil=>exact Nat.le_refl _
 |cons b l ih=>
  have h:(jB b).length≤6:=by unfold jB;(repeat' split)<;>simp
  have h2:(cB (b::l)).length=(jB b).length+(cB l).length:=by unfold cB;rw[List.flatMap_cons,List.length_append]
  rw[h2,List.length_cons];omega
def Sh(e:E):Prop:=(eO e).length≤3700*count e
theorem acn(l:List E)(h:∀x∈l,Sh x):(dY l).length≤3700*aj l:=by
 induction l with
 |nil=>rw[dY];exact Nat.zero_le _
 |cons x l ih=>
  have h1:=h x (List.mem_cons_self ..);have h2:=ih fun y hy=>h y (List.mem_cons_of_mem _ hy)
  unfold Sh at h1;rw[dY,aj,List.length_append];omega
theorem C9(n:Bytes)(a:aA)(ks:List E)(t:Bytes)(hn:n.length≤20)(ha:(eH a).length≤2430)(ht:t.length≤200)(h:∀x∈ks,Sh x):Sh (.mk n a ks t):=by
 have h1:=acn ks h;have h2:=FL t;unfold Sh;rw[eO,count];split
 ·simp only[List.length_append,List.length_cons,List.length_nil];omega
 ·simp only[List.length_append,List.length_cons,List.length_nil];omega
theorem tY(n m:Bytes)(a:aA)(hn:n.length≤20)(hm:m.length≤20)(ha:(eH a).length≤2430)(ss:List (List E))(h:∀l∈ss,∀x∈l,Sh x):Sh (.mk n a (ss.map (az m)) []):=by
 refine C9 n a _ [] hn ha (by decide) fun x hx=>?_
 obtain⟨l,hl,rfl⟩:=List.mem_map.1 hx;exact C9 m [] l [] hm (by decide) (by decide) (h l hl)
theorem WR{s:Bytes}(h:bG s=true):s.length≤200:=by
 unfold bG at h;rw[Bool.and_eq_true,decide_eq_true_eq]at h;exact h.2
theorem aez(k:Int)(t:Bytes)(c:Int)(ss:List (List E))(ht:Tr.gI k t=true)(hk:Tr.cZ k c ss.length=true)(h1:(k==1)=false)(h:∀l∈ss,∀x∈l,Sh x):Sh (BG k t c ss):=by
 have htl:=WR (rE _ _ ht)
 rcases Hl k c ss.length hk h1 with⟨rfl,hn⟩|⟨rfl,hn⟩|⟨rfl,hn⟩|⟨rfl,hn⟩|⟨rfl,hn⟩|⟨rfl,hn⟩|⟨rfl,hn⟩|⟨rfl,hn⟩|⟨rfl,hn⟩|⟨rfl,hn⟩|⟨rfl,hc1,hc2,hn1,hn2,hm⟩
 ·show Sh (.mk (if iR t then pO else qC) [] [] t)
  exact C9 _ _ _ _ (by cases iR t<;>decide) (by decide) htl fun _ hx=>nomatch hx
 ·exact C9 vL [] [] t (by decide) (by decide) htl fun _ hx=>nomatch hx
 ·exact C9 lF [] [] t (by decide) (by decide) htl fun _ hx=>nomatch hx
 ·exact tY iL ah [] (by decide) (by decide) (by decide) ss h
 ·match ss,hn,h with
  |[]::[b],_,h=>exact tY dK ah [] (by decide) (by decide) (by decide) [b] fun l hl=>h l (List.mem_cons_of_mem _ hl)
  |(a0::a)::[b],_,h=>exact tY fo ah [] (by decide) (by decide) (by decide) [b,a0::a] fun l hl=>h l (by simp only[List.mem_cons,List.not_mem_nil,or_false]at hl⊢;exact hl.symm)
 ·exact tY jo ah [] (by decide) (by decide) (by decide) ss h
 ·exact tY jq ah [] (by decide) (by decide) (by decide) ss h
 ·exact tY eF ah [] (by decide) (by decide) (by decide) ss h
 ·refine tY bF ah [(cK,t)] (by decide) (by decide) ?_ ss h
  have h6:=FL t;unfold eH rz;simp only[List.flatMap_cons,List.flatMap_nil,List.length_append,List.length_cons,List.length_nil];have:cK.length=6:=rfl;omega
 ·refine tY aT ah [(fK,t.take 1),(dM,t.drop 1)] (by decide) (by decide) ?_ ss h
  have h6:=FL (t.take 1);have h7:=FL (t.drop 1);have h8:(t.take 1).length≤1:=by rw[List.length_take];omega
  have h9:(t.drop 1).length≤200:=by rw[List.length_drop];omega
  unfold eH rz;simp only[List.flatMap_cons,List.flatMap_nil,List.length_append,List.length_cons,List.length_nil];have:fK.length=4:=rfl;have:dM.length=5:=rfl;omega
 ·have hmn:ss.length%c.toNat=0:=by
   have hcn:(c.toNat:Int)=c:=by omega
   have:((ss.length%c.toNat:Nat):Int)=0:=by rw[Int.natCast_emod,hcn];exact hm
   omega
  have hga:=OA c.toNat (by omega) ss hmn
  have hmap:(grid c.toNat (ss.map (az aJ)))=(grid c.toNat ss).map fun r=>r.map (az aJ):=by
   unfold grid;rw[List.length_map,List.map_map];refine List.map_congr_left fun r _=>?_
   show((ss.map (az aJ)).drop _).take _=((ss.drop _).take _).map _;rw[List.map_take,List.map_drop]
  show Sh (.mk aU [] ((grid c.toNat (ss.map (az aJ))).map (az bM)) []);rw[hmap,List.map_map];refine C9 aU [] _ [] (by decide) (by decide) (by decide) fun x hx=>?_
  obtain⟨r,hr,rfl⟩:=List.mem_map.1 hx;exact tY bM aJ [] (by decide) (by decide) (by decide) r fun l hl=>h l ((hga r hr).2 l hl)
theorem aco:∀(m:Nat) (x:Nd),Tr.count x≤m→Tr.form x=true→(x.kind==1)=false→Sh (dH x):=by
 intro m
 induction m with
 |zero=>intro x h;have:=Tr.gQ x;omega
 |succ m ih=>
  intro x hm hf hk;have hs:=CZ x hf hk;rw[Tr.mg,Bool.and_eq_true,Bool.and_eq_true]at hf;rw[jD];refine aez _ _ _ _ hf.1.1 (by rw[fQ,List.length_map];exact hf.1.2) hk fun l hl e he=>?_
  rw[fQ]at hl;obtain⟨r,hr,rfl⟩:=List.mem_map.1 hl;rw[ze]at he;obtain⟨y,hy,rfl⟩:=List.mem_map.1 he;obtain⟨h1,h2,h3,h4⟩:=(hs r hr).2.2 y hy;exact ih y (by omega) h2 h1
theorem yX(n:Nd)(h:Tr.valid n=true):(eO (nJ n)).length≤8000000:=by
 have h2:=(Lp n h).1
 have hc:Tr.count n≤1000:=by
  unfold Tr.valid at h;simp only[Bool.and_eq_true,decide_eq_true_eq]at h;exact h.1.2
 have h3:Sh (nJ n):=by
  refine C9 bJ [] (cz n.kids) [] (by decide) (by decide) (by decide) fun x hx=>?_
  unfold Tr.valid at h;simp only[Bool.and_eq_true]at h;rw[ze]at hx;obtain⟨y,hy,rfl⟩:=List.mem_map.1 hx;have hf:=h.1.1.2;rw[Tr.mg,Bool.and_eq_true,h.1.1.1]at hf;obtain⟨h3,h4⟩:=xE _ _ hf.2 y hy;exact aco _ y (Nat.le_refl _) h4 (by simpa using h3)
 unfold Sh at h3;omega
end U
section
open Go.RowKit
open Tr (Nd)
open U (E aA eO kX jr nJ)
open Xp (dP dV)
def lI(T:List UInt8):Nd×Int×Int:=if(dP T).2.2=0 then kX (dP T).1 else(jr,(dP T).2.1,(dP T).2.2)
theorem Jl(S:ByteArray)(w:World)(hS:S.size≤1099511627776):
  Calls Tryz.prog 14 #[.string S] w fun x w'=>∃v,x=.returned (.tuple #[v,.int .i64 (lI S.data.toList).2.1,.int .i64 (lI S.data.toList).2.2])∧kR w w' (lI S.data.toList).1 v:=by
 have Lr:=I (fun(W:World)=>SY S W hS);have vT:=I (show lI S.data.toList=if(dP S.data.toList).2.2=0 then kX (dP S.data.toList).1 else(jr,(dP S.data.toList).2.1,(dP S.data.toList).2.2)from rfl);have adP:=I (Nat.lt_irrefl w.heap.size);have HB0:=I (O.new w 31 Y);have dh:=I ((M (fun _=>False) w).alloc (.cells Y 31));generalize lI S.data.toList=R at*;generalize dP S.data.toList=P at*;obtain⟨e,pat,per⟩:=P;clear hS;go_enter Tryz.func14,Tryz.ntmps14;go_wp2_with fail
 generalize (w.alloc (.cells Y 31))=w0 at HB0 dh⊢;refine(Lr.J _).mono ?_;rintro _ w1 ⟨va,vk,rfl,hf1,wK⟩;have aF:=I (dh.J.trans hf1);have HB1:=I (hf1.blk HB0.J fun h=>h);have Aw:=I wK.now;obtain⟨A,ca,hva⟩:=wK.now.1.slice;obtain⟨B,cb,hvk⟩:=wK.now.2.1.slice;clear hf1 wK dh HB0 Lr;obtain⟨n,ats,ks,t⟩:=e;replace hva:va=.slice A ats.length ca:=hva;replace hvk:vk=.slice B ks.length cb:=hvk;subst hva;subst hvk;unfold ev;simp only[E.name,E.text]
 by_cases h0:per=0
 ·subst h0
  have gm:=I (show R=kX (.mk n ats ks t) by rw[vT.J];rfl);have yK:=I (fun(W:World) (h:bN W (.mk n ats ks t) (.slice A ats.length ca) (.slice B ks.length cb))=>TN (.mk n ats ks t) _ _ W h);clear vT;rw[←gm.J]at yK;clear gm;unfold ev at yK;simp only[E.name,E.text]at yK;obtain⟨⟨rk,rt,rc,rQ⟩,rat,WS⟩:=R;have sS:=I ((M (fun _=>False) w1).alloc (.cells #[.string ⟨n.toArray⟩,.slice A ats.length ca,.slice B ks.length cb,.string ⟨t.toArray⟩] 45));have jO:=I (O.new w1 45 #[.string ⟨n.toArray⟩,.slice A ats.length ca,.slice B ks.length cb,.string ⟨t.toArray⟩]);go_wp2_with fail
  have aY:=I (aF.J.trans sS.J);have HB2:=I (sS.J.blk HB1.J fun h=>h);have HR2:=I (Aw.J.fresh sS.J);clear aF HB1 Aw sS jO;generalize (w1.alloc (.cells #[.string ⟨n.toArray⟩,.slice A ats.length ca,.slice B ks.length cb,.string ⟨t.toArray⟩] 45))=w2 at aY HB2 HR2⊢;refine(yK.J _ HR2.J).mono ?_;rintro _ w3 ⟨v3,rfl,s3,rfl,hf3,zN,kE⟩;obtain⟨A3,c3,rfl⟩:=kE.now.slice;have bC:=I (aY.J.trans hf3);have HB3:=I (hf3.blk HB2.J fun h=>h);have gX:=I zN;have yH:=I HB2.J.lt;have HST:=I (show aZ (fun k=>k<w2.heap.size) w3 fun W=>aO W rQ (.slice A3 rQ.length c3)from kE);have hz2:=aY.J.size;clear hf3 kE zN;obtain⟨p0,p1,p2,p3,y0,y1,y2,y3,hg1⟩:=O.four HB3.J;unfold nv;simp only[Nd.kind,Nd.text,Nd.ai,Nd.kids];go_wp2_with fail
  obtain⟨r0,r1,r2,r3,_,_,_,_,_⟩:=O.four (HB3.J.dJ (.int .i64 rk) (.string ⟨rt.toArray⟩) (.int .i64 rc) (.slice A3 rQ.length c3));simp only[aH]at r0 r1 r2 r3;refine bodyPost_ret (v:=.tuple #[.agg #[.int .i64 rk,.string ⟨rt.toArray⟩,.int .i64 rc,.slice A3 rQ.length c3],.int .i64 rat,.int .i64 WS]) (by simp[results,Tryz.results14,go_sem,r0,r1,r2,r3]) rfl ?_;refine⟨_,rfl,.slice A3 rQ.length c3,rfl,Touch.aH bC.J (.inr (by omega)) _ _ _ _,gX.J,?_⟩;exact HST.J.step ((M (fun k=>k=w.heap.size) w3).aH (.inl rfl) _ _ _ _) (fun i _ hi=>by have hi:i=w.heap.size:=hi;have:=yH.J;omega) (fun i _ hi=>by omega)
 ·have gm:=I (show R=(jr,pat,per) by rw[vT.J];exact if_neg h0)
  have b0:(per==0)=false:=by simpa using h0
  have b1:(per !=0)=true:=by simpa using h0
  have sS:=I ((M (fun _=>False) w1).alloc (.cells #[.string ⟨n.toArray⟩,.slice A ats.length ca,.slice B ks.length cb,.string ⟨t.toArray⟩] 45));have aY:=I (aF.J.trans sS.J);have HB2:=I (sS.J.blk HB1.J fun h=>h);clear vT;obtain⟨p0,p1,p2,p3,y0,y1,y2,y3,hg1⟩:=O.four HB2.J;go_wp2_with fail
  obtain⟨r0,r1,r2,r3,_,_,_,_,_⟩:=O.four (HB2.J.dJ (.int .i64 0) (.string ⟨#[]⟩) (.int .i64 0) (.slice none 0 0));simp only[aH]at r0 r1 r2 r3;refine bodyPost_ret (v:=.tuple #[.agg Y,.int .i64 pat,.int .i64 per]) (by simp[results,Tryz.results14,go_sem,r0,r1,r2,r3]) rfl ?_;rw[gm.J];exact⟨_,rfl,pV _ _ (Touch.aH aY.J (.inr (by omega)) _ _ _ _)⟩
end
end Go.Proofs.YtnbeemkfmlfgfaaGreatDoor
