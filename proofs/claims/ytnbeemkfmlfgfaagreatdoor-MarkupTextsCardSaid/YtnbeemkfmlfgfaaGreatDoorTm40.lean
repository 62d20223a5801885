/- Part 40 of 48 of a proof. No condition. -/
import Derived.Test.YtnbeemkfmlfgfaaGreatDoorTm39
set_option maxRecDepth 100000
set_option maxHeartbeats 2000000
namespace Go.Proofs.YtnbeemkfmlfgfaaGreatDoor
section
open Go.RowKit
open Tr (Nd)
open U (E aA aW nG dN)
theorem XQ(n:List UInt8)(a:aA)(ks:List E)(t:List UInt8)(k:Int)(hk:k=0∨k=5∨k=6∨k=7∨k=8∨k=9∨k=12)(A:Option Addr)(ca:Nat)(vk:Value)(w:World)(hr:bN w (.mk n a ks t) (.slice A a.length ca) vk):Calls Tryz.prog 176 #[.agg #[.string ⟨n.toArray⟩,.slice A a.length ca,vk,.string ⟨t.toArray⟩],.int .i64 k] w fun x w'=>x=.returned (.tuple #[.string ⟨([]:List UInt8).toArray⟩,.bool (((a.length:Int)==(0:Int))&&t.isEmpty)])∧ag w w':=by
 have htl:t.length≤maxLen:=hr.2.2.2;have hl1:a.length≤maxLen:=by obtain⟨_,_,_,h,_⟩:=hr.1;exact h.1
 have gX:=I htl;unfold maxLen at hl1 htl;have HE:=I hr;clear hr
 rcases hk with rfl|rfl|rfl|rfl|rfl|rfl|rfl
 all_goals
  go_enter Tryz.func176,Tryz.ntmps176;cases h1:((a.length:Int)==(0:Int))with
  |false=>
   have xS:((a.length:Int) !=(0:Int))=true:=by rw[bne,h1];rfl
   go_wp2_with fail
   refine wp_region_quiet_lit (by kernel_rfl) (by kernel_rfl) ?_
   repeat(with_reducible refine wpQuiet_step (fun K hK=>?_);go_simp;first|(refine hK _ ?_;clear hK K)|(apply Exists.intro;refine⟨fun _=>?_,hK _ ?_⟩;(fail);clear hK K))
   refine wpQuiet_nil ?_;rintro _ ⟨nq,rfl⟩;go_wp2
   refine bodyPost_ret (results_tmp2 rfl _ _ _) rfl ?_;exact⟨congrArg Ending.returned (show Value.tuple #[_,_]=Value.tuple #[_,_] by first|rfl|(congr 2<;>first|rfl|(simp only[*]<;>rfl))),bf⟩
  |true=>
   have xS:((a.length:Int) !=(0:Int))=false:=by rw[bne,h1];rfl
   go_wp2_with fail
   refine wp_region_quiet_lit (by kernel_rfl) (by kernel_rfl) ?_
   repeat(with_reducible refine wpQuiet_step (fun K hK=>?_);go_simp;first|(refine hK _ ?_;clear hK K)|(apply Exists.intro;refine⟨fun _=>?_,hK _ ?_⟩;(fail);clear hK K))
   refine wpQuiet_nil ?_;rintro _ ⟨nq,rfl⟩;go_wp2
   refine bodyPost_ret (results_tmp2 rfl _ _ _) rfl ?_;exact⟨congrArg Ending.returned (show Value.tuple #[_,_]=Value.tuple #[_,_] by first|rfl|(congr 2<;>first|rfl|(simp only[*]<;>rfl))),bf⟩
theorem Kr{α:Type}(a:List α):((a.length:Int)==(0:Int))=a.isEmpty:=by
 cases a with
 |nil=>rfl
 |cons x a=>rw[List.isEmpty_cons,beq_eq_false_iff_ne,List.length_cons];omega
theorem Um{α:Type}(a:List α)(k:Nat):((a.length:Int)==(k:Int))=decide (a.length=k):=by
 rw[Bool.eq_iff_iff,beq_iff_eq,decide_eq_true_eq];omega
theorem RG(t:List UInt8):(t==([]:List UInt8))=t.isEmpty:=by cases t<;>rfl
theorem Kt(t s:List UInt8):(t==s)=decide (t=s):=by rw[Bool.eq_iff_iff,beq_iff_eq,decide_eq_true_eq]
theorem Un(n:List UInt8):(U.cu n=2∨U.cu n=3∨U.cu n=4∨U.cu n=10∨U.cu n=11)∨(U.cu n=0∨U.cu n=5∨U.cu n=6∨U.cu n=7∨U.cu n=8∨U.cu n=9∨U.cu n=12):=by
 by_cases h:n∈o7
 ·obtain⟨j,hj,he⟩:=List.mem_iff_getElem.1 h
  rw[RB n j hj he];have:∀i:Fin 13,(o9[i.1]'i.2=2∨o9[i.1]'i.2=3∨o9[i.1]'i.2=4∨o9[i.1]'i.2=10∨o9[i.1]'i.2=11)∨(o9[i.1]'i.2=0∨o9[i.1]'i.2=5∨o9[i.1]'i.2=6∨o9[i.1]'i.2=7∨o9[i.1]'i.2=8∨o9[i.1]'i.2=9∨o9[i.1]'i.2=12):=by decide
  exact this ⟨j,hj⟩
 ·rw[LP n (by cases hc:o7.contains n with|false=>rfl|true=>exact absurd (List.contains_iff_mem.1 hc) h)]
  decide
theorem LU(e:E)(va vk:Value)(w:World)(hr:bN w e va vk)(hl:∀x∈e.attrs,x.2.length≤1000):
  Calls Tryz.prog 176 #[ev e va vk,.int .i64 (U.cu e.name)] w fun x w'=>x=.returned (.tuple #[.string ⟨(U.bY e (U.cu e.name)).1.toArray⟩,.bool (U.bY e (U.cu e.name)).2])∧ag w w':=by
 obtain⟨A,ca,hva⟩:=hr.1.slice;subst hva
 have hv:∀nm,(aW e.attrs nm).length≤1000:=by
  intro nm;obtain⟨n,a,ks,t⟩:=e;simp only[E.attrs]at hl⊢;clear hr
  induction a with
  |nil=>exact Nat.zero_le _
  |cons x a ih=>
   show(if x.1=nm then x.2 else aW a nm).length≤1000;split
   ·exact hl x (List.mem_cons_self ..)
   ·exact ih fun y hy=>hl y (List.mem_cons_of_mem _ hy)
 have hkc:=Un e.name;obtain⟨n,a,ks,t⟩:=e;simp only[E.attrs,E.name]at*;generalize U.cu n=k at hkc⊢
 rcases hkc with(rfl|rfl|rfl|rfl|rfl)|hk
 ·refine(XK n a ks t A ca vk w hr).mono fun x w' h=>⟨h.1.trans ?_,h.2⟩
  show _=Ending.returned (.tuple #[.string ⟨t.toArray⟩,.bool (a.isEmpty&&Tr.symbol t&&(U.uP t==decide (n=U.pO)))]);rw[Kr,Kt];rfl
 ·refine(XL n a ks t A ca vk w hr).mono fun x w' h=>⟨h.1.trans ?_,h.2⟩
  show _=Ending.returned (.tuple #[.string ⟨t.toArray⟩,.bool (a.isEmpty&&Tr.valid (.mk 1 [] 0 [.mk 3 t 0 []]))]);rw[Kr]
 ·refine(XM n a ks t A ca vk w hr).mono fun x w' h=>⟨h.1.trans ?_,h.2⟩
  show _=Ending.returned (.tuple #[.string ⟨t.toArray⟩,.bool (a.isEmpty&&Tr.valid (.mk 1 [] 0 [.mk 4 t 0 []]))]);rw[Kr]
 ·refine(XO n a ks t (aW a U.cK) (nG a U.cK) rfl rfl A ca vk w hr).mono fun x w' h=>⟨h.1.trans ?_,h.2⟩
  show _=Ending.returned (.tuple #[.string ⟨(aW a U.cK).toArray⟩,.bool (nG a U.cK&&decide (a.length=1)&&t.isEmpty&&Tr.fJ.contains (aW a U.cK))]);rw[show((a.length:Int)==(1:Int))=decide (a.length=1)from Um a 1,RG]
 ·refine(XP n a ks t (aW a U.fK) (aW a U.dM) (nG a U.fK) (nG a U.dM) rfl rfl rfl rfl (hv _) (hv _) A ca vk w hr).mono fun x w' h=>⟨h.1.trans ?_,h.2⟩
  show _=Ending.returned (.tuple #[.string ⟨(aW a U.fK++aW a U.dM).toArray⟩,.bool (nG a U.fK&&nG a U.dM&&decide (a.length=2)&&t.isEmpty&&decide ((aW a U.fK).length=1)&&decide ((aW a U.dM).length=1)&&Tr.valid (.mk 1 [] 0 [.mk 11 (aW a U.fK++aW a U.dM) 0 [dN]]))]);rw[show((a.length:Int)==(2:Int))=decide (a.length=2)from Um a 2,RG,show(((aW a U.fK).length:Int)==(1:Int))=decide ((aW a U.fK).length=1)from Um _ 1,show(((aW a U.dM).length:Int)==(1:Int))=decide ((aW a U.dM).length=1)from Um _ 1]
 ·refine(XQ n a ks t k hk A ca vk w hr).mono fun x w' h=>⟨h.1.trans ?_,h.2⟩
  have:U.bY (.mk n a ks t) k=([],a.isEmpty&&t.isEmpty):=by
   unfold U.bY
   rcases hk with rfl|rfl|rfl|rfl|rfl|rfl|rfl<;>rfl
  rw[this,Kr]
theorem LV(e:E)(k:Int)(ht:e.text.length≤maxLen)(hl:∀x∈e.attrs,x.2.length≤1000):(U.bY e k).1.length≤maxLen:=by
 have hv:∀nm,(aW e.attrs nm).length≤1000:=by
  intro nm;obtain⟨n,a,ks,t⟩:=e;simp only[E.attrs]at hl⊢;clear ht
  induction a with
  |nil=>exact Nat.zero_le _
  |cons x a ih=>
   show(if x.1=nm then x.2 else aW a nm).length≤1000;split
   ·exact hl x (List.mem_cons_self ..)
   ·exact ih fun y hy=>hl y (List.mem_cons_of_mem _ hy)
 obtain⟨n,a,ks,t⟩:=e;simp only[E.attrs,E.text]at*
 dsimp only[U.bY]
 have h1:=hv U.cK;have h2:=hv U.fK;have h3:=hv U.dM;unfold maxLen at*;split
 ·exact ht
 ·split
  ·exact ht
  ·split
   ·show(aW a U.cK).length≤_;omega
   ·split
    ·show(aW a U.fK++aW a U.dM).length≤_;rw[List.length_append];omega
    ·exact Nat.zero_le _
end
namespace U
open Tr (Nd)
def rX{α:Type}(v:Bool×Nat)(r:α×Rd)(x:α):Prop:=(v.1=true→r=(x,(v.2,-1)))∧(v.1=false→r.2.2=(v.2:Int)-1)
theorem RH(f:E→Rd→Nd×Rd)(F:List E→Rd→List Nd×Rd)(G:E→Nd)(hn:∀s,F [] s=([],s))
  (hc:∀x xs s,F (x::xs) s=if s.2<0 then((f x s).1::(F xs (f x s).2).1,(F xs (f x s).2).2)else([],s)) (p:E) (l:List E)
  (h:∀x∈l,∀k,rX (vis (kD p x) k x) (f x (k,-1)) (G x)):∀k,rX (gN p k l) (F l (k,-1)) (l.map G):=by
 have hstop:∀l s,¬s.2<0→F l s=([],s):=by
  intro l s hs;cases l with
  |nil=>exact hn s
  |cons x xs=>rw[hc,if_neg hs]
 induction l with
 |nil=>intro k;rw[gN,hn];exact⟨fun _=>rfl,fun h=>by cases h⟩
 |cons x l ih=>
  intro k;have ih':=ih (fun y hy=>h y (List.mem_cons_of_mem _ hy));have hx:=h x (List.mem_cons_self ..) k;have hlt:=EA x (kD p x) k;rw[gN,hc,if_pos (show(((k,-1):Rd)).2<0 by show(-1:Int)<0;decide)]
  rcases hv:vis (kD p x) k x with⟨b,k'⟩
  rw[hv]at hx hlt;cases b with
  |true=>
   rw[hx.1 rfl];have:=ih' k';show rX (gN p k' l) _ _;refine⟨fun h1=>?_,fun h1=>?_⟩
   ·rw[this.1 h1];rfl
   ·rw[this.2 h1]
  |false=>
   have h2:=hx.2 rfl;have hlt':k<k':=hlt.1;have h3:¬(f x (k,-1)).2.2<0:=by rw[h2];show¬(k':Int)-1<0;omega
   rw[hstop l _ h3];exact⟨fun h=>(by cases h),fun _=>h2⟩
theorem XR(f:E→Rd→List Nd×Rd)(F:List E→Rd→List Nd×Rd)(G:E→List Nd)(hn:∀s,F [] s=([],s))
  (hc:∀x xs s,F (x::xs) s=if s.2<0 then((f x s).1++(F xs (f x s).2).1,(F xs (f x s).2).2)else([],s)) (p:E) (l:List E)
  (h:∀x∈l,∀k,rX (vis (kD p x) k x) (f x (k,-1)) (G x)):∀k,rX (gN p k l) (F l (k,-1)) (l.flatMap G):=by
 have hstop:∀l s,¬s.2<0→F l s=([],s):=by
  intro l s hs;cases l with
  |nil=>exact hn s
  |cons x xs=>rw[hc,if_neg hs]
 induction l with
 |nil=>intro k;rw[gN,hn];exact⟨fun _=>rfl,fun h=>by cases h⟩
 |cons x l ih=>
  intro k;have ih':=ih (fun y hy=>h y (List.mem_cons_of_mem _ hy));have hx:=h x (List.mem_cons_self ..) k;have hlt:=EA x (kD p x) k;rw[gN,hc,if_pos (show(((k,-1):Rd)).2<0 by show(-1:Int)<0;decide),List.flatMap_cons]
  rcases hv:vis (kD p x) k x with⟨b,k'⟩
  rw[hv]at hx hlt;cases b with
  |true=>
   rw[hx.1 rfl];have:=ih' k';show rX (gN p k' l) _ _;refine⟨fun h1=>?_,fun h1=>?_⟩
   ·rw[this.1 h1]
   ·rw[this.2 h1]
  |false=>
   have h2:=hx.2 rfl;have hlt':k<k':=hlt.1;have h3:¬(f x (k,-1)).2.2<0:=by rw[h2];show¬(k':Int)-1<0;omega
   rw[hstop l _ h3];exact⟨fun h=>(by cases h),fun _=>h2⟩
theorem Bu(l:List E)(s:Rd)(h:¬s.2<0):gV l s=([],s):=by
 cases l with
 |nil=>rw[gV]
 |cons x l=>rw[gV,if_neg h]
theorem wT(nm:Bytes)(l:List E)(s:Rd)(h:¬s.2<0):bZ nm l s=([],s):=by
 cases l with
 |nil=>rw[bZ]
 |cons x l=>rw[bZ,if_neg h]
theorem GD(c:Int)(l:List E)(s:Rd)(h:¬s.2<0):gW c l s=([],s):=by
 cases l with
 |nil=>rw[gW]
 |cons x l=>cases x;rw[gW,if_neg h]
theorem XT(p:E)(l:List E)(h:∀x∈l,∀k,rX (vis (kD p x) k x) (kP x (k,-1)) (fA x))(k:Nat):rX (gN p k l) (gV l (k,-1)) (di l):=by
 rw[CB];exact RH kP gV fA (fun s=>by rw[gV]) (fun x xs s=>by rw[gV]) p l h k
theorem O4(nm:Bytes)(p:E)(l:List E)(h:∀x∈l,∀k,rX (vis (kD p x) k x) (gY nm x (k,-1)) (dR x))(k:Nat):rX (gN p k l) (bZ nm l (k,-1)) (iy l):=by
 rw[qP];exact RH (gY nm) (bZ nm) dR (fun s=>by rw[bZ]) (fun x xs s=>by rw[bZ]) p l h k
theorem XW(c:Int)(p:E)(l:List E)(h:∀x∈l,∀k,rX (vis (kD p x) k x) (bZ aJ x.kids (iQ (gK c x) (k,-1))) (iy x.kids))(k:Nat):rX (gN p k l) (gW c l (k,-1)) (jF l):=by
 rw[CE];exact XR (fun x s=>bZ aJ x.kids (iQ (gK c x) s)) (gW c) (fun x=>iy x.kids) (fun s=>by rw[gW]) (fun x xs s=>by cases x;rw[gW];rfl) p l h k
theorem O5(k:Nat):iQ true (k,-1)=(k+1,-1):=rfl
theorem zU(k:Nat):iQ false (k,-1)=(k+1,(k:Int)):=rfl
theorem zV(k:Nat):¬(iQ false (k,-1)).2<0:=by rw[zU];show¬(k:Int)<0;omega
theorem emp{α:Type}(l:List α):l.isEmpty=decide (l.length=0):=by cases l<;>rfl
theorem RI(nm:Bytes)(hn:nm∈lX)(e:E):(decide (e.name=nm)&&bQ e)=oh nm e:=by
 obtain⟨n,a,ks,t⟩:=e;unfold oh;simp only[E.name,E.attrs,E.text]
 by_cases h:n=nm
 ·subst h
  have h1:n=bJ∨n=ah∨n=aJ:=by simpa[lX]using hn
  rw[emp a]
  rcases h1 with rfl|rfl|rfl
  all_goals
   show(true&&(t.isEmpty&&true&&true&&decide (a.length=0)))=_;cases t.isEmpty<;>simp
 ·simp[h]
theorem acN(nm:Bytes)(hn:nm∈lX)(e:E)(h:∀x∈e.kids,∀k,rX (vis (kD e x) k x) (kP x (k,-1)) (fA x))(k:Nat):
  rX (vis (decide (e.name=nm)) k e) (gY nm e (k,-1)) (dR e):=by
 have ho:=RI nm hn e;rw[zJ,ho];obtain⟨n,a,ks,t⟩:=e;rw[gY];cases hb:oh nm (.mk n a ks t)with
 |true=>
  rw[if_pos rfl,O5];have:=XT (.mk n a ks t) ks h (k+1);refine⟨fun h1=>?_,fun h1=>?_⟩
  ·rw[show gN (.mk n a ks t) (k+1) (E.mk n a ks t).kids=gN (.mk n a ks t) (k+1) ks from rfl]at*
   simp only[this.1 h1];rfl
  ·exact this.2 h1
 |false=>
  rw[if_neg (by decide)];have hs:=Bu ks _ (zV k);rw[zU]at hs;simp only[zU,hs];exact⟨fun h=>(by cases h),fun _=>by show(k:Int)=((k+1:Nat):Int)-1;omega⟩
theorem aaT(c:Nat)(e:E):((decide (e.name=bM)&&decide (e.kids.length=c))&&bQ e)=gK c e:=by
 obtain⟨n,a,ks,t⟩:=e;unfold gK;simp only[E.name,E.attrs,E.text,E.kids]
 by_cases h:n=bM
 ·subst h
  rw[emp a];show(true&&decide (ks.length=c)&&(t.isEmpty&&(decide (1≤ks.length)&&decide (ks.length≤16))&&true&&decide (a.length=0)))=_;show _=(true&&decide (a.length=0)&&t.isEmpty&&decide (1≤ks.length)&&decide (ks.length≤16)&&decide ((ks.length:Int)=(c:Int)));have:decide ((ks.length:Int)=(c:Int))=decide (ks.length=c):=by rw[decide_eq_decide];omega
  rw[this];cases t.isEmpty<;>cases decide (ks.length=c)<;>cases decide (1≤ks.length)<;>cases decide (ks.length≤16)<;>cases decide (a.length=0)<;>rfl
 ·simp[h]
theorem aaU(c:Nat)(e:E)(h:e.name=bM→∀x∈e.kids,∀k,rX (vis (kD e x) k x) (gY aJ x (k,-1)) (dR x))(k:Nat):
  rX (vis (decide (e.name=bM)&&decide (e.kids.length=c)) k e) (bZ aJ e.kids (iQ (gK c e) (k,-1))) (iy e.kids):=by
 rw[zJ,aaT c e];cases hb:gK c e with
 |true=>
  rw[if_pos rfl,O5];exact O4 aJ e e.kids (h (by unfold gK at hb;simp only[Bool.and_eq_true,decide_eq_true_eq]at hb;exact hb.1.1.1.1.1)) (k+1)
 |false=>
  rw[if_neg (by decide),wT _ _ _ (zV k),zU];exact⟨fun h=>(by cases h),fun _=>by show(k:Int)=((k+1:Nat):Int)-1;omega⟩
def Uo(e:E):Bool:=!(decide (e.name=bJ)||decide (e.name=ah)||decide (e.name=aJ)||decide (e.name=bM))
theorem O6(t:Bytes)(h:Tr.symbol t=true):uP t=iR t:=by
 unfold Tr.symbol at h;unfold uP
 match t,h with
 |[],h=>simp at h
 |[c],_=>show(false||(true&&letter c))=letter c;cases letter c<;>rfl
 |a::b::s,h=>
  simp only[Bool.and_eq_true,List.all_cons]at h;have h1:letter a=true:=h.1.1.1.1.1;show(decide (1<s.length+1+1)||_)=letter a;rw[h1,decide_eq_true (by omega)];rfl
theorem Ku(a:aA)(nm:Bytes)(h:aW a nm≠[]):nG a nm=true:=by
 induction a with
 |nil=>exact absurd rfl h
 |cons x a ih=>
  unfold nG at*;rw[List.any_cons]
  by_cases h1:x.1=nm
  ·rw[h1];simp
  ·rw[ih (by intro h2;apply h;show(if x.1=nm then _ else _)=_;rw[if_neg h1];exact h2),Bool.or_true]
theorem aaV(e:E):(Uo e&&bQ e)=jH e:=by
 obtain⟨n,a,ks,t⟩:=e;have ek:ks.isEmpty=decide (ks.length=0):=emp ks;have ea:a.isEmpty=decide (a.length=0):=emp a
 by_cases hn:n∈jG
 ·simp only[jG,List.mem_cons,List.not_mem_nil,or_false]at hn
  rcases hn with rfl|rfl|rfl|rfl|rfl|rfl|rfl|rfl|rfl|rfl|rfl|rfl|rfl
  ·show(true&&(iR t&&a.isEmpty&&ks.isEmpty&&eU 2 t 0))=(true&&(a.isEmpty&&Tr.symbol t&&(uP t==true))&&decide (ks.length=0))
   rw[qV _ _ _ (by omega),ek];show(true&&(iR t&&a.isEmpty&&decide (ks.length=0)&&(true&&(Tr.symbol t&&true))))=_;cases hs:Tr.symbol t with
   |true=>rw[O6 t hs];cases iR t<;>cases a.isEmpty<;>simp
   |false=>simp
  ·show(true&&(!iR t&&a.isEmpty&&ks.isEmpty&&eU 2 t 0))=(true&&(a.isEmpty&&Tr.symbol t&&(uP t==false))&&decide (ks.length=0))
   rw[qV _ _ _ (by omega),ek];show(true&&(!iR t&&a.isEmpty&&decide (ks.length=0)&&(true&&(Tr.symbol t&&true))))=_;cases hs:Tr.symbol t with
   |true=>rw[O6 t hs];cases iR t<;>cases a.isEmpty<;>simp
   |false=>simp
  ·show(true&&(true&&a.isEmpty&&ks.isEmpty&&eU 3 t 0))=(true&&(a.isEmpty&&eU 3 t 0)&&decide (ks.length=0))
   rw[ek];cases a.isEmpty<;>cases eU 3 t 0<;>simp
  ·show(true&&(true&&a.isEmpty&&ks.isEmpty&&eU 4 t 0))=(true&&(a.isEmpty&&eU 4 t 0)&&decide (ks.length=0))
   rw[ek];cases a.isEmpty<;>cases eU 4 t 0<;>simp
  ·show(true&&(t.isEmpty&&decide (ks.length=2)&&true&&decide (a.length=0)))=(true&&(a.isEmpty&&t.isEmpty)&&decide (ks.length=2))
   rw[ea];cases t.isEmpty<;>cases decide (a.length=0)<;>simp
  ·show(true&&(t.isEmpty&&decide (ks.length=1)&&true&&decide (a.length=0)))=(true&&(a.isEmpty&&t.isEmpty)&&decide (ks.length=1))
   rw[ea];cases t.isEmpty<;>cases decide (a.length=0)<;>simp
  ·show(true&&(t.isEmpty&&decide (ks.length=2)&&true&&decide (a.length=0)))=(true&&(a.isEmpty&&t.isEmpty)&&decide (ks.length=2))
   rw[ea];cases t.isEmpty<;>cases decide (a.length=0)<;>simp
  ·show(true&&(t.isEmpty&&decide (ks.length=2)&&true&&decide (a.length=0)))=(true&&(a.isEmpty&&t.isEmpty)&&decide (ks.length=2))
   rw[ea];cases t.isEmpty<;>cases decide (a.length=0)<;>simp
  ·show(true&&(t.isEmpty&&decide (ks.length=2)&&true&&decide (a.length=0)))=(true&&(a.isEmpty&&t.isEmpty)&&decide (ks.length=2))
   rw[ea];cases t.isEmpty<;>cases decide (a.length=0)<;>simp
  ·show(true&&(t.isEmpty&&decide (ks.length=3)&&true&&decide (a.length=0)))=(true&&(a.isEmpty&&t.isEmpty)&&decide (ks.length=3))
   rw[ea];cases t.isEmpty<;>cases decide (a.length=0)<;>simp
  ·show(true&&(t.isEmpty&&decide (ks.length=1)&&eU 10 (aW a cK) 1&&decide (a.length=1)))=(true&&(nG a cK&&decide (a.length=1)&&t.isEmpty&&Tr.fJ.contains (aW a cK))&&decide (ks.length=1))
   rw[qV _ _ _ (by omega)];show(_&&(_&&(true&&(Tr.fJ.contains (aW a cK)&&true))&&_))=_;cases hc:Tr.fJ.contains (aW a cK)with
   |true=>
    rw[Ku a cK (by intro h;rw[h]at hc;revert hc;decide)];cases t.isEmpty<;>cases decide (a.length=1)<;>simp
   |false=>simp
  ·show(true&&(t.isEmpty&&decide (ks.length=1)&&(decide ((aW a fK).length=1)&&decide ((aW a dM).length=1)&&eU 11 (aW a fK++aW a dM) 1)&&decide (a.length=2)))=
    (true&&(nG a fK&&nG a dM&&decide (a.length=2)&&t.isEmpty&&decide ((aW a fK).length=1)&&decide ((aW a dM).length=1)&&eU 11 (aW a fK++aW a dM) 1)&&decide (ks.length=1))
   cases h1:decide ((aW a fK).length=1)with
   |false=>simp
   |true=>
    cases h2:decide ((aW a dM).length=1)with
    |false=>simp
    |true=>
     rw[Ku a fK (by intro h;rw[h]at h1;revert h1;decide),Ku a dM (by intro h;rw[h]at h2;revert h2;decide)];cases t.isEmpty<;>cases decide (a.length=2)<;>cases eU 11 (aW a fK++aW a dM) 1<;>simp
  ·show(true&&(t.isEmpty&&decide (1≤ks.length)&&true&&decide (a.length=0)))=(true&&(a.isEmpty&&t.isEmpty)&&decide (1≤ks.length))
   rw[ea];cases t.isEmpty<;>cases decide (a.length=0)<;>simp
 ·simp only[jG,List.mem_cons,List.not_mem_nil,or_false,not_or]at hn
  obtain⟨h1,h2,h3,h4,h5,h6,h7,h8,h9,h10,h11,h12,rH⟩:=hn;have hk:cu n=0:=by unfold cu;simp only[h1,h2,h3,h4,h5,h6,h7,h8,h9,h10,h11,h12,rH,if_false]
  have hr:jH (.mk n a ks t)=false:=by
   unfold jH;simp only[E.name,hk];rfl
  rw[hr];unfold Uo bQ lW Ez;simp only[E.name,h1,h2,h3,h4,h5,h6,h7,h8,h9,h10,h11,h12,rH,if_false,ne_eq,not_true_eq_false]
  by_cases g1:n=bJ
  ·simp[g1]
  ·by_cases g2:n=ah
   ·simp[g2]
   ·by_cases g3:n=aJ
    ·simp[g3]
    ·by_cases g4:n=bM
     ·simp[g4]
     ·simp[g1,g2,g3,g4]
theorem acO(p x:E)(h:p.name∈lX):kD p x=Uo x:=by
 obtain⟨n,a,ks,t⟩:=p;obtain⟨m,b,ls,s⟩:=x;have h1:n=bJ∨n=ah∨n=aJ:=by simpa[lX,E.name]using h
 show(if _ then _ else _)=_;rw[if_pos h1];rfl
theorem aaW(p x:E)(h:p.name∈jG)(h2:p.name≠aU):kD p x=decide (x.name=ah):=by
 obtain⟨n,a,ks,t⟩:=p;obtain⟨m,b,ls,s⟩:=x;have hadm:∀m∈jG,¬(m=bJ∨m=ah∨m=aJ)∧m≠bM:=by decide
 obtain⟨h3,h4⟩:=hadm n h;show(if _ then _ else if _ then _ else if _ then _ else _)=_;rw[if_neg h3,if_neg (show¬n=aU from h2),if_neg h4];rfl
theorem XX(p x:E)(h:p.name=aU)(hk:p.kids≠[]):kD p x=(decide (x.name=bM)&&decide (x.kids.length=kg p.kids)):=by
 obtain⟨n,a,ks,t⟩:=p;obtain⟨m,b,ls,s⟩:=x;obtain rfl:n=aU:=h
 match ks,hk with
 |[],hk=>exact absurd rfl hk
 |.mk _ _ js _::_,_=>rfl
theorem acP(p x:E)(h:p.name=bM):kD p x=decide (x.name=aJ):=by
 obtain⟨n,a,ks,t⟩:=p;obtain⟨m,b,ls,s⟩:=x;obtain rfl:n=bM:=h;rfl
theorem GG(e:E)(h:jH e=true):e.name∈jG:=by
 unfold jH cu at h;simp only[jG,List.mem_cons,List.not_mem_nil,or_false]
 by_cases hn:e.name=pO∨e.name=qC∨e.name=vL∨e.name=lF∨e.name=iL∨e.name=dK∨e.name=fo∨e.name=jo∨e.name=jq∨e.name=eF∨e.name=bF∨e.name=aT∨e.name=aU
 ·exact hn
 ·simp only[not_or]at hn
  obtain⟨h1,h2,h3,h4,h5,h6,h7,h8,h9,h10,h11,h12,rH⟩:=hn;simp only[h1,h2,h3,h4,h5,h6,h7,h8,h9,h10,h11,h12,rH,if_false]at h;simp at h
theorem pU(l:List E):(iy l).length=l.length:=by rw[qP,List.length_map]
theorem aaX(e:E)(ho:jH e=true)(h:e.name≠aU)(cs:List Nd)(c:Nat):uj e (iy e.kids) (-1)=Oa e.name e.attrs e.text (iy e.kids) cs c:=by
 have hn:=GG e ho
 have hs:tq e.name e.kids.length (cu e.name)=true:=by
  unfold jH at ho;simp only[Bool.and_eq_true]at ho;exact ho.2
 have hl:=pU e.kids;obtain⟨n,a,ks,t⟩:=e;simp only[E.name,E.attrs,E.text,E.kids]at*;generalize iy ks=rs at*;rw[←hl]at hs;simp only[jG,List.mem_cons,List.not_mem_nil,or_false]at hn
 rcases hn with rfl|rfl|rfl|rfl|rfl|rfl|rfl|rfl|rfl|rfl|rfl|rfl|rfl
 ·have:rs=[]:=List.length_eq_zero_iff.1 (of_decide_eq_true hs)
  subst this;rfl
 ·have:rs=[]:=List.length_eq_zero_iff.1 (of_decide_eq_true hs)
  subst this;rfl
 ·have:rs=[]:=List.length_eq_zero_iff.1 (of_decide_eq_true hs)
  subst this;rfl
 ·have:rs=[]:=List.length_eq_zero_iff.1 (of_decide_eq_true hs)
  subst this;rfl
 ·rfl
 ·have h1:rs.length=1:=of_decide_eq_true hs
  match rs,h1 with
  |[x],_=>rfl
 ·have h1:rs.length=2:=of_decide_eq_true hs
  match rs,h1 with
  |[x,y],_=>rfl
 ·rfl
 ·rfl
 ·rfl
 ·have h1:rs.length=1:=of_decide_eq_true hs
  match rs,h1 with
  |[x],_=>rfl
 ·have h1:rs.length=1:=of_decide_eq_true hs
  match rs,h1 with
  |[x],_=>rfl
 ·exact absurd rfl h
theorem Dk(e:E)(s:Rd):kP e s=(let r:=if cu e.name=12 then gW (kg e.kids) e.kids (iQ (jH e) s)else bZ ah e.kids (iQ (jH e) s);(uj e r.1 r.2.2,r.2)):=by
 cases e;rw[kP];rfl
theorem acQ:∀n∈jG,n≠aU→¬cu n=12:=by decide
theorem O7:∀(m:Nat) (e:E),count e≤m→(∀nm∈lX,∀k,rX (vis (decide (e.name=nm)) k e) (gY nm e (k,-1)) (dR e))∧∀k,rX (vis (Uo e) k e) (kP e (k,-1)) (fA e):=by
 intro m
 induction m with
 |zero=>intro e h;have:=gQ e;omega
 |succ m ih=>
  intro e hm
  have hk:∀x∈e.kids,count x≤m:=by
   intro x hx;have:=dm hx;rw[aI]at hm;omega
  refine⟨fun nm hn k=>?_,fun k=>?_⟩
  ·by_cases h:e.name=nm
   ·exact acN nm hn e (fun x hx k=>by rw[acO e x (by rw[h];exact hn)];exact(ih x (hk x hx)).2 k) k
   ·have h1:oh nm e=false:=by unfold oh;simp[h]
    rw[zJ,RI nm hn,h1,if_neg (by decide)];obtain⟨n,a,ks,t⟩:=e;rw[gY,h1];have hs:=Bu ks _ (zV k);rw[zU]at hs;simp only[zU,hs];exact⟨fun h=>(by cases h),fun _=>by show(k:Int)=((k+1:Nat):Int)-1;omega⟩
  ·rw[zJ,aaV,Dk,sO]
   cases hb:jH e with
   |false=>
    rw[if_neg (by decide),wT _ _ _ (zV k),GD _ _ _ (zV k),ite_self,zU];exact⟨fun h=>(by cases h),fun _=>by show(k:Int)=((k+1:Nat):Int)-1;omega⟩
   |true=>
    have hn:=GG e hb;rw[if_pos rfl,O5]
    by_cases h12:e.name=aU
    ·have hk0:e.kids≠[]:=by
      unfold jH at hb;rw[h12]at hb;simp only[Bool.and_eq_true]at hb;have h1:1≤e.kids.length:=of_decide_eq_true hb.2;intro h;rw[h]at h1;cases h1
     rw[if_pos (by rw[h12];rfl)]
     have:=XW (kg e.kids) e e.kids (fun x hx k=>by
      rw[XX e x h12 hk0];refine aaU (kg e.kids) x (fun hx2 y hy k=>?_) k;rw[acP x y hx2];exact(ih y (by have:=dm hy;have:=aI x;have:=hk x hx;omega)).1 aJ (by decide) k) (k+1)
     refine⟨fun h1=>?_,fun h1=>?_⟩
     ·rw[this.1 h1]
      obtain⟨n,a,ks,t⟩:=e;obtain rfl:n=aU:=h12;rfl
     ·exact this.2 h1
    ·rw[if_neg (acQ e.name hn h12)]
     have:=O4 ah e e.kids (fun x hx k=>by rw[aaW e x hn h12];exact(ih x (hk x hx)).1 ah (by decide) k) (k+1);refine⟨fun h1=>?_,fun h1=>?_⟩
     ·rw[this.1 h1]
      show(uj e (iy e.kids) (-1),_)=_;rw[aaX e hb h12]
     ·exact this.2 h1
theorem RJ(e:E):tu e=kX e:=by
 have h:=(O7 _ e (Nat.le_refl _)).1 bJ (by decide) 0;have hlt:=EA e (decide (e.name=bJ)) 0;unfold tu kX mF;cases hv:(vis (decide (e.name=bJ)) 0 e).1 with
 |true=>
  have h1:=h.1 hv;rw[h1];rfl
 |false=>
  have h1:=h.2 hv;rw[h1,if_pos (show(0:Int)≤((vis (decide (e.name=bJ)) 0 e).2:Int)-1 by omega)];rfl
end U
section
open Go.RowKit
open Tr (Nd)
open U (E Rd iQ gY kP gV bZ gW dN)
namespace U
theorem Uq(l:List E)(h:∀x∈l,∀s,(kP x s).2.1≤s.1+count x):∀s,(gV l s).2.1≤s.1+aj l:=by
 induction l with
 |nil=>intro s;rw[gV,aj];exact Nat.le_refl _
 |cons x l ih=>
  intro s;rw[gV];split
  ·have h1:=h x (List.mem_cons_self ..) s
   have h2:=ih (fun y hy=>h y (List.mem_cons_of_mem _ hy)) (kP x s).2;rw[aj];show(gV l (kP x s).2).2.1≤_;omega
  ·show s.1≤_
   omega
theorem Fj(nm:Bytes)(l:List E)(h:∀x∈l,∀nm s,(gY nm x s).2.1≤s.1+count x):∀s,(bZ nm l s).2.1≤s.1+aj l:=by
 induction l with
 |nil=>intro s;rw[bZ,aj];exact Nat.le_refl _
 |cons x l ih=>
  intro s;rw[bZ];split
  ·have h1:=h x (List.mem_cons_self ..) nm s
   have h2:=ih (fun y hy=>h y (List.mem_cons_of_mem _ hy)) (gY nm x s).2;rw[aj];show(bZ nm l (gY nm x s).2).2.1≤_;omega
  ·show s.1≤_
   omega
theorem Ur(c:Int)(l:List E)(h:∀x∈l,∀y∈x.kids,∀nm s,(gY nm y s).2.1≤s.1+count y):∀s,(gW c l s).2.1≤s.1+aj l:=by
 induction l with
 |nil=>intro s;rw[gW,aj];exact Nat.le_refl _
 |cons x l ih=>
  intro s;obtain⟨n,a,ks,t⟩:=x;rw[gW];split
  ·have h1:=Fj aJ ks (h (.mk n a ks t) (List.mem_cons_self ..)) (iQ (gK c (.mk n a ks t)) s)
   have h2:=ih (fun y hy=>h y (List.mem_cons_of_mem _ hy)) (bZ aJ ks (iQ (gK c (.mk n a ks t)) s)).2;rw[aj,count];show(gW c l (bZ aJ ks (iQ (gK c (.mk n a ks t)) s)).2).2.1≤_;have h3:(iQ (gK c (.mk n a ks t)) s).1=s.1+1:=rfl;omega
  ·show s.1≤_
   omega
theorem LW:∀(m:Nat) (e:E),count e≤m→(∀nm s,(gY nm e s).2.1≤s.1+count e)∧∀s,(kP e s).2.1≤s.1+count e:=by
 intro m
 induction m with
 |zero=>intro e h;have:=gQ e;omega
 |succ m ih=>
  intro e hm
  have hk:∀x∈e.kids,count x≤m:=by
   intro x hx;have:=dm hx;rw[aI]at hm;omega
  refine⟨fun nm s=>?_,fun s=>?_⟩
  ·have h1:=Uq e.kids (fun x hx s=>(ih x (hk x hx)).2 s) (iQ (oh nm e) s)
   have h3:(iQ (oh nm e) s).1=s.1+1:=rfl;rw[aI];obtain⟨n,a,ks,t⟩:=e;rw[gY];show(gV ks (iQ (oh nm (.mk n a ks t)) s)).2.1≤_;have h1:(gV ks (iQ (oh nm (.mk n a ks t)) s)).2.1≤(iQ (oh nm (.mk n a ks t)) s).1+aj ks:=h1;have h4:(E.mk n a ks t).kids=ks:=rfl;rw[h4];omega
  ·have h1:=Fj ah e.kids (fun x hx nm s=>(ih x (hk x hx)).1 nm s) (iQ (jH e) s)
   have h2:=Ur (kg e.kids) e.kids (fun x hx y hy nm s=>(ih y (by have:=dm hy;have:=aI x;have:=hk x hx;omega)).1 nm s) (iQ (jH e) s);have h3:(iQ (jH e) s).1=s.1+1:=rfl;rw[Dk,aI]
   dsimp only
   split<;>omega
theorem Ib(nm:Bytes)(e:E)(s:Rd):(gY nm e s).2.1≤s.1+count e:=(LW _ e (Nat.le_refl _)).1 nm s
theorem XY(e:E)(s:Rd):(kP e s).2.1≤s.1+count e:=(LW _ e (Nat.le_refl _)).2 s
theorem AU(e:E)(h:proper e=true):∀x∈e.attrs,x.2.length≤1000:=by
 intro x hx;rw[mX,Bool.and_eq_true]at h;have h1:=h.1;unfold pM dQ at h1;simp only[Bool.and_eq_true,List.all_eq_true]at h1;have h2:=(h1.2.1 x hx).2;unfold bG at h2;simp only[Bool.and_eq_true,decide_eq_true_eq]at h2;omega
theorem xP(e:E)(h:proper e=true):∀x∈e.kids,proper x=true:=by
 intro x hx;rw[mX,Bool.and_eq_true,kZ,List.all_eq_true]at h;exact h.2 x hx
theorem xQ(l:List E)(j:Nat)(h:j<l.length):aj (l.drop j)=count l[j]+aj (l.drop (j+1)):=by
 rw[List.drop_eq_getElem_cons h,aj]
end U
def XZ(g:Nat)(w w':World)(n:Nd)(v:Value):Prop:=∃sl,v=nv n sl∧Touch (fun k=>k=g) w w'∧n.text.length≤maxLen∧aZ (fun k=>k<w.heap.size) w' fun W=>aO W n.kids sl
structure oJ(W0:World)(g:Nat)(s:Rd)(w:World):Prop where
 fr:ag W0 w
 blk:O w g 132 (rdC s)
 le:W0.heap.size≤g
theorem oJ.fresh{W0 w w':World}{g:Nat}{s:Rd}(h:oJ W0 g s w)(hf:ag w w'):oJ W0 g s w':=⟨h.fr.trans hf,hf.blk h.blk fun h=>h,h.le⟩
theorem oJ.move{W0 w w':World}{g:Nat}{s:Rd}{S:Nat→Prop}(h:oJ W0 g s w)(ht:Touch S w w')(hg:¬S g)(hS:∀k,S k→W0.heap.size≤k):oJ W0 g s w':=⟨h.fr.trans' ht fun k hk=>.inr (hS k hk),ht.blk h.blk hg,h.le⟩
theorem oJ.turn{W0 w w':World}{g:Nat}{s s':Rd}(h:oJ W0 g s w)(ht:Touch (fun k=>k=g) w w')(hb:O w' g 132 (rdC s')):oJ W0 g s' w':=⟨h.fr.trans' ht fun k hk=>.inr (by subst hk;exact h.le),hb,h.le⟩
theorem oJ.lt{W0 w:World}{g:Nat}{s:Rd}(h:oJ W0 g s w):g<w.heap.size:=h.blk.lt
theorem oJ.kids{W0 w:World}{g:Nat}{s:Rd}{e:E}{va vk:Value}(h:oJ W0 g s w)(hr:bN W0 e va vk):bN w e va vk:=hr.fresh h.fr
def JG(W0:World)(g:Nat)(e:E):Prop:=∀(s:Rd) (va vk:Value) (w:World),s.2<0→s.1+U.count e≤100000→U.proper e=true→bN W0 e va vk→oJ W0 g s w→
 Calls Tryz.prog 128 #[.pointer (some ⟨g,0,none⟩),ev e va vk] w fun x w'=>∃v,x=.returned v∧XZ g w w' (kP e s).1 v∧oJ W0 g (kP e s).2 w'
def JH(W0:World)(g:Nat)(e:E):Prop:=∀(nm:List UInt8) (s:Rd) (va vk:Value) (w:World),nm.length≤100→s.2<0→s.1+U.count e≤100000→U.proper e=true→bN W0 e va vk→oJ W0 g s w→
 Calls Tryz.prog 69 #[.pointer (some ⟨g,0,none⟩),ev e va vk,.string ⟨nm.toArray⟩] w fun x w'=>∃v,x=.returned v∧XZ g w w' (gY nm e s).1 v∧oJ W0 g (gY nm e s).2 w'
def uV(B:Nat)(w:World)(ns:List Nd)(m:Nd)(sl v:Value):Prop:=B≤w.heap.size∧m.text.length≤maxLen∧∃cs0,w.ownsRow B 31 4 v (ns.length+1) (cs0++[.int .i64 0,.string ⟨#[]⟩,.int .i64 0,.slice none 0 0])∧
 aZ (fun k=>v.ownBlock=some k∨k<B) w fun W=>iH W ns cs0∧aO W m.kids sl
theorem uV.mv{B:Nat}{w w1:World}{ns:List Nd}{m:Nd}{sl v:Value}{S:Nat→Prop}(h:uV B w ns m sl v)(ht:Touch S w w1)(hS:∀k,S k→k<w.heap.size→k<B):uV B w1 ns m sl v:=by
 obtain⟨hB,hm,cs,h1,h2⟩:=h;refine⟨Nat.le_trans hB ht.size,hm,cs,fI h1 ht fun k hk hs=>?_,h2.step ht (fun i hi hs=>.inr (hS i hs hi)) (fun _ _ h=>h)⟩;have h3:=h1.lt k hk;have:=hS k hs h3.2;omega
theorem uV.cells{B n:Nat}{w:World}{ns:List Nd}{m:Nd}{sl v:Value}(h:uV B w ns m sl v)(hn:ns.length=n):∃g cap,v=.slice (some ⟨g,0,none⟩) (n+1) cap∧n+1≤cap∧B≤g∧g<w.heap.size∧
  w.cell? ⟨g,n*4,none⟩=some (.int .i64 0)∧w.cell? ⟨g,n*4+1,none⟩=some (.string ⟨#[]⟩)∧w.cell? ⟨g,n*4+2,none⟩=some (.int .i64 0)∧w.cell? ⟨g,n*4+3,none⟩=some (.slice none 0 0)∧
  w.frozen? ⟨g,n*4,none⟩=false∧w.frozen? ⟨g,n*4+1,none⟩=false∧w.frozen? ⟨g,n*4+2,none⟩=false∧w.frozen? ⟨g,n*4+3,none⟩=false:=by
 subst hn;obtain⟨hB,hm,cs,h1,h2⟩:=h;have hl:cs.length=ns.length*4:=by have:=h1.1;rw[List.length_append]at this;simp only[List.length_cons,List.length_nil]at this;omega
 obtain⟨g,cap,rfl,hcap,hb⟩:∃g cap,v=.slice (some ⟨g,0,none⟩) (ns.length+1) cap∧ns.length+1≤cap∧B≤g:=by
  rcases h1.2 with⟨_,h0⟩|⟨g,cap,cur,e,hb,_,h5,_⟩
  ·omega
  ·exact⟨g,cap,e,h5,hb⟩
 have hc:∀i z,([Value.int .i64 0,.string ⟨#[]⟩,.int .i64 0,.slice none 0 0])[i]?=some z→i<4→w.cell? ⟨g,ns.length*4+i,none⟩=some z:=fun i z hz hi4=>by
  rw[h1.cellAt _ (by omega),List.getElem?_append_right (by omega),show ns.length*4+i-cs.length=i by omega];exact hz
 exact⟨g,cap,rfl,hcap,hb,(h1.lt g rfl).2,hc 0 _ rfl (by omega),hc 1 _ rfl (by omega),hc 2 _ rfl (by omega),hc 3 _ rfl (by omega),h1.frozenAt _,h1.frozenAt _,h1.frozenAt _,h1.frozenAt _⟩
theorem uV.put{B n:Nat}{w:World}{ns:List Nd}{m:Nd}{sl:Value}{g cap:Nat}(h:uV B w ns m sl (.slice (some ⟨g,0,none⟩) (n+1) cap))(hn:ns.length=n):
  dU B (mG w g (n*4) (.int .i64 m.kind) (.string ⟨m.text.toArray⟩) (.int .i64 m.ai) sl) (ns++[m]) (.slice (some ⟨g,0,none⟩) (n+1) cap):=by
 subst hn;obtain⟨hB,hm,cs,h1,h2⟩:=h;refine⟨Nat.le_trans hB (kF w g _ _ _ _ _).size,_,by rw[List.length_append];exact Hq h1 _ _ _ _,?_⟩;refine(h2.step (kF w g _ _ _ _ _) (fun i _ hs=>.inl (by subst hs;rfl)) (fun _ _ h=>h)).imp fun W ⟨g1,g2⟩=>g1.append (iH.one g2 hm)
section
variable {w:World} {ops:Array Oper} {rest:List Oper} {o:Oper} {a:Act} {Q:Exit→Act→World→Prop}
theorem tF(hgd:o.guard=none)(s x:Operand)
  (ho:o.op=.call {callee:=.builtin .append,args:=#[s,x],argTypes:=#[29,29]})
  {B n g:Nat} {ns:List Nd} {v:Value} (h:dU B w ns v) (hn:ns.length=n) (hs:a.eval s=v) (m:Nd) {sl:Value} (hb:O w g 31 Y) (hx:a.eval x=.slice (some ⟨g,0,none⟩) 1 1)
  (w0:Nat) (hB:B≤w0) (hown:∀k,v.ownBlock=some k→k<w0) (htl:m.text.length≤maxLen) (z8:aZ (fun k=>k<w0) w fun W=>aO W m.kids sl) (hlen:n<2^40)
  (hK:∀A cp w',uV B w' ns m sl (.slice A (n+1) cp)→Touch (fun k=>v.ownBlock=some k) w w'→((Value.slice A (n+1) cp).ownBlock=v.ownBlock∨(Value.slice A (n+1) cp).ownBlock=some w.heap.size)→wpList Tryz.prog ops Q rest (a.put o.dst (.slice A (n+1) cp)) w'):wpList Tryz.prog ops Q (o::rest) a w:=by
 subst hn;obtain⟨hBw,cs,h1,h2⟩:=h;obtain⟨i,hi,hz0,hz1,hz2⟩:=info_parts La;have h3:∀u∈[Value.int .i64 0,.string ⟨#[]⟩,.int .i64 0,.slice none 0 0],u.oneCell'=true:=by simp[Value.oneCell']
 refine jT _ hgd s x 29 ho B 31 i _ 4 56 Tryz.underlying29 hi hz0 hz1 hz2 rfl (by decide) v ns.length cs hs h1 _ 1 _ hx (Src.xR hb rfl) h3 (by simp only[maxLen];omega) (by omega) hBw fun v' w' ho' hgr hv'=>?_
 obtain⟨A,cp,rfl⟩:=rT ho';have ht:Touch (fun k=>v.ownBlock=some k) w w':=Touch.grown (M _ _) hgr fun k hk=>.inl hk
 refine hK A cp w' ⟨Nat.le_trans hBw hgr.size,htl,_,ho',?_⟩ ht hv'
 have hS:∀i,i<w.heap.size→((Value.slice A (ns.length+1) cp).ownBlock=some i∨i<B)→(v.ownBlock=some i∨i<B):=fun i hi hs=>by
  rcases hs with hs|hs
  ·rcases hv' with h6|h6<;>rw[h6]at hs
   ·exact .inl hs
   ·cases hs;omega
  ·exact .inr hs
 refine(h2.step ht (fun i _ hs=>.inl hs) hS).and (z8.step ht (fun i hi hs=>hown i hs) fun i hi hs=>?_)
 rcases hS i hi hs with h6|h6
 ·exact hown i h6
 ·omega
end
theorem dU.two{B:Nat}{w:World}{a b:Nd}{v:Value}(h:dU B w [a,b] v):∃g cap sa sb,(∃A n c,sa=Value.slice A n c)∧(∃A n c,sb=Value.slice A n c)∧v=.slice (some ⟨g,0,none⟩) 2 cap∧2≤cap∧B≤g∧g<w.heap.size∧(∀j,w.frozen? ⟨g,j,none⟩=false)∧
  (w.cell? ⟨g,0,none⟩=some (.int .i64 a.kind)∧w.cell? ⟨g,1,none⟩=some (.string ⟨a.text.toArray⟩)∧w.cell? ⟨g,2,none⟩=some (.int .i64 a.ai)∧w.cell? ⟨g,3,none⟩=some sa)∧
  (w.cell? ⟨g,4,none⟩=some (.int .i64 b.kind)∧w.cell? ⟨g,5,none⟩=some (.string ⟨b.text.toArray⟩)∧w.cell? ⟨g,6,none⟩=some (.int .i64 b.ai)∧w.cell? ⟨g,7,none⟩=some sb)∧
  dU B (mG (mG w g 0 (.int .i64 b.kind) (.string ⟨b.text.toArray⟩) (.int .i64 b.ai) sb) g 4 (.int .i64 a.kind) (.string ⟨a.text.toArray⟩) (.int .i64 a.ai) sa) [b,a] (.slice (some ⟨g,0,none⟩) 2 cap):=by
 obtain⟨hB,cs,h1,h2⟩:=h;obtain⟨sa,ds,hcs,hra,_,sb,es,hds,hrb,_,hes⟩:=h2.now;replace hes:es=[]:=hes;subst hes hds hcs
 obtain⟨g,cap,rfl,hcap,hb⟩:∃g cap,v=.slice (some ⟨g,0,none⟩) 2 cap∧2≤cap∧B≤g:=by
  rcases h1.2 with⟨_,h0⟩|⟨g,cap,cur,e,hb,_,h5,_⟩
  ·cases h0
  ·exact⟨g,cap,e,h5,hb⟩
 refine⟨g,cap,sa,sb,⟨_,_,hra.slice.choose_spec.imp fun _ h=>h⟩,⟨_,_,hrb.slice.choose_spec.imp fun _ h=>h⟩,rfl,hcap,hb,(h1.lt g rfl).2,fun j=>h1.frozenAt j,⟨h1.cellAt 0 (by decide),h1.cellAt 1 (by decide),h1.cellAt 2 (by decide),h1.cellAt 3 (by decide)⟩,⟨h1.cellAt 4 (by decide),h1.cellAt 5 (by decide),h1.cellAt 6 (by decide),h1.cellAt 7 (by decide)⟩,?_⟩;have p0:=(h1.stored 0 (.int .i64 b.kind)).1;have p1:=(p0.stored 1 (.string ⟨b.text.toArray⟩)).1;have p2:=(p1.stored 2 (.int .i64 b.ai)).1;have p3:=(p2.stored 3 sb).1;have p4:=(p3.stored 4 (.int .i64 a.kind)).1;have p5:=(p4.stored 5 (.string ⟨a.text.toArray⟩)).1;have p6:=(p5.stored 6 (.int .i64 a.ai)).1;have p7:=(p6.stored 7 sa).1;have h3:=p7;have ht:=(kF w g 0 (.int .i64 b.kind) (.string ⟨b.text.toArray⟩) (.int .i64 b.ai) sb).trans (kF _ g 4 (.int .i64 a.kind) (.string ⟨a.text.toArray⟩) (.int .i64 a.ai) sa);refine⟨Nat.le_trans hB ht.size,[.int .i64 b.kind,.string ⟨b.text.toArray⟩,.int .i64 b.ai,sb,.int .i64 a.kind,.string ⟨a.text.toArray⟩,.int .i64 a.ai,sa],h3,?_⟩;refine(h2.step ht (fun i _ hs=>.inl (by subst hs;rfl)) (fun _ _ h=>h)).imp fun W hW=>?_
 obtain⟨sa',ds,hcs,ra,ta,sb',es,hds,rb,tb,hes⟩:=hW;replace hes:es=[]:=hes;subst hes hds;cases hcs;exact⟨sb,_,rfl,rb,tb,sa,[],rfl,ra,ta,rfl⟩
end
end Go.Proofs.YtnbeemkfmlfgfaaGreatDoor
