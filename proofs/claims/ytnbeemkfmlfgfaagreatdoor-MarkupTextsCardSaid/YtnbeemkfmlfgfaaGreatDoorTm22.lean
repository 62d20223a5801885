/- Part 22 of 48 of a proof. No condition. -/
import Derived.Test.YtnbeemkfmlfgfaaGreatDoorTm21
set_option maxRecDepth 100000
set_option maxHeartbeats 2000000
namespace Go.Proofs.YtnbeemkfmlfgfaaGreatDoor
section
open Go.RowKit
open Tr (Nd)
open U (E aA lW aW dN eU iR)
def ED(n:List UInt8):Prop:=(n==([109,105]:List UInt8))=false∧(n==([109,111]:List UInt8))=false∧(n==([109,110]:List UInt8))=false∧(n==([109,116,101,120,116]:List UInt8))=false∧(n==([109,97,116,104]:List UInt8))=false∧(n==([109,114,111,119]:List UInt8))=false∧(n==([109,116,100]:List UInt8))=false∧(n==([109,116,97,98,108,101]:List UInt8))=false∧(n==([109,116,114]:List UInt8))=false∧(n==([109,102,114,97,99]:List UInt8))=false∧(n==([109,114,111,111,116]:List UInt8))=false∧(n==([109,115,117,98]:List UInt8))=false∧(n==([109,115,117,112]:List UInt8))=false∧(n==([109,115,117,98,115,117,112]:List UInt8))=false∧(n==([109,115,113,114,116]:List UInt8))=false∧(n==([109,111,118,101,114]:List UInt8))=false∧(n==([109,102,101,110,99,101,100]:List UInt8))=false
theorem Jc(n:List UInt8):n=U.pO∨n=U.qC∨n=U.vL∨n=U.lF∨n=U.bJ∨n=U.ah∨n=U.aJ∨n=U.aU∨n=U.bM∨n=U.iL∨n=U.fo∨n=U.jo∨n=U.jq∨n=U.eF∨n=U.dK∨n=U.bF∨n=U.aT∨ED n:=by
 by_cases Wp:n=U.pO
 ·simp only[Wp,true_or]
 by_cases Wq:n=U.qC
 ·simp only[Wq,true_or,or_true]
 by_cases Ws:n=U.vL
 ·simp only[Ws,true_or,or_true]
 by_cases EE:n=U.lF
 ·simp only[EE,true_or,or_true]
 by_cases CR:n=U.bJ
 ·simp only[CR,true_or,or_true]
 by_cases CS:n=U.ah
 ·simp only[CS,true_or,or_true]
 by_cases G9:n=U.aJ
 ·simp only[G9,true_or,or_true]
 by_cases vR:n=U.aU
 ·simp only[vR,true_or,or_true]
 by_cases He:n=U.bM
 ·simp only[He,true_or,or_true]
 by_cases zL:n=U.iL
 ·simp only[zL,true_or,or_true]
 by_cases yg:n=U.fo
 ·simp only[yg,true_or,or_true]
 by_cases CU:n=U.jo
 ·simp only[CU,true_or,or_true]
 by_cases CV:n=U.jq
 ·simp only[CV,true_or,or_true]
 by_cases vw:n=U.eF
 ·simp only[vw,true_or,or_true]
 by_cases yh:n=U.dK
 ·simp only[yh,true_or,or_true]
 by_cases yj:n=U.bF
 ·simp only[yj,true_or,or_true]
 by_cases sQ:n=U.aT
 ·simp only[sQ,true_or,or_true]
 refine .inr (.inr (.inr (.inr (.inr (.inr (.inr (.inr (.inr (.inr (.inr (.inr (.inr (.inr (.inr (.inr (.inr (⟨beq_eq_false_iff_ne.2 Wp,beq_eq_false_iff_ne.2 Wq,beq_eq_false_iff_ne.2 Ws,beq_eq_false_iff_ne.2 EE,beq_eq_false_iff_ne.2 CR,beq_eq_false_iff_ne.2 CS,beq_eq_false_iff_ne.2 G9,beq_eq_false_iff_ne.2 vR,beq_eq_false_iff_ne.2 He,beq_eq_false_iff_ne.2 zL,beq_eq_false_iff_ne.2 yg,beq_eq_false_iff_ne.2 CU,beq_eq_false_iff_ne.2 CV,beq_eq_false_iff_ne.2 vw,beq_eq_false_iff_ne.2 yh,beq_eq_false_iff_ne.2 yj,beq_eq_false_iff_ne.2 sQ⟩)))))))))))))))))
theorem Om(n:List UInt8)(h:ED n):lW n=0:=by
 rw[vP,h.1,h.2.1,h.2.2.1,h.2.2.2.1];rfl
theorem Wt(n:List UInt8)(h:ED n)(k:Nat):U.Ez n k=false:=by
 obtain⟨_,_,_,_,CR,CS,G9,vR,He,zL,yg,CU,CV,vw,yh,yj,sQ⟩:=h;unfold U.Ez;rw[if_neg (show¬n=U.bJ from beq_eq_false_iff_ne.1 CR),if_neg (show¬n=U.ah from beq_eq_false_iff_ne.1 CS),if_neg (show¬n=U.aJ from beq_eq_false_iff_ne.1 G9),if_neg (show¬n=U.aU from beq_eq_false_iff_ne.1 vR),if_neg (show¬n=U.bM from beq_eq_false_iff_ne.1 He),if_neg (show¬n=U.iL from beq_eq_false_iff_ne.1 zL),if_neg (show¬n=U.fo from beq_eq_false_iff_ne.1 yg),if_neg (show¬n=U.jo from beq_eq_false_iff_ne.1 CU),if_neg (show¬n=U.jq from beq_eq_false_iff_ne.1 CV),if_neg (show¬n=U.eF from beq_eq_false_iff_ne.1 vw),if_neg (show¬n=U.dK from beq_eq_false_iff_ne.1 yh),if_neg (show¬n=U.bF from beq_eq_false_iff_ne.1 yj),if_neg (show¬n=U.aT from beq_eq_false_iff_ne.1 sQ)]
theorem Q8(n:List UInt8)(h:ED n)(a:aA)(ks:List E)(t:List UInt8):U.bQ (.mk n a ks t)=false:=by
 have hh:U.bQ (.mk n a ks t)=(if lW n≠0 then((if n=U.pO then iR t else if n=U.qC then !iR t else true)&&a.isEmpty&&ks.isEmpty&&eU (lW n) t 0)else(t.isEmpty&&U.Ez n ks.length&&U.abo n a&&decide (a.length=U.iK n))):=rfl;rw[hh,Om n h,if_neg (by simp),Wt n h];simp
theorem ZP(n:List UInt8)(hn:ED n)(a:aA)(ks:List E)(t:List UInt8)(g o:Nat)(va vk:Value)(w:World)(he:fC w g o (.mk (n) a ks t) va vk):Calls Tryz.prog 73 #[.pointer (some ⟨g,o,none⟩)] w fun x w'=>x=.returned (.bool (U.bQ (.mk (n) a ks t)))∧ag w w':=by
 obtain⟨A,ca,hva⟩:=he.2.2.2.2.2.1.slice;obtain⟨B,cb,hvb⟩:=he.2.2.2.2.2.2.1.slice;replace hva:va=.slice A a.length ca:=hva;replace hvb:vk=.slice B ks.length cb:=hvb;subst hva;subst hvb;have htl:t.length≤maxLen:=he.2.2.2.2.2.2.2.2;have hl1:a.length≤maxLen:=by obtain⟨_,_,_,h,_⟩:=he.2.2.2.2.2.1;exact h.1
 have hl2:ks.length≤maxLen:=he.2.2.2.2.2.2.1.len;have gX:=I htl;unfold maxLen at hl1 hl2 htl;have HE:=I he;obtain⟨_,a0,a1,a2,a3,_⟩:=he;replace a0:w.cell? ⟨g,o,none⟩=some (.string ⟨n.toArray⟩):=a0;replace a3:w.cell? ⟨g,o+3,none⟩=some (.string ⟨t.toArray⟩):=a3;have HN:=I (Om n hn);rw[Q8 n hn];obtain⟨Wp,Wq,Ws,EE,CR,CS,G9,vR,He,zL,yg,CU,CV,vw,yh,yj,sQ⟩:=hn;have ajd:((⟨n.toArray⟩:ByteArray)==(⟨#[109,105]⟩:ByteArray))=false:=by rw[aC];exact Wp
 have aje:(ByteArray.toList (⟨n.toArray⟩:ByteArray)==[109,105])=false:=by rw[ByteArray.toList_eq];exact Wp
 have ajf:((⟨n.toArray⟩:ByteArray)==(⟨#[109,111]⟩:ByteArray))=false:=by rw[aC];exact Wq
 have ajg:(ByteArray.toList (⟨n.toArray⟩:ByteArray)==[109,111])=false:=by rw[ByteArray.toList_eq];exact Wq
 have ajh:((⟨n.toArray⟩:ByteArray)==(⟨#[109,110]⟩:ByteArray))=false:=by rw[aC];exact Ws
 have aji:(ByteArray.toList (⟨n.toArray⟩:ByteArray)==[109,110])=false:=by rw[ByteArray.toList_eq];exact Ws
 have ahp:((⟨n.toArray⟩:ByteArray)==(⟨#[109,116,101,120,116]⟩:ByteArray))=false:=by rw[aC];exact EE
 have ahq:(ByteArray.toList (⟨n.toArray⟩:ByteArray)==[109,116,101,120,116])=false:=by rw[ByteArray.toList_eq];exact EE
 have aii:((⟨n.toArray⟩:ByteArray)==(⟨#[109,97,116,104]⟩:ByteArray))=false:=by rw[aC];exact CR
 have aij:(ByteArray.toList (⟨n.toArray⟩:ByteArray)==[109,97,116,104])=false:=by rw[ByteArray.toList_eq];exact CR
 have aik:((⟨n.toArray⟩:ByteArray)==(⟨#[109,114,111,119]⟩:ByteArray))=false:=by rw[aC];exact CS
 have ail:(ByteArray.toList (⟨n.toArray⟩:ByteArray)==[109,114,111,119])=false:=by rw[ByteArray.toList_eq];exact CS
 have aiH:((⟨n.toArray⟩:ByteArray)==(⟨#[109,116,100]⟩:ByteArray))=false:=by rw[aC];exact G9
 have aiI:(ByteArray.toList (⟨n.toArray⟩:ByteArray)==[109,116,100])=false:=by rw[ByteArray.toList_eq];exact G9
 have afZ:((⟨n.toArray⟩:ByteArray)==(⟨#[109,116,97,98,108,101]⟩:ByteArray))=false:=by rw[aC];exact vR
 have af0:(ByteArray.toList (⟨n.toArray⟩:ByteArray)==[109,116,97,98,108,101])=false:=by rw[ByteArray.toList_eq];exact vR
 have aiJ:((⟨n.toArray⟩:ByteArray)==(⟨#[109,116,114]⟩:ByteArray))=false:=by rw[aC];exact He
 have aiK:(ByteArray.toList (⟨n.toArray⟩:ByteArray)==[109,116,114])=false:=by rw[ByteArray.toList_eq];exact He
 have ahr:((⟨n.toArray⟩:ByteArray)==(⟨#[109,102,114,97,99]⟩:ByteArray))=false:=by rw[aC];exact zL
 have ahs:(ByteArray.toList (⟨n.toArray⟩:ByteArray)==[109,102,114,97,99])=false:=by rw[ByteArray.toList_eq];exact zL
 have aht:((⟨n.toArray⟩:ByteArray)==(⟨#[109,114,111,111,116]⟩:ByteArray))=false:=by rw[aC];exact yg
 have ahu:(ByteArray.toList (⟨n.toArray⟩:ByteArray)==[109,114,111,111,116])=false:=by rw[ByteArray.toList_eq];exact yg
 have aim:((⟨n.toArray⟩:ByteArray)==(⟨#[109,115,117,98]⟩:ByteArray))=false:=by rw[aC];exact CU
 have ain:(ByteArray.toList (⟨n.toArray⟩:ByteArray)==[109,115,117,98])=false:=by rw[ByteArray.toList_eq];exact CU
 have aio:((⟨n.toArray⟩:ByteArray)==(⟨#[109,115,117,112]⟩:ByteArray))=false:=by rw[aC];exact CV
 have aip:(ByteArray.toList (⟨n.toArray⟩:ByteArray)==[109,115,117,112])=false:=by rw[ByteArray.toList_eq];exact CV
 have aeP:((⟨n.toArray⟩:ByteArray)==(⟨#[109,115,117,98,115,117,112]⟩:ByteArray))=false:=by rw[aC];exact vw
 have aeQ:(ByteArray.toList (⟨n.toArray⟩:ByteArray)==[109,115,117,98,115,117,112])=false:=by rw[ByteArray.toList_eq];exact vw
 have ahv:((⟨n.toArray⟩:ByteArray)==(⟨#[109,115,113,114,116]⟩:ByteArray))=false:=by rw[aC];exact yh
 have ahw:(ByteArray.toList (⟨n.toArray⟩:ByteArray)==[109,115,113,114,116])=false:=by rw[ByteArray.toList_eq];exact yh
 have ahx:((⟨n.toArray⟩:ByteArray)==(⟨#[109,111,118,101,114]⟩:ByteArray))=false:=by rw[aC];exact yj
 have ahy:(ByteArray.toList (⟨n.toArray⟩:ByteArray)==[109,111,118,101,114])=false:=by rw[ByteArray.toList_eq];exact yj
 have aeR:((⟨n.toArray⟩:ByteArray)==(⟨#[109,102,101,110,99,101,100]⟩:ByteArray))=false:=by rw[aC];exact sQ
 have aeS:(ByteArray.toList (⟨n.toArray⟩:ByteArray)==[109,102,101,110,99,101,100])=false:=by rw[ByteArray.toList_eq];exact sQ
 cases h0:(t==([]:List UInt8))with
 |false=>
  have h0s:((⟨t.toArray⟩:ByteArray)==(⟨#[]⟩:ByteArray))=false:=by rw[aC];exact h0
  have h0e:(ByteArray.toList (⟨t.toArray⟩:ByteArray)).isEmpty=false:=by rw[bD];exact h0
  go_enter Tryz.func73,Tryz.ntmps73;go_wp2_with fail
  refine Calls.mono (gP n 0 HN.J _) ?_;rintro _ KH ⟨rfl,kz⟩;replace kz:=kz.symm;subst kz;go_wp2_with fail
  refine wp_region_quiet_lit (by kernel_rfl) (by kernel_rfl) ?_
  repeat(with_reducible refine wpQuiet_step (fun K hK=>?_);go_simp;first|(refine hK _ ?_;clear hK K)|(apply Exists.intro;refine⟨fun _=>?_,hK _ ?_⟩;(fail);clear hK K))
  refine wpQuiet_nil ?_;rintro _ ⟨nq,rfl⟩;go_wp2
  go_ret;exact⟨rfl,bf⟩
 |true=>
  have h0s:((⟨t.toArray⟩:ByteArray)==(⟨#[]⟩:ByteArray))=true:=by rw[aC];exact h0
  have h0e:(ByteArray.toList (⟨t.toArray⟩:ByteArray)).isEmpty=true:=by rw[bD];exact h0
  go_enter Tryz.func73,Tryz.ntmps73;go_wp2_with fail
  refine Calls.mono (gP n 0 HN.J _) ?_;rintro _ Va ⟨rfl,oN⟩;replace oN:=oN.symm;subst oN;go_wp2_with fail
  refine wp_region_quiet_lit (by kernel_rfl) (by kernel_rfl) ?_
  repeat(with_reducible refine wpQuiet_step (fun K hK=>?_);go_simp;first|(refine hK _ ?_;clear hK K)|(apply Exists.intro;refine⟨fun _=>?_,hK _ ?_⟩;(fail);clear hK K))
  refine wpQuiet_nil ?_;rintro _ ⟨nq,rfl⟩;go_wp2
  go_ret;exact⟨rfl,bf⟩
theorem ZQ(e:E)(g o:Nat)(va vk:Value)(w:World)(he:fC w g o e va vk)(hal:(aW e.attrs U.cK).length≤maxLen):Calls Tryz.prog 73 #[.pointer (some ⟨g,o,none⟩)] w fun x w'=>x=.returned (.bool (U.bQ e))∧ag w w':=by
 obtain⟨n,a,ks,t⟩:=e
 rcases Jc n with rfl|rfl|rfl|rfl|rfl|rfl|rfl|rfl|rfl|rfl|rfl|rfl|rfl|rfl|rfl|rfl|rfl|hn
 ·exact adx a ks t g o va vk w he
 ·exact adD a ks t g o va vk w he
 ·exact adJ a ks t g o va vk w he
 ·exact VQ a ks t g o va vk w he
 ·exact Zz a ks t g o va vk w he
 ·exact ZA a ks t g o va vk w he
 ·exact acd a ks t g o va vk w he
 ·exact Tm a ks t g o va vk w he
 ·exact ace a ks t g o va vk w he
 ·exact VR a ks t g o va vk w he
 ·exact VS a ks t g o va vk w he
 ·exact ZH a ks t g o va vk w he
 ·exact ZJ a ks t g o va vk w he
 ·exact P8 a ks t g o va vk w he
 ·exact VT a ks t g o va vk w he
 ·exact VU a ks t _ rfl hal g o va vk w he
 ·exact P9 a ks t _ _ rfl rfl g o va vk w he
 ·exact ZP n hn a ks t g o va vk w he
end
section
open Go.RowKit
open U (E aA)
theorem Q9(u v:List UInt8):decide (u=v)=(u==v):=by rw[Bool.eq_iff_iff];simp
theorem ZR(n m:List UInt8)(a b:aA)(ks ls:List E)(t s:List UInt8)(js:List E)(x:List UInt8)(y:aA)(z:List UInt8)(r:List E)(hk:ks=.mk x y js z::r):
  U.kD (.mk n a ks t) (.mk m b ls s)=if(n==([109,97,116,104]:List UInt8))=true then !((m==([109,97,116,104]:List UInt8))||(m==([109,114,111,119]:List UInt8))||(m==([109,116,100]:List UInt8))||(m==([109,116,114]:List UInt8)))else if(n==([109,114,111,119]:List UInt8))=true then !((m==([109,97,116,104]:List UInt8))||(m==([109,114,111,119]:List UInt8))||(m==([109,116,100]:List UInt8))||(m==([109,116,114]:List UInt8)))else if(n==([109,116,100]:List UInt8))=true then !((m==([109,97,116,104]:List UInt8))||(m==([109,114,111,119]:List UInt8))||(m==([109,116,100]:List UInt8))||(m==([109,116,114]:List UInt8)))
   else if(n==([109,116,97,98,108,101]:List UInt8))=true then(m==([109,116,114]:List UInt8))&&((ls.length:Int)==(js.length:Int))else if(n==([109,116,114]:List UInt8))=true then(m==([109,116,100]:List UInt8))else(m==([109,114,111,119]:List UInt8)):=by
 subst hk;rw[r9 ls.length js.length _ rfl];show(if n=U.bJ∨n=U.ah∨n=U.aJ then !(decide (m=U.bJ)||decide (m=U.ah)||decide (m=U.aJ)||decide (m=U.bM))else if n=U.aU then decide (m=U.bM)&&decide (ls.length=js.length)else if n=U.bM then decide (m=U.aJ)else decide (m=U.ah))=_;simp only[beq_iff_eq]
 have hx:(if n=U.bJ∨n=U.ah∨n=U.aJ then !(decide (m=U.bJ)||decide (m=U.ah)||decide (m=U.aJ)||decide (m=U.bM))else if n=U.aU then decide (m=U.bM)&&decide (ls.length=js.length)else if n=U.bM then decide (m=U.aJ)else decide (m=U.ah))=(if n=U.bJ then !((m==U.bJ)||(m==U.ah)||(m==U.aJ)||(m==U.bM))else if n=U.ah then !((m==U.bJ)||(m==U.ah)||(m==U.aJ)||(m==U.bM))else if n=U.aJ then !((m==U.bJ)||(m==U.ah)||(m==U.aJ)||(m==U.bM))
   else if n=U.aU then(m==U.bM)&&decide (ls.length=js.length)else if n=U.bM then(m==U.aJ)else(m==U.ah)):=by
  have e:∀u v:List UInt8,(u==v)=decide (u=v):=fun u v=>(Q9 u v).symm
  simp only[e]
  by_cases e1:n=U.bJ
  ·rw[if_pos (.inl e1),if_pos e1]
  ·by_cases e2:n=U.ah
   ·rw[if_pos (.inr (.inl e2)),if_neg e1,if_pos e2]
   ·by_cases e3:n=U.aJ
    ·rw[if_pos (.inr (.inr e3)),if_neg e1,if_neg e2,if_pos e3]
    ·rw[if_neg (fun h=>h.elim e1 fun h=>h.elim e2 e3),if_neg e1,if_neg e2,if_neg e3]
 exact hx
theorem TB(n m:List UInt8)(a b:aA)(ks ls js:List E)(t s:List UInt8)(x:List UInt8)(y:aA)(z:List UInt8)(r:List E)(hk:ks=.mk x y js z::r)(g o p q i e:Nat)(cb cl cj:Nat)(Bl Bj:Option Addr)(w:World)
  (a0:w.cell? ⟨g,o,none⟩=some (.string ⟨n.toArray⟩)) (a2:w.cell? ⟨g,o+2,none⟩=some (.slice (some ⟨i,e,none⟩) ks.length cb)) (b0:w.cell? ⟨p,q,none⟩=some (.string ⟨m.toArray⟩)) (b2:w.cell? ⟨p,q+2,none⟩=some (.slice Bl ls.length cl)) (c2:w.cell? ⟨i,e+2,none⟩=some (.slice Bj js.length cj)):
  Calls Tryz.prog 74 #[.pointer (some ⟨g,o,none⟩),.pointer (some ⟨p,q,none⟩)] w fun x w'=>x=.returned (.bool (U.kD (.mk n a ks t) (.mk m b ls s)))∧ag w w':=by
 have hkl:0<ks.length:=by rw[hk];simp
 have hkl':(0:Int)<(ks.length:Int):=by omega
 rw[ZR n m a b ks ls t s js x y z r hk];clear hk;go_enter Tryz.func74,Tryz.ntmps74;cases h1:(n==([109,97,116,104]:List UInt8))with
 |false=>
  have D8:((⟨n.toArray⟩:ByteArray)==(⟨#[109,97,116,104]⟩:ByteArray))=false:=by rw[aC];exact h1
  have Vb:((⟨n.toArray⟩:ByteArray) !=(⟨#[109,97,116,104]⟩:ByteArray))=true:=by rw[bne,D8];rfl
  have h1l:(ByteArray.toList (⟨n.toArray⟩:ByteArray)==[109,97,116,104])=false:=by rw[ByteArray.toList_eq];exact h1
  cases h2:(n==([109,114,111,119]:List UInt8))with
  |false=>
   have DX:((⟨n.toArray⟩:ByteArray)==(⟨#[109,114,111,119]⟩:ByteArray))=false:=by rw[aC];exact h2
   have UG:((⟨n.toArray⟩:ByteArray) !=(⟨#[109,114,111,119]⟩:ByteArray))=true:=by rw[bne,DX];rfl
   have h2l:(ByteArray.toList (⟨n.toArray⟩:ByteArray)==[109,114,111,119])=false:=by rw[ByteArray.toList_eq];exact h2
   cases h3:(n==([109,116,100]:List UInt8))with
   |false=>
    have Ob:((⟨n.toArray⟩:ByteArray)==(⟨#[109,116,100]⟩:ByteArray))=false:=by rw[aC];exact h3
    have h3t:((⟨n.toArray⟩:ByteArray) !=(⟨#[109,116,100]⟩:ByteArray))=true:=by rw[bne,Ob];rfl
    have h3l:(ByteArray.toList (⟨n.toArray⟩:ByteArray)==[109,116,100])=false:=by rw[ByteArray.toList_eq];exact h3
    cases h4:(n==([109,116,97,98,108,101]:List UInt8))with
    |false=>
     have zq:((⟨n.toArray⟩:ByteArray)==(⟨#[109,116,97,98,108,101]⟩:ByteArray))=false:=by rw[aC];exact h4
     have Nl:((⟨n.toArray⟩:ByteArray) !=(⟨#[109,116,97,98,108,101]⟩:ByteArray))=true:=by rw[bne,zq];rfl
     have VK:(ByteArray.toList (⟨n.toArray⟩:ByteArray)==[109,116,97,98,108,101])=false:=by rw[ByteArray.toList_eq];exact h4
     cases h5:(n==([109,116,114]:List UInt8))with
     |false=>
      have DZ:((⟨n.toArray⟩:ByteArray)==(⟨#[109,116,114]⟩:ByteArray))=false:=by rw[aC];exact h5
      have UM:((⟨n.toArray⟩:ByteArray) !=(⟨#[109,116,114]⟩:ByteArray))=true:=by rw[bne,DZ];rfl
      have h5l:(ByteArray.toList (⟨n.toArray⟩:ByteArray)==[109,116,114])=false:=by rw[ByteArray.toList_eq];exact h5
      cases h6:(m==([109,114,111,119]:List UInt8))with
      |false=>
       have h6s:((⟨m.toArray⟩:ByteArray)==(⟨#[109,114,111,119]⟩:ByteArray))=false:=by rw[aC];exact h6
       have h6t:((⟨m.toArray⟩:ByteArray) !=(⟨#[109,114,111,119]⟩:ByteArray))=true:=by rw[bne,h6s];rfl
       have h6l:(ByteArray.toList (⟨m.toArray⟩:ByteArray)==[109,114,111,119])=false:=by rw[ByteArray.toList_eq];exact h6
       go_wp2
       go_ret;exact⟨af _ _ (by first|rfl|(simp only[*]<;>rfl)),bf⟩
      |true=>
       have h6s:((⟨m.toArray⟩:ByteArray)==(⟨#[109,114,111,119]⟩:ByteArray))=true:=by rw[aC];exact h6
       have h6t:((⟨m.toArray⟩:ByteArray) !=(⟨#[109,114,111,119]⟩:ByteArray))=false:=by rw[bne,h6s];rfl
       have h6l:(ByteArray.toList (⟨m.toArray⟩:ByteArray)==[109,114,111,119])=true:=by rw[ByteArray.toList_eq];exact h6
       go_wp2
       go_ret;exact⟨af _ _ (by first|rfl|(simp only[*]<;>rfl)),bf⟩
     |true=>
      have DZ:((⟨n.toArray⟩:ByteArray)==(⟨#[109,116,114]⟩:ByteArray))=true:=by rw[aC];exact h5
      have UM:((⟨n.toArray⟩:ByteArray) !=(⟨#[109,116,114]⟩:ByteArray))=false:=by rw[bne,DZ];rfl
      have h5l:(ByteArray.toList (⟨n.toArray⟩:ByteArray)==[109,116,114])=true:=by rw[ByteArray.toList_eq];exact h5
      cases h7:(m==([109,116,100]:List UInt8))with
      |false=>
       have h7s:((⟨m.toArray⟩:ByteArray)==(⟨#[109,116,100]⟩:ByteArray))=false:=by rw[aC];exact h7
       have h7t:((⟨m.toArray⟩:ByteArray) !=(⟨#[109,116,100]⟩:ByteArray))=true:=by rw[bne,h7s];rfl
       have h7l:(ByteArray.toList (⟨m.toArray⟩:ByteArray)==[109,116,100])=false:=by rw[ByteArray.toList_eq];exact h7
       go_wp2
       go_ret;exact⟨af _ _ (by first|rfl|(simp only[*]<;>rfl)),bf⟩
      |true=>
       have h7s:((⟨m.toArray⟩:ByteArray)==(⟨#[109,116,100]⟩:ByteArray))=true:=by rw[aC];exact h7
       have h7t:((⟨m.toArray⟩:ByteArray) !=(⟨#[109,116,100]⟩:ByteArray))=false:=by rw[bne,h7s];rfl
       have h7l:(ByteArray.toList (⟨m.toArray⟩:ByteArray)==[109,116,100])=true:=by rw[ByteArray.toList_eq];exact h7
       go_wp2
       go_ret;exact⟨af _ _ (by first|rfl|(simp only[*]<;>rfl)),bf⟩
    |true=>
     have zq:((⟨n.toArray⟩:ByteArray)==(⟨#[109,116,97,98,108,101]⟩:ByteArray))=true:=by rw[aC];exact h4
     have Nl:((⟨n.toArray⟩:ByteArray) !=(⟨#[109,116,97,98,108,101]⟩:ByteArray))=false:=by rw[bne,zq];rfl
     have VK:(ByteArray.toList (⟨n.toArray⟩:ByteArray)==[109,116,97,98,108,101])=true:=by rw[ByteArray.toList_eq];exact h4
     cases h8:(m==([109,116,114]:List UInt8))with
     |false=>
      have h8s:((⟨m.toArray⟩:ByteArray)==(⟨#[109,116,114]⟩:ByteArray))=false:=by rw[aC];exact h8
      have h8t:((⟨m.toArray⟩:ByteArray) !=(⟨#[109,116,114]⟩:ByteArray))=true:=by rw[bne,h8s];rfl
      have h8l:(ByteArray.toList (⟨m.toArray⟩:ByteArray)==[109,116,114])=false:=by rw[ByteArray.toList_eq];exact h8
      go_wp2_with fail
      refine wp_region_quiet_lit (by kernel_rfl) (by kernel_rfl) ?_
      repeat(with_reducible refine wpQuiet_step (fun K hK=>?_);go_simp;first|(refine hK _ ?_;clear hK K)|(apply Exists.intro;refine⟨fun _=>?_,hK _ ?_⟩;(fail);clear hK K))
      refine wpQuiet_nil ?_;rintro _ ⟨nq,rfl⟩;go_wp2
      go_ret;exact⟨af _ _ (by first|rfl|(simp only[*]<;>rfl)),bf⟩
     |true=>
      have h8s:((⟨m.toArray⟩:ByteArray)==(⟨#[109,116,114]⟩:ByteArray))=true:=by rw[aC];exact h8
      have h8t:((⟨m.toArray⟩:ByteArray) !=(⟨#[109,116,114]⟩:ByteArray))=false:=by rw[bne,h8s];rfl
      have h8l:(ByteArray.toList (⟨m.toArray⟩:ByteArray)==[109,116,114])=true:=by rw[ByteArray.toList_eq];exact h8
      go_wp2_with fail
      refine wp_region_quiet_lit (by kernel_rfl) (by kernel_rfl) ?_
      repeat(with_reducible refine wpQuiet_step (fun K hK=>?_);go_simp;first|(refine hK _ ?_;clear hK K)|(apply Exists.intro;refine⟨fun _=>?_,hK _ ?_⟩;(fail);clear hK K))
      refine wpQuiet_nil ?_;rintro _ ⟨nq,rfl⟩;cases h9:((ls.length:Int)==(js.length:Int))with
      |false=>
       have Nq:((ls.length:Int) !=(js.length:Int))=true:=by rw[bne,h9];rfl
       go_wp2
       go_ret;exact⟨af _ _ (by first|rfl|(simp only[*]<;>rfl)),bf⟩
      |true=>
       have Nq:((ls.length:Int) !=(js.length:Int))=false:=by rw[bne,h9];rfl
       go_wp2
       go_ret;exact⟨af _ _ (by first|rfl|(simp only[*]<;>rfl)),bf⟩
   |true=>
    have Ob:((⟨n.toArray⟩:ByteArray)==(⟨#[109,116,100]⟩:ByteArray))=true:=by rw[aC];exact h3
    have h3t:((⟨n.toArray⟩:ByteArray) !=(⟨#[109,116,100]⟩:ByteArray))=false:=by rw[bne,Ob];rfl
    have h3l:(ByteArray.toList (⟨n.toArray⟩:ByteArray)==[109,116,100])=true:=by rw[ByteArray.toList_eq];exact h3
    cases h10:(m==([109,97,116,104]:List UInt8))with
    |false=>
     have GL:((⟨m.toArray⟩:ByteArray)==(⟨#[109,97,116,104]⟩:ByteArray))=false:=by rw[aC];exact h10
     have Yr:((⟨m.toArray⟩:ByteArray) !=(⟨#[109,97,116,104]⟩:ByteArray))=true:=by rw[bne,GL];rfl
     have Yt:(ByteArray.toList (⟨m.toArray⟩:ByteArray)==[109,97,116,104])=false:=by rw[ByteArray.toList_eq];exact h10
     cases h11:(m==([109,114,111,119]:List UInt8))with
     |false=>
      have GM:((⟨m.toArray⟩:ByteArray)==(⟨#[109,114,111,119]⟩:ByteArray))=false:=by rw[aC];exact h11
      have Yu:((⟨m.toArray⟩:ByteArray) !=(⟨#[109,114,111,119]⟩:ByteArray))=true:=by rw[bne,GM];rfl
      have Yv:(ByteArray.toList (⟨m.toArray⟩:ByteArray)==[109,114,111,119])=false:=by rw[ByteArray.toList_eq];exact h11
      cases h12:(m==([109,116,100]:List UInt8))with
      |false=>
       have zl:((⟨m.toArray⟩:ByteArray)==(⟨#[109,116,100]⟩:ByteArray))=false:=by rw[aC];exact h12
       have MW:((⟨m.toArray⟩:ByteArray) !=(⟨#[109,116,100]⟩:ByteArray))=true:=by rw[bne,zl];rfl
       have Yw:(ByteArray.toList (⟨m.toArray⟩:ByteArray)==[109,116,100])=false:=by rw[ByteArray.toList_eq];exact h12
       cases rH:(m==([109,116,114]:List UInt8))with
       |false=>
        have GN:((⟨m.toArray⟩:ByteArray)==(⟨#[109,116,114]⟩:ByteArray))=false:=by rw[aC];exact rH
        have Yx:((⟨m.toArray⟩:ByteArray) !=(⟨#[109,116,114]⟩:ByteArray))=true:=by rw[bne,GN];rfl
        have Yy:(ByteArray.toList (⟨m.toArray⟩:ByteArray)==[109,116,114])=false:=by rw[ByteArray.toList_eq];exact rH
        go_wp2
        go_ret;exact⟨af _ _ (by first|rfl|(simp only[*]<;>rfl)),bf⟩
       |true=>
        have GN:((⟨m.toArray⟩:ByteArray)==(⟨#[109,116,114]⟩:ByteArray))=true:=by rw[aC];exact rH
        have Yx:((⟨m.toArray⟩:ByteArray) !=(⟨#[109,116,114]⟩:ByteArray))=false:=by rw[bne,GN];rfl
        have Yy:(ByteArray.toList (⟨m.toArray⟩:ByteArray)==[109,116,114])=true:=by rw[ByteArray.toList_eq];exact rH
        go_wp2
        go_ret;exact⟨af _ _ (by first|rfl|(simp only[*]<;>rfl)),bf⟩
      |true=>
       have zl:((⟨m.toArray⟩:ByteArray)==(⟨#[109,116,100]⟩:ByteArray))=true:=by rw[aC];exact h12
       have MW:((⟨m.toArray⟩:ByteArray) !=(⟨#[109,116,100]⟩:ByteArray))=false:=by rw[bne,zl];rfl
       have Yw:(ByteArray.toList (⟨m.toArray⟩:ByteArray)==[109,116,100])=true:=by rw[ByteArray.toList_eq];exact h12
       go_wp2
       go_ret;exact⟨af _ _ (by first|rfl|(simp only[*]<;>rfl)),bf⟩
     |true=>
      have GM:((⟨m.toArray⟩:ByteArray)==(⟨#[109,114,111,119]⟩:ByteArray))=true:=by rw[aC];exact h11
      have Yu:((⟨m.toArray⟩:ByteArray) !=(⟨#[109,114,111,119]⟩:ByteArray))=false:=by rw[bne,GM];rfl
      have Yv:(ByteArray.toList (⟨m.toArray⟩:ByteArray)==[109,114,111,119])=true:=by rw[ByteArray.toList_eq];exact h11
      go_wp2
      go_ret;exact⟨af _ _ (by first|rfl|(simp only[*]<;>rfl)),bf⟩
    |true=>
     have GL:((⟨m.toArray⟩:ByteArray)==(⟨#[109,97,116,104]⟩:ByteArray))=true:=by rw[aC];exact h10
     have Yr:((⟨m.toArray⟩:ByteArray) !=(⟨#[109,97,116,104]⟩:ByteArray))=false:=by rw[bne,GL];rfl
     have Yt:(ByteArray.toList (⟨m.toArray⟩:ByteArray)==[109,97,116,104])=true:=by rw[ByteArray.toList_eq];exact h10
     go_wp2
     go_ret;exact⟨af _ _ (by first|rfl|(simp only[*]<;>rfl)),bf⟩
  |true=>
   have DX:((⟨n.toArray⟩:ByteArray)==(⟨#[109,114,111,119]⟩:ByteArray))=true:=by rw[aC];exact h2
   have UG:((⟨n.toArray⟩:ByteArray) !=(⟨#[109,114,111,119]⟩:ByteArray))=false:=by rw[bne,DX];rfl
   have h2l:(ByteArray.toList (⟨n.toArray⟩:ByteArray)==[109,114,111,119])=true:=by rw[ByteArray.toList_eq];exact h2
   cases yF:(m==([109,97,116,104]:List UInt8))with
   |false=>
    have GQ:((⟨m.toArray⟩:ByteArray)==(⟨#[109,97,116,104]⟩:ByteArray))=false:=by rw[aC];exact yF
    have Yz:((⟨m.toArray⟩:ByteArray) !=(⟨#[109,97,116,104]⟩:ByteArray))=true:=by rw[bne,GQ];rfl
    have YA:(ByteArray.toList (⟨m.toArray⟩:ByteArray)==[109,97,116,104])=false:=by rw[ByteArray.toList_eq];exact yF
    cases vI:(m==([109,114,111,119]:List UInt8))with
    |false=>
     have zm:((⟨m.toArray⟩:ByteArray)==(⟨#[109,114,111,119]⟩:ByteArray))=false:=by rw[aC];exact vI
     have MX:((⟨m.toArray⟩:ByteArray) !=(⟨#[109,114,111,119]⟩:ByteArray))=true:=by rw[bne,zm];rfl
     have YB:(ByteArray.toList (⟨m.toArray⟩:ByteArray)==[109,114,111,119])=false:=by rw[ByteArray.toList_eq];exact vI
     cases h16:(m==([109,116,100]:List UInt8))with
     |false=>
      have GR:((⟨m.toArray⟩:ByteArray)==(⟨#[109,116,100]⟩:ByteArray))=false:=by rw[aC];exact h16
      have YC:((⟨m.toArray⟩:ByteArray) !=(⟨#[109,116,100]⟩:ByteArray))=true:=by rw[bne,GR];rfl
      have YD:(ByteArray.toList (⟨m.toArray⟩:ByteArray)==[109,116,100])=false:=by rw[ByteArray.toList_eq];exact h16
      cases rY:(m==([109,116,114]:List UInt8))with
      |false=>
       have uX:((⟨m.toArray⟩:ByteArray)==(⟨#[109,116,114]⟩:ByteArray))=false:=by rw[aC];exact rY
       have GU:((⟨m.toArray⟩:ByteArray) !=(⟨#[109,116,114]⟩:ByteArray))=true:=by rw[bne,uX];rfl
       have YE:(ByteArray.toList (⟨m.toArray⟩:ByteArray)==[109,116,114])=false:=by rw[ByteArray.toList_eq];exact rY
       go_wp2
       go_ret;exact⟨af _ _ (by first|rfl|(simp only[*]<;>rfl)),bf⟩
      |true=>
       have uX:((⟨m.toArray⟩:ByteArray)==(⟨#[109,116,114]⟩:ByteArray))=true:=by rw[aC];exact rY
       have GU:((⟨m.toArray⟩:ByteArray) !=(⟨#[109,116,114]⟩:ByteArray))=false:=by rw[bne,uX];rfl
       have YE:(ByteArray.toList (⟨m.toArray⟩:ByteArray)==[109,116,114])=true:=by rw[ByteArray.toList_eq];exact rY
       go_wp2
       go_ret;exact⟨af _ _ (by first|rfl|(simp only[*]<;>rfl)),bf⟩
     |true=>
      have GR:((⟨m.toArray⟩:ByteArray)==(⟨#[109,116,100]⟩:ByteArray))=true:=by rw[aC];exact h16
      have YC:((⟨m.toArray⟩:ByteArray) !=(⟨#[109,116,100]⟩:ByteArray))=false:=by rw[bne,GR];rfl
      have YD:(ByteArray.toList (⟨m.toArray⟩:ByteArray)==[109,116,100])=true:=by rw[ByteArray.toList_eq];exact h16
      go_wp2
      go_ret;exact⟨af _ _ (by first|rfl|(simp only[*]<;>rfl)),bf⟩
    |true=>
     have zm:((⟨m.toArray⟩:ByteArray)==(⟨#[109,114,111,119]⟩:ByteArray))=true:=by rw[aC];exact vI
     have MX:((⟨m.toArray⟩:ByteArray) !=(⟨#[109,114,111,119]⟩:ByteArray))=false:=by rw[bne,zm];rfl
     have YB:(ByteArray.toList (⟨m.toArray⟩:ByteArray)==[109,114,111,119])=true:=by rw[ByteArray.toList_eq];exact vI
     go_wp2
     go_ret;exact⟨af _ _ (by first|rfl|(simp only[*]<;>rfl)),bf⟩
   |true=>
    have GQ:((⟨m.toArray⟩:ByteArray)==(⟨#[109,97,116,104]⟩:ByteArray))=true:=by rw[aC];exact yF
    have Yz:((⟨m.toArray⟩:ByteArray) !=(⟨#[109,97,116,104]⟩:ByteArray))=false:=by rw[bne,GQ];rfl
    have YA:(ByteArray.toList (⟨m.toArray⟩:ByteArray)==[109,97,116,104])=true:=by rw[ByteArray.toList_eq];exact yF
    go_wp2
    go_ret;exact⟨af _ _ (by first|rfl|(simp only[*]<;>rfl)),bf⟩
 |true=>
  have D8:((⟨n.toArray⟩:ByteArray)==(⟨#[109,97,116,104]⟩:ByteArray))=true:=by rw[aC];exact h1
  have Vb:((⟨n.toArray⟩:ByteArray) !=(⟨#[109,97,116,104]⟩:ByteArray))=false:=by rw[bne,D8];rfl
  have h1l:(ByteArray.toList (⟨n.toArray⟩:ByteArray)==[109,97,116,104])=true:=by rw[ByteArray.toList_eq];exact h1
  cases h18:(m==([109,97,116,104]:List UInt8))with
  |false=>
   have GV:((⟨m.toArray⟩:ByteArray)==(⟨#[109,97,116,104]⟩:ByteArray))=false:=by rw[aC];exact h18
   have YF:((⟨m.toArray⟩:ByteArray) !=(⟨#[109,97,116,104]⟩:ByteArray))=true:=by rw[bne,GV];rfl
   have YG:(ByteArray.toList (⟨m.toArray⟩:ByteArray)==[109,97,116,104])=false:=by rw[ByteArray.toList_eq];exact h18
   cases h19:(m==([109,114,111,119]:List UInt8))with
   |false=>
    have zn:((⟨m.toArray⟩:ByteArray)==(⟨#[109,114,111,119]⟩:ByteArray))=false:=by rw[aC];exact h19
    have MZ:((⟨m.toArray⟩:ByteArray) !=(⟨#[109,114,111,119]⟩:ByteArray))=true:=by rw[bne,zn];rfl
    have af4:(ByteArray.toList (⟨m.toArray⟩:ByteArray)==[109,114,111,119])=false:=by rw[ByteArray.toList_eq];exact h19
    cases h20:(m==([109,116,100]:List UInt8))with
    |false=>
     have ZT:((⟨m.toArray⟩:ByteArray)==(⟨#[109,116,100]⟩:ByteArray))=false:=by rw[aC];exact h20
     have af5:((⟨m.toArray⟩:ByteArray) !=(⟨#[109,116,100]⟩:ByteArray))=true:=by rw[bne,ZT];rfl
     have af6:(ByteArray.toList (⟨m.toArray⟩:ByteArray)==[109,116,100])=false:=by rw[ByteArray.toList_eq];exact h20
     cases h21:(m==([109,116,114]:List UInt8))with
     |false=>
      have G8:((⟨m.toArray⟩:ByteArray)==(⟨#[109,116,114]⟩:ByteArray))=false:=by rw[aC];exact h21
      have ZC:((⟨m.toArray⟩:ByteArray) !=(⟨#[109,116,114]⟩:ByteArray))=true:=by rw[bne,G8];rfl
      have af7:(ByteArray.toList (⟨m.toArray⟩:ByteArray)==[109,116,114])=false:=by rw[ByteArray.toList_eq];exact h21
      go_wp2
      go_ret;exact⟨af _ _ (by first|rfl|(simp only[*]<;>rfl)),bf⟩
     |true=>
      have G8:((⟨m.toArray⟩:ByteArray)==(⟨#[109,116,114]⟩:ByteArray))=true:=by rw[aC];exact h21
      have ZC:((⟨m.toArray⟩:ByteArray) !=(⟨#[109,116,114]⟩:ByteArray))=false:=by rw[bne,G8];rfl
      have af7:(ByteArray.toList (⟨m.toArray⟩:ByteArray)==[109,116,114])=true:=by rw[ByteArray.toList_eq];exact h21
      go_wp2
      go_ret;exact⟨af _ _ (by first|rfl|(simp only[*]<;>rfl)),bf⟩
    |true=>
     have ZT:((⟨m.toArray⟩:ByteArray)==(⟨#[109,116,100]⟩:ByteArray))=true:=by rw[aC];exact h20
     have af5:((⟨m.toArray⟩:ByteArray) !=(⟨#[109,116,100]⟩:ByteArray))=false:=by rw[bne,ZT];rfl
     have af6:(ByteArray.toList (⟨m.toArray⟩:ByteArray)==[109,116,100])=true:=by rw[ByteArray.toList_eq];exact h20
     go_wp2
     go_ret;exact⟨af _ _ (by first|rfl|(simp only[*]<;>rfl)),bf⟩
   |true=>
    have zn:((⟨m.toArray⟩:ByteArray)==(⟨#[109,114,111,119]⟩:ByteArray))=true:=by rw[aC];exact h19
    have MZ:((⟨m.toArray⟩:ByteArray) !=(⟨#[109,114,111,119]⟩:ByteArray))=false:=by rw[bne,zn];rfl
    have af4:(ByteArray.toList (⟨m.toArray⟩:ByteArray)==[109,114,111,119])=true:=by rw[ByteArray.toList_eq];exact h19
    go_wp2
    go_ret;exact⟨af _ _ (by first|rfl|(simp only[*]<;>rfl)),bf⟩
  |true=>
   have GV:((⟨m.toArray⟩:ByteArray)==(⟨#[109,97,116,104]⟩:ByteArray))=true:=by rw[aC];exact h18
   have YF:((⟨m.toArray⟩:ByteArray) !=(⟨#[109,97,116,104]⟩:ByteArray))=false:=by rw[bne,GV];rfl
   have YG:(ByteArray.toList (⟨m.toArray⟩:ByteArray)==[109,97,116,104])=true:=by rw[ByteArray.toList_eq];exact h18
   go_wp2
   go_ret;exact⟨af _ _ (by first|rfl|(simp only[*]<;>rfl)),bf⟩
end
end Go.Proofs.YtnbeemkfmlfgfaaGreatDoor
