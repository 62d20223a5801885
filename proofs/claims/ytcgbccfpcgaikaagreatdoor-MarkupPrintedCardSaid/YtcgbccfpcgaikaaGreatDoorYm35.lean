/- Part 35 of 46 of a proof. No condition. -/
import Derived.Test.YtcgbccfpcgaikaaGreatDoorYm34
set_option maxRecDepth 100000
set_option maxHeartbeats 400000
namespace Go.Proofs.YtcgbccfpcgaikaaGreatDoor
section
open Go.RowKit
def au(w w':World)(p B:Nat)(toks:List Lx.aB)(txt:List UInt8)(l:List Lx.Tok):Prop:=
 ∃R7 F9 cs',Pr w' p B R7 F9 cs' (adds l toks txt).1 (adds l toks txt).2∧Touch (PS p B w) w w'
theorem au.app{a b c:World}{p B:Nat}{toks:List Lx.aB}{txt:List UInt8}{l m:List Lx.Tok}(h:au a b p B toks txt l)(k:au b c p B (adds l toks txt).1 (adds l toks txt).2 m):au a c p B toks txt (l++m):=by
 obtain⟨_,_,_,_,ht⟩:=h;obtain⟨vt,vb,cs,hp,ht'⟩:=k;rw[←zo]at hp;exact⟨vt,vb,cs,hp,PS.trans ht ht'⟩
theorem add_one{w:World}{p B:Nat}{vt vb:Value}{cs:Array Value}{txt:List UInt8}{toks:List Lx.aB}(h:Pr w p B vt vb cs toks txt)(k:Nat)(t:List UInt8)(hB:B≤w.heap.size)(hl:txt.length≤2000000)(ht:t.length≤2000000)(hn:toks.length≤2000000):
  Calls Tryz.prog 96 #[.pointer (some ⟨p,0,none⟩),.int .i64 (k:Int),.string ⟨t.toArray⟩] w fun e w'=>e=.returned (.tuple #[])∧au w w' p B toks txt [⟨k,t⟩]:=
 ae8 h k t hB hl ht hn
theorem aaJ{w:World}{p B:Nat}{vt vb:Value}{cs:Array Value}{txt:List UInt8}{toks:List Lx.aB}(h:Pr w p B vt vb cs toks txt)(t:List UInt8)(hB:B≤w.heap.size)(hl:txt.length≤2000000)(ht:t.length≤2000000)(hn:toks.length≤2000000):
  Calls Tryz.prog 98 #[.pointer (some ⟨p,0,none⟩),.string ⟨t.toArray⟩] w fun e w'=>e=.returned (.tuple #[])∧au w w' p B toks txt [⟨7,t⟩]:=by
 have H:=hid (add_one h 7 t hB hl ht hn);clear h;go_enter Tryz.func98,Tryz.ntmps98;go_wp2_with fail
 refine H.out.mono ?_;rintro _ w1 ⟨rfl,h1⟩;have H1:=hid h1;clear h1;go_wp2_with fail
 go_end0
 exact⟨rfl,H1.out⟩
theorem au.bG{a b c:World}{p B:Nat}{toks:List Lx.aB}{txt:List UInt8}{l:List Lx.Tok}(hf:ag a b)(k:au b c p B toks txt l):au a c p B toks txt l:=by
 obtain⟨vt,vb,cs,hp,ht'⟩:=k;exact⟨vt,vb,cs,hp,PS.bG hf ht'⟩
theorem aaK{w:World}{p B:Nat}{vt vb:Value}{cs:Array Value}{txt:List UInt8}{toks:List Lx.aB}(h:Pr w p B vt vb cs toks txt)(x c:Value)(kd:Value)(t:List UInt8)(hB:B≤w.heap.size)(hl:txt.length≤2000000)(ht:t.length≤2000000)(hn:toks.length≤2000000):
  Calls Tryz.prog 56 #[.pointer (some ⟨p,0,none⟩),.agg #[kd,.string ⟨t.toArray⟩,c,x]] w fun e w'=>e=.returned (.tuple #[])∧au w w' p B toks txt [⟨2,t⟩]:=by
 have hf:∀o,ag w (w.alloc o):=fun o=>(M _ w).alloc o
 have H:=hid (fun o=>add_one (h.fresh (hf o)) 2 t (Nat.le_trans hB (hf o).size) hl ht hn);clear h;go_enter Tryz.func56,Tryz.ntmps56;go_wp2_with fail
 refine(H.out _).mono ?_;rintro _ w1 ⟨rfl,h1⟩;have H1:=hid (au.bG (hf _) h1);clear h1;go_wp2_with fail
 go_end0
 exact⟨rfl,H1.out⟩
theorem aaL{w:World}{p B:Nat}{vt vb:Value}{cs:Array Value}{txt:List UInt8}{toks:List Lx.aB}(h:Pr w p B vt vb cs toks txt)(x c:Value)(kd:Value)(t:List UInt8)(hB:B≤w.heap.size)(hl:txt.length≤2000000)(ht:t.length≤2000000)(hn:toks.length≤2000000):
  Calls Tryz.prog 57 #[.pointer (some ⟨p,0,none⟩),.agg #[kd,.string ⟨t.toArray⟩,c,x]] w fun e w'=>e=.returned (.tuple #[])∧au w w' p B toks txt [⟨3,t⟩]:=by
 have hf:∀o,ag w (w.alloc o):=fun o=>(M _ w).alloc o
 have H:=hid (fun o=>add_one (h.fresh (hf o)) 3 t (Nat.le_trans hB (hf o).size) hl ht hn);clear h;go_enter Tryz.func57,Tryz.ntmps57;go_wp2_with fail
 refine(H.out _).mono ?_;rintro _ w1 ⟨rfl,h1⟩;have H1:=hid (au.bG (hf _) h1);clear h1;go_wp2_with fail
 go_end0
 exact⟨rfl,H1.out⟩
theorem aaM{w:World}{p B:Nat}{vt vb:Value}{cs:Array Value}{txt:List UInt8}{toks:List Lx.aB}(h:Pr w p B vt vb cs toks txt)(x c:Value)(kd:Value)(t:List UInt8)(hB:B≤w.heap.size)(hl:txt.length≤2000000)(ht:t.length≤2000000)(hn:toks.length≤2000000):
  Calls Tryz.prog 55 #[.pointer (some ⟨p,0,none⟩),.agg #[kd,.string ⟨t.toArray⟩,c,x]] w fun e w'=>e=.returned (.tuple #[])∧au w w' p B toks txt [⟨if t.length=1 then 1 else 4,t⟩]:=by
 have hf:∀o,ag w (w.alloc o):=fun o=>(M _ w).alloc o
 have H:=hid (fun k o=>add_one (h.fresh (hf o)) k t (Nat.le_trans hB (hf o).size) hl ht hn);clear h;have hsz:(ByteArray.mk t.toArray).size=t.length:=by show t.toArray.size=_;simp
 by_cases h1:t.length=1
 ·have d1:((ByteArray.mk t.toArray).size:Int)=1:=by omega
  have HE:=hid (if_pos h1:(if t.length=1 then 1 else 4)=(1:Nat));rw[HE.out];clear h1;go_enter Tryz.func55,Tryz.ntmps55;go_wp2_with fail
  refine(H.out 1 _).mono ?_;rintro _ w1 ⟨rfl,h1⟩;have H1:=hid (au.bG (hf _) h1);clear h1;go_wp2_with fail
  go_end0
  exact⟨rfl,H1.out⟩
 ·have d1:(((ByteArray.mk t.toArray).size:Int)==1)=false:=by simp;omega
  have d2:¬((ByteArray.mk t.toArray).size:Int)=1:=by omega
  have HE:=hid (if_neg h1:(if t.length=1 then 1 else 4)=(4:Nat));rw[HE.out];clear h1;go_enter Tryz.func55,Tryz.ntmps55;go_wp2_with fail
  refine(H.out 4 _).mono ?_;rintro _ w1 ⟨rfl,h1⟩;have H1:=hid (au.bG (hf _) h1);clear h1;go_wp2_with fail
  go_end0
  exact⟨rfl,H1.out⟩
structure ay(W0:World)(p B:Nat)(w:World)(toks:List Lx.aB)(txt:List UInt8):Prop where
 low:Low W0 w
 hp:W0.heap.size≤p
 hB:B≤w.heap.size
 pr:∃vt vb cs,Pr w p B vt vb cs toks txt
theorem ay.lt{W0:World}{p B:Nat}{w:World}{toks:List Lx.aB}{txt:List UInt8}(h:ay W0 p B w toks txt):p<B:=by
 obtain⟨_,_,_,h⟩:=h.pr;exact h.lt
theorem PS.low{W0:World}{p B:Nat}{w w':World}(hl:Low W0 w)(hp:W0.heap.size≤p)(hB:p<B)(ht:Touch (PS p B w) w w'):Low W0 w':=
 hl.trans' ht fun k hk=>.inl (by
  rcases hk with rfl|⟨h,_⟩
  ·exact hp
  ·omega)
theorem ay.add{W0:World}{p B:Nat}{w w':World}{toks:List Lx.aB}{txt:List UInt8}{l:List Lx.Tok}(h:ay W0 p B w toks txt)(k:au w w' p B toks txt l):ay W0 p B w' (adds l toks txt).1 (adds l toks txt).2:=by
 obtain⟨vt,vb,cs,hp,ht⟩:=k;exact⟨PS.low h.low h.hp h.lt ht,h.hp,Nat.le_trans h.hB ht.size,vt,vb,cs,hp⟩
theorem ay.jS{W0:World}{p B:Nat}{w w':World}{toks:List Lx.aB}{txt:List UInt8}{l m:List Lx.Tok}(h:ay W0 p B w (adds l toks txt).1 (adds l toks txt).2)(k:au w w' p B (adds l toks txt).1 (adds l toks txt).2 m):ay W0 p B w' (adds (l++m) toks txt).1 (adds (l++m) toks txt).2:=by
 rw[zo];exact h.add k
theorem ay.fresh{W0:World}{p B:Nat}{w w':World}{toks:List Lx.aB}{txt:List UInt8}(h:ay W0 p B w toks txt)(hf:ag w w'):ay W0 p B w' toks txt:=by
 obtain⟨vt,vb,cs,hp⟩:=h.pr;exact⟨h.low.fresh hf,h.hp,Nat.le_trans h.hB hf.size,vt,vb,cs,hp.fresh hf⟩
def Fits(l:List Lx.Tok)(toks:List Lx.aB)(txt:List UInt8):Prop:=(adds l toks txt).1.length≤2000000∧(adds l toks txt).2.length≤2000000
theorem Iw:∀(l:List Lx.Tok) (toks:List Lx.aB) (txt:List UInt8),toks.length≤(adds l toks txt).1.length∧txt.length≤(adds l toks txt).2.length
 |[],_,_=>⟨Nat.le_refl _,Nat.le_refl _⟩
 |t::l,toks,txt=>by
  have:=Iw l (added toks txt t) (txt++gap toks t++Lx.spell t);simp only[adds,added,List.length_append,List.length_singleton]at this⊢;omega
theorem Fits.left{l m:List Lx.Tok}{toks:List Lx.aB}{txt:List UInt8}(h:Fits (l++m) toks txt):Fits l toks txt:=by
 unfold Fits at h⊢;rw[zo]at h;have:=Iw m (adds l toks txt).1 (adds l toks txt).2;omega
theorem Fits.right{l m:List Lx.Tok}{toks:List Lx.aB}{txt:List UInt8}(h:Fits (l++m) toks txt):Fits m (adds l toks txt).1 (adds l toks txt).2:=by
 unfold Fits at h⊢;rw[zo]at h;exact h
theorem Fits.ni{k l m:List Lx.Tok}{toks:List Lx.aB}{txt:List UInt8}(h:Fits (l++m) (adds k toks txt).1 (adds k toks txt).2):Fits m (adds (k++l) toks txt).1 (adds (k++l) toks txt).2:=by
 rw[zo];exact h.right
theorem Fits.start{l:List Lx.Tok}{toks:List Lx.aB}{txt:List UInt8}(h:Fits l toks txt):toks.length≤2000000∧txt.length≤2000000:=by
 unfold Fits at h;have:=Iw l toks txt;omega
theorem ac2(t:Lx.Tok):t.text.length≤(Lx.spell t).length:=Lx.VX _ _
theorem Fits.one{t:Lx.Tok}{toks:List Lx.aB}{txt:List UInt8}(h:Fits [t] toks txt):t.text.length≤2000000:=by
 unfold Fits at h;simp only[adds,List.length_append]at h;have:=ac2 t;omega
def lC(f:Nat)(args:Array Value)(W0:World)(p B:Nat)(l:List Lx.Tok):Prop:=
 ∀(w:World) (toks:List Lx.aB) (txt:List UInt8),ay W0 p B w toks txt→Fits l toks txt→Calls Tryz.prog f args w fun e w'=>e=.returned (.tuple #[])∧au w w' p B toks txt l
abbrev pp(p:Nat):Value:=.pointer (some ⟨p,0,none⟩)
theorem Cs(W0:World)(p B k:Nat)(t:List UInt8):lC 96 #[pp p,.int .i64 (k:Int),.string ⟨t.toArray⟩] W0 p B [⟨k,t⟩]:=by
 intro w toks txt h hf;obtain⟨vt,vb,cs,hp⟩:=h.pr;exact add_one hp k t h.hB hf.start.2 hf.one hf.start.1
theorem lu(W0:World)(p B:Nat)(t:List UInt8):lC 98 #[pp p,.string ⟨t.toArray⟩] W0 p B [⟨7,t⟩]:=by
 intro w toks txt h hf;obtain⟨vt,vb,cs,hp⟩:=h.pr;exact aaJ hp t h.hB hf.start.2 hf.one hf.start.1
theorem aaN(W0:World)(p B:Nat)(n:Tr.Nd)(sl:Value):lC 56 #[pp p,nv n sl] W0 p B [⟨2,n.text⟩]:=by
 intro w toks txt h hf;obtain⟨vt,vb,cs,hp⟩:=h.pr;exact aaK hp _ _ _ n.text h.hB hf.start.2 hf.one hf.start.1
theorem aaO(W0:World)(p B:Nat)(n:Tr.Nd)(sl:Value):lC 57 #[pp p,nv n sl] W0 p B [⟨3,n.text⟩]:=by
 intro w toks txt h hf;obtain⟨vt,vb,cs,hp⟩:=h.pr;exact aaL hp _ _ _ n.text h.hB hf.start.2 hf.one hf.start.1
theorem aaP(W0:World)(p B:Nat)(n:Tr.Nd)(sl:Value):lC 55 #[pp p,nv n sl] W0 p B [⟨if n.text.length=1 then 1 else 4,n.text⟩]:=by
 intro w toks txt h hf;obtain⟨vt,vb,cs,hp⟩:=h.pr;exact aaM hp _ _ _ n.text h.hB hf.start.2 hf.one hf.start.1
def xm(W0:World)(p B:Nat)(n:Tr.Nd):Prop:=∀sl,aD W0 n.kids sl→lC 17 #[pp p,nv n sl] W0 p B (Tr.bC n.kids)
def Ct(W0:World)(p B:Nat)(n:Tr.Nd):Prop:=∀sl,aD W0 n.kids sl→lC 100 #[pp p,nv n sl] W0 p B ([Tr.aI 123]++(Tr.bC n.kids++[Tr.aI 125]))
def qZ(W0:World)(p B:Nat)(n:Tr.Nd):Prop:=∀sl,aD W0 n.kids sl→lC 97 #[pp p,nv n sl] W0 p B (Tr.dD n)
end
section
open Tr (Nd View fE bT bC dD gG bF count az ku)
def cost:List Lx.Tok→Nat
 |[]=>0
 |t::l=>(Lx.spell t).length+1+cost l
theorem R9:∀(l:List Lx.Tok) (toks:List Lx.aB) (txt:List UInt8),(adds l toks txt).1.length=toks.length+l.length∧(adds l toks txt).2.length≤txt.length+cost l
 |[],_,_=>⟨rfl,Nat.le_refl _⟩
 |t::l,toks,txt=>by
  have h:=R9 l (added toks txt t) (txt++gap toks t++Lx.spell t);have hg:(gap toks t).length≤1:=by unfold gap;split<;>simp
  simp only[adds,added,List.length_append,List.length_nil,List.length_cons,cost]at h⊢;omega
theorem ae9(t:Lx.Tok)(h:Lx.kR t):t.text.length≤200:=by
 rcases h with⟨_,c,h,_⟩|⟨_,h,_⟩|⟨_,h,_⟩|⟨_,h,_⟩|⟨_,a,b,h,_⟩|⟨_,c,h,_⟩|⟨_,c,h,_⟩|⟨_,h⟩
 ·rw[h];simp
 ·omega
 ·exact h
 ·omega
 ·rw[h];simp
 ·rw[h];simp
 ·rw[h];simp
 ·rw[h];simp
theorem Nk:∀l:List Lx.Tok,ku l→cost l≤407*l.length
 |[],_=>Nat.le_refl _
 |t::l,h=>by
  have h1:=Nk l fun x hx=>h x (by simp[hx])
  have h2:=ae9 t (h t (by simp));have h3:=Dm t.kind t.text;have h4:(Lx.spell t).length≤2*t.text.length+6:=h3;simp only[cost,List.length_cons];omega
theorem zq(ks:List Nd)(h:∀x∈ks,(bT x).length≤3*count x):(bC ks).length≤3*az ks:=by
 induction ks with
 |nil=>rw[Tr.qU];simp
 |cons x ks ih=>
  rw[Tr.o5,List.length_append,az];have h1:=h x (by simp);have h2:=ih fun y hy=>h y (by simp[hy])
  omega
theorem tJ(a:Nd)(h:∀x∈a.kids,(bT x).length≤3*count x):(dD a).length≤3*count a-1:=by
 have hc:=Tr.aN a;have hr:=zq a.kids h;rw[Tr.y5];split
 ·rename_i x hx
  rw[hx]at h hc hr;have h1:=h x (by simp);simp only[az]at hc;split
  ·omega
  ·simp only[List.length_cons,List.length_append,List.length_nil,az]at hr⊢;omega
 ·simp only[List.length_cons,List.length_append,List.length_nil];omega
theorem Iy(a:Nd)(h:∀x∈a.kids,(bT x).length≤3*count x):(gG a).length≤3*count a-1:=by
 have hc:=Tr.aN a;have hr:=zq a.kids h;rw[Tr.wU];split
 ·rename_i x hx
  rw[hx]at h hc hr;have h1:=h x (by simp);simp only[az]at hc;split
  ·simp only[List.length_cons,List.length_append,List.length_nil,az]at hr⊢;omega
  ·omega
 ·simp only[List.length_cons,List.length_append,List.length_nil];omega
theorem Mv(c:Int):∀(ks:List Nd) (i:Nat),(∀k∈ks,∀x∈k.kids,(bT x).length≤3*count x)→(bF c i ks).length≤3*az ks
 |[],_,_=>by rw[bF];simp
 |k::ks,i,h=>by
  have h1:=Mv c ks (i+1) fun y hy=>h y (by simp[hy])
  have h2:=zq k.kids (h k (by simp));have h3:=Tr.aN k;rw[bF,List.length_append,List.length_append,az]
  have h4:(if i=0 then []else if(i:Int)%c=0 then [(⟨8,[92,92]⟩:Lx.Tok)]else [Tr.aI 38]).length≤1:=by
   split
   ·simp
   ·split<;>simp
  omega
theorem ac3(m:Nat):∀n,count n≤m→View n→(bT n).length≤3*count n:=by
 induction m with
 |zero=>intro n h;have:=Tr.bX n;omega
 |succ m ih=>
  intro n hc v
  have hk:∀(k:Int) (t:Tr.Bytes) (c:Int) (ks:List Nd),n=.mk k t c ks→∀a∈ks,fE a→∀x∈a.kids,(bT x).length≤3*count x:=fun k t c ks e a ha hr x hx=>by
   have h1:=Tr.cB hx;have h2:=Tr.aN a;have h3:=Tr.cB ha;rw[e,count]at hc;exact ih x (by omega) (hr.views x hx)
  cases v with
  |sym t h=>rw[Tr.rZ];simp[count];omega
  |num t h=>rw[Tr.r9];simp[count];omega
  |text t h=>rw[Tr.qA];simp[count];omega
  |Gn a b ha hb=>
   have h1:=tJ a (hk _ _ _ _ rfl a (by simp) ha);have h2:=tJ b (hk _ _ _ _ rfl b (by simp) hb);have h3:=Tr.bX a;have h4:=Tr.bX b;rw[Tr.vO];simp only[List.length_cons,List.length_append,count,az];omega
  |root a b ha hb=>
   have h1:=zq a.kids (hk _ _ _ _ rfl a (by simp) ha);have h2:=tJ b (hk _ _ _ _ rfl b (by simp) hb);have h3:=Tr.aN a;have h4:=Tr.bX b;rw[Tr.vP];simp only[List.length_cons,List.length_append,count,az];split
   ·simp only[List.length_nil];omega
   ·simp only[List.length_cons,List.length_append,List.length_nil];omega
  |sub a b ha hb=>
   have h1:=Iy a (hk _ _ _ _ rfl a (by simp) ha);have h2:=tJ b (hk _ _ _ _ rfl b (by simp) hb);have h3:=Tr.bX a;have h4:=Tr.bX b;rw[Tr.zQ];simp only[List.length_cons,List.length_append,count,az];omega
  |sup a b ha hb=>
   have h1:=Iy a (hk _ _ _ _ rfl a (by simp) ha);have h2:=tJ b (hk _ _ _ _ rfl b (by simp) hb);have h3:=Tr.bX a;have h4:=Tr.bX b;rw[Tr.zR];simp only[List.length_cons,List.length_append,count,az];omega
  |both a b d ha hb hd=>
   have h1:=Iy a (hk _ _ _ _ rfl a (by simp) ha);have h2:=tJ b (hk _ _ _ _ rfl b (by simp) hb);have h3:=tJ d (hk _ _ _ _ rfl d (by simp) hd);have h4:=Tr.bX a;have h5:=Tr.bX b;have h6:=Tr.bX d;rw[Tr.xR];simp only[List.length_cons,List.length_append,count,az];omega
  |zP t a h ha=>
   have h1:=tJ a (hk _ _ _ _ rfl a (by simp) ha);rw[Tr.rC];simp only[List.length_cons,count,az];omega
  |fence t a h ha=>
   have h1:=tJ a (hk _ _ _ _ rfl a (by simp) ha);have h2:=zq a.kids (hk _ _ _ _ rfl a (by simp) ha);have h3:=Tr.aN a;rw[Tr.uB];split
   ·simp only[List.length_cons,List.length_append,List.length_nil,count,az];omega
   ·simp only[List.length_cons,count,az];omega
  |matrix c ks hc1 hn hm h=>
   have h1:=Mv c ks 0 fun k hk'=>hk _ _ _ _ rfl k hk' (h k hk')
   rw[Tr.rD c ks (by rintro rfl;simp at hn)];simp only[List.length_cons,List.length_append,List.length_nil,count];omega
theorem Nl(a:Nd)(ha:fE a):(bC a.kids).length≤3*count a:=by
 have:=zq a.kids fun x hx=>ac3 _ x (Nat.le_refl _) (ha.views x hx)
 have:=Tr.aN a;omega
theorem ac4(a:Nd)(ha:fE a)(hc:count a≤1000):Fits (bC a.kids) [] []:=by
 have h1:=Nl a ha;have h2:=Nk _ (Tr.zS a ha);have h3:=R9 (bC a.kids) [] [];simp only[List.length_nil]at h3;unfold Fits;omega
end
section
open Go.RowKit
open Tr (Nd)
open Lx (aB)
def PT(g B:Nat)(w:World)(b:Nat):Prop:=b=g∨(B≤b∧∃cs fr,w.heap[b]?=some (.cells cs 3 fr))
abbrev Mp(g B:Nat)(w w':World):Prop:=Touch (PT g B w) w w'
theorem Mp.trans{g B:Nat}{a b c:World}(h:Mp g B a b)(k:Mp g B b c):Mp g B a c:=by
 refine⟨k.os.trans h.os,k.tape.trans h.tape,k.output.trans h.output,Nat.le_trans h.size k.size,fun i hi hn=>?_⟩;have h1:=h.block i hi hn;refine(k.block i (Nat.lt_of_lt_of_le hi h.size) fun hs=>hn ?_).trans h1
 rcases hs with hs|⟨h2,cs,fr,h3⟩
 ·exact .inl hs
 ·exact .inr ⟨h2,cs,fr,by rw[←h1];exact h3⟩
theorem Mp.fresh{g B:Nat}{a b:World}(h:ag a b):Mp g B a b:=h.mono fun _ h=>h.elim
theorem Mp.blk{g B:Nat}{a b:World}{k:Nat}{t:TypeId}{cs:Array Value}(h:Mp g B a b)(hb:af a k t cs)(hk:k≠g)(ht:t≠3):af b k t cs:=by
 refine Touch.blk h hb ?_;rintro(e|⟨_,cur,fr,h3⟩)
 ·exact hk e
 ·unfold af at hb
  rw[hb]at h3;cases h3;exact ht rfl
theorem Mp.put{g B:Nat}(w:World)(i:Nat)(v:Value):Mp g B w (w.setCell ⟨g,i,none⟩ v):=(M _ _).setCell (.inl (.inl rfl)) v
theorem Mp.grown{g B:Nat}{a b c:World}{n:Nat}{v:Value}{xs:List Value}(h:Mp g B a b)(ho:b.ownsRow B 3 1 v n xs)(hg:b.grownBy c v.ownBlock):Mp g B a c:=
 Mp.trans h (Touch.grown (S:=PT g B b) (M _ b) hg fun k hk=>.inl (by
  obtain⟨h1,cur,h2⟩:=fe ho hk;exact .inr ⟨h1,cur,_,h2⟩))
inductive aP(B:Nat)(W:World):List Nd→Value→Prop
 |nil (A:Option Addr) (cap:Nat):aP B W [] (.slice A 0 cap)
 |row (g cap:Nat) (ks:List Nd) (sl:Nat→Value) (hB:B≤g) (hg:∃cs fr,W.heap[g]?=some (.cells cs 24 fr)) (hl:ks.length≤maxLen)
   (ht:∀i (hi:i<ks.length),ks[i].text.length≤maxLen)
   (h0:∀i (hi:i<ks.length),W.cell? ⟨g,i*4,none⟩=some (.int .i64 ks[i].kind))
   (h1:∀i (hi:i<ks.length),W.cell? ⟨g,i*4+1,none⟩=some (.string ⟨ks[i].text.toArray⟩))
   (h2:∀i (hi:i<ks.length),W.cell? ⟨g,i*4+2,none⟩=some (.int .i64 ks[i].ah))
   (h3:∀i (_hi:i<ks.length),W.cell? ⟨g,i*4+3,none⟩=some (sl i))
   (hk:∀i (hi:i<ks.length),aP B W ks[i].kids (sl i)):aP B W ks (.slice (some ⟨g,0,none⟩) ks.length cap)
theorem aP.slice{B:Nat}{W:World}{ks:List Nd}{v:Value}(h:aP B W ks v):∃A cap,v=.slice A ks.length cap:=by
 cases h with
 |nil A cap=>exact⟨A,cap,rfl⟩
 |row g cap _ sl=>exact⟨_,_,rfl⟩
theorem aP.len{B:Nat}{W:World}{ks:List Nd}{v:Value}(h:aP B W ks v):ks.length≤maxLen:=by
 cases h with
 |nil A cap=>exact Nat.zero_le _
 |row g cap _ sl hB hg hl=>exact hl
theorem aP.mv{B:Nat}{W W':World}{S:Nat→Prop}{ks:List Nd}{v:Value}(h:aP B W ks v)(ht:Touch S W W')(hS:∀k cs fr,S k→B≤k→W.heap[k]?≠some (.cells cs 24 fr)):aP B W' ks v:=by
 induction h with
 |nil A cap=>exact .nil A cap
 |row g cap ks sl hB hg hl hx h0 h1 h2 h3 hk ih=>
  obtain⟨cs,fr,hg⟩:=hg;have hn:¬S g:=fun hs=>hS g cs fr hs hB hg
  exact .row g cap ks sl hB ⟨cs,fr,(ht.block g (Array.getElem?_eq_some_iff.1 hg).1 hn).trans hg⟩ hl hx (fun i hi=>ht.cell (h0 i hi) hn) (fun i hi=>ht.cell (h1 i hi) hn) (fun i hi=>ht.cell (h2 i hi) hn) (fun i hi=>ht.cell (h3 i hi) hn) ih
theorem aP.base{B B':Nat}{W:World}{ks:List Nd}{v:Value}(h:aP B W ks v)(hb:B'≤B):aP B' W ks v:=by
 induction h with
 |nil A cap=>exact .nil A cap
 |row g cap ks sl hB hg hl hx h0 h1 h2 h3 hk ih=>exact .row g cap ks sl (Nat.le_trans hb hB) hg hl hx h0 h1 h2 h3 ih
theorem aP.fresh{B:Nat}{W W':World}{ks:List Nd}{v:Value}(h:aP B W ks v)(hf:ag W W'):aP B W' ks v:=h.mv hf fun _ _ _ h _=>h.elim
theorem aP.rep{B:Nat}{W:World}{ks:List Nd}{v:Value}(h:aP B W ks v):aD W ks v:=by
 induction h with
 |nil A cap=>exact .nil A cap
 |row g cap ks sl hB hg hl hx h0 h1 h2 h3 hk ih=>
  obtain⟨cs,fr,hg⟩:=hg;exact aD.row g 0 cap ks sl (Array.getElem?_eq_some_iff.1 hg).1 hl hx (by simpa using h0) (by simpa using h1) (by simpa using h2) (by simpa using h3) ih
def jh(B:Nat)(W:World):List Nd→List Value→Prop
 |[],cs=>cs=[]
 |n::ks,cs=>∃sl ds,cs=.int .i64 n.kind::.string ⟨n.text.toArray⟩::.int .i64 n.ah::sl::ds∧(aP B W n.kids sl∧n.text.length≤maxLen)∧jh B W ks ds
theorem jh.length{B:Nat}{W:World}:∀{ks:List Nd} {cs:List Value},jh B W ks cs→cs.length=ks.length*4
 |[],_,h=>by rw[show _=[]from h];rfl
 |_::_,_,⟨_,_,h,_,hd⟩=>by subst h;simp[hd.length];omega
theorem jh.mv{B:Nat}{W W':World}{S:Nat→Prop}(ht:Touch S W W')(hS:∀k cs fr,S k→B≤k→W.heap[k]?≠some (.cells cs 24 fr)):∀{ks:List Nd} {cs:List Value},jh B W ks cs→jh B W' ks cs
 |[],_,h=>h
 |_::_,_,⟨sl,ds,h,h1,hd⟩=>⟨sl,ds,h,⟨h1.1.mv ht hS,h1.2⟩,hd.mv ht hS⟩
theorem jh.base{B B':Nat}{W:World}(hb:B'≤B):∀{ks:List Nd} {cs:List Value},jh B W ks cs→jh B' W ks cs
 |[],_,h=>h
 |_::_,_,⟨sl,ds,h,h1,hd⟩=>⟨sl,ds,h,⟨h1.1.base hb,h1.2⟩,hd.base hb⟩
theorem jh.fresh{B:Nat}{W W':World}(hf:ag W W'){ks:List Nd}{cs:List Value}(h:jh B W ks cs):jh B W' ks cs:=h.mv hf fun _ _ _ h _=>h.elim
theorem jh.append{B:Nat}{W:World}:∀{ks ms:List Nd} {cs ds:List Value},jh B W ks cs→jh B W ms ds→jh B W (ks++ms) (cs++ds)
 |[],_,_,_,h,hm=>by rw[show _=[]from h];exact hm
 |_::_,_,_,_,⟨sl,es,h,h1,hd⟩,hm=>by subst h;exact⟨sl,es++_,by simp,h1,hd.append hm⟩
theorem aP.oneCell{B:Nat}{W:World}{ks:List Nd}{v:Value}(h:aP B W ks v):v.oneCell'=true:=by
 obtain⟨A,c,rfl⟩:=h.slice;rfl
theorem jh.oneCell{B:Nat}{W:World}:∀{ks:List Nd} {cs:List Value},jh B W ks cs→∀u∈cs,u.oneCell'=true
 |[],_,h,u,hu=>by rw[show _=[]from h]at hu;cases hu
 |_::_,_,⟨sl,ds,h,h1,hd⟩,u,hu=>by
  subst h
  rcases List.mem_cons.1 hu with rfl|hu
  ·rfl
  ·rcases List.mem_cons.1 hu with rfl|hu
   ·rfl
   ·rcases List.mem_cons.1 hu with rfl|hu
    ·rfl
    ·rcases List.mem_cons.1 hu with rfl|hu
     ·exact h1.1.oneCell
     ·exact hd.oneCell u hu
theorem jh.get{B:Nat}{W:World}:∀{ks:List Nd} {cs:List Value},jh B W ks cs→∀i (hi:i<ks.length),∃sl,cs[i*4]?=some (.int .i64 ks[i].kind)∧cs[i*4+1]?=some (.string ⟨ks[i].text.toArray⟩)∧cs[i*4+2]?=some (.int .i64 ks[i].ah)∧cs[i*4+3]?=some sl∧
  aP B W ks[i].kids sl∧ks[i].text.length≤maxLen
 |[],_,_,i,hi=>by simp at hi
 |n::ks,_,⟨sl,ds,h,h1,hd⟩,i,hi=>by
  subst h;cases i with
  |zero=>exact⟨sl,rfl,rfl,rfl,rfl,h1.1,h1.2⟩
  |succ i=>
   obtain⟨sl',e0,e1,e2,e3,e4,e5⟩:=hd.get i (by simpa using hi)
   have hx:∀j,(.int .i64 n.kind::.string ⟨n.text.toArray⟩::.int .i64 n.ah::sl::ds:List Value)[(i+1)*4+j]?=ds[i*4+j]?:=fun j=>by
    rw[show(i+1)*4+j=(i*4+j)+4 by omega];rfl
   exact⟨sl',(hx 0).trans e0,(hx 1).trans e1,(hx 2).trans e2,(hx 3).trans e3,e4,e5⟩
theorem jh.own{B B':Nat}{W:World}{ks:List Nd}{cs:List Value}{v:Value}(h:jh B W ks cs)(hBB:B≤B')(ho:W.ownsRow B' 24 4 v ks.length cs):aP B W ks v:=by
 rcases ho.2 with⟨h1,h2⟩|⟨g,cap,cur,h1,hB',hg,h2,h3,_⟩
 ·rw[List.length_eq_zero_iff]at h2
  subst h2;rw[h1];exact .nil _ _
 ·have hc:∀j u,cs[j]?=some u→W.cell? ⟨g,j,none⟩=some u:=fun j u hu=>by
   have:=ho.cells (g:=g) (by rw[h1];rfl) j u hu
   rwa [Addr.add_mid,Nat.zero_add]at this
  have hsl:∀i,∃sl,∀(hi:i<ks.length),cs[i*4+3]?=some sl∧aP B W ks[i].kids sl:=fun i=>by
   by_cases hi:i<ks.length
   ·obtain⟨sl,_,_,_,e3,e4,_⟩:=h.get i hi
    exact⟨sl,fun _=>⟨e3,e4⟩⟩
   ·exact⟨.bool false,fun h=>absurd h hi⟩
  rw[h1];refine .row g cap ks (fun i=>Classical.choose (hsl i)) (Nat.le_trans hBB hB') ⟨_,_,hg⟩ (Nat.le_trans h2 h3) (fun i hi=>(h.get i hi).elim fun _ e=>e.2.2.2.2.2) (fun i hi=>?_) (fun i hi=>?_) (fun i hi=>?_) (fun i hi=>hc _ _ (Classical.choose_spec (hsl i) hi).1) (fun i hi=>(Classical.choose_spec (hsl i) hi).2)
  ·obtain⟨_,e0,_⟩:=h.get i hi;exact hc _ _ e0
  ·obtain⟨_,_,e1,_⟩:=h.get i hi;exact hc _ _ e1
  ·obtain⟨_,_,_,e2,_⟩:=h.get i hi;exact hc _ _ e2
theorem aP.src{B:Nat}{W:World}{ks:List Nd}{v:Value}(h:aP B W ks v):∃cs,jh B W ks cs∧Src W 4 v ks.length cs:=by
 cases h with
 |nil A cap=>
  refine⟨[],rfl,A,cap,rfl,rfl,?_⟩;cases A with
  |none=>exact .inl ⟨rfl,rfl,rfl⟩
  |some a=>exact .inr ⟨a,rfl,fun j u hu=>by simp at hu⟩
 |row g cap _ sl hB hg hl hx h0 h1 h2 h3 hk=>
  have:∀(l:List Nd) (o:Nat),(∀i (hi:i<l.length),∃hq:o+i<ks.length,l[i]=ks[o+i])→∃cs,jh B W l cs∧∀j u,cs[j]?=some u→W.cell? ⟨g,o*4+j,none⟩=some u:=by
   intro l
   induction l with
   |nil=>intro o _;exact⟨[],rfl,fun j u hu=>by simp at hu⟩
   |cons n l ih=>
    intro o hl
    obtain⟨ds,d1,d2⟩:=ih (o+1) fun i hi=>by
     obtain⟨hq,e⟩:=hl (i+1) (by simpa using hi);refine⟨by omega,?_⟩;have e':l[i]=ks[o+(i+1)]:=by simpa using e
     rw[e']
     congr 1
     omega
    obtain⟨hq,e⟩:=hl 0 (by simp);simp only[List.getElem_cons_zero,Nat.add_zero]at e hq;refine⟨.int .i64 n.kind::.string ⟨n.text.toArray⟩::.int .i64 n.ah::sl o::ds,⟨sl o,ds,rfl,⟨by rw[e];exact hk o hq,by rw[e];exact hx o hq⟩,d1⟩,fun j u hu=>?_⟩
    match j,hu with
    |0,hu=>cases hu;rw[e];exact h0 o hq
    |1,hu=>cases hu;rw[e];exact h1 o hq
    |2,hu=>cases hu;rw[e];exact h2 o hq
    |3,hu=>cases hu;exact h3 o hq
    |j+4,hu=>
     have:=d2 j u hu;rw[show o*4+(j+4)=(o+1)*4+j by omega];exact this
  obtain⟨cs,d1,d2⟩:=this ks 0 fun i hi=>⟨by simpa using hi,by simp⟩
  refine⟨cs,d1,_,cap,rfl,d1.length,.inr ⟨_,rfl,fun j u hu=>?_⟩⟩;rw[Addr.add_mid,Nat.zero_add];simpa using d2 j u hu
end
section
open Go.RowKit
open Tr (Nd)
open Lx (aB)
attribute [local go_sem] gD stillUpon
theorem aP.one{B:Nat}{W:World}{g cap:Nat}{n:Nd}{sl:Value}(hB:B≤g)(hg:∃cs fr,W.heap[g]?=some (.cells cs 24 fr))(h0:W.cell? ⟨g,0,none⟩=some (.int .i64 n.kind))(h1:W.cell? ⟨g,1,none⟩=some (.string ⟨n.text.toArray⟩))
  (h2:W.cell? ⟨g,2,none⟩=some (.int .i64 n.ah)) (h3:W.cell? ⟨g,3,none⟩=some sl) (hk:aP B W n.kids sl) (ht:n.text.length≤maxLen):aP B W [n] (.slice (some ⟨g,0,none⟩) 1 cap):=
 aP.row g cap [n] (fun _=>sl) hB hg (by simp[maxLen]) (fun i hi=>match i,hi with|0,_=>ht) (fun i hi=>match i,hi with|0,_=>h0) (fun i hi=>match i,hi with|0,_=>h1) (fun i hi=>match i,hi with|0,_=>h2) (fun i hi=>match i,hi with|0,_=>h3) (fun i hi=>match i,hi with|0,_=>hk)
structure Cf where
 g:Nat
 W0:World
 tv:Value
 mv:Value
 en:Nat
 T:List aB
def lV(c:Cf):Value:=.pointer (some ⟨c.g,0,none⟩)
structure Cf.Good(c:Cf):Prop where
 tok:BH c.W0 c.tv c.T
 Ap:c.g<c.W0.heap.size
 far:∀gt o n cap,c.tv=.slice (some ⟨gt,o,none⟩) n cap→gt≠c.g
 tl:c.T.length≤100000
 enl:c.en≤140737488355328
 txt:∀t∈c.T,t.text.length≤maxLen
 knz:∀t∈c.T,t.kind≠0
 par:∀t∈c.T,t.kind=6→∃b:UInt8,t.text=[b]∧49≤b∧b≤57
structure Ps(c:Cf)(k:Nat)(op:List Nat)(w:World):Prop where
 low:Touch (fun b=>b=c.g) c.W0 w
 box:∃ov,af w c.g 86 #[c.tv,.int .i64 (k:Int),.int .i64 (c.en:Int),ov,.pointer none,.int .i64 0,c.mv,.int .i64 0,.bool false]∧w.ownsRow c.W0.heap.size 3 1 ov op.length (EO (up op))
 le:k≤c.T.length
theorem Ps.fresh{c:Cf}{k:Nat}{op:List Nat}{w w':World}(h:Ps c k op w)(hf:ag w w'):Ps c k op w':=by
 obtain⟨ov,hb,ho⟩:=h.box;exact⟨h.low.trans (hf.mono fun _ h=>h.elim),⟨ov,hf.blk hb (fun h=>h),aQ ho hf (fun _ _ h=>h)⟩,h.le⟩
theorem Ps.Ap{c:Cf}{k:Nat}{op:List Nat}{w:World}(h:Ps c k op w):c.g<w.heap.size:=by
 obtain⟨ov,hb,_⟩:=h.box;exact hb.lt
def yK(en:Nat):List aB→Value
 |[]=>.agg #[.int .i64 0,.string ⟨#[]⟩,.int .i64 (en:Int),.int .i64 (en:Int)]
 |t::_=>.agg #[.int .i64 t.kind,.string ⟨t.text.toArray⟩,.int .i64 (t.from_:Int),.int .i64 (t.eF:Int)]
theorem qO(c:Cf)(hc:c.Good)(k:Nat)(op:List Nat)(w:World)(h:Ps c k op w):
  Calls Tryz.prog 70 #[lV c] w fun e w'=>e=.returned (yK c.en (c.T.drop k))∧ag w w':=by
 obtain⟨ov,hb,ho⟩:=h.box;obtain⟨At,ct,VI,htk⟩:=hc.tok;have hlow:=h.low;have hgl:=hc.Ap;have htl:=hc.tl;have hle:=h.le;have ac5:=hc.far;clear h hc;obtain⟨g,W0,tv,mv,en,T⟩:=c;unfold lV;simp only at*;subst VI;have nK:=hid htk;have Yd:=hid hlow;have hgw:=hb.lt;have q0:=hb.cell 0;have q1:=hb.cell 1;have q2:=hb.cell 2;have hk4:k≤100000:=by omega
 clear htk hb ho hlow
 by_cases c1:k<T.length
 ·have d1:decide ((k:Int)<(T.length:Int))=true:=by simp;omega
  have jo:decide (k<T.length)=true:=by simp;omega
  have d1':(k:Int)<(T.length:Int):=by omega
  obtain⟨gt,o,hA,hgt,h0,h1,h2,h3⟩:=nK.out k c1;cases hA;have HE:=hid (show yK en (T.drop k)=.agg #[.int .i64 T[k].kind,.string ⟨T[k].text.toArray⟩,.int .i64 (T[k].from_:Int),.int .i64 (T[k].eF:Int)]from by rw[List.drop_eq_getElem_cons c1];rfl);generalize T[k]=t at h0 h1 h2 h3 HE;have hne:gt≠g:=ac5 gt o _ _ rfl;have a0:=Yd.out.cell h0 (by exact hne);have a1:=Yd.out.cell h1 (by exact hne);have a2:=Yd.out.cell h2 (by exact hne);have a3:=Yd.out.cell h3 (by exact hne);have aje:gt<w.heap.size:=bL a0;clear h0 h1 h2 h3;clear ac5;go_enter Tryz.func70,Tryz.ntmps70;go_wp2
  go_quiet (fail)
  go_wp2_with fail
  have hf1:ag w ((w.alloc (.cells #[.int .i64 0,.string ⟨#[]⟩,.int .i64 0,.int .i64 0] 115)).drewN nq):=((M _ _).alloc _).drewN _;have hb1:af ((w.alloc (.cells #[.int .i64 0,.string ⟨#[]⟩,.int .i64 0,.int .i64 0] 115)).drewN nq) w.heap.size 115 #[.int .i64 0,.string ⟨#[]⟩,.int .i64 0,.int .i64 0]:=(af.new _ _ _).drewN _;generalize ((w.alloc (.cells #[.int .i64 0,.string ⟨#[]⟩,.int .i64 0,.int .i64 0] 115)).drewN nq)=W1 at hf1 hb1⊢;have r0:=cR (hf1.cell (q0.trans rfl) (fun h=>h));have r1:=cR (hf1.cell (q1.trans rfl) (fun h=>h));have s0:=cR (hf1.cell a0 (fun h=>h));have s1:=cR (hf1.cell a1 (fun h=>h));have s2:=cR (hf1.cell a2 (fun h=>h));have s3:=cR (hf1.cell a3 (fun h=>h));have hlt1:=hb1.lt;have hgt1:gt<W1.heap.size:=Nat.lt_of_lt_of_le aje hf1.size;have ajf:g<W1.heap.size:=Nat.lt_of_lt_of_le hgw hf1.size;have aK:=hid hf1;have HB1:=hid hb1;clear q0 q1 q2 a0 a1 a2 a3 hf1 hb1;refine cu [([(0,true),(1,true),(2,true),(3,true),(4,true),(5,true),(6,true),(7,true),(8,true),(9,true)],10)] [] (by kernel_rfl) (fun _ _ d _ _ h=>by cases d<;>exact h) (by kernel_rfl) ?_;refine dJ ?_
  repeat(refine ak rfl (fun K hK=>?_);go_simp;refine hK _ ?_;clear hK K)
  have hb2:=HB1.out.drewN 1;obtain⟨p0,p1,p2,p3,z0,z1,z2,z3,_⟩:=af.four hb2;refine dm rfl (fun K hK=>?_);go_wp2_with fail
  refine fH ?_;go_wp2
  refine bodyPost_ret (v:=.agg #[.int .i64 t.kind,.string ⟨t.text.toArray⟩,.int .i64 (t.from_:Int),.int .i64 (t.eF:Int)]) (by simp[results,Tryz.results70,go_sem,p0,p1,p2,p3]) rfl ?_;exact⟨by rw[HE.out],Touch.aO (aK.out.drewN 1) (.inr (Nat.le_refl _)) _ _ _ _⟩
 ·have d1:decide ((k:Int)<(T.length:Int))=false:=by simp;omega
  have jo:decide (k<T.length)=false:=by simp;omega
  have HE:=hid (show yK en (T.drop k)=.agg #[.int .i64 0,.string ⟨#[]⟩,.int .i64 (en:Int),.int .i64 (en:Int)]from by rw[List.drop_eq_nil_of_le (by omega)];rfl);clear ac5;go_enter Tryz.func70,Tryz.ntmps70;go_wp2
  go_quiet (fail)
  go_wp2_with fail
  have hf1:ag w ((w.alloc (.cells #[.int .i64 0,.string ⟨#[]⟩,.int .i64 0,.int .i64 0] 115)).drewN nq):=((M _ _).alloc _).drewN _;have hb1:af ((w.alloc (.cells #[.int .i64 0,.string ⟨#[]⟩,.int .i64 0,.int .i64 0] 115)).drewN nq) w.heap.size 115 #[.int .i64 0,.string ⟨#[]⟩,.int .i64 0,.int .i64 0]:=(af.new _ _ _).drewN _;generalize ((w.alloc (.cells #[.int .i64 0,.string ⟨#[]⟩,.int .i64 0,.int .i64 0] 115)).drewN nq)=W1 at hf1 hb1⊢;have r2:=cR (hf1.cell (q2.trans rfl) (fun h=>h));have hlt1:=hb1.lt;have ajf:g<W1.heap.size:=Nat.lt_of_lt_of_le hgw hf1.size;have aK:=hid hf1;have HB1:=hid hb1;clear q0 q1 q2 hf1 hb1;refine cu [([(0,true),(1,true),(2,true),(3,true),(4,true),(5,true),(6,true),(7,true),(8,true)],9)] [] (by kernel_rfl) (fun _ _ d _ _ h=>by cases d<;>exact h) (by kernel_rfl) ?_;refine dJ ?_
  repeat(refine ak rfl (fun K hK=>?_);go_simp;refine hK _ ?_;clear hK K)
  have hb2:=HB1.out.drewN 1;obtain⟨p0,p1,p2,p3,z0,z1,z2,z3,_⟩:=af.four hb2;refine dm rfl (fun K hK=>?_);go_wp2_with fail
  refine fH ?_;go_wp2
  refine bodyPost_ret (v:=.agg #[.int .i64 0,.string ⟨#[]⟩,.int .i64 (en:Int),.int .i64 (en:Int)]) (by simp[results,Tryz.results70,go_sem,p0,p1,p2,p3]) rfl ?_;exact⟨by rw[HE.out],Touch.aO (aK.out.drewN 1) (.inr (Nat.le_refl _)) _ _ _ _⟩
theorem vE(c:Cf)(hc:c.Good)(k:Nat)(op:List Nat)(b:UInt8)(w:World)(h:Ps c k op w):
  Calls Tryz.prog 71 #[lV c,.string ⟨#[b]⟩] w fun e w'=>e=.returned (.bool (Np.dx b (c.T.drop k)))∧ag w w':=by
 have HT:=hid (qO c hc k op w h);clear hc h;generalize c.T.drop k=l at HT⊢;go_enter Tryz.func71,Tryz.ntmps71;go_wp2_with fail
 refine HT.out.mono ?_;rintro _ w1 ⟨rfl,hf⟩;have HF:=hid hf;clear hf;cases l with
 |nil=>
  unfold yK;go_wp2
  go_ret;exact⟨rfl,HF.out.alloc _⟩
 |cons t r=>
  unfold yK;have HI:=hid (show Np.dx b (t::r)=((t.kind==7)&&(t.text==[b]))from rfl);have hs:((⟨t.text.toArray⟩:ByteArray)==(⟨#[b]⟩:ByteArray))=(t.text==[b]):=by rw[bS]
  cases hk:(t.kind==7)with
  |false=>
   have hkI:((t.kind:Int)==(7:Int))=false:=by
    have:t.kind≠7:=by simpa using hk
    rw[beq_eq_false_iff_ne];omega
   go_wp2
   go_ret;exact⟨by rw[HI.out,hk];rfl,HF.out.alloc _⟩
  |true=>
   have hkI:((t.kind:Int)==(7:Int))=true:=by
    have:t.kind=7:=by simpa using hk
    rw[this];rfl
   go_wp2
   go_ret;exact⟨by rw[HI.out,hk];rfl,HF.out.alloc _⟩
def aG(i e:Nat):Value:=.agg #[.int .i64 (i:Int),.int .i64 (e:Int)]
theorem Ye(a b c d:Value)(w:World):(Instr.field 115 (.agg #[a,b,c,d]) 0).run Tryz.prog w=.ok a w:=by
 simp[Instr.field,run_underlying Tryz.underlying115,part,isAgg,asAgg,run_underlying Tryz.underlying3]
theorem Yf(a b c d:Value)(w:World):(Instr.field 115 (.agg #[a,b,c,d]) 1).run Tryz.prog w=.ok b w:=by
 simp[Instr.field,run_underlying Tryz.underlying115,part,isAgg,asAgg,run_underlying Tryz.underlying9]
theorem FB(a b c d:Value)(w:World):(Instr.field 115 (.agg #[a,b,c,d]) 2).run Tryz.prog w=.ok c w:=by
 simp[Instr.field,run_underlying Tryz.underlying115,part,isAgg,asAgg,run_underlying Tryz.underlying3]
theorem af.two{w:World}{g:Nat}{t:TypeId}{x0 x1:Value}(h:af w g t #[x0,x1]):
  w.cell? ⟨g,0,none⟩=some x0∧w.cell? ⟨g,1,none⟩=some x1∧w.frozen? ⟨g,0,none⟩=false∧w.frozen? ⟨g,1,none⟩=false∧g<w.heap.size:=⟨h.cell 0,h.cell 1,h.frozen 0,h.frozen 1,h.lt⟩
theorem OP(en:Nat)(l:List aB):∃(r0 r1 r3:Value) (r2:Nat),yK en l=.agg #[r0,r1,.int .i64 (r2:Int),r3]∧r2=Np.place en l:=by
 cases l with
 |nil=>exact⟨_,_,_,_,rfl,rfl⟩
 |cons t r=>exact⟨_,_,_,_,rfl,rfl⟩
theorem Cu(c:Cf)(hc:c.Good)(k:Nat)(op:List Nat)(w:World)(h:Ps c k op w):
  Calls Tryz.prog 33 #[lV c] w fun e w'=>e=.returned (aG (Np.place c.en (c.T.drop k)) 3)∧ag w w':=by
 have HT:=hid (fun(w':World) (hf:ag w w')=>qO c hc k op w' (h.fresh hf));clear hc h;generalize c.T.drop k=l at HT⊢;obtain⟨r0,r1,r3,r2,hr,hp⟩:=OP c.en l;rw[←hp];rw[hr]at HT;have hfd:=FB;clear hr hp;go_enter Tryz.func33,Tryz.ntmps33;go_wp2_with fail
 refine(HT.out _ ((M _ _).alloc _)).mono ?_;rintro _ w1 ⟨rfl,hf⟩;have HF:=hid (show ag w w1 from Touch.pre hf);obtain⟨p0,p1,z0,z1,hlt⟩:=af.two (hf.blk (af.new w 49 #[.int .i64 0,.int .i64 0]) (fun h=>h));clear hf;go_wp2_with fail
 (try simp only[Exit.inBlock,Exit.then])
 refine bodyPost_ret (v:=aG r2 3) (by simp[aG,results,Tryz.results33,go_sem,p0,p1]) rfl ?_;exact⟨rfl,(HF.out.setCell (p:=⟨w.heap.size,0,none⟩) (.inr (Nat.le_refl _)) _).setCell (p:=⟨w.heap.size,1,none⟩) (.inr (Nat.le_refl _)) _⟩
theorem j6(A:Option Addr)(n cap:Nat)(w:World):
  Calls Tryz.prog 34 #[.slice A n cap] w fun e w'=>e=.returned (.agg #[.int .i64 1,.string ⟨#[]⟩,.int .i64 0,.slice A n cap])∧ag w w':=by
 go_enter Tryz.func34,Tryz.ntmps34;go_wp2_with fail
 (try simp only[Exit.inBlock,Exit.then])
 obtain⟨p0,p1,p2,p3,_⟩:=af.four (af.new w 24 #[.int .i64 1,.string ⟨#[]⟩,.int .i64 0,.slice A n cap]);refine bodyPost_ret (v:=.agg #[.int .i64 1,.string ⟨#[]⟩,.int .i64 0,.slice A n cap]) (by simp[results,Tryz.results34,go_sem,p0,p1,p2,p3]) rfl ?_;exact⟨rfl,(M _ _).alloc _⟩
theorem Ps.next{c:Cf}{k:Nat}{op:List Nat}{w:World}(h:Ps c k op w)(hk:k<c.T.length)(x:Int)(hx:x=((k+1:Nat):Int)):Ps c (k+1) op (w.setCell ⟨c.g,1,none⟩ (.int .i64 x))∧Mp c.g c.W0.heap.size w (w.setCell ⟨c.g,1,none⟩ (.int .i64 x)):=by
 obtain⟨ov,hb,ho⟩:=h.box
 have hne:∀b,ov.ownBlock=some b→b≠c.g:=fun b hb'=>by
  obtain⟨h1,cur,h2⟩:=fe ho hb';intro e;subst e;unfold af at hb;rw[hb]at h2;cases h2
 refine⟨⟨h.low.setCell (p:=⟨c.g,1,none⟩) (.inl rfl) _,⟨ov,?_,aQ ho ((M (fun b=>b=c.g) w).setCell (p:=⟨c.g,1,none⟩) (.inl rfl) _) hne⟩,hk⟩,Mp.put w 1 _⟩;have:=hb.put 1 (.int .i64 x);rw[hx]at this⊢;exact this
theorem Iz(c:Cf)(hc:c.Good)(k:Nat)(op:List Nat)(kd:Int)(tx:List UInt8)(w:World)(h:Ps c k op w)(hk:k<c.T.length)(htx:tx.length≤maxLen):
  Calls Tryz.prog 155 #[lV c,.int .i64 kd,.string ⟨tx.toArray⟩] w fun e w'=>∃b,e=.returned (.tuple #[.slice (some ⟨b,0,none⟩) 1 1,aG 0 0])∧aP w.heap.size w' [.mk kd tx 0 []] (.slice (some ⟨b,0,none⟩) 1 1)∧Ps c (k+1) op w'∧Mp c.g c.W0.heap.size w w':=by
 have htl:=hc.tl;have hk4:k≤100000:=by omega
 obtain⟨ov,hb,ho⟩:=h.box;have hgw:=hb.lt;have q1:=hb.cell 1;have z1:=hb.frozen 1;have H:=hid h;clear hc hb ho h;unfold lV;have e1:((k:Int)+1)=((k+1:Nat):Int):=by simp
 have HE:=hid e1;clear e1;go_enter Tryz.func155,Tryz.ntmps155;go_wp2_with fail
 have hn:=H.out.next hk ((k:Int)+1) HE.out;have hs:(w.setCell ⟨c.g,1,none⟩ (.int .i64 ((k:Int)+1))).heap.size=w.heap.size:=by simp
 generalize (w.setCell ⟨c.g,1,none⟩ (.int .i64 ((k:Int)+1)))=W1 at hn hs⊢;rw[←hs]
 (try simp only[Exit.inBlock,Exit.then])
 have hbf:af ((W1.alloc (.cells #[.int .i64 0,.int .i64 0] 49)).alloc (.cells #[.int .i64 kd,.string ⟨tx.toArray⟩,.int .i64 0,.slice none 0 0] 24)) W1.heap.size 49 #[.int .i64 0,.int .i64 0]:=(af.new _ _ _).alloc _;have hbn:af ((W1.alloc (.cells #[.int .i64 0,.int .i64 0] 49)).alloc (.cells #[.int .i64 kd,.string ⟨tx.toArray⟩,.int .i64 0,.slice none 0 0] 24)) (W1.heap.size+1) 24 #[.int .i64 kd,.string ⟨tx.toArray⟩,.int .i64 0,.slice none 0 0]:=af.new2 _ _ _ _;have hf2:ag W1 ((W1.alloc (.cells #[.int .i64 0,.int .i64 0] 49)).alloc (.cells #[.int .i64 kd,.string ⟨tx.toArray⟩,.int .i64 0,.slice none 0 0] 24)):=((M _ _).alloc _).alloc _;generalize ((W1.alloc (.cells #[.int .i64 0,.int .i64 0] 49)).alloc (.cells #[.int .i64 kd,.string ⟨tx.toArray⟩,.int .i64 0,.slice none 0 0] 24))=W2 at hbf hbn hf2⊢;obtain⟨p0,p1,_⟩:=af.two hbf;refine bodyPost_ret (v:=.tuple #[.slice (some ⟨W1.heap.size+1,0,none⟩) 1 1,aG 0 0]) (by simp[aG,results,Tryz.results155,go_sem,p0,p1]) rfl ?_;refine⟨_,rfl,?_,hn.1.fresh hf2,hn.2.trans (Mp.fresh hf2)⟩;obtain⟨n0,n1,n2,n3,_⟩:=af.four hbn;exact aP.one (by omega) ⟨_,_,hbn⟩ n0 n1 n2 n3 (.nil _ _) htx
end
end Go.Proofs.YtcgbccfpcgaikaaGreatDoor
