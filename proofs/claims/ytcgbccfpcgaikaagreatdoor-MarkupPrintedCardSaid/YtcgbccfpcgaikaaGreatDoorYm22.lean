/- Part 22 of 46 of a proof. No condition. -/
import Derived.Test.YtcgbccfpcgaikaaGreatDoorYm21
set_option maxRecDepth 100000
namespace Go.Proofs.YtcgbccfpcgaikaaGreatDoor
namespace Xp
open U (E aJ Bytes letter inner aU iH dV AV dw fB gF jH fu jY qF proper uE count az depth aX)
theorem uS(p:UInt8→Bool)(h:∀n:Fin 256,p (UInt8.ofNat n.1)=true)(b:UInt8):p b=true:=by
 have:=h ⟨b.toNat,b.toNat_lt⟩;simpa using this
theorem GY{b:UInt8}(h:letter b=true):inner b=true:=by
 have:=uS (fun b=>!letter b||inner b) (by decide+kernel) b;rw[h]at this;simpa using this
theorem Ho{b:UInt8}(h:letter b=true):white b=false∧b≠47∧b≠62∧b≠60∧b≠34∧b≠61:=by
 have:=uS (fun b=>!letter b||(!white b&&b !=47&&b !=62&&b !=60&&b !=34&&b !=61)) (by decide+kernel) b;rw[h]at this;simpa[and_assoc]using this
theorem JP{b:UInt8}(h:aU b=true)(h2:white b=true):b=32:=by
 have:=uS (fun b=>!(aU b&&white b)||b==32) (by decide+kernel) b;rw[h,h2]at this;simpa using this
theorem sZ{p:UInt8→Bool}{q:Bytes}{b:UInt8}{l:Bytes}(h:q.all p=true)(h2:p b=false):(q++b::l).takeWhile p=q∧(q++b::l).dropWhile p=b::l:=by
 obtain⟨h4,h5⟩:=Kq q (b::l) h;obtain⟨h6,h7⟩:=Db l h2;rw[h4,h5,h6,h7,List.append_nil];exact⟨rfl,rfl⟩
theorem xH(b:UInt8)(c:Nat)(l:Bytes):bB b c (b::l)=.ok () l c:=if_pos rfl
theorem acn(n c:Nat)(b:UInt8)(r:Bytes)(hn:n<200)(hp:aU b=true):jk n c (iH b++r)=.ok b r c:=by
 have hno:∀x:UInt8,x≠60→aU x=true→¬(200≤n∨x=60∨aU x=false):=fun x h1 h2 h=>by
  rcases h with h|h|h
  ·omega
  ·exact h1 h
  ·rw[h2]at h;cases h
 unfold iH
 by_cases h1:b=38
 ·subst h1
  rw[if_pos rfl];show(if 200≤n∨(38:UInt8)=60∨aU 38=false then _ else if(38:UInt8)=38 then _ else _)=_;rw[if_neg (hno 38 (by decide) hp),if_pos rfl];simp[eT,cO,pre]
 by_cases h2:b=60
 ·subst h2
  rw[if_neg h1,if_pos rfl];show(if 200≤n∨(38:UInt8)=60∨aU 38=false then _ else if(38:UInt8)=38 then _ else _)=_;rw[if_neg (hno 38 (by decide) (by decide)),if_pos rfl];simp[eT,cO,pre]
 by_cases h3:b=62
 ·subst h3
  rw[if_neg h1,if_neg h2,if_pos rfl];show(if 200≤n∨(38:UInt8)=60∨aU 38=false then _ else if(38:UInt8)=38 then _ else _)=_;rw[if_neg (hno 38 (by decide) (by decide)),if_pos rfl];simp[eT,cO,pre]
 by_cases h4:b=34
 ·subst h4
  rw[if_neg h1,if_neg h2,if_neg h3,if_pos rfl];show(if 200≤n∨(38:UInt8)=60∨aU 38=false then _ else if(38:UInt8)=38 then _ else _)=_;rw[if_neg (hno 38 (by decide) (by decide)),if_pos rfl];simp[eT,cO,pre]
 rw[if_neg h1,if_neg h2,if_neg h3,if_neg h4];show(if 200≤n∨b=60∨aU b=false then _ else if b=38 then _ else _)=_;rw[if_neg (hno b h2 hp),if_neg h1];rfl
theorem Oq(b q:UInt8)(h:q=34∨q=60):∃x l,iH b=x::l∧x≠q:=by
 unfold iH;split
 ·exact⟨38,_,rfl,by rcases h with rfl|rfl<;>decide⟩
 ·split
  ·exact⟨38,_,rfl,by rcases h with rfl|rfl<;>decide⟩
  ·split
   ·exact⟨38,_,rfl,by rcases h with rfl|rfl<;>decide⟩
   ·split
    ·exact⟨38,_,rfl,by rcases h with rfl|rfl<;>decide⟩
    ·exact⟨b,[],rfl,by rcases h with rfl|rfl<;>assumption⟩
theorem Hq(b:UInt8)(s:Bytes):dV (b::s)=iH b++dV s:=rfl
theorem Kr(q:UInt8)(hq:q=34∨q=60)(c:Nat):∀(v acc r:Bytes),v.all aU=true→acc.length+v.length≤200→iZ q c acc (dV v++q::r)=.ok (acc++v) (q::r) c
 |[],acc,r,_,_=>by rw[List.append_nil];exact C8 q c acc r
 |b::v,acc,r,h,hl=>by
  rw[List.all_cons,Bool.and_eq_true]at h;rw[List.length_cons]at hl;obtain⟨x,l,hx,hxq⟩:=Oq b q hq;have h1:=acn acc.length c b (dV v++q::r) (by omega) h.1;rw[Hq,List.append_assoc];rw[hx,List.cons_append]at h1⊢;rw[AU hxq h1,Kr q hq c v (acc++[b]) r h.2 (by rw[List.length_append];simp only[List.length_cons,List.length_nil];omega),List.append_assoc];rfl
theorem AX{nm:Bytes}(h:jH nm=true):∃b s,nm=b::s∧letter b=true∧nm.all inner=true:=by
 cases nm with
 |nil=>cases h
 |cons b s=>
  have h:(letter b&&s.all inner)=true:=h;rw[Bool.and_eq_true]at h;exact⟨b,s,rfl,h.1,by rw[List.all_cons,GY h.1,h.2];rfl⟩
theorem aco{ats:aJ}{c:Nat}{x:Bytes×Bytes}{r:Bytes}(h1:jH x.1=true)(h2:fu x.2=true)(h3:ats.any (fun y=>y.1==x.1)=false):gM ats c (x.1++61::34::(dV x.2++34::r))=.ok x r c:=by
 obtain⟨b,s,hb,hl,hi⟩:=AX h1
 have hn:nM c (x.1++61::34::(dV x.2++34::r))=.ok x.1 (61::34::(dV x.2++34::r)) c:=by
  obtain⟨t1,t2⟩:=sZ (p:=inner) (l:=34::(dV x.2++34::r)) (b:=61) hi (by decide);rw[hb,List.cons_append]at t1 t2⊢;rw[Vz hl,t1,t2]
 rw[Fb hn];show(if(61:UInt8)≠61∨ats.any (fun y=>y.1==x.1)=true then _ else _)=_;rw[if_neg (by rintro(h|h);exact h rfl;rw[h3]at h;cases h),xH];show Ca x.1 c (iZ 34 c [] _)=_;unfold fu at h2;simp only[Bool.and_eq_true,decide_eq_true_eq]at h2;rw[Kr 34 (.inl rfl) c x.2 [] r h2.1 (by simpa using h2.2)];rfl
theorem DI(x:Bytes×Bytes)(l:aJ)(r:Bytes):dw (x::l)++r=32::(x.1++61::34::(dV x.2++34::(dw l++r))):=by
 unfold dw AV;simp[List.flatMap_cons]
theorem Dc(c:Nat)(tail:Bytes)(R:aJ→Rs (aJ×Bool))(hR:∀ats:aJ,ats.length≤8→kg c ats tail=R ats):∀(todo ats:aJ),ats.length+todo.length≤8→todo.all (fun x=>jH x.1&&fu x.2)=true→((ats++todo).map (·.1)).Nodup→
  kg c ats (dw todo++tail)=R (ats++todo)
 |[],ats,h,_,_=>by rw[List.append_nil];exact hR ats (by simpa using h)
 |x::todo,ats,h,h1,h2=>by
  rw[List.all_cons,Bool.and_eq_true,Bool.and_eq_true]at h1;rw[List.length_cons]at h;obtain⟨b,s,hb,hl,hi⟩:=AX h1.1.1;obtain⟨p1,p2,p3,p4,p5,p6⟩:=Ho hl
  have hno:ats.any (fun y=>y.1==x.1)=false:=by
   rw[List.any_eq_false];intro y hy he;rw[List.map_append,List.nodup_append]at h2;exact h2.2.2 y.1 (List.mem_map.2 ⟨y,hy,rfl⟩) x.1 (List.mem_map.2 ⟨x,List.mem_cons_self ..,rfl⟩) (by simpa using he)
  have ha:=aco (c:=c) (r:=dw todo++tail) h1.1.1 h1.1.2 hno
  have hd:(dw (x::todo)++tail).dropWhile white=x.1++61::34::(dV x.2++34::(dw todo++tail)):=by
   rw[DI,List.dropWhile_cons,if_pos (by decide),hb,List.cons_append,List.dropWhile_cons,if_neg (by rw[p1];decide)]
  have hlen:(x.1++61::34::(dV x.2++34::(dw todo++tail))).length<(dw (x::todo)++tail).length:=by
   rw[DI,List.length_cons];omega
  rw[hb,List.cons_append]at hd ha hlen;rw[JM (by omega) hd p2 p3 ⟨hlen,hl,by omega⟩ ha];rw[Dc c tail R hR todo (ats++[x]) (by rw[List.length_append];simp only[List.length_cons,List.length_nil];omega) h1.2 (by rw[List.append_assoc];exact h2),List.append_assoc];rfl
theorem VB(c:Nat):∀(s r:Bytes),wW c s (s++r)=.ok () r c
 |[],r=>by rw[wW];rfl
 |b::s,r=>by
  rw[wW,List.cons_append,xH];exact VB c s r
theorem Z9(nm gap r:Bytes)(c:Nat)(hg:gap.all white=true):iQ nm c (47::(nm++(gap++62::r)))=.ok () r c:=by
 unfold iQ;rw[xH]
 dsimp only
 rw[VB]
 dsimp only
 rw[(sZ hg (by decide)).2,xH]
theorem Hr(el:Bytes→Nat→Rs E)(ks:List E)(l:Bytes)(c:Nat):om el ks (47::l) c=.ok ks (47::l) c:=by
 unfold om;rw[jZ];exact if_pos rfl
theorem LW{el:Bytes→Nat→Rs E}(hel:∀l c,bQ (el l c).left l){ks:List E}{b:UInt8}{l l1 l3:Bytes}{c c1:Nat}{e:E}(hb:b≠47)(he:el (b::l) c=.ok e l1 c1)(hd:l1.dropWhile white=60::l3):om el ks (b::l) c=om el (ks++[e]) l3 c1:=by
 unfold om;rw[jZ,if_neg hb,he]
 dsimp only
 rw[hd]
 dsimp only
 rw[if_pos rfl];refine Xu hel _ _ _ _ ?_;have h1:=(hel (b::l) c).len;rw[he]at h1;have h1:l1.length≤(b::l).length:=h1;have h2:=(bQ.dropWhile white l1).len;rw[hd,List.length_cons]at h2;omega
def vX(gap:Bytes):List E→Bytes
 |[]=>gap
 |k::ks=>gap++fB k++vX gap ks
def qj(gap:Bytes)(e:E):Bytes:=e.name++(dw e.attrs++(if e.kids.isEmpty then(if e.text.isEmpty then [47,62]else 62::(dV e.text++60::47::(e.name++[62])))else 62::(vX gap e.kids++60::47::(e.name++(gap++[62])))))
def AY(gap:Bytes)(tail:Bytes):List E→Bytes
 |[]=>47::tail
 |k::ks=>qj [] k++(gap++60::AY gap tail ks)
theorem Ot:∀ks:List E,vX [] ks=gF ks
 |[]=>by rw[vX,gF]
 |k::ks=>by rw[vX,gF,Ot ks];rfl
theorem LX(e:E)(h:qF e=true):fB e=60::qj [] e:=by
 obtain⟨nm,a,ks,t⟩:=e;unfold qF at h;simp only[Bool.and_eq_true,Bool.or_eq_true]at h;have h1:=h.1.1.2;rw[fB];unfold qj;simp only[U.E.name,U.E.attrs,U.E.kids,U.E.text]at h1⊢;rw[Ot];cases ks with
 |nil=>
  cases t with
  |nil=>simp
  |cons b t=>simp[gF]
 |cons k ks=>
  cases t with
  |nil=>simp[dV]
  |cons b t=>simp at h1
theorem VC(gap tail:Bytes):∀ks:List E,(∀k∈ks,qF k=true)→vX gap ks++60::47::tail=gap++60::AY gap tail ks
 |[],_=>by rw[vX,AY]
 |k::ks,h=>by
  rw[vX,AY,List.append_assoc,List.append_assoc,VC gap tail ks fun x hx=>h x (List.mem_cons_of_mem _ hx),LX k (h k (List.mem_cons_self ..))];simp
theorem Ro{e:E}(h:proper e=true):qF e=true:=by
 rw[U.sD,Bool.and_eq_true]at h;exact h.1
theorem LY{e k:E}(h:proper e=true)(hk:k∈e.kids):proper k=true:=by
 rw[U.sD,Bool.and_eq_true,U.o8,List.all_eq_true]at h;exact h.2 k hk
theorem Ou{gap:Bytes}{e:E}(h:qF e=true):∃b l,(∀r,qj gap e++r=b::(l++r))∧letter b=true:=by
 unfold qF at h;simp only[Bool.and_eq_true]at h;obtain⟨b,s,hb,hl,_⟩:=AX h.1.1.1.1;refine⟨b,s++(dw e.attrs++(if e.kids.isEmpty then(if e.text.isEmpty then [47,62]else 62::(dV e.text++60::47::(e.name++[62])))else 62::(vX gap e.kids++60::47::(e.name++(gap++[62]))))),fun r=>?_,hl⟩;unfold qj;rw[hb];rfl
theorem VD{n:Nat}{gap:Bytes}(hg:gap.all white=true)(tail:Bytes):∀(ks done:List E) (c:Nat),(∀k∈ks,qF k=true)→(∀k∈ks,∀(r:Bytes) (c:Nat),c+count k≤3000→aR n (qj [] k++r) c=.ok k r (c+count k))→c+az ks≤3000→
  om (aR n) done (AY gap tail ks) c=.ok (done++ks) (47::tail) (c+az ks)
 |[],done,c,_,_,_=>by rw[AY,Hr,List.append_nil,az];rfl
 |k::ks,done,c,ho,h,hc=>by
  rw[az]at hc⊢;rw[AY];have h1:=h k (List.mem_cons_self ..) (gap++60::AY gap tail ks) c (by omega);obtain⟨b,l,hb,hl⟩:=Ou (gap:=[]) (ho k (List.mem_cons_self ..));rw[hb]at h1⊢
  rw[LW (fun l c=>wR n l c) (Ho hl).2.1 h1 (sZ hg (by decide)).2,
   VD hg tail ks (done++[k]) (c+count k) (fun x hx=>ho x (List.mem_cons_of_mem _ hx)) (fun x hx=>h x (List.mem_cons_of_mem _ hx)) (by omega),List.append_assoc,Nat.add_assoc]
  rfl
theorem acp(s t:Bytes):dV (s++t)=dV s++dV t:=by unfold dV;rw[List.flatMap_append]
theorem JQ:∀s:Bytes,s.all aU=true→s.all white=true→dV s=s
 |[],_,_=>rfl
 |b::s,h1,h2=>by
  rw[List.all_cons,Bool.and_eq_true]at h1 h2;have:=JP h1.1 h2.1;subst this;rw[Hq,JQ s h1.2 h2.2];rfl
theorem LZ:∀s:Bytes,s.all aU=true→s.all white=true→s.all (fun b=>b==32)=true
 |[],_,_=>rfl
 |b::s,h1,h2=>by
  rw[List.all_cons,Bool.and_eq_true]at h1 h2;have:=JP h1.1 h2.1;subst this;rw[List.all_cons,LZ s h1.2 h2.2];rfl
theorem aeT{p:UInt8→Bool}{s t:Bytes}(h:(s++t).all p=true):s.all p=true∧t.all p=true:=by
 rw[List.all_append,Bool.and_eq_true]at h;exact h
theorem Xv(t:Bytes):(t.takeWhile white).all white=true:=by
 induction t with
 |nil=>rfl
 |cons b t ih=>
  rw[List.takeWhile_cons];split
  ·rename_i h
   rw[List.all_cons,h,ih];rfl
  ·rfl
theorem Xw{t:Bytes}{b:UInt8}{s:Bytes}(h:t.dropWhile white=b::s):white b=false:=by
 have:=List.takeWhile_append_dropWhile (p:=white) (l:=t);rw[h]at this;have h2:=(Ko (p:=white) (t.takeWhile white) b s (by rw[this];exact h)).2;exact h2
theorem Ce(el:Bytes→Nat→Rs E){nm t r:Bytes}{c:Nat}(ht:t≠[])(hv:fu t=true):dh el nm (dV t++60::47::(nm++62::r)) c=.ok ([],t) r c:=by
 unfold fu at hv;simp only[Bool.and_eq_true,decide_eq_true_eq]at hv;obtain⟨hp,hl⟩:=hv;have hsplit:=List.takeWhile_append_dropWhile (p:=white) (l:=t);have hws:=Xv t;obtain⟨ws,hwe⟩:∃ws,t.takeWhile white=ws:=⟨_,rfl⟩;obtain⟨s,hse⟩:∃s,t.dropWhile white=s:=⟨_,rfl⟩;have hdw:∀b s',s=b::s'→white b=false:=fun b s' h=>Xw (by rw[hse,h])
 rw[hwe]at hws hsplit;rw[hse]at hsplit;clear hwe hse;subst hsplit;obtain⟨p1,p2⟩:=aeT hp;have hsp:=LZ ws p1 hws;have F6:ws.length≤200:=by rw[List.length_append]at hl;omega
 have hSB:j4 ws=true:=by unfold j4;rw[hsp,decide_eq_true F6];rfl
 have hend:=Z9 nm [] r c rfl;rw[List.nil_append]at hend;rw[acp,JQ ws p1 hws,List.append_assoc];unfold dh;cases s with
 |nil=>
  rw[List.append_nil]at ht⊢;obtain⟨t1,t2⟩:=sZ (p:=white) (l:=47::(nm++62::r)) (b:=60) hws (by decide);rw[show(ws++(dV []++60::47::(nm++62::r)))=ws++60::47::(nm++62::r)from rfl,t1,t2]
  dsimp only
  rw[hSB,if_neg (by decide),if_pos rfl];have hk:jZ el ((47::(nm++62::r)).length+1) [] (47::(nm++62::r)) c=.ok [] (47::(nm++62::r)) c:=Hr el [] _ c;rw[hk]
  dsimp only
  rw[hend];rfl
 |cons b s=>
  have hb:=hdw b s rfl;rw[List.all_cons,Bool.and_eq_true]at p2;obtain⟨x,l,hx,aiH⟩:=Oq b 60 (.inr rfl)
  have hxw:white x=false:=by
   have hx':iH b=x::l:=hx;unfold iH at hx';split at hx'
   ·cases hx';decide
   ·split at hx'
    ·cases hx';decide
    ·split at hx'
     ·cases hx';decide
     ·split at hx'
      ·cases hx';decide
      ·cases hx';exact hb
  have htx:=Kr 60 (.inr rfl) c (b::s) ws (47::(nm++62::r)) (by rw[List.all_cons,p2.1,p2.2];rfl) (by rw[List.length_append]at hl;exact hl);have e1:dV (b::s)++60::47::(nm++62::r)=x::(l++(dV s++60::47::(nm++62::r))):=by rw[Hq,hx,List.append_assoc,List.cons_append]
  rw[e1]at htx⊢;obtain⟨t1,t2⟩:=sZ (p:=white) (l:=l++(dV s++60::47::(nm++62::r))) hws hxw;rw[t1,t2]
  dsimp only
  rw[if_neg (by rw[hSB];decide),if_neg aiH];have htx:jl 60 c ((x::(l++(dV s++60::47::(nm++62::r)))).length+1) ws (x::(l++(dV s++60::47::(nm++62::r))))=_:=htx;rw[htx]
  dsimp only
  rw[List.drop_succ_cons,List.drop_zero,hend]
theorem Cg{n:Nat}{gap nm r:Bytes}{ks:List E}{c:Nat}(hg:gap.all white=true)(hs:j4 gap=true)(hk:ks≠[])(ho:∀k∈ks,qF k=true)(h:∀k∈ks,∀(r:Bytes) (c:Nat),c+count k≤3000→aR n (qj [] k++r) c=.ok k r (c+count k))(hc:c+az ks≤3000):
  dh (aR n) nm (vX gap ks++60::47::(nm++(gap++62::r))) c=.ok (ks,[]) r (c+az ks):=by
 rw[VC gap _ ks ho];obtain⟨t1,t2⟩:=sZ (p:=white) (l:=AY gap (nm++(gap++62::r)) ks) (b:=60) hg (by decide);unfold dh;rw[t1,t2]
 dsimp only
 rw[if_neg (by rw[hs];decide),if_pos rfl];have h1:=VD hg (nm++(gap++62::r)) ks [] c ho h hc;unfold om at h1;rw[h1]
 dsimp only
 rw[Z9 nm gap r _ hg];cases ks with
 |nil=>exact absurd rfl hk
 |cons k ks=>
  dsimp only
  rw[List.nil_append,List.isEmpty_cons,Bool.and_false];rfl
theorem Ov:∀(n:Nat) (e:E) (gap r:Bytes) (c:Nat),gap.all white=true→j4 gap=true→proper e=true→depth e≤n→c+count e≤3000→aR n (qj gap e++r) c=.ok e r (c+count e)
 |0,e,_,_,_,_,_,_,h,_=>by have:=U.NJ e;omega
 |n+1,e,gap,r,c,hg,hs,hp,hd,hc=>by
  have ho:=Ro hp
  have hkd:∀k∈e.kids,depth k≤n:=fun k hk=>by
   have:=U.ZE hk;rw[U.oN]at hd;omega
  have hko:∀k∈e.kids,qF k=true:=fun k hk=>Ro (LY hp hk)
  have hkr:∀k∈e.kids,∀(r:Bytes) (c:Nat),c+count k≤3000→aR n (qj [] k++r) c=.ok k r (c+count k):=fun k hk r c hc=>Ov n k [] r c rfl rfl (LY hp hk) (hkd k hk) hc
  rw[U.aN]at hc⊢;obtain⟨b,l,hb,hl⟩:=Ou (gap:=gap) ho;have hown:=ho;unfold qF jY at hown;simp only[Bool.and_eq_true,decide_eq_true_eq]at hown;obtain⟨⟨⟨⟨hn1,ht1⟩,htk⟩,ha8⟩,L6,hand⟩:=hown;obtain⟨b0,s0,hb0,hl0,hi0⟩:=AX hn1
  --the name
  have ag':∀(tl:Bytes) (x:UInt8),inner x=false→(e.name++(dw e.attrs++x::tl)).takeWhile inner=e.name∧(e.name++(dw e.attrs++x::tl)).dropWhile inner=dw e.attrs++x::tl:=by
   intro tl x hx;cases ha:e.attrs with
   |nil=>exact sZ hi0 hx
   |cons y ys=>rw[DI];exact sZ hi0 (by decide)
  have hgo:∀(tl:Bytes) (x:UInt8),inner x=false→qj gap e++r=e.name++(dw e.attrs++x::tl)→aR (n+1) (qj gap e++r) c=C9 n e.name (c+1) (kg (c+1) [] (dw e.attrs++x::tl)):=by
   intro tl x hx he;obtain⟨s1,s2⟩:=ag' tl x hx;rw[←he,hb]at s1 s2;rw[hb,Vy hl (by omega),s1,s2]
  cases hks:e.kids with
  |nil=>
   cases htx:e.text with
   |nil=>
    have he:qj gap e++r=e.name++(dw e.attrs++47::62::r):=by
     unfold qj;rw[hks,htx];simp
    rw[hgo _ _ (by decide) he,Dc (c+1) (47::62::r) (fun ats=>.ok (ats,true) r (c+1)) (fun ats ha=>Hg ha (show(47::62::r:Bytes).dropWhile white=47::62::r from(Db _ (by decide)).2) (xH 62 (c+1) r)) e.attrs [] (by simpa using ha8) L6 (by simpa using hand)];show Rs.ok (E.mk e.name e.attrs [] []) r (c+1)=_;rw[az,Nat.add_zero]
    congr 1
    rw[U.E.eta e,hks,htx];rfl
   |cons t0 ts=>
    have he:qj gap e++r=e.name++(dw e.attrs++62::(dV e.text++60::47::(e.name++62::r))):=by
     unfold qj;rw[hks,htx];simp
    rw[hgo _ _ (by decide) he,Dc (c+1) (62::(dV e.text++60::47::(e.name++62::r))) (fun ats=>.ok (ats,false) (dV e.text++60::47::(e.name++62::r)) (c+1)) (fun ats ha=>Hl ha (Db _ (by decide)).2) e.attrs [] (by simpa using ha8) L6 (by simpa using hand),
     Kn (Ce (aR n) (by rw[htx];simp) ht1)]
    rw[az,Nat.add_zero]
    congr 1
    rw[U.E.eta e,hks];rfl
  |cons k ks=>
   have htx:e.text=[]:=by
    rw[hks]at htk;simpa using htk
   have he:qj gap e++r=e.name++(dw e.attrs++62::(vX gap e.kids++60::47::(e.name++(gap++62::r)))):=by
    unfold qj;rw[hks];simp
   rw[hgo _ _ (by decide) he,Dc (c+1) (62::(vX gap e.kids++60::47::(e.name++(gap++62::r)))) (fun ats=>.ok (ats,false) (vX gap e.kids++60::47::(e.name++(gap++62::r))) (c+1)) (fun ats ha=>Hl ha (Db _ (by decide)).2) e.attrs [] (by simpa using ha8) L6 (by simpa using hand),
    Kn (Cg hg hs (by rw[hks];simp) hko hkr (by omega))]
   rw[←hks,Nat.add_assoc]
   congr 1
   conv=>rhs;rw[U.E.eta e]
   rw[htx];rfl
theorem Pq(e:E)(gap:Bytes)(hg:gap.all white=true)(hs:j4 gap=true)(h:U.valid e=true):kz (gap++60::(qj gap e++gap))=.ok e [] (count e):=by
 unfold U.valid at h;simp only[Bool.and_eq_true,decide_eq_true_eq]at h;unfold kz;rw[(sZ hg (by decide)).2,xH]
 dsimp only
 rw[Ov 64 e gap gap 0 hg hs h.1.1 h.2 (by omega)]
 dsimp only
 have:gap.dropWhile white=[]:=by
  have:=(Kq gap [] hg).2;rw[List.append_nil]at this;rw[this];rfl
 rw[this,Nat.zero_add]
theorem M9(e:E)(h:U.valid e=true):kz (fB e)=.ok e [] (count e):=by
 have h1:=h;unfold U.valid at h1;simp only[Bool.and_eq_true,decide_eq_true_eq]at h1;rw[LX e (Ro h1.1.1)];have:=Pq e [] rfl rfl h;rw[List.append_nil]at this;exact this
end Xp
end Go.Proofs.YtcgbccfpcgaikaaGreatDoor
