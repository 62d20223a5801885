/- Part 15 of 41 of a proof. No condition. -/
import Derived.Test.YtabjglnjjdcfmaaGreatDoorWe14
set_option maxRecDepth 100000
set_option maxHeartbeats 8000000
namespace Go.Proofs.YtabjglnjjdcfmaaGreatDoor
open _root_.List renaming append_nil->avf,all_cons->au9,length_cons->au0,append_assoc->au6,cons_append->au',length_append->auZ,length_nil->ava,dropWhile_cons->av8,mem_cons_of_mem->av5,takeWhile_append_dropWhile->awd,nil_append->avn
open _root_.Bool renaming and_eq_true->auY,and_false->avD
open _root_.Go.Proofs.Tryz
namespace Xp
open U (E aJ QJ D8 inner aU iH dV AV dw fB gF jH fu jY qF proper uE count az depth aX)
theorem uS(p:UInt8->Bool)(h:∀n:Fin 256,p (UInt8.ofNat n.1)=true)(b:UInt8):p b=true:=by
 have:=h ⟨b.toNat,b.toNat_lt⟩;exact ah7
theorem GY{b:UInt8}(h:D8 b=true):inner b=true:=by
 have:=uS (λb=>!D8 b||inner b) I_ b;rw[h]at this;exact ah7
theorem Ho{b:UInt8}(h:D8 b=true):Dq b=false/\b≠47/\b≠62/\b≠60/\b≠34/\b≠61:=by
 have:=uS (λb=>!D8 b||(!Dq b&&b !=47&&b !=62&&b !=60&&b !=34&&b !=61)) I_ b;rw[h]at this;simpa[and_assoc]using this
theorem JP{b:UInt8}(h:aU b=true)(h2:Dq b=true):b=32:=by
 have:=uS (λb=>!(aU b&&Dq b)||b==32) I_ b;rw[h,h2]at this;exact ah7
theorem sZ{p:UInt8->Bool}{q:QJ}{b:UInt8}{l:QJ}(h:q.all p=true)(h2:p b=false):(q++b::l).takeWhile p=q/\(q++b::l).dropWhile p=b::l:=by
 obtain⟨h4,h5⟩:=Kq q (b::l) h;obtain⟨h6,h7⟩:=Db l h2;rw[h4,h5,h6,h7,avf];exact ah5
theorem xH(b:UInt8)(c:Nat)(l:QJ):bB b c (b::l)=.ok () l c:=if_pos rfl
theorem acn(n c:Nat)(b:UInt8)(r:QJ)(hn:n<200)(hp:aU b=true):jk n c (iH b++r)=.ok b r c:=by
 have hno:∀x:UInt8,x≠60->aU x=true->¬(200<=n\/x=60\/aU x=false):=λx h1 h2 h=>by
  rcases h with h|h|h
  .omega
  .exact h1 h
  .rw[h2]at h;cases h
 unfold iH
 by_cases h1:b=38
 .subst h1
  rw[if_pos rfl];show(if 200<=n\/(38:UInt8)=60\/aU 38=false then _ else if(38:UInt8)=38 then _ else _)=_;rw[if_neg (hno 38 Pf hp),if_pos rfl];simp[eT,cO,pre]
 by_cases h2:b=60
 .subst h2
  rw[if_neg h1,if_pos rfl];exact D_
 by_cases h3:b=62
 .subst h3
  rw[if_neg h1,if_neg h2,if_pos rfl];exact D_
 by_cases h4:b=34
 .subst h4
  rw[if_neg h1,if_neg h2,if_neg h3,if_pos rfl];exact D_
 rw[if_neg h1,if_neg h2,if_neg h3,if_neg h4];show(if 200<=n\/b=60\/aU b=false then _ else if b=38 then _ else _)=_;rw[if_neg (hno b h2 hp),if_neg h1];rfl
theorem Oq(b q:UInt8)(h:q=34\/q=60):∃x l,iH b=x::l/\x≠q:=by
 unfold iH;split
 .exact⟨38,_,rfl,by rcases h with rfl|rfl<;>decide⟩
 .split
  .exact⟨38,_,rfl,by rcases h with rfl|rfl<;>decide⟩
  .split
   .exact⟨38,_,rfl,by rcases h with rfl|rfl<;>decide⟩
   .split
    .exact⟨38,_,rfl,by rcases h with rfl|rfl<;>decide⟩
    .exact⟨b,[],rfl,by rcases h with rfl|rfl<;>assumption⟩
theorem Hq(b:UInt8)(s:QJ):dV (b::s)=iH b++dV s:=rfl
theorem Kr(q:UInt8)(hq:q=34\/q=60)(c:Nat):∀(v acc r:QJ),v.all aU=true->acc.length+v.length<=200->iZ q c acc (dV v++q::r)=.ok (acc++v) (q::r) c
 |[],acc,r,_,_=>by rw[avf];exact C8 q c acc r
 |b::v,acc,r,h,hl=>by
  rw[au9,auY]at h;rw[au0]at hl;obtain⟨x,l,hx,aa⟩:=Oq b q hq;have h1:=acn acc.length c b (dV v++q::r) Zo h.1;rw[Hq,au6];rw[hx,au']at h1|-;rw[AU aa h1,Kr q hq c v (acc++[b]) r h.2 (by rw[auZ];simp only[au0,ava];omega),au6];rfl
theorem AX{nm:QJ}(h:jH nm=true):∃b s,nm=b::s/\D8 b=true/\nm.all inner=true:=by
 cases nm with
 |nil=>cases h
 |cons b s=>
  have h:(D8 b&&s.all inner)=true:=h;rw[auY]at h;exact⟨b,s,rfl,h.1,by rw[au9,GY h.1,h.2];rfl⟩
theorem aco{Gg:aJ}{c:Nat}{x:QJ×QJ}{r:QJ}(h1:jH x.1=true)(h2:fu x.2=true)(h3:Gg.any (λy=>y.1==x.1)=false):gM Gg c (x.1++61::34::(dV x.2++34::r))=.ok x r c:=by
 obtain⟨b,s,hb,hl,hi⟩:=AX h1
 have hn:nM c (x.1++61::34::(dV x.2++34::r))=.ok x.1 (61::34::(dV x.2++34::r)) c:=by
  obtain⟨t1,t2⟩:=sZ (p:=inner) (l:=34::(dV x.2++34::r)) (b:=61) hi Pf;rw[hb,au']at t1 t2|-;rw[Vz hl,t1,t2]
 rw[Fb hn];show(if(61:UInt8)≠61\/Gg.any (λy=>y.1==x.1)=true then _ else _)=_;rw[if_neg (by rintro(h|h);exact h rfl;rw[h3]at h;cases h),xH];show Ca x.1 c (iZ 34 c [] _)=_;unfold fu at h2;simp only[auY,decide_eq_true_eq]at h2;rw[Kr 34 (.inl rfl) c x.2 [] r h2.1 (by simpa using h2.2)];rfl
theorem DI(x:QJ×QJ)(l:aJ)(r:QJ):dw (x::l)++r=32::(x.1++61::34::(dV x.2++34::(dw l++r))):=by
 unfold dw AV;simp[List.flatMap_cons]
theorem Dc(c:Nat)(tail:QJ)(R:aJ->Rs (aJ×Bool))(hR:∀Gg:aJ,Gg.length<=8->kg c Gg tail=R Gg):∀(todo Gg:aJ),Gg.length+todo.length<=8->todo.all (λx=>jH x.1&&fu x.2)=true->((Gg++todo).map (·.1)).Nodup->
  kg c Gg (dw todo++tail)=R (Gg++todo)
 |[],Gg,h,_,_=>by rw[avf];exact hR Gg aiu
 |x::todo,Gg,h,h1,h2=>by
  rw[au9,auY,auY]at h1;rw[au0]at h;obtain⟨b,s,hb,hl,hi⟩:=AX h1.1.1;obtain⟨p1,p2,p3,p4,p5,p6⟩:=Ho hl
  have hno:Gg.any (λy=>y.1==x.1)=false:=by
   rw[List.any_eq_false];intro y hy he;rw[List.map_append,List.nodup_append]at h2;exact h2.2.2 y.1 (List.mem_map.2 ⟨y,hy,rfl⟩) x.1 (List.mem_map.2 ⟨x,List.mem_cons_self ..,rfl⟩) atQ
  have ha:=aco (c:=c) (r:=dw todo++tail) h1.1.1 h1.1.2 hno
  have hd:(dw (x::todo)++tail).dropWhile Dq=x.1++61::34::(dV x.2++34::(dw todo++tail)):=by
   rw[DI,av8,if_pos (by decide),hb,au',av8,if_neg (by rw[p1];decide)]
  have hlen:(x.1++61::34::(dV x.2++34::(dw todo++tail))).length<(dw (x::todo)++tail).length:=by
   rw[DI,au0];omega
  rw[hb,au']at hd ha hlen;rw[JM (by omega) hd p2 p3 ⟨hlen,hl,by omega⟩ ha];rw[Dc c tail R hR todo (Gg++[x]) (by rw[auZ];simp only[au0,ava];omega) h1.2 (by rw[au6];exact h2),au6];rfl
theorem VB(c:Nat):∀(s r:QJ),wW c s (s++r)=.ok () r c
 |[],r=>by rw[wW];rfl
 |b::s,r=>by
  rw[wW,au',xH];exact VB c s r
theorem Z9(nm NH r:QJ)(c:Nat)(hg:NH.all Dq=true):iQ nm c (47::(nm++(NH++62::r)))=.ok () r c:=by
 unfold iQ;rw[xH]
 dsimp only
 rw[VB]
 dsimp only
 rw[(sZ hg Pf).2,xH]
theorem Hr(el:QJ->Nat->Rs E)(ks:List E)(l:QJ)(c:Nat):om el ks (47::l) c=.ok ks (47::l) c:=by
 unfold om;rw[jZ];exact if_pos rfl
theorem LW{el:QJ->Nat->Rs E}(ac:∀l c,bQ (el l c).left l){ks:List E}{b:UInt8}{l l1 l3:QJ}{c c1:Nat}{e:E}(hb:b≠47)(he:el (b::l) c=.ok e l1 c1)(hd:l1.dropWhile Dq=60::l3):om el ks (b::l) c=om el (ks++[e]) l3 c1:=by
 unfold om;rw[jZ,if_neg hb,he]
 dsimp only
 rw[hd]
 dsimp only
 rw[if_pos rfl];refine Xu ac _ _ _ _ ?_;have h1:=(ac (b::l) c).len;rw[he]at h1;have h1:l1.length<=(b::l).length:=h1;have h2:=(bQ.dropWhile Dq l1).len;rw[hd,au0]at h2;omega
def vX(NH:QJ):List E->QJ
 |[]=>NH
 |k::ks=>NH++fB k++vX NH ks
def qj(NH:QJ)(e:E):QJ:=e.name++(dw e.Zn++(if e.Qx.isEmpty then(if e.QG.isEmpty then [47,62]else 62::(dV e.QG++60::47::(e.name++[62])))else 62::(vX NH e.Qx++60::47::(e.name++(NH++[62])))))
def AY(NH:QJ)(tail:QJ):List E->QJ
 |[]=>47::tail
 |k::ks=>qj [] k++(NH++60::AY NH tail ks)
theorem Ot:∀ks:List E,vX [] ks=gF ks
 |[]=>by rw[vX,gF]
 |k::ks=>by rw[vX,gF,Ot ks];rfl
theorem LX(e:E)(h:qF e=true):fB e=60::qj [] e:=by
 obtain⟨nm,a,ks,t⟩:=e;unfold qF at h;simp only[auY,Bool.or_eq_true]at h;have h1:=h.1.1.2;rw[fB];unfold qj;simp only[U.E.name,U.E.Zn,U.E.Qx,U.E.QG]at h1|-;rw[Ot];cases ks with
 |nil=>
  cases t with
  |nil=>simp
  |cons b t=>simp[gF]
 |cons k ks=>
  cases t with
  |nil=>simp[dV]
  |cons b t=>simp at h1
theorem VC(NH tail:QJ):∀ks:List E,(∀k∈ks,qF k=true)->vX NH ks++60::47::tail=NH++60::AY NH tail ks
 |[],_=>by rw[vX,AY]
 |k::ks,h=>by
  rw[vX,AY,au6,au6,VC NH tail ks λx hx=>h x (av5 _ hx),LX k (h k alH)];simp
theorem Ro{e:E}(h:proper e=true):qF e=true:=by
 rw[U.sD,auY]at h;exact h.1
theorem LY{e k:E}(h:proper e=true)(hk:k∈e.Qx):proper k=true:=by
 rw[U.sD,auY,U.o8,List.all_eq_true]at h;exact h.2 k hk
theorem Ou{NH:QJ}{e:E}(h:qF e=true):∃b l,(∀r,qj NH e++r=b::(l++r))/\D8 b=true:=by
 unfold qF at h;simp only[auY]at h;obtain⟨b,s,hb,hl,_⟩:=AX h.1.1.1.1;refine⟨b,s++(dw e.Zn++(if e.Qx.isEmpty then(if e.QG.isEmpty then [47,62]else 62::(dV e.QG++60::47::(e.name++[62])))else 62::(vX NH e.Qx++60::47::(e.name++(NH++[62]))))),λr=>?_,hl⟩;unfold qj;rw[hb];rfl
theorem VD{n:Nat}{NH:QJ}(hg:NH.all Dq=true)(tail:QJ):∀(ks done:List E) (c:Nat),(∀k∈ks,qF k=true)->(∀k∈ks,∀(r:QJ) (c:Nat),c+count k<=3000->aR n (qj [] k++r) c=.ok k r (c+count k))->c+az ks<=3000->
  om (aR n) done (AY NH tail ks) c=.ok (done++ks) (47::tail) (c+az ks)
 |[],done,c,_,_,_=>by rw[AY,Hr,avf,az];rfl
 |k::ks,done,c,ho,h,hc=>by
  rw[az]at hc|-;rw[AY];have h1:=h k alH (NH++60::AY NH tail ks) c Zo;obtain⟨b,l,hb,hl⟩:=Ou (NH:=[]) (ho k alH);rw[hb]at h1|-
  rw[LW (λl c=>wR n l c) (Ho hl).2.1 h1 (sZ hg Pf).2,
   VD hg tail ks (done++[k]) (c+count k) (λx hx=>ho x (av5 _ hx)) (λx hx=>h x (av5 _ hx)) Zo,au6,Nat.add_assoc]
  rfl
theorem acp(s t:QJ):dV (s++t)=dV s++dV t:=by unfold dV;rw[List.flatMap_append]
theorem JQ:∀s:QJ,s.all aU=true->s.all Dq=true->dV s=s
 |[],_,_=>rfl
 |b::s,h1,h2=>by
  rw[au9,auY]at h1 h2;have:=JP h1.1 h2.1;subst this;rw[Hq,JQ s h1.2 h2.2];rfl
theorem LZ:∀s:QJ,s.all aU=true->s.all Dq=true->s.all (λb=>b==32)=true
 |[],_,_=>rfl
 |b::s,h1,h2=>by
  rw[au9,auY]at h1 h2;have:=JP h1.1 h2.1;subst this;rw[au9,LZ s h1.2 h2.2];rfl
theorem aeT{p:UInt8->Bool}{s t:QJ}(h:(s++t).all p=true):s.all p=true/\t.all p=true:=by
 rw[List.all_append,auY]at h;exact h
theorem Xv(t:QJ):(t.takeWhile Dq).all Dq=true:=by
 induction t with
 |nil=>rfl
 |cons b t ih=>
  rw[List.takeWhile_cons];split
  .rename_i h
   rw[au9,h,ih];rfl
  .rfl
theorem Xw{t:QJ}{b:UInt8}{s:QJ}(h:t.dropWhile Dq=b::s):Dq b=false:=by
 have:=awd (p:=Dq) (l:=t);rw[h]at this;have h2:=(Ko (p:=Dq) (t.takeWhile Dq) b s (by rw[this];exact h)).2;exact h2
theorem Ce(el:QJ->Nat->Rs E){nm t r:QJ}{c:Nat}(ht:t≠[])(hv:fu t=true):dh el nm (dV t++60::47::(nm++62::r)) c=.ok ([],t) r c:=by
 unfold fu at hv;simp only[auY,decide_eq_true_eq]at hv;obtain⟨hp,hl⟩:=hv;have aa:=awd (p:=Dq) (l:=t);have ak:=Xv t;obtain⟨ws,ac⟩:∃ws,t.takeWhile Dq=ws:=⟨_,rfl⟩;obtain⟨s,ab⟩:∃s,t.dropWhile Dq=s:=⟨_,rfl⟩;have ai:∀b s',s=b::s'->Dq b=false:=λb s' h=>Xw (by rw[ab,h])
 rw[ac]at ak aa;rw[ab]at aa;clear ac ab;subst aa;obtain⟨p1,p2⟩:=aeT hp;have hsp:=LZ ws p1 ak;have F6:ws.length<=200:=by rw[auZ]at hl;omega
 have ad:j4 ws=true:=by unfold j4;rw[hsp,decide_eq_true F6];rfl
 have hend:=Z9 nm [] r c rfl;rw[avn]at hend;rw[acp,JQ ws p1 ak,au6];unfold dh;cases s with
 |nil=>
  rw[avf]at ht|-;obtain⟨t1,t2⟩:=sZ (p:=Dq) (l:=47::(nm++62::r)) (b:=60) ak Pf;rw[show(ws++(dV []++60::47::(nm++62::r)))=ws++60::47::(nm++62::r)from rfl,t1,t2]
  dsimp only
  rw[ad,if_neg (by decide),if_pos rfl];have hk:jZ el ((47::(nm++62::r)).length+1) [] (47::(nm++62::r)) c=.ok [] (47::(nm++62::r)) c:=Hr el [] _ c;rw[hk]
  dsimp only
  rw[hend];rfl
 |cons b s=>
  have hb:=ai b s rfl;rw[au9,auY]at p2;obtain⟨x,l,hx,aiH⟩:=Oq b 60 atG
  have hxw:Dq x=false:=by
   have hx':iH b=x::l:=hx;unfold iH at hx';split at hx'
   .cases hx';decide
   .split at hx'
    .cases hx';decide
    .split at hx'
     .cases hx';decide
     .split at hx'
      .cases hx';decide
      .cases hx';exact hb
  have an:=Kr 60 atG c (b::s) ws (47::(nm++62::r)) (by rw[au9,p2.1,p2.2];rfl) (by rw[auZ]at hl;exact hl);have e1:dV (b::s)++60::47::(nm++62::r)=x::(l++(dV s++60::47::(nm++62::r))):=by rw[Hq,hx,au6,au']
  rw[e1]at an|-;obtain⟨t1,t2⟩:=sZ (p:=Dq) (l:=l++(dV s++60::47::(nm++62::r))) ak hxw;rw[t1,t2]
  dsimp only
  rw[if_neg (by rw[ad];decide),if_neg aiH];have an:jl 60 c ((x::(l++(dV s++60::47::(nm++62::r)))).length+1) ws (x::(l++(dV s++60::47::(nm++62::r))))=_:=an;rw[an]
  dsimp only
  rw[List.drop_succ_cons,List.drop_zero,hend]
theorem Cg{n:Nat}{NH nm r:QJ}{ks:List E}{c:Nat}(hg:NH.all Dq=true)(hs:j4 NH=true)(hk:ks≠[])(ho:∀k∈ks,qF k=true)(h:∀k∈ks,∀(r:QJ) (c:Nat),c+count k<=3000->aR n (qj [] k++r) c=.ok k r (c+count k))(hc:c+az ks<=3000):
  dh (aR n) nm (vX NH ks++60::47::(nm++(NH++62::r))) c=.ok (ks,[]) r (c+az ks):=by
 rw[VC NH _ ks ho];obtain⟨t1,t2⟩:=sZ (p:=Dq) (l:=AY NH (nm++(NH++62::r)) ks) (b:=60) hg Pf;unfold dh;rw[t1,t2]
 dsimp only
 rw[if_neg (by rw[hs];decide),if_pos rfl];have h1:=VD hg (nm++(NH++62::r)) ks [] c ho h hc;unfold om at h1;rw[h1]
 dsimp only
 rw[Z9 nm NH r _ hg];cases ks with
 |nil=>exact absurd rfl hk
 |cons k ks=>
  dsimp only
  rw[avn,List.isEmpty_cons,avD];rfl
theorem Ov:∀(n:Nat) (e:E) (NH r:QJ) (c:Nat),NH.all Dq=true->j4 NH=true->proper e=true->depth e<=n->c+count e<=3000->aR n (qj NH e++r) c=.ok e r (c+count e)
 |0,e,_,_,_,_,_,_,h,_=>by have:=U.NJ e;omega
 |n+1,e,NH,r,c,hg,hs,hp,hd,hc=>by
  have ho:=Ro hp
  have aa:∀k∈e.Qx,depth k<=n:=λk hk=>by
   have:=U.ZE hk;rw[U.oN]at hd;omega
  have hko:∀k∈e.Qx,qF k=true:=λk hk=>Ro (LY hp hk)
  have hkr:∀k∈e.Qx,∀(r:QJ) (c:Nat),c+count k<=3000->aR n (qj [] k++r) c=.ok k r (c+count k):=λk hk r c hc=>Ov n k [] r c rfl rfl (LY hp hk) (aa k hk) hc
  rw[U.aN]at hc|-;obtain⟨b,l,hb,hl⟩:=Ou (NH:=NH) ho;have hown:=ho;unfold qF jY at hown;simp only[auY,decide_eq_true_eq]at hown;obtain⟨⟨⟨⟨ag,ad⟩,aB⟩,ac⟩,L6,hand⟩:=hown;obtain⟨b0,s0,hb0,hl0,ab⟩:=AX ag
  --the name
  have ag':∀(tl:QJ) (x:UInt8),inner x=false->(e.name++(dw e.Zn++x::tl)).takeWhile inner=e.name/\(e.name++(dw e.Zn++x::tl)).dropWhile inner=dw e.Zn++x::tl:=by
   intro tl x hx;cases ha:e.Zn with
   |nil=>exact sZ ab hx
   |cons y ys=>rw[DI];exact sZ ab Pf
  have hgo:∀(tl:QJ) (x:UInt8),inner x=false->qj NH e++r=e.name++(dw e.Zn++x::tl)->aR (n+1) (qj NH e++r) c=C9 n e.name (c+1) (kg (c+1) [] (dw e.Zn++x::tl)):=by
   intro tl x hx he;obtain⟨s1,s2⟩:=ag' tl x hx;rw[<-he,hb]at s1 s2;rw[hb,Vy hl (by omega),s1,s2]
  cases ar:e.Qx with
  |nil=>
   cases an:e.QG with
   |nil=>
    have he:qj NH e++r=e.name++(dw e.Zn++47::62::r):=by
     unfold qj;rw[ar,an];simp
    rw[hgo _ _ (by decide) he,Dc (c+1) (47::62::r) (λGg=>.ok (Gg,true) r (c+1)) (λGg ha=>Hg ha (show(47::62::r:QJ).dropWhile Dq=47::62::r from(Db _ Pf).2) (xH 62 (c+1) r)) e.Zn [] (by simpa using ac) L6 (by simpa using hand)];show Rs.ok (E.mk e.name e.Zn [] []) r (c+1)=_;rw[az,Nat.add_zero]
    congr 1
    rw[U.E.eta e,ar,an];rfl
   |cons t0 ts=>
    have he:qj NH e++r=e.name++(dw e.Zn++62::(dV e.QG++60::47::(e.name++62::r))):=by
     unfold qj;rw[ar,an];simp
    rw[hgo _ _ (by decide) he,Dc (c+1) (62::(dV e.QG++60::47::(e.name++62::r))) (λGg=>.ok (Gg,false) (dV e.QG++60::47::(e.name++62::r)) (c+1)) (λGg ha=>Hl ha (Db _ Pf).2) e.Zn [] (by simpa using ac) L6 (by simpa using hand),
     Kn (Ce (aR n) (by rw[an];simp) ad)]
    rw[az,Nat.add_zero]
    congr 1
    rw[U.E.eta e,ar];rfl
  |cons k ks=>
   have an:e.QG=[]:=by
    rw[ar]at aB;simpa using aB
   have he:qj NH e++r=e.name++(dw e.Zn++62::(vX NH e.Qx++60::47::(e.name++(NH++62::r)))):=by
    unfold qj;rw[ar];simp
   rw[hgo _ _ (by decide) he,Dc (c+1) (62::(vX NH e.Qx++60::47::(e.name++(NH++62::r)))) (λGg=>.ok (Gg,false) (vX NH e.Qx++60::47::(e.name++(NH++62::r))) (c+1)) (λGg ha=>Hl ha (Db _ Pf).2) e.Zn [] (by simpa using ac) L6 (by simpa using hand),
    Kn (Cg hg hs arM hko hkr Zo)]
   rw[<-ar,Nat.add_assoc]
   congr 1
   conv=>rhs;rw[U.E.eta e]
   rw[an];rfl
theorem Pq(e:E)(NH:QJ)(hg:NH.all Dq=true)(hs:j4 NH=true)(h:U.valid e=true):kz (NH++60::(qj NH e++NH))=.ok e [] (count e):=by
 unfold U.valid at h;simp only[auY,decide_eq_true_eq]at h;unfold kz;rw[(sZ hg Pf).2,xH]
 dsimp only
 rw[Ov 64 e NH NH 0 hg hs h.1.1 h.2 (by omega)]
 dsimp only
 have:NH.dropWhile Dq=[]:=by
  have:=(Kq NH [] hg).2;rw[avf]at this;rw[this];rfl
 rw[this,Nat.zero_add]
theorem M9(e:E)(h:U.valid e=true):kz (fB e)=.ok e [] (count e):=by
 have h1:=h;unfold U.valid at h1;simp only[auY,decide_eq_true_eq]at h1;rw[LX e (Ro h1.1.1)];have:=Pq e [] rfl rfl h;rw[avf]at this;exact this
end Xp
section
open Go.RowKit
open Xp (Rs bQ Dq bB iQ dh aR iZ om j4 jk)
open U (E aJ)
theorem De{p:UInt8->Bool}:∀l:List UInt8,l.dropWhile p=[]↔l.all p=true
 |[]=>by simp
 |b::l=>by
  rw[av8,au9];cases h:p b with
  |true=>rw[if_pos rfl,Bool.true_and];exact De l
  |false=>rw[if_neg (by decide),Bool.false_and];simp
theorem UH(l:List UInt8):(Lib.trimB l 32).isEmpty=l.all (λb=>b==32):=by
 unfold Lib.trimB Lib.trimLeftB Lib.trimRightB;rw[Bool.eq_iff_iff,List.isEmpty_iff];constructor
 .intro h
  have h1:=(De (p:=λb=>b==32) _).1 h
  have h2:(l.reverse.dropWhile (λb=>b==32))=[]:=by
   rw[List.all_reverse]at h1;cases hd:l.reverse.dropWhile (λb=>b==32)with
   |nil=>rfl
   |cons b s=>
    rw[hd,au9,auY]at h1;have h3:=awd (p:=λb:UInt8=>b==32) (l:=l.reverse);rw[hd]at h3;have h4:=(Xp.Ko (p:=λb:UInt8=>b==32) (l.reverse.takeWhile (λb=>b==32)) b s (by rw[h3];exact hd)).2;rw[h4]at h1;cases h1.1
  have h3:=(De (p:=λb:UInt8=>b==32) _).1 h2;rw[List.all_reverse]at h3;exact h3
 .intro h
  have h3:l.reverse.dropWhile (λb=>b==32)=[]:=(De (p:=λb:UInt8=>b==32) _).2 (by rw[List.all_reverse];exact h);rw[h3];rfl
theorem Kt{nm l:List UInt8}{c:Nat}{u:Unit}{l1:List UInt8}{c1:Nat}(h:iQ nm c l=.ok u l1 c1):c1=c:=by
 unfold iQ at h;cases he:bB 47 c l with
 |bad l2=>rw[he]at h;cases h
 |ok u2 l2 c2=>
  rw[he]at h
  dsimp only at h
  cases hl:Xp.wW c nm l2 with
  |bad l3=>rw[hl]at h;cases h
  |ok u3 l3 c3=>rw[hl]at h;exact uF h
def AZ{α:Type}(x:α)(c:Nat):Rs Unit->Rs α
 |.bad l=>.bad l
 |.ok _ l _=>.ok x l c
def adZ(nm:List UInt8)(c:Nat):Rs (List UInt8)->Rs (List E×List UInt8)
 |.bad l=>.bad l
 |.ok t l _=>AZ ([],t) c (iQ nm c (l.drop 1))
def PN(nm ws:List UInt8):Rs (List E)->Rs (List E×List UInt8)
 |.bad l=>.bad l
 |.ok ks l c=>AZ (ks,if j4 ws&&ks.isEmpty then ws else []) c (iQ nm c l)
theorem JR{el:List UInt8->Nat->Rs E}{nm l:List UInt8}{c:Nat}(hd:l.dropWhile Dq=[]):dh el nm l c=.bad []:=by unfold dh;rw[hd]
theorem UI{el:List UInt8->Nat->Rs E}{nm l l2:List UInt8}{b:UInt8}{c:Nat}(hd:l.dropWhile Dq=b::l2)(hs:j4 (l.takeWhile Dq)=false):dh el nm l c=.bad (b::l2):=by
 unfold dh;rw[hd]
 dsimp only
 rw[if_pos hs]
theorem Ce{el:List UInt8->Nat->Rs E}{nm l l2:List UInt8}{b:UInt8}{c:Nat}(hd:l.dropWhile Dq=b::l2)(hb:¬b=60)(hs:j4 (l.takeWhile Dq)=true):dh el nm l c=adZ nm c (iZ 60 c (l.takeWhile Dq) (b::l2)):=by
 unfold dh;rw[hd]
 dsimp only
 rw[if_neg (by rw[hs];decide),if_neg hb];show _=adZ nm c (Xp.jl 60 c ((b::l2).length+1) (l.takeWhile Dq) (b::l2));cases ht:Xp.jl 60 c ((b::l2).length+1) (l.takeWhile Dq) (b::l2)with
 |bad l3=>rfl
 |ok t l3 c3=>
  show _=AZ ([],t) c (iQ nm c (l3.drop 1))
  dsimp only
  cases he:iQ nm c (l3.drop 1)with
  |bad l4=>rfl
  |ok u l4 c4=>rfl
theorem Cg{el:List UInt8->Nat->Rs E}{nm l l2:List UInt8}{b:UInt8}{c:Nat}(hd:l.dropWhile Dq=b::l2)(hb:b=60)(hs:j4 (l.takeWhile Dq)=true):dh el nm l c=PN nm (l.takeWhile Dq) (om el [] l2 c):=by
 unfold dh;rw[hd]
 dsimp only
 rw[if_neg (by rw[hs];decide),if_pos hb];show _=PN nm _ (Xp.jZ el (l2.length+1) [] l2 c);cases hk:Xp.jZ el (l2.length+1) [] l2 c with
 |bad l3=>rfl
 |ok ks l3 c3=>
  show _=AZ _ c3 (iQ nm c3 l3)
  dsimp only
  cases he:iQ nm c3 l3 with
  |bad l4=>rfl
  |ok u l4 c4=>rfl
theorem aac{el:List UInt8->Nat->Rs E}{ks:List E}{c:Nat}:om el ks [] c=.bad []:=by unfold om;rw[Xp.jZ]
theorem aad{el:List UInt8->Nat->Rs E}{ks:List E}{b:UInt8}{l l1:List UInt8}{c:Nat}(hb:¬b=47)(he:el (b::l) c=.bad l1):om el ks (b::l) c=.bad l1:=by
 unfold om;rw[Xp.jZ,if_neg hb,he]
theorem Rp{el:List UInt8->Nat->Rs E}{ks:List E}{b:UInt8}{l l1:List UInt8}{c c1:Nat}{e:E}(hb:¬b=47)(he:el (b::l) c=.ok e l1 c1)(hd:l1.dropWhile Dq=[]):om el ks (b::l) c=.bad []:=by
 unfold om;rw[Xp.jZ,if_neg hb,he]
 dsimp only
 rw[hd]
theorem Rq{el:List UInt8->Nat->Rs E}{ks:List E}{b b2:UInt8}{l l1 l3:List UInt8}{c c1:Nat}{e:E}(hb:¬b=47)(he:el (b::l) c=.ok e l1 c1)(hd:l1.dropWhile Dq=b2::l3)(hb2:¬b2=60):om el ks (b::l) c=.bad (b2::l3):=by
 unfold om;rw[Xp.jZ,if_neg hb,he]
 dsimp only
 rw[hd]
 dsimp only
 rw[if_neg hb2]
theorem wJ.stores{B n:Nat}{w8:W_}{es:List E}{e:E}{va vk x0 x1 x2 x3:Value}{g8 cap E0:Nat}(h:wJ B w8 es e va vk (.slice (A_ g8 0) (n+1) cap))(hn:es.length=n)(hb:af w8 E0 62 #[x0,x1,x2,x3])(hE:E0<B):
  (∀W,W=(zf w8 g8 (n*4) (S_ e.name) va vk (S_ e.QG)).setCell (B_ E0 2) (.slice (A_ g8 0) (n+1) cap)->
   af W E0 62 #[x0,x1,.slice (A_ g8 0) (n+1) cap,x3]/\fQ B W (es++[e]) (.slice (A_ g8 0) (n+1) cap)/\Touch (λi=>i=g8\/i=E0) w8 W)/\
  (∀W,W=zf (w8.setCell (B_ E0 2) (.slice (A_ g8 0) (n+1) cap)) g8 (n*4) (S_ e.name) va vk (S_ e.QG)->
   af W E0 62 #[x0,x1,.slice (A_ g8 0) (n+1) cap,x3]/\fQ B W (es++[e]) (.slice (A_ g8 0) (n+1) cap)/\Touch (λi=>i=g8\/i=E0) w8 W):=by
 obtain⟨g',cap',hv,_,jI,_⟩:=h.cells hn;cases hv;have t1:∀(w:W_) (v:Value),Touch (λk=>k=E0) w (w.setCell (B_ E0 2) v):=λw v=>(M (λk=>k=E0) w).setCell (p:=B_ E0 2) Wh v
 constructor
 .rintro W rfl
  have hp:=Ac w8 g8 (n*4) (S_ e.name) va vk (S_ e.QG);exact⟨(hp.QN hb λh=>by omega).put 2 _,(h.put hn).mv (t1 _ _) λk hk _=>by omega,(hp.mono λi hi=>.inl hi).trans ((t1 _ _).mono λi hi=>.inr hi)⟩
 .rintro W rfl
  exact⟨(Ac _ g8 (n*4) _ _ _ _).QN (hb.put 2 _) λh=>by omega,(h.mv (t1 w8 _) λk hk _=>by omega).put hn,((t1 w8 _).mono λi hi=>.inr hi).trans ((Ac _ g8 (n*4) _ _ _ _).mono λi hi=>.inl hi)⟩
attribute [local go_sem] gD stillUpon
theorem acr(S:Y_)(g n:Nat)(hS:S.size<=1099511627776)(hn:n<64)(ac:LP S g n)(d:Int)(nm:List UInt8)(va:Value)(E0:Nat)(l:List UInt8)(c:Nat)(w:W_)(a5:d=64-(n:Int))(aI:nm.length<=S.size)(Oo:E0≠g)
  (aL:af w E0 62 #[S_ nm,va,N_,E_]) (ae:Xr S g l c w) (hsp:j4 (l.takeWhile Dq)=true) (ab:Xp.ZF (dh (aR n) nm l c)):
  C_ 114 #[.pointer (A_ g 0),.pointer (A_ E0 0),V d] w λe w'=>XC S g E0 nm va w (dh (aR n) nm l c) e w':=by
 have jJ:=I ab;clear ab;have HX:=I ae;have HB:=I aL;have aN:=I ac;have uf:=I aI;have HD0:=I a5;have Vu:=I aL.lt;have aX:=I ae.lt;have hwd:IntKind.i64.wrap (d+1)=d+1:=IntWalk.i64_in _ Zo;have ap:=I (show d+1=65-(n:Int) by omega);have HWD:=I hwd;obtain⟨q0,q1,q2,_,_,_,_⟩:=fM ae.QN;obtain⟨ws,ak⟩:∃ws,l.takeWhile Dq=ws:=⟨_,rfl⟩;have az:=I ak;rw[ak]at hsp;have aA:S.size-l.length<=S.size:=Zo
 have Vw:=I ae.Ef;have yV:=I ae.len;obtain⟨k0,ad⟩:∃k,k=S.size-l.length:=⟨_,rfl⟩;have CX:=I ad;rw[<-ad]at q1;clear ad ae aL ac ak aI a5 hwd;have pJ:=I hsp;have Lt:=I (show j4 ws=true->ws.length<=200 from λh=>by unfold j4 at h;simp only[auY,decide_eq_true_eq]at h;exact h.2);have aQ:=I (show ws.length<=200 from Lt hsp);clear hsp;go_enter func114,ntmps114;go_wp2_with fail
 refine(vW S g c l w hS HX).mono ?_;rintro _ w1 ⟨rfl,ht,hx⟩;have je:=I hx;have ay:=I ht;have aC:=I (ht.QN HB λh=>Oo h);clear ht hx HX HB q0 q1 q2;generalize decide ((l.dropWhile Dq).length<l.length)=z0;obtain⟨q0,q1,q2,_,_,_,_⟩:=fM je.QN
 have CY:=I (show S.extract k0 (S.size-(l.dropWhile Dq).length)=⟨ws.toArray⟩from by
  have h:=zK (S:=S) (p:=l.takeWhile Dq) (r:=l.dropWhile Dq) aqL;rw[awd,<-CX.out,az.out]at h;exact h)
 have hdl:(l.dropWhile Dq).length<=l.length:=(Xp.bQ.dropWhile Dq l).len;have aD:(k0:Int)<=((S.size-(l.dropWhile Dq).length:Nat):Int):=by have:=CX.out;have:=yV.out;omega
 have hk2:((S.size-(l.dropWhile Dq).length:Nat):Int)<=(S.size:Int):=Zo
 have hk3:(0:Int)<=(k0:Int):=Zo
 have hk4:k0<=S.size-(l.dropWhile Dq).length:=Zo
 have aG:S.size-(l.dropWhile Dq).length<=S.size:=Zo
 generalize S.size-(l.dropWhile Dq).length=k at*;clear hdl;go_wp2
 go_quiet (fail)
 refine bK (λW=>ag w1 W) aes ?_;rintro w2 hf2;have p8:=I (je.QH hf2);have ao:=I (ay.trans (hf2.mono λ_ h=>h.elim));have aq:=I (hf2.QN aC λh=>h);clear hf2;clear je ay aC q0 q1 q2 aD hk2 hk3 hk4 aG;generalize S.extract k0 k=Bs at CY|-;have a4:=CY.out;subst a4;have aZ:(⟨ws.toArray⟩:Y_).size=ws.length:=rfl;go_wp2_with fail
 refine(Tryz.strings_Trim_one ⟨ws.toArray⟩ 32 Pf w2 (by rw[aZ];have:=aQ.out;omega)).mono ?_;rintro _ w4 ⟨rfl,hw4⟩
 have jf:ag w2 w4:=by
  rcases hw4 with rfl|rfl
  .exact M _ _
  .exact(M _ _).drewN 1
 have tZ:=I (p8.QH jf);have nU:=I (ao.trans (jf.mono λ_ h=>h.elim));have iB:=I (jf.QN aq λh=>h);clear jf hw4 p8 ao aq;have jK:=I (show(Lib.trimB (⟨ws.toArray⟩:Y_).data.toList 32).isEmpty=ws.all (λb=>b==32)from UH ws);generalize Lib.trimB (⟨ws.toArray⟩:Y_).data.toList 32=tr at jK|-
 have aa:tr.isEmpty=true:=by
  rw[jK.out];have h:=pJ.out;unfold j4 at h;rw[auY]at h;exact h.1
 have aiI:decide ((ws.length:Int)<=(200:Int))=true:=dT (by have:=aQ.out;omega);have aha:decide (ws.length<=200)=true:=dT aQ;go_wp2_with fail
 clear aa aiI aha jK;cases hd:l.dropWhile Dq with
 |nil=>
  exact Xp.sF jJ (JR hd)
 |cons b0 l3=>
  rw[hd]at tZ;have HD:=I hd;clear hd
  by_cases hb:b0=60
  rotate_left
  focus
   have av:((b0.toNat:Int) !=(60:Int))=true:=si b0 60 hb;have Xx:=I hb;clear hb;refine(fG S g c b0 l3 _ tZ).mono ?_;rintro _ w5 ⟨rfl,jO⟩;have iR:=I (tZ.QH jO);have iW:=I (nU.trans (jO.mono λ_ h=>h.elim));have eO:=I (jO.QN iB λh=>h);clear jO tZ nU iB;have yf:=I (Ce (el:=aR n) (nm:=nm) (c:=c) HD Xx (by rw[az.out];exact pJ));rw[az.out]at yf;have akH:ws.length<=200:=Lt pJ;have aiJ:=iR.lt;obtain⟨b5,al⟩:∃b,b=w5.heap.size:=⟨_,rfl⟩;have am:=eO.lt;have hgb:g<b5:=Zo
   have hEb:E0<b5:=Zo
   have akZ:w.heap.size<=b5:=by have:=iW.size;omega
   obtain⟨A0,n0,cp0,W6,aiK,aT,afR,Xy⟩:∃A0 n0 cp0 W6,(convert 9 52 (S_ ws)).run Tryz.prog w5=.ok (.slice A0 n0 cp0) W6/\ws.length=n0/\lQ b5 W6 ws (.slice A0 n0 cp0)/\ag w5 W6:=by
    obtain⟨h1,h2⟩:=lQ.conv w5 ⟨ws.toArray⟩ (by show ws.length<=_;omega)
    exact⟨_,_,_,_,Lib.run_convert_string_bytes w5 9 52 5 ⟨ws.toArray⟩ underlying9 underlying52 underlying5,rfl,by rw[al];exact h1,h2⟩
   have wK:=I afR;have iC:=I (iW.trans (Xy.mono λ_ h=>h.elim));have iJ:=I (iR.QH Xy);have gy:=I (Xy.QN eO λh=>h);clear al afR Xy iR iW eO aiJ am;go_wp2
   go_loopw [9] (λv wr=>∃(acc l1:List UInt8) (A:Option Addr) (nn cp:Nat),v=.slice A nn cp/\Hd (acc.length=nn)/\nn<=1000/\Hd (Xp.iZ 60 c ws (b0::l3)=Xp.iZ 60 c acc l1)/\Hd (lQ (b5) wr acc (.slice A nn cp))/\Hd (Touch (λb=>b=g) w wr)/\Hd (Xr S g l1 c wr)/\Hd (af wr E0 62 #[S_ nm,va,N_,E_])) (λ_ wr=>S.size-posOf g wr)
   case atStart=>exact⟨ws,b0::l3,A0,n0,cp0,rfl,I aT,by omega,I rfl,wK,iC,iJ,gy⟩
   case round=>
    obtain⟨acc,l1,A,nn,cp,rfl,wH,hn,kJ,HG,HT,HX,HB⟩:=hrel;rename_i wr _;have HP:=I (lN HX);have aK:=HX.lt;cases l1 with
    |nil=>
     exact Xp.sF jJ (by rw[yf.out,kJ.out,Xp.CZ];rfl)
    |cons b l2=>
     by_cases hb:b=60
     .have av:((b.toNat:Int) !=(60:Int))=false:=qC b 60 hb
      have Oj:=I (show Xp.iZ 60 c ws (b0::l3)=.ok acc (60::l2) c by rw[kJ.out,hb];exact Xp.C8 60 c acc l2);have aF:=I hb;clear hb;go_wp2_with fail
      refine(fG S g c b l2 _ HX).mono ?_;rintro _ w9 ⟨rfl,iT⟩;have qb:=I (HX.QH iT);have lS:=I akQ;have yz:=I (iT.QN HB λh=>h);have qL:=I (HG.QH iT);have HA:=I (show dh (aR n) nm l c=AZ ([],acc) c (iQ nm c l2) by rw[yf.out,Oj.out];rfl);clear iT;rw[aF.out]at qb;have hcv:=qL.str wH;obtain⟨e0,e1,e2,e3,y0,y1,y2,y3,aB⟩:=af.QM yz;obtain⟨q0,q1,q2,f0,f1,f2,hg⟩:=fM qb.QN;have hle:=qb.len;have hw:IntKind.i64.wrap (((S.size-(60::l2:List UInt8).length:Nat):Int)+1)=((S.size-(60::l2:List UInt8).length:Nat):Int)+1:=IntWalk.i64_in _ Zo;have ql:=I (show af (w9.setCell (B_ E0 3) (S_ acc)) E0 62 #[S_ nm,va,N_,S_ acc]from yz.put 3 _);have sJ:=I ((lS.mono λi (h:i=g)=>show i=g\/i=E0 from .inl h).setCell (p:=B_ E0 3) (.inl atG) (S_ acc));have AB:=I (qb.move ((M (λk=>k=E0) w9).setCell (p:=B_ E0 3) Wh (S_ acc)) Zo);have aH:=I AB.wG;have jg:=I (ql.far (p:=B_ g 1) (by show E0≠g;omega) (V (((S.size-(60::l2:List UInt8).length:Nat):Int)+1)));have Ol:=I (sJ.setCell (p:=B_ g 1) auk (V (((S.size-(60::l2:List UInt8).length:Nat):Int)+1)));generalize S.size-(60::l2:List UInt8).length=k at*;have aU:E0≠g:=Oo;have aV:g≠E0:=λh=>Oo h.symm
      have Rt:=I (show acc.length<=1000 by have:=wH.out;omega);clear aiK qL HG kJ Oj;go_wp2_with fail
      generalize World.setCell _ (B_ g 1) _=W9 at aH jg Ol|-;clear e0 e1 e2 e3 y0 y1 y2 y3 aB q0 q1 q2 f0 f1 f2 hg hle hw ql sJ AB yz qb lS hcv aU aV;have Aq:=I (show C_ 141 #[.pointer (A_ g 0),S_ nm] W9 λe w'=>XU S g W9 (iQ nm c l2) e w' from Kl S ⟨nm.toArray⟩ g c l2 W9 hS arv aH);refine Aq.mono ?_;intro e w10 he;cases hr:iQ nm c l2 with
      |bad l9=>
       exact atI
      |ok u l9 c9=>
       have Ow:=Kt hr;rw[Ow]at hr;clear Ow;have dB:=I (show dh (aR n) nm l c=.ok ([],acc) l9 c by rw[HA.out,hr];rfl);rw[hr]at he;obtain⟨rfl,ht,hx⟩:=he;have Fe:=I hx;have Ku:=I (ht.QN jg λh=>by omega);have Kv:=I (Ol.trans as6);have Kw:=I (show dz (λk=>k<w.heap.size) w10 λW=>gK W [] (N_)from λ_ _=>gK.nil none 0);clear ht hx hr Aq;go_wp2
       refine bodyPost_end (v:=.tuple #[]) Un rfl ?_;rw[dB.out];exact⟨rfl,_,_,_,Ku,(by have:=Rt.out;simp only[maxLen];show acc.length<=_;omega),Kw,Kv,Fe⟩
     .have av:((b.toNat:Int) !=(60:Int))=true:=si b 60 hb
      cases hr:jk nn c (b::l2)with
      |bad l7=>
       exact Xp.sF jJ (by rw[yf.out,kJ.out,Xp.G7 hb (by rw[wH.out];exact hr)];rfl)
      |ok x l7 c7=>
       have ZB:=I (show Xp.iZ 60 c ws (b0::l3)=Xp.iZ 60 c (acc++[x]) l7 by rw[kJ.out];exact Xp.AU hb (by rw[wH.out];exact hr));have aE:=Xp.Vx hr;have hlt:=Xp.BZ hr;have aP:=Xp.Oi hr;subst aP;have ah:=I hr;have G9:=I hlt;clear hb hr hlt;go_wp2_with fail
       refine(fG S g c7 b l2 _ HX).mono ?_;rintro _ w9 ⟨rfl,iT⟩;have qb:=I (HX.QH iT);have lS:=I akQ;have qL:=I (HG.QH iT);have yz:=I (iT.QN HB λh=>h);clear iT;go_wp2_with fail
       refine(G5 S g c7 nn (b::l2) _ hS Zo qb).mono ?_;intro e w3 he;rw[ah.out]at he;obtain⟨rfl,ht,hx⟩:=he;have p9:=I (hx.QH ((M _ w3).alloc (.cells #[.int .u8 (x.toNat:Int)] 5)));have aw:=I ((lS.trans ht).alloc (.cells #[.int .u8 (x.toNat:Int)] 5));have ZT:=I aq6;have kW:=I (af.new w3 5 #[.int .u8 (x.toNat:Int)]);have ai:=I ((ht.QN yz λh=>by omega).alloc (.cells #[.int .u8 (x.toNat:Int)] 5));clear ht hx
       go_wp2_with (at_builtin;go_loud (refine wpList_append_byte rfl (.tmp 46) (.tmp 51) rfl ZT wH WH x kW WH Zo ?_);intro A8 c8 w8 jI bR;refine jw.mk ?_)
       have HOW:=I ZT.pY;have LK:=I (p9.move bR λh=>by have:=(HOW _ h).1;omega);have Cb:=I atc;have wI:=I jI;have lT:=I (bR.QN ai λh=>by have:=(HOW _ h).1;omega);have HM:=I (lN LK);clear jI bR;refine jw.go ?_;go_wp2
       go_roundw
       case rel=>exact⟨acc++[x],l7,A8,nn+1,c8,rfl,I arY,by omega,ZB,wI,Cb,LK,lT⟩
       case measure=>
        exact asz
  have av:((b0.toNat:Int) !=(60:Int))=false:=qC b0 60 hb;have Xx:=I hb;clear hb;refine(fG S g c b0 l3 _ tZ).mono ?_;rintro _ w5 ⟨rfl,jO⟩;have iR:=I (tZ.QH jO);have iW:=I (nU.trans (jO.mono λ_ h=>h.elim));have eO:=I (jO.QN iB λh=>h);clear jO tZ nU iB;have aM:=I (Cg (el:=aR n) (nm:=nm) (c:=c) HD Xx (by rw[az.out];exact pJ));rw[az.out]at aM;have am:=eO.lt;have aiL:=Vu.out;have a6:=iR.len;rw[au0]at a6;rw[Xx.out]at iR;have iC:=I (iW.mono λi (h:i=g)=>show i=g\/i=E0 from .inl h);have wK:=I (show fQ w.heap.size w5 [] (N_)from fQ.nil iW.size);clear iW am;go_wp2
  go_loopw [] (λwr=>∃(ks:List E) (l1:List UInt8) (A:Option Addr) (nk cp c1:Nat),Hd (ks.length=nk)/\nk+l1.length<=S.size/\Hd (dh (aR n) nm l c=PN nm ws (om (aR n) ks l1 c1))/\Hd (af wr E0 62 #[S_ nm,va,.slice A nk cp,E_])/\Hd (fQ w.heap.size wr ks (.slice A nk cp))/\Hd (Touch (λb=>b=g\/b=E0) w wr)/\Hd (Xr S g (60::l1) c1 wr)) (λwr=>S.size-posOf g wr)
  case atStart=>exact⟨[],l3,none,0,0,c,I rfl,by omega,aM,eO,wK,iC,iR⟩
  case round=>
   clear iR iC eO wK aM a6;obtain⟨ks,l1,A,nk,cp,c1,VE,a7,ug,HB,HG,HT,HX⟩:=hrel;rename_i wr _;have HP:=I (lN HX);have am:=HB.lt;have aK:=HX.lt;obtain⟨q0,q1,q2,f0,f1,f2,hg⟩:=fM HX.QN;have hle:=HX.len;have hw:IntKind.i64.wrap (((S.size-(60::l1:List UInt8).length:Nat):Int)+1)=((S.size-(60::l1:List UInt8).length:Nat):Int)+1:=IntWalk.i64_in _ Zo;have AB:=I HX.wG;have sJ:=I (HT.setCell (p:=B_ g 1) auk (V (((S.size-(60::l1:List UInt8).length:Nat):Int)+1)));have ql:=I (HB.far (p:=B_ g 1) (by show E0≠g;exact Oo) (V (((S.size-(60::l1:List UInt8).length:Nat):Int)+1)));have LV:=I (HG.mv ((M (λb=>b=g) wr).setCell (p:=B_ g 1) Wh (V (((S.size-(60::l1:List UInt8).length:Nat):Int)+1))) λk hk _=>by omega);have AJ:=I hle;generalize ad:S.size-(60::l1:List UInt8).length=k at q1 hw AB sJ ql LV;have aJ:=I ad;clear ad;go_wp2_with fail
   generalize (wr.setCell (B_ g 1) (V ((k:Int)+1)))=wB at AB sJ ql LV|-;have an:=AB;have yB:=sJ;have gu:=ql;have aO:=LV;clear q0 q1 q2 f0 f1 f2 hg hle hw AB sJ ql LV HX HT HB HG am aK;have am:=gu.lt;have aK:=an.lt;cases l1 with
   |nil=>
    exact Xp.sF jJ (by rw[ug.out,aac];rfl)
   |cons b l2=>
   by_cases hb:b=47
   .have av:((b.toNat:Int)==(47:Int))=true:=by rw[hb];rfl
    have afS:=I hb;clear hb;refine(fG S g c1 b l2 _ an).mono ?_;rintro _ w9 ⟨rfl,iT⟩;have qb:=I (an.QH iT);have lS:=I (yB.trans (iT.mono λ_ h=>h.elim));have yz:=I (iT.QN gu λh=>h);have qL:=I (aO.QH iT);have Xz:=I (show om (aR n) ks (b::l2) c1=.ok ks (47::l2) c1 by rw[afS.out];exact Xp.Hr _ _ _ _);rw[afS.out]at qb;clear iT an yB gu aO;obtain⟨e0,e1,e2,e3,y0,y1,y2,y3,aB⟩:=af.QM yz
    by_cases aA:nk=0
    .have d0:((nk:Int)==(0:Int))=true:=by rw[aA];rfl
     have aY:=I (show ks=[]from List.length_eq_zero_iff.1 (by rw[VE.out];exact aA));have HA:=I (show dh (aR n) nm l c=AZ (ks,ws) c1 (iQ nm c1 (47::l2)) by rw[ug.out,Xz.out];show AZ (ks,if j4 ws&&ks.isEmpty then ws else []) c1 _=_;rw[pJ.out,aY.out];rfl);have HWL:=I (Lt pJ);have jg:=I (show af (w9.setCell (B_ E0 3) (S_ ws)) E0 62 #[S_ nm,va,.slice A nk cp,S_ ws]from yz.put 3 _);have Ol:=I (lS.setCell (p:=B_ E0 3) (.inl atG) (S_ ws));have aH:=I (qb.move aug Zo);have a8:=I (qL.mv aug aeO);clear ug Xz aA;go_wp2_with fail
     generalize (w9.setCell (B_ E0 3) (S_ ws))=W9 at aH jg Ol a8|-;clear e0 e1 e2 e3 y0 y1 y2 y3 aB qb lS yz qL d0;have Aq:=I (show C_ 141 #[.pointer (A_ g 0),S_ nm] W9 λe w'=>XU S g W9 (iQ nm c1 (47::l2)) e w' from Kl S ⟨nm.toArray⟩ g c1 (47::l2) W9 hS arv aH);refine Aq.mono ?_;intro e w10 he;cases hr:iQ nm c1 (47::l2)with
     |bad l9=>
      exact atI
     |ok u l9 c9=>
      have Ow:=Kt hr;rw[Ow]at hr;clear Ow;have dB:=I (show dh (aR n) nm l c=.ok (ks,ws) l9 c1 by rw[HA.out,hr];rfl);rw[hr]at he;obtain⟨rfl,ht,hx⟩:=he;have Fe:=I hx;have Ku:=I (ht.QN jg λh=>by omega);have Kv:=I (Ol.trans as6);have Kw:=I ((a8.mv ht λk hk _=>by omega).done);clear ht hx hr Aq;go_wp2
      refine bodyPost_end (v:=.tuple #[]) Un rfl ?_;rw[dB.out];exact⟨rfl,_,_,_,Ku,(by have:=HWL.out;simp only[maxLen];show ws.length<=_;omega),Kw,Kv,Fe⟩
    .have d0:((nk:Int)==(0:Int))=false:=by rw[beq_eq_false_iff_ne];omega
     have aY:=I (show ks.isEmpty=false by
      cases ar:ks with
      |nil=>have:=VE.out;rw[ar]at this;exact absurd this.symm aA
      |cons x xs=>rfl)
     clear aA;have HA:=I (show dh (aR n) nm l c=AZ (ks,[]) c1 (iQ nm c1 (47::l2)) by rw[ug.out,Xz.out];show AZ (ks,if j4 ws&&ks.isEmpty then ws else []) c1 _=_;rw[aY.out,avD];rfl);have uX:=I lS;clear ug Xz;go_wp2_with fail
     clear e0 e1 e2 e3 y0 y1 y2 y3 aB;have Aq:=I (show C_ 141 #[.pointer (A_ g 0),S_ nm] w9 λe w'=>XU S g w9 (iQ nm c1 (47::l2)) e w' from Kl S ⟨nm.toArray⟩ g c1 (47::l2) w9 hS arv qb);refine Aq.mono ?_;intro e w10 he;cases hr:iQ nm c1 (47::l2)with
     |bad l9=>
      exact atI
     |ok u l9 c9=>
      have Ow:=Kt hr;rw[Ow]at hr;clear Ow;have dB:=I (show dh (aR n) nm l c=.ok (ks,[]) l9 c1 by rw[HA.out,hr];rfl);rw[hr]at he;obtain⟨rfl,ht,hx⟩:=he;have Fe:=I hx;have Ku:=I (ht.QN yz λh=>by omega);have Kv:=I (uX.trans as6);have Kw:=I ((qL.mv ht λk hk _=>by omega).done);clear ht hx hr Aq;go_wp2
      refine bodyPost_end (v:=.tuple #[]) Un rfl ?_;rw[dB.out];exact⟨rfl,_,_,_,Ku,JI,Kw,Kv,Fe⟩
   .have av:((b.toNat:Int)==(47:Int))=false:=by rw[show((b.toNat:Int)==(47:Int))=(b==47)from Eg b 47,beq_eq_false_iff_ne];exact hb
    have XD:=I hb;clear hb;refine(fG S g c1 b l2 _ an).mono ?_;rintro _ w6 ⟨rfl,iT⟩;have iJ:=I (an.QH iT);have iC:=I (yB.trans (iT.mono λ_ h=>h.elim));have gy:=I (iT.QN gu λh=>h);have wK:=I (aO.QH iT);clear iT an yB gu aO;have ak0:=gy.lt;have ak1:=iJ.lt;obtain⟨e0,e1,e2,e3,y0,y1,y2,y3,aB⟩:=af.QM gy;go_wp2_with fail
    have k1:=cT (S:=λk=>k=g) e2 Oo;clear e0 e1 e2 e3 y0 y1 y2 y3 aB av;have hwd:=HWD.out;cases hr:aR n (b::l2) c1 with
    |bad l9=>exact Xp.sF jJ (by rw[ug.out,aad XD.out hr];rfl)
    |ok e1 l7 c7=>
     obtain⟨en,lF,qm,uh⟩:=e1;have ah:=I hr;clear hr
     refine CW (λW=>∃x:Turned (λk=>k=g) w6,W=x.W) (gq.of [(0,true),(1,true),(2,true),(3,true),(4,true),(5,true),(6,true),(8,true)] (.fork 7 (.lone 9 .nil) 9 (.lone 7 .nil))) [0,1,2,3,4,5,6,7,8,9] 10 (Array.replicate 10 true++Array.replicate 6 false) (λ_=>True)
      (gq.of [(11,true),(13,true),(14,true)] (.fork 12 (.lone 15 .nil) 15 (.lone 12 .nil))) [11,12,13,14,15] (Array.replicate 16 true) Pg Ph Pg ⟨⟨_,(M _ _).drewN 1⟩,rfl⟩ ?_
     unfold gq.of
     repeat(refine V9 ?_;first|done|unfold gq.of)
     clear k1;refine o6 ?_ ?_
     focus
      refine aW rfl (λK hK=>?_);go_wp2_with fail
      refine(aN (d+1) (b::l2) c1 _ ap ⟨_,_,_,ah⟩ (iJ.QH ((M _ _).drewN 1))).mono ?_;intro e w7 he;rw[ah.out]at he;obtain⟨ea,ek,rfl,ht,hst,hx⟩:=he;obtain⟨Aa,ca,Ht⟩:=hst.now.1.slice;obtain⟨Ab,cb,jW⟩:=hst.now.2.1.slice;simp only[E.Qx,E.Zn]at Ht jW;subst Ht jW;unfold ev;simp only[E.name,E.QG];have jy:=I (show Touch (λk=>k=g) w6 w7 from((M _ w6).drewN 1).trans ht);have tq:=I (show dz (λk=>k<w6.heap.size) w7 λW=>jd W (.mk en lF qm uh) (.slice Aa lF.length ca) (.slice Ab qm.length cb)from hst);have oh:=I hx;clear ht hst hx;go_wp2
      refine hK _ _ ⟨⟨_,jy⟩,rfl⟩ ?_;clear hK K;refine aW rfl (λK hK=>?_);go_wp2
      refine hK _ _ ⟨⟨_,jy.alloc _⟩,rfl⟩ ?_;clear hK K;have kW:=I (af.new w7 62 Z);have sJ:=I (jy.alloc (.cells Z 62));have AB:=I (oh.QH ((M _ w7).alloc (.cells Z 62)));have Ky:=I (tq.QH ((M _ w7).alloc (.cells Z 62)));generalize (w7.alloc (.cells Z 62))=wA at kW sJ AB Ky|-;obtain⟨bz,aS⟩:∃b,b=w7.heap.size:=⟨_,rfl⟩;rw[<-aS]at kW|-;clear aS jy tq oh
     rotate_left
     focus
      refine aW rfl (λK hK=>?_);go_wp2
      refine hK _ _ ⟨⟨_,((M _ w6).drewN 1).alloc _⟩,rfl⟩ ?_;clear hK K;have acs:=I (show af ((w6.drewN 1).alloc (.cells Z 62)) w6.heap.size 62 Z from af.new (w6.drewN 1) 62 Z);have gW:=I (show ag w6 ((w6.drewN 1).alloc (.cells Z 62))from((M _ w6).drewN 1).alloc _);have jy:=I (show Touch (λk=>k=g) w6 ((w6.drewN 1).alloc (.cells Z 62))from((M _ w6).drewN 1).alloc _);generalize ((w6.drewN 1).alloc (.cells Z 62))=w7 at acs gW jy|-;obtain⟨bz,aS⟩:∃b,b=w6.heap.size:=⟨_,rfl⟩;have a9:=I (show w6.heap.size≠g by omega);refine aW rfl (λK hK=>?_);go_wp2_with fail
      refine(aN (d+1) (b::l2) c1 _ ap ⟨_,_,_,ah⟩ (iJ.QH gW)).mono ?_;intro e wA he;rw[ah.out]at he;obtain⟨ea,ek,rfl,ht,hst,hx⟩:=he;obtain⟨Aa,ca,Ht⟩:=hst.now.1.slice;obtain⟨Ab,cb,jW⟩:=hst.now.2.1.slice;simp only[E.Qx,E.Zn]at Ht jW;subst Ht jW;unfold ev;simp only[E.name,E.QG];have sJ:=I (show Touch (λk=>k=g) w6 wA from jy.trans ht);have Ky:=I (show dz (λk=>k<w6.heap.size) wA λW=>jd W (.mk en lF qm uh) (.slice Aa lF.length ca) (.slice Ab qm.length cb)from hst.mono λi _ hi=>Nat.lt_of_lt_of_le hi gW.size);have AB:=I hx;have kW:=I (ht.QN acs a9);clear ht hst hx;go_wp2
      refine hK _ _ ⟨⟨_,sJ⟩,rfl⟩ ?_;clear hK K;rw[<-aS]at kW|-;clear aS jy acs gW a9
     all_goals
      have LV:=I (wK.mv sJ λk hk _=>by omega);have HOW:=I wK.pY;have ql:=I (sJ.QN gy λh=>Oo h);have xI:=I iC.size
      have afT:nk<2^40:=by
       have h:=a7;rw[au0]at h;omega
      have aiM:=I afT;clear afT;refine BU rfl (λK hK=>?_)
      go_wp2_with (at_builtin;go_loud (refine Gd rfl (.tmp 84) (.tmp 90) rfl LV VE WH (.mk en lF qm uh) kW WH w6.heap.size xI (λk hk=>(HOW k hk).2) Ky aiM ?_);intro A8 c8 w8 jI bR;refine jw.mk ?_)
      obtain⟨g8,ak2,ax,akI,ak3,ak4,a0,a1,a2,a3,f0,f1,f2,f3⟩:=jI.cells VE;cases ax;have o9:=bR.QN ql λh=>by have:=(HOW _ h).1;omega
      have LK:=I (AB.move bR λh=>by have:=(HOW _ h).1;omega);have Cb:=I (show Touch (λi=>i=g\/i=E0) w w8 from(iC.trans (sJ.mono λi hi=>.inl hi)).trans' bR λk hk=>.inr aey);have HST:=I (jI.stores VE o9 aiL);obtain⟨_,_,q3,_,_,_,z3,_,Rn⟩:=af.QM o9;have hne:E0≠g8:=Zo
      have aj:g8≠E0:=Zo
      have hr1:(nk:Int)<(nk:Int)+1:=Zo
      clear bR o9 jI;refine jw.go ?_;go_wp2
      refine hK _ _ trivial ?_;clear hK K
      repeat(refine V9 ?_)
      refine o6 ?_ ?_
      focus
       refine aW rfl (λK hK=>?_);go_wp2
       refine hK _ _ trivial ?_;clear hK K;refine aW rfl (λK hK=>?_);go_wp2
       refine hK _ _ trivial ?_;clear hK K;have lS:=I (HST.out.1 _ rfl);unfold zf at lS;simp only[E.name,E.QG]at lS;clear a0 a1 a2 a3 f0 f1 f2 f3 q3 z3 HST;generalize World.setCell _ (B_ E0 2) _=W9 at lS|-
      rotate_left
      focus
       refine aW rfl (λK hK=>?_);go_wp2
       refine hK _ _ trivial ?_;clear hK K;refine aW rfl (λK hK=>?_);go_wp2
       refine hK _ _ trivial ?_;clear hK K;have lS:=I (HST.out.2 _ rfl);unfold zf at lS;simp only[E.name,E.QG]at lS;clear a0 a1 a2 a3 f0 f1 f2 f3 q3 z3 HST;generalize World.setCell _ (B_ g8 (nk*4+3)) _=W9 at lS|-
      all_goals
       refine sQ ?_;obtain⟨kD,jA,sI⟩:=lS.out;have yz:=I kD;have qL:=I jA;have qb:=I (LK.move sI Zo);have afU:=I (show Touch (λi=>i=g\/i=E0) w W9 from Cb.trans' sI λi hi=>hi.elim (λh=>.inr Zo) λh=>.inl (.inr h));clear kD jA sI lS;go_wp2_with fail
       refine(vW S g c7 l7 _ hS qb).mono ?_;rintro _ w10 ⟨rfl,ht,hx⟩;have Kv:=I (afU.trans as6);have Ku:=I (ht.QN yz λh=>Oo h);have acu:=I (qL.mv ht λk hk _=>by omega);clear ht yz qL qb afU;generalize decide ((l7.dropWhile Dq).length<l7.length)=z9;cases au:l7.dropWhile Dq with
       |nil=>
        exact Xp.sF jJ (by rw[ug.out,Rp XD.out ah.out au];rfl)
       |cons b7 l8=>
        rw[au]at hx;have Fe:=I hx;have a':=I (show(b7::l8).length<=l7.length by rw[<-au];exact(Xp.bQ.dropWhile Dq l7).len)
        by_cases oo:b7=60
        .have aiN:((b7.toNat:Int) !=(60:Int))=false:=qC b7 60 oo
         have ack:=I (show dh (aR n) nm l c=PN nm ws (om (aR n) (ks++[.mk en lF qm uh]) l8 c7) by rw[ug.out,Xp.LW (λl c=>Xp.wR n l c) XD.out ah.out (by rw[au,oo])]);rw[oo]at Fe;have vv:=I oo;clear hx au oo;go_wp2_with fail
         refine(fG S g c7 b7 l8 _ (by rw[vv.out];exact Fe)).mono ?_;rintro _ w11 ⟨rfl,Ru⟩;have afV:=I (Fe.QH Ru);have aiO:=I (Kv.trans (Ru.mono λ_ h=>h.elim));have aiP:=I (Ru.QN Ku λh=>h);have acv:=I (acu.QH Ru);have HM:=I (lN afV);have lg:=I (Xp.wR n (b::l2) c1).len;rw[ah.out]at lg;clear Ru;go_wp2
         go_roundw
         case rel=>
          refine⟨ks++[.mk en lF qm uh],l8,(A_ g8 0),nk+1,c8,c7,I (by rw[auZ,VE.out];rfl),?_,ack,aiP,acv,aiO,afV⟩;have h1:=a'.out;have h2:l7.length<=(b::l2).length:=lg;rw[au0]at h1 h2 a7;omega
         case measure=>
          rw[HM.out,HP.out];have h0:=AJ.out;have h1:=a'.out;have h2:l7.length<=(b::l2).length:=lg;simp only[au0]at h0 h1 h2|-;omega
        .have aiN:((b7.toNat:Int) !=(60:Int))=true:=si b7 60 oo
         exact Xp.sF jJ (by rw[ug.out,Rq XD.out ah.out au oo];rfl)
theorem aae(S:Y_)(g n:Nat)(hS:S.size<=1099511627776)(hn:n<64)(ac:LP S g n):adY S g n:=by
 intro d nm va E0 l c w hd aI hE hB ab hX;cases hsp:j4 (l.takeWhile Dq)with
 |true=>exact acr S g n hS hn ac d nm va E0 l c w hd aI hE hB hX hsp ab
 |false=>
  cases ai:l.dropWhile Dq with
  |nil=>exact Xp.sF ab (JR ai)
  |cons b l2=>exact Xp.sF ab (UI ai hsp)
theorem Ox(S:Y_)(g:Nat)(hS:S.size<=1099511627776):∀n,n<=64->LP S g n
 |0,_=>ZY S g
 |n+1,h=>Xt S g n hS Zo (aae S g n hS Zo (Ox S g hS n Zo))
end
end Go.Proofs.YtabjglnjjdcfmaaGreatDoor
