/- Part 17 of 48 of a proof. No condition. -/
import Derived.Test.YtnbeemkfmlfgfaaGreatDoorTm16
set_option maxRecDepth 100000
namespace Go.Proofs.YtnbeemkfmlfgfaaGreatDoor
namespace Xp
open U (E aA Bytes letter inner aK)
structure Loc{α:Type}(r:Bytes→Rs α):Prop where
 nK:∀l,aX (r l).left l
 ok:∀(q:Bytes) (b:UInt8) (l:Bytes) (x:α) (c:Nat),r (q++b::l)=.ok x (b::l) c→(∀o,r (q++b::o)=.ok x (b::o) c)∧(r q=.ok x [] c∨r q=.bad [])
 bad:∀(q:Bytes) (b:UInt8) (l:Bytes),r (q++b::l)=.bad (b::l)→(∀o,r (q++b::o)=.bad (b::o))∧r q=.bad []
def jf{α β:Type}(r:Bytes→Rs α)(f:α→Nat→Bytes→Rs β)(l:Bytes):Rs β:=match r l with
 |.bad l1=>.bad l1
 |.ok x l1 c=>f x c l1
theorem gu{α β:Type}{r:Bytes→Rs α}{f:α→Nat→Bytes→Rs β}{l l1:Bytes}(h:r l=.bad l1):jf r f l=.bad l1:=by unfold jf;rw[h]
theorem ig{α β:Type}{r:Bytes→Rs α}{f:α→Nat→Bytes→Rs β}{l l1:Bytes}{x:α}{c:Nat}(h:r l=.ok x l1 c):jf r f l=f x c l1:=by unfold jf;rw[h]
def Aj{α:Type}(f:UInt8→Bytes→Rs α):Bytes→Rs α
 |[]=>.bad []
 |b::l=>f b (b::l)
theorem Loc.mid{α:Type}{r:Bytes→Rs α}(h:Loc r){p m l:Bytes}{b:UInt8}{y:α}{c:Nat}(h1:r (p++(m++b::l))=.ok y (m++b::l) c):
  (∀o,r (p++(m++b::o))=.ok y (m++b::o) c)∧(r (p++m)=.ok y m c∨(m=[]∧r (p++m)=.bad [])):=by
 cases m with
 |nil=>
  obtain⟨h2,h3⟩:=h.ok p b l y c h1;refine⟨h2,?_⟩;rw[List.append_nil]
  rcases h3 with h3|h3
  ·exact .inl h3
  ·exact .inr ⟨rfl,h3⟩
 |cons b' m'=>
  obtain⟨h2,_⟩:=h.ok p b' (m'++b::l) y c h1;exact⟨fun o=>h2 (m'++b::o),.inl (h2 m')⟩
theorem Loc.bind{α β:Type}{r:Bytes→Rs α}{f:α→Nat→Bytes→Rs β}(hr:Loc r)(hf:∀x c,Loc (f x c)):Loc (jf r f):=by
 have afi:∀l,aX (jf r f l).left l:=by
  intro l;have h1:=hr.nK l;cases h:r l with
  |bad l1=>rw[gu h];rw[h]at h1;exact h1
  |ok x l1 c=>rw[ig h];rw[h]at h1;exact((hf x c).nK l1).trans h1
 have key:∀(q:Bytes) (b:UInt8) (l:Bytes) (y:α) (l1:Bytes) (c1:Nat),r (q++b::l)=.ok y l1 c1→(f y c1 l1).left=b::l→
   ∃m,l1=m++b::l∧(∀o,r (q++b::o)=.ok y (m++b::o) c1)∧(r q=.ok y m c1∨(m=[]∧r q=.bad [])):=by
  intro q b l y l1 c1 h1 h2;obtain⟨p,hp⟩:=hr.nK (q++b::l);obtain⟨m,hm⟩:=(hf y c1).nK l1;rw[h1]at hp;rw[h2]at hm;have hp:q++b::l=p++l1:=hp;subst hm;rw[←List.append_assoc]at hp;have hq:=List.append_cancel_right hp;subst hq;rw[List.append_assoc]at h1;obtain⟨h3,h4⟩:=hr.mid h1;exact⟨m,rfl,(fun o=>by rw[List.append_assoc];exact h3 o),h4⟩
 refine⟨afi,fun q b l x c h=>?_,fun q b l h=>?_⟩
 ·cases h1:r (q++b::l)with
  |bad l1=>rw[gu h1]at h;cases h
  |ok y l1 c1=>
   rw[ig h1]at h;obtain⟨m,rfl,h3,h4⟩:=key q b l y l1 c1 h1 (by rw[h];rfl);obtain⟨h5,h6⟩:=(hf y c1).ok m b l x c h;refine⟨fun o=>by rw[ig (h3 o)];exact h5 o,?_⟩
   rcases h4 with h4|⟨_,h4⟩
   ·rw[ig h4];exact h6
   ·rw[gu h4];exact .inr rfl
 ·cases h1:r (q++b::l)with
  |bad l1=>
   rw[gu h1]at h;have h:l1=b::l:=by injection h
   subst h;obtain⟨h5,h6⟩:=hr.bad q b l h1;exact⟨fun o=>gu (h5 o),gu h6⟩
  |ok y l1 c1=>
   rw[ig h1]at h;obtain⟨m,rfl,h3,h4⟩:=key q b l y l1 c1 h1 (by rw[h];rfl);obtain⟨h5,h6⟩:=(hf y c1).bad m b l h;refine⟨fun o=>by rw[ig (h3 o)];exact h5 o,?_⟩
   rcases h4 with h4|⟨_,h4⟩
   ·rw[ig h4];exact h6
   ·exact gu h4
theorem zB{q l:Bytes}(h:q++l=l):q=[]:=by
 have:=congrArg List.length h;rw[List.length_append]at this;exact List.length_eq_zero_iff.1 (by omega)
theorem Loc.stop{α:Type}:Loc (fun l=>(Rs.bad l:Rs α)):=by
 refine⟨fun l=>aX.refl l,(fun q b l x c h=>by cases h),fun q b l h=>?_⟩;have h:q++b::l=b::l:=by injection h
 have:=zB h;subst this;exact⟨fun o=>rfl,rfl⟩
theorem Loc.pure{α:Type}(x:α)(c:Nat):Loc (fun l=>Rs.ok x l c):=by
 refine⟨fun l=>aX.refl l,fun q b l y c' h=>?_,(fun q b l h=>by cases h)⟩;injection h with e1 e2 e3
 have:=zB e2;subst this e1 e3;exact⟨fun o=>rfl,.inl rfl⟩
theorem Loc.take{α:Type}(x:α)(c:Nat):Loc (fun l=>Rs.ok x (l.drop 1) c):=by
 refine⟨fun l=>aX.drop 1 l,fun q b l y c' h=>?_,(fun q b l h=>by cases h)⟩;injection h with e1 e2 e3
 subst e1 e3;cases q with
 |nil=>
  have:=congrArg List.length e2;simp only[List.nil_append,List.drop_succ_cons,List.drop_zero,List.length_cons]at this;omega
 |cons a q=>
  have:=zB (show q++b::l=b::l from e2);subst this;exact⟨fun o=>rfl,.inl rfl⟩
theorem Cv{p:UInt8→Bool}:∀(q:Bytes) (b:UInt8) (l:Bytes),(q++b::l).dropWhile p=b::l→q.all p=true∧p b=false
 |[],b,l,h=>by
  refine⟨rfl,?_⟩;cases hb:p b with
  |false=>rfl
  |true=>
   rw[List.nil_append,List.dropWhile_cons,if_pos hb]at h;have:=(aX.dropWhile p l).len;rw[h,List.length_cons]at this;omega
 |a::q,b,l,h=>by
  rw[List.cons_append,List.dropWhile_cons]at h;cases ha:p a with
  |false=>
   rw[if_neg (by rw[ha];decide)]at h;have:=congrArg List.length h;rw[List.length_cons,List.length_append,List.length_cons]at this;omega
  |true=>
   rw[if_pos ha]at h;obtain⟨h1,h2⟩:=Cv q b l h;exact⟨by rw[List.all_cons,ha,h1];rfl,h2⟩
theorem Cw{p:UInt8→Bool}:∀(q l:Bytes),q.all p=true→(q++l).takeWhile p=q++l.takeWhile p∧(q++l).dropWhile p=l.dropWhile p
 |[],_,_=>⟨rfl,rfl⟩
 |a::q,l,h=>by
  rw[List.all_cons,Bool.and_eq_true]at h;obtain⟨h1,h2⟩:=Cw q l h.2;rw[List.cons_append,List.takeWhile_cons,List.dropWhile_cons,if_pos h.1,if_pos h.1,h1,h2];exact⟨rfl,rfl⟩
theorem KX{p:UInt8→Bool}{b:UInt8}(l:Bytes)(h:p b=false):(b::l).takeWhile p=[]∧(b::l).dropWhile p=b::l:=by
 rw[List.takeWhile_cons,List.dropWhile_cons,h];exact⟨rfl,rfl⟩
theorem Loc.span{α:Type}(p:UInt8→Bool)(f:Bytes→α)(c:Nat):Loc (fun l=>Rs.ok (f (l.takeWhile p)) (l.dropWhile p) c):=by
 refine⟨fun l=>aX.dropWhile p l,fun q b l y c' h=>?_,(fun q b l h=>by cases h)⟩;injection h with e1 e2 e3
 obtain⟨h1,h2⟩:=Cv q b l e2
 have h3:∀o,(q++b::o).takeWhile p=q∧(q++b::o).dropWhile p=b::o:=fun o=>by
  obtain⟨h4,h5⟩:=Cw q (b::o) h1;obtain⟨h6,h7⟩:=KX o h2;rw[h4,h5,h6,h7,List.append_nil];exact⟨rfl,rfl⟩
 rw[(h3 l).1]at e1;subst e1 e3;refine⟨fun o=>by rw[(h3 o).1,(h3 o).2],.inl ?_⟩;obtain⟨h4,h5⟩:=Cw q [] h1;rw[List.append_nil]at h4 h5;rw[h4,h5,List.takeWhile_nil,List.dropWhile_nil,List.append_nil]
theorem Loc.Bc{α:Type}{f:UInt8→Bytes→Rs α}(h:∀b,Loc (f b)):Loc (Aj f):=by
 refine⟨fun l=>?_,fun q b l x c h1=>?_,fun q b l h1=>?_⟩
 ·cases l with
  |nil=>exact aX.refl _
  |cons b l=>exact(h b).nK _
 ·cases q with
  |nil=>exact⟨((h b).ok [] b l x c h1).1,.inr rfl⟩
  |cons a q=>exact(h a).ok (a::q) b l x c h1
 ·cases q with
  |nil=>exact⟨((h b).bad [] b l h1).1,rfl⟩
  |cons a q=>exact(h a).bad (a::q) b l h1
theorem Loc.ite{α:Type}{P:Prop}[Decidable P]{r1 r2:Bytes→Rs α}(h1:Loc r1)(h2:Loc r2):Loc (if P then r1 else r2):=by
 split
 ·exact h1
 ·exact h2
theorem Loc.fuel{α:Type}{r:Nat→Bytes→Rs α}{rA:Bytes→Rs α}(h:∀f,Loc (r f))(hf:∀l f,l.length<f→r f l=rA l):Loc rA:=by
 refine⟨fun l=>?_,fun q b l x c h1=>?_,fun q b l h1=>?_⟩
 ·rw[←hf l (l.length+1) (by omega)];exact(h _).nK l
 ·rw[←hf _ ((q++b::l).length+1) (by omega)]at h1
  constructor
  ·intro o
   have hl:=hf (q++b::l) ((q++b::l).length+1) (by omega);rw[h1]at hl;have h2:=hf (q++b::l) ((q++b::l).length+(q++b::o).length+1) (by omega);rw[←hl]at h2;rw[←hf _ ((q++b::l).length+(q++b::o).length+1) (by omega)];exact((h _).ok q b l x c h2).1 o
  ·rw[←hf q ((q++b::l).length+1) (by rw[List.length_append];omega)]
   exact((h _).ok q b l x c h1).2
 ·rw[←hf _ ((q++b::l).length+1) (by omega)]at h1
  constructor
  ·intro o
   have hl:=hf (q++b::l) ((q++b::l).length+1) (by omega);rw[h1]at hl;have h2:=hf (q++b::l) ((q++b::l).length+(q++b::o).length+1) (by omega);rw[←hl]at h2;rw[←hf _ ((q++b::l).length+(q++b::o).length+1) (by omega)];exact((h _).bad q b l h2).1 o
  ·rw[←hf q ((q++b::l).length+1) (by rw[List.length_append];omega)]
   exact((h _).bad q b l h1).2
theorem Loc.of_eq{α:Type}{r r':Bytes→Rs α}(h:Loc r)(e:∀l,r' l=r l):Loc r':=by
 have:r'=r:=funext e;rw[this];exact h
theorem tT(b:UInt8)(c:Nat):Loc (aL b c):=by
 refine(Loc.Bc (f:=fun x=>if x=b then(fun l=>Rs.ok () (l.drop 1) c)else(fun l=>Rs.bad l)) fun x=>Loc.ite (Loc.take () c) Loc.stop).of_eq fun l=>?_
 cases l with
 |nil=>rfl
 |cons x l=>
  show(if x=b then _ else _)=(if x=b then _ else _:Bytes→Rs Unit) (x::l);split<;>rfl
theorem Zc(c:Nat):Loc (jy c):=by
 refine(Loc.Bc (f:=fun x=>if letter x=true then(fun l=>Rs.ok (l.takeWhile inner) (l.dropWhile inner) c)else(fun l=>Rs.bad l)) fun x=>Loc.ite (Loc.span inner (fun ws=>ws) c) Loc.stop).of_eq fun l=>?_
 cases l with
 |nil=>rfl
 |cons x l=>
  show(if letter x=true then _ else _)=(if letter x=true then _ else _:Bytes→Rs Bytes) (x::l);split<;>rfl
theorem wu{c:Nat}{p l:Bytes}{b:UInt8}(h1:bI.find? (fun x=>x.1==p++[b])=none)(h2:bI.any (fun x=>pre (p++[b]) x.1)=false):bn c p (b::l)=.bad (b::l):=by
 rw[bn,h1,h2];rfl
theorem tV{c:Nat}{p l:Bytes}{b:UInt8}{x:Bytes×UInt8}(h1:bI.find? (fun x=>x.1==p++[b])=some x):bn c p (b::l)=.ok x.2 l c:=by
 rw[bn,h1]
theorem yO{c:Nat}{p l:Bytes}{b:UInt8}(h1:bI.find? (fun x=>x.1==p++[b])=none)(h2:bI.any (fun x=>pre (p++[b]) x.1)=true):bn c p (b::l)=bn c (p++[b]) l:=by
 rw[bn,h1,h2];rfl
theorem VA(c:Nat)(p:Bytes):bn c p []=.bad []:=by rw[bn]
theorem Bd(c:Nat):∀(q p:Bytes) (b:UInt8) (l:Bytes),(∀x c',bn c p (q++b::l)=.ok x (b::l) c'→(∀o,bn c p (q++b::o)=.ok x (b::o) c')∧(bn c p q=.ok x [] c'∨bn c p q=.bad []))∧
  (bn c p (q++b::l)=.bad (b::l)→(∀o,bn c p (q++b::o)=.bad (b::o))∧bn c p q=.bad [])
 |[],p,b,l=>by
  have hlt:∀r:Rs UInt8,aX r.left l→r.left≠b::l:=fun r h e=>by
   have:=h.len;rw[e,List.length_cons]at this;omega
  rw[List.nil_append];cases h1:bI.find? (fun x=>x.1==p++[b])with
  |some y=>
   rw[tV h1];exact⟨fun x c' h=>absurd (congrArg Rs.left h) (hlt _ (aX.refl l)),(fun h=>by cases h)⟩
  |none=>
   cases h2:bI.any (fun x=>pre (p++[b]) x.1)with
   |true=>
    rw[yO h1 h2];exact⟨fun x c' h=>absurd (congrArg Rs.left h) (hlt _ (wh c l _)),fun h=>absurd (congrArg Rs.left h) (hlt _ (wh c l _))⟩
   |false=>
    exact⟨(fun x c' h=>by rw[wu h1 h2]at h;cases h),fun _=>⟨fun o=>wu h1 h2,VA c p⟩⟩
 |a::q,p,b,l=>by
  rw[List.cons_append];cases h1:bI.find? (fun x=>x.1==p++[a])with
  |some y=>
   rw[tV h1];refine⟨fun x c' h=>?_,(fun h=>by cases h)⟩;injection h with e1 e2 e3
   have:=zB e2;subst this e1 e3;exact⟨fun o=>tV h1,.inl (tV h1)⟩
  |none=>
   cases h2:bI.any (fun x=>pre (p++[a]) x.1)with
   |true=>
    obtain⟨i1,i2⟩:=Bd c q (p++[a]) b l;simp only[List.cons_append,yO h1 h2];exact⟨i1,i2⟩
   |false=>
    rw[wu h1 h2];refine⟨(fun x c' h=>by cases h),fun h=>?_⟩;have h:a::(q++b::l)=b::l:=by injection h
    have:=zB (show(a::q)++b::l=b::l from h);cases this
theorem Zd(c:Nat)(p:Bytes):Loc (bn c p):=⟨fun l=>wh c l p,fun q b l x c'=>(Bd c q p b l).1 x c',fun q b l=>(Bd c q p b l).2⟩
theorem Ze(n c:Nat):Loc (gZ n c):=by
 refine(Loc.Bc (f:=fun b=>if 200≤n∨b=60∨aK b=false then(fun l=>Rs.bad l)else if b=38 then bn c []else(fun l=>Rs.ok b (l.drop 1) c)) fun x=>Loc.ite Loc.stop (Loc.ite (Zd c []) (Loc.take x c))).of_eq fun l=>?_
 cases l with
 |nil=>rfl
 |cons b l=>
  show(if 200≤n∨b=60∨aK b=false then _ else if b=38 then _ else _)=(if 200≤n∨b=60∨aK b=false then _ else if b=38 then _ else _:Bytes→Rs UInt8) (b::l);split
  ·rfl
  ·split<;>rfl
theorem KY(q:UInt8)(c:Nat):∀(f:Nat) (acc:Bytes),Loc (bY q c f acc)
 |0,acc=>Loc.stop.of_eq fun l=>by rw[bY]
 |f+1,acc=>by
  refine(Loc.Bc (f:=fun b=>if b=q then(fun l=>Rs.ok acc l c)else jf (gZ acc.length c) (fun x _=>bY q c f (acc++[x]))) fun x=>Loc.ite (Loc.pure acc c) (Loc.bind (Ze _ _) fun x _=>KY q c f (acc++[x]))).of_eq fun l=>?_
  cases l with
  |nil=>rw[bY];rfl
  |cons b l=>
   rw[bY];show(if b=q then _ else _)=(if b=q then _ else _:Bytes→Rs Bytes) (b::l);split
   ·rfl
   ·cases h:gZ acc.length c (b::l)with
    |bad l2=>rw[gu h]
    |ok x l2 c2=>rw[ig h]
theorem NN(q:UInt8)(c:Nat)(acc:Bytes):Loc (fZ q c acc):=Loc.fuel (r:=fun f=>bY q c f acc) (fun f=>KY q c f acc) fun l f h=>II q c f acc l h
theorem Zf(ats:aA)(c:Nat):Loc (gH ats c):=by
 refine(Loc.bind (Zc c) (f:=fun nm _=>Aj (fun b=>if b≠61∨ats.any (fun x=>x.1==nm)=true then(fun l=>Rs.bad l)else
   jf (fun l=>Rs.ok () (l.drop 1) c) (fun _ _=>jf (aL 34 c) (fun _ _=>jf (fZ 34 c []) (fun v _ l=>Rs.ok (nm,v) (l.drop 1) c))))) fun nm _=>Loc.Bc fun b=>Loc.ite Loc.stop
   (Loc.bind (Loc.take () c) fun _ _=>Loc.bind (tT 34 c) fun _ _=>Loc.bind (NN 34 c []) fun v _=>Loc.take (nm,v) c)).of_eq fun l=>?_
 cases h:jy c l with
 |bad l1=>rw[gu h,sJ h]
 |ok nm l1 c1=>
  rw[ig h,ve h];cases l1 with
  |nil=>rfl
  |cons b l2=>
   show(if b≠61∨ats.any (fun x=>x.1==nm)=true then _ else _)=(if b≠61∨ats.any (fun x=>x.1==nm)=true then _ else _:Bytes→Rs (Bytes×Bytes)) (b::l2);split
   ·rfl
   ·show uL nm c (aL 34 c l2)=jf (aL 34 c) _ l2
    cases he:aL 34 c l2 with
    |bad l3=>rw[gu he];rfl
    |ok u l3 c3=>
     rw[ig he];show uK nm c (fZ 34 c [] l3)=_;cases ht:fZ 34 c [] l3 with
     |bad l4=>rw[gu ht];rfl
     |ok v l4 c4=>rw[ig ht];rfl
theorem QW{l l2:Bytes}{b:UInt8}(h:l.dropWhile white=b::l2):((b::l2).length<l.length)=((l.takeWhile white)≠[]):=by
 have h1:(l.takeWhile white++l.dropWhile white).length=l.length:=by rw[List.takeWhile_append_dropWhile]
 rw[h,List.length_append]at h1;apply propext
 constructor
 ·intro h2 h3
  rw[h3,List.length_nil]at h1;omega
 ·intro h2
  have:(l.takeWhile white).length≠0:=fun h=>h2 (List.length_eq_zero_iff.1 h)
  omega
theorem KZ(c:Nat):∀(f:Nat) (ats:aA),Loc (iK c f ats)
 |0,ats=>Loc.stop.of_eq fun l=>by rw[iK]
 |f+1,ats=>by
  refine(Loc.bind (Loc.span white (fun ws=>ws) c) (f:=fun ws _=>Aj (fun b=>if b=47 then jf (fun l=>Rs.ok () (l.drop 1) c) (fun _ _=>jf (aL 62 c) (fun _ _ l=>Rs.ok (ats,true) l c))
    else if b=62 then(fun l=>Rs.ok (ats,false) (l.drop 1) c)else if ws≠[]∧letter b=true∧ats.length<8 then jf (gH ats c) (fun a _=>iK c f (ats++[a]))else(fun l=>Rs.bad l))) fun ws _=>Loc.Bc fun b=>Loc.ite
    (Loc.bind (Loc.take () c) fun _ _=>Loc.bind (tT 62 c) fun _ _=>Loc.pure (ats,true) c) (Loc.ite (Loc.take (ats,false) c) (Loc.ite (Loc.bind (Zf ats c) fun a _=>KZ c f (ats++[a])) Loc.stop))).of_eq fun l=>?_
  rw[iK];show _=Aj _ (l.dropWhile white);cases hd:l.dropWhile white with
  |nil=>rfl
  |cons b l2=>
   show(if b=47 then _ else if b=62 then _ else if(b::l2).length<l.length∧letter b=true∧ats.length<8 then _ else _)=(if b=47 then _ else if b=62 then _ else if l.takeWhile white≠[]∧letter b=true∧ats.length<8 then _ else _:Bytes→Rs (aA×Bool)) (b::l2)
   by_cases h47:b=47
   ·rw[if_pos h47,if_pos h47]
    show _=jf (aL 62 c) _ l2;cases he:aL 62 c l2 with
    |bad l3=>rw[gu he]
    |ok u l3 c3=>rw[ig he]
   ·rw[if_neg h47,if_neg h47]
    by_cases xe:b=62
    ·rw[if_pos xe,if_pos xe];rfl
    ·rw[if_neg xe,if_neg xe]
     by_cases hc:l.takeWhile white≠[]∧letter b=true∧ats.length<8
     ·rw[if_pos (by rw[QW hd];exact hc),if_pos hc]
      cases ha:gH ats c (b::l2)with
      |bad l3=>rw[gu ha]
      |ok a l3 c3=>rw[ig ha]
     ·rw[if_neg (by rw[QW hd];exact hc),if_neg hc]
theorem QX(c:Nat):∀s:Bytes,Loc (iX c s)
 |[]=>(Loc.pure () c).of_eq fun l=>by rw[iX]
 |b::s=>(Loc.bind (tT b c) fun _ _=>QX c s).of_eq fun l=>by
  rw[iX];cases he:aL b c l with
  |bad l1=>rw[gu he]
  |ok u l1 c1=>rw[ig he]
theorem QY(nm:Bytes)(c:Nat):Loc (fe nm c):=by
 refine(Loc.bind (tT 47 c) fun _ _=>Loc.bind (QX c nm) fun _ _=>Loc.bind (Loc.span white (fun _=>()) c) fun _ _=>tT 62 c).of_eq fun l=>?_
 unfold fe;cases he:aL 47 c l with
 |bad l1=>rw[gu he]
 |ok u l1 c1=>
  rw[ig he]
  dsimp only
  cases hl:iX c nm l1 with
  |bad l2=>rw[gu hl]
  |ok u l2 c2=>rw[ig hl];rfl
theorem K3{el:Bytes→Nat→Rs E}(hel:∀c,Loc fun l=>el l c):∀(f:Nat) (ks:List E) (c:Nat),Loc fun l=>fG el f ks l c
 |0,ks,c=>Loc.stop.of_eq fun l=>by rw[fG]
 |f+1,ks,c=>by
  refine(Loc.Bc (f:=fun b=>if b=47 then(fun l=>Rs.ok ks l c)else jf (fun l=>el l c) (fun e c1=>jf (fun l=>Rs.ok () (l.dropWhile white) c1) (fun _ _=>Aj (fun b2=>if b2=60 then jf (fun l=>Rs.ok () (l.drop 1) c1) (fun _ _ l=>fG el f (ks++[e]) l c1)else(fun l=>Rs.bad l)))))
   fun b=>Loc.ite (Loc.pure ks c) (Loc.bind (hel c) fun e c1=>Loc.bind (Loc.span white (fun _=>()) c1) fun _ _=>Loc.Bc fun b2=>Loc.ite (Loc.bind (Loc.take () c1) fun _ _=>K3 hel f (ks++[e]) c1) Loc.stop)).of_eq fun l=>?_
  cases l with
  |nil=>rw[fG];rfl
  |cons b l=>
   rw[fG];show(if b=47 then _ else _)=(if b=47 then _ else _:Bytes→Rs (List E)) (b::l);split
   ·rfl
   ·cases he:el (b::l) c with
    |bad l1=>rw[gu (r:=fun l=>el l c) he]
    |ok e l1 c1=>
     rw[ig (r:=fun l=>el l c) he];show _=Aj _ (l1.dropWhile white)
     dsimp only
     cases hd:l1.dropWhile white with
     |nil=>rfl
     |cons b2 l3=>
      show(if b2=60 then _ else _)=(if b2=60 then _ else _:Bytes→Rs (List E)) (b2::l3);split<;>rfl
theorem P5{el:Bytes→Nat→Rs E}(hel:∀l c,aX (el l c).left l):∀(m f:Nat) (ks:List E) (l:Bytes) (c:Nat),l.length≤m→l.length<f→fG el f ks l c=fG el (l.length+1) ks l c:=by
 intro m
 induction m with
 |zero=>
  intro f ks l c hm hf;obtain⟨f,rfl⟩:∃k,f=k+1:=⟨f-1,by omega⟩;have:l=[]:=List.length_eq_zero_iff.1 (by omega);subst this;rw[fG,fG]
 |succ m ih=>
  intro f ks l c hm hf;obtain⟨f,rfl⟩:∃k,f=k+1:=⟨f-1,by omega⟩;cases l with
  |nil=>rw[fG,fG]
  |cons b l=>
   rw[fG,fG];have h1:=(hel (b::l) c).len;split
   ·rfl
   ·cases he:el (b::l) c with
    |bad l1=>rfl
    |ok e l1 c1=>
     rw[he]at h1;have h1:l1.length≤(b::l).length:=h1;have h2:=(aX.dropWhile white l1).len
     dsimp only
     cases hd:l1.dropWhile white with
     |nil=>rfl
     |cons b2 l3=>
      rw[hd]at h2;rw[List.length_cons]at hm hf h1 h2
      dsimp only
      split
      ·rw[ih f (ks++[e]) l3 c1 (by omega) (by omega),ih (b::l).length (ks++[e]) l3 c1 (by omega) (by rw[List.length_cons];omega)]
      ·rfl
theorem IX{el:Bytes→Nat→Rs E}(hel:∀l c,aX (el l c).left l)(f:Nat)(ks:List E)(l:Bytes)(c:Nat)(h:l.length<f):fG el f ks l c=fG el (l.length+1) ks l c:=P5 hel _ f ks l c (Nat.le_refl _) h
def jK(el:Bytes→Nat→Rs E)(ks:List E)(l:Bytes)(c:Nat):Rs (List E):=fG el (l.length+1) ks l c
theorem Zg{el:Bytes→Nat→Rs E}(hel:∀c,Loc fun l=>el l c)(ks:List E)(c:Nat):Loc fun l=>jK el ks l c:=
 Loc.fuel (r:=fun f l=>fG el f ks l c) (fun f=>K3 hel f ks c) fun l f h=>IX (fun l c=>(hel c).nK l) f ks l c h
theorem P6{el:Bytes→Nat→Rs E}(hel:∀c,Loc fun l=>el l c)(nm:Bytes)(c:Nat):Loc fun l=>aD el nm l c:=by
 refine(Loc.bind (Loc.span white (fun ws=>ws) c) (f:=fun ws _=>Aj (fun b=>if b=60 then
    jf (fun l=>Rs.ok () (l.drop 1) c) (fun _ _=>jf (fun l=>jK el [] l c) (fun ks c3=>jf (fe nm c3) (fun _ _ l=>Rs.ok (ks,if bH ws&&ks.isEmpty then ws else []) l c3)))
   else if bH ws=false then(fun l=>Rs.bad l)else jf (fZ 60 c ws) (fun t _=>jf (fun l=>Rs.ok () (l.drop 1) c) (fun _ _=>jf (fe nm c) (fun _ _ l=>Rs.ok ([],t) l c)))))
   fun ws _=>Loc.Bc fun b=>Loc.ite (Loc.bind (Loc.take () c) fun _ _=>Loc.bind (Zg hel [] c) fun ks c3=>Loc.bind (QY nm c3) fun _ _=>Loc.pure _ c3)
    (Loc.ite Loc.stop (Loc.bind (NN 60 c ws) fun t _=>Loc.bind (Loc.take () c) fun _ _=>Loc.bind (QY nm c) fun _ _=>Loc.pure _ c))).of_eq fun l=>?_
 show aD el nm l c=Aj _ (l.dropWhile white);unfold aD;cases hd:l.dropWhile white with
 |nil=>rfl
 |cons b l2=>
  show(if b=60 then _ else if bH (l.takeWhile white)=false then _ else _)=(if b=60 then _ else if bH (l.takeWhile white)=false then _ else _:Bytes→Rs (List E×Bytes)) (b::l2);split
  ·show _=jf (fun l=>jK el [] l c) _ l2
   cases hk:fG el (l2.length+1) [] l2 c with
   |bad l3=>rw[gu (r:=fun l=>jK el [] l c) hk]
   |ok ks l3 c3=>
    rw[ig (r:=fun l=>jK el [] l c) hk]
    dsimp only
    cases he:fe nm c3 l3 with
    |bad l4=>rw[gu he]
    |ok u l4 c4=>rw[ig he]
  ·split
   ·rfl
   ·cases ht:bY 60 c ((b::l2).length+1) (l.takeWhile white) (b::l2)with
    |bad l3=>rw[gu (r:=fZ 60 c (l.takeWhile white)) ht]
    |ok t l3 c3=>
     rw[ig (r:=fZ 60 c (l.takeWhile white)) ht];show _=jf (fe nm c) _ (l3.drop 1)
     dsimp only
     cases he:fe nm c (l3.drop 1)with
     |bad l4=>rw[gu he]
     |ok u l4 c4=>rw[ig he]
theorem NP:∀(n c:Nat),Loc fun l=>au n l c
 |0,c=>Loc.stop.of_eq fun l=>by rw[au]
 |n+1,c=>by
  refine(Loc.Bc (f:=fun b=>if letter b=false∨3000≤c then(fun l=>Rs.bad l)else jf (fun l=>Rs.ok (l.takeWhile inner) (l.dropWhile inner) (c+1)) (fun nm _=>jf (iK (c+1) 9 []) (fun p _=>
    match p with
    |(ats,true)=>fun l=>Rs.ok (.mk nm ats [] []) l (c+1)
    |(ats,false)=>jf (fun l=>aD (au n) nm l (c+1)) (fun q c2 l=>Rs.ok (.mk nm ats q.1 q.2) l c2))))
   fun b=>Loc.ite Loc.stop (Loc.bind (Loc.span inner (fun ws=>ws) (c+1)) fun nm _=>Loc.bind (KZ (c+1) 9 []) fun p _=>by
    obtain⟨ats,z⟩:=p;cases z with
    |true=>exact Loc.pure _ (c+1)
    |false=>exact Loc.bind (P6 (NP n) nm (c+1)) fun q c2=>Loc.pure _ c2)).of_eq fun l=>?_
  cases l with
  |nil=>rw[au];rfl
  |cons b l=>
   rw[au];show(if letter b=false∨3000≤c then _ else _)=(if letter b=false∨3000≤c then _ else _:Bytes→Rs E) (b::l);split
   ·rfl
   ·show _=jf (iK (c+1) 9 []) _ ((b::l).dropWhile inner)
    cases ha:iK (c+1) 9 [] ((b::l).dropWhile inner)with
    |bad l1=>rw[gu ha]
    |ok p l1 c1=>
     rw[ig ha];obtain⟨ats,z⟩:=p;cases z with
     |true=>rfl
     |false=>
      dsimp only
      cases hc:aD (au n) ((b::l).takeWhile inner) l1 (c+1)with
      |bad l2=>rw[gu (r:=fun l0=>aD (au n) ((b::l).takeWhile inner) l0 (c+1)) hc]
      |ok q l2 c2=>rw[ig (r:=fun l0=>aD (au n) ((b::l).takeWhile inner) l0 (c+1)) hc]
def SH:Bytes→Rs E:=jf (fun l=>Rs.ok () (l.dropWhile white) 0) (fun _ _=>jf (aL 60 0) (fun _ _=>jf (fun l=>au 64 l 0) (fun e c l=>Rs.ok e (l.dropWhile white) c)))
theorem Zh:Loc SH:=Loc.bind (Loc.span white (fun _=>()) 0) fun _ _=>Loc.bind (tT 60 0) fun _ _=>Loc.bind (NP 64 0) fun e c=>Loc.span white (fun _=>e) c
def abm:Rs E→Rs E
 |.bad l1=>.bad l1
 |.ok e [] c=>.ok e [] c
 |.ok _ (b::l1) _=>.bad (b::l1)
theorem Ml(l:Bytes):dV l=abm (SH l):=by
 show dV l=abm (jf (aL 60 0) _ (l.dropWhile white));unfold dV;cases he:aL 60 0 (l.dropWhile white)with
 |bad l1=>rw[gu he];rfl
 |ok u l1 c1=>
  rw[ig he]
  dsimp only
  cases hl:au 64 l1 0 with
  |bad l2=>rw[gu (r:=fun l=>au 64 l 0) hl];rfl
  |ok e l2 c2=>
   rw[ig (r:=fun l=>au 64 l 0) hl]
   dsimp only
   cases hd:l2.dropWhile white with
   |nil=>rfl
   |cons b l3=>rfl
theorem BI(l:Bytes):aX (dV l).left l:=by
 have h:=Zh.nK l;rw[Ml];cases h1:SH l with
 |bad l1=>rw[h1]at h;exact h
 |ok e l1 c=>
  rw[h1]at h;cases l1 with
  |nil=>exact h
  |cons b l1=>exact h
end Xp
namespace U
def jB(b:UInt8):Bytes:=if b=38 then [38,97,109,112,59]else if b=60 then [38,108,116,59]else if b=62 then [38,103,116,59]else if b=34 then [38,113,117,111,116,59]else [b]
def cB(s:Bytes):Bytes:=s.flatMap jB
theorem K4(s:Bytes)(b:UInt8):cB (s++[b])=cB s++jB b:=by unfold cB;rw[List.flatMap_append];simp
theorem Zi:cB []=[]:=rfl
def rz(a:Bytes×Bytes):Bytes:=32::a.1++[61,34]++cB a.2++[34]
def eH(l:aA):Bytes:=l.flatMap rz
theorem Gc(l:aA)(j:Nat)(h:j<l.length):eH (l.take (j+1))=eH (l.take j)++rz l[j]:=by
 unfold eH;rw[List.take_add_one,List.getElem?_eq_getElem h,List.flatMap_append];simp
theorem Ej(l:aA)(j:Nat):(eH (l.take j)).length≤(eH l).length:=by
 have:eH l=eH (l.take j)++eH (l.drop j):=by unfold eH;rw[←List.flatMap_append,List.take_append_drop]
 rw[this,List.length_append];omega
mutual
def eO:E→Bytes
 |.mk n a ks t=>60::n++eH a++(if t.isEmpty&&ks.isEmpty then [47,62]else 62::cB t++dY ks++([60,47]++n++[62]))
def dY:List E→Bytes
 |[]=>[]
 |x::xs=>eO x++dY xs
end
theorem wz(l:List E):dY l=l.flatMap eO:=by
 induction l with
 |nil=>rw[dY];rfl
 |cons x l ih=>rw[dY,ih,List.flatMap_cons]
theorem Gd(l:List E)(j:Nat)(h:j<l.length):dY (l.take (j+1))=dY (l.take j)++eO l[j]:=by
 rw[wz,wz,List.take_add_one,List.getElem?_eq_getElem h,List.flatMap_append];simp
theorem K5(l:List E)(j:Nat):(dY (l.take j)).length≤(dY l).length:=by
 have:dY l=dY (l.take j)++dY (l.drop j):=by rw[wz,wz,wz,←List.flatMap_append,List.take_append_drop]
 rw[this,List.length_append];omega
end U
namespace Xp
open U (E aA Bytes letter inner aK jB cB rz eH eO dY eG bG dQ pM proper jI count aj depth aP)
theorem xB(p:UInt8→Bool)(h:∀n:Fin 256,p (UInt8.ofNat n.1)=true)(b:UInt8):p b=true:=by
 have:=h ⟨b.toNat,b.toNat_lt⟩;simpa using this
theorem sG{b:UInt8}(h:letter b=true):inner b=true:=by
 have:=xB (fun b=>!letter b||inner b) (by decide+kernel) b;rw[h]at this;simpa using this
theorem NQ{b:UInt8}(h:letter b=true):white b=false∧b≠47∧b≠62∧b≠60∧b≠34∧b≠61:=by
 have:=xB (fun b=>!letter b||(!white b&&b !=47&&b !=62&&b !=60&&b !=34&&b !=61)) (by decide+kernel) b;rw[h]at this;simpa[and_assoc]using this
theorem Gf{b:UInt8}(h:aK b=true)(h2:white b=true):b=32:=by
 have:=xB (fun b=>!(aK b&&white b)||b==32) (by decide+kernel) b;rw[h,h2]at this;simpa using this
theorem zC{p:UInt8→Bool}{q:Bytes}{b:UInt8}{l:Bytes}(h:q.all p=true)(h2:p b=false):(q++b::l).takeWhile p=q∧(q++b::l).dropWhile p=b::l:=by
 obtain⟨h4,h5⟩:=Cw q (b::l) h;obtain⟨h6,h7⟩:=KX l h2;rw[h4,h5,h6,h7,List.append_nil];exact⟨rfl,rfl⟩
theorem Em(b:UInt8)(c:Nat)(l:Bytes):aL b c (b::l)=.ok () l c:=if_pos rfl
theorem Zj(n c:Nat)(b:UInt8)(r:Bytes)(hn:n<200)(hp:aK b=true):gZ n c (jB b++r)=.ok b r c:=by
 have hno:∀x:UInt8,x≠60→aK x=true→¬(200≤n∨x=60∨aK x=false):=fun x h1 h2 h=>by
  rcases h with h|h|h
  ·omega
  ·exact h1 h
  ·rw[h2]at h;cases h
 unfold jB
 by_cases h1:b=38
 ·subst h1
  rw[if_pos rfl];show(if 200≤n∨(38:UInt8)=60∨aK 38=false then _ else if(38:UInt8)=38 then _ else _)=_;rw[if_neg (hno 38 (by decide) hp),if_pos rfl];simp[bn,bI,pre]
 by_cases h2:b=60
 ·subst h2
  rw[if_neg h1,if_pos rfl];show(if 200≤n∨(38:UInt8)=60∨aK 38=false then _ else if(38:UInt8)=38 then _ else _)=_;rw[if_neg (hno 38 (by decide) (by decide)),if_pos rfl];simp[bn,bI,pre]
 by_cases h3:b=62
 ·subst h3
  rw[if_neg h1,if_neg h2,if_pos rfl];show(if 200≤n∨(38:UInt8)=60∨aK 38=false then _ else if(38:UInt8)=38 then _ else _)=_;rw[if_neg (hno 38 (by decide) (by decide)),if_pos rfl];simp[bn,bI,pre]
 by_cases h4:b=34
 ·subst h4
  rw[if_neg h1,if_neg h2,if_neg h3,if_pos rfl];show(if 200≤n∨(38:UInt8)=60∨aK 38=false then _ else if(38:UInt8)=38 then _ else _)=_;rw[if_neg (hno 38 (by decide) (by decide)),if_pos rfl];simp[bn,bI,pre]
 rw[if_neg h1,if_neg h2,if_neg h3,if_neg h4];show(if 200≤n∨b=60∨aK b=false then _ else if b=38 then _ else _)=_;rw[if_neg (hno b h2 hp),if_neg h1];rfl
theorem K6(b q:UInt8)(h:q=34∨q=60):∃x l,jB b=x::l∧x≠q:=by
 unfold jB;split
 ·exact⟨38,_,rfl,by rcases h with rfl|rfl<;>decide⟩
 ·split
  ·exact⟨38,_,rfl,by rcases h with rfl|rfl<;>decide⟩
  ·split
   ·exact⟨38,_,rfl,by rcases h with rfl|rfl<;>decide⟩
   ·split
    ·exact⟨38,_,rfl,by rcases h with rfl|rfl<;>decide⟩
    ·exact⟨b,[],rfl,by rcases h with rfl|rfl<;>assumption⟩
theorem En(b:UInt8)(s:Bytes):cB (b::s)=jB b++cB s:=rfl
theorem NR(q:UInt8)(hq:q=34∨q=60)(c:Nat):∀(v acc r:Bytes),v.all aK=true→acc.length+v.length≤200→fZ q c acc (cB v++q::r)=.ok (acc++v) (q::r) c
 |[],acc,r,_,_=>by rw[List.append_nil];exact xY q c acc r
 |b::v,acc,r,h,hl=>by
  rw[List.all_cons,Bool.and_eq_true]at h;rw[List.length_cons]at hl;obtain⟨x,l,hx,hxq⟩:=K6 b q hq;have h1:=Zj acc.length c b (cB v++q::r) (by omega) h.1;rw[En,List.append_assoc];rw[hx,List.cons_append]at h1⊢;rw[wm hxq h1,NR q hq c v (acc++[b]) r h.2 (by rw[List.length_append];simp only[List.length_cons,List.length_nil];omega),List.append_assoc];rfl
theorem SI{nm:Bytes}(h:eG nm=true):∃b s,nm=b::s∧letter b=true∧nm.all inner=true:=by
 cases nm with
 |nil=>cases h
 |cons b s=>
  have h:(letter b&&s.all inner)=true:=h;rw[Bool.and_eq_true]at h;exact⟨b,s,rfl,h.1,by rw[List.all_cons,sG h.1,h.2];rfl⟩
theorem QZ(c:Nat):∀(s r:Bytes),iX c s (s++r)=.ok () r c
 |[],r=>by rw[iX];rfl
 |b::s,r=>by
  rw[iX,List.cons_append,Em];exact QZ c s r
theorem VB(nm gap r:Bytes)(c:Nat)(hg:gap.all white=true):fe nm c (47::(nm++(gap++62::r)))=.ok () r c:=by
 unfold fe;rw[Em]
 dsimp only
 rw[QZ]
 dsimp only
 rw[(zC hg (by decide)).2,Em]
theorem x9(el:Bytes→Nat→Rs E)(ks:List E)(l:Bytes)(c:Nat):jK el ks (47::l) c=.ok ks (47::l) c:=by
 unfold jK;rw[fG];exact if_pos rfl
theorem yP{el:Bytes→Nat→Rs E}(hel:∀l c,aX (el l c).left l){ks:List E}{b:UInt8}{l l1 l3:Bytes}{c c1:Nat}{e:E}(hb:b≠47)(he:el (b::l) c=.ok e l1 c1)(hd:l1.dropWhile white=60::l3):jK el ks (b::l) c=jK el (ks++[e]) l3 c1:=by
 unfold jK;rw[fG,if_neg hb,he]
 dsimp only
 rw[hd]
 dsimp only
 rw[if_pos rfl];refine IX hel _ _ _ _ ?_;have h1:=(hel (b::l) c).len;rw[he]at h1;have h1:l1.length≤(b::l).length:=h1;have h2:=(aX.dropWhile white l1).len;rw[hd,List.length_cons]at h2;omega
def xL(gap:Bytes):List E→Bytes
 |[]=>gap
 |k::ks=>gap++eO k++xL gap ks
def Cx(gap:Bytes)(e:E):Bytes:=e.name++(eH e.attrs++(if e.kids.isEmpty then(if e.text.isEmpty then [47,62]else 62::(cB e.text++60::47::(e.name++[62])))else 62::(xL gap e.kids++60::47::(e.name++(gap++[62])))))
def yQ(gap:Bytes)(tail:Bytes):List E→Bytes
 |[]=>47::tail
 |k::ks=>Cx [] k++(gap++60::yQ gap tail ks)
theorem K7:∀ks:List E,xL [] ks=dY ks
 |[]=>by rw[xL,dY]
 |k::ks=>by rw[xL,dY,K7 ks];rfl
theorem SK(e:E)(h:pM e=true):eO e=60::Cx [] e:=by
 obtain⟨nm,a,ks,t⟩:=e;unfold pM at h;simp only[Bool.and_eq_true,Bool.or_eq_true]at h;have h1:=h.1.1.2;rw[eO];unfold Cx;simp only[U.E.name,U.E.attrs,U.E.kids,U.E.text]at h1⊢;rw[K7];cases ks with
 |nil=>
  cases t with
  |nil=>simp
  |cons b t=>simp[dY]
 |cons k ks=>
  cases t with
  |nil=>simp[cB]
  |cons b t=>simp at h1
theorem Q0(gap tail:Bytes):∀ks:List E,(∀k∈ks,pM k=true)→xL gap ks++60::47::tail=gap++60::yQ gap tail ks
 |[],_=>by rw[xL,yQ]
 |k::ks,h=>by
  rw[xL,yQ,List.append_assoc,List.append_assoc,Q0 gap tail ks fun x hx=>h x (List.mem_cons_of_mem _ hx),SK k (h k (List.mem_cons_self ..))];simp
theorem VC{gap:Bytes}{e:E}(h:pM e=true):∃b l,(∀r,Cx gap e++r=b::(l++r))∧letter b=true:=by
 unfold pM at h;simp only[Bool.and_eq_true]at h;obtain⟨b,s,hb,hl,_⟩:=SI h.1.1.1.1;refine⟨b,s++(eH e.attrs++(if e.kids.isEmpty then(if e.text.isEmpty then [47,62]else 62::(cB e.text++60::47::(e.name++[62])))else 62::(xL gap e.kids++60::47::(e.name++(gap++[62]))))),fun r=>?_,hl⟩;unfold Cx;rw[hb];rfl
theorem Q3{n:Nat}{gap:Bytes}(hg:gap.all white=true)(tail:Bytes):∀(ks done:List E) (c:Nat),(∀k∈ks,pM k=true)→(∀k∈ks,∀(r:Bytes) (c:Nat),c+count k≤3000→au n (Cx [] k++r) c=.ok k r (c+count k))→c+aj ks≤3000→
  jK (au n) done (yQ gap tail ks) c=.ok (done++ks) (47::tail) (c+aj ks)
 |[],done,c,_,_,_=>by rw[yQ,x9,List.append_nil,aj];rfl
 |k::ks,done,c,ho,h,hc=>by
  rw[aj]at hc⊢;rw[yQ];have h1:=h k (List.mem_cons_self ..) (gap++60::yQ gap tail ks) c (by omega);obtain⟨b,l,hb,hl⟩:=VC (gap:=[]) (ho k (List.mem_cons_self ..));rw[hb]at h1⊢
  rw[yP (fun l c=>jQ n l c) (NQ hl).2.1 h1 (zC hg (by decide)).2,
   Q3 hg tail ks (done++[k]) (c+count k) (fun x hx=>ho x (List.mem_cons_of_mem _ hx)) (fun x hx=>h x (List.mem_cons_of_mem _ hx)) (by omega),List.append_assoc,Nat.add_assoc]
  rfl
theorem Zk(s t:Bytes):cB (s++t)=cB s++cB t:=by unfold cB;rw[List.flatMap_append]
theorem Gg:∀s:Bytes,s.all aK=true→s.all white=true→cB s=s
 |[],_,_=>rfl
 |b::s,h1,h2=>by
  rw[List.all_cons,Bool.and_eq_true]at h1 h2;have:=Gf h1.1 h2.1;subst this;rw[En,Gg s h1.2 h2.2];rfl
theorem IY:∀s:Bytes,s.all aK=true→s.all white=true→s.all (fun b=>b==32)=true
 |[],_,_=>rfl
 |b::s,h1,h2=>by
  rw[List.all_cons,Bool.and_eq_true]at h1 h2;have:=Gf h1.1 h2.1;subst this;rw[List.all_cons,IY s h1.2 h2.2];rfl
theorem ab0{p:UInt8→Bool}{s t:Bytes}(h:(s++t).all p=true):s.all p=true∧t.all p=true:=by
 rw[List.all_append,Bool.and_eq_true]at h;exact h
theorem SL(t:Bytes):(t.takeWhile white).all white=true:=by
 induction t with
 |nil=>rfl
 |cons b t ih=>
  rw[List.takeWhile_cons];split
  ·rename_i h
   rw[List.all_cons,h,ih];rfl
  ·rfl
theorem SN{t:Bytes}{b:UInt8}{s:Bytes}(h:t.dropWhile white=b::s):white b=false:=by
 have:=List.takeWhile_append_dropWhile (p:=white) (l:=t);rw[h]at this;have h2:=(Cv (p:=white) (t.takeWhile white) b s (by rw[this];exact h)).2;exact h2
theorem zD(el:Bytes→Nat→Rs E){nm t r:Bytes}{c:Nat}(ht:t≠[])(hv:bG t=true):aD el nm (cB t++60::47::(nm++62::r)) c=.ok ([],t) r c:=by
 unfold bG at hv;simp only[Bool.and_eq_true,decide_eq_true_eq]at hv;obtain⟨hp,hl⟩:=hv;have hsplit:=List.takeWhile_append_dropWhile (p:=white) (l:=t);have hws:=SL t;obtain⟨ws,hwe⟩:∃ws,t.takeWhile white=ws:=⟨_,rfl⟩;obtain⟨s,hse⟩:∃s,t.dropWhile white=s:=⟨_,rfl⟩;have hdw:∀b s',s=b::s'→white b=false:=fun b s' h=>SN (by rw[hse,h])
 rw[hwe]at hws hsplit;rw[hse]at hsplit;clear hwe hse;subst hsplit;obtain⟨p1,p2⟩:=ab0 hp;have hsp:=IY ws p1 hws;have Vn:ws.length≤200:=by rw[List.length_append]at hl;omega
 have hSB:bH ws=true:=by unfold bH;rw[hsp,decide_eq_true Vn];rfl
 have hend:=VB nm [] r c rfl;rw[List.nil_append]at hend;rw[Zk,Gg ws p1 hws,List.append_assoc];unfold aD;cases s with
 |nil=>
  rw[List.append_nil]at ht⊢;show(match(ws++60::47::(nm++62::r)).dropWhile white with|[]=>_|b::l2=>_)=_;obtain⟨t1,t2⟩:=zC (p:=white) (l:=47::(nm++62::r)) (b:=60) hws (by decide);show(match(ws++60::47::(nm++62::r)).dropWhile white with|[]=>_|b::l2=>if b=60 then _ else _)=_;rw[show(ws++(cB []++60::47::(nm++62::r)))=ws++60::47::(nm++62::r)from rfl,t1,t2]
  dsimp only
  rw[if_pos rfl];have hk:fG el ((47::(nm++62::r)).length+1) [] (47::(nm++62::r)) c=.ok [] (47::(nm++62::r)) c:=x9 el [] _ c;rw[hk]
  dsimp only
  rw[hend,hSB];rfl
 |cons b s=>
  have hb:=hdw b s rfl;rw[List.all_cons,Bool.and_eq_true]at p2;obtain⟨x,l,hx,afj⟩:=K6 b 60 (.inr rfl)
  have hxw:white x=false:=by
   have hx':jB b=x::l:=hx;unfold jB at hx';split at hx'
   ·cases hx';decide
   ·split at hx'
    ·cases hx';decide
    ·split at hx'
     ·cases hx';decide
     ·split at hx'
      ·cases hx';decide
      ·cases hx';exact hb
  have htx:=NR 60 (.inr rfl) c (b::s) ws (47::(nm++62::r)) (by rw[List.all_cons,p2.1,p2.2];rfl) (by rw[List.length_append]at hl;exact hl);have e1:cB (b::s)++60::47::(nm++62::r)=x::(l++(cB s++60::47::(nm++62::r))):=by rw[En,hx,List.append_assoc,List.cons_append]
  rw[e1]at htx⊢;obtain⟨t1,t2⟩:=zC (p:=white) (l:=l++(cB s++60::47::(nm++62::r))) hws hxw;rw[t1,t2]
  dsimp only
  rw[if_neg afj,if_neg (by rw[hSB];decide)];have htx:bY 60 c ((x::(l++(cB s++60::47::(nm++62::r)))).length+1) ws (x::(l++(cB s++60::47::(nm++62::r))))=_:=htx;rw[htx]
  dsimp only
  rw[List.drop_succ_cons,List.drop_zero,hend]
theorem sM{n:Nat}{gap nm r:Bytes}{ks:List E}{c:Nat}(hg:gap.all white=true)(hk:ks≠[])(ho:∀k∈ks,pM k=true)(h:∀k∈ks,∀(r:Bytes) (c:Nat),c+count k≤3000→au n (Cx [] k++r) c=.ok k r (c+count k))(hc:c+aj ks≤3000):
  aD (au n) nm (xL gap ks++60::47::(nm++(gap++62::r))) c=.ok (ks,[]) r (c+aj ks):=by
 rw[Q0 gap _ ks ho];obtain⟨t1,t2⟩:=zC (p:=white) (l:=yQ gap (nm++(gap++62::r)) ks) (b:=60) hg (by decide);unfold aD;rw[t1,t2]
 dsimp only
 rw[if_pos rfl];have h1:=Q3 hg (nm++(gap++62::r)) ks [] c ho h hc;unfold jK at h1;rw[h1]
 dsimp only
 rw[VB nm gap r _ hg];cases ks with
 |nil=>exact absurd rfl hk
 |cons k ks=>
  dsimp only
  rw[List.nil_append,List.isEmpty_cons,Bool.and_false];rfl
end Xp
end Go.Proofs.YtnbeemkfmlfgfaaGreatDoor
