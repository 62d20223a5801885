/- Part 1 of 48 of a proof. No condition. -/
namespace Go.Proofs.YtnbeemkfmlfgfaaGreatDoor
set_option maxRecDepth 100000
namespace Lx
abbrev Bytes:=List UInt8
def cls(c:Nat):Nat:=
 if c=32∨c=9∨c=10 then 1
 else if 48≤c∧c≤57 then 2
 else if(97≤c∧c≤122)∨(65≤c∧c≤90)then 3
 else if c∈[43,45,42,47,61,60,62,44,59,58,33,124,39,63,126,64]then 4
 else if c∈[123,125,40,41,91,93,94,95,38]then 5
 else 0
def Qv(k:Nat)(b:UInt8):Bool:=cls b.toNat==k
def zf(k:Nat)(l:Bytes):Nat:=(l.takeWhile (Qv k)).length
def acX(k:Nat)(l:Bytes)(i:Nat):Bool:=match l[i]? with|some b=>Qv k b|none=>false
structure Tok where
 kind:Nat
 text:Bytes
 deriving DecidableEq
inductive rX where
 |ok (t:Tok) (n:Nat)
 |err (at_ e:Nat)
 deriving DecidableEq
def lim(most:Nat)(t:Tok)(n:Nat):rX:=if most<t.text.length then .err 0 6 else .ok t n
def UD(r:Bytes):Nat:=
 if r[zf 2 r]?=some 46∧acX 2 r (zf 2 r+1)=true then zf 2 r+1+zf 2 (r.drop (zf 2 r+1))else zf 2 r
def number(r:Bytes):rX:=lim 20 ⟨2,r.take (UD r)⟩ (UD r)
def quo:Bytes→Bytes→Nat→rX
 |[],_,_=>.err 0 12
 |c::q,acc,i=>
  if c=34 then lim 200 ⟨3,acc⟩ (i+1)
  else if c<32∨126<c then .err i 3
  else if c=92 then
   match q with
   |[]=>.err i 3
   |d::q'=>if d=34∨d=92 then quo q' (acc++[d]) (i+2)else .err i 3
  else quo q (acc++[c]) (i+1)
def abB(b:UInt8):Bool:=[40,41,91,93,123,125,60,62,47,124,46].contains b
def Qw(r:Bytes)(i:Nat):Bool:=match r[i]? with|some b=>abB b|none=>false
def name(r:Bytes):rX:=
 let n:=zf 3 (r.drop 1)
 if(r.drop 1).take n≠[102,101,110,99,101]then lim 16 ⟨4,(r.drop 1).take n⟩ (1+n)
 else if Qw r (1+n)=true∧Qw r (2+n)=true then .ok ⟨5,(r.drop (1+n)).take 2⟩ (3+n)
 else .err 0 3
def aep(q:Bytes):Bool:=match q with|d::_=>decide (49≤d∧d≤52)|[]=>false
def next(r:Bytes):rX:=
 match r with
 |[]=>.err 0 3
 |c::q=>
  if Qv 2 c then number r
  else if Qv 5 c then .ok ⟨7,[c]⟩ 1
  else if c=34 then quo q [] 1
  else if c=92∧q.head?=some 92 then .ok ⟨8,[92,92]⟩ 2
  else if c=92∧acX 3 q 0=true then name r
  else if c=35∧aep q=true then .ok ⟨6,q.take 1⟩ 2
  else if Qv 3 c∨Qv 4 c then .ok ⟨1,[c]⟩ 1
  else .err 0 3
end Lx
namespace Tr
abbrev Bytes:=List UInt8
inductive Nd where
 |mk (kind:Int) (text:Bytes) (ai:Int) (kids:List Nd)
namespace Nd
def kind:Nd→Int|mk k _ _ _=>k
def text:Nd→Bytes|mk _ t _ _=>t
def ai:Nd→Int|mk _ _ c _=>c
def kids:Nd→List Nd|mk _ _ _ ks=>ks
end Nd
theorem Nd.eta(n:Nd):n=.mk n.kind n.text n.ai n.kids:=by cases n;rfl
mutual
def count:Nd→Nat
 |.mk _ _ _ ks=>1+aj ks
def aj:List Nd→Nat
 |[]=>0
 |n::ns=>count n+aj ns
end
mutual
def depth:Nd→Nat
 |.mk _ _ _ ks=>aP ks+1
def aP:List Nd→Nat
 |[]=>0
 |n::ns=>max (depth n) (aP ns)
end
theorem gQ(n:Nd):0<count n:=by cases n;rw[count];omega
theorem aI(n:Nd):count n=1+aj n.kids:=by cases n;rw[count];rfl
theorem mP(n:Nd):depth n=aP n.kids+1:=by cases n;rw[depth];rfl
theorem oo(l:List Nd)(i:Nat)(h:i<l.length):aj (l.take (i+1))=aj (l.take i)+count l[i]:=by
 induction l generalizing i with
 |nil=>simp at h
 |cons x l ih=>
  cases i with
  |zero=>simp[aj]
  |succ i=>
   simp only[List.take_succ_cons,aj,List.getElem_cons_succ];rw[ih i (by simpa using h)];omega
theorem kV(l:List Nd)(i:Nat):aj (l.take i)≤aj l:=by
 induction l generalizing i with
 |nil=>simp[aj]
 |cons x l ih=>
  cases i with
  |zero=>simp[aj]
  |succ i=>simp only[List.take_succ_cons,aj];have:=ih i;omega
theorem dm{l:List Nd}{n:Nd}(h:n∈l):count n≤aj l:=by
 induction l with
 |nil=>cases h
 |cons x l ih=>
  rw[aj]
  rcases List.mem_cons.1 h with rfl|h
  ·omega
  ·have:=ih h;omega
theorem gL(l:List Nd):l.length≤aj l:=by
 induction l with
 |nil=>simp[aj]
 |cons x l ih=>rw[aj];have:=gQ x;simp;omega
theorem Nd.ind{p:Nd→Prop}(h:∀n,(∀m∈n.kids,p m)→p n)(n:Nd):p n:=by
 have:∀k n,count n≤k→p n:=by
  intro k
  induction k with
  |zero=>intro n hn;have:=gQ n;omega
  |succ k ih=>
   intro n hn;refine h n fun m hm=>ih m ?_
   have:=dm hm;have:=aI n;omega
 exact this _ n (Nat.le_refl _)
def letter(b:UInt8):Bool:=(decide (97≤b)&&decide (b≤122))||(decide (65≤b)&&decide (b≤90))
def digit(b:UInt8):Bool:=decide (48≤b)&&decide (b≤57)
def signs:Bytes:=[43,45,42,47,61,60,62,44,59,58,33,124,39,63,126,64]
def su:Bytes:=[40,41,91,93,123,125,124,60,62,47,46]
def keywords:List Bytes:=[[102,114,97,99],[114,111,111,116],[109,97,116,114,105,120],[102,101,110,99,101]]
def fJ:List Bytes:=[[104,97,116],[98,97,114],[118,101,99],[100,111,116],[116,105,108,100,101],[99,104,101,99,107]]
def character(b:UInt8):Bool:=letter b||signs.contains b
def symbol(s:Bytes):Bool:=
 match s with
 |[c]=>character c
 |s=>s.all letter&&decide (2≤s.length)&&decide (s.length≤16)&&!keywords.contains s&&!fJ.contains s
def isNum(s:Bytes):Bool:=
 decide (s.length≤20)&&decide (s≠[])&&
 (s.all digit||match s.dropWhile (·≠46)with|_::b=>decide (s.takeWhile (·≠46)≠[])&&(s.takeWhile (·≠46)).all digit&&decide (b≠[])&&b.all digit|[]=>false)
def aK(s:Bytes):Bool:=s.all fun b=>decide (32≤b)&&decide (b≤126)
def fence(s:Bytes):Bool:=match s with|[a,b]=>su.contains a&&su.contains b|_=>false
def gI(k:Int)(s:Bytes):Bool:=
 if k=2 then symbol s else if k=3 then isNum s else if k=4 then decide (s.length≤200)&&aK s
 else if k=10 then fJ.contains s else if k=11 then fence s else s.isEmpty
def cZ(k c:Int)(n:Nat):Bool:=
 if k=12 then decide (1≤c)&&decide (c≤16)&&decide (1≤n)&&decide (n≤256)&&decide ((n:Int)%c=0)
 else if c≠0 then false
 else if k=1 then decide (n≤200)
 else if k=2∨k=3∨k=4 then decide (n=0)
 else if k=5∨k=6∨k=7∨k=8 then decide (n=2)
 else if k=9 then decide (n=3)
 else if k=10∨k=11 then decide (n=1)
 else false
mutual
def form:Nd→Bool
 |.mk k t c ks=>gI k t&&cZ k c ks.length&&ku (k==1) ks
def ku:Bool→List Nd→Bool
 |_,[]=>true
 |r,n::ns=>((n.kind==1) !=r)&&form n&&ku r ns
end
def valid(n:Nd):Bool:=(n.kind==1)&&form n&&decide (count n≤1000)&&decide (depth n≤24)
mutual
def DL:Nd→Nd→Bool
 |.mk k t c ks,.mk k' t' c' ks'=>(k==k')&&(t==t')&&(c==c')&&qI ks ks'
def qI:List Nd→List Nd→Bool
 |[],[]=>true
 |n::ns,m::ms=>DL n m&&qI ns ms
 |_,_=>false
end
theorem Qx:∀(l m:List Nd),l.length≠m.length→qI l m=false
 |[],[],h=>absurd rfl h
 |x::l,y::m,h=>by rw[qI,Qx l m (by simpa using h),Bool.and_false]
 |[],_::_,_=>by simp[qI]
 |_::_,[],_=>by simp[qI]
theorem mg(n:Nd):form n=(gI n.kind n.text&&cZ n.kind n.ai n.kids.length&&ku (n.kind==1) n.kids):=by
 cases n;rw[form];rfl
theorem Ij(r:Bool):∀(l:List Nd) (i:Nat) (h:i<l.length),ku r (l.take (i+1))=(ku r (l.take i)&&(((l[i].kind==1) !=r)&&form l[i]))
 |[],i,h=>by simp at h
 |x::l,0,h=>by simp[ku]
 |x::l,i+1,h=>by
  simp only[List.take_succ_cons,ku,List.getElem_cons_succ];rw[Ij r l i (by simpa using h)];simp only[Bool.and_assoc]
theorem MG(r:Bool):∀(l:List Nd) (i:Nat) (h:i<l.length),(((l[i].kind==1) !=r)&&form l[i])=false→ku r l=false
 |[],i,h,_=>by simp at h
 |x::l,0,h,hn=>by simp only[List.getElem_cons_zero]at hn;rw[ku,hn,Bool.false_and]
 |x::l,i+1,h,hn=>by
  simp only[List.getElem_cons_succ]at hn;rw[ku,MG r l i (by simpa using h) hn,Bool.and_false]
theorem UE(n m:Nd):DL n m=((n.kind==m.kind)&&(n.text==m.text)&&(n.ai==m.ai)&&qI n.kids m.kids):=by
 cases n;cases m;rw[DL];rfl
theorem Qy(n:Nd):∀m,DL n m=true↔n=m:=by
 induction n using Nd.ind with
 |h n ih=>
  intro m
  have hL:∀(l l':List Nd),(∀x∈l,∀y,DL x y=true↔x=y)→(qI l l'=true↔l=l'):=by
   intro l
   induction l with
   |nil=>
    intro l' _;cases l' with
    |nil=>simp[qI]
    |cons y l'=>simp[qI]
   |cons x l ih2=>
    intro l' h;cases l' with
    |nil=>simp[qI]
    |cons y l'=>
     rw[qI,Bool.and_eq_true,h x (by simp) y,ih2 l' (fun z hz=>h z (by simp[hz]))];simp
  rw[UE,Bool.and_eq_true,Bool.and_eq_true,Bool.and_eq_true,hL n.kids m.kids ih,beq_iff_eq,beq_iff_eq,beq_iff_eq,Nd.eta n,Nd.eta m];simp[Nd.kind,Nd.text,Nd.ai,Nd.kids,and_assoc]
end Tr
end Go.Proofs.YtnbeemkfmlfgfaaGreatDoor
