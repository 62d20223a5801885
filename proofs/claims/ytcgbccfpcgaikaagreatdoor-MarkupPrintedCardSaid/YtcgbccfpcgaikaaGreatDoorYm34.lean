/- Part 34 of 46 of a proof. No condition. -/
import Derived.Test.YtcgbccfpcgaikaaGreatDoorYm33
import Derived.Test.YtcgbccfpcgaikaaGreatDoorYm15
set_option maxRecDepth 100000
set_option maxHeartbeats 4000000
namespace Go.Proofs.YtcgbccfpcgaikaaGreatDoor
namespace Np
open Lx (aB)
open Tr (Nd)
def Al(l l':List aB):Prop:=l.map Lx.tok=l'.map Lx.tok
def rH{α:Type}(x y:R α):Prop:=
 match x,y with
 |.ok a r,.ok a' r'=>a=a'∧Al r r'
 |.out,.out=>True
 |_,_=>False
theorem rH.bind{α β:Type}{x y:R α}{k k':α→List aB→R β}(h:rH x y)(hk:∀a r r',Al r r'→rH (k a r) (k' a r')):rH (x.bind k) (y.bind k'):=by
 cases x<;>cases y<;>first|exact h.elim|skip
 ·obtain⟨rfl,hr⟩:=h
  exact hk _ _ _ hr
 ·trivial
theorem rH.map{α β:Type}{x y:R α}{k:α→β}(h:rH x y):rH (x.map k) (y.map k):=h.bind fun _ _ _ hr=>⟨rfl,hr⟩
theorem rH.refuse{α:Type}(en en':Nat)(l l':List aB):rH (refuse en l:R α) (refuse en' l'):=trivial
theorem Al.nil{l':List aB}(h:Al [] l'):l'=[]:=by
 cases l' with
 |nil=>rfl
 |cons t r=>cases h
theorem Al.cons{t:aB}{r l':List aB}(h:Al (t::r) l'):∃t' r',l'=t'::r'∧t.kind=t'.kind∧t.text=t'.text∧Al r r':=by
 cases l' with
 |nil=>cases h
 |cons t' r'=>
  have h1:=List.cons.inj (show Lx.tok t::r.map Lx.tok=Lx.tok t'::r'.map Lx.tok from h);exact⟨t',r',rfl,congrArg Lx.Tok.kind h1.1,congrArg Lx.Tok.text h1.1,h1.2⟩
theorem Al.tail{l l':List aB}(h:Al l l'):Al l.tail l'.tail:=by
 cases l with
 |nil=>rw[h.nil];rfl
 |cons t r=>obtain⟨t',r',rfl,_,_,h⟩:=h.cons;exact h
theorem Al.dx{l l':List aB}(h:Al l l')(b:UInt8):dx b l=dx b l':=by
 cases l with
 |nil=>rw[h.nil]
 |cons t r=>obtain⟨t',r',rfl,h1,h2,h⟩:=h.cons;simp only[Np.dx,h1,h2]
theorem Al.j5{l l':List aB}(h:Al l l'):j5 l=j5 l':=by
 cases l with
 |nil=>rw[h.nil]
 |cons t r=>obtain⟨t',r',rfl,h1,h2,h⟩:=h.cons;simp only[Np.j5,h1]
theorem Al.isEmpty{l l':List aB}(h:Al l l'):l.isEmpty=l'.isEmpty:=by
 cases l with
 |nil=>rw[h.nil]
 |cons t r=>obtain⟨t',r',rfl,h1,h2,h⟩:=h.cons;rfl
theorem Al.stops{l l':List aB}(h:Al l l'):stops l=stops l':=by
 unfold Np.stops;rw[h.j5,h.dx,h.dx,h.dx,h.dx]
theorem OL{t t':aB}(h1:t.kind=t'.kind)(h2:t.text=t'.text):fO t=fO t':=by
 unfold fO;rw[h1,h2]
theorem rH.scripts(g:Bool)(en en':Nat)(b:List Nd)(x y:Option Nd){l l':List aB}(h:Al l l'):rH (scripts g en b x y l) (scripts g en' b x y l'):=by
 unfold Np.scripts;split
 ·exact⟨rfl,h⟩
 ·exact⟨rfl,h⟩
 ·exact⟨rfl,h⟩
 ·split
  ·first|rfl|trivial
  ·exact⟨rfl,h⟩
theorem rH.plainName{t t':aB}{r r':List aB}(h2:t.text=t'.text)(h:Al r r'):rH (plainName t r) (plainName t' r'):=by
 unfold Np.plainName;rw[h2];split
 ·first|rfl|trivial
 ·exact⟨rfl,h⟩
structure Alike(en en' f:Nat):Prop where
 row:∀op op' l l',Al l l'→(op=[]↔op'=[])→rH (cZ en f op l) (cZ en' f op' l')
 within:∀b op op' l l',Al l l'→rH (kE en f b op l) (kE en' f b op' l')
 arg:∀op op' l l',Al l l'→rH (pArg en f op l) (pArg en' f op' l')
 args:∀n op op' l l',Al l l'→rH (bV en f n op l) (bV en' f n op' l')
 script:∀b op op' l l',Al l l'→rH (eB en f b op l) (eB en' f b op' l')
 item:∀op op' l l',Al l l'→rH (eP en f op l) (eP en' f op' l')
 R3:∀op op' l l',Al l l'→rH (dA en f op l) (dA en' f op' l')
 name:∀op op' t t' r r',t.text=t'.text→Al r r'→rH (fD en f op t r) (fD en' f op' t' r')
 cells:∀op op' ks b c l l',Al l l'→(op=[]↔op'=[])→rH (di en f op ks b c l) (di en' f op' ks b c l')
theorem alike(en en':Nat):∀f,Alike en en' f
 |0=>by constructor<;>(intros;trivial)
 |f+1=>by
  have ih:=alike en en' f;constructor
  ·intro op op' l l' h ho
   rw[cZ,cZ,h.isEmpty,h.stops];have hc:(l'.isEmpty=true∧op≠[])↔(l'.isEmpty=true∧op'≠[]):=by rw[ne_eq,ne_eq,ho]
   by_cases c1:l'.isEmpty=true∧op'≠[]
   ·rw[if_pos c1,if_pos (hc.2 c1)];trivial
   ·rw[if_neg c1,if_neg (fun x=>c1 (hc.1 x))]
    split
    ·exact⟨rfl,h⟩
    ·exact(ih.item op op' l l' h).bind fun a r r' hr=>(ih.row op op' r r' hr ho).map
  ·intro b op op' l l' h
   rw[kE,kE];refine(ih.row _ _ _ _ h.tail (by simp)).bind fun a r r' hr=>?_
   rw[hr.dx];split
   ·exact⟨rfl,hr.tail⟩
   ·first|rfl|trivial
  ·intro op op' l l' h
   cases l with
   |nil=>rw[h.nil,pArg,pArg];trivial
   |cons t r=>
    obtain⟨t',r',rfl,h1,h2,hr⟩:=h.cons;rw[pArg,pArg,OL h1 h2,h.dx,h1,h2];split
    ·exact⟨rfl,hr⟩
    ·split
     ·exact(ih.within 125 op op' _ _ h).map
     ·split
      ·exact(rH.plainName h2 hr).map
      ·first|rfl|trivial
  ·intro n op op' l l' h
   cases n with
   |zero=>rw[bV,bV];exact⟨rfl,h⟩
   |succ n=>
    rw[bV,bV];exact(ih.arg op op' l l' h).bind fun a r r' hr=>(ih.args n op op' r r' hr).map
  ·intro b op op' l l' h
   rw[eB,eB,h.dx];split
   ·exact(ih.arg op op' _ _ h.tail).map
   ·exact⟨rfl,h⟩
  ·intro op op' l l' h
   rw[eP,eP,h.dx];refine(ih.R3 op op' l l' h).bind fun a r r' hr=>(ih.script 95 op op' r r' hr).bind fun sub r r' hr=>(ih.script 94 op op' r r' hr).bind fun sup r r' hr=>?_
   split
   ·exact(ih.script 95 op op' r r' hr).bind fun sub r r' hr=>rH.scripts _ _ _ _ _ _ hr
   ·exact rH.scripts _ _ _ _ _ _ hr
  ·intro op op' l l' h
   cases l with
   |nil=>rw[h.nil,dA,dA];trivial
   |cons t r=>
    obtain⟨t',r',rfl,h1,h2,hr⟩:=h.cons;rw[dA,dA,OL h1 h2,h.dx,h.dx,h.dx,h1,h2];split
    ·exact⟨rfl,hr⟩
    ·split
     ·exact ih.name op op' t t' r r' h2 hr
     ·split
      ·exact(ih.args 1 op op' r r' hr).map
      ·split
       ·exact(ih.within 41 op op' _ _ h).map
       ·split
        ·exact(ih.within 93 op op' _ _ h).map
        ·split
         ·exact ih.within 125 op op' _ _ h
         ·first|rfl|trivial
  ·intro op op' t t' r r' h2 h
   rw[fD,fD,h2,h.dx,h.dx];split
   ·exact(ih.args 2 op op' r r' h).map
   ·split
    ·split
     ·exact(ih.within 93 op op' r r' h).bind fun d r r' hr=>(ih.args 1 op op' r r' hr).map
     ·exact(ih.args 1 op op' r r' h).map
    ·split
     ·split
      ·exact(ih.cells _ _ _ _ _ _ _ h.tail (by simp)).map
      ·first|rfl|trivial
     ·split
      ·exact(ih.args 1 op op' r r' h).map
      ·exact rH.plainName h2 h
  ·intro op op' ks b c l l' h ho
   rw[di,di];refine(ih.row op op' l l' h ho).bind fun items r r' hr=>?_
   rw[hr.dx,hr.dx,hr.j5];split
   ·exact ih.cells _ _ _ _ _ _ _ hr.tail ho
   ·split
    ·first|rfl|trivial
    ·split
     ·first|rfl|trivial
     ·split
      ·exact⟨rfl,hr.tail⟩
      ·exact ih.cells _ _ _ _ _ _ _ hr.tail ho
theorem R4(en en':Nat)(l l':List aB)(h:Al l l'):rH (yI en l) (yI en' l'):=by
 have hl:l.length=l'.length:=by
  have:=congrArg List.length h;simpa using this
 unfold yI;rw[hl];refine((alike en en' _).row [] [] l l' h Iff.rfl).bind fun a r r' hr=>?_
 rw[hr.isEmpty];split
 ·exact⟨rfl,hr⟩
 ·first|rfl|trivial
end Np
namespace Lx
end Lx
namespace Np
open Lx (Tok kR aB dG xu spell flat lexFrom)
end Np
namespace Lx
end Lx
section
open Go.RowKit
def iO(x:Lx.aB):List Value:=[.int .i64 x.kind,.string ⟨x.text.toArray⟩,.int .i64 x.from_,.int .i64 x.eF]
structure Pr(w:World)(p B:Nat)(vt vb:Value)(cs:Array Value)(toks:List Lx.aB)(txt:List UInt8):Prop where
 lt:p<B
 dW:uU w B p 1 44 cs vb txt
 size:cs.size=3
 tok:cs[0]?=some vt
 own:w.ownsRow B 115 4 vt toks.length (toks.flatMap iO)
def PS(p B:Nat)(w:World)(k:Nat):Prop:=k=p∨(B≤k∧∃cur e fr,w.heap[k]?=some (.cells cur e fr)∧(e=115∨e=5))
theorem PS.trans{p B:Nat}{a b c:World}(h:Touch (PS p B a) a b)(k:Touch (PS p B b) b c):Touch (PS p B a) a c:=by
 refine⟨k.os.trans h.os,k.tape.trans h.tape,k.output.trans h.output,Nat.le_trans h.size k.size,fun i hi hn=>?_⟩;have h1:=h.block i hi hn;refine(k.block i (Nat.lt_of_lt_of_le hi h.size) fun hs=>hn ?_).trans h1
 rcases hs with hs|⟨h2,cur,e,fr,h3,h4⟩
 ·exact .inl hs
 ·exact .inr ⟨h2,cur,e,fr,by rw[←h1];exact h3,h4⟩
theorem PS.fresh{p B:Nat}{a b:World}(h:ag a b):Touch (PS p B a) a b:=h.mono fun _ h=>h.elim
theorem PS.bG{p B:Nat}{a b c:World}(h:ag a b)(k:Touch (PS p B b) b c):Touch (PS p B a) a c:=PS.trans (PS.fresh h) k
theorem PS.Am{p B:Nat}{a b c:World}(h:Touch (PS p B a) a b)(k:ag b c):Touch (PS p B a) a c:=PS.trans h (PS.fresh k)
theorem PS.blk{p B g:Nat}{t:TypeId}{cs:Array Value}{a b:World}(h:Touch (PS p B a) a b)(hb:af a g t cs)(hp:g≠p)(h1:t≠115)(h2:t≠5):af b g t cs:=by
 refine h.blk hb ?_;rintro(hs|⟨_,cur,e,fr,h3,h4⟩)
 ·exact hp hs
 ·unfold af at hb
  rw[hb]at h3;cases h3
  rcases h4 with h4|h4
  ·exact h1 h4
  ·exact h2 h4
theorem Pr.fresh{w w':World}{p B:Nat}{vt vb:Value}{cs:Array Value}{toks:List Lx.aB}{txt:List UInt8}(h:Pr w p B vt vb cs toks txt)(hf:ag w w'):Pr w' p B vt vb cs toks txt:=
 ⟨h.lt,⟨hf.blk h.dW.blk (fun h=>h),h.dW.addr,h.dW.buf,aQ h.dW.own hf (fun _ _ h=>h),h.dW.ne,h.dW.J7⟩,h.size,h.tok,aQ h.own hf (fun _ _ h=>h)⟩
theorem Pr.touch{S:Nat→Prop}{w w':World}{p B:Nat}{vt vb:Value}{cs:Array Value}{toks:List Lx.aB}{txt:List UInt8}(h:Pr w p B vt vb cs toks txt)(ht:Touch S w w')(h1:¬S p)(h2:∀k,vt.ownBlock=some k→¬S k)(h3:∀k,vb.ownBlock=some k→¬S k):Pr w' p B vt vb cs toks txt:=
 ⟨h.lt,⟨ht.blk h.dW.blk h1,h.dW.addr,h.dW.buf,aQ h.dW.own ht h3,h.dW.ne,h.dW.J7⟩,h.size,h.tok,aQ h.own ht h2⟩
theorem Pr.ahn{w:World}{p B:Nat}{vt vb:Value}{cs:Array Value}{toks:List Lx.aB}{txt:List UInt8}(h:Pr w p B vt vb cs toks txt):∀k,vt.ownBlock=some k→k<w.heap.size:=fun k hk=>by
 obtain⟨_,cur,h2⟩:=fe h.own hk;exact(Array.getElem?_eq_some_iff.1 h2).1
theorem Pr.Bf{w:World}{p B g:Nat}{vt vb:Value}{cs:Array Value}{toks:List Lx.aB}{txt:List UInt8}(h:Pr w p B vt vb cs toks txt){t:TypeId}{xs:Array Value}(hb:af w g t xs)(ht:t≠5):vb.ownBlock≠some g:=fun hk=>by
 obtain⟨_,cur,h2⟩:=fe h.dW.own hk;unfold af at hb;rw[hb]at h2;cases h2;exact ht rfl
theorem PS.dW{w w':World}{p B:Nat}{vt vb:Value}{cs:Array Value}{toks:List Lx.aB}{txt:List UInt8}(h:Pr w p B vt vb cs toks txt)(ht:Touch (fun k=>k=p∨vb.ownBlock=some k) w w'):Touch (PS p B w) w w':=
 ht.mono fun k hk=>hk.elim .inl fun hk=>by
  obtain⟨h1,cur,h2⟩:=fe h.dW.own hk;exact .inr ⟨h1,cur,_,_,h2,.inr rfl⟩
theorem Pr.wrote{w w':World}{p B:Nat}{vt vb F9:Value}{cs:Array Value}{toks:List Lx.aB}{txt agk:List UInt8}(h:Pr w p B vt vb cs toks txt)
  (hb:uU w' B p 1 44 ((cs.setIfInBounds 1 (.pointer (some ⟨p,1,none⟩))).setIfInBounds (1+1) F9) F9 agk) (ht:Touch (fun k=>k=p∨vb.ownBlock=some k) w w'):
  Pr w' p B vt F9 ((cs.setIfInBounds 1 (.pointer (some ⟨p,1,none⟩))).setIfInBounds (1+1) F9) toks agk:=by
 refine⟨h.lt,hb,by simp[h.size],?_,aQ h.own ht ?_⟩
 ·rw[Array.getElem?_setIfInBounds_ne (by decide),Array.getElem?_setIfInBounds_ne (by decide)];exact h.tok
 ·intro k hk hs
  obtain⟨h1,cur,h2⟩:=fe h.own hk
  rcases hs with hs|hs
  ·have:=h.lt;omega
  ·obtain⟨_,cur',h3⟩:=fe h.dW.own hs
   rw[h2]at h3;simp at h3
theorem Ms:liesAt Tryz.prog Tryz.prog.depth 44 (3/Tryz.prog.cellsOf 44) 1 42 1=true:=by kernel_rfl
theorem R5:(Tryz.prog.info? 115).map (fun i=>(i.zero,i.size,i.bytes))=some (some (.agg #[.int .i64 0,.string ⟨#[]⟩,.int .i64 0,.int .i64 0]),4,40):=by kernel_rfl
theorem yJ{P:Program}{ops:Array Oper}{o:Oper}{a:Act}{w:World}{K:Act→World→Prop}{Q:Exit→Act→World→Prop}{E:Prop}
  (hg:o.guard=none) (s x:Operand) (t:TypeId) (hop:o.op=Op.call {callee:=Callee.builtin Builtin.append,args:=#[s,x],argTypes:=#[t,t]})
  (base:Nat) (e:TypeId) (i:TypeInfo) (z:Value) (size bytes:Nat) (ht:P.underlying t=some (.slice e)) (hi:P.info? e=some i) (hz:i.zero=some z)
  (hsize:i.size=size) (hby:i.bytes=bytes) (hzs:z.cells.size=size) (hsz:0<size)
  (v:Value) (n:Nat) (xs:List Value) (hs:a.eval s=v) (hown:w.ownsRow base e size v n xs)
  (ad:Addr) (m c:Nat) (news:List Value) (hx:a.eval x=.slice (some ad) m c) (hl:news.length=m*size) (hnews:∀j u,news[j]?=some u→w.cell? (ad.add j)=some u) (h1:∀u∈news,u.oneCell'=true)
  (h63:n+m≤maxLen) (hbytes:(n+m)*bytes≤140737488355328) (hbase:base≤w.heap.size)
  (h:∀v' w',w'.ownsRow base e size v' (n+m) (xs++news)→w.grownBy w' v.ownBlock→K (a.put o.dst v') w'):
  if Region.wanted o (yielded ops a.tmps)=true then Oper.wp P o a w K Q else E:=by
 have hw:Region.wanted o (yielded ops a.tmps)=true:=by simp[Region.wanted,hg]
 rw[if_pos hw];exact wp_append_own w s x t hop base e i z size bytes ht hi hz hsize hby hzs hsz v n xs hs hown ad m c news hx hl hnews h1 h63 hbytes hbase fun v' w' h2 h3 _=>h v' w' h2 h3
def zn(toks:List Lx.aB)(t:Lx.Tok):Bool:=match toks.getLast? with|none=>false|some x=>Lx.join (Lx.tok x) t
def gap(toks:List Lx.aB)(t:Lx.Tok):List UInt8:=if zn toks t then [32]else []
def added(toks:List Lx.aB)(txt:List UInt8)(t:Lx.Tok):List Lx.aB:=toks++[⟨t.kind,t.text,(txt++gap toks t).length,(txt++gap toks t++Lx.spell t).length⟩]
theorem R6{W w':World}{p B n:Nat}{vt vb v':Value}{cs:Array Value}{toks:List Lx.aB}{txt:List UInt8}{xs:List Value}{o:Obj}(h:Pr W p B vt vb cs toks txt)(ho:w'.ownsRow B 115 4 v' (n+1) xs)(hg:((W.alloc o).drew).grownBy w' vt.ownBlock):
  ∃g cap,v'=.slice (some ⟨g,0,none⟩) (n+1) cap∧w'.cell? ⟨p,0,none⟩=some vt∧w'.frozen? ⟨p,0,none⟩=false∧Hd (Touch (fun k=>vt.ownBlock=some k) W w')∧Hd (w'.ownsRow B 115 4 v' (n+1) xs):=by
 obtain⟨g,cap,hv⟩:∃g cap,v'=.slice (some ⟨g,0,none⟩) (n+1) cap:=by
  rcases ho.2 with⟨_,h0⟩|⟨g,cap,cur,hv,_⟩
  ·omega
  ·exact⟨g,cap,hv⟩
 have ht:Touch (fun k=>vt.ownBlock=some k) W w':=(((M (fun k=>vt.ownBlock=some k) W).alloc o).drew).grown hg (fun g hg=>.inl hg)
 have hp:vt.ownBlock≠some p:=fun e=>by
  obtain⟨h1,_⟩:=fe h.own e;have:=h.lt;omega
 have hb:=ht.blk h.dW.blk hp;exact⟨g,cap,hv,(hb.cell 0).trans h.tok,hb.frozen 0,ht,ho⟩
theorem Pr.appended{W w':World}{p B:Nat}{vt vb v':Value}{cs:Array Value}{toks:List Lx.aB}{txt:List UInt8}{x:Lx.aB}(h:Pr W p B vt vb cs toks txt)(ht:Touch (fun k=>vt.ownBlock=some k) W w')
  (ho:w'.ownsRow B 115 4 v' (toks.length+1) (toks.flatMap iO++iO x)):Pr (w'.setCell ⟨p,0,none⟩ v') p B v' vb (cs.setIfInBounds 0 v') (toks++[x]) txt∧Touch (PS p B W) W (w'.setCell ⟨p,0,none⟩ v'):=by
 have hsz:=h.size;have hlt:=h.lt
 have hp:vt.ownBlock≠some p:=fun e=>by
  obtain⟨h1,_⟩:=fe h.own e;omega
 have hv:∀k,v'.ownBlock=some k→k≠p:=fun k e=>by
  have:=(ho.lt k e).1;omega
 have hb:=ht.blk h.dW.blk hp
 have hvb:w'.ownsRow B 5 1 vb txt.length (Lib.byteCells txt):=aQ h.dW.own ht fun k hk hs=>by
  obtain⟨_,cur,h2⟩:=fe h.dW.own hk;obtain⟨_,cur',h3⟩:=fe h.own hs;rw[h2]at h3;simp at h3
 have hset:=(M (fun k=>k=p) w').setCell (p:=⟨p,0,none⟩) (.inl rfl) v';refine⟨⟨hlt,⟨hb.put 0 v',?_,?_,aQ hvb hset (fun k hk hs=>h.dW.ne (hs▸hk)),h.dW.ne,h.dW.J7⟩,by simp[hsz],by rw[Array.getElem?_setIfInBounds_self_of_lt (by omega)],?_⟩,?_⟩
 ·rw[Array.getElem?_setIfInBounds_ne (by decide)];exact h.dW.addr
 ·rw[Array.getElem?_setIfInBounds_ne (by decide)];exact h.dW.buf
 ·have e:(toks++[x]).flatMap iO=toks.flatMap iO++iO x:=by simp
  rw[List.length_append,e];exact aQ ho hset (fun k hk hs=>hv k hk hs)
 ·have h1:Touch (PS p B W) W w':=ht.mono fun k hk=>by
   obtain⟨h1,cur,h2⟩:=fe h.own hk;exact .inr ⟨h1,cur,_,_,h2,.inl rfl⟩
  exact h1.setCell (p:=⟨p,0,none⟩) (.inl (.inl rfl)) v'
theorem Cr{W:World}{g:Nat}{t:TypeId}{cs:Array Value}(h:af W g t cs):∀j u,cs.toList[j]?=some u→W.cell? ((⟨g,0,none⟩:Addr).add j)=some u:=by
 intro j u hu;rw[Addr.add_mid,Nat.zero_add,h.cell];simpa using hu
theorem Dm(k:Int)(t:List UInt8):(Lx.gB k t).length≤2*t.length+6:=by
 unfold Lx.gB;have:=Lx.aem t
 repeat' split
 ·simp[Lx.zO];omega
 ·simp;omega
 ·simp;omega
 ·simp;omega
 ·omega
theorem aaH{w:World}{p B:Nat}{vt vb:Value}{cs:Array Value}{txt:List UInt8}(h:Pr w p B vt vb cs [] txt)(k:Nat)(t:List UInt8)(hB:B≤w.heap.size)(hl:txt.length≤2000000)(ht:t.length≤2000000):
  Calls Tryz.prog 96 #[.pointer (some ⟨p,0,none⟩),.int .i64 (k:Int),.string ⟨t.toArray⟩] w fun e w'=>e=.returned (.tuple #[])∧
   ∃R7 F9 cs',Pr w' p B R7 F9 cs' (added [] txt ⟨k,t⟩) (txt++gap [] ⟨k,t⟩++Lx.spell ⟨k,t⟩)∧Touch (PS p B w) w w':=by
 obtain⟨i0,hi,hz0,hz1,hz2⟩:=info_parts R5;have hpt:=h.dW.blk.lt
 obtain⟨A,cap,rfl⟩:∃A cap,vt=.slice A 0 cap:=by
  rcases h.own.2 with⟨h1,h2⟩|⟨g,cap,cur,h1,_⟩
  ·exact⟨none,0,h1⟩
  ·exact⟨_,_,h1⟩
 have q0:w.cell? ⟨p,0,none⟩=some (.slice A 0 cap):=(h.dW.blk.cell 0).trans h.tok;have HP:=hid h;clear h;go_enter Tryz.func96,Tryz.ntmps96;go_wp2
 go_quiet (fail)
 go_wp2_with fail
 refine(y8 (HP.out.fresh (((M _ w).alloc _).drewN _)).dW).mono ?_;rintro _ _ ⟨rfl,rfl⟩;go_wp2_with fail
 refine bK (fun W=>ag w W∧af W w.heap.size 115 #[.int .i64 (k:Int),.string ⟨t.toArray⟩,.int .i64 (txt.length:Int),.int .i64 0]) ⟨(((M _ w).alloc _).drewN _).setCell (.inr (Nat.le_refl _)) _,((af.new w 115 _).drewN _).put 2 _⟩ ?_;rintro W4 ⟨jf,hb4⟩;have Eo:=HP.out.fresh jf;obtain⟨r0,r1,r2,r3,_,_,_,_,hg4⟩:=af.four hb4;have g0:=cR r0;have g1:=cR r1;have g2:=cR r2;have g3:=cR r3;have C1:=hid (PI (fun w=>(Gx k ⟨t.toArray⟩ txt.length 0 w (by show t.toArray.size≤_;simp;omega):Calls Tryz.prog 133 _ w fun e w'=>e=.returned (.string ⟨(Lx.gB k t).toArray⟩)∧ag w w')) W4);have eZ:=hid jf;have iB:=hid hb4;have AP:=hid Eo;clear jf hb4 Eo q0;refine oP [([0,1,2,3,4],5)] [] (by kernel_rfl) (by kernel_rfl) ?_;simp only[vR,pick,List.getElem?_cons_zero,List.getElem?_cons_succ]
 repeat(quiet_step (with_reducible exact C1.out _ _))
 refine wpQuiet_nil ?_;rintro W5 ⟨⟨_,_⟩,vz⟩;have jO:ag W4 W5:=by rw[vz];exact aZ (below_regrown _ _ _)
 have jM:=AP.out.fresh jO;have hb5:=jO.blk iB.out (fun h=>h);have eY:=hid jO;clear vz jO g0 g1 g2 g3 r0 r1 r2 r3;have hsl:=Dm k t;have RP:B≤W5.heap.size:=Nat.le_trans hB (Nat.le_trans eZ.out.size eY.out.size);have hne:w.heap.size≠p:=by omega
 have OM:=hid (uL jM.dW jM.lt (by rw[jM.size];exact Ms) ⟨(Lx.gB k t).toArray⟩ (by show txt.length+(Lx.gB k t).toArray.size≤_;simp;omega) RP);have wN:=hid jM;have eO:=hid hb5;clear jM hb5;go_wp2_with fail
 refine OM.out.mono ?_;rintro _ w6 ⟨rfl,OO,hb6,jq⟩;have yY:=wN.out.wrote hb6 jq;have Il:Touch (PS p B w) w w6:=PS.bG (eZ.out.trans eY.out) (PS.dW wN.out jq);have Im:=jq.blk eO.out (fun hs=>hs.elim (fun h=>hne h) (fun h=>wN.out.Bf eO.out (by decide) h));have Io:=hid yY;have Ip:=hid Il;have Iq:=hid Im;clear hb6 jq yY Il Im OM;go_wp2_with fail
 refine wpQuiet_nil ?_;rintro W7 ⟨⟨_,_⟩,Ir⟩;have gX:ag w6 W7:=by rw[Ir];exact aZ (below_regrown _ _ _)
 have pg:=hid (Io.out.fresh gX);have iC:=hid (PS.Am Ip.out gX);have gy:=hid (gX.blk Iq.out (fun h=>h));clear Ir gX Io Ip Iq;go_wp2_with fail
 refine(y8 pg.out.dW).mono ?_;rintro _ _ ⟨rfl,rfl⟩;obtain⟨r0,r1,r2,r3,z0,z1,z2,z3,hg6⟩:=af.four gy.out;go_wp2_with fail
 refine bK (fun W=>∃cs',Pr W p B (.slice A 0 cap) OO cs' [] (txt++(Lx.gB k t))∧af W w.heap.size 115 #[.int .i64 (k:Int),.string ⟨t.toArray⟩,.int .i64 (txt.length:Int),.int .i64 ((txt.length:Int)+((Lx.gB k t).length:Int))]∧Touch (PS p B w) w W) ⟨_,pg.out.touch (S:=fun k=>k=w.heap.size) (Touch.setCell (S:=fun k=>k=w.heap.size) (M _ _) (p:=⟨w.heap.size,3,none⟩) (.inl rfl) _) (fun h=>hne h.symm) (fun k hk h=>by have:=HP.out.ahn k hk;omega) (fun k hk h=>pg.out.Bf gy.out (by decide) (h▸hk)),gy.out.put 3 _,iC.out.setCell (p:=⟨w.heap.size,3,none⟩) (.inr (Nat.le_refl _)) _⟩ ?_;rintro W8 ⟨cs8,um,o9,bR⟩;have p0:W8.cell? ⟨p,0,none⟩=some (.slice A 0 cap):=(um.dW.blk.cell 0).trans um.tok;have pz:W8.frozen? ⟨p,0,none⟩=false:=um.dW.blk.frozen 0;obtain⟨s0,s1,s2,s3,_,_,_,_,jI⟩:=af.four o9;have AQ:=hid um;have lT:=hid o9;have Cb:=hid bR;have Mt:=hid um.own;have agl:=um.dW.blk.lt;have hB8:B≤W8.heap.size:=by have:=bR.size;omega
 clear um o9 bR r0 r1 r2 r3 z0 z1 z2 z3 pg gy iC;obtain⟨qN,hto⟩:∃qN:Int,(txt.length:Int)+((Lx.gB k t).length:Int)=qN:=⟨_,rfl⟩;rw[hto]at s3;have hnew:=hid (fun(o:Obj) (ho:o=.cells #[.int .i64 (k:Int),.string ⟨t.toArray⟩,.int .i64 (txt.length:Int),.int .i64 qN] 115)=>ho▸Cr (W:=(W8.alloc o).drew) (g:=W8.heap.size) (t:=115) (cs:=#[.int .i64 (k:Int),.string ⟨t.toArray⟩,.int .i64 (txt.length:Int),.int .i64 qN]) (ho▸(af.new W8 115 _)))
 go_region_law (refine yJ rfl (.tmp 56) (.tmp 58) 38 rfl B 115 i0 _ 4 40 Tryz.underlying38 hi hz0 hz1 hz2 rfl (by decide) (.slice A 0 cap) 0 [] (by simp[Act.eval]) ((Mt.out.alloc _).drew) ⟨W8.heap.size,0,none⟩ 1 1 [.int .i64 (k:Int),.string ⟨t.toArray⟩,.int .i64 (txt.length:Int),.int .i64 qN] (by simp[Act.eval]) rfl (hnew.out _ rfl) (by intro u hu;simp only[List.mem_cons,List.not_mem_nil,or_false]at hu;rcases hu with rfl|rfl|rfl|rfl<;>rfl) (by decide) (by decide) (by have:=World.size_alloc W8;simp;omega) ?_;intro v9 w9 yX jA;obtain⟨g9,agm,rfl,c9,z9,lS,HO9⟩:=R6 AQ.out yX jA;clear yX jA)
 all_goals
  go_end0
  obtain⟨hpr,htc⟩:=AQ.out.appended (x:=⟨k,t,txt.length,(txt++Lx.gB k t).length⟩) lS.out (by
   have:=HO9.out;rw[←hto]at this;simpa[iO]using this)
  have e1:txt++gap [] ⟨k,t⟩++Lx.spell ⟨k,t⟩=txt++Lx.gB k t:=by simp[gap,zn,Lx.spell]
  have e2:added [] txt ⟨k,t⟩=[]++[⟨k,t,txt.length,(txt++Lx.gB k t).length⟩]:=by
   unfold added;rw[e1];simp[gap,zn]
  rw[e1,e2];exact⟨rfl,_,OO,_,hpr,PS.trans Cb.out htc⟩
theorem U1{W:World}{B:Nat}{v:Value}{ts:List Lx.aB}(h:W.ownsRow B 115 4 v ts.length (ts.flatMap iO))(i:Nat)(hi:i<ts.length):
  ∃g cap,v=.slice (some ⟨g,0,none⟩) ts.length cap∧B≤g∧g<W.heap.size∧∀j u,(iO ts[i])[j]?=some u→W.cell? ⟨g,4*i+j,none⟩=some u:=by
 rcases h.2 with⟨_,h0⟩|⟨g,cap,cur,hv,hB,r⟩
 ·omega
 ·subst hv
  refine⟨g,cap,rfl,hB,(h.lt g rfl).2,fun j u hu=>?_⟩;have hcl:=h.cells (g:=g) rfl (4*i+j) u ?_
  ·rw[Addr.add_mid,Nat.zero_add]at hcl;exact hcl
  ·have hj:j<4:=by have:=(List.getElem?_eq_some_iff.1 hu).1;simpa[iO]using this
   clear h r
   induction ts generalizing i with
   |nil=>simp at hi
   |cons x l ih=>
    cases i with
    |zero=>rw[List.flatMap_cons,List.getElem?_append_left (by simp[iO];omega)];simpa using hu
    |succ i=>
     rw[List.flatMap_cons,List.getElem?_append_right (by simp[iO];omega)];have:=ih i (by simpa using hi) (by simpa using hu);rw[←this];congr 1;simp[iO];omega
theorem aaI{W W':World}{x:Lx.aB}{g i:Nat}(h:∀j u,(iO x)[j]?=some u→W.cell? ⟨g,4*i+j,none⟩=some u)(ht:ag W W'):
  W'.cell? ⟨g,i*4,none⟩=some (.int .i64 x.kind)∧W'.cell? ⟨g,i*4+1,none⟩=some (.string ⟨x.text.toArray⟩)∧W'.cell? ⟨g,i*4+2,none⟩=some (.int .i64 x.from_)∧W'.cell? ⟨g,i*4+3,none⟩=some (.int .i64 x.eF):=by
 rw[Nat.mul_comm i 4];exact⟨ht.cell (h 0 _ rfl) (fun h=>h),ht.cell (h 1 _ rfl) (fun h=>h),ht.cell (h 2 _ rfl) (fun h=>h),ht.cell (h 3 _ rfl) (fun h=>h)⟩
theorem agn{toks:List Lx.aB}{y:Lx.aB}{m k:Nat}{t:List UInt8}{j:Bool}(hm:toks.length=m+1)(hy:toks[m]?=some y)(hj:rE (y.kind:Int) (k:Int) (ByteArray.mk t.toArray).data.toList=j):gap toks ⟨k,t⟩=if j then [32]else []:=by
 have e0:toks.getLast?=some y:=by rw[List.getLast?_eq_getElem?,hm];exact hy
 have e2:∀a n:Nat,((a:Int)==(n:Int))=(a==n):=fun a n=>by rw[Bool.eq_iff_iff];simp;omega
 have e1:zn toks ⟨k,t⟩=j:=by
  rw[←hj];unfold zn;rw[e0];unfold rE;have a1:((y.kind:Int)==2)=(y.kind==2):=e2 y.kind 2;have a2:((k:Int)==2)=(k==2):=e2 k 2;have a3:((y.kind:Int)==4)=(y.kind==4):=e2 y.kind 4;have a4:((k:Int)==1)=(k==1):=e2 k 1;rw[a1,a2,a3,a4];rfl
 unfold gap;rw[e1]
theorem ac1{w:World}{p B:Nat}{vt vb:Value}{cs:Array Value}{txt:List UInt8}{toks:List Lx.aB}{y:Lx.aB}{m:Nat}(hm:toks.length=m+1)(hy:toks[m]?=some y)(h:Pr w p B vt vb cs toks txt)(k:Nat)(t:List UInt8)(hB:B≤w.heap.size)(hl:txt.length≤2000000)(ht:t.length≤2000000)(hn:m≤2000000):
  Calls Tryz.prog 96 #[.pointer (some ⟨p,0,none⟩),.int .i64 (k:Int),.string ⟨t.toArray⟩] w fun e w'=>e=.returned (.tuple #[])∧
   ∃R7 F9 cs',Pr w' p B R7 F9 cs' (added toks txt ⟨k,t⟩) (txt++gap toks ⟨k,t⟩++Lx.spell ⟨k,t⟩)∧Touch (PS p B w) w w':=by
 obtain⟨i0,hi,hz0,hz1,hz2⟩:=info_parts R5;have hpt:=h.dW.blk.lt;obtain⟨A,cap,hvt,hA1,hA2,hcells⟩:=U1 h.own m (by omega);have ey:toks[m]'(by omega)=y:=by rw[List.getElem?_eq_getElem (by omega)]at hy;simpa using hy
 rw[ey]at hcells;rw[hm]at hvt;subst hvt;have q0:w.cell? ⟨p,0,none⟩=some (.slice (some ⟨A,0,none⟩) (m+1) cap):=(h.dW.blk.cell 0).trans h.tok;have hA:A≠p:=by have:=h.lt;omega
 have HP:=hid h;have HC:=hid hcells;clear h hcells;go_enter Tryz.func96,Tryz.ntmps96;go_wp2_with fail
 refine bK (fun W=>ag w W∧af W w.heap.size 115 #[.int .i64 (k:Int),.string ⟨t.toArray⟩,.int .i64 0,.int .i64 0]) ⟨(((M _ w).alloc _)),((af.new w 115 _))⟩ ?_;rintro W1 ⟨hf1,hb1⟩;have q1:=hf1.cell q0 (fun h=>h);obtain⟨u0,u1,u2,u3⟩:=aaI (i:=m) HC.out hf1;obtain⟨r0,r1,r2,r3,_,_,_,_,hg1⟩:=af.four hb1;have g0:=cR r0;have g1:=cR r1;have g2:=cR r2;have g3:=cR r3;have k0:=cR u0;have k1:=cR u1;have k2:=cR u2;have k3:=cR u3;have kq:=cR q1;have d1:((m:Int)+1-1)=(m:Int):=by omega
 have d2:IntKind.i64.wrap (m:Int)=(m:Int):=IntWalk.i64_in _ (by omega);have d3:(m:Int)<(m:Int)+1:=by omega
 have C1:=hid (PI (fun w=>YS y.kind y.from_ y.eF k 0 0 ⟨y.text.toArray⟩ ⟨t.toArray⟩ w) W1);obtain⟨j,hj⟩:∃j,rE (y.kind:Int) (k:Int) (ByteArray.mk t.toArray).data.toList=j:=⟨_,rfl⟩;rw[hj]at C1;have Iu:=hid (HP.out.fresh hf1);have aK:=hid hf1;have HB1:=hid hb1;clear hf1 hb1 q0;refine wp_region_quiet_below (by kernel_rfl) (by kernel_rfl) ?_
 repeat(quiet_step (with_reducible exact C1.out _ _))
 refine wpQuiet_nil ?_;rintro W2 ⟨⟨_,_⟩,hW2⟩;have hf2:ag W1 W2:=by rw[hW2];exact aZ (below_regrown _ _ _)
 have jb:=hid (Iu.out.fresh hf2);have HB2:=hid (hf2.blk HB1.out (fun h=>h));have HT2:=hid (PS.fresh (p:=p) (B:=B) (aK.out.trans hf2));have Yb:=agn hm hy hj;obtain⟨kM,htx⟩:∃kM,txt++gap toks ⟨k,t⟩=kM:=⟨_,rfl⟩;have hB2:B≤W2.heap.size:=by have:=HT2.out.size;omega
 have hne:w.heap.size≠p:=by omega
 clear hW2 hf2 g0 g1 g2 g3 k0 k1 k2 k3 kq r0 r1 r2 r3 u0 u1 u2 u3 q1 hg1 C1 Iu HB1 aK hj d1 d2 d3;cases j
 ·rw[Yb]at htx
  have Kc:txt=kM:=by simpa using htx
  rw[Kc]at jb;have hl1:kM.length≤2000001:=by rw[←Kc];omega
  have R8:=jb;have Ep:=HB2;have HTa:=HT2;obtain⟨Wa,hWa⟩:∃Wa,W2=Wa:=⟨_,rfl⟩;subst hWa;obtain⟨vba,hva⟩:∃v,vb=v:=⟨_,rfl⟩;subst hva;go_wp2_with fail
  refine(y8 R8.out.dW).mono ?_;rintro _ _ ⟨rfl,rfl⟩;obtain⟨r0,r1,r2,r3,z0,z1,z2,z3,hg2⟩:=af.four Ep.out;go_wp2_with fail
  refine bK (fun W=>∃cs',Pr W p B (.slice (some ⟨A,0,none⟩) (m+1) cap) vb cs' toks kM∧af W w.heap.size 115 #[.int .i64 (k:Int),.string ⟨t.toArray⟩,.int .i64 (kM.length:Int),.int .i64 0]∧Touch (PS p B w) w W) ⟨_,R8.out.touch (S:=fun k=>k=w.heap.size) (Touch.setCell (S:=fun k=>k=w.heap.size) (M _ _) (p:=⟨w.heap.size,2,none⟩) (.inl rfl) _) (fun h=>hne h.symm) (fun k hk h=>by simp[Value.ownBlock]at hk;omega) (fun k hk h=>R8.out.Bf Ep.out (by decide) (h▸hk)),Ep.out.put 2 _,HTa.out.setCell (p:=⟨w.heap.size,2,none⟩) (.inr (Nat.le_refl _)) _⟩ ?_;rintro W4 ⟨cs4,Eo,hb4,fA⟩;clear r0 r1 r2 r3 z0 z1 z2 z3;obtain⟨r0,r1,r2,r3,_,_,_,_,hg4⟩:=af.four hb4;have g0:=cR r0;have g1:=cR r1;have g2:=cR r2;have g3:=cR r3;have C1:=hid (PI (fun w=>(Gx k ⟨t.toArray⟩ kM.length 0 w (by show t.toArray.size≤_;simp;omega):Calls Tryz.prog 133 _ w fun e w'=>e=.returned (.string ⟨(Lx.gB k t).toArray⟩)∧ag w w')) W4);have nU:=hid fA;have iB:=hid hb4;have AP:=hid Eo;clear fA hb4 Eo;refine oP [([0,1,2,3,4],5)] [] (by kernel_rfl) (by kernel_rfl) ?_;simp only[vR,pick,List.getElem?_cons_zero,List.getElem?_cons_succ]
  repeat(quiet_step (with_reducible exact C1.out _ _))
  refine wpQuiet_nil ?_;rintro W5 ⟨⟨_,_⟩,vz⟩;have jO:ag W4 W5:=by rw[vz];exact aZ (below_regrown _ _ _)
  have jM:=AP.out.fresh jO;have hb5:=jO.blk iB.out (fun h=>h);have jU:=PS.Am nU.out jO;clear vz jO g0 g1 g2 g3 r0 r1 r2 r3;have hsl:=Dm k t;have RP:B≤W5.heap.size:=Nat.le_trans hB jU.size;have OM:=hid (uL jM.dW jM.lt (by rw[jM.size];exact Ms) ⟨(Lx.gB k t).toArray⟩ (by show kM.length+(Lx.gB k t).toArray.size≤_;simp;omega) RP);have wN:=hid jM;have eO:=hid hb5;have iW:=hid jU;clear jM hb5 jU;go_wp2_with fail
  refine OM.out.mono ?_;rintro _ w6 ⟨rfl,OO,hb6,jq⟩;have yY:=wN.out.wrote hb6 jq;have Il:Touch (PS p B w) w w6:=PS.trans iW.out (PS.dW wN.out jq);have Im:=jq.blk eO.out (fun hs=>hs.elim (fun h=>hne h) (fun h=>wN.out.Bf eO.out (by decide) h));have Io:=hid yY;have Ip:=hid Il;have Iq:=hid Im;clear hb6 jq yY Il Im OM;go_wp2_with fail
  refine wpQuiet_nil ?_;rintro W7 ⟨⟨_,_⟩,Ir⟩;have gX:ag w6 W7:=by rw[Ir];exact aZ (below_regrown _ _ _)
  have pg:=hid (Io.out.fresh gX);have iC:=hid (PS.Am Ip.out gX);have gy:=hid (gX.blk Iq.out (fun h=>h));clear Ir gX Io Ip Iq;go_wp2_with fail
  refine(y8 pg.out.dW).mono ?_;rintro _ _ ⟨rfl,rfl⟩;obtain⟨r0,r1,r2,r3,z0,z1,z2,z3,hg6⟩:=af.four gy.out;go_wp2_with fail
  refine bK (fun W=>∃cs',Pr W p B (.slice (some ⟨A,0,none⟩) (m+1) cap) OO cs' toks (kM++(Lx.gB k t))∧af W w.heap.size 115 #[.int .i64 (k:Int),.string ⟨t.toArray⟩,.int .i64 (kM.length:Int),.int .i64 ((kM.length:Int)+((Lx.gB k t).length:Int))]∧Touch (PS p B w) w W) ⟨_,pg.out.touch (S:=fun k=>k=w.heap.size) (Touch.setCell (S:=fun k=>k=w.heap.size) (M _ _) (p:=⟨w.heap.size,3,none⟩) (.inl rfl) _) (fun h=>hne h.symm) (fun k hk h=>by simp[Value.ownBlock]at hk;omega) (fun k hk h=>pg.out.Bf gy.out (by decide) (h▸hk)),gy.out.put 3 _,iC.out.setCell (p:=⟨w.heap.size,3,none⟩) (.inr (Nat.le_refl _)) _⟩ ?_;rintro W8 ⟨cs8,um,o9,bR⟩;have p0:W8.cell? ⟨p,0,none⟩=some (.slice (some ⟨A,0,none⟩) (m+1) cap):=(um.dW.blk.cell 0).trans um.tok;have pz:W8.frozen? ⟨p,0,none⟩=false:=um.dW.blk.frozen 0;obtain⟨s0,s1,s2,s3,_,_,_,_,jI⟩:=af.four o9;have AQ:=hid um;have lT:=hid o9;have Cb:=hid bR;have Mt:=hid (hm▸um.own:W8.ownsRow B 115 4 _ (m+1) _);have agl:=um.dW.blk.lt;have hB8:B≤W8.heap.size:=by have:=bR.size;omega
  clear um o9 bR r0 r1 r2 r3 z0 z1 z2 z3 pg gy iC;obtain⟨qN,hto⟩:∃qN:Int,(kM.length:Int)+((Lx.gB k t).length:Int)=qN:=⟨_,rfl⟩;rw[hto]at s3;have hnew:=hid (fun(o:Obj) (ho:o=.cells #[.int .i64 (k:Int),.string ⟨t.toArray⟩,.int .i64 (kM.length:Int),.int .i64 qN] 115)=>ho▸Cr (W:=(W8.alloc o).drew) (g:=W8.heap.size) (t:=115) (cs:=#[.int .i64 (k:Int),.string ⟨t.toArray⟩,.int .i64 (kM.length:Int),.int .i64 qN]) (ho▸(af.new W8 115 _)));have hmx:maxLen=9223372036854775807:=rfl
  go_region_law (refine yJ rfl (.tmp 56) (.tmp 58) 38 rfl B 115 i0 _ 4 40 Tryz.underlying38 hi hz0 hz1 hz2 rfl (by decide) (.slice (some ⟨A,0,none⟩) (m+1) cap) (m+1) _ (by simp[Act.eval]) ((Mt.out.alloc _).drew) ⟨W8.heap.size,0,none⟩ 1 1 [.int .i64 (k:Int),.string ⟨t.toArray⟩,.int .i64 (kM.length:Int),.int .i64 qN] (by simp[Act.eval]) rfl (hnew.out _ rfl) (by intro u hu;simp only[List.mem_cons,List.not_mem_nil,or_false]at hu;rcases hu with rfl|rfl|rfl|rfl<;>rfl) (by omega) (by omega) (by have:=World.size_alloc W8;simp;omega) ?_;intro v9 w9 yX jA;obtain⟨g9,agm,rfl,c9,z9,lS,HO9⟩:=R6 AQ.out yX jA;clear yX jA)
  all_goals
   go_end0
   obtain⟨hpr,htc⟩:=AQ.out.appended (x:=⟨k,t,kM.length,(kM++Lx.gB k t).length⟩) lS.out (by
    have:=HO9.out;rw[←hto]at this;rw[hm];simpa[iO]using this)
   unfold added;rw[Yb];rw[htx];exact⟨rfl,_,OO,_,hpr,PS.trans Cb.out htc⟩
 ·rw[Yb]at htx
  have Kc:txt++[32]=kM:=by simpa using htx
  have hl1:kM.length≤2000001:=by rw[←Kc];simp;omega
  have HWB:=hid (iP jb.out.dW (by rw[jb.out.size];exact Ms) 32 32 rfl (by omega) hB2);go_wp2_with fail
  refine HWB.out.mono ?_;rintro _ W3 ⟨rfl,vb3,hb3,ht3⟩;have hp3:=jb.out.wrote hb3 ht3;rw[Kc]at hp3;have R8:=hid hp3;have HTa:=hid (PS.trans HT2.out (PS.dW jb.out ht3));have Ep:=hid (ht3.blk HB2.out (fun hs=>hs.elim (fun h=>hne h) (fun h=>jb.out.Bf HB2.out (by decide) h)));clear hb3 ht3 hp3 HWB jb HB2 HT2;go_wp2_with fail
  refine(y8 R8.out.dW).mono ?_;rintro _ _ ⟨rfl,rfl⟩;obtain⟨r0,r1,r2,r3,z0,z1,z2,z3,hg2⟩:=af.four Ep.out;go_wp2_with fail
  refine bK (fun W=>∃cs',Pr W p B (.slice (some ⟨A,0,none⟩) (m+1) cap) vb3 cs' toks kM∧af W w.heap.size 115 #[.int .i64 (k:Int),.string ⟨t.toArray⟩,.int .i64 (kM.length:Int),.int .i64 0]∧Touch (PS p B w) w W) ⟨_,R8.out.touch (S:=fun k=>k=w.heap.size) (Touch.setCell (S:=fun k=>k=w.heap.size) (M _ _) (p:=⟨w.heap.size,2,none⟩) (.inl rfl) _) (fun h=>hne h.symm) (fun k hk h=>by simp[Value.ownBlock]at hk;omega) (fun k hk h=>R8.out.Bf Ep.out (by decide) (h▸hk)),Ep.out.put 2 _,HTa.out.setCell (p:=⟨w.heap.size,2,none⟩) (.inr (Nat.le_refl _)) _⟩ ?_;rintro W4 ⟨cs4,Eo,hb4,fA⟩;clear r0 r1 r2 r3 z0 z1 z2 z3;obtain⟨r0,r1,r2,r3,_,_,_,_,hg4⟩:=af.four hb4;have g0:=cR r0;have g1:=cR r1;have g2:=cR r2;have g3:=cR r3;have C1:=hid (PI (fun w=>(Gx k ⟨t.toArray⟩ kM.length 0 w (by show t.toArray.size≤_;simp;omega):Calls Tryz.prog 133 _ w fun e w'=>e=.returned (.string ⟨(Lx.gB k t).toArray⟩)∧ag w w')) W4);have nU:=hid fA;have iB:=hid hb4;have AP:=hid Eo;clear fA hb4 Eo;refine oP [([0,1,2,3,4],5)] [] (by kernel_rfl) (by kernel_rfl) ?_;simp only[vR,pick,List.getElem?_cons_zero,List.getElem?_cons_succ]
  repeat(quiet_step (with_reducible exact C1.out _ _))
  refine wpQuiet_nil ?_;rintro W5 ⟨⟨_,_⟩,vz⟩;have jO:ag W4 W5:=by rw[vz];exact aZ (below_regrown _ _ _)
  have jM:=AP.out.fresh jO;have hb5:=jO.blk iB.out (fun h=>h);have jU:=PS.Am nU.out jO;clear vz jO g0 g1 g2 g3 r0 r1 r2 r3;have hsl:=Dm k t;have RP:B≤W5.heap.size:=Nat.le_trans hB jU.size;have OM:=hid (uL jM.dW jM.lt (by rw[jM.size];exact Ms) ⟨(Lx.gB k t).toArray⟩ (by show kM.length+(Lx.gB k t).toArray.size≤_;simp;omega) RP);have wN:=hid jM;have eO:=hid hb5;have iW:=hid jU;clear jM hb5 jU;go_wp2_with fail
  refine OM.out.mono ?_;rintro _ w6 ⟨rfl,OO,hb6,jq⟩;have yY:=wN.out.wrote hb6 jq;have Il:Touch (PS p B w) w w6:=PS.trans iW.out (PS.dW wN.out jq);have Im:=jq.blk eO.out (fun hs=>hs.elim (fun h=>hne h) (fun h=>wN.out.Bf eO.out (by decide) h));have Io:=hid yY;have Ip:=hid Il;have Iq:=hid Im;clear hb6 jq yY Il Im OM;go_wp2_with fail
  refine wpQuiet_nil ?_;rintro W7 ⟨⟨_,_⟩,Ir⟩;have gX:ag w6 W7:=by rw[Ir];exact aZ (below_regrown _ _ _)
  have pg:=hid (Io.out.fresh gX);have iC:=hid (PS.Am Ip.out gX);have gy:=hid (gX.blk Iq.out (fun h=>h));clear Ir gX Io Ip Iq;go_wp2_with fail
  refine(y8 pg.out.dW).mono ?_;rintro _ _ ⟨rfl,rfl⟩;obtain⟨r0,r1,r2,r3,z0,z1,z2,z3,hg6⟩:=af.four gy.out;go_wp2_with fail
  refine bK (fun W=>∃cs',Pr W p B (.slice (some ⟨A,0,none⟩) (m+1) cap) OO cs' toks (kM++(Lx.gB k t))∧af W w.heap.size 115 #[.int .i64 (k:Int),.string ⟨t.toArray⟩,.int .i64 (kM.length:Int),.int .i64 ((kM.length:Int)+((Lx.gB k t).length:Int))]∧Touch (PS p B w) w W) ⟨_,pg.out.touch (S:=fun k=>k=w.heap.size) (Touch.setCell (S:=fun k=>k=w.heap.size) (M _ _) (p:=⟨w.heap.size,3,none⟩) (.inl rfl) _) (fun h=>hne h.symm) (fun k hk h=>by simp[Value.ownBlock]at hk;omega) (fun k hk h=>pg.out.Bf gy.out (by decide) (h▸hk)),gy.out.put 3 _,iC.out.setCell (p:=⟨w.heap.size,3,none⟩) (.inr (Nat.le_refl _)) _⟩ ?_;rintro W8 ⟨cs8,um,o9,bR⟩;have p0:W8.cell? ⟨p,0,none⟩=some (.slice (some ⟨A,0,none⟩) (m+1) cap):=(um.dW.blk.cell 0).trans um.tok;have pz:W8.frozen? ⟨p,0,none⟩=false:=um.dW.blk.frozen 0;obtain⟨s0,s1,s2,s3,_,_,_,_,jI⟩:=af.four o9;have AQ:=hid um;have lT:=hid o9;have Cb:=hid bR;have Mt:=hid (hm▸um.own:W8.ownsRow B 115 4 _ (m+1) _);have agl:=um.dW.blk.lt;have hB8:B≤W8.heap.size:=by have:=bR.size;omega
  clear um o9 bR r0 r1 r2 r3 z0 z1 z2 z3 pg gy iC;obtain⟨qN,hto⟩:∃qN:Int,(kM.length:Int)+((Lx.gB k t).length:Int)=qN:=⟨_,rfl⟩;rw[hto]at s3;have hnew:=hid (fun(o:Obj) (ho:o=.cells #[.int .i64 (k:Int),.string ⟨t.toArray⟩,.int .i64 (kM.length:Int),.int .i64 qN] 115)=>ho▸Cr (W:=(W8.alloc o).drew) (g:=W8.heap.size) (t:=115) (cs:=#[.int .i64 (k:Int),.string ⟨t.toArray⟩,.int .i64 (kM.length:Int),.int .i64 qN]) (ho▸(af.new W8 115 _)));have hmx:maxLen=9223372036854775807:=rfl
  go_region_law (refine yJ rfl (.tmp 56) (.tmp 58) 38 rfl B 115 i0 _ 4 40 Tryz.underlying38 hi hz0 hz1 hz2 rfl (by decide) (.slice (some ⟨A,0,none⟩) (m+1) cap) (m+1) _ (by simp[Act.eval]) ((Mt.out.alloc _).drew) ⟨W8.heap.size,0,none⟩ 1 1 [.int .i64 (k:Int),.string ⟨t.toArray⟩,.int .i64 (kM.length:Int),.int .i64 qN] (by simp[Act.eval]) rfl (hnew.out _ rfl) (by intro u hu;simp only[List.mem_cons,List.not_mem_nil,or_false]at hu;rcases hu with rfl|rfl|rfl|rfl<;>rfl) (by omega) (by omega) (by have:=World.size_alloc W8;simp;omega) ?_;intro v9 w9 yX jA;obtain⟨g9,agm,rfl,c9,z9,lS,HO9⟩:=R6 AQ.out yX jA;clear yX jA)
  all_goals
   go_end0
   obtain⟨hpr,htc⟩:=AQ.out.appended (x:=⟨k,t,kM.length,(kM++Lx.gB k t).length⟩) lS.out (by
    have:=HO9.out;rw[←hto]at this;rw[hm];simpa[iO]using this)
   unfold added;rw[Yb];rw[htx];exact⟨rfl,_,OO,_,hpr,PS.trans Cb.out htc⟩
theorem ae8{w:World}{p B:Nat}{vt vb:Value}{cs:Array Value}{txt:List UInt8}{toks:List Lx.aB}(h:Pr w p B vt vb cs toks txt)(k:Nat)(t:List UInt8)(hB:B≤w.heap.size)(hl:txt.length≤2000000)(ht:t.length≤2000000)(hn:toks.length≤2000000):
  Calls Tryz.prog 96 #[.pointer (some ⟨p,0,none⟩),.int .i64 (k:Int),.string ⟨t.toArray⟩] w fun e w'=>e=.returned (.tuple #[])∧
   ∃R7 F9 cs',Pr w' p B R7 F9 cs' (added toks txt ⟨k,t⟩) (txt++gap toks ⟨k,t⟩++Lx.spell ⟨k,t⟩)∧Touch (PS p B w) w w':=by
 cases he:toks.length with
 |zero=>
  have e0:toks=[]:=List.length_eq_zero_iff.1 he;subst e0;exact aaH h k t hB hl ht
 |succ m=>
  have hlt:m<toks.length:=by omega
  exact ac1 he (List.getElem?_eq_getElem hlt) h k t hB hl ht (by omega)
end
section
def adds:List Lx.Tok→List Lx.aB→List UInt8→List Lx.aB×List UInt8
 |[],toks,txt=>(toks,txt)
 |t::l,toks,txt=>adds l (added toks txt t) (txt++gap toks t++Lx.spell t)
theorem zo:∀(l m:List Lx.Tok) (toks:List Lx.aB) (txt:List UInt8),adds (l++m) toks txt=adds m (adds l toks txt).1 (adds l toks txt).2
 |[],_,_,_=>rfl
 |t::l,m,toks,txt=>by
  show adds (l++m) _ _=_;rw[zo l m];rfl
theorem VP:∀(l:List Lx.Tok) (toks:List Lx.aB) (txt:List UInt8),adds l toks txt=(toks++Lx.placed txt.length (Tr.uI (toks.getLast?.map Lx.tok) l),txt++Lx.flat (Tr.uI (toks.getLast?.map Lx.tok) l))
 |[],toks,txt=>by simp[adds,Tr.uI,Lx.placed,Lx.flat]
 |t::l,toks,txt=>by
  have hs:Tr.uI (toks.getLast?.map Lx.tok) (t::l)=(gap toks t,t)::Tr.uI (some t) l:=by
   unfold gap zn;cases toks.getLast?<;>rfl
  have e1:(added toks txt t).getLast?.map Lx.tok=some t:=by simp[added,Lx.tok]
  show adds l (added toks txt t) (txt++gap toks t++Lx.spell t)=_;rw[VP l,e1,hs];simp[added,Lx.placed,Lx.flat,Nat.add_assoc]
theorem Yc(l:List Lx.Tok):adds l [] []=(Lx.placed 0 (Tr.uI none l),Tr.xU l):=by
 rw[VP];rfl
end
end Go.Proofs.YtcgbccfpcgaikaaGreatDoor
