/- Part 3 of 41 of a proof. No condition. -/
import Derived.Test.YtabjglnjjdcfmaaGreatDoorRows
import Derived.WalkKit
import Derived.WalkSpells
import Derived.WalkLawsBesides
import Derived.Deep.QuietTactic
import Derived.BigQuiet
import Derived.Deep.Draws
import Derived.StillTailTactics
import Derived.Deep.RegionHeld3
import Derived.Lib.QuietBelow
import Derived.ProofKit
import Derived.ChangeMaps5
import Derived.WideKeyArgs
import Derived.Lib.SmallJoins
import Derived.Maps.AppendAt
import Derived.Deep.RegionLaw
import Derived.Deep.DeepCutAuto
import Derived.Lib.Builder
import Derived.Lib.UnsafeStr
import Derived.Test.YtabjglnjjdcfmaaGreatDoorWe1
set_option maxRecDepth 100000
set_option maxHeartbeats 1000000
namespace Go.Proofs.YtabjglnjjdcfmaaGreatDoor
open _root_.Go.World renaming cell?->awT,setCell->auX
open _root_.Nat renaming le_refl->au3,le_trans->au2,lt_of_lt_of_le->avc,lt_or_ge->avE,zero_add->au8
open _root_.List renaming mem_cons_self->awJ,mem_append_left->awK,mem_append_right->awU,append_nil->avf,range->awj,isEmpty_iff->avV
open _root_.Go.Region renaming binds->awn,ready->au5,waitsFor->awL,noSelect->avu
open _root_.Bool renaming and_eq_true->auY,or_eq_true->av3,not_eq_true'->avN
open _root_.Array renaming replicate->au4,getElem?_setIfInBounds_ne->avQ,getElem?_setIfInBounds_self_of_lt->awM
section
open Go.RowKit
theorem aeq{k:IntKind}{a b:Int}(h:a=b):Ending.returned (.int k a)=.returned (.int k b):=by rw[h]
def Hd(p:Prop):Prop:=p
theorem Hd.out{p:Prop}(h:Hd p):p:=h
theorem hid{p:Prop}(h:p):Hd p:=h
abbrev V(x:Int):Value:=.int .i64 x
abbrev S_(x:List UInt8):Value:=.string ⟨x.toArray⟩
abbrev E_:Value:=.string ⟨#[]⟩
abbrev N_:Value:=.slice none 0 0
abbrev A_(g o:Nat):Option Addr:=some ⟨g,o,none⟩
abbrev B_(g o:Nat):Addr:=⟨g,o,none⟩
abbrev W_:=World
abbrev Y_:=ByteArray
abbrev C_:=Calls Tryz.prog
theorem I{p:Prop}(h:p):Hd p:=h
section
variable{p q:Prop}
theorem Zo(h:p:=by omega):p:=h
theorem Zp(h:p:=by first|exact bH|assumption|exact bD (by assumption)):p:=h
theorem Z4(h:q)(k:q->p:=by intro z9;refine ak rfl (λK hK=>?_);go_simp;refine hK _ ?_;clear hK K;exact z9):p:=k h
theorem Pf(h:p:=by decide):p:=h
theorem Pg(h:p:=by kernel_rfl):p:=h
theorem Ph(h:p:=by exactλ_ _ d _ _ h=>by cases d<;>exact h):p:=h
theorem Py(h:p:=by refine bodyPost_ret (v:=.tuple #[.agg #[V k,.string tx,V f,V t],.bool b]) (by simp[results,results87,go_sem,q0,q1,q2,q3]) rfl ?_;exact bA.close hL HX HT.pG fU):p:=h
theorem PD(h:p:=by exact Nat.le_refl _):p:=h
theorem PR(h:p:=by exactλh=>h):p:=h
theorem P9(h:p:=by simp):p:=h
theorem R4(h:p:=by have:=aq.out;omega):p:=h
theorem Wh(h:p:=by exact .inl rfl):p:=h
theorem WH(h:p:=by simp[Act.eval]):p:=h
theorem WI(h:p:=by refine bodyPost_ret (v:=.tuple #[.slice A ks.length cp,aG 0 0]) (by simp[aG,results,results27,go_sem,f0,f1]) rfl ?_;rw[Eu.out]at HQ;exact HQ _ _ ⟨A,cp,k1,rfl,aa,rfl,aJ,am,pq⟩):p:=h
theorem WJ(h:p:=by first|rfl|(simp only[List.append_assoc]<;>rfl)):p:=h
theorem WK(h:p:=by refine bodyPost_ret (v:=.tuple #[.agg #[V k,.string tx,V f,V t],.bool b]) (by simp[results,results123,go_sem,q0,q1,q2,q3]) rfl ?_;exact bA.close hL HX.out ((Q.Ke.mono (λ_ h=>h.elim)).trans ao.out) fU.out):p:=h
theorem WL(h:p:=by exact .inr (by show w.heap.size<=w.heap.size;omega)):p:=h
theorem WM(h:p:=by exact show af (((w2.alloc (.cells #[.int .i64 a.QI,.string ⟨a.QG.toArray⟩,.int .i64 a.ah,.slice A1 a.Qx.length uo] 31)).alloc (.cells #[.int .i64 0,.int .i64 0] 45)).alloc (.cells #[.int .i64 a.QI,.string ⟨a.QG.toArray⟩,.int .i64 a.ah,.slice A1 a.Qx.length uo] 31)) (w2.heap.size+1+1) 31 #[.int .i64 a.QI,.string ⟨a.QG.toArray⟩,.int .i64 a.ah,.slice A1 a.Qx.length uo]from by have:=af.new ((w2.alloc (.cells #[.int .i64 a.QI,.string ⟨a.QG.toArray⟩,.int .i64 a.ah,.slice A1 a.Qx.length uo] 31)).alloc (.cells #[.int .i64 0,.int .i64 0] 45)) 31 #[.int .i64 a.QI,.string ⟨a.QG.toArray⟩,.int .i64 a.ah,.slice A1 a.Qx.length uo];simpa using this):p:=h
theorem WN(h:p:=by simp;omega):p:=h
theorem Vi(h:p:=by exact .inr (by show w.heap.size<=w.heap.size+1;omega)):p:=h
theorem V9(h:q)(k:q->p:=by intro z9;refine eX rfl (λK hK=>?_);go_simp;refine hK _ ?_;clear hK K;exact z9):p:=k h
theorem Uk(h:p:=by first|exact H.alloc _|exact(H.alloc _).drewN _):p:=h
theorem Ul(h:p:=by rw[pJ.out]<;>(simp only[*]<;>rfl)):p:=h
theorem Um(h:p:=by refine bodyPost_ret (v:=.tuple #[.agg #[V k,.string tx,V f,V t],.bool b]) (by simp[results,results124,go_sem,q0,q1,q2,q3]) rfl ?_;exact bA.close hL HX ao.pG fU):p:=h
theorem Un(h:p:=by exact results_none rfl _ _ _):p:=h
theorem Uo(h:p:=by refine bodyPost_ret (v:=.tuple #[.agg #[V k,.string tx,V f,V t],.bool b]) (by simp[results,results121,go_sem,q0,q1,q2,q3]) rfl ?_;rw[<-aa.out];exact(bA.close hL (HX.drewN _) (ao.pG.drewN _) fU).drewN _):p:=h
theorem Uq(h:p:=by first|exact HF|exact HF.alloc _|exact(HF.alloc _).alloc _|exact HF.drewN _|exact(HF.alloc _).drewN _|exact((HF.alloc _).alloc _).drewN _):p:=h
theorem UZ(h:p:=by have:=gP.out;omega):p:=h
theorem U8(h:p:=by exact(af.new w _ _).drewN _):p:=h
theorem TR(h:p:=by exact(H.alloc _).drewN _):p:=h
theorem SX(h:p:=by exact below_regrown _ _ _):p:=h
theorem Jd(h:p:=by exact au.bG (show ag w _ from aF) bO):p:=h
theorem Jy(h:p:=by simp[aG,results,results126,go_sem,f0,f1,g0,g1,g2,g3]):p:=h
theorem JI(h:p:=by exact Nat.zero_le _):p:=h
theorem JJ(h:p:=by exact ay.QH aL aF):p:=h
theorem JY(h:p:=by simp only[List.length_append,List.length_cons,List.length_nil];omega):p:=h
theorem FU(h:p:=by exact au.app jm (au.bG (show ag w1 _ from aF) dH)):p:=h
theorem Ea(h:p:=by simp[aG,results,results92,go_sem,f0,f1]):p:=h
theorem El(h:p:=by rw[List.mem_singleton.1 hi,hL.1];refine wpOp_mono (λa'' w'' h''=>?_) (jD ae hL.2);have hz2:nC .any l.toArray Rf (fin.setIfInBounds t true) (fin.setIfInBounds t true):=⟨hz'.closed.put aa,λ_ h=>h,λ_ h=>.inl h⟩;have h2:=lG (P:=P) (Q:=Q) (fin:=Kk) ab hQ hs2 (by rw[hr2];simp) p2 _ a'' w'' ac hz2 ay h''.1 h''.2;exact nL (g:=0) (λlisted' a' w' _ hL=>wpAny_done (by rw[hL.1];exact hr2) hL.2 0) p2.len _ a'' _ h''.1 h2):p:=h
theorem EP(h:p:=by simp[results,results79,go_sem,r0,r1,r2,r3]):p:=h
theorem ET(h:p:=by exact .inr PD):p:=h
theorem Lb(h:p:=by exactλb hb=>by have:=ax.out;subst hb;exact⟨by omega,by omega,_,_,Pf,dY.out⟩):p:=h
theorem Ll(h:p:=by exact nV.step ((M (λk=>k=w.heap.size+1) w6).aO Wh _ _ _ _) (λi _ hi=>by have:=pI.out;have hi:i=w.heap.size+1:=hi;omega) (λi _ hi=>by have:=pI.out;omega)):p:=h
theorem Ls(h:p:=by exact .inr Zo):p:=h
theorem MV(h:p:=by simp only[Tr.eu,List.contains_cons,List.contains_nil, *]<;>rfl):p:=h
theorem MW(h:p:=by rw[beq_eq_false_iff_ne];omega):p:=h
theorem MX(h:p:=by simp[aG,results,results51,go_sem,f0,f1]):p:=h
theorem qD(h:p:=by have:=qh.out;have:=gP.out;omega):p:=h
theorem uY(h:p:=by unfold mJ;simp only[*]<;>rfl):p:=h
theorem vG(h:p:=by simp only[maxLen];omega):p:=h
theorem yg(h:p:=by obtain⟨hB,cs,h1,h2⟩:=h;refine⟨Nat.le_trans hB ht.size,cs,aQ h1 ht λk hk hs=>?_,h2.step ht (λi hi hs=>.inr (hS i hs hi)) (λ_ _ h=>h)⟩;have h3:=h1.lt k hk;have:=hS k hs h3.2;omega):p:=h
theorem a_(h:p:=by exact ay.QH bZ aF):p:=h
theorem b_(h:p:=by exact au.app kT (au.bG (show ag w2 _ from aF) fo)):p:=h
theorem d_(h:p:=by exact HQ _ _ ⟨_,1,k'.up,rfl,aa,(Cf.alE ..).symm,by have:=aJ.out;have:=uP.out;(try simp only[Kp.alq]at*);omega,am,wO⟩):p:=h
theorem f_(h:p:=by exact List.getElem_mem c1):p:=h
theorem g_(h:p:=by simp[aG,results,results47,go_sem,f0,f1]):p:=h
theorem h_(h:p:=by have:=oJ.out;(try simp only[Kp.alq]at this|-);omega):p:=h
theorem j_(h:p:=by exact show ag w2 (((w2.alloc (.cells #[.int .i64 a.QI,.string ⟨a.QG.toArray⟩,.int .i64 a.ah,.slice A1 a.Qx.length uo] 31)).alloc (.cells #[.int .i64 0,.int .i64 0] 45)).alloc (.cells #[.int .i64 a.QI,.string ⟨a.QG.toArray⟩,.int .i64 a.ah,.slice A1 a.Qx.length uo] 31))from(((M _ _).alloc _).alloc _).alloc _):p:=h
theorem l_(h:p:=by have:=gP.out;have:=aq.out;omega):p:=h
theorem n_(h:p:=by refine(qJ S g (b::l) c _ je).mono ?_;rintro _ w2 ⟨rfl,rfl⟩;refine⟨rfl,(?_:XB S g w (jk n c (b::l)) _ _)⟩;rw[dB.out];exact⟨rfl,aK.mono λ_ h=>h.elim⟩):p:=h
theorem o_(h:p:=by exact show(Tryz.prog.info? 31).map (λi=>(i.zero,i.size,i.bytes))=some (some (.agg ZN),4,56) by kernel_rfl):p:=h
theorem p_(h:p:=by have:=gu.out;omega):p:=h
theorem r_(h:p:=by simpa using c1):p:=h
theorem t_(h:p:=by simp only[Tr.GK,List.contains_cons,List.contains_nil, *]<;>rfl):p:=h
theorem u_(h:p:=by go_ret;exact⟨ai _ _ Ul,rfl⟩):p:=h
theorem v_(h:p:=by rw[List.set_append_right _ _ (by omega),List.set_append_right _ _ (by omega),List.set_append_right _ _ (by omega),List.set_append_right _ _ (by omega),show n*4-xs.length=0 by omega,show n*4+1-xs.length=1 by omega,show n*4+2-xs.length=2 by omega,show n*4+3-xs.length=3 by omega];rfl):p:=h
theorem w_(h:p:=by exact HQ.out _ _ ⟨A,cp,k',rfl,(jK.base iI.size).other dY.out Pf fA,ao.out,by have:=aJ.out;(try simp only[Kp.alq]at this|-);omega,am,iU⟩):p:=h
theorem x_(h:p:=by exact ht.QN U8 Zo):p:=h
theorem y_(h:p:=by exact ap.cell 0|>.trans rfl):p:=h
theorem z_(h:p:=by exact ap.cell 1|>.trans rfl):p:=h
theorem D_(h:p:=by show(if 200<=n\/(38:UInt8)=60\/aU 38=false then _ else if(38:UInt8)=38 then _ else _)=_;rw[if_neg (hno 38 Pf Pf),if_pos rfl];simp[eT,cO,pre]):p:=h
theorem F_(h:p:=by exactλ(w':W_) (hf:ag w w')=>qO c hc k op w' (h.QH hf)):p:=h
theorem G_(h:p:=by exact hf.QN (af.new w2 131 #[V (t.QI:Int),S_ t.QG,V (t.from_:Int),V (t.eF:Int)]) λh=>h):p:=h
theorem H_(h:p:=by exact show Calls _ _ _ _ (λe w'=>e=.returned (.bool true)/\ag w w')from hA▸Ba x.1 w (by have:=je.out;unfold maxLen at this;omega)):p:=h
theorem I_(h:p:=by decide+kernel):p:=h
theorem J_(h:p:=by simp[Nd.Qx]):p:=h
theorem K_(h:p:=by exact ay.QH dM aF):p:=h
theorem L_(h:p:=by have:=AJ.out;rw[Dj.out]at this;have:=HL.out;rw[List.length_append];omega):p:=h
theorem M_(h:p:=by refine bodyPost_ret (results_tmp2 rfl _ _ _) rfl ?_;exact al2 HN):p:=h
theorem O_(h:p:=by exactλw'=>lK (uW ⟨n.QG.toArray⟩ w')):p:=h
theorem P_(h:p:=by go_ret;exact⟨ai _ _ uY,(kV (aK.trans bW))⟩):p:=h
theorem Q_(h:p:=by exact(M _ _).alloc _):p:=h
theorem R_(h:p:=by refine bodyPost_ret (v:=.tuple #[N_,aG i er]) MX rfl ?_;exact HQ _ _ ⟨F7,none,0,0,rfl,wO⟩):p:=h
theorem T_(h:p:=by exactλ_ _=>by kernel_rfl):p:=h
theorem U_(h:p:=by simp[aG,results,results128,go_sem,f0,f1]):p:=h
theorem V_(h:p:=by obtain⟨r0,r1,r2,r3,_,_,_,_,_⟩:=af.QM (jV.gH (V 2) (S_ t) (V 0) (N_));simp only[aO]at r0 r1 r2 r3;refine bodyPost_ret (v:=.agg #[V 2,S_ t,V 0,N_]) EP rfl ?_;exact⟨_,rfl,N_,rfl,Touch.aO jQ ET _ _ _ _,wL,λW _=>aD.nil _ _⟩):p:=h
theorem X_(h:p:=by exact show gZ W1 gk ok x xa xk from by have hx:=HX.out;subst hx;simpa using jW):p:=h
theorem Z_(h:p:=by intro u hu;simp only[List.mem_cons,List.not_mem_nil,or_false]at hu;rcases hu with rfl|rfl|rfl|rfl<;>rfl):p:=h
theorem aaE(h:p:=by exactλk hk=>by have:=gu.out;rcases hk with rfl|rfl<;>omega):p:=h
theorem aaU(h:p:=by refine bodyPost_ret (v:=.tuple #[.agg yM,aG pl 3]) Jy rfl ?_;exact HQ _ _ ⟨by decide,.mk 0 [] 0 [],none,0,rfl,xO⟩):p:=h
theorem aaV(h:p:=by exactλb hb=>by have:=ax.out;subst hb;exact⟨by omega,by omega,_,_,Pf,tN⟩):p:=h
theorem aaW(h:p:=by go_ret;rw[dB.out];exact⟨rfl,jy,oh⟩):p:=h
theorem abx(h:p:=by exact show dz (λk=>k<=w.heap.size) w3 λW=>aD W (bN x.Qx) (.slice Ar (bN x.Qx).length cr)from(show dz (λk=>k<w2.heap.size) w3 λW=>aD W (bN x.Qx) (.slice Ar (bN x.Qx).length cr)from qd).mono λk _ hk=>by omega):p:=h
theorem aby(h:p:=by go_ret;exact⟨by rw[hr.out];rfl,((M _ w).alloc _).alloc _⟩):p:=h
theorem abQ(h:p:=by exact HQ.out _ _ ⟨F7.out,A,n,cp,rfl,iU⟩):p:=h
theorem abR(h:p:=by exact af.new w 31 ZN):p:=h
theorem abS(h:p:=by exact⟨⟨j+1,A8,c8,by simp,by omega,wE.far (p:=B_ b 3) (by have:=gu.out;show w.heap.size≠b;omega) _,tC.put 3 _,jA,xJ.setCell (p:=B_ b 3) (.inr (by show w.heap.size<=b;have:=gu.out;omega)) _⟩,by simp[intOf];omega⟩):p:=h
theorem abT(h:p:=by have:=Et.out;have:=AJ.out;omega):p:=h
theorem abU(h:p:=by refine bodyPost_ret (v:=.tuple #[nv D7.Jf (N_),V 1]) (by simp[nv,D7.Jf,Nd.QI,Nd.QG,Nd.ah,results,results169,go_sem,g0,g1,g2,g3]) rfl ?_;exact HQ _ _ (by rw[al.out];exact⟨none,0,rfl,.nil _ _,Nat.zero_le _,hf⟩)):p:=h
theorem abV(h:p:=by exactλk hk=>by have:=aa.out;have:=ac.out;rcases hk with rfl|rfl<;>omega):p:=h
theorem abW(h:p:=by exact Mp.QH (g:=c.g) (B:=c.W0.heap.size) (eY.trans hf)):p:=h
theorem adv(h:p:=by have:=h.1;rw[List.length_append]at this;simp only[List.length_cons,List.length_nil]at this;omega):p:=h
theorem adL(h:p:=by exact hf.QN (af.new2 w (.cells yM 31) 45 #[V 0,V 0]) PR):p:=h
theorem adM(h:p:=by have am:=oL.mv fA (λb hb=>by have:=ax.out;subst hb;exact⟨by omega,by omega,_,_,Pf,dY⟩);exact HQ _ _ ⟨_,1,k',rfl,jK.other dY Pf fA,ao,by have:=aJ.out;(try simp only[Kp.alq]at this|-);omega,am,iU⟩):p:=h
theorem aes(h:p:=by exact(M _ _).drewN _):p:=h
theorem aey(h:p:=by have:=(HOW _ hk).1;omega):p:=h
theorem aez(h:p:=by have:=xq.out;omega):p:=h
theorem aeA(h:p:=by exact iI.trans hm):p:=h
theorem aeB(h:p:=by show(true&&decide ((ss.map (ax aj)).length=2)&&true&&decide (0=0))=true;rw[hlen,hn];rfl):p:=h
theorem aeC(h:p:=by simp[results,results67,go_sem,r0,r1,r2,r3]):p:=h
theorem aeD(h:p:=by exact show w4.cell? (B_ wr.heap.size 0)=some (S_ x.1)from iB.cell 0):p:=h
theorem aeE(h:p:=by exact show w4.cell? (B_ wr.heap.size 1)=some (S_ x.2)from iB.cell 1):p:=h
theorem aeF(h:p:=by refine bodyPost_ret (v:=.tuple #[.slice (A_ (wx.heap.size+1) 0) 1 1,aG 0 0]) MX rfl ?_;exact HQ _ _ ⟨_,1,k4,rfl,CB,rfl,by have:=Dk.out;have:=KP.out;have:=FL.out;have:=adq.out;omega,am,xO⟩):p:=h
theorem aeG(h:p:=by exact ay.add JJ bO):p:=h
theorem aeH(h:p:=by refine bodyPost_ret (v:=.agg #[.int .i64 kd,S_ t1,.int .i64 cl,.slice A' j cp]) (by simp[results,results40,go_sem,g0,g1,g2,g3]) rfl ?_;rw[dB.out];exact⟨_,rfl,hf,wL,jA,aR,λh=>(bc h).1⟩):p:=h
theorem aeI(h:p:=by simp[aG,results,results146,go_sem,f0,f1]):p:=h
theorem aeJ(h:p:=by exactλk hk=>by have:=qh.out;omega):p:=h
theorem aeK(h:p:=by simp[aG,results,results46,go_sem,f0,f1]):p:=h
theorem aeL(h:p:=by refine bodyPost_ret (v:=.tuple #[.slice (A_ (wx.heap.size+1) 0) 1 1,aG 0 0]) MX rfl ?_;exact HQ _ _ ⟨_,1,k3,rfl,CB,rfl,by have:=Dk.out;have:=KP.out;have:=FL.out;omega,am,xO⟩):p:=h
theorem aeM(h:p:=by simp[aG,results,results14,go_sem,f0,f1,g0,g1,g2,g3]):p:=h
theorem aeN(h:p:=by exact show ag w5 (w5.drewN _)from(M (λ_=>False) w5).drewN nq):p:=h
theorem aeO(h:p:=by exactλk hk _=>by omega):p:=h
theorem aeP(h:p:=by simp only[List.length_cons,List.length_append,count,az];omega):p:=h
theorem aeQ(h:p:=by simpa using h3):p:=h
theorem afA(h:p:=by rw[iM]at hl;obtain⟨r,hr,rfl⟩:=List.mem_map.1 hl;rw[zb]at he;obtain⟨y,hy,rfl⟩:=List.mem_map.1 he;obtain⟨h1,h2,h3,h4⟩:=(hs r hr).2.2 y hy;exact ih y Zo h2 h1):p:=h
theorem afB(h:p:=by exact Fits.right fP):p:=h
theorem afC(h:p:=by have:=ay.lt mR;have:=ay.hB mR;omega):p:=h
theorem afD(h:p:=by exact M _ _):p:=h
theorem agJ(h:p:=by refine⟨_,rfl,N_,.slice Ae ks.length ce,rfl,Touch.aO HF Ls _ _ _ _,?_⟩;exact(qL.done.mono λi _ hi=>by omega).imp λW hW=>⟨gJ.nil _ _ _,hW,uf,Nat.zero_le _⟩):p:=h
theorem ag6(h:p:=by obtain⟨h1,cur,h2⟩:=fe ho hb';intro e;subst e;unfold af at hb;rw[hb]at h2;cases h2):p:=h
theorem ag7(h:p:=by rw[vz];exact aZ SX):p:=h
theorem ah5(h:p:=by exact⟨rfl,rfl⟩):p:=h
theorem ah6(h:p:=by exact h.QH hf):p:=h
theorem ah7(h:p:=by simpa using this):p:=h
theorem ah8(h:p:=by have:=aq.out;have:=ax.out;omega):p:=h
theorem ah9(h:p:=by have HM:=I hM;clear hM;simp only[aO]at r0 r1 r2 r3 HM;refine bodyPost_ret (v:=.agg #[V 6,E_,V 0,.slice (A_ w3.heap.size 0) 2 2]) EP rfl ?_;exact⟨_,rfl,HM⟩):p:=h
theorem ah'(h:p:=by have:=Mq.out;simp only[Tr.az]at this|-;omega):p:=h
theorem aia(h:p:=by rw[hr];simp):p:=h
theorem aib(h:p:=by rw[ze];simp only[*]<;>rfl):p:=h
theorem aic(h:p:=by exact Touch.pre hf):p:=h
theorem aid(h:p:=by go_ret;exact⟨ai _ _ MV,rfl⟩):p:=h
theorem aie(h:p:=by rw[hsz]at this;exact this):p:=h
theorem aif(h:p:=by exactλk hk=>.inr (by cases hk;exact Nat.le_refl _)):p:=h
theorem aih(h:p:=by show _≠g;omega):p:=h
theorem aii(h:p:=by have am:=oL.mv fA Lb;exact HQ.out _ _ ⟨_,1,k',rfl,jK.other dY.out Pf fA,ao.out,by have:=aJ.out;(try simp only[Kp.alq]at this|-);omega,am,iU⟩):p:=h
theorem aij(h:p:=by unfold maxLen;omega):p:=h
theorem aik(h:p:=by exact hf.QN (af.new w 45 #[V 0,V 0]) PR):p:=h
theorem ail(h:p:=by have:=ax.out;omega):p:=h
theorem aim(h:p:=by have:=aa.out;omega):p:=h
theorem ain(h:p:=by have:=a2.out;omega):p:=h
theorem aio(h:p:=by simp[results,results7,go_sem,g0,g1,g2,g3]):p:=h
theorem aip(h:p:=by intro hx;rw[List.contains_iff_mem.2 hx]at ht;cases ht):p:=h
theorem aiq(h:p:=by exact⟨none,0,by rw[h1,h2]⟩):p:=h
theorem air(h:p:=by refine bodyPost_ret (v:=.tuple #[.slice A n cp,aG i er]) Ea rfl ?_;exact abQ):p:=h
theorem ais(h:p:=by have:=gP.out;simp;omega):p:=h
theorem ait(h:p:=by exact hm.QN tK.out Zo Pf):p:=h
theorem aiu(h:p:=by simpa using h):p:=h
theorem aiv(h:p:=by exactλk hk h=>by simp[Value.ownBlock]at hk;omega):p:=h
theorem aiw(h:p:=by rw[h]<;>rfl):p:=h
theorem aix(h:p:=by exact au.app oW (au.bG (show ag w3 _ from aF) mQ)):p:=h
theorem ajv(h:p:=by exact show ag w ((w.alloc (.cells #[V 2,S_ n.QG,V n.ah,.slice A n.Qx.length cap] 31)).alloc (.cells Z 62))from((M _ _).alloc _).alloc _):p:=h
theorem akN(h:p:=by exact au.app Bh (au.bG (show ag w4 _ from aF) qo)):p:=h
theorem akO(h:p:=by have hx:=h2;simp only[decide_eq_false_iff_not]at hx|-;omega):p:=h
theorem akP(h:p:=by exact iW.trans (dK.mono λ_ h=>h.elim)):p:=h
theorem akQ(h:p:=by exact HT.trans (iT.mono λ_ h=>h.elim)):p:=h
theorem akR(h:p:=by exact show ag w ((w.alloc (.cells #[V 6,S_ n.QG,V n.ah,.slice (A_ g o) 2 cap] 31)).alloc (.cells Z 62))from((M _ _).alloc _).alloc _):p:=h
theorem alH(h:p:=by exact List.mem_cons_self ..):p:=h
theorem alL(h:p:=by exact show Calls _ _ _ _ (λe w'=>e=.returned (.bool true)/\ag w w')from hB▸DL x.2 w (by have:=p8.out;unfold maxLen at this;omega)):p:=h
theorem al9(h:p:=by go_ret;exact jE HV (HT.trans (eY.mono λ_ h=>h.elim)) (eY.QN HC λh=>h)):p:=h
theorem amG(h:p:=by exact Nat.le_trans (Nat.le_trans aK.size HY1) PD):p:=h
theorem amN(h:p:=by rw[hL.1];exact hr):p:=h
theorem amZ(h:p:=by rw[IntWalk.i64_in _ (by omega)];omega):p:=h
theorem am5(h:p:=by simpa using hi):p:=h
theorem ani(h:p:=by rw[bne,h3];rfl):p:=h
theorem anj(h:p:=by exact yL w7 w.heap.size (V 1) (E_) (V 0) (.slice A QS.length cp)):p:=h
theorem ank(h:p:=by rw[lg.out,show F-(ks.length+1)=f' from by have:=CE.out;omega];exact kX):p:=h
theorem anw(h:p:=by go_ret;exact⟨ai _ _ aib,rfl⟩):p:=h
theorem anH(h:p:=by rw[hr];intro j hj;rw[List.mem_singleton.1 hj];exact af):p:=h
theorem anI(h:p:=by exactλ_ _ h=>h):p:=h
theorem anN(h:p:=by exact HE.QH aj):p:=h
theorem an'(h:p:=by exact aA (fI.alloc _)):p:=h
theorem aoa(h:p:=by exact show ag w w1 from Touch.pre hf):p:=h
theorem aob(h:p:=by rfl):p:=h
theorem aop(h:p:=by simp only[List.length_cons,List.length_append,List.length_nil];omega):p:=h
theorem aoq(h:p:=by exact .inr (by show w.heap.size<=w4.heap.size;have:=gP.out;omega)):p:=h
theorem apb(h:p:=by have hx:=h2;simp only[decide_eq_true_eq]at hx|-;omega):p:=h
theorem apc(h:p:=by rw[BX];simp only[*]<;>rfl):p:=h
theorem aqg(h:p:=by rw[e];omega):p:=h
theorem aqh(h:p:=by exact aP.lit (n:=Np.CG QS) ((aa.QH IP.out).QH fI.out) (Nat.le_trans ah.out (Nat.le_trans IP.size fI.size)) JI):p:=h
theorem aqi(h:p:=by rw[Nat.add_sub_cancel' (by omega)]):p:=h
theorem aqj(h:p:=by refine bodyPost_ret (v:=.tuple #[N_,aG fr 3]) g_ rfl ?_;rw[kX.out,<-aT.out]at HQ;exact HQ _ _ ⟨by decide,none,0,0,rfl,wO⟩):p:=h
theorem aqk(h:p:=by rw[show((a:Int)+1).toNat=a+1 from by omega];exact N3):p:=h
theorem aql(h:p:=by have:=ar.out;omega):p:=h
theorem aqm(h:p:=by exact show(cO.take (0+1)).find? (λx=>x.1==s)=none by rw[qK s 0 (by decide),zZ.out,show(cO[0].1==s)=false from heq];rfl):p:=h
theorem aqn(h:p:=by exact show(cO.take (1+1)).find? (λx=>x.1==s)=none by rw[qK s 1 (by decide),zZ.out,show(cO[1].1==s)=false from heq];rfl):p:=h
theorem aqo(h:p:=by exact show(cO.take (2+1)).find? (λx=>x.1==s)=none by rw[qK s 2 (by decide),zZ.out,show(cO[2].1==s)=false from heq];rfl):p:=h
theorem aqp(h:p:=by exact show(cO.take (3+1)).find? (λx=>x.1==s)=none by rw[qK s 3 (by decide),zZ.out,show(cO[3].1==s)=false from heq];rfl):p:=h
theorem aqr(h:p:=by rw[Int.natCast_emod,aB];exact hm):p:=h
theorem aqs(h:p:=by rw[<-Nat.succ_mul];exact Nat.mul_le_mul_right _ hr):p:=h
theorem aqt(h:p:=by exact xG.mv ((M (λb=>b=g) w5).setCell (p:=B_ g 1) Wh (V (((S.size-(b2::l2).length:Nat):Int)+1))) λk hk _=>by omega):p:=h
theorem aqu(h:p:=by exact Few.map λ_=>by simp):p:=h
theorem aqv(h:p:=by exact ay.jS a_ dH):p:=h
theorem aqw(h:p:=by rw[Bool.eq_iff_iff,decide_eq_true_iff,decide_eq_true_iff];omega):p:=h
theorem aqx(h:p:=by go_ret;exact⟨ai _ _ Ul,(kV mZ)⟩):p:=h
theorem aqy(h:p:=by rw[k2];rfl):p:=h
theorem aqz(h:p:=by exact af.new w6 31 #[V (eG x).QI,.string ⟨(eG x).QG.toArray⟩,V (eG x).ah,.slice Ak (eG x).Qx.length ck]):p:=h
theorem aqA(h:p:=by exact show Touch (λb=>b=g) w w1 from hf.mono λ_ h=>h.elim):p:=h
theorem aqB(h:p:=by exact(af.new wr 31 #[V ks[j].QI,S_ ks[j].QG,V ks[j].ah,.slice Ax ks[j].Qx.length cx]).cell 0|>.trans rfl):p:=h
theorem aqC(h:p:=by exact(af.new wr 31 #[V ks[j].QI,S_ ks[j].QG,V ks[j].ah,.slice Ax ks[j].Qx.length cx]).cell 1|>.trans rfl):p:=h
theorem aqD(h:p:=by exact(af.new wr 31 #[V ks[j].QI,S_ ks[j].QG,V ks[j].ah,.slice Ax ks[j].Qx.length cx]).cell 2|>.trans rfl):p:=h
theorem aqE(h:p:=by exact(af.new wr 31 #[V ks[j].QI,S_ ks[j].QG,V ks[j].ah,.slice Ax ks[j].Qx.length cx]).cell 3|>.trans rfl):p:=h
theorem aqF(h:p:=by rw[HS.size];exact liesBuilder):p:=h
theorem aqG(h:p:=by rw[UInt8.le_iff_toNat_le];rfl):p:=h
theorem aqH(h:p:=by rw[<-ar];have:=Tr.aN n;omega):p:=h
theorem aqI(h:p:=by exact((M _ _).alloc _).alloc _):p:=h
theorem aqJ(h:p:=by exact bJ.trans hf):p:=h
theorem aqK(h:p:=by refine bodyPost_ret (v:=.tuple #[.agg yM,aG i er]) Jy rfl ?_;exact HQ _ _ ⟨F7,.mk 0 [] 0 [],none,0,rfl,xO⟩):p:=h
theorem aqL(h:p:=by rw[List.takeWhile_append_dropWhile];exact Vw):p:=h
theorem aqM(h:p:=by exact ay.QH gI aF):p:=h
theorem aqN(h:p:=by exact ay.QH kU aF):p:=h
theorem aqO(h:p:=by go_ret;exact⟨ai _ _ (Eq.symm (by rw[nD s Tr.digit j hj c1 HA.out,Bool.true_and];simp only[*];rfl)),rfl⟩):p:=h
theorem aqP(h:p:=by exact af.new _ _ _):p:=h
theorem aqQ(h:p:=by go_ret;exact⟨ai _ _ apc,rfl⟩):p:=h
theorem aqR(h:p:=by exact HT.trans (bJ.mono λ_ h=>h.elim)):p:=h
theorem aqS(h:p:=by exact HT.trans (gL.mono λ_ h=>h.elim)):p:=h
theorem aqT(h:p:=by exact iW.trans (ve.mono λ_ h=>h.elim)):p:=h
theorem aqU(h:p:=by simp[Value.oneCell']):p:=h
theorem aqV(h:p:=by refine bodyPost_ret (v:=.tuple #[.slice A QS.length cp,aG 0 0]) Ea rfl ?_;have am:=oL.mv fA Lb;exact w_):p:=h
theorem aqW(h:p:=by show n.QG.toArray.size<=_;simpa using hm):p:=h
theorem aqX(h:p:=by exactλx hx=>by rw[List.mem_singleton.1 hx];exact ih):p:=h
theorem aqY(h:p:=by simp[maxLen]):p:=h
theorem aqZ(h:p:=by go_ret;exact⟨ai _ _ t_,rfl⟩):p:=h
theorem aq0(h:p:=by simp only[Bool.and_eq_true,decide_eq_true_eq]at h;omega):p:=h
theorem aq1(h:p:=by exactλk hk=>by rcases hv with h6|h6<;>rw[h6]at hk<;>first|exact .inl hk|(cases hk;exact .inr PD)):p:=h
theorem aq2(h:p:=by exact show(oQ d n&&decide (m+Tr.count n<=1000))=false by rw[QF.out,p1,HN.out (by rw[p2];rfl)];rfl):p:=h
theorem aq3(h:p:=by exact show ag wr w6 from((M _ wr).drewN 1).trans dK):p:=h
theorem aq4(h:p:=by exact(M _ w).alloc _):p:=h
theorem aq5(h:p:=by exact HQ.out _ _ ⟨_,1,k',rfl,(jy.out QS (aa.base ar.out)).other vv.out Pf bR,hdr,ad,am,xO⟩):p:=h
theorem aq6(h:p:=by exact(qL.mv ht λk hk _=>by omega).QH ((M _ w3).alloc (.cells #[.int .u8 (x.toNat:Int)] 5))):p:=h
theorem aq7(h:p:=by exact Q.next hL (j':=(j+2)) hb1 ad Zo Zo (by rw[show j+2-a=j-a+2 from by omega];exact HQ.out)):p:=h
theorem aq8(h:p:=by exact HF.trans hf):p:=h
theorem aq9(h:p:=by exact ay.jS K_ fo):p:=h
theorem ara(h:p:=by simp[aG,results,results89,go_sem,f0,f1]):p:=h
theorem arb(h:p:=by exact .inr (.inr (.inl ⟨hb,h⟩))):p:=h
theorem arc(h:p:=by exact dS IZ w.heap.size (V 0) (V 0)):p:=h
theorem ard(h:p:=by go_ret;exact⟨ai _ _ (by rw[HE.out];simp_all),aF⟩):p:=h
theorem arf(h:p:=by exact lJ (P:=Tryz.prog) w2 (λw hw=>(JL x _).mono λ_ _ h=>⟨h.1,by rw[h.2];exact M _ _⟩)):p:=h
theorem arh(h:p:=by exact lJ (P:=Tryz.prog) w2 (λw hw=>(BS x _).mono λ_ _ h=>⟨h.1,by rw[h.2];exact M _ _⟩)):p:=h
theorem ari(h:p:=by go_ret;exact jE HV ay Mc):p:=h
theorem arj(h:p:=by go_ret2;exact .inl ⟨_,b,HL,rfl,jK.base xI,jb,iI⟩):p:=h
theorem ark(h:p:=by exact HQ _ _ ⟨F7,none,0,0,rfl,wO⟩):p:=h
theorem arl(h:p:=by exact⟨undef,.inr ⟨by simpa using hw,rfl⟩,h⟩):p:=h
theorem arn(h:p:=by go_ret;exact⟨ai _ _ (Eq.symm (by rw[nD s nP j hj c1 HA.out,Bool.true_and];assumption)),rfl⟩):p:=h
theorem aro(h:p:=by exact bW.trans hf3):p:=h
theorem arp(h:p:=by exact hf.mono λ_ h=>h.elim):p:=h
theorem arq(h:p:=by exact .inr R4):p:=h
theorem ars(h:p:=by exact yL w8 w4.heap.size (V n8.QI) (S_ n8.QG) (V n8.ah) (.slice A8 n8.Qx.length fq)):p:=h
theorem aru(h:p:=by rw[hx];rfl):p:=h
theorem arv(h:p:=by have:=uf.out;show nm.length<=_;omega):p:=h
theorem arw(h:p:=by exact bR.QN tu λh=>by have:=(HOW _ h).1;omega):p:=h
theorem arx(h:p:=by exact bR.QN qc λh=>by have:=(HOW _ h).1;omega):p:=h
theorem ary(h:p:=by have:=World.size_alloc W8;simp;omega):p:=h
theorem arz(h:p:=by simp only[beq_eq_false_iff_ne];omega):p:=h
theorem arA(h:p:=by exact aP.agB (n1:=Np.CG QS) (yB.QH oM) (KQ.QH oM) (adt.QH oM) hB JI KR adu):p:=h
theorem arB(h:p:=by simp[nv,D7.Jf,Nd.QI,Nd.QG,Nd.ah,results,results161,go_sem,g0,g1,g2,g3]):p:=h
theorem arC(h:p:=by exact H.alloc _):p:=h
theorem arD(h:p:=by exact bQ.cons _):p:=h
theorem arE(h:p:=by go_ret;exact⟨m5,by rw[wD.out];rfl,eO.drewN _,iW.drewN _,λh=>by rw[wD.out]at h;cases h⟩):p:=h
theorem arF(h:p:=by rw[iM,List.length_map];exact hf.1.2):p:=h
theorem arG(h:p:=by rw[count,depth];omega):p:=h
theorem arH(h:p:=by exactλ_=>rfl):p:=h
theorem arI(h:p:=by exact⟨rfl,au.cast oW WJ⟩):p:=h
theorem arJ(h:p:=by exact⟨rfl,au.cast jm WJ⟩):p:=h
theorem arK(h:p:=by exact Mp.QH (g:=c.g) (B:=c.W0.heap.size) eZ):p:=h
theorem arL(h:p:=by refine bodyPost_ret (v:=.tuple #[.slice (A_ wb.heap.size 0) 1 1,aG 0 0]) g_ rfl ?_;exact d_):p:=h
theorem arM(h:p:=by rw[ar];simp):p:=h
theorem arN(h:p:=by simp[Instr.field,run_underlying underlying131,part,isAgg,asAgg,run_underlying underlying3]):p:=h
theorem arO(h:p:=by exactλi _ hi=>by show i<w.heap.size+1;omega):p:=h
theorem arP(h:p:=by simp only[List.mem_cons,List.not_mem_nil,or_false]at hl|-;exact hl.symm):p:=h
theorem arQ(h:p:=by exact HQ.out _ _ ⟨by decide,none,0,0,rfl,wO⟩):p:=h
theorem arR(h:p:=by exact HX.QH hf):p:=h
theorem arS(h:p:=by exact af.new2 w (.cells #[V 2,S_ n.QG,V n.ah,.slice A n.Qx.length cap] 31) 62 Z):p:=h
theorem arT(h:p:=by rw[List.map_append,Xe]at hm;simp only[List.map_cons,List.map_nil,Tr.az,Tr.aN]at hm;omega):p:=h
theorem arU(h:p:=by exact show eT c [] l0=.ok 38 l2 c by rw[ah.out,sG s 0 (by decide) zZ.out heq];rfl):p:=h
theorem arV(h:p:=by exact show eT c [] l0=.ok 60 l2 c by rw[ah.out,sG s 1 (by decide) zZ.out heq];rfl):p:=h
theorem arW(h:p:=by exact show eT c [] l0=.ok 62 l2 c by rw[ah.out,sG s 2 (by decide) zZ.out heq];rfl):p:=h
theorem arX(h:p:=by exact show eT c [] l0=.ok 34 l2 c by rw[ah.out,sG s 3 (by decide) zZ.out heq];rfl):p:=h
theorem arY(h:p:=by rw[List.length_append,wH.out];rfl):p:=h
theorem arZ(h:p:=by subst hz;exact Xp.sF jJ (by rw[ug.out,acj];rfl)):p:=h
theorem ar0(h:p:=by show t.toArray.size<=_;simp;omega):p:=h
theorem ar1(h:p:=by rw[hl];exact List.cons_ne_nil _ _):p:=h
theorem ar2(h:p:=by exactλb hb=>by have:=ax.out;subst hb;exact⟨by omega,by omega,_,_,Pf,vv.out⟩):p:=h
theorem ar3(h:p:=by rw[List.length_append]at this;simp only[List.length_cons,List.length_nil]at this;omega):p:=h
theorem ar4(h:p:=by exact aA ((oM.alloc _).alloc _)):p:=h
theorem ar5(h:p:=by go_ret;exact⟨m',by rw[wD.out];rfl,ai,aw.drewN _,λh=>by rw[wD.out]at h;cases h⟩):p:=h
theorem ar6(h:p:=by rintro _ w1 ⟨rfl,ht⟩;exact⟨rfl,rfl,ht⟩):p:=h
theorem ar7(h:p:=by intro u hu;simp at hu;rw[hu];rfl):p:=h
theorem ar8(h:p:=by exact show ag w (W1.drewN 1)from aK.drewN 1):p:=h
theorem ar9(h:p:=by rw[hl,Bool.eq_iff_iff,decide_eq_true_iff,decide_eq_true_iff];omega):p:=h
theorem ar'(h:p:=by rw[<-Cf.ama,hl];simp):p:=h
theorem asa(h:p:=by exact show wr.heap.size<=W8.heap.size from by have:=bR.size;have:=FR.size;omega):p:=h
theorem asb(h:p:=by simpa using h1):p:=h
theorem asc(h:p:=by exact af.new2 w (.cells #[V 6,S_ n.QG,V n.ah,.slice (A_ g o) 2 cap] 31) 62 Z):p:=h
theorem ase(h:p:=by unfold Tr.valid at h;simp only[Bool.and_eq_true,decide_eq_true_eq]at h;exact h.1.2):p:=h
theorem asf(h:p:=by generalize c.at k=s at*;obtain⟨l,n,b⟩:=s;simp only at hl;subst hl;rw[pArg];rfl):p:=h
theorem asg(h:p:=by rw[Bool.eq_iff_iff,decide_eq_true_iff,decide_eq_true_iff];omega):p:=h
theorem ash(h:p:=by rw[hW3];exact aZ SX):p:=h
theorem asi(h:p:=by exactλh=>R.map_mono (ih.within _ _ _) h):p:=h
theorem asj(h:p:=by exact Fits.ni jN):p:=h
theorem asl(h:p:=by exact ay.QH mR aF):p:=h
theorem asn(h:p:=by exact show k.p<c.T.length from Br (by rw[HL.out];exact List.cons_ne_nil _ _)):p:=h
theorem aso(h:p:=by exact HQ _ _ ⟨by decide,none,0,0,rfl,iU⟩):p:=h
theorem asq(h:p:=by have:=ba.out;omega):p:=h
theorem asr(h:p:=by exact List.mem_of_mem_take hx):p:=h
theorem ass(h:p:=by have:=Nat.div_add_mod l.length c;rw[Nat.mul_comm]at this;omega):p:=h
theorem ast(h:p:=by generalize c.at k=s at*;obtain⟨l,n,b⟩:=s;simp only at hl;subst hl;rw[dA];rfl):p:=h
theorem asu(h:p:=by rw[hp];exact h _ (λ_ _ h1 h2=>⟨h1,h2⟩)):p:=h
theorem asv(h:p:=by simp[pick,ho]):p:=h
theorem asw(h:p:=by go_ret;exact ah5):p:=h
theorem asx(h:p:=by first|assumption|exact(show 1<=9223372036854775807 by decide)):p:=h
theorem asy(h:p:=by exactλi _ hs=>.inl hs):p:=h
theorem asz(h:p:=by rw[HM.out,HP.out];have h1:=HX.len;have h2:=G9.out;rw[List.length_cons]at*;omega):p:=h
theorem asA(h:p:=by exact iW.setCell (p:=B_ g 1) Wh (V (((S.size-(b2::l2).length:Nat):Int)+1))):p:=h
theorem asB(h:p:=by go_ret;exact⟨m+1,by rw[wD.out];rfl,aC,ay,λh=>by rw[wD.out]at h;cases h⟩):p:=h
theorem asC(h:p:=by rw[GZ];exact aZ SX):p:=h
theorem asD(h:p:=by rw[Ir];exact aZ SX):p:=h
theorem asE(h:p:=by simp only[List.length_cons,List.length_append,List.length_nil,az]at hr|-;omega):p:=h
theorem asF(h:p:=by exactλb hb=>by have:=ax.out;subst hb;exact⟨by omega,ax,_,_,Pf,lT⟩):p:=h
theorem asG(h:p:=by have:=HN.out;omega):p:=h
theorem asH(h:p:=by have:=AO.out;omega):p:=h
theorem asI(h:p:=by exact⟨_,_,h1⟩):p:=h
theorem asJ(h:p:=by have hx:=h4;simp only[decide_eq_false_iff_not]at hx|-;omega):p:=h
theorem asK(h:p:=by have hx:=h7;simp only[decide_eq_false_iff_not]at hx|-;omega):p:=h
theorem asL(h:p:=by rw[Q.size];exact liesBuilder):p:=h
theorem asM(h:p:=by have hx:=h1;simp only[decide_eq_false_iff_not]at hx|-;omega):p:=h
theorem asN(h:p:=by exact lJ (P:=Tryz.prog) w4 (λw hw=>H_)):p:=h
theorem asO(h:p:=by exactλh=>by rcases h with h|h<;>omega):p:=h
theorem asP(h:p:=by exactλk hk=>.inl (.inl hk)):p:=h
theorem asQ(h:p:=by refine bodyPost_ret (v:=.tuple #[.slice A n cp,aG i er]) aeK rfl ?_;exact abQ):p:=h
theorem asR(h:p:=by exact Src.uT hb rfl):p:=h
theorem asS(h:p:=by exact CS.far (p:=B_ g 1) aih (V (((S.size-(b2::l2).length:Nat):Int)+1))):p:=h
theorem asT(h:p:=by exact eO.far (p:=B_ g 1) aih (V (((S.size-(b2::l2).length:Nat):Int)+1))):p:=h
theorem asU(h:p:=by exact show dz (λk=>k<wr.heap.size) w6 λW=>aD W (eG x).Qx sl from dZ):p:=h
theorem asV(h:p:=by refine bodyPost_ret (v:=.tuple #[.slice A n cp,aG i er]) U_ rfl ?_;exact abQ):p:=h
theorem asW(h:p:=by simp[ByteArray.data_extract,Array.toList_extract,List.extract_eq_take_drop]):p:=h
theorem asX(h:p:=by exactλk hk=>by omega):p:=h
theorem asY(h:p:=by go_ret;exact⟨rfl,HF⟩):p:=h
theorem asZ(h:p:=by exact dK.QN eO λh=>h):p:=h
theorem as0(h:p:=by exact .inr (.inr (.inr (.inr (.inr (.inr (.inr (.inl ⟨hd,h⟩)))))))):p:=h
theorem as1(h:p:=by simp only[List.length_append,List.length_cons,List.length_nil]at this;omega):p:=h
theorem as2(h:p:=by exact⟨rfl,_,OO,_,aj,PS.trans Cb ai⟩):p:=h
theorem as3(h:p:=by exact(Mp.QH (HF.alloc _)).trans hm):p:=h
theorem as4(h:p:=by exact dS _ (w.heap.size+1) (V 0) (V 0)):p:=h
theorem as5(h:p:=by exact show Touch (λb=>b=g) w w1 from(jQ.mono λ_ h=>h.elim).trans ht):p:=h
theorem as6(h:p:=by exact ht.mono λ_ h=>.inl h):p:=h
theorem as7(h:p:=by exact hf.QN ai.out λh=>h):p:=h
theorem as8(h:p:=by exact hf.QN aw.out λh=>h):p:=h
theorem as9(h:p:=by exact aP.agA (n1:=Np.CG QS) (yB.QH oM) (KQ.QH oM) hB JI KR):p:=h
theorem ata(h:p:=by obtain⟨v,h1,h2⟩:=h;exact⟨v,.inl ⟨hw,λw hw=>BG (h1 w hw)⟩,h2⟩):p:=h
theorem atb(h:p:=by rw[List.length_cons];omega):p:=h
theorem atc(h:p:=by exact show Touch (λb=>b=g) w w8 from aw.trans' bR λk hk=>.inr aey):p:=h
theorem atd(h:p:=by exact show ag w w1 from Touch.pre aic):p:=h
theorem ate(h:p:=by have h1:=rO.out;rw[h0]at h1;exact aY (by rw[h1];cases n-m<;>(rw[bV];rfl))):p:=h
theorem atf(h:p:=by simpa using hn.1):p:=h
theorem atg(h:p:=by simp[aG,uQ,results,results93,go_sem,f0,f1,g0,g1,g2,g3]):p:=h
theorem ath(h:p:=by rw[kX.out,h];rfl):p:=h
theorem ati(h:p:=by have hx:=h4;simp only[decide_eq_true_eq]at hx|-;omega):p:=h
theorem atj(h:p:=by have hx:=h7;simp only[decide_eq_true_eq]at hx|-;omega):p:=h
theorem atl(h:p:=by exact ht.QN Q.res Zo):p:=h
theorem atm(h:p:=by exactλi hi=>.inr Zo):p:=h
theorem atn(h:p:=by have hx:=h1;simp only[decide_eq_true_eq]at hx|-;omega):p:=h
theorem ato(h:p:=by rw[M8];simp only[*]<;>rfl):p:=h
theorem atp(h:p:=by show kM.length+(Lx.gB k t).toArray.size<=_;simp;omega):p:=h
theorem atq(h:p:=by exact show ag wr _ from aF):p:=h
theorem atr(h:p:=by exactλk hk=>.inl hk):p:=h
theorem att(h:p:=by exact hm.QN jg Zo Pf):p:=h
theorem atu(h:p:=by exact bR.ps (oL.QH FR) (by have:=gu.out;have:=ax.out;omega) p_):p:=h
theorem atv(h:p:=by exactλk hk=>by have h:=HP.fr.size;have:=ae.out;rw[hk];exact ae):p:=h
theorem atw(h:p:=by simp[hy]):p:=h
theorem atx(h:p:=by have:=wH.out.1;have:=av.out;simp only[maxLen];omega):p:=h
theorem aty(h:p:=by rw[bS];exact h2):p:=h
theorem atz(h:p:=by exact Touch.grown (S:=λk=>o=some k) (M _ w) hgr λk hk=>.inl hk):p:=h
theorem atA(h:p:=by exact show ag w w8 from(eY.trans gW).trans' bR λk hk=>.inr aey):p:=h
theorem atB(h:p:=by simp only[List.length_append,List.length_cons,List.length_nil];omega):p:=h
theorem atC(h:p:=by exact hm.QN jg.out Zo Pf):p:=h
theorem atD(h:p:=by exact show w.heap.size+1<w2.heap.size from(hf.QN tL λh=>h).lt):p:=h
theorem atE(h:p:=by assumption):p:=h
theorem atF(h:p:=by exactλhk=>by have:=hS _ hk;omega):p:=h
theorem atG(h:p:=by exact .inr rfl):p:=h
theorem atH(h:p:=by exact Nat.lt_of_lt_of_le hi h.size):p:=h
theorem atI(h:p:=by exact Xp.sF jJ (by rw[HA.out,hr];rfl)):p:=h
theorem atJ(h:p:=by exact⟨_,rfl,N_,rfl,Touch.aO jQ ET _ _ _ _,wL,λW _=>aD.nil _ _⟩):p:=h
theorem atK(h:p:=by exact .inr ⟨hs,vH W0 p B a ha⟩):p:=h
theorem atL(h:p:=by rw[bne,h1];rfl):p:=h
theorem atM(h:p:=by rw[bne,Qr];rfl):p:=h
theorem atN(h:p:=by rw[bne,h2];rfl):p:=h
theorem atO(h:p:=by rw[bne,h4];rfl):p:=h
theorem atP(h:p:=by rw[bne,h5];rfl):p:=h
theorem atQ(h:p:=by simpa using he):p:=h
theorem atS(h:p:=by exact bJ.trans dK):p:=h
theorem atT(h:p:=by exact uL jM.dW jM.lt (by rw[jM.size];exact Ms) ⟨(Lx.gB k t).toArray⟩ atp RP):p:=h
theorem atU(h:p:=by exact R.oC aY.out):p:=h
theorem atV(h:p:=by exactλ(b:UInt8) (w':W_) (hf:ag w w')=>vE c hc k op b w' ah6):p:=h
theorem atW(h:p:=by simp only[List.length_cons]at*;omega):p:=h
theorem atX(h:p:=by exact .inl ⟨rfl,rfl⟩):p:=h
theorem atY(h:p:=by obtain⟨_,_,_,h,_⟩:=he.2.2.2.2.2.1;exact h.1):p:=h
theorem atZ(h:p:=by exactλi _ hi=>by omega):p:=h
theorem at0(h:p:=by exact Nat.le_trans hB (hf o).size):p:=h
theorem at1(h:p:=by intro j u hu;rw[Addr.add_mid,Nat.zero_add,h.cell];simpa using hu):p:=h
theorem at5(h:p:=by have:=ht;unfold Tr.dR at this;simpa using this):p:=h
theorem at6(h:p:=by have:=gP.out;have:=aq.out;have:=ax.out;omega):p:=h
theorem at7(h:p:=by exact(dS _ _ (V (i:Int)) (V (er:Int))).mono λ_ h=>.inr h):p:=h
theorem aua(h:p:=by rw[<-HQ.out];exact c1):p:=h
theorem aub(h:p:=by exactλ_ h=>by cases h):p:=h
theorem auc(h:p:=by exact hf.QN ad3 λh=>h):p:=h
theorem aud(h:p:=by exact hf.QN ad4 λh=>h):p:=h
theorem aue(h:p:=by exact hf.QN ad5 λh=>h):p:=h
theorem auf(h:p:=by obtain⟨A,cap,rfl⟩:=h.slice;rfl):p:=h
theorem aug(h:p:=by exact(M (λk=>k=E0) w9).setCell (p:=B_ E0 3) Wh (S_ ws)):p:=h
theorem auh(h:p:=by exact show ks.length=1 by omega):p:=h
theorem aui(h:p:=by exact((M _ w).alloc _).alloc _):p:=h
theorem auj(h:p:=by rw[bne_iff_ne];omega):p:=h
theorem auk(h:p:=by exact .inl Wh):p:=h
theorem aul(h:p:=by go_ret;exact⟨by rw[HN.out (by rw[Gz];simp_all)];rfl,rfl⟩):p:=h
theorem aum(h:p:=by go_ret;exact⟨by rw[HN.out (by rw[Ka];simp_all)];rfl,rfl⟩):p:=h
theorem aun(h:p:=by go_ret;exact⟨by rw[HN.out (by rw[y9];simp_all)];rfl,rfl⟩):p:=h
theorem auo(h:p:=by simp[results,results74,go_sem,t0,t1,t2,t3]):p:=h
theorem aup(h:p:=by simp[results,results18,go_sem,r0,r1,r2,r3]):p:=h
theorem auq(h:p:=by simp[results,results49,go_sem,p0,p1,p2,p3]):p:=h
theorem aur(h:p:=by simp[hx]):p:=h
theorem aus(h:p:=by exact gL.QN HB λh=>h):p:=h
theorem aut(h:p:=by exact dK.QN iY λh=>h):p:=h
theorem auu(h:p:=by rw[this,List.length_append];omega):p:=h
theorem auv(h:p:=by show w.heap.size<=(w.heap.size+1+1);omega):p:=h
theorem auw(h:p:=by simp[hs]):p:=h
theorem auy(h:p:=by exact HK.trans hk2):p:=h
theorem auz(h:p:=by exact dK.QN vC λh=>h):p:=h
theorem auA(h:p:=by exact dK.QN oF λh=>h):p:=h
theorem auB(h:p:=by have:=bR.size;omega):p:=h
theorem auC(h:p:=by exact(Cs W0 p B 4 [114,111,111,116]) _ _ _ JJ fP.left):p:=h
theorem auD(h:p:=by exact hf.QN oF λh=>h):p:=h
theorem auE(h:p:=by exact Grow.nil _ _ _ _):p:=h
theorem auF(h:p:=by exact And.intro hjb c1):p:=h
theorem auG(h:p:=by go_ret;exact⟨rfl,aF⟩):p:=h
theorem auH(h:p:=by go_ret;exact⟨rfl,Uq⟩):p:=h
theorem auI(h:p:=by have hr':r.l.length<s.l.length:=hr;omega):p:=h
theorem auJ(h:p:=by simpa using hB.1.1):p:=h
theorem auK(h:p:=by go_ret;exact⟨ai _ _ ato,rfl⟩):p:=h
theorem auL(h:p:=by exact ht.QN jV λh=>by omega):p:=h
theorem auM(h:p:=by exact show ag W1 w2 from((M _ W1).drewN 1).trans hf2):p:=h
theorem auN(h:p:=by rw[List.isEmpty_eq_false_iff.2 ah];rfl):p:=h
theorem auO(h:p:=by rw[ar];rfl):p:=h
theorem auP(h:p:=by have:=HC.out;omega):p:=h
theorem auQ(h:p:=by exact⟨by rw[HE.out],Touch.aO (aK.drewN 1) ET _ _ _ _⟩):p:=h
theorem auR(h:p:=by exact .inr (by show w.heap.size<=w2.heap.size;omega)):p:=h
theorem auS(h:p:=by simp[aG,results,results88,go_sem,f0,f1]):p:=h
theorem auT(h:p:=by simp[aG,results,results45,go_sem,f0,f1]):p:=h
theorem auU(h:p:=by simp[aG,results,results48,go_sem,f0,f1]):p:=h
theorem auV(h:p:=by simp[aG,results,results27,go_sem,f0,f1]):p:=h
theorem auW(h:p:=by have:=Gb.out;omega):p:=h
end
def af(w:World)(g:Nat)(t:TypeId)(cs:Array Value):Prop:=w.heap[g]?=some (.cells cs t (0,0))
theorem af.lt{w:World}{g:Nat}{t:TypeId}{cs:Array Value}(h:af w g t cs):g<w.heap.size:=(Array.getElem?_eq_some_iff.1 h).1
theorem af.cell{w:World}{g:Nat}{t:TypeId}{cs:Array Value}(h:af w g t cs)(i:Nat):w.cell? ⟨g,i,none⟩=cs[i]?:=by
 unfold af at h;simp[awT,h]
theorem af.frozen{w:World}{g:Nat}{t:TypeId}{cs:Array Value}(h:af w g t cs)(i:Nat):w.frozen? ⟨g,i,none⟩=false:=by
 unfold af at h;simp[World.frozen?,h]
theorem af.new(w:World)(t:TypeId)(cs:Array Value):af (w.alloc (.cells cs t)) w.heap.size t cs:=heap_alloc_new w _
theorem af.new2(w:World)(o:Obj)(t:TypeId)(cs:Array Value):af ((w.alloc o).alloc (.cells cs t)) (w.heap.size+1) t cs:=by
 have:=af.new (w.alloc o) t cs;simpa using this
theorem af.drewN{w:World}{g:Nat}{t:TypeId}{cs:Array Value}(h:af w g t cs)(n:Nat):af (w.drewN n) g t cs:=h
theorem af.alloc{w:World}{g:Nat}{t:TypeId}{cs:Array Value}(h:af w g t cs)(o:Obj):af (w.alloc o) g t cs:=(Below.heap_alloc w o g h.lt).trans h
theorem af.put{w:World}{g:Nat}{t:TypeId}{cs:Array Value}(h:af w g t cs)(i:Nat)(u:Value):af (w.setCell ⟨g,i,none⟩ u) g t (cs.setIfInBounds i u):=by
 unfold af at h|-;simp[auX,Array.getElem?_modify,h]
theorem af.far{w:World}{g:Nat}{t:TypeId}{cs:Array Value}(h:af w g t cs){p:Addr}(hp:g≠p.block)(u:Value):af (w.setCell p u) g t cs:=(Below.heap_setCell w p u g hp).trans h
theorem af.QM{w:World}{g:Nat}{t:TypeId}{x0 x1 x2 x3:Value}(h:af w g t #[x0,x1,x2,x3]):
  w.cell? ⟨g,0,none⟩=some x0/\w.cell? ⟨g,1,none⟩=some x1/\w.cell? ⟨g,2,none⟩=some x2/\w.cell? ⟨g,3,none⟩=some x3/\
  w.frozen? ⟨g,0,none⟩=false/\w.frozen? ⟨g,1,none⟩=false/\w.frozen? ⟨g,2,none⟩=false/\w.frozen? ⟨g,3,none⟩=false/\g<w.heap.size:=
 ⟨h.cell 0,h.cell 1,h.cell 2,h.cell 3,h.frozen 0,h.frozen 1,h.frozen 2,h.frozen 3,h.lt⟩
structure Touch(S:Nat->Prop)(w w':World):Prop where
 os:w'.os=w.os
 tape:w'.tape=w.tape
 output:w'.output=w.output
 size:w.heap.size<=w'.heap.size
 block:∀k,k<w.heap.size->¬S k->w'.heap[k]?=w.heap[k]?
namespace Touch
variable {S S':Nat→Prop} {a b c w w':World}
theorem refl(S:Nat->Prop)(w:World):Touch S w w:=⟨rfl,rfl,rfl,au3 _,λ_ _ _=>rfl⟩
theorem trans'(h:Touch S a b)(k:Touch S' b c)(hS:∀i,S' i->S i\/a.heap.size<=i):Touch S a c:=
 ⟨k.os.trans h.os,k.tape.trans h.tape,k.output.trans h.output,au2 h.size k.size,λi hi hn=>
  (k.block i (avc hi h.size) (λhs=>(hS i hs).elim hn (λhle=>absurd hi (by omega)))).trans (h.block i hi hn)⟩
theorem trans(h:Touch S a b)(k:Touch S b c):Touch S a c:=h.trans' k λ_ hs=>.inl hs
theorem mono(h:Touch S a b)(hS:∀i,S i->S' i):Touch S' a b:=⟨h.os,h.tape,h.output,h.size,λi hi hn=>h.block i hi (λhs=>hn (hS i hs))⟩
theorem drew(h:Touch S a w):Touch S a w.drew:=⟨h.os,h.tape,h.output,h.size,h.block⟩
theorem drewN(h:Touch S a w)(n:Nat):Touch S a (w.drewN n):=⟨h.os,h.tape,h.output,h.size,h.block⟩
theorem alloc(h:Touch S a w)(o:Obj):Touch S a (w.alloc o):=
 h.trans ⟨rfl,rfl,rfl,by simp,λi hi _=>Below.heap_alloc _ _ _ hi⟩
theorem setCell(h:Touch S a w){p:Addr}(hp:S p.block\/a.heap.size<=p.block)(u:Value):Touch S a (w.setCell p u):=
 ⟨h.os,h.tape,h.output,by simpa[auX]using h.size,λi hi hn=>(Below.heap_setCell w p u i (by
  rintro rfl;exact hp.elim hn (λhle=>absurd hi (by omega)))).trans (h.block i hi hn)⟩
theorem grown(h:Touch S a w){row:Option Nat}(hg:w.grownBy w' row)(hr:∀g,row=some g->S g\/a.heap.size<=g):Touch S a w':=
 ⟨hg.os.trans h.os,hg.tape.trans h.tape,hg.output.trans h.output,au2 h.size hg.size,λi hi hn=>
  (hg.block i (avc hi h.size) (λe=>(hr i e.symm).elim hn (λhle=>absurd hi (by omega)))).trans (h.block i hi hn)⟩
theorem below(h:Touch S a w){B:Nat}(hB:B<=a.heap.size)(hS:∀i,S i->B<=i):Below B a w:=
 ⟨h.os,h.tape,h.output,h.size,λi hi=>h.block i (by omega) (λhs=>by have:=hS i hs;omega)⟩
theorem of_below{B:Nat}(h:Below B a w)(hS:∀i,B<=i->i<a.heap.size->S i):Touch S a w:=
 ⟨h.os,h.tape,h.output,h.size,λi hi hn=>h.block i (by
  rcases avE i B with h'|h'
  .exact h'
  .exact absurd (hS i h' hi) hn)⟩
theorem QN(h:Touch S w w'){g:Nat}{t:TypeId}{cs:Array Value}(hb:af w g t cs)(hn:¬S g):af w' g t cs:=(h.block g hb.lt hn).trans hb
theorem cell(h:Touch S w w'){p:Addr}{v:Value}(hc:w.cell? p=some v)(hn:¬S p.block):w'.cell? p=some v:=by
 have hlt:p.block<w.heap.size:=by
  rcases avE p.block w.heap.size with h'|h'
  .exact h'
  .simp[awT,Array.getElem?_eq_none h']at hc
 exact(World.cell?_of_block (w:=w) (h.block p.block hlt hn)).trans hc
theorem frozen(h:Touch S w w'){p:Addr}(hlt:p.block<w.heap.size)(hn:¬S p.block):w'.frozen? p=w.frozen? p:=
 World.frozen?_of_block (w:=w) (h.block p.block hlt hn)
end Touch
theorem M(S:Nat->Prop)(w:World):Touch S w w:=Touch.refl S w
abbrev Z:Array Value:=#[.string ⟨#[]⟩,.slice none 0 0,.slice none 0 0,.string ⟨#[]⟩]
abbrev ZN:Array Value:=#[.int .i64 0,.string ⟨#[]⟩,.int .i64 0,.slice none 0 0]
theorem Touch.setRow{S:Nat->Prop}{a w:World}(h:Touch S a w){g:Nat}(hg:S g\/a.heap.size<=g)(cs:Array Value):Touch S a (w.setRow g cs):=
 ⟨h.os,h.tape,h.output,by simpa[World.setRow]using h.size,λi hi hn=>(setRow_other w g i cs (by
  rintro rfl;exact hg.elim hn (λhle=>absurd hi (by omega)))).trans (h.block i hi hn)⟩
def aO(w:World)(g:Nat)(x0 x1 x2 x3:Value):World:=(((w.setCell ⟨g,0,none⟩ x0).setCell ⟨g,1,none⟩ x1).setCell ⟨g,2,none⟩ x2).setCell ⟨g,3,none⟩ x3
theorem af.uJ{w:World}{L g:Nat}{t:TypeId}{cs:Array Value}(h:af w L t cs)(hne:L≠g)(x0 x1 x2 x3:Value):af (aO w g x0 x1 x2 x3) L t cs:=
 (((h.far (p:=⟨g,0,none⟩) hne _).far (p:=⟨g,1,none⟩) hne _).far (p:=⟨g,2,none⟩) hne _).far (p:=⟨g,3,none⟩) hne _
theorem af.gH{w:World}{g:Nat}{t:TypeId}{a b c d:Value}(h:af w g t #[a,b,c,d])(x0 x1 x2 x3:Value):af (aO w g x0 x1 x2 x3) g t #[x0,x1,x2,x3]:=(((h.put 0 x0).put 1 x1).put 2 x2).put 3 x3
theorem Touch.aO{S:Nat->Prop}{w w':World}{g:Nat}(h:Touch S w w')(hg:S g\/w.heap.size<=g)(x0 x1 x2 x3:Value):Touch S w (aO w' g x0 x1 x2 x3):=
 (((h.setCell (p:=⟨g,0,none⟩) hg _).setCell (p:=⟨g,1,none⟩) hg _).setCell (p:=⟨g,2,none⟩) hg _).setCell (p:=⟨g,3,none⟩) hg _
theorem Touch.pre{S:Nat->Prop}{w w':World}{o:Obj}(h:Touch S (w.alloc o) w'):Touch S w w':=((M S w).alloc o).trans h
theorem Touch.pG{S:Nat->Prop}{w w':World}{o:Obj}{n:Nat}(h:Touch S ((w.alloc o).drewN n) w'):Touch S w w':=(((M S w).alloc o).drewN n).trans h
theorem Touch.BD{S:Nat->Prop}{w w':World}{n:Nat}(h:Touch S (w.drewN n) w'):Touch S w w':=((M S w).drewN n).trans h
abbrev ag(w w':World):Prop:=Touch (λ_=>False) w w'
theorem ag.below{w w':World}(h:ag w w'):Below w.heap.size w w':=Touch.below h (au3 _) (λ_ hf=>hf.elim)
theorem aZ{w w':World}(h:Below w.heap.size w w'):ag w w':=Touch.of_below h λ_ h1 h2=>absurd h2 (by omega)
structure Wd(b c:World):Prop where
 xV:ag b c
instance aj3(b:World):Nonempty (Wd b b):=⟨⟨M _ _⟩⟩
instance ajO(b c:World)(o:Obj)[h:Nonempty (Wd b c)]:Nonempty (Wd b (c.alloc o)):=h.elim λh=>⟨⟨h.xV.alloc o⟩⟩
instance aj4(b c:World)(n:Nat)[h:Nonempty (Wd b c)]:Nonempty (Wd b (c.drewN n)):=h.elim λh=>⟨⟨h.xV.drewN n⟩⟩
theorem kV{a b c:World}(h:ag a b)[hw:Nonempty (Wd b c)]:ag a c:=hw.elim λk=>h.trans k.xV
theorem qV{a b c:World}(h:ag b c)[hw:Nonempty (Wd a b)]:ag a c:=hw.elim λk=>k.xV.trans h
theorem bD{b c:World}{g:Nat}{t:TypeId}{cs:Array Value}(h:af b g t cs)[hw:Nonempty (Wd b c)]:af c g t cs:=hw.elim λk=>k.xV.QN h λh=>h
structure Bn(w:World)(g:Nat)(t:TypeId)(cs:Array Value):Prop where
 QN:af w g t cs
theorem af.Jc(w:World)(o o':Obj)(t:TypeId)(cs:Array Value):af (((w.alloc o).alloc o').alloc (.cells cs t)) (w.heap.size+1+1) t cs:=by
 have:=af.new2 (w.alloc o) o' t cs;simpa using this
instance akr(w:World)(t:TypeId)(cs:Array Value):Nonempty (Bn (w.alloc (.cells cs t)) w.heap.size t cs):=⟨⟨af.new _ _ _⟩⟩
instance aj5(w:World)(o:Obj)(t:TypeId)(cs:Array Value):Nonempty (Bn ((w.alloc o).alloc (.cells cs t)) (w.heap.size+1) t cs):=⟨⟨af.new2 _ _ _ _⟩⟩
instance aj6(w:World)(o o':Obj)(t:TypeId)(cs:Array Value):Nonempty (Bn (((w.alloc o).alloc o').alloc (.cells cs t)) (w.heap.size+1+1) t cs):=⟨⟨af.Jc _ _ _ _ _⟩⟩
instance ajP(w:World)(o:Obj)(g:Nat)(t:TypeId)(cs:Array Value)[h:Nonempty (Bn w g t cs)]:Nonempty (Bn (w.alloc o) g t cs):=h.elim λh=>⟨⟨h.QN.alloc o⟩⟩
instance aj7(w:World)(n:Nat)(g:Nat)(t:TypeId)(cs:Array Value)[h:Nonempty (Bn w g t cs)]:Nonempty (Bn (w.drewN n) g t cs):=h.elim λh=>⟨⟨h.QN.drewN n⟩⟩
theorem bH{w:World}{g:Nat}{t:TypeId}{cs:Array Value}[h:Nonempty (Bn w g t cs)]:af w g t cs:=h.elim λh=>h.QN
theorem xW{w w':World}{a b c d:Addr}{x y z u:Value}(h:ag w w')(h0:w.cell? a=some x)(h1:w.cell? b=some y)(h2:w.cell? c=some z)(h3:w.cell? d=some u):
  w'.cell? a=some x/\w'.cell? b=some y/\w'.cell? c=some z/\w'.cell? d=some u:=⟨h.cell h0 (λh=>h),h.cell h1 (λh=>h),h.cell h2 (λh=>h),h.cell h3 (λh=>h)⟩
theorem dF{p:Prop}[Decidable p](h:¬p):decide p=false:=decide_eq_false h
theorem dT{p:Prop}[Decidable p](h:p):decide p=true:=decide_eq_true h
theorem aF{a c:World}[hw:Nonempty (Wd a c)]:ag a c:=hw.elim λk=>k.xV
theorem bL{w:World}{a:Addr}{v:Value}(h:w.cell? a=some v):a.block<w.heap.size:=block_lt_of_cell h
theorem cR{w:World}{a:Addr}{v:Value}(h:w.cell? a=some v)(d:Nat)(os:Array Obj):(Go.Sort.grow (redrawn w d) os).cell? a=some v:=cell_regrown h d os
end
section
open Go.ChangeShapes Go.WideShapes Go.ChangeAt Go.RowKit
open Go.ChangeMaps (open_string shut_string)
theorem Tryz.ownKnob:ownKnob Tryz.prog.godebug=none:=by kernel_rfl
theorem Tryz.laidOut:laidOutB Tryz.prog=true:=by kernel_rfl
section
variable {H:Type} {enc:TypeId×Value→H} {P:Program}
theorem O6{f:Func}{s:ChangeSpec}{apart QH aa again:Bool}{W W':World}{args:Array Value}{v:Value}{ds gs:List (DataW H)}{before pa pv:List MemPlace}
  (hW:DataW.Whole enc P f.params.toList s.vars apart W args.toList ds gs before)
  (hres:∀(b:Nat) (sp:Nat->Bool) (hd:Bool),DataW.TrodAll enc P W' b sp hd f.resultTypes.toList (v.resultList f.resultTypes.size) (s.fn H (ds++gs)).results [])
  (ac:∀sp:Nat->Bool,(∀p∈before,sp p.block=true)->DataW.TrodAll enc P W' 0 sp true f.params.toList args.toList (s.fn H (ds++gs)).args pa)
  (ae:∀sp:Nat->Bool,(∀p∈before,sp p.block=true)->DataW.TrodVars enc P W' sp s.vars (s.fn H (ds++gs)).vars pv)
  (am:before=pa++pv) (hb:Below W.heap.size W W')
  (ab:∀(j:Nat) (t:TypeId) (r:Value),f.resultTypes[j]?=some t->(v.resultList f.resultTypes.size)[j]?=some r->Value.okWide P W' .any 0 t r):
  s.post enc P f apart QH aa again W args v W':=by
 have hlt:∀p∈before,p.block<W.heap.size:=λp hp=>hW.lt p hp
 have hold:∀p∈before,(λb=>decide (b<W.heap.size)) p.block=true:=λp hp=>by simpa using hlt p hp
 refine⟨ds,gs,before,[],pa,pv,hW,hres _ _ _,ac _ hold,ae _ hold,World.keptBut_mono (λp hp=>⟨hp,?_⟩) (hb.frame (·∈before)),λ_=>?_⟩
 .rw[am,List.mem_append]at hp
  exact Or.inr hp
 .obtain⟨_,_,_,_,_,hz,hn⟩:=hW
  refine⟨ab,_,_,([]++pa)++pv,⟨[]++pa,pv,trodAll_append (ac _ (λ_ _=>rfl)) (hres _ _ _),ae _ (λ_ _=>rfl),rfl,?_,?_⟩,?_⟩
  .intro b off hp
   have ad:MemPlace.cell b off∈before:=by rw[am];simpa using hp
   rw[hb.frozen (hlt _ ad)];exact hz b off ad
  .intro ha
   have:=hn ha;rw[am]at this;simpa using this
  .intro p hp _
   rw[am];simpa using hp
theorem FV(hl:laidOutB P=true){W W':World}{sp':Nat->Bool}(hb:Below W.heap.size W W'):∀{ts:List TypeId} {vs:List Value} {ds:List (DataW H)} {ps:List MemPlace},(∀t∈ts,P.readableRec t=true/\t<P.types.size)->
  DataW.TrodAll enc P W 0 (λ_=>true) true ts vs ds ps->(∀x∈ps,x.block<W.heap.size)->(∀x∈ps,sp' x.block=true)->DataW.TrodAll enc P W' 0 sp' true ts vs ds ps
 |[],[],[],_,_,h,_,_=>h
 |_::_,_::_,_::_,_,ht,⟨p,q,h1,h2,e⟩,hlt,hs=>by
  subst e
  exact⟨p,q,WideElems.Trod_stays hl (ht _ (awJ ..)).1 (ht _ (awJ ..)).2 h1 (λx hx=>hb.same (hlt x (awK _ hx))) (λx hx=>hs x (awK _ hx)),
   FV hl hb (λt h=>ht t (List.mem_cons_of_mem _ h)) h2 (λx hx=>hlt x (awU _ hx)) (λx hx=>hs x (awU _ hx)),rfl⟩
theorem YP{f:Func}{s:ChangeSpec}{W W':World}{args:Array Value}{ds:List (DataW H)}{before:List MemPlace}{tb:TypeId}(hl:laidOutB P=true)
  (ai:P.underlying tb=some .bool) (hres:f.resultTypes=#[tb]) (hp:(f.params.toList.all λt=>P.readableRec t&&decide (t<P.types.size))=true) (hv:s.vars=[])
  (hfn:s.fn H ds=({results:=[.lit (.bool true)],args:=ds}:Left H))
  (hW:DataW.Whole enc P f.params.toList s.vars false W args.toList ds [] before) (hb:ag W W'):s.post enc P f false true false false W args (.bool true) W':=by
 have hW':=hW;obtain⟨p,q,hA,hV,rfl,an,hnd⟩:=hW;have hlt:=hW'.lt;rw[hv]at hV;obtain⟨_,rfl⟩:=trodVars_none hV
 have ak:∀t∈f.params.toList,P.readableRec t=true/\t<P.types.size:=λt ht=>by
  have:=List.all_eq_true.1 hp t ht;simpa using this
 refine O6 (pa:=p) (pv:=[]) (gs:=[]) hW' ?_ ?_ ?_ rfl hb.below ?_
 .intro b sp hd
  rw[hres,avf,hfn];exact trodAll_mk1 (shut_bool ai _)
 .intro sp hs
  rw[avf,hfn];exact FV hl hb.below ak hA (λx hx=>hlt x (awK _ hx)) (λx hx=>hs x (awK _ hx))
 .intro sp hs
  rw[hv,avf,hfn];rfl
 .exact ok_one (f:=f) (t:=tb) hres rfl (okWide_bool_mk ai _)
end
end
section
open Go.RowKit
section
variable {P:Program} {ops:Array Oper} {md:Region.Mode} {C:World→Prop}
structure Closed(md:Region.Mode)(ops:Array Oper)(listed:Array Bool):Prop where
 size:listed.size=ops.size
 closed:∀j oj,ops[j]?=some oj->listed.getD j false=true->∀e∈oj.after,awn md e=true->listed.getD e.on false=true
theorem Closed.put{i:Nat}{listed:Array Bool}(inv:Closed md ops listed)(hi:i∈au5 md ops listed):Closed md ops (listed.setIfInBounds i true):=by
 obtain⟨_,oi,hoi,hall⟩:=mem_ready.1 hi;refine⟨by simp[inv.size],λj oj hj hl e he hb=>?_⟩
 by_cases aa:i=j
 .subst aa
  have:oj=oi:=Option.some.inj (hj.symm.trans hoi);subst this;exact getD_set_true (hall e he hb)
 .rw[getD_set_ne false aa]at hl
  exact getD_set_true (inv.closed j oj hj hl e he hb)
def PG(md:Region.Mode)(ops:Array Oper):List Nat->Option Nat->Bool
 |[],_=>true
 |q::qs,t=>(qs.any (λj=>awL md ops j q)||(match t with|some t=>awL md ops t q|none=>true))&&PG md ops qs t
def qi(md:Region.Mode)(ops:Array Oper)(qs:List Nat)(t:Option Nat)(listed:Array Bool):Bool:=
 (awj ops.size).all (λu=>listed.getD u false||qs.contains u||t==some u||(awj ops.size).any (λv=>awL md ops u v&&!listed.getD v false&&!qs.contains v))
 &&PG md ops qs t
theorem NN{t:Nat}{listed:Array Bool}(inv:Closed md ops listed):∀(qs:List Nat),PG md ops qs (some t)=true->(∃q∈qs,listed.getD q false=false)->∃v,awL md ops t v=true/\listed.getD v false=false
 |[],_,h=>by obtain⟨q,hq,_⟩:=h;cases hq
 |q::qs,hs,h=>by
  simp only[PG,auY,av3]at hs
  by_cases hr:∃q∈qs,listed.getD q false=false
  .exact NN inv qs hs.2 hr
  .obtain⟨x,hx,ak⟩:=h
   have aa:x=q:=by
    rcases List.mem_cons.1 hx with h1|h1
    .exact h1
    .exact absurd ⟨x,h1,ak⟩ hr
   subst aa
   rcases hs.1 with h1|h1
   .obtain⟨j,hj,hw⟩:=List.any_eq_true.1 h1
    obtain⟨oj,ag,e,he,hb,ab⟩:=Region.waitsFor_spec hw;cases hl:listed.getD j false with
    |true=>
     have h2:=inv.closed j oj ag hl e he hb;rw[ab,ak]at h2;cases h2
    |false=>exact absurd ⟨j,hj,hl⟩ hr
   .exact⟨x,h1,ak⟩
theorem JB{u v:Nat}{listed:Array Bool}(hu:u∈au5 md ops listed)(hw:awL md ops u v=true):listed.getD v false=true:=by
 obtain⟨_,ou,ac,hall⟩:=mem_ready.1 hu;obtain⟨o',ho',e,he,hb,ab⟩:=Region.waitsFor_spec hw;have:o'=ou:=Option.some.inj (ho'.symm.trans ac);subst this;have:=hall e he hb
 rwa [ab]at this
theorem CO{qs:List Nat}{t:Option Nat}{eH listed:Array Bool}(h:qi md ops qs t eH=true)(inv:Closed md ops listed)
  (h1:∀j,eH.getD j false=true->listed.getD j false=true) (h2:∀j,listed.getD j false=true->eH.getD j false=true\/j∈qs)
  (hq:∃q∈qs,listed.getD q false=false):∀u∈au5 md ops listed,u∈qs:=by
 intro u hu;simp only[qi,auY]at h;obtain⟨aa,ou,ac,_⟩:=mem_ready.1 hu;have hlt:u<ops.size:=(Array.getElem?_eq_some_iff.1 ac).1;have hx:=List.all_eq_true.1 h.1 u (List.mem_range.2 hlt);simp only[av3]at hx
 rcases hx with((hx|hx)|hx)|hx
 .have:=h1 u hx
  rw[getD_both aa]at this;cases this
 .simpa using hx
 .have ht:t=some u:=by simpa using hx
  subst ht;obtain⟨v,hw,hv⟩:=NN inv qs h.2 hq;rw[JB hu hw]at hv;cases hv
 .obtain⟨v,hv,hx⟩:=List.any_eq_true.1 hx
  simp only[auY,avN]at hx;have hl:=JB hu hx.1.1
  rcases h2 v hl with h3|h3
  .rw[hx.1.2]at h3;cases h3
  .simp[h3]at hx
def Gu(P:Program)(md:Region.Mode)(ops:Array Oper)(C:World->Prop)(qs:List Nat)(L:Array Bool->Act->Prop):Nat->Array Bool->Act->Prop
 |0,listed,a=>L listed a
 |f+1,listed,a=>au5 md ops listed≠[]/\∀i∈au5 md ops listed,i∈qs/\qOp P ops C i (Gu P md ops C qs L f (listed.setIfInBounds i true)) a
theorem xX{qs:List Nat}{g:Nat}{L:Array Bool->Act->Prop}{Q':Exit->Act->World->Prop}(hL:∀listed a w,C w->L listed a->wpAny P md ops Q' g listed a w):
  ∀(f:Nat) (listed:Array Bool) (a:Act) (w:World),C w->Gu P md ops C qs L f listed a->wpAny P md ops Q' (f+g) listed a w
 |0,listed,a,w,hC,h=>by rw[au8];exact hL _ _ _ hC h
 |f+1,listed,a,w,hC,h=>by
  rw[show f+1+g=(f+g)+1 by omega];exact⟨λh0=>absurd h0 h.1,λi hi=>wpOp_of_qOp hC (λa' w' hC' h'=>xX hL f _ a' w' hC' h') (h.2 i hi).2⟩
structure nC(md:Region.Mode)(ops:Array Oper)(qs:List Nat)(eH listed:Array Bool):Prop where
 closed:Closed md ops listed
 sub:∀j,eH.getD j false=true->listed.getD j false=true
 sup:∀j,listed.getD j false=true->eH.getD j false=true\/j∈qs
theorem nC.put{qs:List Nat}{eH listed:Array Bool}{i:Nat}(inv:nC md ops qs eH listed)(hi:i∈au5 md ops listed)(hq:i∈qs):nC md ops qs eH (listed.setIfInBounds i true):=
 ⟨inv.closed.put hi,λj hj=>getD_set_true (inv.sub j hj),λj hj=>by
  by_cases aa:i=j
  .subst aa;exact .inr hq
  .rw[getD_set_ne false aa]at hj;exact inv.sup j hj⟩
theorem Qm{qs:List Nat}{t:Option Nat}{eH:Array Bool}{i:Nat}{oi:Oper}{v:Value}{L:Array Bool->Act->Prop}(hi:ops[i]?=some oi)(ab:∀(j:Nat) (o:Oper) cs b,ops[j]?=some o->o.op≠.select cs b)
  (hs:qi md ops qs t eH=true) (ad:i∈qs) (hdone:∀listed a,L listed a->∀j∈au5 md ops listed,j∉qs):
  ∀(f:Nat) (listed:Array Bool) (a:Act),nC md ops qs eH listed->
   (∀j oj,ops[j]?=some oj->j≠i->listed.getD j true=false->(∀e∈oj.after,awn md e=true->e.on≠i)->oi.apart ops oj=true)->
   i∈au5 md ops listed->YieldsIn P ops C oi v a->
   Gu P md ops C qs L f (listed.setIfInBounds i true) (a.put oi.dst v)->Gu P md ops C qs L (f+1) listed a:=by
 intro f
 induction f with
 |zero=>
  intro listed a inv _ hr hy H;have aa:=(mem_ready.1 hr).1;refine⟨λh=>(by rw[h]at hr;cases hr),λj hj=>?_⟩;have ah:=CO hs inv.closed inv.sub inv.sup ⟨i,ad,getD_both aa⟩ j hj;refine⟨ah,?_⟩
  by_cases ac:j=i
  .subst ac;exact hy.qOp hi H
  .exact absurd ah (hdone _ _ H j (ready_mono hj ac))
 |succ f ih=>
  intro listed a inv ae hr hy H;have aa:=(mem_ready.1 hr).1;refine⟨λh=>(by rw[h]at hr;cases hr),λj hj=>?_⟩;have ah:=CO hs inv.closed inv.sub inv.sup ⟨i,ad,getD_both aa⟩ j hj;refine⟨ah,?_⟩
  by_cases ac:j=i
  .subst ac;exact hy.qOp hi H
  .have h1:=(H.2 j (ready_mono hj ac)).2
   obtain⟨ai,oj,ag,hall⟩:=mem_ready.1 hj
   have aj:∀e∈oj.after,awn md e=true->e.on≠i:=λe he hb heq=>by
    have h1:=hall e he hb;rw[heq,getD_both aa]at h1;cases h1
   have h2:=qOp_put ag (ae j oj ag ac ai aj) (λcs b=>ab i oi cs b hi) (λcs b=>ab j oj cs b ag) hy h1
   have af:∀k ok,ops[k]?=some ok->k≠i->(listed.setIfInBounds j true).getD k true=false->
     (∀e∈ok.after,awn md e=true->e.on≠i)->oi.apart ops ok=true:=λk ok hk ak aa hno=>by
    refine ae k ok hk ak ?_ hno
    by_cases hjk:j=k
    .subst hjk;exact ai
    .rw[getD_set_ne true hjk]at aa;exact aa
   refine qOp_mono (λa' h3=>ih (listed.setIfInBounds j true) a' (inv.put hj ah) af (ready_mono hr (Ne.symm ac)) h3.1 ?_) h2;rw[Array.setIfInBounds_comm _ _ ac];exact h3.2
def jv:List Nat->Array Bool->Array Bool
 |[],x=>x
 |k::l,x=>jv l (x.setIfInBounds k true)
def J6(md:Region.Mode)(ops:Array Oper):List Nat->Array Bool->Bool
 |[],_=>true
 |k::l,listed=>(au5 md ops listed).contains k&&Region.free md ops listed k&&J6 md ops l (listed.setIfInBounds k true)
def pick(l:List Oper):List Nat->List Oper
 |[]=>[]
 |k::r=>match l[k]? with
  |some o=>o::pick l r
  |none=>pick l r
theorem xY{l0:List Oper}{qs:List Nat}{t:Option Nat}{eH:Array Bool}{Lq:Act->Prop}{fin:Array Bool}(ab:avu l0.toArray=true)(hs:qi md l0.toArray qs t eH=true)
  (aa:∀j∈au5 md l0.toArray fin,j∉qs):
  ∀(l:List Nat) (listed:Array Bool) (a:Act),(∀k∈l,k∈qs)->nC md l0.toArray qs eH listed->J6 md l0.toArray l listed=true->jv l listed=fin->
  wpQuiet P l0.toArray C Lq (pick l0 l) a->Gu P md l0.toArray C qs (λlisted' a'=>listed'=fin/\Lq a') l.length listed a
 |[],listed,a,_,_,_,hf,h=>⟨hf,h⟩
 |k::l,listed,a,hq,inv,hB,hf,h=>by
  simp only[J6,auY]at hB;obtain⟨⟨hr,an⟩,hB'⟩:=hB;have hr':k∈au5 md l0.toArray listed:=by simpa using hr
  obtain⟨_,o,ho,_⟩:=mem_ready.1 hr';have ho':l0[k]?=some o:=by simpa using ho
  have ad:pick l0 (k::l)=o::pick l0 l:=by simp[pick,ho']
  rw[ad]at h;have hst:qOp P l0.toArray C k (wpQuiet P l0.toArray C Lq (pick l0 l)) a:=by unfold qOp;rw[ho];exact h
  obtain⟨v,hy,hK⟩:=yieldsIn_of_qOp ho hst;have ac:=hq k (by simp)
  exact Qm ho (Region.noSelect_spec ab) hs ac (λlisted' a' hL=>by rw[hL.1];exact aa) l.length listed a inv (Region.free_spec ho an) hr' hy
   (xY ab hs aa l _ _ (λx hx=>hq x (by simp[hx])) (inv.put hr' ac) hB' hf hK)
theorem BF{qs:List Nat}{eH:Array Bool}:∀(l:List Nat) (listed:Array Bool),(∀k∈l,k∈qs)->nC md ops qs eH listed->J6 md ops l listed=true->nC md ops qs eH (jv l listed)
 |[],_,_,inv,_=>inv
 |k::l,listed,hq,inv,hB=>by
  simp only[J6,auY]at hB;exact BF l _ (λx hx=>hq x (by simp[hx])) (inv.put (by simpa using hB.1.1) (hq k (by simp))) hB.2
def zH(md:Region.Mode)(ops:Array Oper):List (List Nat×Nat)->List Nat->Array Bool->Bool
 |[],last,listed=>qi md ops last none listed&&J6 md ops last listed&&(au5 md ops (jv last listed)).isEmpty
 |(qs,t)::bU,last,listed=>qi md ops qs (some t) listed&&J6 md ops qs listed&&decide (au5 md ops (jv qs listed)=[t])&&!qs.contains t&&
   zH md ops bU last ((jv qs listed).setIfInBounds t true)
def CP:List (List Nat×Nat)->List Nat->Nat
 |[],last=>last.length
 |(qs,_)::bU,last=>qs.length+(CP bU last+1)
def tY(P:Program)(l:List Oper)(Q:Exit->Act->World->Prop):List (List Nat×Nat)->List Nat->Act->World->Prop
 |[],last,a,w=>wpQuiet P l.toArray (λw'=>∃n,w'=w.drewN n) (λa'=>∀w',(∃n,w'=w.drewN n)->Q .normal a' w') (pick l last) a
 |(qs,t)::bU,last,a,w=>wpQuiet P l.toArray (λw'=>∃n,w'=w.drewN n)
   (λa'=>∀w',(∃n,w'=w.drewN n)->wpList P l.toArray (Exit.then (tY P l Q bU last) Q) (pick l [t]) a' w') (pick l qs) a
theorem jD{l:List Oper}{t:Nat}{o:Oper}{K:Act->World->Prop}{Q:Exit->Act->World->Prop}{a:Act}{w:World}(ho:l.toArray[t]?=some o)
  (h:wpList P l.toArray (Exit.then K Q) (pick l [t]) a w):wpOp P l.toArray Q t K a w:=by
 have ho':l[t]?=some o:=by simpa using ho
 have hp:pick l [t]=[o]:=by simp[pick,ho']
 rw[hp]at h;unfold wpOp;rw[ho];exact h
theorem FW{l:List Oper}{Q:Exit->Act->World->Prop}(ab:avu l.toArray=true):∀(bU:List (List Nat×Nat)) (last:List Nat) (listed:Array Bool) (a:Act) (w w0:World),
  Closed md l.toArray listed->zH md l.toArray bU last listed=true->(∃n,w=w0.drewN n)->tY P l Q bU last a w0->wpAny P md l.toArray Q (CP bU last) listed a w
 |[],last,listed,a,w,w0,inv,hB,hC,h=>by
  simp only[zH,auY,avV]at hB;obtain⟨⟨hs,hl⟩,hr⟩:=hB;have hz:nC md l.toArray last listed listed:=⟨inv,λ_ h=>h,λ_ h=>.inl h⟩;have:=xY (P:=P) (C:=λw'=>∃n,w'=w0.drewN n) (fin:=jv last listed) (Lq:=λa'=>∀w',(∃n,w'=w0.drewN n)->Q .normal a' w') ab hs (by rw[hr];simp) last listed a (λ_ h=>h) hz hl rfl h;refine xX (g:=0) (λlisted' a' w' hC' hL=>?_) last.length listed a w hC this;exact wpAny_done (by rw[hL.1];exact hr) (hL.2 w' hC') 0
 |(qs,t)::bU,last,listed,a,w,w0,inv,hB,hC,h=>by
  simp only[zH,auY,decide_eq_true_eq,avN]at hB;obtain⟨⟨⟨⟨hs,hl⟩,hr⟩,ht⟩,hB'⟩:=hB;have hz:nC md l.toArray qs listed listed:=⟨inv,λ_ h=>h,λ_ h=>.inl h⟩;have hz':=BF qs listed (λ_ h=>h) hz hl;have aa:t∈au5 md l.toArray (jv qs listed):=by rw[hr];simp
  have af:t∉qs:=by simpa using ht
  obtain⟨_,ot,ae,_⟩:=mem_ready.1 aa
  have:=xY (P:=P) (C:=λw'=>∃n,w'=w0.drewN n) (fin:=jv qs listed) (Lq:=λa'=>∀w',(∃n,w'=w0.drewN n)->wpList P l.toArray (Exit.then (tY P l Q bU last) Q) (pick l [t]) a' w') ab hs
   (by rw[hr];intro j hj;rw[List.mem_singleton.1 hj];exact af) qs listed a (λ_ h=>h) hz hl rfl h
  refine xX (g:=CP bU last+1) (λlisted' a' w' hC' hL=>?_) qs.length listed a w hC this;refine wpAny_all (rs:=[t]) (by rw[hL.1];exact hr) (by simp) (λi hi=>?_);rw[List.mem_singleton.1 hi,hL.1];exact wpOp_mono (λa'' w'' h''=>FW ab bU last _ a'' w'' w'' (hz'.closed.put aa) hB' ⟨0,rfl⟩ h'') (jD ae (hL.2 w' hC'))
theorem qB(m j:Nat):(au4 m false).getD j false=false:=by
 rcases avE j m with h|h
 .simp[h]
 .simp[h]
theorem kY{id:Nat}{Q:Exit->Act->World->Prop}{a:Act}{w:World}{l:List Oper}(bU:List (List Nat×Nat))(last:List Nat)(hm:P.follows .mixedOrders=true)
  (hB:(avu l.toArray&&decide (CP bU last=l.toArray.size)&&zH .any l.toArray bU last (au4 l.toArray.size false))=true)
  (h:tY P l Q bU last a w):(Code.region id l.toArray true).wp P Q a w:=by
 simp only[auY,decide_eq_true_eq]at hB;obtain⟨⟨ab,hn⟩,hB⟩:=hB;refine wp_region_any hm ?_;rw[<-hn];rw[<-hn]at hB;exact FW ab bU last _ a _ w ⟨by simp[hn],λj oj _ hl=>by rw[qB]at hl;cases hl⟩ hB ⟨1,rfl⟩ h
end
section
variable {P:Program} {ops:Array Oper} {md:Region.Mode} {C:World→Prop}
def vR(Cl:World->World->Prop)(P:Program)(l:List Oper)(Q:Exit->Act->World->Prop):List (List Nat×Nat)->List Nat->Act->World->Prop
 |[],last,a,w=>wpQuiet P l.toArray (λw'=>Cl w w') (λa'=>∀w',Cl w w'->Q .normal a' w') (pick l last) a
 |(qs,t)::bU,last,a,w=>wpQuiet P l.toArray (λw'=>Cl w w')
   (λa'=>∀w',Cl w w'->wpList P l.toArray (Exit.then (vR Cl P l Q bU last) Q) (pick l [t]) a' w') (pick l qs) a
theorem DY{Cl:World->World->Prop}(ac:∀w,Cl w w){l:List Oper}{Q:Exit->Act->World->Prop}(ab:avu l.toArray=true):∀(bU:List (List Nat×Nat)) (last:List Nat) (listed:Array Bool) (a:Act) (w w0:World),
  Closed md l.toArray listed->zH md l.toArray bU last listed=true->Cl w0 w->vR Cl P l Q bU last a w0->wpAny P md l.toArray Q (CP bU last) listed a w
 |[],last,listed,a,w,w0,inv,hB,hC,h=>by
  simp only[zH,auY,avV]at hB;obtain⟨⟨hs,hl⟩,hr⟩:=hB;have hz:nC md l.toArray last listed listed:=⟨inv,λ_ h=>h,λ_ h=>.inl h⟩;have:=xY (P:=P) (C:=λw'=>Cl w0 w') (fin:=jv last listed) (Lq:=λa'=>∀w',Cl w0 w'->Q .normal a' w') ab hs (by rw[hr];simp) last listed a (λ_ h=>h) hz hl rfl h;refine xX (g:=0) (λlisted' a' w' hC' hL=>?_) last.length listed a w hC this;exact wpAny_done (by rw[hL.1];exact hr) (hL.2 w' hC') 0
 |(qs,t)::bU,last,listed,a,w,w0,inv,hB,hC,h=>by
  simp only[zH,auY,decide_eq_true_eq,avN]at hB;obtain⟨⟨⟨⟨hs,hl⟩,hr⟩,ht⟩,hB'⟩:=hB;have hz:nC md l.toArray qs listed listed:=⟨inv,λ_ h=>h,λ_ h=>.inl h⟩;have hz':=BF qs listed (λ_ h=>h) hz hl;have aa:t∈au5 md l.toArray (jv qs listed):=by rw[hr];simp
  have af:t∉qs:=by simpa using ht
  obtain⟨_,ot,ae,_⟩:=mem_ready.1 aa
  have:=xY (P:=P) (C:=λw'=>Cl w0 w') (fin:=jv qs listed) (Lq:=λa'=>∀w',Cl w0 w'->wpList P l.toArray (Exit.then (vR Cl P l Q bU last) Q) (pick l [t]) a' w') ab hs
   (by rw[hr];intro j hj;rw[List.mem_singleton.1 hj];exact af) qs listed a (λ_ h=>h) hz hl rfl h
  refine xX (g:=CP bU last+1) (λlisted' a' w' hC' hL=>?_) qs.length listed a w hC this;refine wpAny_all (rs:=[t]) (by rw[hL.1];exact hr) (by simp) (λi hi=>?_);rw[List.mem_singleton.1 hi,hL.1];exact wpOp_mono (λa'' w'' h''=>DY ac ab bU last _ a'' w'' w'' (hz'.closed.put aa) hB' (ac _) h'') (jD ae (hL.2 w' hC'))
theorem Lh(Cl:World->World->Prop)(ac:∀w,Cl w w)(ag2:∀w,Cl w (w.drewN 1)){id:Nat}{Q:Exit->Act->World->Prop}{a:Act}{w:World}{l:List Oper}(bU:List (List Nat×Nat))(last:List Nat)(hm:P.follows .mixedOrders=true)
  (hB:(avu l.toArray&&decide (CP bU last=l.toArray.size)&&zH .any l.toArray bU last (au4 l.toArray.size false))=true)
  (h:vR Cl P l Q bU last a w):(Code.region id l.toArray true).wp P Q a w:=by
 simp only[auY,decide_eq_true_eq]at hB;obtain⟨⟨ab,hn⟩,hB⟩:=hB;refine wp_region_any hm ?_;rw[<-hn];rw[<-hn]at hB;exact DY ac ab bU last _ a _ w ⟨by simp[hn],λj oj _ hl=>by rw[qB]at hl;cases hl⟩ hB (ag2 w) h
end
def mE(w w':World):Prop:=∃p:Regrown,w'=Go.Sort.grow (redrawn w p.d) p.os
theorem mE.refl(w:World):mE w w:=⟨⟨w.drawn,#[]⟩,by rw[Go.Sort.grow_empty];rfl⟩
theorem mE.drew(w:World):mE w (w.drewN 1):=⟨⟨w.drawn+1,#[]⟩,by rw[Go.Sort.grow_empty];rfl⟩
theorem oP{P:Program}{id:Nat}{Q:Exit->Act->World->Prop}{a:Act}{w:World}{l:List Oper}(bU:List (List Nat×Nat))(last:List Nat)(hm:P.follows .mixedOrders=true)
  (hB:(avu l.toArray&&decide (CP bU last=l.toArray.size)&&zH .any l.toArray bU last (au4 l.toArray.size false))=true)
  (h:vR (λw w'=>∃p:Regrown,w'=Go.Sort.grow (redrawn w p.d) p.os) P l Q bU last a w):(Code.region id l.toArray true).wp P Q a w:=
 Lh _ mE.refl mE.drew bU last hm hB h
theorem PI{P:Program}{f:Nat}{args:Array Value}{v:Value}(h:∀w,Calls P f args w λe w'=>e=.returned v/\ag w w')(W:World):
  ∀d os,Calls P f args (Go.Sort.grow (redrawn W d) os) λe w''=>e=.returned v/\∃p:Regrown,w''=Go.Sort.grow (redrawn W p.d) p.os:=
 λ_ _=>Calls.regrown_of ((h _).mono λ_ _ h=>⟨h.1,h.2.below⟩)
def jw(p:Prop):Prop:=p
theorem jw.mk{p:Prop}(h:jw p):p:=h
theorem jw.go{p:Prop}(h:p):jw p:=h
def Src(w:World)(size:Nat)(y:Value)(m:Nat)(news:List Value):Prop:=
 ∃A c,y=.slice A m c/\news.length=m*size/\((A=none/\m=0/\news=[])\/∃ad,A=some ad/\∀j u,news[j]?=some u->w.cell? (ad.add j)=some u)
theorem Src.uT{w:World}{g:Nat}{t:TypeId}{cs:Array Value}{size m c:Nat}(h:af w g t cs)(hs:cs.size=m*size):Src w size (.slice (some ⟨g,0,none⟩) m c) m cs.toList:=
 ⟨_,_,rfl,by simpa using hs,.inr ⟨_,rfl,λj u hu=>by rw[Addr.add_mid,au8,h.cell];simpa using hu⟩⟩
section
variable {P:Program} (w:World)
theorem MP(base:Nat)(t ty e:TypeId)(i:TypeInfo)(z:Value)(size bytes:Nat)(ht:P.underlying t=some (.slice e))(hi:P.info? e=some i)(hz:i.zero=some z)
  (hsize:i.size=size) (hby:i.bytes=bytes) (hzs:z.cells.size=size) (hsz:0<size)
  (v:Value) (n:Nat) (xs:List Value) (hown:w.ownsRow base e size v n xs) (y:Value) (m:Nat) (news:List Value) (ab:Src w size y m news) (h1:∀u∈news,u.oneCell'=true)
  (h63:n+m<=maxLen) (hbytes:(n+m)*bytes<=140737488355328) (hbase:base<=w.heap.size):
  ∃v' w',(Builtin.append_ #[t,t] ty #[v,y]).run P w=.ok v' w'/\w'.ownsRow base e size v' (n+m) (xs++news)/\w.grownBy w' v.ownBlock/\(v'.ownBlock=v.ownBlock\/v'.ownBlock=some w.heap.size):=by
 obtain⟨A,c,rfl,hl,hA⟩:=ab
 rcases hA with⟨rfl,rfl,rfl⟩|⟨ad,rfl,hc⟩
 .refine⟨v,w,?_,by simpa using hown,World.grownBy.refl w _,.inl rfl⟩
  rcases hown.2 with⟨rfl,rfl⟩|⟨g,cap,cur,rfl,_,_,ac,_⟩
  .simp[Builtin.append_,run_underlying ht,sizeOf,typeInfo,hi,Builtin.lenOf,Builtin.firstCells]
  .simp[Builtin.append_,run_underlying ht,sizeOf,typeInfo,hi,Builtin.lenOf,Builtin.firstCells,ac,storeCells]
 .obtain⟨v',w',hrun,h2,h3,_,h5⟩:=run_append_own_at (P:=P) w base t ty e i z size bytes ht hi hz hsize hby hzs hsz v n xs hown ad m c news hl hc h1 h63 hbytes hbase
  exact⟨v',w',hrun,h2,h3,h5⟩
theorem O7{o:Oper}{a:Act}{K:Act->World->Prop}{Q:Exit->Act->World->Prop}(s x:Operand)(t:TypeId)
  (ho:o.op=.call {callee:=.builtin .append,args:=#[s,x],argTypes:=#[t,t]})
  (base:Nat) (e:TypeId) (i:TypeInfo) (z:Value) (size bytes:Nat) (ht:P.underlying t=some (.slice e)) (hi:P.info? e=some i) (hz:i.zero=some z)
  (hsize:i.size=size) (hby:i.bytes=bytes) (hzs:z.cells.size=size) (hsz:0<size)
  (v:Value) (n:Nat) (xs:List Value) (hs:a.eval s=v) (hown:w.ownsRow base e size v n xs)
  (y:Value) (m:Nat) (news:List Value) (hx:a.eval x=y) (ab:Src w size y m news) (h1:∀u∈news,u.oneCell'=true)
  (h63:n+m<=maxLen) (hbytes:(n+m)*bytes<=140737488355328) (hbase:base<=w.heap.size)
  (h:∀v' w',w'.ownsRow base e size v' (n+m) (xs++news)->w.grownBy w' v.ownBlock->(v'.ownBlock=v.ownBlock\/v'.ownBlock=some w.heap.size)->K (a.put o.dst v') w'):o.wp P a w K Q:=by
 obtain⟨v',w',hrun,h2,h3,h4⟩:=MP (P:=P) w base t o.type e i z size bytes ht hi hz hsize hby hzs hsz v n xs hown y m news ab h1 h63 hbytes hbase;unfold Oper.wp execOp;simp only[ho,resolve,invoke,builtin,Sem.run_bind,Sem.run_pure,Result.andThen_ok,List.map_toArray,List.map_cons,List.map_nil,hs,hx,hrun];exact h v' w' h2 h3 h4
theorem iL{ops:Array Oper}{rest:List Oper}{o:Oper}{a:Act}{Q:Exit->Act->World->Prop}(hgd:o.guard=none)(s x:Operand)(t:TypeId)
  (ho:o.op=.call {callee:=.builtin .append,args:=#[s,x],argTypes:=#[t,t]})
  (base:Nat) (e:TypeId) (i:TypeInfo) (z:Value) (size bytes:Nat) (ht:P.underlying t=some (.slice e)) (hi:P.info? e=some i) (hz:i.zero=some z)
  (hsize:i.size=size) (hby:i.bytes=bytes) (hzs:z.cells.size=size) (hsz:0<size)
  (v:Value) (n:Nat) (xs:List Value) (hs:a.eval s=v) (hown:w.ownsRow base e size v n xs)
  (y:Value) (m:Nat) (news:List Value) (hx:a.eval x=y) (ab:Src w size y m news) (h1:∀u∈news,u.oneCell'=true)
  (h63:n+m<=maxLen) (hbytes:(n+m)*bytes<=140737488355328) (hbase:base<=w.heap.size)
  (h:∀v' w',w'.ownsRow base e size v' (n+m) (xs++news)->w.grownBy w' v.ownBlock->(v'.ownBlock=v.ownBlock\/v'.ownBlock=some w.heap.size)->wpList P ops Q rest (a.put o.dst v') w'):wpList P ops Q (o::rest) a w:=
 wpList_plain hgd λ_ hK=>O7 w s x t ho base e i z size bytes ht hi hz hsize hby hzs hsz v n xs hs hown y m news hx ab h1 h63 hbytes hbase λv' w' h2 h3 h4=>hK _ _ (h v' w' h2 h3 h4)
end
structure uU(w:World)(B b o:Nat)(T:TypeId)(cs:Array Value)(v:Value)(l:List UInt8):Prop where
 QN:af w b T cs
 addr:cs[o]?=some (.pointer none)\/cs[o]?=some (.pointer (some ⟨b,o,none⟩))
 buf:cs[o+1]?=some v
 own:w.ownsRow B 5 1 v l.length (Lib.byteCells l)
 ne:v.ownBlock≠some b
 J7:l=[]->v=.slice none 0 0
theorem byteCells_snoc(l:List UInt8)(c:UInt8):Lib.byteCells (l++[c])=Lib.byteCells l++[.int .u8 c.toNat]:=by simp[Lib.byteCells]
theorem Qn:(Tryz.prog.info? 5).map (λi=>(i.zero,i.size,i.bytes))=some (some (.int .u8 0),1,1):=by kernel_rfl
theorem JC:∃j,Tryz.prog.info? 54=some j/\j.size=2:=by
 have h:(Tryz.prog.info? 54).map (·.size)=some 2:=by kernel_rfl
 exact Option.map_eq_some_iff.1 h
theorem Qo{w:World}{g:Nat}{t:TypeId}{cs:Array Value}(h:af w g t cs):w.shape? g=some (t,cs.size):=by
 unfold af at h;simp[World.shape?,h]
theorem MQ(b o:Nat)(w:World)(h0:w.cell? ⟨b,o,none⟩=some (.pointer (some ⟨b,o,none⟩))):
  Calls Tryz.prog 109 #[.pointer (some ⟨b,o,none⟩)] w λe w'=>e=.returned (.tuple #[])/\w'=w:=by
 obtain⟨j,hj,_⟩:=JC;go_enter Tryz.func109,Tryz.ntmps109
 go_wp2
 rw[Lib.run_neq_ptr_same w _ Tryz.underlying51 hj]
 go_wp2
 go_end0
 exact⟨rfl,rfl⟩
theorem Li(b o:Nat)(T:TypeId)(n:Nat)(w:World)(h0:w.cell? ⟨b,o,none⟩=some (.pointer none))(ac:w.shape? b=some (T,n))(an:w.frozen? ⟨b,o,none⟩=false)
  (ab:o<n) (aa:liesAt Tryz.prog Tryz.prog.depth T (n/Tryz.prog.cellsOf T) o 54 1=true):
  Calls Tryz.prog 109 #[.pointer (some ⟨b,o,none⟩)] w λe w'=>e=.returned (.tuple #[])/\w'=w.setCell ⟨b,o,none⟩ (.pointer (some ⟨b,o,none⟩)):=by
 obtain⟨j,hj,aU⟩:=JC;go_enter Tryz.func109,Tryz.ntmps109
 go_wp2
 rw[Lib.run_to_unsafe w ⟨b,o,none⟩ Tryz.underlying51 Tryz.underlying192 hj (by rw[aU];decide) ac ab];simp only[Result.andThen];rw[Oper.upon_value]
 go_wp2
 rw[run_callFunc_extern Tryz.func138 (by kernel_rfl) (by kernel_rfl) (by kernel_rfl) (e:=Extern.AbiNoEscape.same) (by kernel_rfl)];rw[Lib.run_noEscape];simp only[Result.andThen];rw[Oper.upon_value]
 go_wp2
 rw[Lib.run_from_unsafe w ⟨b,o,none⟩ Tryz.underlying192 Tryz.underlying51 hj ac aa];simp only[Result.andThen];rw[Oper.upon_value]
 go_wp2
 go_end0
 exact⟨rfl,rfl⟩
theorem FX{w:World}{B b o:Nat}{T:TypeId}{cs:Array Value}{v:Value}{l:List UInt8}(h:uU w B b o T cs v l)
  (aa:liesAt Tryz.prog Tryz.prog.depth T (cs.size/Tryz.prog.cellsOf T) o 54 1=true):
  Calls Tryz.prog 109 #[.pointer (some ⟨b,o,none⟩)] w λe w'=>e=.returned (.tuple #[])/\af w' b T (cs.setIfInBounds o (.pointer (some ⟨b,o,none⟩)))/\Touch (·=b) w w'/\w'.heap.size=w.heap.size:=by
 have ho:o<cs.size:=by
  rcases h.addr with h1|h1<;>exact(Array.getElem?_eq_some_iff.1 h1).1
 rcases h.addr with h1|h1
 .refine(Li b o T cs.size w ((h.QN.cell o).trans h1) (Qo h.QN) (h.QN.frozen o) ho aa).mono ?_
  rintro e w' ⟨rfl,rfl⟩;exact⟨rfl,h.QN.put _ _,(M (·=b) w).setCell (p:=⟨b,o,none⟩) (.inl rfl) _,by simp[auX]⟩
 .refine(MQ b o w ((h.QN.cell o).trans h1)).mono ?_
  rintro e w' ⟨rfl,rfl⟩;refine⟨rfl,?_,M _ _,rfl⟩
  have:cs.setIfInBounds o (.pointer (some ⟨b,o,none⟩))=cs:=by
   apply Array.ext_getElem?
   intro i;rw[Array.getElem?_setIfInBounds];split
   .rename_i hi;subst hi;simp[ho]at*;exact h1.symm
   .rfl
  rw[this];exact h.QN
theorem uU.lt{w:World}{B b o:Nat}{T:TypeId}{cs:Array Value}{v:Value}{l:List UInt8}(h:uU w B b o T cs v l):b<w.heap.size:=h.QN.lt
theorem Gv{w:World}{B B' e size n:Nat}{v:Value}{xs:List Value}(h:w.ownsRow B e size v n xs)(hB:B'<=B):w.ownsRow B' e size v n xs:=by
 obtain⟨h1,h2⟩:=h;refine⟨h1,?_⟩
 rcases h2 with h2|⟨g,cap,cur,h3,h4,r⟩
 .exact .inl h2
 .exact .inr ⟨g,cap,cur,h3,by omega,r⟩
theorem aQ{S:Nat->Prop}{w w':World}{B e size n:Nat}{v:Value}{xs:List Value}(h:w.ownsRow B e size v n xs)(ht:Touch S w w')(hn:∀k,v.ownBlock=some k->¬S k):w'.ownsRow B e size v n xs:=by
 obtain⟨h1,h2⟩:=h;refine⟨h1,?_⟩
 rcases h2 with h2|⟨g,cap,cur,rfl,hb,hh,r⟩
 .exact .inl h2
 .exact .inr ⟨g,cap,cur,rfl,hb,(ht.block g (Array.getElem?_eq_some_iff.1 hh).1 (hn g rfl)).trans hh,r⟩
theorem iP{w:World}{B b o:Nat}{T:TypeId}{cs:Array Value}{v:Value}{l:List UInt8}(h:uU w B b o T cs v l)
  (aa:liesAt Tryz.prog Tryz.prog.depth T (cs.size/Tryz.prog.cellsOf T) o 54 1=true) (x:Int) (c:UInt8) (hx:x=c.toNat) (hlen:l.length+1<=140737488355328) (hB:B<=w.heap.size):
  Calls Tryz.prog 71 #[.pointer (some ⟨b,o,none⟩),.int .u8 x] w λe w'=>e=.returned .nilIface/\∃v',uU w' B b o T ((cs.setIfInBounds o (.pointer (some ⟨b,o,none⟩))).setIfInBounds (o+1) v') v' (l++[c])/\Touch (λk=>k=b\/v.ownBlock=some k) w w':=by
 obtain⟨i0,hi,hz0,hz1,hz2⟩:=info_parts Qn;have ho:o+1<cs.size:=(Array.getElem?_eq_some_iff.1 h.buf).1;go_enter Tryz.func71,Tryz.ntmps71;go_wp2_with fail
 refine(FX h aa).mono ?_;rintro e w1 ⟨rfl,hb1,ad,hs1⟩
 have c1:w1.cell? ⟨b,o+1,none⟩=some v:=by
  rw[hb1.cell,avQ (by omega)];exact h.buf
 have hown:w1.ownsRow B 5 1 v l.length (Lib.byteCells l):=aQ h.own ad (λk hk e=>h.ne (by rw[hk,e]));have HB:=hid hb1;have HT:=hid ad;have HS:=hid hs1;have HX:=hid hx;clear hb1 ad hs1 hx
 go_wp2_with (at_builtin;refine wpList_append_own_at _ rfl _ _ 52 rfl B 5 i0 (.int .u8 0) 1 1 Tryz.underlying52 hi hz0 hz1 hz2 rfl (by decide) _ _ _ rfl (hown.alloc _) ⟨w1.heap.size,0,none⟩ 1 1 [.int .u8 x] rfl rfl ?c1 ?c2 ?c3 ?c4 ?c5 ?_)
 case c1=>
  intro j u hj
  match j,hj with
  |0,hj=>simp at hj;subst hj;simp[Addr.add]
 case c2=>intro u hu;simp at hu;subst hu;rfl
 case c3=>unfold maxLen;omega
 case c4=>omega
 case c5=>have:=HS.out;simp;omega
 intro v' w2 hown' hgrow _ hat;have ai:=HB.out.lt;have am:Touch (λk=>v.ownBlock=some k) w1 w2:=((M (λk=>v.ownBlock=some k) w1).alloc _).grown hgrow (λg hg=>.inl hg);have hb2:af w2 b T (cs.setIfInBounds o (.pointer (some ⟨b,o,none⟩))):=am.QN HB.out h.ne
 have d1:w2.cell? ⟨b,o+1,none⟩=some v:=by
  rw[hb2.cell,avQ (by omega)];exact h.buf
 have f1:w2.frozen? ⟨b,o+1,none⟩=false:=hb2.frozen _
 have aj:v'.ownBlock≠some b:=by
  rcases hat with h1|h1
  .rw[h1];exact h.ne
  .rw[h1];simp;omega
 obtain⟨g,cap,rfl⟩:∃g cap,v'=.slice (some ⟨g,0,none⟩) (l.length+1) cap:=by
  rcases hown'.2 with⟨_,h0⟩|⟨g,cap,cur,hv,_⟩
  .omega
  .exact⟨g,cap,hv⟩
 have aq:=hid hb2;have ao:=hid am;have HO:=hid hown';have HN:=hid aj;clear hb2 am hown' aj hat hgrow hown
 go_wp2
 go_ret;refine⟨rfl,_,⟨aq.out.put _ _,.inr ?_,?_,?_,HN.out,by simp⟩,?_⟩
 .rw[avQ (by omega),awM (by omega)]
 .rw[awM (by simp;omega)]
 .rw[byteCells_snoc,List.length_append,<-HX.out]
  exact aQ HO.out ((M (·=b) w2).setCell (p:=⟨b,o+1,none⟩) (.inl rfl) _) (λk hk e=>HN.out (by rw[hk,e]))
 .exact((HT.out.mono (λ_ h=>.inl h)).trans (ao.out.mono (λ_ h=>.inr h))).setCell (p:=⟨b,o+1,none⟩) (.inl (.inl rfl)) _
theorem Qp{S:Nat->Prop}{a w:World}(h:Touch S a w){p:Addr}(hp:S p.block\/a.heap.size<=p.block)(n:Nat):Touch S a (w.freeze p n):=by
 unfold World.freeze;split
 .exact h
 .refine⟨h.os,h.tape,h.output,by simpa using h.size,λi hi hn=>?_⟩
  refine Eq.trans ?_ (h.block i hi hn);show(w.heap.modify p.block _)[i]?=_;rw[Array.getElem?_modify,if_neg];rintro rfl;exact hp.elim hn (λhle=>absurd hi (by omega))
theorem J8(W:World)(q:Option Addr):(Builtin.unsafeString_ #[101,3] 9 #[.pointer q,.int .i64 0]).run Tryz.prog W=.ok (.string .empty) W:=Lib.run_unsafeString_none W _ _ _ q
theorem zI{w:World}{B b o:Nat}{T:TypeId}{cs:Array Value}{v:Value}{l:List UInt8}(h:uU w B b o T cs v l):
  Calls Tryz.prog 17 #[.pointer (some ⟨b,o,none⟩)] w λe w'=>e=.returned (.string ⟨l.toArray⟩)/\Touch (λk=>v.ownBlock=some k) w w':=by
 have c1:w.cell? ⟨b,o+1,none⟩=some v:=(h.QN.cell _).trans h.buf
 by_cases h0:l=[]
 .obtain rfl:=h.J7 h0
  subst h0;have hUS:=J8;have hSD:∀n:Nat,(Builtin.unsafeSliceData_ #[52] 101 #[.slice none 0 0]).run Tryz.prog (w.drewN n)=.ok (.pointer none) (w.drewN n):=λ_=>rfl
  clear h;go_enter Tryz.func17,Tryz.ntmps17
  go_wp2
  go_quiet (fail)
  go_wp2
  go_ret;exact⟨rfl,(M _ w).drewN _⟩
 .have hl0:l.length≠0:=by simpa using h0
  obtain⟨g,cap,cur,rfl,hbg,hg,ac,hcm,hcs,aa⟩:∃g cap cur,v=.slice (some ⟨g,0,none⟩) l.length cap/\B<=g/\w.heap[g]?=some (.cells cur 5 (0,0))/\l.length<=cap/\cap<=maxLen/\cur.size=cap*1/\cur.toList.take (l.length*1)=Lib.byteCells l:=by
   rcases h.own.2 with⟨_,hz⟩|⟨g,cap,cur,hv,r⟩
   .exact absurd hz hl0
   .exact⟨g,cap,cur,hv,r⟩
  have hown:=h.own
  have hSD:∀n:Nat,(Builtin.unsafeSliceData_ #[52] 101 #[.slice (some ⟨g,0,none⟩) l.length cap]).run Tryz.prog (w.drewN n)=.ok (.pointer (some ⟨g,0,none⟩)) (w.drewN n):=λn=>
   Lib.run_unsafeSliceData_row _ _ _ _ _ _ (by omega)
  have hUS:∀n:Nat,(Builtin.unsafeString_ #[101,3] 9 #[.pointer (some ⟨g,0,none⟩),.int .i64 l.length]).run Tryz.prog (w.drewN n)=.ok (.string ⟨l.toArray⟩) ((w.drewN n).freeze ⟨g,0,none⟩ l.length):=λn=>by
   refine Lib.run_unsafeString_row (w.drewN n) 101 3 9 5 Tryz.underlying101 (by kernel_rfl) g cur.size (by simp[World.shape?,hg]) l h0 (by omega) (by unfold maxLen at hcm;omega) ?_;intro j x hx;have:=hown.cells (g:=g) rfl j (.int .u8 x.toNat) (by simp[Lib.byteCells,hx]);exact this
  have HG:=hid hg;clear h aa hcs hcm ac hg hown h0 hl0;go_enter Tryz.func17,Tryz.ntmps17
  go_wp2
  refine kY [([0,1,2,3,4,5,6,7,8,9],10)] [11] (by kernel_rfl) (by kernel_rfl) ?_;simp only[tY,pick,List.getElem?_cons_zero,List.getElem?_cons_succ]
  repeat(quiet_step (fail))
  refine wpQuiet_nil ?_;rintro _ ⟨nq,rfl⟩
  go_wp2
  repeat(quiet_step (fail))
  refine wpQuiet_nil ?_;rintro _ ⟨NP,rfl⟩
  go_wp2
  go_ret;refine⟨rfl,?_⟩;exact(Qp ((M (λk=>Value.ownBlock (.slice (some ⟨g,0,none⟩) l.length cap)=some k) w).drewN nq) (p:=⟨g,0,none⟩) (.inl rfl) _).drewN _
theorem liesBuilder:liesAt Tryz.prog Tryz.prog.depth 54 (2/Tryz.prog.cellsOf 54) 0 54 1=true:=by kernel_rfl
theorem abu(s:ByteArray)(k:Nat)(h:k<s.size):s.data.toList[k]'(by simpa using h)=s[k]:=rfl
theorem sP(x y:UInt8)(h:x=y):((x.toNat:Int)==(y.toNat:Int))=true:=by rw[h];simp
theorem qW(x y:UInt8)(h:¬x=y):((x.toNat:Int)==(y.toNat:Int))=false:=by
 rw[beq_eq_false_iff_ne];intro hx;exact h (UInt8.toNat_inj.1 (by omega))
theorem si(x y:UInt8)(h:¬x=y):((x.toNat:Int) !=(y.toNat:Int))=true:=by
 rw[bne_iff_ne];intro hx;exact h (UInt8.toNat_inj.1 (by omega))
theorem qC(x y:UInt8)(h:x=y):((x.toNat:Int) !=(y.toNat:Int))=false:=by rw[h];simp
end
end Go.Proofs.YtabjglnjjdcfmaaGreatDoor
