/- Part 12 of 46 of a proof. No condition. -/
import Derived.Test.YtcgbccfpcgaikaaGreatDoorShelf
import Derived.Lib.IndexLaws
import Derived.Test.YtcgbccfpcgaikaaGreatDoorYm11
set_option maxRecDepth 100000
set_option maxHeartbeats 400000
namespace Go.Proofs.YtcgbccfpcgaikaaGreatDoor
section
open Go.RowKit
theorem uZ(L:Nat)(s:ByteArray)(a:Nat)(p e:Int)(k:Int)(kd:Nat)(text:ByteArray)(eF:Int)(n most:Nat)(EW:Int)(w:World)(r:Lx.jT)(hr:Lx.lim most ⟨kd,text.data.toList⟩ n=r)(h:bu w L s a p e)(hk:k=kd)(ht:eF=(a+n:Nat))(PK:EW=most):
  Calls Tryz.prog 136 #[.pointer (some ⟨L,0,none⟩),.int .i64 k,.string text,.int .i64 eF,.int .i64 EW] w (bA w L s a p e r):=by
 subst hr;exact zW L s a p e k kd text eF n most EW w h hk ht PK
theorem og(L:Nat)(s:ByteArray)(a:Nat)(p e:Int)(pl er:Int)(i erN:Nat)(w:World)(r:Lx.jT)(hr:Lx.jT.err i erN=r)(h:bu w L s a p e)(hp:pl=(a+i:Nat))(he:er=erN):
  Calls Tryz.prog 139 #[.pointer (some ⟨L,0,none⟩),.int .i64 pl,.int .i64 er] w (bA w L s a p e r):=by
 subst hr hp he;exact(QY L s a p e _ _ w h).mono fun e' w' ⟨h1,h2,h3⟩=>⟨_,_,_,_,_,_,_,_,h1,h2,h3,rfl,rfl,rfl,rfl,rfl,rfl,rfl,rfl⟩
theorem one_byte(s:ByteArray)(a:Nat)(h:a<s.size):(s.extract a (a+1)).data.toList=[s[a]]:=by
 have h1:s.data.toList.drop a=s[a]::s.data.toList.drop (a+1):=List.drop_eq_getElem_cons (by simpa using h);simp[ByteArray.data_extract,Array.toList_extract,List.extract_eq_take_drop,h1]
theorem Ur(s:ByteArray)(a:Nat)(h:a<s.size)(x:UInt8):((s.extract a (a+1)).toList==[x])=(s[a]==x):=by
 have h1:(s.extract a (a+1)).toList=[s[a]]:=by rw[ByteArray.toList_eq];exact one_byte s a h
 rw[h1];simp
theorem WR(d:UInt8)(h1:49≤d.toNat)(h2:d.toNat≤52):(Utf8.encode (d.toNat:Int)).data.toList=[d]:=by
 have:d.toNat=49∨d.toNat=50∨d.toNat=51∨d.toNat=52:=by omega
 rcases this with h|h|h|h<;>(have hd:=UInt8.toNat_inj.1 (show d.toNat=(UInt8.ofNat d.toNat).toNat by simp);rw[h]at hd;subst hd;decide+kernel)
theorem Us(L:Nat)(s:ByteArray)(a:Nat)(p e:Int)(w:World)(h:bu w L s a p e)(hm:s.size≤maxLen)(ha:a<s.size)(r:Lx.jT)(F2:(Lx.cz s.data.toList a==2)=true)(hr:Lx.number (s.data.toList.drop a)=r):
  Calls Tryz.prog 104 #[.pointer (some ⟨L,0,none⟩)] w (bA w L s a p e r):=by
 obtain⟨g1,g2,g3,g4,f1,f2,f3,hL⟩:=eD h;have HM:=hm;have Ee:=ha;unfold maxLen at hm;have H:=hid h;clear h;have a0:(0:Int)≤(a:Int):=by omega
 have a1:(a:Int)<(s.size:Int):=by omega
 have a2:(a:Int)+1≤(s.size:Int):=by omega
 go_enter Tryz.func104,Tryz.ntmps104
 go_wp2_with (go_at_call 134;refine(ng L s a p e _ _ _ (by first|exact H.out.alloc _|exact(H.out.alloc _).drewN _) (by omega) (by omega)).mono ?_;rintro e' w' ⟨rfl,n,rfl⟩)
 all_goals
  refine((hr▸WQ L s a p e _ ((H.out.alloc _).drewN _) HM ha)).mono ?_;rintro e' w' ⟨k,tx,f,t,b,a',p',e2,rfl,hx,ht,hmn⟩;obtain⟨q0,q1,q2,q3,z0,z1,z2,z3,hg⟩:=af.four (ht.blk ((af.new w _ _).drewN _) (by omega));have HX:=hid hx;have HT:=hid ht;have fU:=hid hmn;clear hx ht hmn;go_wp2_with fail
  (try simp only[Exit.inBlock,Exit.then])
  refine bodyPost_ret (v:=.tuple #[.agg #[.int .i64 k,.string tx,.int .i64 f,.int .i64 t],.bool b]) (by simp[results,Tryz.results104,go_sem,q0,q1,q2,q3]) rfl ?_;exact bA.close hL HX.out HT.out.pG fU.out
theorem Zq(L:Nat)(s:ByteArray)(a:Nat)(p e:Int)(w:World)(h:bu w L s a p e)(hm:s.size≤maxLen)(ha:a<s.size)(r:Lx.jT)(F2:(Lx.cz s.data.toList a==2)=false)(F5:(Lx.cz s.data.toList a==5)=true)(hr:Lx.lim 1 ⟨7,(s.extract a (a+1)).data.toList⟩ 1=r):
  Calls Tryz.prog 104 #[.pointer (some ⟨L,0,none⟩)] w (bA w L s a p e r):=by
 obtain⟨g1,g2,g3,g4,f1,f2,f3,hL⟩:=eD h;have HM:=hm;have Ee:=ha;unfold maxLen at hm;have H:=hid h;clear h;have a0:(0:Int)≤(a:Int):=by omega
 have a1:(a:Int)<(s.size:Int):=by omega
 have a2:(a:Int)+1≤(s.size:Int):=by omega
 go_enter Tryz.func104,Tryz.ntmps104
 go_wp2_with (go_at_call 134;refine(ng L s a p e _ _ _ (by first|exact H.out.alloc _|exact(H.out.alloc _).drewN _) (by omega) (by omega)).mono ?_;rintro e' w' ⟨rfl,n,rfl⟩)
 all_goals
  refine(uZ L s a p e _ 7 _ _ 1 1 _ _ r hr ((H.out.alloc _).drewN _) rfl rfl rfl).mono ?_;rintro e' w' ⟨k,tx,f,t,b,a',p',e2,rfl,hx,ht,hmn⟩;obtain⟨q0,q1,q2,q3,z0,z1,z2,z3,hg⟩:=af.four (ht.blk ((af.new w _ _).drewN _) (by omega));have HX:=hid hx;have HT:=hid ht;have fU:=hid hmn;clear hx ht hmn;go_wp2_with fail
  (try simp only[Exit.inBlock,Exit.then])
  refine bodyPost_ret (v:=.tuple #[.agg #[.int .i64 k,.string tx,.int .i64 f,.int .i64 t],.bool b]) (by simp[results,Tryz.results104,go_sem,q0,q1,q2,q3]) rfl ?_;exact bA.close hL HX.out HT.out.pG fU.out
theorem Ut(L:Nat)(s:ByteArray)(a:Nat)(p e:Int)(w:World)(h:bu w L s a p e)(hm:s.size≤maxLen)(ha:a<s.size)(r:Lx.jT)(F2:(Lx.cz s.data.toList a==2)=false)(F5:(Lx.cz s.data.toList a==5)=false)(u6:((s.extract a (a+1)).toList==[34])=true)(hq:∀w:World,bu w L s a p e→Calls Tryz.prog 137 #[.pointer (some ⟨L,0,none⟩)] w (bA w L s a p e r)):
  Calls Tryz.prog 104 #[.pointer (some ⟨L,0,none⟩)] w (bA w L s a p e r):=by
 obtain⟨g1,g2,g3,g4,f1,f2,f3,hL⟩:=eD h;have HM:=hm;have Ee:=ha;unfold maxLen at hm;have H:=hid h;clear h;have a0:(0:Int)≤(a:Int):=by omega
 have a1:(a:Int)<(s.size:Int):=by omega
 have a2:(a:Int)+1≤(s.size:Int):=by omega
 have HQ:=hid hq;clear hq;go_enter Tryz.func104,Tryz.ntmps104
 go_wp2_with (go_at_call 134;refine(ng L s a p e _ _ _ (by first|exact H.out.alloc _|exact(H.out.alloc _).drewN _) (by omega) (by omega)).mono ?_;rintro e' w' ⟨rfl,n,rfl⟩)
 all_goals
  refine(HQ.out _ ((H.out.alloc _).drewN _)).mono ?_;rintro e' w' ⟨k,tx,f,t,b,a',p',e2,rfl,hx,ht,hmn⟩;obtain⟨q0,q1,q2,q3,z0,z1,z2,z3,hg⟩:=af.four (ht.blk ((af.new w _ _).drewN _) (by omega));have HX:=hid hx;have HT:=hid ht;have fU:=hid hmn;clear hx ht hmn;go_wp2_with fail
  (try simp only[Exit.inBlock,Exit.then])
  refine bodyPost_ret (v:=.tuple #[.agg #[.int .i64 k,.string tx,.int .i64 f,.int .i64 t],.bool b]) (by simp[results,Tryz.results104,go_sem,q0,q1,q2,q3]) rfl ?_;exact bA.close hL HX.out HT.out.pG fU.out
theorem WS(L:Nat)(s:ByteArray)(a:Nat)(p e:Int)(w:World)(h:bu w L s a p e)(hm:s.size≤maxLen)(ha:a<s.size)(r:Lx.jT)(F2:(Lx.cz s.data.toList a==2)=false)(F5:(Lx.cz s.data.toList a==5)=false)(u6:((s.extract a (a+1)).toList==[34])=false)(u7:((s.extract a (a+1)).toList==[92])=true)(hs:a+1<s.size)(afF:(((s[a+1]'hs).toNat:Int)==92)=true)(hr:Lx.lim 2 ⟨8,(⟨#[92,92]⟩:ByteArray).data.toList⟩ 2=r):
  Calls Tryz.prog 104 #[.pointer (some ⟨L,0,none⟩)] w (bA w L s a p e r):=by
 obtain⟨g1,g2,g3,g4,f1,f2,f3,hL⟩:=eD h;have HM:=hm;have Ee:=ha;unfold maxLen at hm;have H:=hid h;clear h;have a0:(0:Int)≤(a:Int):=by omega
 have a1:(a:Int)<(s.size:Int):=by omega
 have a2:(a:Int)+1≤(s.size:Int):=by omega
 have S1:decide ((a:Int)+1<(s.size:Int))=true:=by simp;omega
 have S2:(a:Int)+1<(s.size:Int):=by omega
 have S3:(0:Int)≤(a:Int)+1:=by omega
 go_enter Tryz.func104,Tryz.ntmps104
 go_wp2_with (go_at_call 134;refine(ng L s a p e _ _ _ (by first|exact H.out.alloc _|exact(H.out.alloc _).drewN _) (by omega) (by omega)).mono ?_;rintro e' w' ⟨rfl,n,rfl⟩)
 all_goals
  refine(uZ L s a p e _ 8 _ _ 2 2 _ _ r hr ((H.out.alloc _).drewN _) rfl rfl rfl).mono ?_;rintro e' w' ⟨k,tx,f,t,b,a',p',e2,rfl,hx,ht,hmn⟩;obtain⟨q0,q1,q2,q3,z0,z1,z2,z3,hg⟩:=af.four (ht.blk ((af.new w _ _).drewN _) (by omega));have HX:=hid hx;have HT:=hid ht;have fU:=hid hmn;clear hx ht hmn;go_wp2_with fail
  (try simp only[Exit.inBlock,Exit.then])
  refine bodyPost_ret (v:=.tuple #[.agg #[.int .i64 k,.string tx,.int .i64 f,.int .i64 t],.bool b]) (by simp[results,Tryz.results104,go_sem,q0,q1,q2,q3]) rfl ?_;exact bA.close hL HX.out HT.out.pG fU.out
theorem Zr(L:Nat)(s:ByteArray)(a:Nat)(p e:Int)(w:World)(h:bu w L s a p e)(hm:s.size≤maxLen)(ha:a<s.size)(r:Lx.jT)(F2:(Lx.cz s.data.toList a==2)=false)(F5:(Lx.cz s.data.toList a==5)=false)(u6:((s.extract a (a+1)).toList==[34])=false)(u7:((s.extract a (a+1)).toList==[92])=true)(hs:a+1<s.size)(afF:(((s[a+1]'hs).toNat:Int)==92)=false)(N3:(Lx.cz s.data.toList (a+1)==3)=true)(hq:∀w:World,bu w L s a p e→Calls Tryz.prog 138 #[.pointer (some ⟨L,0,none⟩)] w (bA w L s a p e r)):
  Calls Tryz.prog 104 #[.pointer (some ⟨L,0,none⟩)] w (bA w L s a p e r):=by
 obtain⟨g1,g2,g3,g4,f1,f2,f3,hL⟩:=eD h;have HM:=hm;have Ee:=ha;unfold maxLen at hm;have H:=hid h;clear h;have a0:(0:Int)≤(a:Int):=by omega
 have a1:(a:Int)<(s.size:Int):=by omega
 have a2:(a:Int)+1≤(s.size:Int):=by omega
 have S1:decide ((a:Int)+1<(s.size:Int))=true:=by simp;omega
 have S2:(a:Int)+1<(s.size:Int):=by omega
 have S3:(0:Int)≤(a:Int)+1:=by omega
 have N3':(Lx.cz s.data.toList ((a:Int)+1).toNat==3)=true:=by rw[show((a:Int)+1).toNat=a+1 from by omega];exact N3
 have HQ:=hid hq;clear hq;go_enter Tryz.func104,Tryz.ntmps104
 go_wp2_with (go_at_call 134;refine(ng L s a p e _ _ _ (by first|exact H.out.alloc _|exact(H.out.alloc _).drewN _) (by omega) (by omega)).mono ?_;rintro e' w' ⟨rfl,n,rfl⟩)
 all_goals
  refine(HQ.out _ ((H.out.alloc _).drewN _)).mono ?_;rintro e' w' ⟨k,tx,f,t,b,a',p',e2,rfl,hx,ht,hmn⟩;obtain⟨q0,q1,q2,q3,z0,z1,z2,z3,hg⟩:=af.four (ht.blk ((af.new w _ _).drewN _) (by omega));have HX:=hid hx;have HT:=hid ht;have fU:=hid hmn;clear hx ht hmn;go_wp2_with fail
  (try simp only[Exit.inBlock,Exit.then])
  refine bodyPost_ret (v:=.tuple #[.agg #[.int .i64 k,.string tx,.int .i64 f,.int .i64 t],.bool b]) (by simp[results,Tryz.results104,go_sem,q0,q1,q2,q3]) rfl ?_;exact bA.close hL HX.out HT.out.pG fU.out
theorem QZ(L:Nat)(s:ByteArray)(a:Nat)(p e:Int)(w:World)(h:bu w L s a p e)(hm:s.size≤maxLen)(ha:a<s.size)(r:Lx.jT)(F2:(Lx.cz s.data.toList a==2)=false)(F5:(Lx.cz s.data.toList a==5)=false)(u6:((s.extract a (a+1)).toList==[34])=false)(u7:((s.extract a (a+1)).toList==[92])=true)(xD:((s.extract a (a+1)).toList==[35])=false)(hs:a+1<s.size)(afF:(((s[a+1]'hs).toNat:Int)==92)=false)(N3:(Lx.cz s.data.toList (a+1)==3)=false)(F3:(Lx.cz s.data.toList a==3)=false)(F4:(Lx.cz s.data.toList a==4)=false)(hr:Lx.jT.err 0 3=r):
  Calls Tryz.prog 104 #[.pointer (some ⟨L,0,none⟩)] w (bA w L s a p e r):=by
 obtain⟨g1,g2,g3,g4,f1,f2,f3,hL⟩:=eD h;have HM:=hm;have Ee:=ha;unfold maxLen at hm;have H:=hid h;clear h;have a0:(0:Int)≤(a:Int):=by omega
 have a1:(a:Int)<(s.size:Int):=by omega
 have a2:(a:Int)+1≤(s.size:Int):=by omega
 have S1:decide ((a:Int)+1<(s.size:Int))=true:=by simp;omega
 have S2:(a:Int)+1<(s.size:Int):=by omega
 have S3:(0:Int)≤(a:Int)+1:=by omega
 have N3':(Lx.cz s.data.toList ((a:Int)+1).toNat==3)=false:=by rw[show((a:Int)+1).toNat=a+1 from by omega];exact N3
 go_enter Tryz.func104,Tryz.ntmps104
 go_wp2_with (go_at_call 134;refine(ng L s a p e _ _ _ (by first|exact H.out.alloc _|exact(H.out.alloc _).drewN _) (by omega) (by omega)).mono ?_;rintro e' w' ⟨rfl,n,rfl⟩)
 all_goals
  refine(og L s a p e _ _ 0 3 _ r hr ((H.out.alloc _).drewN _) rfl rfl).mono ?_;rintro e' w' ⟨k,tx,f,t,b,a',p',e2,rfl,hx,ht,hmn⟩;obtain⟨q0,q1,q2,q3,z0,z1,z2,z3,hg⟩:=af.four (ht.blk ((af.new w _ _).drewN _) (by omega));have HX:=hid hx;have HT:=hid ht;have fU:=hid hmn;clear hx ht hmn;go_wp2_with fail
  (try simp only[Exit.inBlock,Exit.then])
  refine bodyPost_ret (v:=.tuple #[.agg #[.int .i64 k,.string tx,.int .i64 f,.int .i64 t],.bool b]) (by simp[results,Tryz.results104,go_sem,q0,q1,q2,q3]) rfl ?_;exact bA.close hL HX.out HT.out.pG fU.out
theorem Q3(L:Nat)(s:ByteArray)(a:Nat)(p e:Int)(w:World)(h:bu w L s a p e)(hm:s.size≤maxLen)(ha:a<s.size)(r:Lx.jT)(F2:(Lx.cz s.data.toList a==2)=false)(F5:(Lx.cz s.data.toList a==5)=false)(u6:((s.extract a (a+1)).toList==[34])=false)(u7:((s.extract a (a+1)).toList==[92])=true)(xD:((s.extract a (a+1)).toList==[35])=false)(hs:¬a+1<s.size)(N3:(Lx.cz s.data.toList (a+1)==3)=false)(F3:(Lx.cz s.data.toList a==3)=false)(F4:(Lx.cz s.data.toList a==4)=false)(hr:Lx.jT.err 0 3=r):
  Calls Tryz.prog 104 #[.pointer (some ⟨L,0,none⟩)] w (bA w L s a p e r):=by
 obtain⟨g1,g2,g3,g4,f1,f2,f3,hL⟩:=eD h;have HM:=hm;have Ee:=ha;unfold maxLen at hm;have H:=hid h;clear h;have a0:(0:Int)≤(a:Int):=by omega
 have a1:(a:Int)<(s.size:Int):=by omega
 have a2:(a:Int)+1≤(s.size:Int):=by omega
 have S1:decide ((a:Int)+1<(s.size:Int))=false:=by simp;omega
 have N3':(Lx.cz s.data.toList ((a:Int)+1).toNat==3)=false:=by rw[show((a:Int)+1).toNat=a+1 from by omega];exact N3
 go_enter Tryz.func104,Tryz.ntmps104
 go_wp2_with (go_at_call 134;refine(ng L s a p e _ _ _ (by first|exact H.out.alloc _|exact(H.out.alloc _).drewN _) (by omega) (by omega)).mono ?_;rintro e' w' ⟨rfl,n,rfl⟩)
 all_goals
  refine(og L s a p e _ _ 0 3 _ r hr ((H.out.alloc _).drewN _) rfl rfl).mono ?_;rintro e' w' ⟨k,tx,f,t,b,a',p',e2,rfl,hx,ht,hmn⟩;obtain⟨q0,q1,q2,q3,z0,z1,z2,z3,hg⟩:=af.four (ht.blk ((af.new w _ _).drewN _) (by omega));have HX:=hid hx;have HT:=hid ht;have fU:=hid hmn;clear hx ht hmn;go_wp2_with fail
  (try simp only[Exit.inBlock,Exit.then])
  refine bodyPost_ret (v:=.tuple #[.agg #[.int .i64 k,.string tx,.int .i64 f,.int .i64 t],.bool b]) (by simp[results,Tryz.results104,go_sem,q0,q1,q2,q3]) rfl ?_;exact bA.close hL HX.out HT.out.pG fU.out
theorem WT(L:Nat)(s:ByteArray)(a:Nat)(p e:Int)(w:World)(h:bu w L s a p e)(hm:s.size≤maxLen)(ha:a<s.size)(r:Lx.jT)(F2:(Lx.cz s.data.toList a==2)=false)(F5:(Lx.cz s.data.toList a==5)=false)(u6:((s.extract a (a+1)).toList==[34])=false)(u7:((s.extract a (a+1)).toList==[92])=false)(xD:((s.extract a (a+1)).toList==[35])=true)(hs:a+1<s.size)(afG:decide (49≤((s[a+1]'hs).toNat:Int))=true)(aiy:decide (((s[a+1]'hs).toNat:Int)≤52)=true)(hr:Lx.lim 1 ⟨6,(Utf8.encode (wrap32 ((s[a+1]'hs).toNat:Int))).data.toList⟩ 2=r):
  Calls Tryz.prog 104 #[.pointer (some ⟨L,0,none⟩)] w (bA w L s a p e r):=by
 obtain⟨g1,g2,g3,g4,f1,f2,f3,hL⟩:=eD h;have HM:=hm;have Ee:=ha;unfold maxLen at hm;have H:=hid h;clear h;have a0:(0:Int)≤(a:Int):=by omega
 have a1:(a:Int)<(s.size:Int):=by omega
 have a2:(a:Int)+1≤(s.size:Int):=by omega
 have S1:decide ((a:Int)+1<(s.size:Int))=true:=by simp;omega
 have S2:(a:Int)+1<(s.size:Int):=by omega
 have S3:(0:Int)≤(a:Int)+1:=by omega
 go_enter Tryz.func104,Tryz.ntmps104
 go_wp2_with (go_at_call 134;refine(ng L s a p e _ _ _ (by first|exact H.out.alloc _|exact(H.out.alloc _).drewN _) (by omega) (by omega)).mono ?_;rintro e' w' ⟨rfl,n,rfl⟩)
 all_goals
  generalize Utf8.encode (wrap32 ((s[a+1]'hs).toNat:Int))=tx0 at hr⊢;refine(uZ L s a p e _ 6 _ _ 2 1 _ _ r hr ((H.out.alloc _).drewN _) rfl rfl rfl).mono ?_;rintro e' w' ⟨k,tx,f,t,b,a',p',e2,rfl,hx,ht,hmn⟩;obtain⟨q0,q1,q2,q3,z0,z1,z2,z3,hg⟩:=af.four (ht.blk ((af.new w _ _).drewN _) (by omega));have HX:=hid hx;have HT:=hid ht;have fU:=hid hmn;clear hx ht hmn;go_wp2_with fail
  (try simp only[Exit.inBlock,Exit.then])
  refine bodyPost_ret (v:=.tuple #[.agg #[.int .i64 k,.string tx,.int .i64 f,.int .i64 t],.bool b]) (by simp[results,Tryz.results104,go_sem,q0,q1,q2,q3]) rfl ?_;exact bA.close hL HX.out HT.out.pG fU.out
theorem Uu(L:Nat)(s:ByteArray)(a:Nat)(p e:Int)(w:World)(h:bu w L s a p e)(hm:s.size≤maxLen)(ha:a<s.size)(r:Lx.jT)(F2:(Lx.cz s.data.toList a==2)=false)(F5:(Lx.cz s.data.toList a==5)=false)(u6:((s.extract a (a+1)).toList==[34])=false)(u7:((s.extract a (a+1)).toList==[92])=false)(xD:((s.extract a (a+1)).toList==[35])=true)(hs:a+1<s.size)(afG:decide (49≤((s[a+1]'hs).toNat:Int))=false)(F3:(Lx.cz s.data.toList a==3)=false)(F4:(Lx.cz s.data.toList a==4)=false)(hr:Lx.jT.err 0 3=r):
  Calls Tryz.prog 104 #[.pointer (some ⟨L,0,none⟩)] w (bA w L s a p e r):=by
 obtain⟨g1,g2,g3,g4,f1,f2,f3,hL⟩:=eD h;have HM:=hm;have Ee:=ha;unfold maxLen at hm;have H:=hid h;clear h;have a0:(0:Int)≤(a:Int):=by omega
 have a1:(a:Int)<(s.size:Int):=by omega
 have a2:(a:Int)+1≤(s.size:Int):=by omega
 have S1:decide ((a:Int)+1<(s.size:Int))=true:=by simp;omega
 have S2:(a:Int)+1<(s.size:Int):=by omega
 have S3:(0:Int)≤(a:Int)+1:=by omega
 go_enter Tryz.func104,Tryz.ntmps104
 go_wp2_with (go_at_call 134;refine(ng L s a p e _ _ _ (by first|exact H.out.alloc _|exact(H.out.alloc _).drewN _) (by omega) (by omega)).mono ?_;rintro e' w' ⟨rfl,n,rfl⟩)
 all_goals
  refine(og L s a p e _ _ 0 3 _ r hr ((H.out.alloc _).drewN _) rfl rfl).mono ?_;rintro e' w' ⟨k,tx,f,t,b,a',p',e2,rfl,hx,ht,hmn⟩;obtain⟨q0,q1,q2,q3,z0,z1,z2,z3,hg⟩:=af.four (ht.blk ((af.new w _ _).drewN _) (by omega));have HX:=hid hx;have HT:=hid ht;have fU:=hid hmn;clear hx ht hmn;go_wp2_with fail
  (try simp only[Exit.inBlock,Exit.then])
  refine bodyPost_ret (v:=.tuple #[.agg #[.int .i64 k,.string tx,.int .i64 f,.int .i64 t],.bool b]) (by simp[results,Tryz.results104,go_sem,q0,q1,q2,q3]) rfl ?_;exact bA.close hL HX.out HT.out.pG fU.out
theorem Uv(L:Nat)(s:ByteArray)(a:Nat)(p e:Int)(w:World)(h:bu w L s a p e)(hm:s.size≤maxLen)(ha:a<s.size)(r:Lx.jT)(F2:(Lx.cz s.data.toList a==2)=false)(F5:(Lx.cz s.data.toList a==5)=false)(u6:((s.extract a (a+1)).toList==[34])=false)(u7:((s.extract a (a+1)).toList==[92])=false)(xD:((s.extract a (a+1)).toList==[35])=true)(hs:a+1<s.size)(afG:decide (49≤((s[a+1]'hs).toNat:Int))=true)(aiy:decide (((s[a+1]'hs).toNat:Int)≤52)=false)(F3:(Lx.cz s.data.toList a==3)=false)(F4:(Lx.cz s.data.toList a==4)=false)(hr:Lx.jT.err 0 3=r):
  Calls Tryz.prog 104 #[.pointer (some ⟨L,0,none⟩)] w (bA w L s a p e r):=by
 obtain⟨g1,g2,g3,g4,f1,f2,f3,hL⟩:=eD h;have HM:=hm;have Ee:=ha;unfold maxLen at hm;have H:=hid h;clear h;have a0:(0:Int)≤(a:Int):=by omega
 have a1:(a:Int)<(s.size:Int):=by omega
 have a2:(a:Int)+1≤(s.size:Int):=by omega
 have S1:decide ((a:Int)+1<(s.size:Int))=true:=by simp;omega
 have S2:(a:Int)+1<(s.size:Int):=by omega
 have S3:(0:Int)≤(a:Int)+1:=by omega
 go_enter Tryz.func104,Tryz.ntmps104
 go_wp2_with (go_at_call 134;refine(ng L s a p e _ _ _ (by first|exact H.out.alloc _|exact(H.out.alloc _).drewN _) (by omega) (by omega)).mono ?_;rintro e' w' ⟨rfl,n,rfl⟩)
 all_goals
  refine(og L s a p e _ _ 0 3 _ r hr ((H.out.alloc _).drewN _) rfl rfl).mono ?_;rintro e' w' ⟨k,tx,f,t,b,a',p',e2,rfl,hx,ht,hmn⟩;obtain⟨q0,q1,q2,q3,z0,z1,z2,z3,hg⟩:=af.four (ht.blk ((af.new w _ _).drewN _) (by omega));have HX:=hid hx;have HT:=hid ht;have fU:=hid hmn;clear hx ht hmn;go_wp2_with fail
  (try simp only[Exit.inBlock,Exit.then])
  refine bodyPost_ret (v:=.tuple #[.agg #[.int .i64 k,.string tx,.int .i64 f,.int .i64 t],.bool b]) (by simp[results,Tryz.results104,go_sem,q0,q1,q2,q3]) rfl ?_;exact bA.close hL HX.out HT.out.pG fU.out
theorem Uw(L:Nat)(s:ByteArray)(a:Nat)(p e:Int)(w:World)(h:bu w L s a p e)(hm:s.size≤maxLen)(ha:a<s.size)(r:Lx.jT)(F2:(Lx.cz s.data.toList a==2)=false)(F5:(Lx.cz s.data.toList a==5)=false)(u6:((s.extract a (a+1)).toList==[34])=false)(u7:((s.extract a (a+1)).toList==[92])=false)(xD:((s.extract a (a+1)).toList==[35])=true)(hs:¬a+1<s.size)(F3:(Lx.cz s.data.toList a==3)=false)(F4:(Lx.cz s.data.toList a==4)=false)(hr:Lx.jT.err 0 3=r):
  Calls Tryz.prog 104 #[.pointer (some ⟨L,0,none⟩)] w (bA w L s a p e r):=by
 obtain⟨g1,g2,g3,g4,f1,f2,f3,hL⟩:=eD h;have HM:=hm;have Ee:=ha;unfold maxLen at hm;have H:=hid h;clear h;have a0:(0:Int)≤(a:Int):=by omega
 have a1:(a:Int)<(s.size:Int):=by omega
 have a2:(a:Int)+1≤(s.size:Int):=by omega
 have S1:decide ((a:Int)+1<(s.size:Int))=false:=by simp;omega
 go_enter Tryz.func104,Tryz.ntmps104
 go_wp2_with (go_at_call 134;refine(ng L s a p e _ _ _ (by first|exact H.out.alloc _|exact(H.out.alloc _).drewN _) (by omega) (by omega)).mono ?_;rintro e' w' ⟨rfl,n,rfl⟩)
 all_goals
  refine(og L s a p e _ _ 0 3 _ r hr ((H.out.alloc _).drewN _) rfl rfl).mono ?_;rintro e' w' ⟨k,tx,f,t,b,a',p',e2,rfl,hx,ht,hmn⟩;obtain⟨q0,q1,q2,q3,z0,z1,z2,z3,hg⟩:=af.four (ht.blk ((af.new w _ _).drewN _) (by omega));have HX:=hid hx;have HT:=hid ht;have fU:=hid hmn;clear hx ht hmn;go_wp2_with fail
  (try simp only[Exit.inBlock,Exit.then])
  refine bodyPost_ret (v:=.tuple #[.agg #[.int .i64 k,.string tx,.int .i64 f,.int .i64 t],.bool b]) (by simp[results,Tryz.results104,go_sem,q0,q1,q2,q3]) rfl ?_;exact bA.close hL HX.out HT.out.pG fU.out
theorem Ux(L:Nat)(s:ByteArray)(a:Nat)(p e:Int)(w:World)(h:bu w L s a p e)(hm:s.size≤maxLen)(ha:a<s.size)(r:Lx.jT)(F2:(Lx.cz s.data.toList a==2)=false)(F5:(Lx.cz s.data.toList a==5)=false)(u6:((s.extract a (a+1)).toList==[34])=false)(u7:((s.extract a (a+1)).toList==[92])=false)(xD:((s.extract a (a+1)).toList==[35])=false)(F3:(Lx.cz s.data.toList a==3)=true)(hr:Lx.lim 1 ⟨1,(s.extract a (a+1)).data.toList⟩ 1=r):
  Calls Tryz.prog 104 #[.pointer (some ⟨L,0,none⟩)] w (bA w L s a p e r):=by
 obtain⟨g1,g2,g3,g4,f1,f2,f3,hL⟩:=eD h;have HM:=hm;have Ee:=ha;unfold maxLen at hm;have H:=hid h;clear h;have a0:(0:Int)≤(a:Int):=by omega
 have a1:(a:Int)<(s.size:Int):=by omega
 have a2:(a:Int)+1≤(s.size:Int):=by omega
 go_enter Tryz.func104,Tryz.ntmps104
 go_wp2_with (go_at_call 134;refine(ng L s a p e _ _ _ (by first|exact H.out.alloc _|exact(H.out.alloc _).drewN _) (by omega) (by omega)).mono ?_;rintro e' w' ⟨rfl,n,rfl⟩)
 all_goals
  refine(uZ L s a p e _ 1 _ _ 1 1 _ _ r hr ((H.out.alloc _).drewN _) rfl rfl rfl).mono ?_;rintro e' w' ⟨k,tx,f,t,b,a',p',e2,rfl,hx,ht,hmn⟩;obtain⟨q0,q1,q2,q3,z0,z1,z2,z3,hg⟩:=af.four (ht.blk ((af.new w _ _).drewN _) (by omega));have HX:=hid hx;have HT:=hid ht;have fU:=hid hmn;clear hx ht hmn;go_wp2_with fail
  (try simp only[Exit.inBlock,Exit.then])
  refine bodyPost_ret (v:=.tuple #[.agg #[.int .i64 k,.string tx,.int .i64 f,.int .i64 t],.bool b]) (by simp[results,Tryz.results104,go_sem,q0,q1,q2,q3]) rfl ?_;exact bA.close hL HX.out HT.out.pG fU.out
theorem Zt(L:Nat)(s:ByteArray)(a:Nat)(p e:Int)(w:World)(h:bu w L s a p e)(hm:s.size≤maxLen)(ha:a<s.size)(r:Lx.jT)(F2:(Lx.cz s.data.toList a==2)=false)(F5:(Lx.cz s.data.toList a==5)=false)(u6:((s.extract a (a+1)).toList==[34])=false)(u7:((s.extract a (a+1)).toList==[92])=false)(xD:((s.extract a (a+1)).toList==[35])=false)(F3:(Lx.cz s.data.toList a==3)=false)(F4:(Lx.cz s.data.toList a==4)=true)(hr:Lx.lim 1 ⟨1,(s.extract a (a+1)).data.toList⟩ 1=r):
  Calls Tryz.prog 104 #[.pointer (some ⟨L,0,none⟩)] w (bA w L s a p e r):=by
 obtain⟨g1,g2,g3,g4,f1,f2,f3,hL⟩:=eD h;have HM:=hm;have Ee:=ha;unfold maxLen at hm;have H:=hid h;clear h;have a0:(0:Int)≤(a:Int):=by omega
 have a1:(a:Int)<(s.size:Int):=by omega
 have a2:(a:Int)+1≤(s.size:Int):=by omega
 go_enter Tryz.func104,Tryz.ntmps104
 go_wp2_with (go_at_call 134;refine(ng L s a p e _ _ _ (by first|exact H.out.alloc _|exact(H.out.alloc _).drewN _) (by omega) (by omega)).mono ?_;rintro e' w' ⟨rfl,n,rfl⟩)
 all_goals
  refine(uZ L s a p e _ 1 _ _ 1 1 _ _ r hr ((H.out.alloc _).drewN _) rfl rfl rfl).mono ?_;rintro e' w' ⟨k,tx,f,t,b,a',p',e2,rfl,hx,ht,hmn⟩;obtain⟨q0,q1,q2,q3,z0,z1,z2,z3,hg⟩:=af.four (ht.blk ((af.new w _ _).drewN _) (by omega));have HX:=hid hx;have HT:=hid ht;have fU:=hid hmn;clear hx ht hmn;go_wp2_with fail
  (try simp only[Exit.inBlock,Exit.then])
  refine bodyPost_ret (v:=.tuple #[.agg #[.int .i64 k,.string tx,.int .i64 f,.int .i64 t],.bool b]) (by simp[results,Tryz.results104,go_sem,q0,q1,q2,q3]) rfl ?_;exact bA.close hL HX.out HT.out.pG fU.out
theorem Zu(L:Nat)(s:ByteArray)(a:Nat)(p e:Int)(w:World)(h:bu w L s a p e)(hm:s.size≤maxLen)(ha:a<s.size)(r:Lx.jT)(F2:(Lx.cz s.data.toList a==2)=false)(F5:(Lx.cz s.data.toList a==5)=false)(u6:((s.extract a (a+1)).toList==[34])=false)(u7:((s.extract a (a+1)).toList==[92])=false)(xD:((s.extract a (a+1)).toList==[35])=false)(F3:(Lx.cz s.data.toList a==3)=false)(F4:(Lx.cz s.data.toList a==4)=false)(hr:Lx.jT.err 0 3=r):
  Calls Tryz.prog 104 #[.pointer (some ⟨L,0,none⟩)] w (bA w L s a p e r):=by
 obtain⟨g1,g2,g3,g4,f1,f2,f3,hL⟩:=eD h;have HM:=hm;have Ee:=ha;unfold maxLen at hm;have H:=hid h;clear h;have a0:(0:Int)≤(a:Int):=by omega
 have a1:(a:Int)<(s.size:Int):=by omega
 have a2:(a:Int)+1≤(s.size:Int):=by omega
 go_enter Tryz.func104,Tryz.ntmps104
 go_wp2_with (go_at_call 134;refine(ng L s a p e _ _ _ (by first|exact H.out.alloc _|exact(H.out.alloc _).drewN _) (by omega) (by omega)).mono ?_;rintro e' w' ⟨rfl,n,rfl⟩)
 all_goals
  refine(og L s a p e _ _ 0 3 _ r hr ((H.out.alloc _).drewN _) rfl rfl).mono ?_;rintro e' w' ⟨k,tx,f,t,b,a',p',e2,rfl,hx,ht,hmn⟩;obtain⟨q0,q1,q2,q3,z0,z1,z2,z3,hg⟩:=af.four (ht.blk ((af.new w _ _).drewN _) (by omega));have HX:=hid hx;have HT:=hid ht;have fU:=hid hmn;clear hx ht hmn;go_wp2_with fail
  (try simp only[Exit.inBlock,Exit.then])
  refine bodyPost_ret (v:=.tuple #[.agg #[.int .i64 k,.string tx,.int .i64 f,.int .i64 t],.bool b]) (by simp[results,Tryz.results104,go_sem,q0,q1,q2,q3]) rfl ?_;exact bA.close hL HX.out HT.out.pG fU.out
theorem Pj(l:List UInt8)(c:UInt8):decide (Lib.indexByte l c<0)=!(l.contains c):=by
 have h1:=Lib.indexByte_ge l c
 by_cases hc:Lib.indexByte l c<0
 ·have h2:=Lib.indexByte_none (l:=l) (c:=c) (by omega)
  have:l.contains c=false:=by
   rw[←Bool.not_eq_true,List.contains_iff_mem,List.mem_iff_getElem?];rintro⟨i,hi⟩;exact h2 i hi
  rw[this];simp[hc]
 ·obtain⟨o,ho⟩:=Int.eq_ofNat_of_zero_le (show 0≤Lib.indexByte l c by omega)
  have h2:=(Lib.indexByte_some ho).1
  have:l.contains c=true:=by
   rw[List.contains_iff_mem,List.mem_iff_getElem?];exact⟨o,h2⟩
  rw[this];simp[hc]
theorem zX(s:ByteArray)(c:UInt8)(x:Int)(hs:s=⟨#[40,41,91,93,123,125,60,62,47,124,46]⟩)(w:World)(hx:x=c.toNat:=by rfl):
  Calls Tryz.prog 95 #[.string s,.int .u8 x] w fun e w'=>(∃i:Int,e=.returned (.int .i64 i)∧decide (i<0)=!(Lx.kF c))∧w'=w:=by
 subst hs hx;refine(Tryz.strings_IndexByte _ _ w).mono ?_;rintro e w' ⟨rfl,rfl⟩;refine⟨⟨_,rfl,?_⟩,rfl⟩;rw[Pj];simp[Lx.kF]
theorem WU(L:Nat)(s:ByteArray)(a m:Nat)(p e:Int)(w:World)(h:bu w L s a p e)(hm:s.size≤140737488355328)(hmd:m=a+1+Lx.mO 3 s.data.toList (a+1))(ha:a+1≤s.size)(r:Lx.jT)(F:((s.extract (a+1) m).toList==[102,101,110,99,101])=false)(hr:Lx.lim 16 ⟨4,(s.extract (a+1) m).data.toList⟩ (m-a)=r):
  Calls Tryz.prog 138 #[.pointer (some ⟨L,0,none⟩)] w (bA w L s a p e r):=by
 obtain⟨g1,g2,g3,g4,f1,f2,f3,hL⟩:=eD h;have HM:s.size≤maxLen:=by unfold maxLen;omega
 have H:=hid h;clear h;have hle:=Lx.vM 3 s.data.toList (a+1);have hll:s.data.toList.length=s.size:=by simp
 rw[hll]at hle;have HD:=hid hmd;have am:a+1≤m:=by omega
 have ms:m≤s.size:=by omega
 clear hmd hle hll;have e1:((a:Int)+1)≤(m:Int):=by omega
 have e2:(0:Int)≤(a:Int)+1:=by omega
 have e3:(m:Int)≤(s.size:Int):=by omega
 go_enter Tryz.func138,Tryz.ntmps138;go_wp2_with fail
 refine(rF L s a p e _ 3 _ (H.out.alloc _) (by omega) (by omega) HM).mono ?_;rintro e' w' ⟨rfl,n1,rfl⟩;rw[show((a:Int)+1).toNat=a+1 from by omega,←HD.out];go_wp2
 go_quiet (fail)
 go_wp2_with fail
 refine(uZ L s a p e _ 4 _ _ (m-a) 16 _ _ r hr ((H.out.alloc _).drewN _) rfl (by omega) rfl).mono ?_;rintro e' w' ⟨k,tx,f,t,b,a',p',e2,rfl,hx,ht,hmn⟩;obtain⟨q0,q1,q2,q3,z0,z1,z2,z3,hg⟩:=af.four (ht.blk ((af.new w _ _).drewN _) (by omega));have HX:=hid hx;have HT2:=hid ht;have fU:=hid hmn;clear hx ht hmn;go_wp2_with fail
 (try simp only[Exit.inBlock,Exit.then])
 refine bodyPost_ret (v:=.tuple #[.agg #[.int .i64 k,.string tx,.int .i64 f,.int .i64 t],.bool b]) (by simp[results,Tryz.results138,go_sem,q0,q1,q2,q3]) rfl ?_;exact bA.close hL HX.out HT2.out.pG fU.out
theorem WV(L:Nat)(s:ByteArray)(a m:Nat)(p e:Int)(w:World)(h:bu w L s a p e)(hm:s.size≤140737488355328)(hmd:m=a+1+Lx.mO 3 s.data.toList (a+1))(ha:a+1≤s.size)(r:Lx.jT)(F:((s.extract (a+1) m).toList==[102,101,110,99,101])=true)(hs:s.size<m+2)(hr:Lx.jT.err 0 3=r):
  Calls Tryz.prog 138 #[.pointer (some ⟨L,0,none⟩)] w (bA w L s a p e r):=by
 obtain⟨g1,g2,g3,g4,f1,f2,f3,hL⟩:=eD h;have HM:s.size≤maxLen:=by unfold maxLen;omega
 have H:=hid h;clear h;have hle:=Lx.vM 3 s.data.toList (a+1);have hll:s.data.toList.length=s.size:=by simp
 rw[hll]at hle;have HD:=hid hmd;have am:a+1≤m:=by omega
 have ms:m≤s.size:=by omega
 clear hmd hle hll;have e1:((a:Int)+1)≤(m:Int):=by omega
 have e2:(0:Int)≤(a:Int)+1:=by omega
 have e3:(m:Int)≤(s.size:Int):=by omega
 have S1:decide ((s.size:Int)<(m:Int)+2)=true:=by simp;omega
 go_enter Tryz.func138,Tryz.ntmps138;go_wp2_with fail
 refine(rF L s a p e _ 3 _ (H.out.alloc _) (by omega) (by omega) HM).mono ?_;rintro e' w' ⟨rfl,n1,rfl⟩;rw[show((a:Int)+1).toNat=a+1 from by omega,←HD.out];go_wp2
 go_quiet (fail)
 go_wp2_with fail
 refine(og L s a p e _ _ 0 3 _ r hr ((H.out.alloc _).drewN _) rfl rfl).mono ?_;rintro e' w' ⟨k,tx,f,t,b,a',p',e2,rfl,hx,ht,hmn⟩;obtain⟨q0,q1,q2,q3,z0,z1,z2,z3,hg⟩:=af.four (ht.blk ((af.new w _ _).drewN _) (by omega));have HX:=hid hx;have HT2:=hid ht;have fU:=hid hmn;clear hx ht hmn;go_wp2_with fail
 (try simp only[Exit.inBlock,Exit.then])
 refine bodyPost_ret (v:=.tuple #[.agg #[.int .i64 k,.string tx,.int .i64 f,.int .i64 t],.bool b]) (by simp[results,Tryz.results138,go_sem,q0,q1,q2,q3]) rfl ?_;exact bA.close hL HX.out HT2.out.pG fU.out
theorem Zv(L:Nat)(s:ByteArray)(a m:Nat)(p e:Int)(w:World)(h:bu w L s a p e)(hm:s.size≤140737488355328)(hmd:m=a+1+Lx.mO 3 s.data.toList (a+1))(ha:a+1≤s.size)(r:Lx.jT)(F:((s.extract (a+1) m).toList==[102,101,110,99,101])=true)(hs:m+1<s.size)(T1:Lx.kF (s[m]'(Nat.lt_of_succ_lt hs))=false)(hr:Lx.jT.err 0 3=r):
  Calls Tryz.prog 138 #[.pointer (some ⟨L,0,none⟩)] w (bA w L s a p e r):=by
 obtain⟨g1,g2,g3,g4,f1,f2,f3,hL⟩:=eD h;have HM:s.size≤maxLen:=by unfold maxLen;omega
 have H:=hid h;clear h;have hle:=Lx.vM 3 s.data.toList (a+1);have hll:s.data.toList.length=s.size:=by simp
 rw[hll]at hle;have HD:=hid hmd;have am:a+1≤m:=by omega
 have ms:m≤s.size:=by omega
 clear hmd hle hll;have e1:((a:Int)+1)≤(m:Int):=by omega
 have e2:(0:Int)≤(a:Int)+1:=by omega
 have e3:(m:Int)≤(s.size:Int):=by omega
 have S1:decide ((s.size:Int)<(m:Int)+2)=false:=by simp;omega
 have S2:(m:Int)<(s.size:Int):=by omega
 have S3:(0:Int)≤(m:Int):=by omega
 go_enter Tryz.func138,Tryz.ntmps138;go_wp2_with fail
 refine(rF L s a p e _ 3 _ (H.out.alloc _) (by omega) (by omega) HM).mono ?_;rintro e' w' ⟨rfl,n1,rfl⟩;rw[show((a:Int)+1).toNat=a+1 from by omega,←HD.out];go_wp2
 go_quiet (fail)
 go_wp2_with fail
 refine(zX _ _ _ rfl _).mono ?_;rintro e' w' ⟨⟨i1,rfl,hi1⟩,rfl⟩;have HI1:decide (i1<0)=true:=by rw[hi1,T1];rfl
 clear hi1 T1;go_wp2_with fail
 refine(og L s a p e _ _ 0 3 _ r hr ((H.out.alloc _).drewN _) rfl rfl).mono ?_;rintro e' w' ⟨k,tx,f,t,b,a',p',e2,rfl,hx,ht,hmn⟩;obtain⟨q0,q1,q2,q3,z0,z1,z2,z3,hg⟩:=af.four (ht.blk ((af.new w _ _).drewN _) (by omega));have HX:=hid hx;have HT2:=hid ht;have fU:=hid hmn;clear hx ht hmn;go_wp2_with fail
 (try simp only[Exit.inBlock,Exit.then])
 refine bodyPost_ret (v:=.tuple #[.agg #[.int .i64 k,.string tx,.int .i64 f,.int .i64 t],.bool b]) (by simp[results,Tryz.results138,go_sem,q0,q1,q2,q3]) rfl ?_;exact bA.close hL HX.out HT2.out.pG fU.out
theorem Zw(L:Nat)(s:ByteArray)(a m:Nat)(p e:Int)(w:World)(h:bu w L s a p e)(hm:s.size≤140737488355328)(hmd:m=a+1+Lx.mO 3 s.data.toList (a+1))(ha:a+1≤s.size)(r:Lx.jT)(F:((s.extract (a+1) m).toList==[102,101,110,99,101])=true)(hs:m+1<s.size)(T1:Lx.kF (s[m]'(Nat.lt_of_succ_lt hs))=true)(T2:Lx.kF (s[m+1]'hs)=false)(hr:Lx.jT.err 0 3=r):
  Calls Tryz.prog 138 #[.pointer (some ⟨L,0,none⟩)] w (bA w L s a p e r):=by
 obtain⟨g1,g2,g3,g4,f1,f2,f3,hL⟩:=eD h;have HM:s.size≤maxLen:=by unfold maxLen;omega
 have H:=hid h;clear h;have hle:=Lx.vM 3 s.data.toList (a+1);have hll:s.data.toList.length=s.size:=by simp
 rw[hll]at hle;have HD:=hid hmd;have am:a+1≤m:=by omega
 have ms:m≤s.size:=by omega
 clear hmd hle hll;have e1:((a:Int)+1)≤(m:Int):=by omega
 have e2:(0:Int)≤(a:Int)+1:=by omega
 have e3:(m:Int)≤(s.size:Int):=by omega
 have S1:decide ((s.size:Int)<(m:Int)+2)=false:=by simp;omega
 have S2:(m:Int)<(s.size:Int):=by omega
 have S3:(0:Int)≤(m:Int):=by omega
 have S4:(m:Int)+1<(s.size:Int):=by omega
 go_enter Tryz.func138,Tryz.ntmps138;go_wp2_with fail
 refine(rF L s a p e _ 3 _ (H.out.alloc _) (by omega) (by omega) HM).mono ?_;rintro e' w' ⟨rfl,n1,rfl⟩;rw[show((a:Int)+1).toNat=a+1 from by omega,←HD.out];go_wp2
 go_quiet (fail)
 go_wp2_with fail
 refine(zX _ _ _ rfl _).mono ?_;rintro e' w' ⟨⟨i1,rfl,hi1⟩,rfl⟩;have HI1:decide (i1<0)=false:=by rw[hi1,T1];rfl
 clear hi1 T1;go_wp2_with fail
 refine(zX _ _ _ rfl _).mono ?_;rintro e' w' ⟨⟨i2,rfl,hi2⟩,rfl⟩;have HI2:decide (i2<0)=true:=by rw[hi2,T2];rfl
 clear hi2 T2;go_wp2_with fail
 refine(og L s a p e _ _ 0 3 _ r hr ((H.out.alloc _).drewN _) rfl rfl).mono ?_;rintro e' w' ⟨k,tx,f,t,b,a',p',e2,rfl,hx,ht,hmn⟩;obtain⟨q0,q1,q2,q3,z0,z1,z2,z3,hg⟩:=af.four (ht.blk ((af.new w _ _).drewN _) (by omega));have HX:=hid hx;have HT2:=hid ht;have fU:=hid hmn;clear hx ht hmn;go_wp2_with fail
 (try simp only[Exit.inBlock,Exit.then])
 refine bodyPost_ret (v:=.tuple #[.agg #[.int .i64 k,.string tx,.int .i64 f,.int .i64 t],.bool b]) (by simp[results,Tryz.results138,go_sem,q0,q1,q2,q3]) rfl ?_;exact bA.close hL HX.out HT2.out.pG fU.out
theorem WW(L:Nat)(s:ByteArray)(a m:Nat)(p e:Int)(w:World)(h:bu w L s a p e)(hm:s.size≤140737488355328)(hmd:m=a+1+Lx.mO 3 s.data.toList (a+1))(ha:a+1≤s.size)(r:Lx.jT)(F:((s.extract (a+1) m).toList==[102,101,110,99,101])=true)(hs:m+1<s.size)(T1:Lx.kF (s[m]'(Nat.lt_of_succ_lt hs))=true)(T2:Lx.kF (s[m+1]'hs)=true)(hr:Lx.lim 2 ⟨5,(s.extract m (m+2)).data.toList⟩ (m+2-a)=r):
  Calls Tryz.prog 138 #[.pointer (some ⟨L,0,none⟩)] w (bA w L s a p e r):=by
 obtain⟨g1,g2,g3,g4,f1,f2,f3,hL⟩:=eD h;have HM:s.size≤maxLen:=by unfold maxLen;omega
 have H:=hid h;clear h;have hle:=Lx.vM 3 s.data.toList (a+1);have hll:s.data.toList.length=s.size:=by simp
 rw[hll]at hle;have HD:=hid hmd;have am:a+1≤m:=by omega
 have ms:m≤s.size:=by omega
 clear hmd hle hll;have e1:((a:Int)+1)≤(m:Int):=by omega
 have e2:(0:Int)≤(a:Int)+1:=by omega
 have e3:(m:Int)≤(s.size:Int):=by omega
 have S1:decide ((s.size:Int)<(m:Int)+2)=false:=by simp;omega
 have S2:(m:Int)<(s.size:Int):=by omega
 have S3:(0:Int)≤(m:Int):=by omega
 have S4:(m:Int)+1<(s.size:Int):=by omega
 have S5:(m:Int)+2≤(s.size:Int):=by omega
 go_enter Tryz.func138,Tryz.ntmps138;go_wp2_with fail
 refine(rF L s a p e _ 3 _ (H.out.alloc _) (by omega) (by omega) HM).mono ?_;rintro e' w' ⟨rfl,n1,rfl⟩;rw[show((a:Int)+1).toNat=a+1 from by omega,←HD.out];go_wp2
 go_quiet (fail)
 go_wp2_with fail
 refine(zX _ _ _ rfl _).mono ?_;rintro e' w' ⟨⟨i1,rfl,hi1⟩,rfl⟩;have HI1:decide (i1<0)=false:=by rw[hi1,T1];rfl
 clear hi1 T1;go_wp2_with fail
 refine(zX _ _ _ rfl _).mono ?_;rintro e' w' ⟨⟨i2,rfl,hi2⟩,rfl⟩;have HI2:decide (i2<0)=false:=by rw[hi2,T2];rfl
 clear hi2 T2;go_wp2_with fail
 refine(uZ L s a p e _ 5 _ _ (m+2-a) 2 _ _ r hr ((H.out.alloc _).drewN _) rfl (by omega) rfl).mono ?_;rintro e' w' ⟨k,tx,f,t,b,a',p',e2,rfl,hx,ht,hmn⟩;obtain⟨q0,q1,q2,q3,z0,z1,z2,z3,hg⟩:=af.four (ht.blk ((af.new w _ _).drewN _) (by omega));have HX:=hid hx;have HT2:=hid ht;have fU:=hid hmn;clear hx ht hmn;go_wp2_with fail
 (try simp only[Exit.inBlock,Exit.then])
 refine bodyPost_ret (v:=.tuple #[.agg #[.int .i64 k,.string tx,.int .i64 f,.int .i64 t],.bool b]) (by simp[results,Tryz.results138,go_sem,q0,q1,q2,q3]) rfl ?_;exact bA.close hL HX.out HT2.out.pG fU.out
end
end Go.Proofs.YtcgbccfpcgaikaaGreatDoor
