/- parts, packed by a program -/
import Derived.Test.YtgimmiaenkeohaaKurganQueuesP5
set_option maxRecDepth 100000
set_option maxHeartbeats 16000000
set_option linter.all false
namespace Go.Proofs.Ytgimmiaenkeohaa
section
open Go.RowKit Go.ChangeShapes Go.WideShapes Go.ChangeAt
theorem Vt (bd:Nat->Int)(L:List (List Nat))(i s:Nat) : Zo bd (L.set i (s::L.getD i []))=(Zo bd L).set i ((bd s,(s:Int))::(Zo bd L).getD i []):=by
 rw[Yb,ZD]
 rfl
theorem U7 {L:List (List Nat)}{i s:Nat}(hi:i<L.length) : ((L.set i (s::L.getD i [])).flatten).Perm (s::L.flatten):=by
 have h:=Xs (ls:=Zo (fun _=>0) L) (x:=(0,(s:Int))) (i:=i) (by rw[Yk];exact hi);rw[<-Vt (fun _=>0) L i s] at h;have:=h.map (fun p=>p.2.toNat);rw[ZZ,List.map_cons,ZZ] at this
 simpa using this
theorem Ur {bd:Nat->Int}{L L':List (List Nat)}{s:Nat}{l:List Nat}(hl:L.length=64)(h1:L.getD 1 []=s::l)(he:Zo bd L'=Zx 64 ((Zo bd L).set 1 (itL bd l)) 1) : (L.flatten).Perm (s::L'.flatten):=by
 have h:=Wk (ls:=Zo bd L) (p:=(bd s,(s:Int))) (l:=itL bd l) (n:=32) (by rw[Yk];exact hl) (by omega) (by rw[ZD,h1];rfl);rw[show 2*32=64 from rfl,<-he] at h;have:=h.map (fun p=>p.2.toNat);rw[ZZ,List.map_cons,ZZ] at this
 simpa using this
abbrev TH : List TypeId:=[62,3]
theorem U8 {base gm gc gp gn go gh n s:Nat}{w:World}{bd:Nat->Int}{F O:List Nat}{L:List (List Nat)}(g:GB base gm gc gp gn go gh)(hn:n<=31)(h:SM base w gm gc gp gn go gh n bd [s] F O L)(b:Int) :
  Calls Try.prog 13 #[.pointer (some ⟨gp,0,none⟩),.int .i64 (s:Int),.agg #[.slice none 0 0,.int .i64 b]] w fun e w'=>e=.returned (.tuple #[])/\SM base w' gm gc gp gn go gh n (fun t=>if t=s then b else bd t) [s] F O L/\ModT base [45] w w':=by
 obtain⟨e1,e2,e3⟩:=h.held;obtain⟨M,o,nv,h1,h2,h3,h4,h5,h6,h7⟩:=h;refine(VC base gm gc gp gn go ⟨0,n,nv,[o]⟩ w h2 s e1 (by show n<=100000;omega) [] b none 0 (.inl rfl) (by simp)).mono fun e w' q=>?_
 obtain⟨q1,⟨A',c',q2,q3⟩,q4⟩:=q;have m4:ModT base [45] w w':=Mod.mono q4 fun i _ e=>by subst e;exact⟨g.p.2.1,_,_,h2.nd,by decide⟩
 refine⟨q1,⟨M,o,_,?_,q2,Blk.modT h3 m4 (by decide),h4,h5,h6,fun t ht=>?_⟩,m4⟩
 ·obtain⟨⟨st,k,c,o',u,d,m1⟩,m2⟩:=h1
  exact⟨⟨st,k,c,o',u,d,m1.modT m4 (by decide)⟩,m2.modT m4 (by decide)⟩
 ·have hl:nv.length=n*2:=h2.ln
  have ht:t<n:=ht;show ((nv.set (s*2) _).set (s*2+1) _)[t*2+1]?=_
  by_cases e:t=s
  ·subst e
   rw[List.getElem?_set_self (by rw[List.length_set];omega)];simp
  ·rw[List.getElem?_set_ne (by omega),List.getElem?_set_ne (by omega)]
   simp only[if_neg e];exact h7 t ht
theorem U9 {base gm gc gp gn go gh n s:Nat}{wA w:World}{bd:Nat->Int}{F O:List Nat}{L:List (List Nat)}(g:GB base gm gc gp gn go gh)(hn:n<=31)(hbA:base<=wA.heap.size)(h:SM base wA gm gc gp gn go gh n bd [s] F O L)(X:Ext wA w)(ga:Nat)(hga:wA.heap.size<=ga)(A:Option Addr)(c:Nat)(ds:List Int)(HA:Zk w ga gh (Ym 0 (s:Int) true ⟨A,c,ZE ds⟩ 0))(OA:OwI w wA.heap.size A c (ZE ds)) :
  Calls Try.prog 16 #[.pointer (some ⟨ga,0,none⟩)] w fun e w'=>e=.returned (.tuple #[])/\((∃ a,Zk w' ga gh a/\a.fits=false/\SM base w' gm gc gp gn go gh n bd [s] F O L)\/(∃ a leaf,Zk w' ga gh a/\a.fits=true/\ZH (Zo bd L) (bd s) 32 (ZE ds)=some leaf/\SM base w' gm gc gp gn go gh n bd [] F O (L.set (Zu (Zo bd L) (bd s) leaf) (s::L.getD (Zu (Zo bd L) (bd s) leaf) []))))/\ModT base TH wA w':=by
 obtain⟨e1,e2,e3⟩:=h.held;obtain⟨M,o,nv,h1,h2,h3,h4,h5,h6,h7⟩:=h;have hq:(ZE ds).length<=4:=by
  unfold ZE;split
  ·simp
  ·exact List.length_take_le _ _
 have toT:∀ w',Mod (PZ ga gm gc wA.heap.size) wA w'->ModT base TH wA w':=fun w' m=>Mod.mono m fun i hi e=>by
  obtain⟨⟨st,k,c,o',u,d,m1⟩,m2⟩:=h1;rcases e with(e | e | e) | e
  ·omega
  ·subst e;exact⟨g.m.1,_,_,m1,by decide⟩
  ·subst e;exact⟨g.m.2,_,_,m2,by decide⟩
  ·omega
 refine Xu ga ((ZE ds).length+67) (by omega) (fun w'=>((∃ a,Zk w' ga gh a/\a.fits=false/\SM base w' gm gc gp gn go gh n bd [s] F O L)\/(∃ a leaf,Zk w' ga gh a/\a.fits=true/\ZH (Zo bd L) (bd s) 32 (ZE ds)=some leaf/\SM base w' gm gc gp gn go gh n bd [] F O (L.set (Zu (Zo bd L) (bd s) leaf) (s::L.getD (Zu (Zo bd L) (bd s) leaf) []))))/\ModT base TH wA w') (fun W W' q x=>?_) w (VT base gm gc gp gn go gh ga n wA.heap.size ⟨0,n,nv,[o]⟩ bd rfl (by omega) h7 F wA M L s e1 h4 e3 (fun k o' ho b hb=>((h2.oi k o' ho).1.lt b hb).2) h1.lt.2 A c (ZE ds) hq _ (fun w' a' k1 k2 k3 k4 k5=>?_) (fun w' M' a' leaf k1 k2 k3 k4 k5 k6=>?_) (ZE ds).length 0 _ w (by omega) ⟨h1.ext X,h2.ext X,Blk.ext h3 X,HA⟩ rfl rfl rfl rfl rfl OA X.size (Mod.of_ext X) rfl)
 ·obtain⟨q1,q2⟩:=q
  refine⟨q1.imp (fun q=>?_) (fun q=>?_),q2.ext x⟩
  ·obtain⟨a,q1,q2,q3⟩:=q
   exact⟨a,Blk.ext q1 x,q2,q3.ext x⟩
  ·obtain⟨a,leaf,q1,q2,q3,q4⟩:=q
   exact⟨a,leaf,Blk.ext q1 x,q2,q3,q4.ext x⟩
 ·exact⟨.inl ⟨a',k1.a,k3,M,o,nv,k1.m,k1.p,k1.h,h4,h5,h6,h7⟩,toT w' k5⟩
 ·refine⟨.inr ⟨a',leaf,k2.a,k4,k1,M',o,nv,k2.m,k2.p,k2.h,k5,h5,?_,h7⟩,toT w' k6⟩
  have hlf:leaf<64:=by
   have:=Xj (Zo bd L) (bd s) 32 (by omega) (ZE ds) leaf k1;omega
  have hpb:=Yr (Zo bd L) (bd s) (leaf:=leaf) (by have:=XF k1;omega);have:=U7 (L:=L) (i:=Zu (Zo bd L) (bd s) leaf) (s:=s) (by rw[h4.ll];omega);refine((this.append_left (F++O)).trans ?_).trans h6;simp only[List.nil_append,List.singleton_append,List.cons_append];exact List.perm_middle
theorem Qp {base gm gc gp gn go gh n s:Nat}{l:List Nat}{wA w:World}{bd:Nat->Int}{F O:List Nat}{L:List (List Nat)}(g:GB base gm gc gp gn go gh)(hn:n<=31)(h:SM base wA gm gc gp gn go gh n bd [] F O L)(hl:L.getD 1 []=s::l)(X:Ext wA w)(ga:Nat)(hga:wA.heap.size<=ga)(HA:Zk w ga gh (Ym 4 (-1) false ⟨none,0,[]⟩ 1)) :
  Calls Try.prog 16 #[.pointer (some ⟨ga,0,none⟩)] w fun e w'=>e=.returned (.tuple #[])/\(∃ a L',Zk w' ga gh a/\a.ph=15/\a.push=false/\a.slot=(s:Int)/\SM base w' gm gc gp gn go gh n bd [s] F O L'/\Zo bd L'=Zx 64 ((Zo bd L).set 1 (itL bd l)) 1)/\ModT base TH wA w':=by
 obtain⟨M,o,nv,h1,h2,h3,h4,h5,h6,h7⟩:=h;have toT:∀ w',Mod (PT ga gm gc) wA w'->ModT base TH wA w':=fun w' m=>Mod.mono m fun i hi e=>by
  obtain⟨⟨st,k,c,o',u,d,m1⟩,m2⟩:=h1;rcases e with e | e | e
  ·omega
  ·subst e;exact⟨g.m.1,_,_,m1,by decide⟩
  ·subst e;exact⟨g.m.2,_,_,m2,by decide⟩
 refine Xu ga 46 (by omega) (fun w'=>(∃ a L',Zk w' ga gh a/\a.ph=15/\a.push=false/\a.slot=(s:Int)/\SM base w' gm gc gp gn go gh n bd [s] F O L'/\Zo bd L'=Zx 64 ((Zo bd L).set 1 (itL bd l)) 1)/\ModT base TH wA w') (fun W W' q x=>?_) w (Up base gm gc gp gn go gh ga n ⟨0,n,nv,[o]⟩ bd rfl (by omega) h7 F w M _ L s l ⟨h1.ext X,h2.ext X,Blk.ext h3 X,HA⟩ rfl rfl rfl rfl h4 hl _ (fun w' M' a' L' k1 k2 k3 k4 k5 k6 k7=>?_))
 ·obtain⟨⟨a,L',q1,q2,q3,q4,q5,q6⟩,q7⟩:=q
  exact⟨⟨a,L',Blk.ext q1 x,q2,q3,q4,q5.ext x,q6⟩,q7.ext x⟩
 ·refine⟨⟨a',L',k1.a,k2,k4,k3,⟨M',o,nv,k1.m,k1.p,k1.h,k5,h5,?_,h7⟩,k6⟩,toT w' ((Mod.of_ext X).tr k7)⟩
  have:=Ur h4.ll hl k6;refine(?_:List.Perm _ _).trans h6;refine(List.Perm.trans ?_ (this.symm.append_left (F++O)));simp only[List.nil_append,List.singleton_append,List.cons_append];exact List.perm_middle.symm
def QH : Value->Nat
 | .slice _ n _=>n
 | _=>0
def Y3 (k:Nat)(w:World)(e:Ending)(w':World) : Prop:=∃ (A:Option Addr) (c:Nat),e=.returned (.slice A k c)/\Ext w w'
theorem Us (bs gm gc gp gn go n:Nat)(nv:List Value)(o:OwL)(w:World)(H:PoolR w bs gm gc gp gn go ⟨0,n,nv,[o]⟩)(ho:o.xs.length<=2^44) :
  Calls Try.prog 25 #[.pointer (some ⟨gp,0,none⟩),.int .i64 0] w (Y3 o.xs.length w):=by
 have p3:w.cell? ⟨gp,3,none⟩=some (.slice (some ⟨go,0,none⟩) 1 1):=H.p.cell 3;have o0:w.cell? ⟨go,0,none⟩=some (.slice o.A o.xs.length o.c):=H.ow.cell 0;have CL:=Hd (fun(W:World) (X:Ext w W)=>YN o.A o.c o.xs W ((H.oi 0 o rfl).1.read.ext X) ho);clear H;obtain⟨A,c,xs⟩:=o;simp only at *;go_enter Try.func25,Try.ntmps25;go_wp2_with (go_quiet (fail));refine(CL.out _ XI).mono ?_;rintro e w1 ⟨A1,c1,rfl,o1,x1⟩;have X1:=Hd (Ext.tr (a:=w) XI x1);clear x1 o1 CL;go_wp2_with (go_quiet (fail));go_ret;exact⟨A1,c1,rfl,X1.out.tr XI⟩
theorem WT (bs gm gc gp gn go n:Nat)(nv:List Value)(o:OwL)(M:List Int)(F:List Nat)(w:World)(H:PoolR w bs gm gc gp gn go ⟨0,n,nv,[o]⟩)(HM:MemB w gm gc M)(hn:n<=4096)(x:Int)(q1:M[0]?=some x)(q2:Zl x)(q3:ChainM M 1 (pla x) F)(hF:∀ s∈F,s<n)(hl:F.length<=n) :
  Calls Try.prog 24 #[.pointer (some ⟨gp,0,none⟩)] w (Y3 F.length w):=by
 have PE:=fun(W:World) (X:Ext w W)=>Wp gm gc M 0 x W (HM.ext X) q1
 rw[show ((0:Nat):Int)=0 from rfl] at PE;replace PE:=Hd PE;have UN:=Hd (fun(W:World)=>Zn x W q2);have HP:=Hd H;have HM:=Hd HM;have zp:=H.p.lt;have p0:w.cell? ⟨gp,0,none⟩=some (.pointer (some ⟨gm,0,none⟩)):=H.p.cell 0;have p1:w.cell? ⟨gp,1,none⟩=some (.int .i64 0):=H.p.cell 1;have p2:w.cell? ⟨gp,2,none⟩=some (.slice (some ⟨gn,0,none⟩) n n):=H.p.cell 2;replace q3:=Hd q3;clear H q1 q2;generalize pla x=at0 at *;go_enter Try.func24,Try.ntmps24;go_upto_region 3 with(fail);refine wp_region_any (by kernel_rfl) ?_
 change wpAny _ _ _ _ _ _ _ (World.drew _)
 have k0:w.drew.cell? ⟨gp,0,none⟩=some (.pointer (some ⟨gm,0,none⟩)):=p0;have k1:w.drew.cell? ⟨gp,1,none⟩=some (.int .i64 0):=p1;refine Za (i:=0) (op:=Op.move (Operand.tmp 0)) (t:=29) (d:=some 9) (v:=_) rfl (by decide +kernel) (fun _ _ _ h=>h) (by intro _;unfold Zb;go_simp;try with_reducible rfl) ?_
 try simp only[lay]
 refine Za (i:=1) (op:=Op.nilCheck (Operand.tmp 9)) (t:=0) (d:=some 10) (v:=_) rfl (by decide +kernel) (fun _ _ _ h=>h) (by intro _;unfold Zb;go_simp;try with_reducible rfl) ?_
 try simp only[lay]
 refine Za (i:=2) (op:=Op.fieldAddr 66 (Operand.tmp 10) 0) (t:=0) (d:=some 11) (v:=_) rfl (by decide +kernel) (fun _ _ _ h=>h) (by intro _;unfold Zb;go_simp;try with_reducible rfl) ?_
 try simp only[lay]
 refine Za (i:=4) (op:=Op.move (Operand.tmp 0)) (t:=29) (d:=some 13) (v:=_) rfl (by decide +kernel) (fun _ _ _ h=>h) (by intro _;unfold Zb;go_simp;try with_reducible rfl) ?_
 try simp only[lay]
 refine Za (i:=5) (op:=Op.nilCheck (Operand.tmp 13)) (t:=0) (d:=some 14) (v:=_) rfl (by decide +kernel) (fun _ _ _ h=>h) (by intro _;unfold Zb;go_simp;try with_reducible rfl) ?_
 try simp only[lay]
 refine Za (i:=6) (op:=Op.fieldAddr 66 (Operand.tmp 14) 1) (t:=0) (d:=some 15) (v:=_) rfl (by decide +kernel) (fun _ _ _ h=>h) (by intro _;unfold Zb;go_simp;try with_reducible rfl) ?_
 try simp only[lay]
 refine Zj (n:=7) [(3,some 12),(7,some 16)] (fun | 3=>.pointer (some ⟨gm,0,none⟩) | 7=>.int .i64 0 | _=>undef) #[true,true,true,true,true,true,true,true,false,false,false,false,false,false,false] (by decide +kernel) ?_ ?_
 ·intro pS hpm uS hD K hK
  simp only[List.mem_cons,List.not_mem_nil,or_false] at hpm;rcases hpm with rfl | rfl
  ·exact Ze (T:=24) (x:=Operand.tmp 11) (t:=24) (d:=some 12) rfl (.pointer (some ⟨gp,0,none⟩)) (by kernel_rfl) (.pointer (some ⟨gm,0,none⟩)) (by go_simp) hK
  ·exact Ze (T:=3) (x:=Operand.tmp 15) (t:=3) (d:=some 16) rfl (.pointer (some ⟨gp,1,none⟩)) (by kernel_rfl) (.int .i64 0) (by go_simp) hK
 simp only[Zc,Act.put,List.setIfInBounds_toArray,List.set_cons_zero,List.set_cons_succ];refine Zd 8 (by decide +kernel) (Zh (f:=45) (xs:=#[Operand.tmp 12,Operand.tmp 16]) (ts:=#[24,3]) (t:=3) (d:=some 17) rfl #[.pointer (some ⟨gm,0,none⟩),.int .i64 0] (by go_simp) (by kernel_rfl) _ (PE.out _ (Ext.rf _).drew) ?_);rintro e w2 ⟨rfl,rfl⟩;refine⟨_,rfl,?_⟩
 try simp only[lay]
 refine Zd 9 (by decide +kernel) (Zh (f:=44) (xs:=#[Operand.tmp 17]) (ts:=#[3]) (t:=90) (d:=some 18) rfl #[.int .i64 x] (by go_simp) (by kernel_rfl) _ (UN.out _) ?_);rintro e w3 ⟨rfl,x3⟩;have X3:=Hd (Ext.tr (Ext.rf w).drew x3);clear x3 UN PE k0 k1;refine⟨_,rfl,?_⟩
 try simp only[lay]
 refine Za (i:=10) (op:=Op.move (Operand.tmp 18)) (t:=90) (d:=some 8) (v:=_) rfl (by decide +kernel) (fun _ _ _ h=>h) (by intro _;unfold Zb;go_simp;try with_reducible rfl) ?_
 try simp only[lay]
 refine Za (i:=11) (op:=Op.extract (Operand.tmp 8) 0) (t:=3) (d:=some 19) (v:=_) rfl (by decide +kernel) (fun _ _ _ h=>h) (by intro _;unfold Zb;go_simp;try with_reducible rfl) ?_
 try simp only[lay]
 refine Za (i:=12) (op:=Op.extract (Operand.tmp 8) 1) (t:=3) (d:=some 20) (v:=_) rfl (by decide +kernel) (fun _ _ _ h=>h) (by intro _;unfold Zb;go_simp;try with_reducible rfl) ?_
 try simp only[lay]
 refine Za (i:=13) (op:=Op.assign (Operand.tmp 19)) (t:=3) (d:=some 3) (v:=_) rfl (by decide +kernel) (fun _ _ _ h=>h) (by intro _;unfold Zb;go_simp;try with_reducible rfl) ?_
 try simp only[lay]
 refine Za (i:=14) (op:=Op.assign (Operand.tmp 20)) (t:=3) (d:=some 4) (v:=_) rfl (by decide +kernel) (fun _ _ _ h=>h) (by intro _;unfold Zb;go_simp;try with_reducible rfl) ?_
 try simp only[lay]
 refine wpAny_done (by kernel_rfl) ?_ _;go_simp;go_wp2_with (fail);go_loopw [4,5] (fun v4 v5 wr=>∃ (y:Int) (acc R:List Nat) (A:Option Addr) (c:Nat),v4=.int .i64 y/\v5=.slice A (Zq acc).length c/\OwI wr w.heap.size A c (Zq acc)/\Hid (ChainM M 1 y R)/\acc.length+R.length=F.length/\Hid (∀ s∈R,s<n)/\Hid (Ext w wr)) (fun _ v _=>F.length-QH v)
 case atStart=>exact⟨at0,[],F,none,0,rfl,rfl,OwI.nil _ _,q3,by simp,Hd hF,X3⟩
 case round =>
  clear q3 X3 hF;obtain⟨y,acc,R,A,c,rfl,rfl,ho,hC,hln,hR,hX⟩:=hrel;have zp':gp<wr.heap.size:=by have:=hX.out.size;omega
  have r0:=Zf hX.out zp p0;have r1:=Zf hX.out zp p1;have r2:=Zf hX.out zp p2;have hal:(Zq acc).length=acc.length:=Zr acc
  cases R with
  | nil =>
   obtain rfl:y=-1:=hC.out;have hfl:(Zq acc).length=F.length:=by rw[hal];simpa using hln
   rw[hfl];clear hal hln hC hR ho;go_wp2_with (go_quiet (fail));go_ret;exact⟨A,c,rfl,hX.out.tr XI⟩
  | cons s R' =>
   obtain⟨hy,z,hz,hC'⟩:=hC.out;subst hy;have hs:s<n:=hR.out s (by simp);rw[List.length_cons] at hln;replace hC':=Hd hC';have e1:(s:Int)>=0:=by omega
   have e2:((Zq acc).length:Int)<=(n:Int):=by omega
   have hil:(Zq acc).length<=4096:=by omega
   have hia:Zq (acc++[s])=Zq acc++[(s:Int)]:=by simp[Zq]
   replace hia:=Hd hia;have hsz:w.heap.size<=wr.heap.size:=hX.out.size;have LI:=fun(W:World) (X:Ext w W)=>Yp bs gm gc gp gn go ⟨0,n,nv,[o]⟩ W (HP.out.ext X) (s:Int) (by omega) (by simp)
   simp only[show ((0:Nat):Int)+1+(s:Int)=((1+s:Nat):Int) by omega] at LI;replace LI:=Hd LI;have PE:=Hd (fun(W:World) (X:Ext w W)=>Wp gm gc M (1+s) z W (HM.out.ext X) hz);generalize ((1+s:Nat):Int)=ad at *;clear hC hz;generalize hxs:Zq acc=xs at *;replace hxs:=Hd hxs;replace hal:=Hd hal;go_upto_region 7 with(first | (at_builtin;refine Yn _ rfl _ _ rfl w.heap.size A xs.length c xs [(s:Int)] (some ⟨wr.heap.size,0,none⟩) 1 rfl rfl rfl ?_ ?_ ?_ ?_ ?_;(exact ho.ext ((Ext.rf _).alloc _));(exact .blk (.new (by simp)) rfl);(simp;omega);(simp;omega);rintro A1 c1 w1 h1 g1 _;have X1:=Hd ((hX.out.alloc _).grow g1 (fun j hj=>(ho.lt j hj).1));replace h1:=Hd h1;clear g1));clear ho;have k0:=Zf X1.out zp p0;have zp1:gp<w1.heap.size:=by have:=X1.out.size;omega
   refine wp_region_any (by kernel_rfl) ?_
   change wpAny _ _ _ _ _ _ _ (World.drew _)
   refine Za (i:=0) (op:=Op.move (Operand.tmp 0)) (t:=29) (d:=some 37) (v:=_) rfl (by decide +kernel) (fun _ _ _ h=>h) (by intro _;unfold Zb;go_simp;try with_reducible rfl) ?_
   try simp only[lay]
   refine Za (i:=1) (op:=Op.nilCheck (Operand.tmp 37)) (t:=0) (d:=some 38) (v:=_) rfl (by decide +kernel) (fun _ _ _ h=>h) (by intro _;unfold Zb;go_simp;try with_reducible rfl) ?_
   try simp only[lay]
   refine Za (i:=2) (op:=Op.fieldAddr 66 (Operand.tmp 38) 0) (t:=0) (d:=some 39) (v:=_) rfl (by decide +kernel) (fun _ _ _ h=>h) (by intro _;unfold Zb;go_simp;try with_reducible rfl) ?_
   try simp only[lay]
   refine Za (i:=4) (op:=Op.move (Operand.tmp 0)) (t:=29) (d:=some 41) (v:=_) rfl (by decide +kernel) (fun _ _ _ h=>h) (by intro _;unfold Zb;go_simp;try with_reducible rfl) ?_
   try simp only[lay]
   refine Za (i:=5) (op:=Op.move (Operand.tmp 4)) (t:=3) (d:=some 42) (v:=_) rfl (by decide +kernel) (fun _ _ _ h=>h) (by intro _;unfold Zb;go_simp;try with_reducible rfl) ?_
   try simp only[lay]
   refine Zi (n:=2) [(3,some 40),(6,some 43)] (Ext w1) (VF (fun | 3=>some (.pointer (some ⟨gm,0,none⟩)) | 6=>some (.int .i64 ad) | _=>none) (fun i v W=>True)) Ext #[true,true,true,true,true,true,true,false,false] (by decide +kernel) (VF.stab ?_) ?_ ?_ (by first | exact(Ext.rf _).drew | exact Ext.rf _)
   ·intro j v W W' _ _ _;trivial
   ·intro pS hpm uS wS hRW hD K hK
    simp only[List.mem_cons,List.not_mem_nil,or_false] at hpm;rcases hpm with rfl | rfl
    ·( have rX:=Zf hRW zp1 k0;exact Ze (T:=24) (x:=Operand.tmp 39) (t:=24) (d:=some 40) rfl (.pointer (some ⟨gp,0,none⟩)) (by kernel_rfl) (.pointer (some ⟨gm,0,none⟩)) (by go_simp) (hK _ _ (VF.mk rfl) hRW (Ext.rf _)))
    ·( exact Zh (f:=29) (xs:=#[Operand.tmp 41,Operand.tmp 42]) (ts:=#[29,3]) (t:=3) (d:=some 43) rfl #[.pointer (some ⟨gp,0,none⟩),.int .i64 (s:Int)] (by go_simp) (by kernel_rfl) _ (LI.out _ (X1.out.tr hRW)) (by rintro e w9 ⟨rfl,xx⟩;exact⟨_,rfl,hK _ _ (VF.mk rfl) (hRW.tr xx) xx⟩))
   intro u w3 hR3 hV;have h3:=(hV (3,some 40) (by simp)).k rfl;have h6:=(hV (6,some 43) (by simp)).k rfl;simp only[Zc,h3,h6];clear hV h3 h6
   try simp only[lay]
   refine Zd 7 (by decide +kernel) (Zh (f:=45) (xs:=#[Operand.tmp 40,Operand.tmp 43]) (ts:=#[24,3]) (t:=3) (d:=some 44) rfl #[.pointer (some ⟨gm,0,none⟩),.int .i64 ad] (by go_simp) (by kernel_rfl) _ (PE.out _ (X1.out.tr hR3)) ?_);rintro e w4 ⟨rfl,rfl⟩;have X4:=Hd (X1.out.tr hR3);have O4:=Hd (h1.out.ext hR3);clear LI PE hR3 X1 h1;refine⟨_,rfl,?_⟩
   try simp only[lay]
   refine Za (i:=8) (op:=Op.assign (Operand.tmp 44)) (t:=3) (d:=some 4) (v:=_) rfl (by decide +kernel) (fun _ _ _ h=>h) (by intro _;unfold Zb;go_simp;try with_reducible rfl) ?_
   try simp only[lay]
   refine wpAny_done (by kernel_rfl) ?_ _;go_simp;go_wp2_with (fail);go_roundw
   case rel=>exact⟨z,acc++[s],R',A1,c1,rfl,by rw[hia.out];simp,by rw[hia.out];exact O4.out,hC',by rw[List.length_append,List.length_singleton];omega,Hd (fun t ht=>hR.out t (by simp[ht])),X4⟩
   case measure=>have:=hal.out;simp[QH];omega
theorem XG (n:Nat)(w:World)(h1:1<=n)(h2:n<=4096) :
  Calls Try.prog 4 #[.int .i64 (n:Int)] w fun e w'=>e=.returned (.int .i64 ((n:Int)+1))/\Ext w w':=by
 have e1:¬(n:Int)<1:=by omega
 have e2:¬(n:Int)>4096:=by omega
 have wr1:IntKind.i64.wrap ((n:Int)+1)=(n:Int)+1:=IntWalk.i64_in _ (by omega);go_enter Try.func4,Try.ntmps4;go_wp2_with (go_quiet (fail));go_ret;exact⟨rfl,XI⟩
theorem XH (n:Nat)(w:World)(h1:1<=n)(h2:n<=4096) :
  Calls Try.prog 6 #[.int .i64 6,.int .i64 (n:Int)] w fun e w'=>e=.returned (.int .i64 (63+(n:Int)))/\Ext w w':=by
 have e1:¬(n:Int)<1:=by omega
 have e2:¬(n:Int)>4096:=by omega
 have wr1:IntKind.i64.wrap (63+(n:Int))=63+(n:Int):=IntWalk.i64_in _ (by omega);go_enter Try.func6,Try.ntmps6;go_wp2_with (go_quiet (fail));go_ret;exact⟨rfl,XI⟩
theorem VX : (Try.prog.info? 45).map (fun i=>(i.zero,i.size,i.bytes))=some (some (.agg #[.slice none 0 0,.int .i64 0]),2,32):=by kernel_rfl
theorem VY : (Try.prog.info? 22).map (fun i=>(i.zero,i.size,i.bytes))=some (some (.slice none 0 0),1,24):=by kernel_rfl
def ZG (n:Nat) : List Value:=(List.replicate n [Value.slice none 0 0,Value.int .i64 0]).flatten
def XJ : Array Value:=#[Value.slice none 0 0]
theorem YB (n:Nat) : (ZG n).length=n*2:=by
 induction n with
 | zero=>rfl
 | succ n ih =>
  unfold ZG at ih ⊢;rw[List.replicate_succ,List.flatten_cons,List.length_append,ih];simp;omega
theorem XK (n k:Nat)(hk:k<n) : (ZG n)[k*2]?=some (.slice none 0 0)/\(ZG n)[k*2+1]?=some (.int .i64 0):=by
 induction n generalizing k with
 | zero=>omega
 | succ n ih =>
  have e:ZG (n+1)=Value.slice none 0 0::Value.int .i64 0::ZG n:=by unfold ZG;rw[List.replicate_succ,List.flatten_cons];rfl
  rw[e]
  cases k with
  | zero=>exact⟨rfl,rfl⟩
  | succ k =>
   have:=ih k (by omega);rw[show (k+1)*2=k*2+1+1 by omega];exact⟨by simpa using this.1,by simpa using this.2⟩
theorem Vi (n:Nat) : madeCells #[Value.slice none 0 0,Value.int .i64 0] (n*2)=List.toArray (ZG n):=by
 apply Array.ext
 ·simp[madeCells,YB]
 ·intro i h1 h2
  have hi:i<n*2:=by simpa [madeCells] using h1
  have g:=XK n (i / 2) (by omega);have g0:(ZG n)[i]?=some (if i%2=0 then .slice none 0 0 else .int .i64 0):=by
   by_cases h:i%2=0
   ·rw[if_pos h];have:=g.1;rwa [show i / 2*2=i by omega] at this
   ·rw[if_neg h];have:=g.2;rwa [show i / 2*2+1=i by omega] at this
  have g1:(ZG n)[i]'(by rw[YB];exact hi)=if i%2=0 then .slice none 0 0 else .int .i64 0:=by
   have:=List.getElem?_eq_some_iff.1 g0;exact this.2
  simp only[List.getElem_toArray,g1];rcases Nat.mod_two_eq_zero_or_one i with h | h<;>simp[madeCells,h]
theorem Ut (n:Nat)(hn:n<=4096)(u:World) : (Instr.makeSlice 63 (.int .i64 (n:Int)) (.int .i64 (n:Int))).run Try.prog u=.ok (.slice (some ⟨u.heap.size,0,none⟩) n n) (u.alloc (.cells (List.toArray (ZG n)) 45)):=by
 obtain⟨i0,hi,hz0,hz1,hz2⟩:=info_parts VX;have h:=run_make (P:=Try.prog) u 63 45 i0 _ Try.underlying63 hi hz0 .i64 .i64 (n:Int) (n:Int) (by omega) (Int.le_refl _) (by rw[hz2];omega) (by omega);rw[<-Vi]
 simpa [hz1,Value.cells] using h
theorem Qa (u:World) : (Instr.makeSlice 64 (.int .i64 1) (.int .i64 1)).run Try.prog u=.ok (.slice (some ⟨u.heap.size,0,none⟩) 1 1) (u.alloc (.cells XJ 22)):=by
 obtain⟨i0,hi,hz0,hz1,hz2⟩:=info_parts VY;have h:=run_make (P:=Try.prog) u 64 22 i0 _ Try.underlying64 hi hz0 .i64 .i64 1 1 (by omega) (Int.le_refl _) (by rw[hz2];omega) (by omega);have e:madeCells #[Value.slice none 0 0] 1=XJ:=by
  apply Array.ext
  ·simp[madeCells,XJ]
  ·intro i h1 h2
   obtain rfl:i=0:=by simp[XJ] at h2;omega
   simp[madeCells,XJ]
 rw[<-e]
 simpa [hz1,Value.cells] using h
theorem PoolR.cell {w w':World}{bs gm gc gp gn go:Nat}{P:PoolS}{M:List Int}(h:PoolR w bs gm gc gp gn go P)(m:MemB w gm gc M)(hd:Mod (CS gm gc) w w') : PoolR w' bs gm gc gp gn go P:=by
 obtain⟨⟨st,k,c,o,n,d,m1⟩,m2⟩:=m;have q:∀ {b:Nat} {t:TypeId} {cs:Array Value},Blk w b t cs->t≠62->t≠3->¬CS gm gc b:=fun hb h1 h2 h=>by
  rcases h with rfl | rfl
  ·exact hb.ne m1 h1 rfl
  ·exact hb.ne m2 h2 rfl
 refine h.mod hd (q h.p (by decide) (by decide)) (q h.nd (by decide) (by decide)) (q h.ow (by decide) (by decide)) (fun k o ho b hb hS=>?_);rcases hS with rfl | rfl
 ·exact(h.oi k o ho).1.ne m1 (by decide) b hb rfl
 ·exact(h.oi k o ho).2 hb
def Uu (M:List Int)(n:Nat)(k:Nat) : Prop:=M[0]?=some 1/\∀ s,s<k->M[1+s]?=some (if s+1=n then -1 else((s+1:Nat):Int))
def Uv (bs gm gc n l:Nat)(w:World)(e:Ending)(w':World) : Prop:=∃ (gp gn go:Nat) (M':List Int),e=.returned (.tuple #[.pointer (some ⟨gp,0,none⟩),.int .i64 0])/\PoolR w' bs gm gc gp gn go ⟨0,n,ZG n,[⟨none,0,[]⟩]⟩/\MemB w' gm gc M'/\M'.length=l/\Uu M' n n/\(w.heap.size<=gp/\w.heap.size<=gn/\w.heap.size<=go)/\Mod (CS gm gc) w w'
theorem Uw (bs gm gc n:Nat)(M:List Int)(w:World)(H:MemB w gm gc M)(h1:1<=n)(h2:n<=4096)(hM:n+1<=M.length)(hM2:M.length<=1048576) :
  Calls Try.prog 7 #[.pointer (some ⟨gm,0,none⟩),.int .i64 0,.int .i64 (n:Int),.int .i64 1] w (Uv bs gm gc n M.length w):=by
 have CE:=Hd (fun(W:World)=>XG n W h1 h2);have SZ:=Hd (fun(W:World) (X:Ext w W)=>Y6 gm gc M W (H.ext X));have HH:=Hd H;have e1:((n:Int)+1==0)=false:=by simp;omega
 have wr1:IntKind.i64.wrap ((M.length:Int)-((n:Int)+1))=(M.length:Int)-((n:Int)+1):=IntWalk.i64_in _ (by omega);have e3:¬(0>(M.length:Int)-((n:Int)+1)):=by omega
 have e4:¬((M.length:Int)-((n:Int)+1)<0):=by omega
 clear H;go_enter Try.func7,Try.ntmps7;go_wp2_with (fail);refine(CE.out _).mono ?_;rintro e w1 ⟨rfl,x1⟩;have X1:=Hd (Ext.tr (a:=w) XI x1);clear x1 CE;go_wp2_with (go_quiet (fail));refine(SZ.out _ (X1.out.tr XI)).mono ?_;rintro e w2 ⟨rfl,rfl⟩;have X2:=Hd (X1.out.tr (Ext.rf _));clear SZ;go_upto_region 4 with(fail);have hm1:∀ u:World,(Instr.makeSlice 63 (.int .i64 (n:Int)) (.int .i64 (n:Int))).run Try.prog u=.ok (.slice (some ⟨u.heap.size,0,none⟩) n n) (u.alloc (.cells (List.toArray (ZG n)) 45)):=fun u=>Ut n h2 u
 have hm2:∀ u:World,(Instr.makeSlice 64 (.int .i64 1) (.int .i64 1)).run Try.prog u=.ok (.slice (some ⟨u.heap.size,0,none⟩) 1 1) (u.alloc (.cells XJ 22)):=Qa;refine wp_region_any (by kernel_rfl) ?_
 change wpAny _ _ _ _ _ _ _ (World.drew _)
 refine Za (i:=0) (op:=Op.move (Operand.tmp 0)) (t:=24) (d:=some 42) (v:=_) rfl (by decide +kernel) (fun _ _ _ h=>h) (by intro _;unfold Zb;go_simp;try with_reducible rfl) ?_
 try simp only[lay]
 refine Za (i:=1) (op:=Op.move (Operand.tmp 1)) (t:=3) (d:=some 43) (v:=_) rfl (by decide +kernel) (fun _ _ _ h=>h) (by intro _;unfold Zb;go_simp;try with_reducible rfl) ?_
 try simp only[lay]
 refine Za (i:=2) (op:=Op.move (Operand.tmp 2)) (t:=3) (d:=some 44) (v:=_) rfl (by decide +kernel) (fun _ _ _ h=>h) (by intro _;unfold Zb;go_simp;try with_reducible rfl) ?_
 try simp only[lay]
 refine Za (i:=4) (op:=Op.move (Operand.tmp 3)) (t:=3) (d:=some 46) (v:=_) rfl (by decide +kernel) (fun _ _ _ h=>h) (by intro _;unfold Zb;go_simp;try with_reducible rfl) ?_
 try simp only[lay]
 refine Zi (n:=3) [(3,some 45),(5,some 47)] (Ext w1) (VF (fun  | _=>none) (fun i v W=>(i=3->∃ z,v=.slice (some ⟨z,0,none⟩) n n/\Blk W z 45 (List.toArray (ZG n))/\w1.heap.size<=z)/\(i=5->∃ z,v=.slice (some ⟨z,0,none⟩) 1 1/\Blk W z 22 XJ/\w1.heap.size<=z))) Ext #[true,true,true,true,true,true,false,false,false] (by decide +kernel) (VF.stab ?_) ?_ ?_ (by first | exact(Ext.rf _).drew | exact Ext.rf _)
 ·intro j v W W' _ gz hx
  obtain⟨g0,g1⟩:=gz;exact⟨fun h=>(g0 h).imp fun z hz=>⟨hz.1,hz.2.1.ext hx,hz.2.2⟩,fun h=>(g1 h).imp fun z hz=>⟨hz.1,hz.2.1.ext hx,hz.2.2⟩⟩
 ·intro pS hpm uS wS hRW hD K hK
  simp only[List.mem_cons,List.not_mem_nil,or_false] at hpm;rcases hpm with rfl | rfl
  ·( exact Zm (op:=Op.makeSlice 63 (Operand.tmp 44) (Operand.tmp 44)) (t:=63) (d:=some 45) rfl _ (by simp only[Zc,Act.put,List.setIfInBounds_toArray,List.set_cons_zero,List.set_cons_succ];unfold Zb;(try go_simp);(try rfl)) (hK _ _ (VF.mg rfl ⟨(fun _=>⟨_,rfl,.new rfl,hRW.size⟩),(fun h=>absurd h (by decide))⟩) (hRW.alloc _) ((Ext.rf _).alloc _)))
  ·( exact Zm (op:=Op.makeSlice 64 (Operand.tmp 46) (Operand.tmp 46)) (t:=64) (d:=some 47) rfl _ (by simp only[Zc,Act.put,List.setIfInBounds_toArray,List.set_cons_zero,List.set_cons_succ];unfold Zb;(try go_simp);(try rfl)) (hK _ _ (VF.mg rfl ⟨(fun h=>absurd h (by decide)),(fun _=>⟨_,rfl,.new rfl,hRW.size⟩)⟩) (hRW.alloc _) ((Ext.rf _).alloc _)))
 intro u w3 hR3 hV;obtain⟨az,h3,ab,al⟩:=((hV (3,some 45) (by simp)).g rfl).1 rfl;obtain⟨bz,h5,bb,bl⟩:=((hV (5,some 47) (by simp)).g rfl).2 rfl;simp only[Zc,h3,h5];clear hV h3 h5
 try simp only[lay]
 have Z1:=X2.out.size;have nab:az≠bz:=ab.ne bb (by decide);have HM:=Hd (HH.out.ext (X2.out.tr hR3));have XB:=Hd (X2.out.tr hR3);replace ab:=Hd ab;replace bb:=Hd bb;refine Za (i:=6) (op:=Op.build 66 #[(0,Operand.tmp 42),(1,Operand.tmp 43),(2,Operand.tmp 45),(3,Operand.tmp 47)]) (t:=66) (d:=some 48) (v:=_) rfl (by decide +kernel) (fun _ _ _ h=>h) (by intro _;unfold Zb;go_simp;try with_reducible rfl) ?_
 try simp only[lay]
 refine Zd 7 (by decide +kernel) (Zm (op:=Op.box 66 (Operand.tmp 48)) (t:=29) (d:=some 49) rfl _ (by unfold Zb;go_simp;first | rfl | exact⟨rfl,rfl⟩) ?_)
 try simp only[lay]
 refine Za (i:=8) (op:=Op.assign (Operand.tmp 49)) (t:=29) (d:=some 11) (v:=_) rfl (by decide +kernel) (fun _ _ _ h=>h) (by intro _;unfold Zb;go_simp;try with_reducible rfl) ?_
 try simp only[lay]
 refine wpAny_done (by kernel_rfl) ?_ _;go_simp;have PR:PoolR (w3.alloc (.cells #[.pointer (some ⟨gm,0,none⟩),.int .i64 0,.slice (some ⟨az,0,none⟩) n n,.slice (some ⟨bz,0,none⟩) 1 1] 66)) bs gm gc w3.heap.size az bz ⟨0,n,ZG n,[⟨none,0,[]⟩]⟩:=by
  refine⟨.new rfl,ab.out.ext ((Ext.rf _).alloc _),YB n,bb.out.ext ((Ext.rf _).alloc _),?_,?_⟩
  ·intro k o ho
   cases k with
   | zero =>
    obtain rfl:(⟨none,0,[]⟩:OwL)=o:=by simpa using ho
    exact⟨OwI.nil _ _,fun e=>by cases e⟩
   | succ k=>simp at ho
  ·intro i j o q hi hj hne
   have h1:=(List.getElem?_eq_some_iff.1 hi).1;have h2:=(List.getElem?_eq_some_iff.1 hj).1;simp at h1 h2;omega
 have M3:=Hd (HM.out.ext ((Ext.rf w3).alloc (.cells #[.pointer (some ⟨gm,0,none⟩),.int .i64 0,.slice (some ⟨az,0,none⟩) n n,.slice (some ⟨bz,0,none⟩) 1 1] 66)));have X3:=Hd (XB.out.tr ((Ext.rf w3).alloc (.cells #[.pointer (some ⟨gm,0,none⟩),.int .i64 0,.slice (some ⟨az,0,none⟩) n n,.slice (some ⟨bz,0,none⟩) 1 1] 66)));replace PR:=Hd PR;have Z3:w.heap.size<=w3.heap.size:=XB.out.size;clear HM XB hm1 hm2 ab bb hR3 HH X1 X2;generalize w3.alloc (.cells #[.pointer (some ⟨gm,0,none⟩),.int .i64 0,.slice (some ⟨az,0,none⟩) n n,.slice (some ⟨bz,0,none⟩) 1 1] 66)=w4 at *;generalize w3.heap.size=gp at *;have PK:Hid (∀ W:World,Calls Try.prog 28 #[.int .i64 0,.int .i64 0] W fun e w'=>e=.returned (.int .i64 1)/\W=w'):=Hd (fun W=>by
  have q:=Xd 0 0 W (by omega);have e:pk (0%1073741824) (plc 0)=1:=by decide
  rwa [e] at q)
 have ST:=fun(W:World) (h:MemB W gm gc M)=>YD gm gc M 0 1 W h (by omega)
 rw[show ((0:Nat):Int)=0 from rfl] at ST;replace ST:=Hd ST;go_wp2_with (fail);refine(PK.out _).mono ?_;rintro e w5 ⟨rfl,rfl⟩;clear PK;go_wp2_with (fail);refine(ST.out _ M3.out).mono ?_;rintro e w6 ⟨rfl,m6,d6⟩;have P6:=Hd (PR.out.cell M3.out d6);have M6:=Hd m6;have D6:=Hd ((Mod.of_ext X3.out:Mod (CS gm gc) w _).tr d6);clear m6 d6 PR M3 X3 ST;obtain⟨M1,hM1⟩:∃ M1,M.set 0 1=M1:=⟨_,rfl⟩;have l1:M1.length=M.length:=by rw[<-hM1];simp
 have q1:Uu M1 n 0:=⟨by rw[<-hM1];exact List.getElem?_set_self (by omega),fun s h=>by omega⟩;rw[hM1] at M6;clear hM1;replace q1:=Hd q1;go_wp2_with (fail);go_loopw [55] (fun v wr=>∃ (k:Nat) (M':List Int),v=.int .i64 k/\k<=n/\M'.length=M.length/\Hid (Uu M' n k)/\Hid (PoolR wr bs gm gc gp az bz ⟨0,n,ZG n,[⟨none,0,[]⟩]⟩)/\Hid (MemB wr gm gc M')/\Hid (Mod (CS gm gc) w wr)) (fun v _=>n-(intOf v).toNat)
 case atStart=>exact⟨0,M1,rfl,by omega,l1,q1,P6,M6,D6⟩
 case round =>
  clear P6 M6 D6 q1 l1;obtain⟨k,M',rfl,hk,hl,hN,HP,HM,HD⟩:=hrel
  by_cases hkn:k<n
  ·have g1:(k:Int)<(n:Int):=by omega
   have g2:IntKind.i64.wrap ((k:Int)+1)=(k:Int)+1:=IntWalk.i64_in _ (by omega);obtain⟨v,hv⟩:∃ v:Int,v=(if k+1=n then -1 else((k+1:Nat):Int)):=⟨_,rfl⟩;have LI:=fun(W:World) (X:Ext wr W)=>Yp bs gm gc gp az bz ⟨0,n,ZG n,[⟨none,0,[]⟩]⟩ W (HP.out.ext X) (k:Int) (by omega) (by simp)
   simp only[show ((0:Nat):Int)+1+(k:Int)=((1+k:Nat):Int) by omega] at LI;replace LI:=Hd LI;have ST:=Hd (fun(W:World) (h:MemB W gm gc M')=>YD gm gc M' (1+k) v W h (by omega));have q1:Uu (M'.set (1+k) v) n (k+1):=⟨by rw[List.getElem?_set_ne (by omega)];exact hN.out.1,fun s hs=>by
    by_cases e:s=k
    ·subst e;rw[List.getElem?_set_self (by omega),hv]
    ·rw[List.getElem?_set_ne (by omega)];exact hN.out.2 s (by omega)⟩
   replace q1:=Hd q1;have l1:(M'.set (1+k) v).length=M.length:=by simpa using hl
   generalize M'.set (1+k) v=M2 at *;generalize ((1+k:Nat):Int)=ad at *
   by_cases hlast:k+1=n
   ·rw[if_pos hlast] at hv
    subst hv;have g3:((k:Int)+1==(n:Int))=true:=by simp;omega
    go_wp2_with (fail);refine(LI.out _ XI).mono ?_;rintro e w7 ⟨rfl,x7⟩;have X7:=Hd (Ext.tr (a:=wr) XI x7);clear x7 LI;go_wp2_with (fail);refine(ST.out _ (HM.out.ext X7.out)).mono ?_;rintro e w8 ⟨rfl,m8,d8⟩;have P8:=Hd ((HP.out.ext X7.out).cell (HM.out.ext X7.out) d8);have M8:=Hd m8;have D8:=Hd ((HD.out.tr (Mod.of_ext X7.out)).tr d8);clear m8 d8 ST HP HM HD;go_wp2_with (fail);go_roundw
    case rel=>exact⟨k+1,M2,by go_num,by omega,l1,q1,P8,M8,D8⟩
    case measure=>simp[intOf];omega
   ·rw[if_neg hlast] at hv
    have hv2:v=(k:Int)+1:=by omega
    subst hv2;clear hv;have g3:((k:Int)+1==(n:Int))=false:=by simp;omega
    go_wp2_with (fail);refine(LI.out _ XI).mono ?_;rintro e w7 ⟨rfl,x7⟩;have X7:=Hd (Ext.tr (a:=wr) XI x7);clear x7 LI;go_wp2_with (fail);refine(ST.out _ (HM.out.ext X7.out)).mono ?_;rintro e w8 ⟨rfl,m8,d8⟩;have P8:=Hd ((HP.out.ext X7.out).cell (HM.out.ext X7.out) d8);have M8:=Hd m8;have D8:=Hd ((HD.out.tr (Mod.of_ext X7.out)).tr d8);clear m8 d8 ST HP HM HD;go_wp2_with (fail);go_roundw
    case rel=>exact⟨k+1,M2,by go_num,by omega,l1,q1,P8,M8,D8⟩
    case measure=>simp[intOf];omega
  ·obtain rfl:k=n:=by omega
   go_wp2_with (fail);exact bodyPost_ret (v:=.tuple #[.pointer (some ⟨gp,0,none⟩),.int .i64 0]) (by simp[results,Try.results7,go_sem]) rfl ⟨gp,az,bz,M',rfl,HP.out.ext XI,HM.out.ext XI,hl,hN.out,⟨Z3,by omega,by omega⟩,HD.out.tr (Mod.of_ext XI)⟩
def Ux (M M':List Int)(b k:Nat) : Prop:=(∀ i,1<=i->i<=k->M'[b+(i-1)]?=some 0)/\∀ j,j<b->M'[j]?=M[j]?
def Uy (bs gm gc gp gn go b:Nat)(P:PoolS)(M:List Int)(w:World)(e:Ending)(w':World) : Prop:=∃ (gh:Nat) (M':List Int),e=.returned (.tuple #[.pointer (some ⟨gh,0,none⟩),.int .i64 0])/\ZK w' gh gm gp b 6/\PoolR w' bs gm gc gp gn go P/\MemB w' gm gc M'/\M'.length=M.length/\Ux M M' b 63/\w.heap.size<=gh/\Mod (CS gm gc) w w'
theorem Uz (bs gm gc gp gn go b:Nat)(M:List Int)(P:PoolS)(w:World)(H:MemB w gm gc M)(HP:PoolR w bs gm gc gp gn go P)(h1:1<=P.n)(h2:P.n<=4096)(hM:b+(63+P.n)<=M.length)(hM2:M.length<=1048576) :
  Calls Try.prog 8 #[.pointer (some ⟨gm,0,none⟩),.int .i64 (b:Int),.int .i64 6,.pointer (some ⟨gp,0,none⟩)] w (Uy bs gm gc gp gn go b P M w):=by
 have SL:=Hd (fun(W:World) (X:Ext w W)=>Xy bs gm gc gp gn go P W (HP.ext X));obtain⟨n,hn⟩:∃ n,P.n=n:=⟨_,rfl⟩;rw[hn] at SL h1 h2 hM;replace hn:=Hd hn;have CE:=Hd (fun(W:World)=>XH n W h1 h2);have SZ:=Hd (fun(W:World) (X:Ext w W)=>Y6 gm gc M W (H.ext X));have HM:=Hd H;have HP:=Hd HP;have e1:(63+(n:Int)==0)=false:=by simp;omega
 have e2:¬((b:Int)<0):=by omega
 have wr1:IntKind.i64.wrap ((M.length:Int)-(63+(n:Int)))=(M.length:Int)-(63+(n:Int)):=IntWalk.i64_in _ (by omega);have e3:¬((b:Int)>(M.length:Int)-(63+(n:Int))):=by omega
 have e4:¬((M.length:Int)-(63+(n:Int))<(b:Int)):=by omega
 clear H;go_enter Try.func8,Try.ntmps8;go_wp2_with (fail);refine(SL.out _ XI).mono ?_;rintro e w1 ⟨rfl,x1⟩;have X1:=Hd (Ext.tr (a:=w) XI x1);clear x1 SL;go_wp2_with (fail);refine(CE.out _).mono ?_;rintro e w2 ⟨rfl,x2⟩;have X2:=Hd (X1.out.tr (Ext.tr (a:=w1) XI x2));clear x2 CE X1;go_wp2_with (go_quiet (fail));refine(SZ.out _ (X2.out.tr XI)).mono ?_;rintro e w3 ⟨rfl,rfl⟩;clear SZ;have B2:Hid (ZK (w2.alloc (.cells #[.pointer (some ⟨gm,0,none⟩),.int .i64 (b:Int),.int .i64 6,.pointer (some ⟨gp,0,none⟩)] 69)) w2.heap.size gm gp b 6):=Hd (by unfold ZK;exact Blk.new rfl);have M2:=Hd ((HM.out.ext X2.out).ext ((Ext.rf w2).alloc (.cells #[.pointer (some ⟨gm,0,none⟩),.int .i64 (b:Int),.int .i64 6,.pointer (some ⟨gp,0,none⟩)] 69)));have P2:=Hd ((HP.out.ext X2.out).ext ((Ext.rf w2).alloc (.cells #[.pointer (some ⟨gm,0,none⟩),.int .i64 (b:Int),.int .i64 6,.pointer (some ⟨gp,0,none⟩)] 69)));have D2:Hid (Mod (CS gm gc) w (w2.alloc (.cells #[.pointer (some ⟨gm,0,none⟩),.int .i64 (b:Int),.int .i64 6,.pointer (some ⟨gp,0,none⟩)] 69))):=Hd (Mod.of_ext (X2.out.tr ((Ext.rf w2).alloc _)));have Z2:w.heap.size<=w2.heap.size:=X2.out.size;clear HM HP X2;go_upto_region 5 with(go_quiet (fail));generalize w2.alloc (.cells #[.pointer (some ⟨gm,0,none⟩),.int .i64 (b:Int),.int .i64 6,.pointer (some ⟨gp,0,none⟩)] 69)=w3 at *;generalize w2.heap.size=gh at *;clear e1 e2 e3 e4 wr1;have PK:Hid (∀ W:World,Calls Try.prog 28 #[.int .i64 0,.int .i64 (-1)] W fun e w'=>e=.returned (.int .i64 0)/\W=w'):=Hd (fun W=>by
  have q:=Xd 0 (-1) W (by omega);have e:pk (0%1073741824) (plc (-1))=0:=by decide
  rwa [e] at q)
 have q0:Hid (Ux M M b 0):=Hd ⟨fun i _ _=>by omega,fun j _=>rfl⟩;go_wp2_with (fail);go_loopw [12] (fun v wr=>∃ (k:Nat) (M':List Int),v=.int .i64 k/\1<=k/\k<=64/\M'.length=M.length/\Hid (Ux M M' b (k-1))/\Hid (ZK wr gh gm gp b 6)/\Hid (PoolR wr bs gm gc gp gn go P)/\Hid (MemB wr gm gc M')/\Hid (Mod (CS gm gc) w wr)) (fun v _=>64-(intOf v).toNat)
 case atStart=>exact⟨1,M,rfl,by omega,by omega,rfl,q0,B2,P2,M2,D2⟩
 case round =>
  clear B2 M2 P2 D2 q0;obtain⟨k,M',rfl,hk1,hk,hl,hN,HB,HP,HM,HD⟩:=hrel;have PL:=fun(W:World) (X:Ext wr W)=>Z7 gh gm gp b 6 W (Blk.ext HB.out X) (by omega)
  simp only[show ((2^6-1:Nat):Int)=63 from rfl] at PL;replace PL:=Hd PL
  by_cases hkn:k<=63
  ·have g1:(k:Int)<=63:=by omega
   have HE:=Hd (fun(W:World) (X:Ext wr W)=>YQ gh gm gp b 6 W (Blk.ext HB.out X) k hk1 (by omega) (by omega));have ST:=Hd (fun(W:World) (h:MemB W gm gc M')=>YD gm gc M' (b+(k-1)) 0 W h (by omega));have q1:Ux M (M'.set (b+(k-1)) 0) b (k+1-1):=⟨fun i h3 h4=>by
    by_cases e:i=k
    ·subst e;exact List.getElem?_set_self (by omega)
    ·rw[List.getElem?_set_ne (by omega)];exact hN.out.1 i h3 (by omega),fun j hj=>by rw[List.getElem?_set_ne (by omega)];exact hN.out.2 j hj⟩
   replace q1:=Hd q1;have l1:(M'.set (b+(k-1)) 0).length=M.length:=by simpa using hl
   generalize M'.set (b+(k-1)) 0=M3 at *;generalize ((b+(k-1):Nat):Int)=ad at *;go_wp2_with (fail);refine(PL.out _ XI).mono ?_;rintro e w4 ⟨rfl,x4⟩;have X4:=Hd (Ext.tr (a:=wr) XI x4);clear x4 PL;go_wp2_with (fail);refine(HE.out _ (X4.out.tr XI)).mono ?_;rintro e w5 ⟨rfl,x5⟩;have X5:=Hd (X4.out.tr (Ext.tr (a:=w4) XI x5));clear x5 HE X4;go_wp2_with (fail);refine(PK.out _).mono ?_;rintro e w6 ⟨rfl,rfl⟩;go_wp2_with (fail);refine(ST.out _ (HM.out.ext X5.out)).mono ?_;rintro e w8 ⟨rfl,m8,d8⟩;have P8:=Hd ((HP.out.ext X5.out).cell (HM.out.ext X5.out) d8);have B8:Hid (ZK w8 gh gm gp b 6):=by
    obtain⟨⟨st,k,c,o,n,d,m1⟩,m2⟩:=HM.out.ext X5.out;have h5:=Blk.ext HB.out X5.out;exact Hd (Blk.mod h5 d8 (fun h=>by rcases h with rfl | rfl;exact Blk.ne h5 m1 (by decide) rfl;exact Blk.ne h5 m2 (by decide) rfl))
   have M8:=Hd m8;have D8:=Hd ((HD.out.tr (Mod.of_ext X5.out)).tr d8);clear m8 d8 ST HP HM HD HB X5;go_wp2_with (fail);go_roundw
   case rel=>exact⟨k+1,M3,by go_num,by omega,by omega,l1,q1,B8,P8,M8,D8⟩
   case measure=>simp[intOf];omega
  ·obtain rfl:k=64:=by omega
   have g1:¬(((64:Nat):Int)<=63):=by omega
   go_wp2_with (fail);refine(PL.out _ XI).mono ?_;rintro e w4 ⟨rfl,x4⟩;have X4:=Hd (Ext.tr (a:=wr) XI x4);clear x4 PL;go_wp2_with (fail);exact bodyPost_ret (v:=.tuple #[.pointer (some ⟨gh,0,none⟩),.int .i64 0]) (by simp[results,Try.results8,go_sem]) rfl ⟨gh,M',rfl,Blk.ext HB.out (X4.out.tr XI),HP.out.ext (X4.out.tr XI),HM.out.ext (X4.out.tr XI),hl,hN.out,Z2,HD.out.tr (Mod.of_ext (X4.out.tr XI))⟩
theorem We {M:List Int}{n:Nat}(h:∀ s,s<n->M[1+s]?=some (if s+1=n then -1 else((s+1:Nat):Int))) : ∀ (r k:Nat),k+r=n->0<r->ChainM M 1 (k:Int) (List.range' k r)
 | 0,_,_,h0=>absurd h0 (by omega)
 | r+1,k,hk,_=>by
  rw[List.range'_succ];refine⟨rfl,_,h k (by omega),?_⟩
  by_cases e:k+1=n
  ·rw[if_pos e]
   obtain rfl:r=0:=by omega
   rfl
  ·rw[if_neg e]
   exact We h r (k+1) (by omega) (by omega)
theorem WU (bd:Nat->Int) : Zo bd (List.replicate 64 [])=List.replicate 64 []:=by simp[Zo,itL]
theorem UA {base gm gc gp gn go gh n:Nat}{w:World}{M0 M:List Int}(h1:1<=n)(hn:n<=31)(hl:M.length=n+1+(63+n))(HM:MemB w gm gc M)(HP:PoolR w base gm gc gp gn go ⟨0,n,ZG n,[⟨none,0,[]⟩]⟩)(HH:ZK w gh gm gp (n+1) 6)(p:Uu M0 n n)(q:Ux M0 M (n+1) 63) : SM base w gm gc gp gn go gh n (fun _=>0) [] (List.range n) [] (List.replicate 64 []):=by
 have hg:∀ i:Nat,(List.replicate 64 ([]:List Nat)).getD i []=[]:=fun i=>by
  rw[List.getD_eq_getElem?_getD,List.getElem?_replicate];split<;>rfl
 refine⟨M,_,_,HM,HP,HH,⟨hl,⟨1,?_,by unfold Zl;omega,?_⟩,fun s hs=>List.mem_range.1 hs,by simp,fun i j1 j2=>⟨0,q.1 i j1 (by omega),by unfold Zl;omega,?_⟩,fun i s hs=>?_⟩,rfl,?_,fun s hs=>(XK n s hs).2⟩
 ·rw[q.2 0 (by omega)];exact p.1
 ·have e:pla 1=((0:Nat):Int):=by decide
  rw[e,List.range_eq_range'];refine We (n:=n) (fun s hs=>?_) n 0 (by omega) (by omega);rw[q.2 (1+s) (by omega)];exact p.2 s hs
 ·rw[hg];exact(by decide:pla 0=-1)
 ·rw[hg] at hs;cases hs
 ·simp
section
variable {base gm gc gp gn go gh n:Nat} {bd:Nat->Int} {Hs F O:List Nat} {L:List (List Nat)}
theorem Qb (w:World)(h:SM base w gm gc gp gn go gh n bd Hs F O L) :
  Calls Try.prog 11 #[.pointer (some ⟨gp,0,none⟩),.int .i64 0] w fun e w'=>∃ ga,e=.returned (.pointer (some ⟨ga,0,none⟩))/\ZO w' ga gp ⟨0,false,-1,0,0,0⟩/\w.heap.size<=ga/\Ext w w':=by
 obtain⟨M,o,nv,h1,h2,h3,h4,h5,h6,h7⟩:=h;exact Vy base gm gc gp gn go _ w h2 0 (by simp) (by simp)
theorem Vu (w:World)(s:Nat)(h:SM base w gm gc gp gn go gh n bd (s::Hs) F O L)(hn:n<=31) :
  Calls Try.prog 18 #[.pointer (some ⟨gp,0,none⟩),.int .i64 0,.int .i64 (s:Int)] w fun e w'=>∃ ga,e=.returned (.pointer (some ⟨ga,0,none⟩))/\ZO w' ga gp ⟨0,true,(s:Int),0,0,0⟩/\w.heap.size<=ga/\Ext w w':=by
 have hs:=h.held.1;obtain⟨M,o,nv,h1,h2,h3,h4,h5,h6,h7⟩:=h;exact Vz base gm gc gp gn go _ w h2 0 s (by simp) (by simp) hs (by show n<=100000;omega)
theorem Qc (w:World)(s:Nat)(h:SM base w gm gc gp gn go gh n bd (s::Hs) F O L)(hn:n<=31)(ds:List Int)(D:Option Addr)(d:Nat)(hd:RdI w D ds)(id:Ints ds)(ld:ds.length<=d)(ld':d<=maxLen) :
  Calls Try.prog 15 #[.pointer (some ⟨gh,0,none⟩),.int .i64 (s:Int),.slice D ds.length d] w (WP gh s ds w):=by
 have hs:=h.held.1;obtain⟨M,o,nv,h1,h2,h3,h4,h5,h6,h7⟩:=h;exact VR base gm gc gp gn go gh (n+1) 6 _ w h3 h2 s hs (by show n<=100000;omega) ds D d hd id ld ld'
theorem Qq (w:World)(h:SM base w gm gc gp gn go gh n bd Hs F O L) :
  Calls Try.prog 20 #[.pointer (some ⟨gh,0,none⟩)] w fun e w'=>e=.returned (.pointer (some ⟨w.heap.size,0,none⟩))/\Zk w' w.heap.size gh (Ym 4 (-1) false ⟨none,0,[]⟩ 1)/\Ext w w':=by
 obtain⟨M,o,nv,h1,h2,h3,h4,h5,h6,h7⟩:=h;exact Uo gm gp gh (n+1) 6 w h3
theorem UB (w:World)(s:Nat)(h:SM base w gm gc gp gn go gh n bd (s::Hs) F O L)(hn:n<=31) :
  Calls Try.prog 23 #[.pointer (some ⟨gp,0,none⟩),.int .i64 (s:Int)] w fun e w'=>e=.returned (.int .i64 (bd s))/\Ext w w':=by
 have hs:=h.held.1;obtain⟨M,o,nv,h1,h2,h3,h4,h5,h6,h7⟩:=h;exact Z0 base gm gc gp gn go _ w h2 s hs (by show n<=100000;omega) (bd s) (h7 s hs)
theorem SM.count {w:World}(h:SM base w gm gc gp gn go gh n bd [] F O L)(hL:L.flatten=[]) : F.length+O.length=n:=by
 obtain⟨M,o,nv,h1,h2,h3,h4,h5,h6,h7⟩:=h;have:=h6.length_eq;rw[hL] at this
 simpa using this
theorem VZ (w:World)(h:SM base w gm gc gp gn go gh n bd Hs F O L)(hn:n<=31)(hF:F.length<=n) :
  Calls Try.prog 24 #[.pointer (some ⟨gp,0,none⟩)] w (Y3 F.length w):=by
 obtain⟨M,o,nv,h1,h2,h3,h4,h5,h6,h7⟩:=h;obtain⟨x,q1,q2,q3⟩:=h4.top;exact WT base gm gc gp gn go n nv o M F w h2 h1 (by omega) x q1 q2 q3 h4.flt hF
theorem Qr (w:World)(h:SM base w gm gc gp gn go gh n bd Hs F O L)(hO:O.length<=31) :
  Calls Try.prog 25 #[.pointer (some ⟨gp,0,none⟩),.int .i64 0] w (Y3 O.length w):=by
 obtain⟨M,o,nv,h1,h2,h3,h4,h5,h6,h7⟩:=h;have e:o.xs.length=O.length:=by rw[h5,Zr]
 have:=Us base gm gc gp gn go n nv o w h2 (by omega)
 rwa [e] at this
end
theorem MoundRep.more {w:World}{base base' g:Nat}{ls:Ls}{sz:Int}(h:MoundRep w base g ls sz)(hb:base'<=base) : MoundRep w base' g ls sz:=by
 obtain⟨k,h1,h2,h3,h4⟩:=h;exact⟨k,h1,by omega,by omega,h4⟩
end
section
open Go.RowKit Go.ChangeShapes Go.WideShapes Go.ChangeAt Go.Deep
theorem V0 (a b:Int)(ha:0<=a)(ha':a<=2147483647)(hb:0<=b)(hb':b<=2147483647)(w:World) : Calls Try.prog 33 #[.int .i64 a,.int .i64 b] w fun e w'=>e=.returned (.tuple #[.int .i64 (a+b),.bool true])/\Ext w w':=by
 have wr:∀ z:Int,0<=z->z<=4294967294->IntKind.u64.wrap z=z:=fun z h1 h2=>by
  simp only[IntKind.wrap,IntKind.signed,IntKind.bits];simp;omega
 have u1:=wr a ha (by omega);have u2:=wr b hb (by omega);have u3:=wr (a+b) (by omega) (by omega);have u4:IntKind.i64.wrap (a+b)=a+b:=IntWalk.i64_in _ (by omega);have e1:¬a<0:=by omega
 have e2:¬b<0:=by omega
 have e3:¬a+b<0:=by omega
 clear wr;go_enter Try.func33,Try.ntmps33;go_wp2;go_ret2;exact⟨rfl,XI⟩
theorem Vj (w:World) : Calls Try.prog 10 #[] w fun e w'=>e=.returned (.bool true)/\Ext w w':=by
 go_enter Try.func10,Try.ntmps10;go_wp2_with (fail);refine(V0 2 3 (by omega) (by omega) (by omega) (by omega) _).mono ?_;rintro e w1 ⟨rfl,x1⟩;go_wp2_with (fail);go_ret;exact⟨rfl,Ext.tr (a:=w) XI x1⟩
end
end Go.Proofs.Ytgimmiaenkeohaa
