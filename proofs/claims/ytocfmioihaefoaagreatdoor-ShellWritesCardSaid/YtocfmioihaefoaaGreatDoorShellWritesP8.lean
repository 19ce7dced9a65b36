/- parts, packed by a program -/
import Derived.Test.YtocfmioihaefoaaGreatDoorShellWritesP7
import Derived.Sort.BigQuietIn
set_option maxRecDepth 100000
set_option maxHeartbeats 16000000
set_option linter.all false
namespace Go.Proofs.YtocfmioihaefoaaGreatDoor
open Go.ChangeAt Go.ChangeShapes Go.Deep Go.RowKit Go.WideShapes
section
theorem Zdm (bs gm gc gp gn go gh b lv ga:Nat)(M:List Int)(P:PoolS)(bd:Nat->Int)(a:HAct)(w:World)(H:HW w bs gm gc gp gn go gh b lv ga M P a)(hbd:PB P bd)(hn:P.n<=100000)(hb:b<=1048576)(i:Nat)(hi:a.pos=(i:Int))(h1:1<=i)(h2:i<=1048575)(y:Int)(hx:M[b+((2*i+1)-1)]?=some y)(hd:Zt a.hd)(hdl:pla a.hd<(P.n:Int))(hl:Zt a.lh)(hll:pla a.lh<(P.n:Int))(hy:Zt y)(hyl:pla y<(P.n:Int))(hs:0<=a.slot)(hq:Ux bd y a.lh=false)(hr:Ux bd a.lh a.hd=false) :
  Calls Tryz.prog 287 #[.pointer (some ⟨ga,0,none⟩)] w fun e w'=>e=.returned (.tuple #[])/\HW w' bs gm gc gp gn go gh b lv ga M P { a with rh:=y,ch:=2*(i:Int),chh:=a.lh,pos:=1,ph:=15 }/\Mod (PT ga gm gc) w w':=by
 have RE:=fun(W:World) (X:Ext w W)=>Yz gm gc gh b lv ga gp M W (H.ext X).h (H.ext X).m _ _ (H.ext X).a rfl hb (2*i+1) (by omega) (by omega) y hx
 rw[show ((2*i+1:Nat):Int)=2*(i:Int)+1 by omega] at RE;have wr1:IntKind.i64.wrap (2*(i:Int))=2*(i:Int):=IntWalk.i64_in _ (by omega);have wr2:IntKind.i64.wrap (2*(i:Int)+1)=2*(i:Int)+1:=IntWalk.i64_in _ (by omega);have L1:=Hd (fun(W:World) (a':HAct) (h:HW W bs gm gc gp gn go gh b lv ga M P a')=>W9 bs gm gc gp gn go gh b lv P bd W h.h h.p hbd hn y a.lh hy hl hyl hll);have L2:=Hd (fun(W:World) (a':HAct) (h:HW W bs gm gc gp gn go gh b lv ga M P a')=>W9 bs gm gc gp gn go gh b lv P bd W h.h h.p hbd hn a.lh a.hd hl hd hll hdl);rw[hq] at L1;rw[hr] at L2;replace RE:=Hd RE;have HH:=Hd H;have a12:w.cell? ⟨ga,12,none⟩=some (.int .i64 (i:Int)):=(Blk.cell H.a 12).trans (by simp[HAct.cells,hi]);clear H hx hq hr hy hl hyl hll hd hdl hbd hn;go_enter Tryz.func287,Tryz.ntmps287;go_wp2_with (fail);refine(RE.out _ XI).mono ?_;rintro e w1 ⟨rfl,m1,d1⟩;have H1:=Hd (HH.out.cell m1 d1);have D1:=Hd (d1.mono fun b _ h=>(.inr h:PT ga gm gc b));clear m1 d1 RE a12 HH;have c0:w1.cell? ⟨ga,16,none⟩=some (.int .i64 a.rh):=(Blk.cell H1.out.a 16);have f0:w1.frozen? ⟨ga,16,none⟩=false:=Blk.free H1.out.a 16;obtain⟨q1,q2⟩:=H1.out.field 16 (.int .i64 y) (a':={ a with rh:=y }) rfl;have H2:=Hd q1;have D2:=Hd (D1.out.tr (q2.mono fun b _ h=>(.inl h:PT ga gm gc b)));clear q1 q2 D1 H1;go_upto_region 1 with(fail);clear c0 f0;generalize w1.setCell ⟨ga,16,none⟩ (.int .i64 y)=w2 at *;refine wp_region_any (by kernel_rfl) ?_
 change wpAny _ _ _ _ _ _ _ (World.drew _)
 have HH:=Hd (H2.out.ext (show Ext w2 w2.drew from(Ext.rf _).drew));have DD:=Hd (D2.out.tr (Mod.of_ext (show Ext w2 w2.drew from(Ext.rf _).drew)));clear H2 D2;generalize w2.drew=w3 at *;have k12:w3.cell? ⟨ga,12,none⟩=some (.int .i64 (i:Int)):=(Blk.cell HH.out.a 12).trans (by simp[HAct.cells,hi]);have k15:w3.cell? ⟨ga,15,none⟩=some (.int .i64 a.lh):=(Blk.cell HH.out.a 15);refine Za 0 (.move (.tmp 0)) 205 (some 14) rfl (by kernel_rfl) Hq (by intro _;go_simp;try rfl) ?_;simp only[lay];refine Za 1 (.move (.tmp 0)) 205 (some 15) rfl (by kernel_rfl) Hq (by intro _;go_simp;try rfl) ?_;simp only[lay];refine Za 2 (.move (.tmp 0)) 205 (some 16) rfl (by kernel_rfl) Hq (by intro _;go_simp;try rfl) ?_;simp only[lay];refine Za 3 (.nilCheck (.tmp 16)) 0 (some 17) rfl (by kernel_rfl) Hq (by intro _;go_simp;try rfl) ?_;simp only[lay];refine Za 4 (.fieldAddr 293 (.tmp 17) 12) 0 (some 18) rfl (by kernel_rfl) Hq (by intro _;go_simp;try rfl) ?_;simp only[lay];refine Za 7 (.move (.tmp 0)) 205 (some 21) rfl (by kernel_rfl) Hq (by intro _;go_simp;try rfl) ?_;simp only[lay];refine Za 8 (.nilCheck (.tmp 21)) 0 (some 22) rfl (by kernel_rfl) Hq (by intro _;go_simp;try rfl) ?_;simp only[lay];refine Za 9 (.fieldAddr 293 (.tmp 22) 15) 0 (some 23) rfl (by kernel_rfl) Hq (by intro _;go_simp;try rfl) ?_;simp only[lay];refine Za 10 (.fieldAddr 291 (.tmp 23) 0) 0 (some 24) rfl (by kernel_rfl) Hq (by intro _;go_simp;try rfl) ?_;simp only[lay];refine Zm (n:=8) [(5,some 19),(6,some 20),(11,some 25)] (fun | 5=>.int .i64 (i:Int) | 6=>.int .i64 (2*(i:Int)) | 11=>.int .i64 a.lh | _=>undef) #[true,true,true,true,true,true,true,true,true,true,true,true,false,false,false,false,false,false,false,false] (by decide +kernel) ?_ ?_
 ·intro pS hpm uS hD K hK
  simp only[List.mem_cons,List.not_mem_nil,or_false] at hpm;rcases hpm with rfl | rfl | rfl
  ·exact Ze (T:=3) (x:=Operand.tmp 18) (t:=3) (d:=some 19) rfl (.pointer (some ⟨ga,12,none⟩)) (by kernel_rfl) (.int .i64 (i:Int)) (by go_simp) hK
  ·(have e5:uS 5=.int .i64 (i:Int):=hD 5 (Zg (by kernel_rfl));exact Zl (op:=Op.binOp BinOp.mul 3 (Operand.const (Value.int IntKind.i64 2)) (Operand.tmp 19) 3) (t:=3) (d:=some 20) rfl (.int .i64 (2*(i:Int))) (by simp only[Zc,Act.put,List.setIfInBounds_toArray,List.set_cons_zero,List.set_cons_succ];unfold Zj;go_simp;try simp only[e5];try go_simp) hK)
  ·exact Ze (T:=3) (x:=Operand.tmp 24) (t:=3) (d:=some 25) rfl (.pointer (some ⟨ga,15,none⟩)) (by kernel_rfl) (.int .i64 a.lh) (by go_simp) hK
 simp only[Zc,Act.put,List.setIfInBounds_toArray,List.set_cons_zero,List.set_cons_succ];refine Za 12 (.nilCheck (.tmp 14)) 0 (some 26) rfl (by kernel_rfl) Hq (by intro _;go_simp;try rfl) ?_;simp only[lay];refine Za 13 (.fieldAddr 293 (.tmp 26) 15) 0 (some 27) rfl (by kernel_rfl) Hq (by intro _;go_simp;try rfl) ?_;simp only[lay];refine Za 14 (.fieldAddr 291 (.tmp 27) 2) 0 (some 28) rfl (by kernel_rfl) Hq (by intro _;go_simp;try rfl) ?_;simp only[lay];have c7:w3.cell? ⟨ga,17,none⟩=some (.int .i64 (a.ch)):=(Blk.cell HH.out.a 17);have f7:w3.frozen? ⟨ga,17,none⟩=false:=Blk.free HH.out.a 17;obtain⟨q1,q2⟩:=HW.field HH.out 17 (.int .i64 (2*(i:Int))) (a':={ a with rh:=y,ch:=2*(i:Int) }) rfl;have c8:(w3.setCell ⟨ga,17,none⟩ (.int .i64 (2*(i:Int)))).cell? ⟨ga,18,none⟩=some (.int .i64 (a.chh)):=(Blk.cell q1.a 18);have f8:(w3.setCell ⟨ga,17,none⟩ (.int .i64 (2*(i:Int)))).frozen? ⟨ga,18,none⟩=false:=Blk.free q1.a 18;obtain⟨r1,r2⟩:=HW.field q1 18 (.int .i64 (a.lh)) (a':={ a with rh:=y,ch:=2*(i:Int),chh:=a.lh }) rfl;have H4:=Hd r1;have D4:=Hd (DD.out.tr ((q2.tr r2).mono fun b _ h=>(.inl h:PT ga gm gc b)));clear q1 q2 r1 r2 DD;refine Zd 15 (by decide +kernel) (ZR rfl (.pointer (some ⟨ga,17,none⟩)) (.int .i64 (2*(i:Int))) (by kernel_rfl) (by kernel_rfl) (by go_simp;rfl) ?_)
 try simp only[lay]
 refine Za 16 (.nilCheck (.tmp 15)) 0 (some 29) rfl (by kernel_rfl) Hq (by intro _;go_simp;try rfl) ?_;simp only[lay];refine Za 17 (.fieldAddr 293 (.tmp 29) 15) 0 (some 30) rfl (by kernel_rfl) Hq (by intro _;go_simp;try rfl) ?_;simp only[lay];refine Za 18 (.fieldAddr 291 (.tmp 30) 3) 0 (some 31) rfl (by kernel_rfl) Hq (by intro _;go_simp;try rfl) ?_;simp only[lay];refine Zd 19 (by decide +kernel) (ZR rfl (.pointer (some ⟨ga,18,none⟩)) (.int .i64 a.lh) (by kernel_rfl) (by kernel_rfl) (by go_simp;rfl) ?_);refine wpAny_done (by kernel_rfl) ?_ _;go_simp;clear c7 f7 c8 f8 HH k12 k15;generalize (w3.setCell ⟨ga,17,none⟩ (.int .i64 (2*(i:Int)))).setCell ⟨ga,18,none⟩ (.int .i64 a.lh)=w4 at *;go_upto_region 2 with(fail);refine wp_region_any (by kernel_rfl) ?_
 change wpAny _ _ _ _ _ _ _ (World.drew _)
 have k0:w4.drew.cell? ⟨ga,0,none⟩=some (.pointer (some ⟨gh,0,none⟩)):=(Blk.cell H4.out.a 0);have k16:w4.drew.cell? ⟨ga,16,none⟩=some (.int .i64 y):=(Blk.cell H4.out.a 16);have k15:w4.drew.cell? ⟨ga,15,none⟩=some (.int .i64 a.lh):=(Blk.cell H4.out.a 15);refine Za 0 (.move (.tmp 0)) 205 (some 32) rfl (by kernel_rfl) Hq (by intro _;go_simp;try rfl) ?_;simp only[lay];refine Za 1 (.nilCheck (.tmp 32)) 0 (some 33) rfl (by kernel_rfl) Hq (by intro _;go_simp;try rfl) ?_;simp only[lay];refine Za 2 (.fieldAddr 293 (.tmp 33) 0) 0 (some 34) rfl (by kernel_rfl) Hq (by intro _;go_simp;try rfl) ?_;simp only[lay];refine Za 4 (.move (.tmp 0)) 205 (some 36) rfl (by kernel_rfl) Hq (by intro _;go_simp;try rfl) ?_;simp only[lay];refine Za 5 (.nilCheck (.tmp 36)) 0 (some 37) rfl (by kernel_rfl) Hq (by intro _;go_simp;try rfl) ?_;simp only[lay];refine Za 6 (.fieldAddr 293 (.tmp 37) 15) 0 (some 38) rfl (by kernel_rfl) Hq (by intro _;go_simp;try rfl) ?_;simp only[lay];refine Za 7 (.fieldAddr 291 (.tmp 38) 1) 0 (some 39) rfl (by kernel_rfl) Hq (by intro _;go_simp;try rfl) ?_;simp only[lay];refine Za 9 (.move (.tmp 0)) 205 (some 41) rfl (by kernel_rfl) Hq (by intro _;go_simp;try rfl) ?_;simp only[lay];refine Za 10 (.nilCheck (.tmp 41)) 0 (some 42) rfl (by kernel_rfl) Hq (by intro _;go_simp;try rfl) ?_;simp only[lay];refine Za 11 (.fieldAddr 293 (.tmp 42) 15) 0 (some 43) rfl (by kernel_rfl) Hq (by intro _;go_simp;try rfl) ?_;simp only[lay];refine Za 12 (.fieldAddr 291 (.tmp 43) 0) 0 (some 44) rfl (by kernel_rfl) Hq (by intro _;go_simp;try rfl) ?_;simp only[lay];refine Zm (n:=1) [(3,some 35),(8,some 40),(13,some 45)] (fun | 3=>.pointer (some ⟨gh,0,none⟩) | 8=>.int .i64 y | 13=>.int .i64 a.lh | _=>undef) #[true,true,true,true,true,true,true,true,true,true,true,true,true,true,false] (by decide +kernel) ?_ ?_
 ·intro pS hpm uS hD K hK
  simp only[List.mem_cons,List.not_mem_nil,or_false] at hpm;rcases hpm with rfl | rfl | rfl
  ·exact Ze (T:=188) (x:=Operand.tmp 34) (t:=188) (d:=some 35) rfl (.pointer (some ⟨ga,0,none⟩)) (by kernel_rfl) (.pointer (some ⟨gh,0,none⟩)) (by go_simp) hK
  ·exact Ze (T:=3) (x:=Operand.tmp 39) (t:=3) (d:=some 40) rfl (.pointer (some ⟨ga,16,none⟩)) (by kernel_rfl) (.int .i64 y) (by go_simp) hK
  ·exact Ze (T:=3) (x:=Operand.tmp 44) (t:=3) (d:=some 45) rfl (.pointer (some ⟨ga,15,none⟩)) (by kernel_rfl) (.int .i64 a.lh) (by go_simp) hK
 simp only[Zc,Act.put,List.setIfInBounds_toArray,List.set_cons_zero,List.set_cons_succ];refine Zd 14 (by decide +kernel) (Zi (f:=327) (xs:=#[Operand.tmp 35,Operand.tmp 40,Operand.tmp 45]) (ts:=#[188,3,3]) (t:=4) (d:=some 46) rfl #[.pointer (some ⟨gh,0,none⟩),.int .i64 y,.int .i64 a.lh] (by go_simp) (by kernel_rfl) _ (L1.out _ _ (H4.out.ext (Ext.rf _).drew)) ?_);rintro e w5 ⟨rfl,x5⟩;have H5:=Hd ((H4.out.ext (Ext.rf _).drew).ext x5);have D5:=Hd (D4.out.tr (Mod.of_ext (Ext.tr (Ext.rf w4).drew x5)));clear x5 L1 H4 D4 k0 k15 k16;refine⟨_,rfl,?_⟩
 try simp only[lay]
 refine wpAny_done (by kernel_rfl) ?_ _;go_simp;have H7:=H5;have D7:=D5;clear H5 D5;obtain⟨w7,rfl⟩:=Wq w5;go_upto_region 4 with(fail);refine wp_region_any (by kernel_rfl) ?_
 change wpAny _ _ _ _ _ _ _ (World.drew _)
 have k0:w7.drew.cell? ⟨ga,0,none⟩=some (.pointer (some ⟨gh,0,none⟩)):=(Blk.cell H7.out.a 0);have k18:w7.drew.cell? ⟨ga,18,none⟩=some (.int .i64 a.lh):=(Blk.cell H7.out.a 18);have k13:w7.drew.cell? ⟨ga,13,none⟩=some (.int .i64 a.hd):=(Blk.cell H7.out.a 13);refine Za 0 (.move (.tmp 0)) 205 (some 66) rfl (by kernel_rfl) Hq (by intro _;go_simp;try rfl) ?_;simp only[lay];refine Za 1 (.nilCheck (.tmp 66)) 0 (some 67) rfl (by kernel_rfl) Hq (by intro _;go_simp;try rfl) ?_;simp only[lay];refine Za 2 (.fieldAddr 293 (.tmp 67) 0) 0 (some 68) rfl (by kernel_rfl) Hq (by intro _;go_simp;try rfl) ?_;simp only[lay];refine Za 4 (.move (.tmp 0)) 205 (some 70) rfl (by kernel_rfl) Hq (by intro _;go_simp;try rfl) ?_;simp only[lay];refine Za 5 (.nilCheck (.tmp 70)) 0 (some 71) rfl (by kernel_rfl) Hq (by intro _;go_simp;try rfl) ?_;simp only[lay];refine Za 6 (.fieldAddr 293 (.tmp 71) 15) 0 (some 72) rfl (by kernel_rfl) Hq (by intro _;go_simp;try rfl) ?_;simp only[lay];refine Za 7 (.fieldAddr 291 (.tmp 72) 3) 0 (some 73) rfl (by kernel_rfl) Hq (by intro _;go_simp;try rfl) ?_;simp only[lay];refine Za 9 (.move (.tmp 0)) 205 (some 75) rfl (by kernel_rfl) Hq (by intro _;go_simp;try rfl) ?_;simp only[lay];refine Za 10 (.nilCheck (.tmp 75)) 0 (some 76) rfl (by kernel_rfl) Hq (by intro _;go_simp;try rfl) ?_;simp only[lay];refine Za 11 (.fieldAddr 293 (.tmp 76) 13) 0 (some 77) rfl (by kernel_rfl) Hq (by intro _;go_simp;try rfl) ?_;simp only[lay];refine Zm (n:=2) [(3,some 69),(8,some 74),(12,some 78)] (fun | 3=>.pointer (some ⟨gh,0,none⟩) | 8=>.int .i64 a.lh | 12=>.int .i64 a.hd | _=>undef) #[true,true,true,true,true,true,true,true,true,true,true,true,true,false,false] (by decide +kernel) ?_ ?_
 ·intro pS hpm uS hD K hK
  simp only[List.mem_cons,List.not_mem_nil,or_false] at hpm;rcases hpm with rfl | rfl | rfl
  ·exact Ze (T:=188) (x:=Operand.tmp 68) (t:=188) (d:=some 69) rfl (.pointer (some ⟨ga,0,none⟩)) (by kernel_rfl) (.pointer (some ⟨gh,0,none⟩)) (by go_simp) hK
  ·exact Ze (T:=3) (x:=Operand.tmp 73) (t:=3) (d:=some 74) rfl (.pointer (some ⟨ga,18,none⟩)) (by kernel_rfl) (.int .i64 a.lh) (by go_simp) hK
  ·exact Ze (T:=3) (x:=Operand.tmp 77) (t:=3) (d:=some 78) rfl (.pointer (some ⟨ga,13,none⟩)) (by kernel_rfl) (.int .i64 a.hd) (by go_simp) hK
 simp only[Zc,Act.put,List.setIfInBounds_toArray,List.set_cons_zero,List.set_cons_succ];refine Zd 13 (by decide +kernel) (Zi (f:=327) (xs:=#[Operand.tmp 69,Operand.tmp 74,Operand.tmp 78]) (ts:=#[188,3,3]) (t:=4) (d:=some 79) rfl #[.pointer (some ⟨gh,0,none⟩),.int .i64 a.lh,.int .i64 a.hd] (by go_simp) (by kernel_rfl) _ (L2.out _ _ (H7.out.ext (Ext.rf _).drew)) ?_);rintro e w8 ⟨rfl,x8⟩;have H8:=Hd ((H7.out.ext (Ext.rf _).drew).ext x8);have D8:=Hd (D7.out.tr (Mod.of_ext (Ext.tr (Ext.rf w7).drew x8)));clear x8 L2 H7 D7 k0 k13 k18;refine⟨_,rfl,?_⟩
 try simp only[lay]
 refine Za 14 (.unOp .not 4 (.tmp 79)) 4 (some 80) rfl (by kernel_rfl) Hq (by intro _;go_simp;try rfl) ?_;simp only[lay];refine wpAny_done (by kernel_rfl) ?_ _;go_simp;have TI:=Hd (fun(W:World) (X:Ext w8 W)=>ZbN bs gm gc gp gn go gh b lv ga M P { a with rh:=y,ch:=2*(i:Int),chh:=a.lh } W (H8.out.ext X) hs);go_wp2_with (fail);refine(TI.out _ XI).mono ?_;rintro e w9 ⟨rfl,h9,d9⟩;have H9:=Hd h9;have D9:=Hd (D8.out.tr (Mod.tr (Mod.of_ext (S:=PT ga gm gc) (show Ext w8 _ from XI)) (d9.mono fun b _ h=>(.inl h:PT ga gm gc b))));clear h9 d9 TI;go_wp2_with (fail);exact bodyPost_ret (results_none rfl _ _ _) rfl ⟨rfl,H9.out,D9.out⟩
theorem Zg0 {w0 w:World}{bs gm gc gp gn go gh b lv ga:Nat}{M M':List Int}{P:PoolS}{a:HAct}{Q:World->Prop}{f:Nat}(a':HAct)(H:HW w bs gm gc gp gn go gh b lv ga M P a)(h:a.ph=2)(D:Mod (PT ga gm gc) w0 w)(hn:a'.ph≠15)(C:∀ W,HW W bs gm gc gp gn go gh b lv ga M P a->Calls Tryz.prog 280 #[.pointer (some ⟨ga,0,none⟩)] W fun e w'=>e=.returned (.tuple #[])/\HW w' bs gm gc gp gn go gh b lv ga M' P a'/\Mod (PT ga gm gc) W w')(K:∀ w',HW w' bs gm gc gp gn go gh b lv ga M' P a'->Mod (PT ga gm gc) w0 w'->HRuns ga Q f w') : HRuns ga Q (f+1) w :=
 Zhj H.a h (fun W b'=>b'=a'/\HW W bs gm gc gp gn go gh b lv ga M' P a'/\Mod (PT ga gm gc) w0 W) (fun W b' h=>h.1 ▸ h.2.1.a) (fun W X=>(C W (H.ext X)).mono fun e w' h=>⟨h.1,a',rfl,h.2.1,(D.tr (Mod.of_ext X)).tr h.2.2⟩) (fun w' b' h=>by
  obtain⟨rfl,h1,h2⟩:=h;rw[if_neg hn];exact K w' h1 h2)
theorem ZgA {w0 w:World}{bs gm gc gp gn go gh b lv ga:Nat}{M M':List Int}{P:PoolS}{a:HAct}{Q:World->Prop}{f:Nat}(a':HAct)(H:HW w bs gm gc gp gn go gh b lv ga M P a)(h:a.ph=3)(D:Mod (PT ga gm gc) w0 w)(hn:a'.ph=15)(C:∀ W,HW W bs gm gc gp gn go gh b lv ga M P a->Calls Tryz.prog 281 #[.pointer (some ⟨ga,0,none⟩)] W fun e w'=>e=.returned (.tuple #[])/\HW w' bs gm gc gp gn go gh b lv ga M' P a'/\Mod (PT ga gm gc) W w')(K:∀ w',HW w' bs gm gc gp gn go gh b lv ga M' P a'->Mod (PT ga gm gc) w0 w'->Q w') : HRuns ga Q (f+1) w :=
 Zhk H.a h (fun W b'=>b'=a'/\HW W bs gm gc gp gn go gh b lv ga M' P a'/\Mod (PT ga gm gc) w0 W) (fun W b' h=>h.1 ▸ h.2.1.a) (fun W X=>(C W (H.ext X)).mono fun e w' h=>⟨h.1,a',rfl,h.2.1,(D.tr (Mod.of_ext X)).tr h.2.2⟩) (fun w' b' h=>by
  obtain⟨rfl,h1,h2⟩:=h;rw[if_pos hn];exact K w' h1 h2)
theorem HRuns.more {ga:Nat}{Q:World->Prop} : ∀ {f f':Nat} {w:World},HRuns ga Q f w->f<=f'->HRuns ga Q f' w
 | 0,_,_,h,_=>h.elim
 | f+1,0,_,_,h=>absurd h (by omega)
 | f+1,f'+1,_,h,hf=>fun W X=>(h W X).mono fun e w' he=>he.imp id fun q=>⟨q.1,q.2.more (by omega)⟩
theorem OwI.some0 {w:World}{base c:Nat}{A:Option Addr}{xs:List Int}(h:OwI w base A c xs)(h0:0<xs.length) : ∃ b,A=some ⟨b,0,none⟩/\base<=b/\b<w.heap.size:=by
 obtain⟨g,x,e,h1,h2,_⟩:=h.at h0;exact⟨g,e,h1,h2⟩
theorem OwI.rd {w:World}{base b c:Nat}{xs:List Int}(h:OwI w base (some ⟨b,0,none⟩) c xs){k:Nat}{x:Int}(hk:xs[k]?=some x) : w.cell? ⟨b,0+k,none⟩=some (.int .i64 x):=by
 obtain⟨hl,_⟩:=List.getElem?_eq_some_iff.1 hk;obtain⟨y,h1,_,_,h2,_⟩:=h.cell hl;have:=h2.out;rw[hk] at this
 injection this with this
 rw[Nat.zero_add,this];exact h1
theorem PX.pz {ga gm gc gx base b:Nat}(h:PX ga gm gc gx b)(hb:base<=gx) : PZ ga gm gc base b:=h.elim .inl fun e=>.inr (by omega)
theorem HW.way {w w':World}{bs gm gc gp gn go gh b lv ga base gx c:Nat}{M:List Int}{P:PoolS}{a:HAct}{A:Option Addr}{xs:List Int}(h:HW w bs gm gc gp gn go gh b lv ga M P a)(ho:OwI w base A c xs)(hgc:gc<base)(hA:bl A≠some gx)(hm:Mod (PX ga gm gc gx) w w') : OwI w' base A c xs:=by
 obtain⟨⟨st,k,c',o,n,d,m1⟩,m2⟩:=h.m;refine ho.mod hm fun g hg hS=>?_
 rcases hS with(rfl | rfl | rfl) | rfl
 ·exact ho.ne h.a (by decide) g hg rfl
 ·exact ho.ne m1 (by decide) g hg rfl
 ·have:=(ho.lt g hg).1;omega
 ·exact hA hg
theorem ZbR : Xg 4=[1,2,4]:=by decide
theorem VO : Zt 0:=by unfold Zt;omega
theorem ZeG : pla 0=-1:=by decide
theorem ZbS (bd:Nat->Int)(k:Int) : Ua bd 0 k=false:=by unfold Ua;rw[ZeG];simp
theorem ZbT (bs gm gc gp gn go gh ga base:Nat)(P:PoolS)(bd:Nat->Int)(hP:P.n=64)(hbd:PB P bd)(w0:World)(M:List Int)(h0:∀ i,1<=i->i<=7->M[65+(i-1)]?=some 0)(hl:M.length=210)(hob:∀ (k:Nat) (o:OwL),P.ows[k]?=some o->∀ b,bl o.A=some b->b<base)(hgc:gc<base)(A:Option Addr)(c:Nat)(Q:World->Prop)
  (hQ:∀ w' a',HW w' bs gm gc gp gn go gh 65 3 ga ((M.set 72 (-1)).set 65 (upP 0 0)) P a'->a'.ph=15->a'.fits=true->Mod (PZ ga gm gc base) w0 w'->Q w')
  (a:HAct) (w:World) (H:HW w bs gm gc gp gn go gh 65 3 ga M P a) (hph:a.ph=0) (hsl:a.slot=((0:Nat):Int)) (hpr:a.probe=((0:Nat):Int)) (hdr:a.draws=⟨A,c,[0]⟩) (ho:OwI w base A c [0]) (hbw:base<=w.heap.size) (D:Mod (PZ ga gm gc base) w0 w):HRuns ga Q 5 w:=by
 obtain⟨b1,rfl,hb1,hb1'⟩:=ho.some0 (by simp);have hne:b1≠gm/\b1≠gc:=by
  obtain⟨⟨st,k,c',o,n,d,m1⟩,m2⟩:=H.m;exact⟨fun e=>ho.ne m1 (by decide) b1 rfl e,by omega⟩
 have m4:M[65+(4-1)]?=some 0:=h0 4 (by omega) (by omega);have m2:M[65+(2-1)]?=some 0:=h0 2 (by omega) (by omega);have m1:M[65+(1-1)]?=some 0:=h0 1 (by omega) (by omega);have cmid:∀ W {b c'},OwI W base (some ⟨b,0,none⟩) c' (ints (Xg 4))->∀ k,k<3->W.cell? ⟨b,0+k,none⟩=some (.int .i64 (((Xg 4).getD k 0:Nat):Int)):=fun W b c' o k hk=>o.rd (ZaF (by rw[ZbR];exact hk))
 refine Zhi H.a hph (fun w' b=>∃ (A':Option Addr) (c' gx:Nat),b={ a with way:=⟨A',c',ints (Xg 4)⟩,heads:=⟨some ⟨gx,0,none⟩,3,[0,0,0]⟩,low:=0,high:=2,ph:=1 }/\HW w' bs gm gc gp gn go gh 65 3 ga M P b/\OwI w' base A' c' (ints (Xg 4))/\Blk w' gx 3 (List.toArray (Xq [0,0,0]))/\base<=gx/\bl A'≠some gx/\Mod (PZ ga gm gc base) w0 w') (fun W b h=>by obtain⟨_,_,_,_,h,_⟩:=h;exact h.a) (fun W X=>?_) (fun w' b h=>?_)
 ·refine ZaL bs gm gc gp gn go gh 65 3 ga M P bd a W (H.ext X) hbd (by omega) (by omega) 2 rfl (by omega) 1 0 (by rw[hdr];rfl) (by omega) hpr (by omega) b1 0 (by rw[hdr]) 0 ((ho.ext X).rd rfl) (by have:=X.size;omega) hne 4 (by decide) 0 m4 VO (by rw[ZeG,hP];decide) 0 hsl (by omega) (ZbS _ _) _ (fun W1 A' c' gx nx g1 g2 g3 g4 g5 g6 g7=>?_)
  have hz:=X.size;obtain rfl:nx=3:=by rw[g1,ZbR];rfl
  refine(Ju bs gm gc gp gn go gh 65 3 ga M P _ W1 g2 (by show (0:Int)≠((3-1:Nat):Int);decide)).mono fun e w' g=>?_
  obtain⟨h1,h2⟩:=g;exact⟨h1,_,A',c',gx,rfl,g2.ext h2,(g3.more (by omega)).ext h2,g4.ext h2,by omega,g6,((D.tr (Mod.of_ext X)).tr (g7.mono fun _ _ e=>e.imp id (fun e=>by omega))).tr (Mod.of_ext h2)⟩
 obtain⟨A',c',gx,rfl,H1,o1,x1,hgx,hA,D1⟩:=h;rw[if_neg (by simp)];clear H ho D hb1 hb1' hne cmid;have cmid:∀ W {b c'},OwI W base (some ⟨b,0,none⟩) c' (ints (Xg 4))->∀ k,k<3->W.cell? ⟨b,0+k,none⟩=some (.int .i64 (((Xg 4).getD k 0:Nat):Int)):=fun W b c' o k hk=>o.rd (ZaF (by rw[ZbR];exact hk))
 have l4:(ints (Xg 4)).length=3:=by rw[ZbR];rfl
 have hgo:∀ (k:Nat) (o:OwL),P.ows[k]?=some o->bl o.A≠some gx:=fun k o hk e=>by have:=hob k o hk _ e;omega
 obtain⟨b2,rfl,hb2,hb2'⟩:=o1.some0 (by rw[l4];omega);refine ZgZ H1.a rfl (fun w' b=>b={ a with way:=⟨some ⟨b2,0,none⟩,c',ints (Xg 4)⟩,heads:=⟨some ⟨gx,0,none⟩,3,[0,0,0]⟩,low:=0,high:=1,ph:=1 }/\HW w' bs gm gc gp gn go gh 65 3 ga M P b/\OwI w' base (some ⟨b2,0,none⟩) c' (ints (Xg 4))/\Blk w' gx 3 (List.toArray (Xq [0,0,0]))/\Mod (PZ ga gm gc base) w0 w') (fun W b h=>h.2.1.a) (fun W X=>?_) (fun w2 b h=>?_)
 ·refine QI bs gm gc gp gn go gh 65 3 ga M P bd _ W (H1.ext X) hbd (by omega) (by omega) 0 2 1 rfl (by omega) rfl rfl b2 0 3 3 gx [0,0,0] rfl l4 rfl rfl (by omega) (by omega) (by omega) (by omega) 2 (by have:=cmid W (o1.ext X) 1 (by omega);rw[ZbR] at this;exact this) (by have:=X.size;omega) (x1.ext X) (by omega) hgo (by omega) (by omega) 0 m2 VO (by rw[ZeG,hP];decide) 0 hsl (by omega) (ZbS _ _) _ (fun W1 g1 g2 g3=>?_) ?_
  ·refine(Ju bs gm gc gp gn go gh 65 3 ga M P _ W1 g1 (by show (0:Int)≠((1:Nat):Int);decide)).mono fun e w' g=>?_
   obtain⟨g4,g5⟩:=g;exact⟨g4,_,rfl,g1.ext g5,((H1.ext X).way (o1.ext X) hgc hA g3).ext g5,g2.ext g5,((D1.tr (Mod.of_ext X)).tr (g3.mono fun _ _ e=>e.pz hgx)).tr (Mod.of_ext g5)⟩
  ·exact fun W1 W2 g x2=>by
    obtain⟨b,e,g1,g2,g3,g4⟩:=g;exact⟨b,e,g1.ext x2,g2.ext x2,g3.ext x2,g4.tr (Mod.of_ext x2)⟩
 obtain⟨rfl,H2,o2,x2,D2⟩:=h;rw[if_neg (by simp)];clear H1 o1 x1 D1 hb2';have hb2':=(o2.lt b2 rfl).2;refine ZgZ H2.a rfl (fun w' b=>b={ a with way:=⟨some ⟨b2,0,none⟩,c',ints (Xg 4)⟩,heads:=⟨some ⟨gx,0,none⟩,3,[0,0,0]⟩,low:=0,high:=0,pos:=1,hd:=0,ph:=2 }/\HW w' bs gm gc gp gn go gh 65 3 ga M P b/\Mod (PZ ga gm gc base) w0 w') (fun W b h=>h.2.1.a) (fun W X=>?_) (fun w3 b h=>?_)
 ·refine QI bs gm gc gp gn go gh 65 3 ga M P bd _ W (H2.ext X) hbd (by omega) (by omega) 0 1 0 rfl (by omega) rfl rfl b2 0 3 3 gx [0,0,0] rfl l4 rfl rfl (by omega) (by omega) (by omega) (by omega) 1 (by have:=cmid W (o2.ext X) 0 (by omega);rw[ZbR] at this;exact this) (by have:=X.size;omega) (x2.ext X) (by omega) hgo (by omega) (by omega) 0 m1 VO (by rw[ZeG,hP];decide) 0 hsl (by omega) (ZbS _ _) _ (fun W1 g1 g2 g3=>?_) ?_
  ·have o3:=(H2.ext X).way (o2.ext X) hgc hA g3
   refine(ZbO bs gm gc gp gn go gh 65 3 ga M P _ W1 g1 0 rfl rfl b2 0 gx 0 3 3 rfl rfl l4 rfl 1 0 (by have:=cmid W1 o3 0 (by omega);rw[ZbR] at this;exact this) (by exact g2.cell 0) (by omega) (by omega) (by omega) (by omega)).mono fun e w' g=>?_
   obtain⟨g4,g5,g6⟩:=g;exact⟨g4,_,rfl,g5,((D2.tr (Mod.of_ext X)).tr (g3.mono fun _ _ e=>e.pz hgx)).tr (g6.mono fun _ _ e=>.inl (.inl e))⟩
  ·exact fun W1 W2 g x2=>by
    obtain⟨b,e,g1,g2⟩:=g;exact⟨b,e,g1.ext x2,g2.tr (Mod.of_ext x2)⟩
 obtain⟨rfl,H3,D3⟩:=h;rw[if_neg (by simp)];clear H2 o2 x2 D2;have pz:∀ {u v:World},Mod (PT ga gm gc) u v->Mod (PZ ga gm gc base) u v:=fun h=>h.mono fun _ _ e=>.inl e
 refine Zg0 { a with way:=⟨some ⟨b2,0,none⟩,c',ints (Xg 4)⟩,heads:=⟨some ⟨gx,0,none⟩,3,[0,0,0]⟩,low:=0,high:=0,pos:=1,hd:=0,ph:=3 } H3 rfl (Mod.rf _) (by simp) (fun W h=>Zdk bs gm gc gp gn go gh 65 3 ga M P _ W h (by omega) (by omega) VO 0 hsl (by omega) (by rw[hl];decide)) (fun w4 H4 D4=>?_);refine ZgA { a with way:=⟨some ⟨b2,0,none⟩,c',ints (Xg 4)⟩,heads:=⟨some ⟨gx,0,none⟩,3,[0,0,0]⟩,low:=0,high:=0,pos:=1,hd:=0,fits:=true,ph:=15 } H4 rfl D4 rfl (fun W h=>ZeF bs gm gc gp gn go gh 65 3 ga _ P _ W h (by omega) 1 rfl (by omega) (by omega) 0 (by rw[List.getElem?_set_ne (by decide)];exact m1) VO rfl) (fun w5 H5 D5=>?_);have e1:pla 0=-1:=ZeG;have e2:(((0:Nat):Int))=0:=rfl;simp only[e1,hsl,e2] at H5;exact hQ w5 _ H5 rfl rfl (D3.tr (pz D5))
theorem JK : Zt 1:=by unfold Zt;omega
theorem Zho : pla 1=((0:Nat):Int):=by decide
theorem ZbU (bs gm gc gp gn go ga:Nat)(M:List Int)(P:PoolS)(hb:P.base=0)(ho:P.ows[0]?=some ⟨none,0,[]⟩)(hW:P.ows.length<=100)(h0:M[0]?=some 1)(h1:M[1]?=some 1)(w:World)(H:PW w bs gm gc gp gn go ga M P ⟨0,false,-1,0,0,0⟩)(Q:World->Prop)
  (hQ:∀ w',PW w' bs gm gc gp gn go ga (M.set 0 (upP 1 1)) P ⟨0,false,0,3,1,1⟩->Mod (PT ga gm gc) w w'->Q w'):PRuns ga Q 3 w:=by
 refine Zhl H.a rfl (fun w' b=>b=⟨0,false,-1,1,1,0⟩/\PW w' bs gm gc gp gn go ga M P b/\Mod (PT ga gm gc) w w') (fun W b h=>h.2.1.a) (fun W X=>?_) (fun w1 b h=>?_)
 ·refine(Zdb bs gm gc gp gn go ga M P _ ⟨none,0,[]⟩ W (H.ext X) ho hW (by omega) (by simp) (.inr ⟨rfl,rfl⟩) 1 (by rw[hb];exact h0) JK rfl (by decide)).mono fun e w' g=>?_
  exact⟨g.1,_,rfl,g.2.1,(Mod.of_ext X).tr g.2.2⟩
 obtain⟨rfl,H1,D1⟩:=h;rw[if_neg (by decide)];refine Zhm H1.a rfl (fun w' b=>b=⟨0,false,-1,2,1,1⟩/\PW w' bs gm gc gp gn go ga M P b/\Mod (PT ga gm gc) w w') (fun W b h=>h.2.1.a) (fun W X=>?_) (fun w2 b h=>?_)
 ·refine(Zaw bs gm gc gp gn go ga M P _ W (H1.ext X) (by omega) rfl JK 0 Zho (by omega) 1 (by rw[hb];exact h1)).mono fun e w' g=>?_
  exact⟨g.1,_,rfl,g.2.1,(D1.tr (Mod.of_ext X)).tr g.2.2⟩
 obtain⟨rfl,H2,D2⟩:=h;rw[if_neg (by decide)];refine Zhn H2.a rfl (fun w' b=>b=⟨0,false,0,3,1,1⟩/\PW w' bs gm gc gp gn go ga (M.set 0 (upP 1 1)) P b/\Mod (PT ga gm gc) w w') (fun W b h=>h.2.1.a) (fun W X=>?_) (fun w3 b h=>?_)
 ·refine(ZbD bs gm gc gp gn go ga M P _ W (H2.ext X) (by omega) rfl JK 1 (by rw[hb];exact h0) rfl).mono fun e w' g=>?_
  rw[hb] at g;exact⟨g.1,_,rfl,g.2.1,(D2.tr (Mod.of_ext X)).tr g.2.2⟩
 obtain⟨rfl,H3,D3⟩:=h;rw[if_pos (by decide)];exact hQ w3 H3 D3
def R3 (gm gc gn:Nat)(b:Nat) : Prop:=b=gm\/b=gc\/b=gn
theorem R3.no {w:World}{bs gm gc gp gn go:Nat}{M:List Int}{P:PoolS}(m:MemB w gm gc M)(p:PoolR w bs gm gc gp gn go P){b:Nat}{t:TypeId}{cs:Array Value}(hb:Blk w b t cs)(h1:t≠268)(h2:t≠3)(h3:t≠204) : ¬R3 gm gc gn b:=by
 rintro (h | h | h)
 ·exact m.no hb h1 h2 (.inl h)
 ·exact m.no hb h1 h2 (.inr h)
 ·subst h;exact hb.ne p.nd h3 rfl
theorem R3.no' {w:World}{bs gm gc gp gn go:Nat}{M:List Int}{P:PoolS}(m:MemB w gm gc M)(p:PoolR w bs gm gc gp gn go P) : gm≠gn/\gc≠gn:=by
 obtain⟨⟨st,k,c,o,n,d,m1⟩,m2⟩:=m;exact⟨m1.ne p.nd (by decide),m2.ne p.nd (by decide)⟩
def Yd (nv:List Value) : PoolS:=⟨0,64,nv,List.replicate 2 ⟨none,0,[]⟩⟩
def Xm (A:Option Addr)(c:Nat)(b:Int) : List Value:=((ZH 64).set 0 (.slice A 0 c)).set 1 (.int .i64 b)
def QJ (M:List Int) : List Int:=((M.set 0 (upP 1 1)).set 72 (-1)).set 65 (upP 0 0)
def Zg1 (bs gm gc gp gn go:Nat)(M:List Int)(b:Int)(w w':World) : Prop:=∃ A c,PoolR w' bs gm gc gp gn go (Yd (Xm A c b))/\OwI w' w.heap.size A c []/\MemB w' gm gc (QJ M)/\Mod (R3 gm gc gn) w w'
theorem Zdn {nv:List Value}{k:Nat}{o:OwL}(h:(Yd nv).ows[k]?=some o) : o=⟨none,0,[]⟩:=by
 unfold Yd at h;rw[List.getElem?_replicate] at h;split at h
 ·injection h with h;exact h.symm
 ·cases h
theorem QK (A:Option Addr)(c:Nat)(b:Int) : PB (Yd (Xm A c b)) (fun s=>if s=0 then b else 0):=by
 intro s hs;have hs':s<64:=hs;have hl:=Wp 64;show (((ZH 64).set 0 (.slice A 0 c)).set 1 (.int .i64 b))[s*2+1]?=some (.int .i64 (if s=0 then b else 0))
 by_cases h:s=0
 ·subst h
  rw[List.getElem?_set_self (by rw[List.length_set,hl];omega)]
  rfl
 ·rw[List.getElem?_set_ne (by omega),List.getElem?_set_ne (by omega),(QE 64 s hs').2,if_neg h]
theorem Zdo (bs gM gm gc gp gn go gH cH gh0 gk:Nat)(mc ch:Array Value)(M:List Int)(c b:Int)(w:World)(B:Blk w gM 120 mc)(h7:mc[7]?=some (.pointer (some ⟨gk,0,none⟩)))(h8:mc[8]?=some (.pointer (some ⟨gp,0,none⟩)))(h9:mc[9]?=some (.slice (some ⟨gH,0,none⟩) 2 cH))(Hc:Blk w gH 188 ch)(hc0:ch[0]?=some (.pointer (some ⟨gh0,0,none⟩)))(m:MemB w gm gc M)(L:Lay0 M c)(p:PoolR w bs gm gc gp gn go (Yd (ZH 64)))(hh:ZN w gh0 gm gp 65 3)
  (HB:∀ W,Ext w W->Calls Tryz.prog 94 #[.pointer (some ⟨gk,0,none⟩),.slice none 0 0] W fun e w'=>e=.returned (.tuple #[.int .i64 b,.int .i64 0])/\Ext W w') :
  Calls Tryz.prog 50 #[.pointer (some ⟨gM,0,none⟩)] w fun e w'=>e=.returned (.int .i64 0)/\Zg1 bs gm gc gp gn go M b w w':=by
 have nB:=R3.no m p B (by decide) (by decide) (by decide);have nH:=R3.no m p Hc (by decide) (by decide) (by decide);have nh:=R3.no m p hh (by decide) (by decide) (by decide);have cM:Hid (∀ W,Mod (R3 gm gc gn) w W->∀ i v,mc[i]?=some v->W.cell? ⟨gM,i,none⟩=some v):=Hd fun W d i v h=>((B.mod d nB).cell i).trans h
 have cH0:Hid (∀ W,Mod (R3 gm gc gn) w W->W.cell? ⟨gH,0,none⟩=some (.pointer (some ⟨gh0,0,none⟩))):=Hd fun W d=>((Hc.mod d nH).cell 0).trans hc0
 have hH:Hid (∀ W,Mod (R3 gm gc gn) w W->ZN W gh0 gm gp 65 3):=Hd fun W d=>Blk.mod hh d nh
 have zM:=B.lt;have zH:=Hc.lt;have zm:=Hd m.lt;have k7:w.cell? ⟨gM,7,none⟩=some (.pointer (some ⟨gk,0,none⟩)):=cM.out w (Mod.rf _) 7 _ h7;replace h7:=Hd h7;replace h8:=Hd h8;replace h9:=Hd h9;replace HB:=Hd HB;replace m:=Hd m;replace p:=Hd p;replace L:=Hd L;clear B Hc hc0 hh nB nH nh;go_enter Tryz.func50,Tryz.ntmps50;go_wp2_with (go_quiet (fail));refine(HB.out _ XI).mono ?_;rintro e w1 ⟨rfl,x1⟩;have X1:=Hd (Ext.tr (a:=w) XI x1);clear x1 HB k7;have k8:w1.cell? ⟨gM,8,none⟩=some (.pointer (some ⟨gp,0,none⟩)):=cM.out w1 (Mod.of_ext X1.out) 8 _ h8.out;have TA:=Hd (fun(W:World) (h:PoolR W bs gm gc gp gn go (Yd (ZH 64)))=>Zdc bs gm gc gp gn go (Yd (ZH 64)) W h 0 (by decide) (by decide));go_wp2_with (go_quiet (fail));refine(TA.out _ ((p.out.ext X1.out).ext XI)).mono ?_;rintro e w2 ⟨ga,rfl,a2,za,x2⟩;have X2:=Hd (X1.out.tr (Ext.tr (a:=w1) XI x2));have za':w.heap.size<=ga:=by have:=X1.out.size;have:w1.heap.size<=ga:=za;omega
 have P2:Hid (PW w2 bs gm gc gp gn go ga M (Yd (ZH 64)) ⟨0,false,-1,0,0,0⟩):=Hd ⟨m.out.ext X2.out,p.out.ext X2.out,a2⟩;clear x2 a2 k8 TA za p;have PR:=Hd (fun(W:World) (X:Ext w2 W)=>ZbU bs gm gc gp gn go ga M (Yd (ZH 64)) rfl rfl (by decide) L.out.top L.out.fst W (P2.out.ext X) (fun w'=>PW w' bs gm gc gp gn go ga (M.set 0 (upP 1 1)) (Yd (ZH 64)) ⟨0,false,0,3,1,1⟩/\Mod (PT ga gm gc) w2 w') (fun w' h d=>⟨h,(Mod.of_ext X).tr d⟩));go_wp2_with (go_quiet (fail));refine(ZeD ga 3 (by decide) (fun w'=>PW w' bs gm gc gp gn go ga (M.set 0 (upP 1 1)) (Yd (ZH 64)) ⟨0,false,0,3,1,1⟩/\Mod (PT ga gm gc) w2 w') (fun u u' h x=>⟨h.1.ext x,h.2.tr (Mod.of_ext x)⟩) _ (PR.out _ XI)).mono ?_;rintro e w3 ⟨rfl,P3,d3⟩;have D3:Hid (Mod (R3 gm gc gn) w w3):=Hd ((Mod.of_ext X2.out).tr' d3 fun i hi h=>h.elim (fun e=>by omega) (fun h=>h.elim .inl (fun e=>.inr (.inl e))));replace P3:=Hd P3;clear d3 PR P2 X2 X1;go_upto_region 6 with(go_quiet (fail));refine wp_region_any (by kernel_rfl) ?_
 change wpAny _ _ _ _ _ _ _ (World.drew _)
 refine Za 0 (.move (.tmp 0)) 78 (some 28) rfl (by kernel_rfl) Hq (by intro _;go_simp;try rfl) ?_;simp only[lay];refine Za 1 (.nilCheck (.tmp 28)) 0 (some 29) rfl (by kernel_rfl) Hq (by intro _;go_simp;try rfl) ?_;simp only[lay];refine Za 2 (.fieldAddr 120 (.tmp 29) 2) 0 (some 30) rfl (by kernel_rfl) Hq (by intro _;go_simp;try rfl) ?_;simp only[lay];refine Za 3 (.fieldAddr 117 (.tmp 30) 1) 0 (some 31) rfl (by kernel_rfl) Hq (by intro _;go_simp;try rfl) ?_;simp only[lay];refine Za 5 (.move (.tmp 5)) 198 (some 33) rfl (by kernel_rfl) Hq (by intro _;go_simp;try rfl) ?_;simp only[lay];refine Za 7 (.move (.tmp 3)) 3 (some 35) rfl (by kernel_rfl) Hq (by intro _;go_simp;try rfl) ?_;simp only[lay];refine Za 8 (.build 204 #[(1,.tmp 35)]) 204 (some 36) rfl (by kernel_rfl) Hq (by intro _;go_simp;try rfl) ?_;simp only[lay];have k8:w3.drew.cell? ⟨gM,8,none⟩=some (.pointer (some ⟨gp,0,none⟩)):=cM.out _ (D3.out.tr (Mod.of_ext (Ext.rf _).drew)) 8 _ h8.out;have z3:gM<w3.heap.size:=by have:=D3.out.size;omega
 have SL:=Hd (fun(W:World) (h:PW W bs gm gc gp gn go ga (M.set 0 (upP 1 1)) (Yd (ZH 64)) ⟨0,false,0,3,1,1⟩)=>Jo ga gp _ W h.a rfl);refine Zh (n:=1) [(4,some 32),(6,some 34)] (Ext w3) (VF (fun | 4=>some (.pointer (some ⟨gp,0,none⟩)) | 6=>some (.int .i64 0) | _=>none) (fun i v W=>True)) Ext #[true,true,true,true,true,true,true,true,true,false] (by decide +kernel) (VF.stab ?_) ?_ ?_ (by first | exact(Ext.rf _).drew | exact Ext.rf _)
 ·intro j v W W' _ _ _;trivial
 ·intro pS hpm uS wS hRW hD K hK
  simp only[List.mem_cons,List.not_mem_nil,or_false] at hpm;rcases hpm with rfl | rfl
  ·( have rX:=Zb hRW z3 (k8:w3.cell? ⟨gM,8,none⟩=_);exact Ze (T:=112) (x:=Operand.tmp 31) (t:=112) (d:=some 32) rfl (.pointer (some ⟨gM,8,none⟩)) (by kernel_rfl) (.pointer (some ⟨gp,0,none⟩)) (by go_simp) (hK _ _ (VF.mk rfl) hRW (Ext.rf _)))
  ·( exact Zi (f:=98) (xs:=#[Operand.tmp 33]) (ts:=#[198]) (t:=3) (d:=some 34) rfl #[.pointer (some ⟨ga,0,none⟩)] (by go_simp) (by kernel_rfl) _ (SL.out _ (P3.out.ext hRW)) (by rintro e w9 ⟨rfl,xx⟩;exact⟨_,rfl,hK _ _ (VF.mk rfl) (hRW.tr xx) xx⟩))
 intro u w4 hR4 hV;have h4:=(hV (4,some 32) (by simp)).k rfl;have h6:=(hV (6,some 34) (by simp)).k rfl;simp only[Zc,h4,h6];clear hV h4 h6
 try simp only[lay]
 have KE:=Hd (Zde bs gm gc gp gn go (Yd (ZH 64)) w4 (P3.out.p.ext hR4) 0 (by decide) (by decide) [] b none 0 (.inl rfl) (by simp));refine Zd 9 (by decide +kernel) (Zi (f:=97) (xs:=#[Operand.tmp 32,Operand.tmp 34,Operand.tmp 36]) (ts:=#[112,3,204]) (t:=0) (d:=some 37) rfl #[.pointer (some ⟨gp,0,none⟩),.int .i64 0,.agg #[.slice none 0 0,.int .i64 b]] (by go_simp) (by kernel_rfl) _ (KE.out) ?_);rintro e w5 ⟨rfl,⟨A',c',p5,o5⟩,d5⟩;have D5:Hid (Mod (R3 gm gc gn) w w5):=Hd ((D3.out.tr (Mod.of_ext hR4)).tr (d5.mono fun _ _ e=>.inr (.inr e)));have m5:Hid (MemB w5 gm gc (M.set 0 (upP 1 1))):=Hd (by have h:=P3.out.m.ext hR4;exact h.mod d5 (fun e=>(R3.no' h (P3.out.p.ext hR4)).1 e) (fun e=>(R3.no' h (P3.out.p.ext hR4)).2 e));have a5:Hid (Xe w5 ga gp ⟨0,false,0,3,1,1⟩):=Hd (Blk.mod (Blk.ext P3.out.a hR4) d5 (fun e=>Blk.ne (Blk.ext P3.out.a hR4) (P3.out.p.ext hR4).nd (by decide) e));have p5':Hid (PoolR w5 bs gm gc gp gn go (Yd (Xm A' c' b))):=Hd p5;have o5':Hid (OwI w5 w.heap.size A' c' []):=Hd (o5.more (by have:=D3.out.size;have:=hR4.size;omega));clear p5 o5 d5 KE SL P3 D3 hR4 k8 z3;refine⟨_,rfl,?_⟩
 try simp only[lay]
 refine wpAny_done (by kernel_rfl) ?_ _;go_simp;go_upto_region 7 with(go_quiet (fail));refine wp_region_any (by kernel_rfl) ?_
 change wpAny _ _ _ _ _ _ _ (World.drew _)
 refine Za 0 (.move (.tmp 0)) 78 (some 38) rfl (by kernel_rfl) Hq (by intro _;go_simp;try rfl) ?_;simp only[lay];refine Za 1 (.nilCheck (.tmp 38)) 0 (some 39) rfl (by kernel_rfl) Hq (by intro _;go_simp;try rfl) ?_;simp only[lay];refine Za 2 (.fieldAddr 120 (.tmp 39) 2) 0 (some 40) rfl (by kernel_rfl) Hq (by intro _;go_simp;try rfl) ?_;simp only[lay];refine Za 3 (.fieldAddr 117 (.tmp 40) 2) 0 (some 41) rfl (by kernel_rfl) Hq (by intro _;go_simp;try rfl) ?_;simp only[lay];refine Za 7 (.move (.tmp 5)) 198 (some 45) rfl (by kernel_rfl) Hq (by intro _;go_simp;try rfl) ?_;simp only[lay];have k9:w5.cell? ⟨gM,9,none⟩=some (.slice (some ⟨gH,0,none⟩) 2 cH):=cM.out _ D5.out 9 _ h9.out;have kH:w5.cell? ⟨gH,0,none⟩=some (.pointer (some ⟨gh0,0,none⟩)):=cH0.out _ D5.out;have z5:gM<w5.heap.size:=by have:=D5.out.size;omega
 have y5:gH<w5.heap.size:=by have:=D5.out.size;omega
 have SL:=Hd (fun(W:World) (X:Ext w5 W)=>Jo ga gp _ W (Blk.ext a5.out X) rfl);refine Zh (n:=2) [(4,some 42),(5,some 43),(6,some 44),(8,some 46)] (Ext w5) (VF (fun | 4=>some (.slice (some ⟨gH,0,none⟩) 2 cH) | 5=>some (.pointer (some ⟨gH,0,none⟩)) | 6=>some (.pointer (some ⟨gh0,0,none⟩)) | 8=>some (.int .i64 0) | _=>none) (fun i v W=>True)) Ext #[true,true,true,true,true,true,true,true,true,false,false] (by decide +kernel) (VF.stab ?_) ?_ ?_ (by first | exact(Ext.rf _).drew | exact Ext.rf _)
 ·intro j v W W' _ _ _;trivial
 ·intro pS hpm uS wS hRW hD K hK
  simp only[List.mem_cons,List.not_mem_nil,or_false] at hpm;rcases hpm with rfl | rfl | rfl | rfl
  ·( have rX:=Zb hRW z5 k9;exact Ze (T:=113) (x:=Operand.tmp 41) (t:=113) (d:=some 42) rfl (.pointer (some ⟨gM,9,none⟩)) (by kernel_rfl) (.slice (some ⟨gH,0,none⟩) 2 cH) (by go_simp) (hK _ _ (VF.mk rfl) hRW (Ext.rf _)))
  ·(have e4:uS 4=.slice (some ⟨gH,0,none⟩) 2 cH:=(hD 4 (Zg (by kernel_rfl))).k rfl;exact Zl (op:=Op.indexAddr 113 (Operand.tmp 42) (Operand.const (Value.int IntKind.i64 0))) (t:=0) (d:=some 43) rfl (.pointer (some ⟨gH,0,none⟩)) (by simp only[Zc,Act.put,List.setIfInBounds_toArray,List.set_cons_zero,List.set_cons_succ];unfold Zj;(try go_simp);(try simp only[e4]);(try go_simp);(try rfl);(try (exact IntWalk.i64_in _ (by omega)))) (hK _ _ (VF.mk rfl) hRW (Ext.rf _)))
  ·(have e5:uS 5=.pointer (some ⟨gH,0,none⟩):=(hD 5 (Zg (by kernel_rfl))).k rfl;have rX:=Zb hRW y5 kH;exact Ze (T:=188) (x:=Operand.tmp 43) (t:=188) (d:=some 44) rfl (.pointer (some ⟨gH,0,none⟩)) (Eq.trans (b:=uS 5) (by kernel_rfl) e5) (.pointer (some ⟨gh0,0,none⟩)) (by go_simp) (hK _ _ (VF.mk rfl) hRW (Ext.rf _)))
  ·( exact Zi (f:=98) (xs:=#[Operand.tmp 45]) (ts:=#[198]) (t:=3) (d:=some 46) rfl #[.pointer (some ⟨ga,0,none⟩)] (by go_simp) (by kernel_rfl) _ (SL.out _ hRW) (by rintro e w9 ⟨rfl,xx⟩;exact⟨_,rfl,hK _ _ (VF.mk rfl) (hRW.tr xx) xx⟩))
 intro u w6 hR6 hV;have h4:=(hV (4,some 42) (by simp)).k rfl;have h5:=(hV (5,some 43) (by simp)).k rfl;have h6:=(hV (6,some 44) (by simp)).k rfl;have h8:=(hV (8,some 46) (by simp)).k rfl;simp only[Zc,h4,h5,h6,h8];clear hV h4 h5 h6 h8
 try simp only[lay]
 have PU:=Hd (Zdg bs gm gc gp gn go gh0 65 3 (Yd (Xm A' c' b)) w6 (Blk.ext (hH.out _ D5.out) hR6) (p5'.out.ext hR6) 0 (show 0<64 by decide) (show 64<=100000 by decide) [] none 0 (.inl rfl) (by intro x hx;cases hx) (by simp) (by decide));refine Zd 9 (by decide +kernel) (Zi (f:=99) (xs:=#[Operand.tmp 44,Operand.tmp 46,Operand.const (Value.slice none 0 0)]) (ts:=#[188,3,22]) (t:=205) (d:=some 47) rfl #[.pointer (some ⟨gh0,0,none⟩),.int .i64 0,.slice none 0 0] (by go_simp) (by kernel_rfl) _ (PU.out) ?_);rintro e w7 ⟨gb,A2,c2,rfl,a7,o7,zb,x7⟩;have D7:Hid (Mod (R3 gm gc gn) w w7):=Hd (D5.out.tr (Mod.of_ext (hR6.tr x7)));have z6:w5.heap.size<=w6.heap.size:=hR6.size;have z7:w6.heap.size<=w7.heap.size:=x7.size;have z50:w.heap.size<=w5.heap.size:=D5.out.size;have H7:Hid (HW w7 bs gm gc gp gn go gh0 65 3 gb (M.set 0 (upP 1 1)) (Yd (Xm A' c' b)) (Xl 0 ((0:Nat):Int) true ⟨A2,c2,[0]⟩ 0)):=Hd ⟨(m5.out.ext hR6).ext x7,(p5'.out.ext hR6).ext x7,hH.out _ D7.out,a7⟩;have oA:=Hd ((o5'.out.ext hR6).ext x7);have zA:=Hd (fun q hq=>(o5'.out.lt q hq).2);have HR:=Hd (fun(W:World) (X:Ext w7 W)=>ZbT bs gm gc gp gn go gh0 gb w6.heap.size (Yd (Xm A' c' b)) (fun s=>if s=0 then b else 0) rfl (QK A' c' b) w7 (M.set 0 (upP 1 1)) (fun i h1 h7=>by rw[List.getElem?_set_ne (by omega)];exact L.out.h0 i h1 h7) (by rw[List.length_set];exact L.out.len) (fun k o ho q hq=>by rw[Zdn ho] at hq;cases hq) (by have:=zm.out.2;omega) A2 c2 (fun w'=>∃ a',HW w' bs gm gc gp gn go gh0 65 3 gb (QJ M) (Yd (Xm A' c' b)) a'/\a'.fits=true/\Mod (PZ gb gm gc w6.heap.size) w7 w') (fun w' a' h h1 h2 d=>⟨a',h,h2,d⟩) _ W (H7.out.ext X) rfl rfl rfl rfl (o7.ext X) (by have:=X.size;omega) (Mod.of_ext X));clear m5 p5' o5' a5 SL PU a7 x7 hR6 k9 kH y5 z5 o7;refine⟨_,rfl,?_⟩
 try simp only[lay]
 refine Za 10 (.assign (.tmp 47)) 205 (some 6) rfl (by kernel_rfl) Hq (by intro _;go_simp;try rfl) ?_;simp only[lay];refine wpAny_done (by kernel_rfl) ?_ _;go_simp;go_wp2_with (go_quiet (fail));refine(ZeE gb 5 (by decide) (fun w'=>∃ a',HW w' bs gm gc gp gn go gh0 65 3 gb (QJ M) (Yd (Xm A' c' b)) a'/\a'.fits=true/\Mod (PZ gb gm gc w6.heap.size) w7 w') (fun u u' h x=>by obtain⟨a',h1,h2,h3⟩:=h;exact⟨a',h1.ext x,h2,h3.tr (Mod.of_ext x)⟩) _ (HR.out _ XI)).mono ?_;rintro e w8 ⟨rfl,a',H8,hf,d8⟩;have FI:=Hd (fun(W:World) (X:Ext w8 W)=>hf ▸ Zdf gb gh0 a' W (Blk.ext H8.a X));have hD:Mod (R3 gm gc gn) w w8:=D7.out.tr' d8 fun i hi h=>h.elim (fun h=>h.elim (fun e=>by omega) (fun h=>h.elim .inl (fun e=>.inr (.inl e)))) (fun h=>by omega)
 have oB:OwI w8 w.heap.size A' c' []:=oA.out.mod d8 fun q hq h=>by
  have hq':=oA.out.lt q hq;rcases h with(h | h | h) | h
  ·exact oA.out.ne H7.out.a (by decide) q hq h
  ·obtain⟨⟨st,k,c,o,n,d,m1⟩,m2⟩:=H7.out.m
   exact oA.out.ne m1 (by decide) q hq h
  ·have:=zm.out.2;omega
  ·have:=zA.out q hq;omega
 replace H8:=Hd H8;replace hD:=Hd hD;replace oB:=Hd oB;clear d8 HR H7 oA D7;go_wp2_with (go_quiet (fail));refine(FI.out _ XI).mono ?_;rintro e w9 ⟨rfl,x9⟩;have X9:=Hd (Ext.tr (a:=w8) XI x9);clear x9 FI;go_wp2_with (go_quiet (fail));refine bodyPost_ret (v:=.int .i64 0) (by simp[results,Tryz.results50,go_sem]) rfl ⟨rfl,A',c',H8.out.p.ext X9.out,oB.out.ext X9.out,H8.out.m.ext X9.out,hD.out.ext X9.out⟩
def NoNil (w:World)(g n:Nat) : Prop:=∀ i,i<n->∃ b:Nat,w.cell? ⟨g,i,none⟩=some (.pointer (some ⟨b,0,none⟩))
theorem NoNil.ext {w w':World}{g n:Nat}(h:NoNil w g n)(x:Ext w w') : NoNil w' g n:=fun i hi=>by
 obtain⟨b,hb⟩:=h i hi;have hl:g<w.heap.size:=by
  cases hq:w.heap[g]? with
  | none=>simp[World.cell?,hq] at hb
  | some o=>exact(Array.getElem?_eq_some_iff.1 hq).1
 exact⟨b,(x.cells.1 _ i hl).trans hb⟩
theorem ZbV (g n c:Nat)(w:World)(h:NoNil w g n)(hn:n<=64) :
  Calls Tryz.prog 227 #[.slice (some ⟨g,0,none⟩) n c,.pointer none] w fun e w'=>e=.returned (.int .i64 (-1))/\Ext w w':=by
 go_enter Tryz.func227,Tryz.ntmps227;go_wp2_with (fail);go_loopw [8] (fun i wr=>∃ j:Nat,i=.int .i64 j/\j<=n/\Ext w wr) (fun i _=>n-(intOf i).toNat)
 case atStart=>exact⟨0,rfl,by omega,XI⟩
 case round =>
  obtain⟨j,rfl,hj,Y⟩:=hrel
  by_cases hlt:j<n
  ·obtain⟨b,hb⟩:=(h.ext Y) j hlt
   have e1:(j:Int)<(n:Int):=by omega
   have e2:(0:Int)<=(j:Int):=by omega
   have e3:IntKind.i64.wrap ((j:Int)+1)=(j:Int)+1:=IntWalk.i64_in _ (by omega);have e4:∀ W,(binOp .eql 188 (.pointer none) (.pointer (some ⟨b,0,none⟩))).run Tryz.prog W=.ok (.bool false) W:=fun W=>by kernel_rfl
   clear h;go_upto_region 4 with(fail);go_wp2_with (fail);go_roundw
   case rel=>exact⟨j+1,by go_num,by omega,Ext.tr Y XI⟩
   case measure=>simp[intOf];omega
  ·have e1:¬((j:Int)<(n:Int)):=by omega
   clear h;go_wp2_with (fail);go_ret;exact⟨rfl,Y.tr XI⟩
theorem Zdp (g n c:Nat)(w:World)(h:NoNil w g n)(hn:n<=64) :
  Calls Tryz.prog 166 #[.slice (some ⟨g,0,none⟩) n c,.pointer none] w fun e w'=>e=.returned (.bool false)/\Ext w w':=by
 go_enter Tryz.func166,Tryz.ntmps166;go_wp2_with (fail);refine(ZbV g n c _ (h.ext XI) hn).mono ?_;rintro e w1 ⟨rfl,x1⟩;clear h;go_wp2_with (fail);go_ret;exact⟨rfl,Ext.tr XI (x1.tr XI)⟩
def ShS.v (h:ShS) : Value:=.agg #[.pointer (some ⟨h.gk,0,none⟩),.pointer (some ⟨h.gp,0,none⟩),.slice (some ⟨h.gH,0,none⟩) h.nH h.cH,.pointer (some ⟨h.gi,0,none⟩),.pointer (some ⟨h.gu,0,none⟩),.pointer (some ⟨h.gt,0,none⟩)]
theorem ZbW (h:ShS)(w:World)(hn:NoNil w h.gH h.nH)(h64:h.nH<=64) :
  Calls Tryz.prog 101 #[h.v] w fun e w'=>e=.returned (.bool true)/\Ext w w':=by
 have NI:=Hd (fun(W:World) (X:Ext w W)=>Zdp h.gH h.nH h.cH W (hn.ext X) h64);unfold ShS.v;clear hn;go_enter Tryz.func101,Tryz.ntmps101;go_wp2_with (go_quiet (fail));refine(NI.out _ XI).mono ?_;rintro e w1 ⟨rfl,x1⟩;clear NI;go_wp2_with (go_quiet (fail));go_ret;exact⟨rfl,Ext.tr XI (x1.tr XI)⟩
def wk0 (me:Nat) : WkS:={ me:=me,ph:=0,logv:=.slice none 0 0,least:=0,node:=-1,path:=⟨none,0,[]⟩,kids:=⟨none,0,[]⟩,child:=-1,next:=⟨none,0,[]⟩,bound:=0,cursor:=0,tried:=0,own:=none,theft:=none,slot:=none,bid:=none,home:=none,deep:=none }
def ZgB (h:ShS)(me:Nat)(w:World)(e:Ending)(w':World) : Prop:=∃ gw:Nat,e=.returned (.tuple #[.pointer (some ⟨gw,0,none⟩),.int .i64 0])/\WkB w' gw h (wk0 me)/\w.heap.size<=gw/\Ext w w'
theorem ZaM (h:ShS)(me:Nat)(w:World)(hn:NoNil w h.gH h.nH)(h64:h.nH<=64)(hm:me<h.nH) :
  Calls Tryz.prog 51 #[h.v,.int .i64 (me:Int)] w (ZgB h me w):=by
 have RI:=fun(W:World) (X:Ext w W)=>ZbW h W (hn.ext X) h64
 have e1:¬((me:Int)<0):=by omega
 have e2:¬((me:Int)>=(h.nH:Int)):=by omega
 have e3:¬((h.nH:Int)<=(me:Int)):=by omega
 unfold ShS.v at *;replace RI:=Hd RI;clear hn;have B0:Hid (Blk (w.alloc (.cells #[.pointer (some ⟨h.gk,0,none⟩),.pointer (some ⟨h.gp,0,none⟩),.slice (some ⟨h.gH,0,none⟩) h.nH h.cH,.pointer (some ⟨h.gi,0,none⟩),.pointer (some ⟨h.gu,0,none⟩),.pointer (some ⟨h.gt,0,none⟩)] 117)) w.heap.size 117 #[.pointer (some ⟨h.gk,0,none⟩),.pointer (some ⟨h.gp,0,none⟩),.slice (some ⟨h.gH,0,none⟩) h.nH h.cH,.pointer (some ⟨h.gi,0,none⟩),.pointer (some ⟨h.gu,0,none⟩),.pointer (some ⟨h.gt,0,none⟩)]):=Hd (Blk.new rfl);go_enter Tryz.func51,Tryz.ntmps51;go_wp2_with (go_quiet (fail));refine(RI.out _ XI).mono ?_;rintro e w1 ⟨rfl,x1⟩;have X1:=Hd (Ext.tr (a:=w) XI x1);have B1:=Hd (B0.out.ext x1);clear x1 RI B0;have c0:w1.cell? ⟨w.heap.size,0,none⟩=some (.pointer (some ⟨h.gk,0,none⟩)):=(Blk.cell B1.out 0);have c1:w1.cell? ⟨w.heap.size,1,none⟩=some (.pointer (some ⟨h.gp,0,none⟩)):=(Blk.cell B1.out 1);have c2:w1.cell? ⟨w.heap.size,2,none⟩=some (.slice (some ⟨h.gH,0,none⟩) h.nH h.cH):=(Blk.cell B1.out 2);have c3:w1.cell? ⟨w.heap.size,3,none⟩=some (.pointer (some ⟨h.gi,0,none⟩)):=(Blk.cell B1.out 3);have c4:w1.cell? ⟨w.heap.size,4,none⟩=some (.pointer (some ⟨h.gu,0,none⟩)):=(Blk.cell B1.out 4);have c5:w1.cell? ⟨w.heap.size,5,none⟩=some (.pointer (some ⟨h.gt,0,none⟩)):=(Blk.cell B1.out 5);clear B1;go_wp2_with (go_quiet (fail));refine bodyPost_ret (v:=.tuple #[.pointer (some ⟨w1.heap.size,0,none⟩),.int .i64 0]) (by simp[results,Tryz.results51,go_sem]) rfl ⟨w1.heap.size,rfl,Blk.ext (Blk.new (w:=w1) rfl) (by(repeat (first | assumption | exact Ext.rf _ | apply Ext.drew | apply Ext.drewN | apply Ext.alloc))),X1.out.size,X1.out.tr XI⟩
structure Env where
 bs:Nat
 gm:Nat
 gc:Nat
 gp:Nat
 gn:Nat
 go:Nat
 gH:Nat
 cH:Nat
 gh0:Nat
 gh1:Nat
 gi:Nat
 gl:Nat
 gu:Nat
 ch:Array Value
 A:Option Addr
 k:Nat
 xs:List Int
structure St (E:Env)(w:World)(M:List Int)(P:PoolS) : Prop where
 hc:Blk w E.gH 188 E.ch
 c0:E.ch[0]?=some (.pointer (some ⟨E.gh0,0,none⟩))
 c1:E.ch[1]?=some (.pointer (some ⟨E.gh1,0,none⟩))
 m:MemB w E.gm E.gc M
 p:PoolR w E.bs E.gm E.gc E.gp E.gn E.go P
 h0:ZN w E.gh0 E.gm E.gp 65 3
 h1:ZN w E.gh1 E.gm E.gp 136 3
 i:IncR w E.bs E.gm E.gc E.gi E.gl ⟨207,2,List.replicate 4 ⟨none,0,[]⟩++[⟨E.A,E.k,E.xs⟩]⟩
 u:Xo w E.gu E.gm 208
section
variable {E:Env} {w w':World} {M:List Int} {P:PoolS}
theorem St.ext (s:St E w M P)(x:Ext w w') : St E w' M P:=⟨s.hc.ext x,s.c0,s.c1,s.m.ext x,s.p.ext x,Blk.ext s.h0 x,Blk.ext s.h1 x,s.i.ext x,Blk.ext s.u x⟩
theorem St.modT {base:Nat}{ts:List TypeId}(s:St E w M P)(k:ModT base ts w w')(t1:188∉ts)(t2:268∉ts)(t3:3∉ts)(t4:271∉ts)(t5:204∉ts)(t6:22∉ts)(t7:274∉ts)(t8:279∉ts)(t9:281∉ts) : St E w' M P :=
 ⟨s.hc.modT k t1,s.c0,s.c1,s.m.modT k t2 t3,s.p.modT k t4 t5 t6 t3,Blk.modT s.h0 k t7,Blk.modT s.h1 k t7,s.i.modT k t8 t6 t3,Blk.modT s.u k t9⟩
theorem St.cell (s:St E w M P){M':List Int}(m:MemB w' E.gm E.gc M')(d:Mod (CS E.gm E.gc) w w') : St E w' M' P :=
 ⟨s.hc.mod d (s.m.no s.hc (by decide) (by decide)),s.c0,s.c1,m,s.p.cell s.m d,Blk.mod s.h0 d (s.m.no s.h0 (by decide) (by decide)),Blk.mod s.h1 d (s.m.no s.h1 (by decide) (by decide)),s.i.cell s.m d,Blk.mod s.u d (s.m.no s.u (by decide) (by decide))⟩
theorem IncR.mod3 {bs gm gc gp gn go gi gl:Nat}{I:IncS}(h:IncR w bs gm gc gi gl I)(m:MemB w gm gc M)(p:PoolR w bs gm gc gp gn go P)(d:Mod (R3 gm gc gn) w w') : IncR w' bs gm gc gi gl I:=by
 refine⟨h.b.mod d (R3.no m p h.b (by decide) (by decide) (by decide)),h.r.mod d (R3.no m p h.r (by decide) (by decide) (by decide)),fun k o ho=>⟨(h.x k o ho).1.mod d (fun b hb hS=>?_),(h.x k o ho).2⟩⟩;rcases hS with hS | hS | hS
 ·obtain⟨⟨st,k,c,o,n,d,m1⟩,m2⟩:=m
  exact(h.x _ _ ho).1.ne m1 (by decide) b hb hS
 ·subst hS;exact(h.x k o ho).2 hb
 ·exact(h.x _ _ ho).1.ne p.nd (by decide) b hb hS
theorem St.root {P':PoolS}{M':List Int}(s:St E w M P)(m:MemB w' E.gm E.gc M')(p:PoolR w' E.bs E.gm E.gc E.gp E.gn E.go P')(d:Mod (R3 E.gm E.gc E.gn) w w') : St E w' M' P' :=
 ⟨s.hc.mod d (R3.no s.m s.p s.hc (by decide) (by decide) (by decide)),s.c0,s.c1,m,p,Blk.mod s.h0 d (R3.no s.m s.p s.h0 (by decide) (by decide) (by decide)),Blk.mod s.h1 d (R3.no s.m s.p s.h1 (by decide) (by decide) (by decide)),s.i.mod3 s.m s.p d,Blk.mod s.u d (R3.no s.m s.p s.u (by decide) (by decide) (by decide))⟩
theorem St.nonil (s:St E w M P) : NoNil w E.gH 2:=fun i hi=>by
 rcases Nat.lt_or_ge i 1 with h | h
 ·obtain rfl:i=0:=by omega
  exact⟨_,(s.hc.cell 0).trans s.c0⟩
 ·obtain rfl:i=1:=by omega
  exact⟨_,(s.hc.cell 1).trans s.c1⟩
end
end
section
def nl (l:List Nat) : List Int:=l.map fun n:Nat=>(n:Int)
section
variable {ops:Array Oper} {i:Nat} {t:TypeId} {d:Option Tmp} {a:Act} {w:World} {K:Act->World->Prop} {Q:Exit->Act->World->Prop}
end
theorem RdI.mod {S:Nat->Prop}{w w':World}{A:Option Addr}{xs:List Int}(h:RdI w A xs)(k:Mod S w w')(hb:∀ b,bl A=some b->¬S b) : RdI w' A xs:=by
 rcases h with rfl | ⟨b,off,rfl,hlt,hc⟩
 ·exact .inl rfl
 ·refine .inr ⟨b,off,rfl,Nat.lt_of_lt_of_le hlt k.size,fun j x hj=>?_⟩
  rw[<-hc j x hj];exact World.cell?_of_block (k.block b hlt (hb b rfl))
end
section
section
variable {w w2:World} {base g pn pc wc vc hc c':Nat} {cap x:Int} {PA WA VA HA A':Option Addr} {ws vs bs:List Int}
end
end
section
def ZaN (i:InstP) : Prop:=Ints i.weight/\Ints i.value/\∀ r∈i.cost,Ints r
theorem RInst.ints {w:World}{vs:List Value}{i:InstP}(h:RInst w vs i) : ZaN i:=by
 obtain⟨A,a,B,b,C,c,rfl,⟨_,h2,_⟩,⟨_,h4,_⟩,⟨h5,_⟩⟩:=h;refine⟨h2,h4,fun r hr=>?_⟩;obtain⟨k,hk,rfl⟩:=List.mem_iff_getElem.1 hr;obtain⟨_,_,_,row,_,_,_,_,he,_,_,hi,_⟩:=h5.ints hk;have h:=he.out;rw[List.getElem?_eq_getElem hk] at h;rw[Option.some.inj h];exact hi
theorem InstO.rinst {w:World}{base:Nat}{vs:List Value}{i:InstP}(h:InstO w base vs i)(hi:ZaN i) : RInst w vs i:=by
 obtain⟨A,a,B,b,C,c,us,rfl,h1,h2,h3,h4⟩:=h;refine⟨A,a,B,b,C,c,rfl,⟨h1.read,hi.1,h1.le.1,h1.le.2⟩,⟨h2.read,hi.2.1,h2.le.1,h2.le.2⟩,?_,h3.le.1,h3.le.2⟩;rcases h3.read with h0 | ⟨b',off,cur,hA,hb,hc⟩
 ·left
  have:=h4.1;rw[h0] at this;exact List.eq_nil_of_length_eq_zero this.symm
 ·refine .inr ⟨b',off,hA,(Array.getElem?_eq_some_iff.1 hb).1,fun k r hr=>?_⟩
  obtain⟨A',c',hu,ho⟩:=h4.2 k r hr;refine⟨[.slice A' r.length c'],⟨A',c',rfl,ho.read,hi.2.2 r (List.mem_of_getElem? hr),ho.le.1,ho.le.2⟩,rfl,fun j v hj=>?_⟩
  cases j with
  | zero =>
   simp at hj;subst hj;rw[cell_of_row w b' _ cur _ (0,0) hb]
   simpa using hc k _ hu
  | succ j=>simp at hj
theorem InstO.ext {w w':World}{base:Nat}{vs:List Value}{i:InstP}(h:InstO w base vs i)(x:Ext w w') : InstO w' base vs i:=by
 obtain⟨A,a,B,b,C,c,us,rfl,h1,h2,h3,h4⟩:=h;exact⟨A,a,B,b,C,c,us,rfl,h1.ext x,h2.ext x,h3.ext x,h4.ext x⟩
theorem InstO.modT {w w':World}{base base':Nat}{ts:List TypeId}{vs:List Value}{i:InstP}(h:InstO w base vs i)(k:ModT base' ts w w')(h1:3∉ts)(h2:22∉ts) : InstO w' base vs i:=by
 obtain⟨A,a,B,b,C,c,us,rfl,g1,g2,g3,g4⟩:=h;exact⟨A,a,B,b,C,c,us,rfl,g1.modT k h1,g2.modT k h1,g3.modT k h2,g4.modT k h1⟩
structure SquareOk (i:InstP) : Prop where
 n1:1<=i.n
 n2:i.n<=24
 len:(i.cost.length:Int)=i.n
 row:∀ r∈i.cost,(r.length:Int)=i.n
 num:∀ r∈i.cost,∀ x∈r,0<=x/\x<=2147483647
 w:i.weight=[]
 v:i.value=[]
theorem Zdq {n:Int}(h:XY n=0) : 0<=n/\n<=2147483647:=by
 unfold XY at h;split at h
 ·cases h
 ·split at h
  ·cases h
  ·omega
theorem Jv : ∀ {l:List Int} {k:Int} {r c:Nat},Wk k r c l=0->∀ x∈l,0<=x/\x<=2147483647
 | [],_,_,_,_,x,hx=>by cases hx
 | n::l,k,r,c,h,x,hx=>by
  unfold Wk at h;split at h
  ·rename_i hn
   split at h
   ·cases h
   ·rcases List.mem_cons.1 hx with rfl | hx
    ·exact Zdq hn
    ·exact Jv h x hx
  ·rename_i hn
   exact absurd h hn
theorem QL : ∀ {l:List (List Int)} {k:Int} {r:Nat},YR k r l=0->∀ q∈l,∀ x∈q,0<=x/\x<=2147483647
 | [],_,_,_,q,hq=>by cases hq
 | row::l,k,r,h,q,hq=>by
  unfold YR at h;split at h
  ·rename_i hr
   rcases List.mem_cons.1 hq with rfl | hq
   ·exact Jv hr
   ·exact QL h q hq
  ·rename_i hr
   exact absurd h hr
theorem XD {i:InstP}(h:ZQ i=0)(hk:i.kind≠1) : SquareOk i:=by
 unfold ZQ at h
 by_cases hs:Wv i.kind i.n=0
 ·rw[if_pos hs] at h
  by_cases hsh:VU i=true
  ·rw[if_pos hsh,if_neg hk] at h
   unfold VU at hsh;rw[if_neg hk] at hsh;simp only[Bool.and_eq_true,beq_iff_eq,decide_eq_true_eq,Bool.not_eq_true',List.any_eq_false,bne_iff_ne,ne_eq,Decidable.not_not] at hsh;obtain⟨⟨⟨h1,h2⟩,h3⟩,h4⟩:=hsh;unfold Wv at hs;rw[if_neg hk] at hs;have hn:1<=i.n/\i.n<=24:=by
    split at hs
    ·split at hs
     ·cases hs
     ·split at hs
      ·cases hs
      ·omega
    ·split at hs
     ·split at hs
      ·cases hs
      ·split at hs
       ·cases hs
       ·omega
     ·cases hs
   exact⟨hn.1,hn.2,h1,h4,QL h,List.eq_nil_of_length_eq_zero (by omega),List.eq_nil_of_length_eq_zero (by omega)⟩
  ·rw[if_neg hsh] at h
   cases h
 ·rw[if_neg hs] at h
  exact absurd h hs
def Wg (m:Nat) : List Int->Option Nat
 | []=>some m
 | c::p=>if 0<=c/\c<64/\m.testBit c.toNat=true then Wg (UA m c.toNat) p else none
def QM (n:Nat)(p:List Int) : Option Nat:=if n<p.length then none else Wg (2^n-1) p
theorem ZfL (m i:Nat) : UA m i<18446744073709551616:=Vp _ _
def SubN (n m:Nat) : Prop:=m<18446744073709551616/\∀ x∈Zq m,x<n
theorem Ud {n:Nat}(h:n<=24) : SubN n (2^n-1):=by
 refine⟨?_,fun x hx=>?_⟩
 ·have:2^n<=2^24:=Nat.pow_le_pow_right (by omega) h
  omega
 ·rw[ZbA (by omega)] at hx
  exact List.mem_range.1 hx
theorem SubN.clr {n m:Nat}(h:SubN n m)(i:Nat) : SubN n (UA m i):=by
 refine⟨ZfL _ _,fun x hx=>h.2 x ?_⟩;rw[ZcY h.1] at hx;exact(List.mem_filter.1 hx).1
theorem Jw {n:Nat} : ∀ {p:List Int} {m q:Nat},SubN n m->Wg m p=some q->SubN n q
 | [],m,q,h,e=>by
  simp only[Wg,Option.some.injEq] at e;subst e;exact h
 | c::p,m,q,h,e=>by
  unfold Wg at e;split at e
  ·exact Jw (h.clr _) e
  ·cases e
theorem JL {i:InstP}(h:SquareOk i) : RowsOk i.cost:=by
 have h1:=h.n1;have h2:=h.n2;have h3:=h.len;refine⟨by omega,by omega,fun r hr=>?_,h.num⟩;have:=h.row r hr;omega
section
variable {P:Program} {ops:Array Oper} {i:Nat} {t:TypeId} {d:Option Tmp} {a:Act} {w w':World} {K:Act->World->Prop} {Q:Exit->Act->World->Prop}
theorem Zgg {T:TypeId}{f:Nat}{x:Operand}(hi:YY ops i=some (none,.fieldAddr T x f,t,d))(p:Value)(hx:a.eval x=p)(v:Value)(hrun:(Instr.fieldAt T p f).run P w=.ok v w)(hK:K (a.put d v) w) : wpOp P ops Q i K a w :=
 Zl hi v (by simp[Zj,execOp,hx,hrun]) hK
end
def Zdr (i:InstP)(w:World)(e:Ending)(w':World) : Prop:=∃ A3 c3 B3 d3 C cc us,e=.returned (.agg #[.int .i64 i.kind,.int .i64 i.n,.int .i64 i.cap,.slice A3 i.weight.length c3,.slice B3 i.value.length d3,.slice C i.cost.length cc])/\OwV w' w.heap.size 22 1 C i.cost.length cc us/\RowsO w' w.heap.size us i.cost/\Ext w w'
theorem Zds (i:InstP)(vs:List Value)(w:World)(H:RInst w vs i)(lw:i.weight.length<=1000000000)(lv:i.value.length<=1000000000)(lc:i.cost.length<=1000000)(lr:∀ r∈i.cost,r.length<=1000000000) :
  Calls Tryz.prog 48 #[.agg (List.toArray vs)] w (Zdr i w):=by
 obtain⟨A,a,B,b,C,c,rfl,⟨rA,iA,lA,mA⟩,⟨rB,iB,lB,mB⟩,⟨rC,lC,mC⟩⟩:=H;obtain⟨kind,nn,cap,xw,xv,co⟩:=i;simp only at *;obtain⟨i0,hi,hz0,hz1,hz2⟩:=info_parts U4;replace hi:=Hd hi;replace hz0:=Hd hz0;replace hz1:=Hd hz1;replace hz2:=Hd hz2;replace lr:=Hd lr;have X:Ext w ((w.alloc (.cells #[.int .i64 kind,.int .i64 nn,.int .i64 cap,.slice A xw.length a,.slice B xv.length b,.slice C co.length c] 74)).alloc (.cells #[.int .i64 0,.int .i64 0,.int .i64 0,.slice none 0 0,.slice none 0 0,.slice none 0 0] 74)):=((Ext.rf _).alloc _).alloc _;have B1:Blk ((w.alloc (.cells #[.int .i64 kind,.int .i64 nn,.int .i64 cap,.slice A xw.length a,.slice B xv.length b,.slice C co.length c] 74)).alloc (.cells #[.int .i64 0,.int .i64 0,.int .i64 0,.slice none 0 0,.slice none 0 0,.slice none 0 0] 74)) w.heap.size 74 #[.int .i64 kind,.int .i64 nn,.int .i64 cap,.slice A xw.length a,.slice B xv.length b,.slice C co.length c]:=.alloc (.new rfl) _;have B2:Blk ((w.alloc (.cells #[.int .i64 kind,.int .i64 nn,.int .i64 cap,.slice A xw.length a,.slice B xv.length b,.slice C co.length c] 74)).alloc (.cells #[.int .i64 0,.int .i64 0,.int .i64 0,.slice none 0 0,.slice none 0 0,.slice none 0 0] 74)) (w.heap.size+1) 74 #[.int .i64 0,.int .i64 0,.int .i64 0,.slice none 0 0,.slice none 0 0,.slice none 0 0]:=.new (by simp);replace X:=Hd X;replace B1:=Hd B1;replace B2:=Hd B2;replace rA:=Hd rA;replace rB:=Hd rB;replace rC:=Hd rC;replace iA:=Hd iA;replace iB:=Hd iB;replace mA:=Hd mA;replace mB:=Hd mB;replace mC:=Hd mC;go_enter Tryz.func48,Tryz.ntmps48;go_wp2_with (fail);generalize (w.alloc (.cells #[.int .i64 kind,.int .i64 nn,.int .i64 cap,.slice A xw.length a,.slice B xv.length b,.slice C co.length c] 74)).alloc (.cells #[.int .i64 0,.int .i64 0,.int .i64 0,.slice none 0 0,.slice none 0 0,.slice none 0 0] 74)=wr at *;have z1:=B1.out.lt;have zw:=X.out.size;refine wp_region_any (by kernel_rfl) ?_
 change wpAny _ _ _ _ _ _ _ (World.drew _)
 refine Za 0 (.fieldAddr 74 (.tmp 1) 3) 0 (some 6) rfl (by kernel_rfl) Hq (by intro _;go_simp;try rfl) ?_;simp only[lay];refine Za 3 (.fieldAddr 74 (.tmp 1) 4) 0 (some 9) rfl (by kernel_rfl) Hq (by intro _;go_simp;try rfl) ?_;simp only[lay];refine Zh (n:=3) [(1,some 7),(2,some 8),(4,some 10),(5,some 11),(6,some 12)] (Ext wr)
  (VF (fun | 1=>some (.slice A xw.length a) | 4=>some (.slice B xv.length b) | 6=>some (.pointer (some ⟨w.heap.size,3,none⟩)) | _=>none)
   (fun j v W=>(j=2->∃ A' c',v=.slice A' xw.length c')/\(j=5->∃ A' c',v=.slice A' xv.length c')))
  Ext #[true,true,true,true,true,true,true,false,false,false] (by decide +kernel) (VF.stab ?_) ?_ ?_ ((Ext.rf _).drew)
 ·intro j v W W' _ h _
  exact h
 ·intro pq hpm u w2 hRW hD K hK
  have b2:=B1.out.ext hRW;have r3:=b2.c3;have r4:=b2.c4;have xe:=X.out.tr hRW;simp only[List.mem_cons,List.not_mem_nil,or_false] at hpm;rcases hpm with rfl | rfl | rfl | rfl | rfl
  ·exact Ze (T:=22) rfl (.pointer (some ⟨w.heap.size,3,none⟩)) (by kernel_rfl) (.slice A xw.length a) (by go_simp) (hK _ _ (VF.mk rfl) hRW (Ext.rf _))
  ·refine Zi rfl #[.slice A xw.length a] (by go_simp) (Eq.trans (b:=#[u 1]) (by kernel_rfl) (by rw[(hD 1 (Zg (by kernel_rfl))).k rfl])) _ (ZO A a xw w2 (rA.out.ext xe) (by omega)) ?_
   rintro e w3 ⟨A3,c3,rfl,o3,x3⟩;exact⟨_,rfl,hK _ _ (VF.mg rfl ⟨fun _=>⟨A3,c3,rfl⟩,(fun h=>by cases h)⟩) (hRW.tr x3) x3⟩
  ·exact Ze (T:=22) rfl (.pointer (some ⟨w.heap.size,4,none⟩)) (by kernel_rfl) (.slice B xv.length b) (by go_simp) (hK _ _ (VF.mk rfl) hRW (Ext.rf _))
  ·refine Zi rfl #[.slice B xv.length b] (by go_simp) (Eq.trans (b:=#[u 4]) (by kernel_rfl) (by rw[(hD 4 (Zg (by kernel_rfl))).k rfl])) _ (ZO B b xv w2 (rB.out.ext xe) (by omega)) ?_
   rintro e w3 ⟨A3,c3,rfl,o3,x3⟩;exact⟨_,rfl,hK _ _ (VF.mg rfl ⟨(fun h=>by cases h),fun _=>⟨A3,c3,rfl⟩⟩) (hRW.tr x3) x3⟩
  ·exact Zgg (T:=74) (f:=3) rfl (.pointer (some ⟨w.heap.size,0,none⟩)) (by kernel_rfl) (.pointer (some ⟨w.heap.size,3,none⟩)) (by go_simp) (hK _ _ (VF.mk rfl) hRW (Ext.rf _))
 ·intro u w3 hRW hV
  have h1:=(hV (1,some 7) (by simp)).k rfl;have h4:=(hV (4,some 10) (by simp)).k rfl;obtain⟨A3,c3,h2⟩:=((hV (2,some 8) (by simp)).g rfl).1 rfl;obtain⟨B3,d3,h5⟩:=((hV (5,some 11) (by simp)).g rfl).2 rfl;have h6:=(hV (6,some 12) (by simp)).k rfl;simp only[Zc,h1,h2,h4,h5,h6];have b1:=B1.out.ext hRW;have b2:=B2.out.ext hRW;have g3:=b1.c3;have k3:=b1.free 3;have b1a:=b1.set 3 (.slice A3 xw.length c3);have g4:=b1a.c4;have k4:=b1a.free 4;have b1b:=Hd (b1a.set 4 (.slice B3 xv.length d3));have b2b:=Hd ((b2.far (p:=⟨w.heap.size,3,none⟩) (by simp) (.slice A3 xw.length c3)).far (p:=⟨w.heap.size,4,none⟩) (by simp) (.slice B3 xv.length d3));have Xb:=Hd (((X.out.tr hRW).setNew (p:=⟨w.heap.size,3,none⟩) (Nat.le_refl _) (.slice A3 xw.length c3)).setNew (p:=⟨w.heap.size,4,none⟩) (Nat.le_refl _) (.slice B3 xv.length d3));clear h1 h2 h4 h5 h6 hV
  try simp only[lay]
  refine Zd 7 (by decide +kernel) (ZR rfl (.pointer (some ⟨w.heap.size,3,none⟩)) (.slice A3 xw.length c3) (by kernel_rfl) (by kernel_rfl) (by go_simp;rfl) ?_);refine Za 8 (.fieldAddr 74 (.tmp 1) 4) 0 (some 13) rfl (by kernel_rfl) Hq (by intro _;go_simp;try rfl) ?_;simp only[lay];refine Zd 9 (by decide +kernel) (ZR rfl (.pointer (some ⟨w.heap.size,4,none⟩)) (.slice B3 xv.length d3) (by kernel_rfl) (by kernel_rfl) (by go_simp;rfl) ?_);refine wpAny_done (by kernel_rfl) ?_ _;clear g3 g4 k3 k4 b1 b2 b1a hRW;generalize (w3.setCell ⟨w.heap.size,3,none⟩ (.slice A3 xw.length c3)).setCell ⟨w.heap.size,4,none⟩ (.slice B3 xv.length d3)=w4 at *;clear w3;have q5:=b1b.out.c5;go_simp;go_wp2_with (fail);have lct:=Hd lc;have START:Hid (OwV w4 w.heap.size 22 1 none 0 0 []/\RowsO w4 w.heap.size [] (co.take 0)/\Ext w w4/\Blk w4 w.heap.size 74 #[.int .i64 kind,.int .i64 nn,.int .i64 cap,.slice A3 xw.length c3,.slice B3 xv.length d3,.slice C co.length c]/\Blk w4 (w.heap.size+1) 74 #[.int .i64 0,.int .i64 0,.int .i64 0,.slice none 0 0,.slice none 0 0,.slice none 0 0]):=⟨OwV.nil _ _ _ _,by simpa using RowsO.nil w4 w.heap.size,Xb.out,b1b.out,b2b.out⟩;clear b1b b2b Xb q5;go_loopw [3,17] (fun v3 v17 wr=>∃ (k:Nat) (C':Option Addr) (cc:Nat) (us:List Value),v17=.int .i64 k/\v3=.slice C' k cc/\k<=co.length/\Hid (OwV wr w.heap.size 22 1 C' k cc us/\RowsO wr w.heap.size us (co.take k)/\Ext w wr/\Blk wr w.heap.size 74 #[.int .i64 kind,.int .i64 nn,.int .i64 cap,.slice A3 xw.length c3,.slice B3 xv.length d3,.slice C co.length c]/\Blk wr (w.heap.size+1) 74 #[.int .i64 0,.int .i64 0,.int .i64 0,.slice none 0 0,.slice none 0 0,.slice none 0 0])) (fun _ v17 _=>co.length-(intOf v17).toNat)
  case atStart=>exact⟨0,none,0,[],rfl,rfl,by omega,START⟩
  case round =>
   obtain⟨wo,rfl⟩:=Wq wr;clear START;obtain⟨k,C',cc,us,rfl,rfl,hk,HH⟩:=hrel;obtain⟨oV,oR,Y,b1,b2⟩:=HH.out
   by_cases hlt:k<co.length
   ·obtain⟨b',off,D,row,d,rfl,zd,hcd,her,_,rrow,_,ld,md⟩:=(rC.out.ext Y (fun _ _ h=>h.ext Y)).ints hlt
    have lrow:=lr.out row (List.mem_of_getElem? her.out);have etk:Hid (co.take (k+1)=co.take k++[row]):=Hd (by rw[List.take_add_one,her.out];rfl);have q1:(k:Int)<(co.length:Int):=by omega
    replace oV:=Hd oV;replace oR:=Hd oR;replace Y:=Hd Y;replace b1:=Hd b1;replace b2:=Hd b2;replace rrow:=Hd rrow;clear HH her;go_wp2_with (fail);refine(ZO D d row _ rrow.out (by omega)).mono ?_;rintro e w5 ⟨D2,e2,rfl,o5,x5⟩;have oV5:=oV.out.ext x5;have zw5:=Y.out.size;go_wp2_with (at_builtin;refine Zw _ (e:=22) Tryz.underlying72 hi.out hz0.out hz1.out hz2.out (by simp[Value.cells]) (by omega) rfl _ _ rfl w.heap.size C' k cc us (some ⟨w5.heap.size,0,none⟩) 1 1 [.slice D2 row.length e2] rfl rfl (oV5.ext ((Ext.rf _).alloc _)) (RdV.blk (.new (by simp))).rdC (by simp) (by simp[Value.oneCell']) (by simp only[maxLen];omega) (by omega) (by have:=x5.size;simp;omega) ?_;rintro C6 c6 w6 o6 g6 _);have M6:=(oV5.ext ((Ext.rf w5).alloc (.cells #[.slice D2 row.length e2] 22))).grownT g6;have X6:Ext wo (w5.alloc (.cells #[.slice D2 row.length e2] 22)):=x5.tr ((Ext.rf _).alloc _);have NEW:Hid (OwV w6 w.heap.size 22 1 C6 (k+1) c6 (us++[.slice D2 row.length e2])/\RowsO w6 w.heap.size (us++[.slice D2 row.length e2]) (co.take (k+1))/\Ext w w6/\Blk w6 w.heap.size 74 #[.int .i64 kind,.int .i64 nn,.int .i64 cap,.slice A3 xw.length c3,.slice B3 xv.length d3,.slice (some ⟨b',off,none⟩) co.length c]/\Blk w6 (w.heap.size+1) 74 #[.int .i64 0,.int .i64 0,.int .i64 0,.slice none 0 0,.slice none 0 0,.slice none 0 0]):=by
     refine⟨o6,?_,(Y.out.tr X6).modT M6 (Nat.le_refl _),(b1.out.ext X6).modT M6 (by decide),(b2.out.ext X6).modT M6 (by decide)⟩;rw[etk.out];exact((oR.out.ext X6).modT M6 (by decide)).snoc (((o5.more zw5).ext ((Ext.rf _).alloc _)).modT M6 (by decide))
    clear oV5 o5 x5 o6 g6 M6 X6 hcd;go_wp2_with (fail);go_roundw
    case rel=>exact⟨k+1,C6,c6,_,by go_num,rfl,by omega,NEW⟩
    case measure=>simp[intOf];omega
   ·obtain rfl:k=co.length:=by omega
    rw[List.take_length] at oR;have c0:=b1.c0;have c1:=b1.c1;have c2:=b1.c2;have c3':=b1.c3;have c4:=b1.c4;have c5:=b1.c5;have k5:=b1.free 5;have r0:=b2.c0;have r1:=b2.c1;have r2:=b2.c2;have r3:=b2.c3;have r4:=b2.c4;have r5:=b2.c5;have f0:=b2.free 0;have f1:=b2.free 1;have f2:=b2.free 2;have f3:=b2.free 3;have f4:=b2.free 4;have f5:=b2.free 5;have m1:ModT w.heap.size [74] wo (wo.setCell ⟨w.heap.size,5,none⟩ (.slice C' co.length cc)):=ModT.set wo b1 (by simp) (Nat.le_refl _) 5 _;have b2':=b2.far (p:=⟨w.heap.size,5,none⟩) (by simp) (.slice C' co.length cc);have m2:=(ZgX b2' (base:=w.heap.size) (by omega) (.int .i64 kind) (.int .i64 nn) (.int .i64 cap) (.slice A3 xw.length c3) (.slice B3 xv.length d3) (.slice C' co.length cc)).2;have F:=Hd (And.intro ((oV.modT m1 (by decide)).modT m2 (by decide)) (And.intro ((oR.modT m1 (by decide)).modT m2 (by decide)) ((Y.modT m1 (Nat.le_refl _)).modT m2 (Nat.le_refl _))));clear HH oV oR Y b1 b2 m1 m2 b2';go_wp2_with (fail);exact bodyPost_ret (v:=.agg #[.int .i64 kind,.int .i64 nn,.int .i64 cap,.slice A3 xw.length c3,.slice B3 xv.length d3,.slice C' co.length cc]) (by simp[results,Tryz.results48,go_sem, *]) rfl ⟨A3,c3,B3,d3,C',cc,us,rfl,F.out.1,F.out.2.1,F.out.2.2⟩
end
section
def KernA (w:World)(base g:Nat)(rows:List (List Int)) : Prop:=∃ C c us,Blk w g 262 #[.slice C rows.length c]/\base<=g/\OwV w base 22 1 C rows.length c us/\RowsO w base us rows
theorem KernA.ext {w w':World}{base g:Nat}{rows:List (List Int)}(h:KernA w base g rows)(x:Ext w w') : KernA w' base g rows:=by
 obtain⟨C,c,us,h1,h2,h3,h4⟩:=h;exact⟨C,c,us,h1.ext x,h2,h3.ext x,h4.ext x⟩
def ZaO (i:InstP)(w:World)(e:Ending)(w':World) : Prop:=∃ g,e=.returned (.tuple #[.pointer (some ⟨g,0,none⟩),.int .i64 0])/\KernA w' w.heap.size g i.cost/\Ext w w'
theorem ZeH (i:InstP)(vs:List Value)(w:World)(H:RInst w vs i)(hc:ZQ i=0)(hk:i.kind=2) :
  Calls Tryz.prog 84 #[.agg (List.toArray vs)] w (ZaO i w):=by
 have ok:=XD hc (by omega);have lw:i.weight.length<=1000000000:=by rw[ok.w];simp
 have lv:i.value.length<=1000000000:=by rw[ok.v];simp
 have CH:=fun(W:World) (x:Ext w W)=>Wb i vs W (H.ext x) lw lv
 rw[hc] at CH;have CP:=fun(W:World) (x:Ext w W)=>Zds i vs W (H.ext x) lw lv (by have:=ok.len;have:=ok.n2;omega) (fun r hr=>by have:=ok.row r hr;have:=ok.n2;omega)
 clear ok lw lv hc;obtain⟨kind,nn,cap,xw,xv,co⟩:=i;obtain⟨A,a,B,b,C,c,rfl,-,-,-⟩:=H;simp only at *;subst hk;have B1:Hid (Blk (w.alloc (.cells #[.int .i64 2,.int .i64 nn,.int .i64 cap,.slice A xw.length a,.slice B xv.length b,.slice C co.length c] 74)) w.heap.size 74 #[.int .i64 2,.int .i64 nn,.int .i64 cap,.slice A xw.length a,.slice B xv.length b,.slice C co.length c]):=.new rfl;replace CH:=Hd CH;replace CP:=Hd CP;go_enter Tryz.func84,Tryz.ntmps84;go_wp2_with (fail);refine(CH.out _ XI).mono ?_;rintro e w1 ⟨rfl,x1⟩;have X1:=Hd (Ext.tr (a:=w) XI x1);have BB:=Hd (B1.out.ext x1);clear x1;have c0:=BB.out.c0;have c1:=BB.out.c1;have c2:=BB.out.c2;have c3:=BB.out.c3;have c4:=BB.out.c4;have c5:=BB.out.c5;go_wp2_with (fail);refine(CP.out _ X1.out).mono ?_;rintro e w2 ⟨A3,c3',B3,d3,C2,e2,us,rfl,oV,oR,x2⟩;have zx:=x2.size;have z1:=X1.out.size;have FIN:Hid (KernA (w2.alloc (.cells #[.slice C2 co.length e2] 262)) w.heap.size w2.heap.size co/\Ext w (w2.alloc (.cells #[.slice C2 co.length e2] 262))) :=
  ⟨⟨C2,e2,us,.new rfl,by omega,(oV.more z1).ext ((Ext.rf _).alloc _),(oR.more z1).ext ((Ext.rf _).alloc _)⟩,(X1.out.tr x2).alloc _⟩
 have fld:∀ W,(Instr.field 74 (.agg #[.int .i64 2,.int .i64 nn,.int .i64 cap,.slice A3 xw.length c3',.slice B3 xv.length d3,.slice C2 co.length e2]) 5).run Tryz.prog W=.ok (.slice C2 co.length e2) W:=fun _=>by kernel_rfl
 clear oV oR x2 c0 c1 c2 c3 c4 c5;go_wp2_with (fail);go_ret2;exact⟨_,rfl,FIN.out.1,FIN.out.2⟩
theorem QN {base g:Nat}{rows:List (List Int)}(w:World)(H:KernA w base g rows) : Calls Tryz.prog 379 #[.pointer (some ⟨g,0,none⟩)] w fun e w'=>e=.returned (.int .i64 rows.length)/\Ext w w':=by
 obtain⟨C,c,us,h1,-,-,-⟩:=H;have c0:=h1.c0;go_enter Tryz.func379,Tryz.ntmps379;go_wp2;go_ret;exact⟨rfl,Ext.rf _⟩
def FaceB (w:World)(g:Nat)(T:TypeId)(gk:Nat) : Prop:=Blk w g 175 #[.iface T (.pointer (some ⟨gk,0,none⟩))]
theorem FaceB.ext {w w':World}{g gk:Nat}{T:TypeId}(h:FaceB w g T gk)(x:Ext w w') : FaceB w' g T gk:=Blk.ext h x
theorem Zg2 (j:InstP)(vs:List Value)(w:World)(H:RInst w vs j)(hc:ZQ j=0)(hk:j.kind=2) :
  Calls Tryz.prog 46 #[.agg (List.toArray vs)] w fun e w'=>(∃ g gk base,e=.returned (.tuple #[.pointer (some ⟨g,0,none⟩),.int .i64 0])/\FaceB w' g 176 gk/\KernA w' base gk j.cost)/\Ext w w':=by
 have ok:=XD hc (by omega);have C:=fun(W:World) (x:Ext w W)=>Wb j vs W (H.ext x) (by rw[ok.w];simp) (by rw[ok.v];simp)
 have NW:=fun(W:World) (x:Ext w W)=>ZeH j vs W (H.ext x) hc hk
 unfold ZaO at NW;rw[hc] at C;clear ok hc;obtain⟨kind,nn,cap,xw,xv,co⟩:=j;obtain⟨A,a,B,b,D,d,rfl,-,-,-⟩:=H;simp only at *;subst hk;have B1:Hid (Blk (w.alloc (.cells #[.int .i64 2,.int .i64 nn,.int .i64 cap,.slice A xw.length a,.slice B xv.length b,.slice D co.length d] 74)) w.heap.size 74 #[.int .i64 2,.int .i64 nn,.int .i64 cap,.slice A xw.length a,.slice B xv.length b,.slice D co.length d]):=.new rfl;replace C:=Hd C;replace NW:=Hd NW;go_enter Tryz.func46,Tryz.ntmps46;go_wp2_with (fail);refine(C.out _ XI).mono ?_;rintro e w1 ⟨rfl,x1⟩;have X1:=Hd (Ext.tr (a:=w) XI x1);have b1:=B1.out.ext x1;have t0:=b1.c0;have t1:=b1.c1;have t2:=b1.c2;have t3:=b1.c3;have t4:=b1.c4;have t5:=b1.c5;clear x1 B1 b1;go_wp2_with (fail);refine(NW.out _ X1.out).mono ?_;rintro e w2 ⟨gk,rfl,K2,x2⟩;have X2:=Hd (X1.out.tr x2);replace K2:=Hd K2;clear x2 t0 t1 t2 t3 t4 t5;go_wp2_with (fail);go_ret2;have xa:Ext w2 (w2.alloc (.cells #[.iface 176 (.pointer (some ⟨gk,0,none⟩))] 175)):=(Ext.rf _).alloc _;exact⟨⟨w2.heap.size,gk,_,rfl,.new rfl,K2.out.ext xa⟩,X2.out.tr xa⟩
theorem ZaP (m i:Nat)(hm:m<18446744073709551616)(hi:i<64)(w:World) : Calls Tryz.prog 387 #[Yf m,.int .i64 i] w fun e w'=>e=.returned (Yf (UA m i))/\Ext w w':=by
 unfold Yf UA;have K:=Wx m (2^i) hm (Nat.pow_lt_pow_right (by omega) hi);have sh:=Zau i hi;generalize 2^i=b2 at *;generalize Ym m b2=z at *;replace K:=Hd K;replace sh:=Hd sh;have B1':Blk ((w.alloc (.cells #[.int .u64 m,.int .u64 0] 374)).alloc (.cells #[.int .u64 0,.int .u64 0] 374)) w.heap.size 374 #[.int .u64 m,.int .u64 0]:=.alloc (.new rfl) _;have B2:Blk ((w.alloc (.cells #[.int .u64 m,.int .u64 0] 374)).alloc (.cells #[.int .u64 0,.int .u64 0] 374)) (w.heap.size+1) 374 #[.int .u64 0,.int .u64 0]:=.new (by simp);have B1:Blk (w.alloc (.cells #[.int .u64 m,.int .u64 0] 374)) w.heap.size 374 #[.int .u64 m,.int .u64 0]:=.new rfl;go_enter Tryz.func387,Tryz.ntmps387;go_wp2_with (fail);refine(XM _ _).mono ?_;rintro e w1 ⟨rfl,x1⟩;have e1:(decide (0<=(i:Int))&&decide ((i:Int)<128))=true:=by simp;omega
 rw[e1];have c0:w1.cell? ⟨w.heap.size,0,none⟩=some (.int .u64 m):=(B1'.ext x1).cell 0;have c1:w1.cell? ⟨w.heap.size,1,none⟩=some (.int .u64 0):=(B1'.ext x1).cell 1;have f0:=(B1'.ext x1).free 0;have r0:w1.cell? ⟨w.heap.size+1,0,none⟩=some (.int .u64 0):=(B2.ext x1).cell 0;have r1:w1.cell? ⟨w.heap.size+1,1,none⟩=some (.int .u64 0):=(B2.ext x1).cell 1;have g0:=(B2.ext x1).free 0;have g1:=(B2.ext x1).free 1;have X1:=Hd (Ext.tr (a:=w) XI x1);replace K:=K.out;replace sh:=sh.out;have wz:IntKind.i64.wrap 0=0:=by decide
 have q1:(i:Int) / 64=0:=by omega
 have q2:(i:Int).tmod 64=(i:Int):=by rw[Int.tmod_eq_emod_of_nonneg (by omega)];omega
 have bA:=B1'.ext x1;have bR:=B2.ext x1;clear x1 B1' B2 e1 c1 f0 r0 r1 g0 g1;have bA2:=Hd (bA.set 0 (.int .u64 z));have bR2:=Hd (bR.far (p:=⟨w.heap.size,0,none⟩) (by simp) (.int .u64 z));have X2:=Hd (X1.out.setNew (p:=⟨w.heap.size,0,none⟩) (Nat.le_refl _) (.int .u64 z));have fA:w1.frozen? ⟨w.heap.size,0,none⟩=false:=bA.free 0;go_upto_region 2 with(fail);refine wp_region_any (by kernel_rfl) ?_
 change wpAny _ _ _ _ _ _ _ (World.drew _)
 refine Za 0 (.move (.tmp 1)) 3 (some 7) rfl (by kernel_rfl) Hq (by intro _;go_simp;try rfl) ?_;simp only[lay];refine Za 1 (.binOp .quo 3 (.tmp 7) (.const (.int .i64 64)) 3) 3 (some 8) rfl (by kernel_rfl) Hq (by intro _;go_simp;try rfl) ?_;simp only[lay];refine Za 2 (.indexAddr 374 (.tmp 2) (.tmp 8)) 0 (some 9) rfl (by kernel_rfl) Hq (by intro _;go_simp;try rfl) ?_;simp only[lay];refine Za 4 (.move (.tmp 1)) 3 (some 11) rfl (by kernel_rfl) Hq (by intro _;go_simp;try rfl) ?_;simp only[lay];refine Za 5 (.binOp .rem 3 (.tmp 11) (.const (.int .i64 64)) 3) 3 (some 12) rfl (by kernel_rfl) Hq (by intro _;go_simp;try rfl) ?_;simp only[lay];refine Za 6 (.binOp .shl 44 (.const (.int .u64 1)) (.tmp 12) 3) 44 (some 13) rfl (by kernel_rfl) Hq (by intro _;go_simp;try rfl) ?_;simp only[lay];refine Zd 3 (by decide +kernel) (Ze (T:=44) (x:=Operand.tmp 9) (t:=44) (d:=some 10) rfl (.pointer (some ⟨w.heap.size,0,none⟩)) (by kernel_rfl) (.int .u64 m) (by go_simp) ?_)
 try simp only[lay]
 refine Za 7 (.binOp .andNot 44 (.tmp 10) (.tmp 13) 44) 44 (some 14) rfl (by kernel_rfl) Hq (by intro _;go_simp;try rfl) ?_;simp only[lay];refine Za 8 (.indexAddr 374 (.tmp 2) (.tmp 8)) 0 (some 15) rfl (by kernel_rfl) Hq (by intro _;go_simp;try rfl) ?_;simp only[lay];refine Zd 9 (by decide +kernel) (ZR rfl (.pointer (some ⟨w.heap.size,0,none⟩)) (.int .u64 z) (by kernel_rfl) (by kernel_rfl) (by go_simp;rfl) ?_);refine wpAny_done (by kernel_rfl) ?_ _;clear c0 fA bA bR X1 hm K sh;generalize w1.setCell ⟨w.heap.size,0,none⟩ (.int .u64 z)=w2 at *;clear w1;have c0:=bA2.out.c0;have c1:=bA2.out.c1;have r0:=bR2.out.c0;have r1:=bR2.out.c1;have g0:=bR2.out.free 0;have g1:=bR2.out.free 1;go_simp;go_wp2_with (fail);refine bodyPost_ret (v:=.agg #[.int .u64 z,.int .u64 0]) (by simp[results,Tryz.results387,go_sem, *]) rfl ⟨rfl,?_⟩;exact((X2.out.setNew (p:=⟨w.heap.size+1,0,none⟩) (by simp) _).setNew (p:=⟨w.heap.size+1,1,none⟩) (by simp) _).drew
end
section
open Go.Shelf
attribute [local go_sem] Oper.semAt_some
theorem XV {β:Type}{k B:Nat}(hk:k<B)(t:TypeId)(cs:β->Array Value) : OwnFrom B (fun s W=>Blk W k t (cs s)):=fun s W W' row hs hg hr =>
 (hg.block k hs.lt (fun e=>by obtain⟨h1,_⟩:=hr _ e.symm;omega)).trans hs
def Held (w0:World)(sb:Nat)(w:World) : Prop:=w0.heap.size<=w.heap.size/\∀ b,b<w0.heap.size->b≠sb->w.heap[b]?=w0.heap[b]?
theorem Held.blk {w0 w:World}{sb g:Nat}{t:TypeId}{cs:Array Value}(h:Held w0 sb w)(hb:Blk w0 g t cs)(hne:g≠sb) : Blk w g t cs:=(h.2 g hb.lt hne).trans hb
theorem Held.set {w0 w:World}{sb:Nat}(h:Held w0 sb w)(u:Value) : Held w0 sb (w.setCell ⟨sb,0,none⟩ u):=⟨by simp;exact h.1,fun b h1 h2=>(Below.heap_setCell w ⟨sb,0,none⟩ u b h2).trans (h.2 b h1 h2)⟩
theorem Held.ext {w0 w w':World}{sb:Nat}(h:Held w0 sb w)(x:Ext w w') : Held w0 sb w':=⟨Nat.le_trans h.1 x.size,fun b h1 h2=>(x.block b (Nat.lt_of_lt_of_le h1 h.1)).trans (h.2 b h1 h2)⟩
theorem JM {β:Type}{w0:World}{B sb:Nat}(hB:w0.heap.size<=B) : OwnFrom B (fun(_:β) W=>Held w0 sb W):=fun _ W W' row hs hg hr =>
 ⟨Nat.le_trans hs.1 hg.size,fun b h1 h2=>(hg.block b (Nat.lt_of_lt_of_le h1 hs.1) (fun e=>by have:=(hr b e.symm).1;omega)).trans (hs.2 b h1 h2)⟩
theorem KeepsFrom.of_ext {B:Nat}{W W':World}(x:Ext W W') : KeepsFrom B W W':=⟨x.size,fun k _ _ hk _=>(x.block k (Array.getElem?_eq_some_iff.1 hk).1).trans hk⟩
end
section
def ZcC : Option Nat->Value
 | none=>.tuple #[Yf 0,.bool false]
 | some m=>.tuple #[Yf m,.bool true]
theorem ZbX (m:Nat)(c:Int)(p:List Int) : Wg m (c::p)=if 0<=c/\c<64/\m.testBit c.toNat=true then Wg (UA m c.toNat) p else none:=rfl
theorem ZeI {base g:Nat}{rows:List (List Int)}(P:Option Addr)(pc:Nat)(p:List Int)(w:World)(H:KernA w base g rows)(h1:1<=rows.length)(h24:rows.length<=24)(hP:RdI w P p)(lp:p.length<=1000000000) :
  Calls Tryz.prog 381 #[.pointer (some ⟨g,0,none⟩),.slice P p.length pc] w fun e w'=>e=.returned (ZcC (QM rows.length p))/\Ext w w':=by
 have DE:=Hd (fun(W:World) (x:Ext w W)=>QN W (H.ext x));have FU:=Hd (fun(W:World)=>Qv rows.length (by omega) W);have UF:=Ud h24;obtain⟨r,hr⟩:∃ r,Hid (QM rows.length p=r):=⟨_,rfl⟩;rw[hr.out];generalize rows.length=n at *;clear H;unfold QM at hr;replace hP:=Hd hP;have B1:Hid (Blk (w.alloc (.cells #[.int .u64 0,.int .u64 0] 374)) w.heap.size 374 #[.int .u64 0,.int .u64 0]):=.new rfl;have hn0:((n:Int)==0)=false:=by rw[beq_eq_false_iff_ne];omega
 by_cases hlen:n<p.length
 ·have hr2:Hid (r=none):=by
   have h:=hr.out;rw[if_pos hlen] at h;exact h.symm
  have hlb:decide ((n:Int)<(p.length:Int))=true:=decide_eq_true (by omega);rw[hr2.out];unfold ZcC Yf;go_enter Tryz.func381,Tryz.ntmps381;go_wp2_with (fail);refine(DE.out _ XI).mono ?_;rintro e w1 ⟨rfl,x1⟩;have X1:=Hd (Ext.tr (a:=w) XI x1);have b1:=B1.out.ext x1;have c0:=b1.c0;have c1:=b1.c1;have f0:=b1.free 0;have f1:=b1.free 1;clear x1 b1;go_wp2_with (fail);refine bodyPost_ret (v:=.tuple #[.agg #[.int .u64 0,.int .u64 0],.bool false]) (by simp[results,Tryz.results381,go_sem, *]) rfl ⟨rfl,?_⟩;exact(X1.out.setNew (p:=⟨w.heap.size,0,none⟩) (Nat.le_refl _) _).setNew (p:=⟨w.heap.size,1,none⟩) (Nat.le_refl _) _
 ·have hr2:Hid (Wg (2^n-1) p=r):=by
   have h:=hr.out;rw[if_neg hlen] at h;exact h
  have hlb:decide ((n:Int)<(p.length:Int))=false:=decide_eq_false (by omega);generalize 2^n-1=m0 at *;unfold Yf at FU;clear hr;go_enter Tryz.func381,Tryz.ntmps381;go_wp2_with (fail);refine(DE.out _ XI).mono ?_;rintro e w1 ⟨rfl,x1⟩;have X1:=Hd (Ext.tr (a:=w) XI x1);have b1:=Hd (B1.out.ext x1);clear x1;go_wp2_with (fail);refine(FU.out _).mono ?_;rintro e w2 ⟨rfl,x2⟩;have z12:=x2.size;have zw1:=b1.out.lt;have X3:Ext w (w2.alloc (.cells #[.int .u64 m0,.int .u64 0] 374)):=(X1.out.tr x2).alloc _;have b3:Blk (w2.alloc (.cells #[.int .u64 m0,.int .u64 0] 374)) w.heap.size 374 #[.int .u64 0,.int .u64 0]:=(b1.out.ext x2).alloc _;have s3:Blk (w2.alloc (.cells #[.int .u64 m0,.int .u64 0] 374)) w2.heap.size 374 #[.int .u64 m0,.int .u64 0]:=.new rfl;have START:=Hd (And.intro X3 (And.intro b3 s3));obtain⟨sb,hsb⟩:∃ sb,Hid (sb=w2.heap.size):=⟨_,rfl⟩;have zsb:w.heap.size<sb:=by rw[hsb.out];omega
  clear X3 b3 s3 x2 b1;go_wp2_with (fail);rw[<-hsb.out] at START ⊢;go_loopw [25] (fun v wr=>∃ (k m:Nat),v=.int .i64 k/\k<=p.length/\Hid (Wg m (p.drop k)=r)/\Hid (SubN n m)/\Hid (Ext w wr/\Blk wr w.heap.size 374 #[.int .u64 0,.int .u64 0]/\Blk wr sb 374 #[.int .u64 m,.int .u64 0])) (fun v _=>p.length-(intOf v).toNat)
  case atStart=>exact⟨0,m0,rfl,by omega,hr2,UF,START⟩
  case round =>
   obtain⟨wo,rfl⟩:=Wq wr;clear START;obtain⟨k,m,rfl,hk,HF,HU,HH⟩:=hrel;obtain⟨Y,b1,bs⟩:=HH.out;have c0:=bs.c0;have c1:=bs.c1;replace Y:=Hd Y;replace b1:=Hd b1;replace bs:=Hd bs;clear HH
   by_cases hlt:k<p.length
   ·obtain⟨pb,po,c,rfl,zp,cp,ep,dp⟩:=(hP.out.ext Y.out).at hlt
    have HF2:Hid (r=if 0<=c/\c<64/\m.testBit c.toNat=true then Wg (UA m c.toNat) (p.drop (k+1)) else none):=by
     have h:=HF.out;rw[dp.out,ZbX] at h;exact h.symm
    have HA:=Hd (fun(W:World)=>Zfz m c HU.out.1 W);unfold Yf at HA;clear HF ep dp;go_wp2_with (fail);refine(HA.out _).mono ?_;rintro e w3 ⟨rfl,x3⟩;have Y3:=Hd (Y.out.tr x3);have b13:=Hd (b1.out.ext x3);have bs3:=Hd (bs.out.ext x3);clear x3 c0 c1 cp
    by_cases hin:0<=c/\c<64/\m.testBit c.toNat=true
    ·have e1:(decide (0<=c/\c<64)&&m.testBit c.toNat)=true:=by rw[decide_eq_true ⟨hin.1,hin.2.1⟩,hin.2.2];rfl
     rw[e1];have HF3:Hid (Wg (UA m c.toNat) (p.drop (k+1))=r):=by
      have h:=HF2.out;rw[if_pos hin] at h;exact h.symm
     obtain⟨i,rfl⟩:∃ i:Nat,c=(i:Int):=⟨c.toNat,by omega⟩;rw[Int.toNat_natCast] at HF3;have WO:=Hd (fun(W:World)=>ZaP m i HU.out.1 (by omega) W);have HU2:=Hd (HU.out.clr i);generalize UA m i=m2 at *;unfold Yf at WO;have c0:=bs3.out.c0;have c1:=bs3.out.c1;clear hin e1 HF2 HA;go_wp2_with (fail);refine(WO.out _).mono ?_;rintro e w4 ⟨rfl,x4⟩;have bs4:=bs3.out.ext x4;have b14:=b13.out.ext x4;have d0:=bs4.c0;have d1:=bs4.c1;have f0:=bs4.free 0;have f1:=bs4.free 1;have NEW:Hid (Ext w ((w4.setCell ⟨sb,0,none⟩ (.int .u64 m2)).setCell ⟨sb,1,none⟩ (.int .u64 0))/\Blk ((w4.setCell ⟨sb,0,none⟩ (.int .u64 m2)).setCell ⟨sb,1,none⟩ (.int .u64 0)) w.heap.size 374 #[.int .u64 0,.int .u64 0]/\Blk ((w4.setCell ⟨sb,0,none⟩ (.int .u64 m2)).setCell ⟨sb,1,none⟩ (.int .u64 0)) sb 374 #[.int .u64 m2,.int .u64 0]) :=
      ⟨((Y3.out.tr x4).setNew (p:=⟨sb,0,none⟩) (Nat.le_of_lt zsb) _).setNew (p:=⟨sb,1,none⟩) (Nat.le_of_lt zsb) _,(b14.far (p:=⟨sb,0,none⟩) (Nat.ne_of_lt zsb) _).far (p:=⟨sb,1,none⟩) (Nat.ne_of_lt zsb) _,(bs4.set 0 (.int .u64 m2)).set 1 (.int .u64 0)⟩
     clear bs4 b14 x4 c0 c1;go_wp2_with (fail);go_roundw
     case rel=>exact⟨k+1,m2,by go_num,by omega,HF3,HU2,NEW⟩
     case measure=>simp[intOf];omega
    ·have e1:(decide (0<=c/\c<64)&&m.testBit c.toNat)=false:=by
      by_cases h2:0<=c/\c<64
      ·cases h3:m.testBit c.toNat with
       | false=>simp
       | true=>exact absurd ⟨h2.1,h2.2,h3⟩ hin
      ·rw[decide_eq_false h2];rfl
     rw[e1];have HF3:Hid (r=none):=by
      have h:=HF2.out;rw[if_neg hin] at h;exact h
     have d0:=b13.out.c0;have d1:=b13.out.c1;have f0:=b13.out.free 0;have f1:=b13.out.free 1;clear hin e1 HF2 HA;go_wp2_with (fail);refine bodyPost_ret (v:=.tuple #[.agg #[.int .u64 0,.int .u64 0],.bool false]) (by simp[results,Tryz.results381,go_sem, *]) rfl ⟨by rw[HF3.out];rfl,?_⟩;exact(Y3.out.setNew (p:=⟨w.heap.size,0,none⟩) (Nat.le_refl _) _).setNew (p:=⟨w.heap.size,1,none⟩) (Nat.le_refl _) _
   ·obtain rfl:k=p.length:=by omega
    have HF3:Hid (r=some m):=by
     have h:=HF.out;rw[List.drop_length] at h;exact h.symm
    have d0:=b1.out.c0;have d1:=b1.out.c1;have f0:=b1.out.free 0;have f1:=b1.out.free 1;go_wp2_with (fail);refine bodyPost_ret (v:=.tuple #[.agg #[.int .u64 m,.int .u64 0],.bool true]) (by simp[results,Tryz.results381,go_sem, *]) rfl ⟨by rw[HF3.out];rfl,?_⟩;exact(Y.out.setNew (p:=⟨w.heap.size,0,none⟩) (Nat.le_refl _) _).setNew (p:=⟨w.heap.size,1,none⟩) (Nat.le_refl _) _
end
section
open Go.Shelf
attribute [local go_sem] Oper.semAt_some
def Yw (f:Nat->Int)(b:Int)(l:List Nat) : Int:=l.foldl (fun b x=>if b<0 then f x else if f x<b then f x else b) b
theorem ZaQ (f:Nat->Int)(b:Int)(l:List Nat)(x:Nat) : Yw f b (l++[x])=if Yw f b l<0 then f x else if f x<Yw f b l then f x else Yw f b l:=by
 unfold Yw;rw[List.foldl_append]
 rfl
theorem ZeJ (A:Option Addr)(rc:Nat)(row:List Int)(m:Nat)(hm:m<18446744073709551616)(h63:∀ x∈Zq m,x<63)(hrow:∀ x∈Zq m,x<row.length)(w:World)(hT:Tab w)(hA:RdI w A row) :
  CallsIn Fence.wide 3 Tryz.prog 388 #[.slice A row.length rc,Yf m] w fun e W'=>e=.returned (.int .i64 (Yw (fun c=>row.getD c 0) (-1) (Zq m)))/\Ext w W':=by
 have hg:=Zcw hT;unfold Yf;refine callsIn_of_wp_marks Tryz.func388 rfl trivial ?_ rfl;simp only[Tryz.ntmps388,List.size_toArray,List.length_cons,List.length_nil,Nat.reduceAdd,Nat.reduceSub,Array.replicate_succ,Array.replicate_zero,List.push_toArray,List.append_toArray,List.nil_append,List.cons_append]
 gi_wp2
 refine⟨trivial,?_⟩;refine(callsIn_wide.2 (Zcv m _)).mono ?_;rintro e w' ⟨rfl,rfl⟩
 gi_wp2
 have bR:Blk ((((w.alloc (.cells #[.slice A row.length rc] 22)).alloc (.cells #[.int .u64 m,.int .u64 0] 374)).alloc (.cells #[.int .i64 (-1)] 3)).alloc (.cells #[.int .u64 m,.int .u64 0] 374)) w.heap.size 22 #[.slice A row.length rc]:=.alloc (.alloc (.alloc (.new rfl) _) _) _;have bO:Blk ((((w.alloc (.cells #[.slice A row.length rc] 22)).alloc (.cells #[.int .u64 m,.int .u64 0] 374)).alloc (.cells #[.int .i64 (-1)] 3)).alloc (.cells #[.int .u64 m,.int .u64 0] 374)) (w.heap.size+1+1) 3 #[.int .i64 (-1)]:=.alloc (.new (by simp)) _;have bB:Blk ((((w.alloc (.cells #[.slice A row.length rc] 22)).alloc (.cells #[.int .u64 m,.int .u64 0] 374)).alloc (.cells #[.int .i64 (-1)] 3)).alloc (.cells #[.int .u64 m,.int .u64 0] 374)) (w.heap.size+1+1+1) 374 #[.int .u64 m,.int .u64 0]:=.new (by simp);have hB0:Ext w ((((w.alloc (.cells #[.slice A row.length rc] 22)).alloc (.cells #[.int .u64 m,.int .u64 0] 374)).alloc (.cells #[.int .i64 (-1)] 3)).alloc (.cells #[.int .u64 m,.int .u64 0] 374)):=((((Ext.rf w).alloc _).alloc _).alloc _).alloc _;refine wpIn_rangeFunc_ownG rfl (by omega) (gf:=391) (lb:=#[.pointer (some ⟨w.heap.size+1+1+1,0,none⟩)]) rfl trivial (enters_of Tryz.func391 (by kernel_rfl) rfl)
  (Jm 2 m hm h63 (w.heap.size+1+1+1) w.heap.size _ bB (hT.ext hB0) hB0.size hg) SetKp.tr (Zcx (cs:=#[.int .u64 m,.int .u64 0]) hB0.size bB) (Below.refl _ _) (fun _=>rfl)
  (fun pre W=>Blk W (w.heap.size+1+1) 3 #[.int .i64 (Yw (fun c=>row.getD c 0) (-1) (inL pre))]/\Blk W w.heap.size 22 #[.slice A row.length rc]/\Blk W (w.heap.size+1+1+1) 374 #[.int .u64 m,.int .u64 0]/\Below w.heap.size w W)
  (fun _ _ _=>False)
  (OwnFrom.and (XV (by simp<;>omega) _ _) (OwnFrom.and (XV (by simp<;>omega) _ _) (OwnFrom.and (XV (by simp<;>omega) _ _) (ownFrom_below (Nat.le_refl _) (by simp<;>omega)))))
  (fun _ _ _ _ _ hs _ _=>hs)
  ⟨bO,bR,bB,hB0⟩
  (fun x=>{ tmps:=#[.slice A row.length rc,.agg #[.int .u64 m,.int .u64 0],.pointer (some ⟨w.heap.size,0,none⟩),.pointer (some ⟨w.heap.size+1,0,none⟩),.int .i64 0,.pointer (some ⟨w.heap.size+1+1,0,none⟩),.int .i64 ((x.1:Nat):Int),.agg #[.int .u64 m,.int .u64 0],.func (.func 391) #[] #[.pointer (some ⟨w.heap.size+1+1+1,0,none⟩)],.int .i64 ((x.1:Nat):Int),undef,undef,undef,undef,undef,undef,undef,undef,undef,undef,undef,undef,undef,undef,undef],defers:=[] }) ?assign ?body ?done ?stop
 case assign =>
  intro l x W K hK
  gi_wp2
  exact hK
 case body =>
  rintro l pre x W ⟨hO,hR,hBn,hB⟩ hlt;obtain⟨bb,hbb⟩:∃ bb,Hid (bb=Yw (fun c=>row.getD c 0) (-1) (inL pre)):=⟨_,rfl⟩;rw[<-hbb.out] at hO;have cO:=hO.c0;have fO:=hO.free 0;have cR:=hR.c0;have hxr:=hrow x.1 x.2;obtain⟨ab,ao,y,rfl,zy,cy,ey,_⟩:=(RdI.ext hA hB).at hxr;have eN:Hid (Yw (fun c=>row.getD c 0) (-1) (inL (pre++[x]))=if bb<0 then y else if y<bb then y else bb):=Hd (by
   rw[Zav,ZaQ,<-hbb.out,getD_some ey.out])
  have qx:((x.1:Nat):Int)<(row.length:Int):=by omega
  have N0:Hid (Blk (W.setCell ⟨w.heap.size+1+1,0,none⟩ (.int .i64 y)) (w.heap.size+1+1) 3 #[.int .i64 y]):=hO.set 0 (.int .i64 y);have hmx:Tryz.prog.follows .mixedOrders=true:=by kernel_rfl
  replace hR:=Hd hR;replace hBn:=Hd hBn;replace hB:=Hd hB;replace hO:=Hd hO;clear ey;have N1:=Hd (hR.out.far (p:=⟨w.heap.size+1+1,0,none⟩) (by simp<;>omega) (.int .i64 y));have N2:=Hd (hBn.out.far (p:=⟨w.heap.size+1+1,0,none⟩) (by simp) (.int .i64 y));have N3:=Hd ((Below.refl w.heap.size W).setCell (p:=⟨w.heap.size+1+1,0,none⟩) (by simp<;>omega) (.int .i64 y))
  by_cases hneg:bb<0
  ·rw[if_pos hneg] at eN
   gi_wp2
   gi_region_o
   all_goals gi_wp2
   all_goals exact⟨((KeepsOthers.setCell _ _ _).trans (KeepsOthers.drew _)).from _,⟨N3.out.drew,N2.out.drew.trans hBn.out.symm⟩,by rw[eN.out];exact N0.out.drew,N1.out.drew,N2.out.drew,(hB.out.trans N3.out).drew⟩
  ·rw[if_neg hneg] at eN
   by_cases hy:y<bb
   ·rw[if_pos hy] at eN
    gi_wp2
    gi_region_o
    all_goals gi_wp2
    all_goals exact⟨((KeepsOthers.setCell _ _ _).trans (KeepsOthers.drew _)).from _,⟨N3.out.drew,N2.out.drew.trans hBn.out.symm⟩,by rw[eN.out];exact N0.out.drew,N1.out.drew,N2.out.drew,(hB.out.trans N3.out).drew⟩
   ·rw[if_neg hy] at eN
    gi_wp2
    gi_region_o
    all_goals gi_wp2
    all_goals exact⟨(KeepsOthers.drew _).from _,⟨(Below.refl _ W).drew,rfl⟩,by rw[eN.out];exact hO.out.drew,hR.out.drew,hBn.out.drew,hB.out.drew⟩
 case done =>
  rintro D ys W hD rfl ⟨hO,_,_,hB⟩ hK;rw[Qx] at hO;have cO:=hO.cell 0
  gi_wp2
  refine⟨by simp,.inl ⟨_,_,rfl,run_takeDeferred hK,?_⟩⟩;exact⟨_,results_tmp rfl _ _ _,rfl,hB.trans (belowK_b (w:=w) (Nat.le_refl _) W D _ _ (by simp at hD;omega) hK rfl rfl)⟩
 case stop =>
  rintro D c pre W _ _ h _;exact h.elim
end
section
open Go.Shelf
attribute [local go_sem] Oper.semAt_some
def JN (rows:List (List Int))(l:List Nat) : List Int:=rows.map fun row=>Yw (fun c=>row.getD c 0) (-1) l
def Vq (c:Nat)(b:Int) : List (List Int)->List Int->Int
 | row::rows,o::off=>Vq c (if b<0 then row.getD c 0-o else if row.getD c 0-o<b then row.getD c 0-o else b) rows off
 | _,_=>b
def Xw (rows:List (List Int))(l:List Nat) : Int:=Yi (JN rows l)+Yi (l.map fun c=>Vq c (-1) rows (JN rows l))
theorem Ue {f:Nat->Int}{B:Int} : ∀ {l:List Nat} {b:Int},(∀ c∈l,-B<=f c/\f c<=B)->-B<=b->b<=B->-B<=Yw f b l/\Yw f b l<=B
 | [],b,_,h1,h2=>⟨h1,h2⟩
 | c::l,b,h,h1,h2=>by
  have hc:=h c (by simp);have e:Yw f b (c::l)=Yw f (if b<0 then f c else if f c<b then f c else b) l:=rfl;rw[e];refine Ue (fun x hx=>h x (by simp[hx])) ?_ ?_<;>split<;>(try split)<;>omega
theorem UI {c:Nat}{B:Int} : ∀ {rows:List (List Int)} {off:List Int} {b:Int},(∀ row∈rows,0<=row.getD c 0/\row.getD c 0<=B)->(∀ o∈off,-B<=o/\o<=B)->0<=B->-(2*B)<=b->b<=2*B->-(2*B)<=Vq c b rows off/\Vq c b rows off<=2*B
 | [],off,b,_,_,_,h1,h2=>by cases off<;>exact⟨h1,h2⟩
 | _::_,[],b,_,_,_,h1,h2=>⟨h1,h2⟩
 | row::rows,o::off,b,hr,ho,h0,h1,h2=>by
  have a1:=hr row (by simp);have a2:=ho o (by simp);unfold Vq;refine UI (fun x hx=>hr x (by simp[hx])) (fun x hx=>ho x (by simp[hx])) h0 ?_ ?_<;>split<;>(try split)<;>omega
theorem Zdt (A:Option Addr)(rc:Nat)(row:List Int)(m:Nat)(hm:m<18446744073709551616)(h63:∀ x∈Zq m,x<63)(hrow:∀ x∈Zq m,x<row.length)(w:World)(hT:Tab w)(hA:RdI w A row) :
  Calls Tryz.prog 388 #[.slice A row.length rc,Yf m] w fun e W'=>e=.returned (.int .i64 (Yw (fun c=>row.getD c 0) (-1) (Zq m)))/\Ext w W' :=
 callsIn_wide.1 (ZeJ A rc row m hm h63 hrow w hT hA)
theorem Jy (a:List Int)(x:Int) : Yi (a++[x])=Yi a+x:=by rw[Zeo];simp[Yi]
theorem VP {B:Int} : ∀ {l:List Int},(∀ x∈l,-B<=x/\x<=B)->-(B*l.length)<=Yi l/\Yi l<=B*l.length
 | [],_=>by simp[Yi]
 | x::l,h=>by
  have h1:=h x (by simp);have h2:=VP (l:=l) fun y hy=>h y (by simp[hy])
  simp only[Yi,List.length_cons,Int.natCast_add,Int.natCast_one,Int.mul_add,Int.mul_one];omega
end
section
open Go
section
variable {F:Fence} {n:Nat} {P:Program} {ops:Array Oper} {md:Region.Mode} {C:World->Prop}
theorem UB {o:Oper}{a:Act}{K:Act->Prop}{K':Act->World->Prop}{Q':Exit->Act->World->Prop}{w:World}(hd:∀ c,o.op≠.defer c)(hw:C w)(h:∀ a w',C w'->K a->K' a w')
  (ha:o.askedIn F P a C) (hh:o.quietIn F n P a C K):o.wpIn F n P a w K' Q':=by
 obtain⟨v,h1,h2⟩:=hh;have h3:=h1 w hw;unfold Oper.quietAtIn at h3;unfold Oper.wpIn;refine⟨ha w hw,?_⟩;rw[Oper.semAt_plain F _ _ hd];generalize (execOp a.eval o).run P w=r at *
 cases r with
 | ok x w' =>
  cases x<;>simp only[Oper.quietUponIn] at h3<;>simp only[Oper.uponIn]
  case value u =>
   obtain⟨e1,e2⟩:=h3;rw[e1,e2];exact h _ _ hw h2
  case skip =>
   obtain⟨e1,e2⟩:=h3;rw[e1,<-e2];exact h _ _ hw h2
  case enter f args =>
   obtain⟨e1,hd,hc⟩:=h3;rw[e1];exact⟨hd,hc.mono fun e w'' ⟨he,hw''⟩=>by subst he;exact h _ _ hw'' h2⟩
 | halt x w'=>simp only[Oper.quietUponIn] at h3
theorem QX (hd:∀ (i:Nat) (o:Oper),ops[i]?=some o->∀ c,o.op≠.defer c){i:Nat}{a:Act}{K:Act->Prop}{K':Act->World->Prop}{Q':Exit->Act->World->Prop}{w:World}(hC:C w)(h:∀ a w',C w'->K a->K' a w')
  (hh:qOpIn F n P ops C i K a):wpOpIn F n P ops Q' i K' a w:=by
 unfold qOpIn at hh;unfold wpOpIn;split
 ·rename_i ho;simp only[ho] at hh;exact h _ _ hC hh
 ·rename_i o ho
  simp only[ho] at hh;obtain⟨ha,hh⟩:=hh;split
  ·rename_i hw;simp only[hw,if_true] at hh;exact UB (hd i o ho) hC h ha hh
  ·rename_i hw;simp only[hw] at hh;exact⟨ha w hC,h _ _ hC hh⟩
theorem WM {Q:Act->Prop}{Q':Exit->Act->World->Prop}(hd:∀ (i:Nat) (o:Oper),ops[i]?=some o->∀ c,o.op≠.defer c)(hQ:∀ a w,C w->Q a->Q' .normal a w) : ∀ (fuel:Nat) (listed:Array Bool) (a:Act) (w:World),C w ->
  wpAnyQIn F n P md ops C Q fuel listed a->wpAnyIn F n P md ops Q' fuel listed a w
 | 0,_,_,_,hw,h=>⟨h.1,hQ _ _ hw h.2⟩
 | fuel+1,_,_,_,hw,h=>⟨fun h0=>hQ _ _ hw (h.1 h0),fun i hi=>QX hd hw (fun a' w' hw'=>WM hd hQ fuel _ a' w' hw') (h.2 i hi)⟩
def ZcD : Oper->Bool
 | { op:=.defer _,.. }=>true
 | _=>false
theorem YH {id:Nat}{Q:Exit->Act->World->Prop}{a:Act}{w:World}{l:List Oper}(hm:P.follows .mixedOrders=true)(hB:Region.lexB .any l.toArray=true)(hd:l.all (fun o => !ZcD o)=true)
  (h:wpQuietIn F n P l.toArray (fun w'=>∃ n,w'=w.drewN n) (fun a'=>∀ w',(∃ n,w'=w.drewN n)->Q .normal a' w') l a):(Code.region id l.toArray true).wpIn F n P Q a w:=by
 simp only[Region.lexB,Bool.and_eq_true] at hB;have hd':∀ (i:Nat) (o:Oper),l.toArray[i]?=some o->∀ c,o.op≠.defer c:=by
  intro i o ho c hc;have h1:o∈l:=by
   have h2:l[i]?=some o:=by simpa using ho
   exact List.mem_of_getElem? h2
  have h3:=List.all_eq_true.1 hd o h1;obtain⟨dst,op,ty,pos,af,gu⟩:=o;simp only at hc;subst hc;simp[ZcD] at h3
 refine wpIn_region_any hm (WM (C:=fun w'=>∃ n,w'=w.drewN n) (Q:=fun a'=>∀ w',(∃ n,w'=w.drewN n)->Q .normal a' w') hd' (fun _ w' hw' h=>h w' hw') _ _ _ _ ⟨1,rfl⟩ ?_);have:=wpAnyQIn_lex (F:=F) (n:=n) (C:=fun w'=>∃ n,w'=w.drewN n) (md:=.any) hB.1 l 0 (Array.replicate l.length false) a (by simp) (by simpa using hB.2) h
 simpa using this
end
end
section
open Go.Shelf
attribute [local go_sem] Oper.semAt_some
theorem WP {W:World}{n₀ k size:Nat}{e:TypeId}{v:Value}{xs:List Value}(hrow:W.ownsRow n₀ e size v k xs){b:Nat}(hb:b<n₀) : v.ownBlock≠some b:=by
 rcases hrow.2 with⟨rfl,_⟩ | ⟨g',cap,cur,rfl,h,_⟩
 ·simp[Value.ownBlock]
 ·intro e'
  obtain rfl:g'=b:=by simpa [Value.ownBlock] using e'
  omega
def ZgC (w wr:World)(A:Option Addr)(n rc m:Nat)(sum:Int)(OA:Option Addr)(k oc:Nat)(offs:List Int) : Prop :=
 Ext w wr/\Blk wr w.heap.size 72 #[.slice A n rc]/\Blk wr (w.heap.size+1) 374 #[.int .u64 m,.int .u64 0]/\Blk wr (w.heap.size+1+1) 3 #[.int .i64 sum]/\Blk wr (w.heap.size+1+1+1) 22 #[.slice OA k oc]/\wr.ownsRow (w.heap.size+1+1+1+1) 3 1 (.slice OA k oc) k (offs.map (Value.int .i64))/\w.heap.size+1+1+1+1<=wr.heap.size
theorem Zdu {base:Nat}(A:Option Addr)(rc:Nat)(us:List Value)(rows:List (List Int))(m:Nat)(hm:m<18446744073709551616)(h63:∀ x∈Zq m,x<63)(hlen:∀ row∈rows,∀ x∈Zq m,x<row.length)(hbd:∀ row∈rows,∀ x∈row,0<=x/\x<=2147483647)(hr64:rows.length<=64)
  (w:World) (hT:Tab w) (hV:RdV w 22 A us) (hR:RowsO w base us rows) :
  CallsIn Fence.wide 3 Tryz.prog 382 #[.slice A rows.length rc,Yf m] w fun e W'=>e=.returned (.int .i64 (Xw rows (Zq m)))/\Ext w W':=by
 obtain⟨i0,hi,hz0,hz1,hz2⟩:=info_parts Vv;have hg:=Zcw hT;have lus:us.length=rows.length:=hR.1;obtain⟨offs,hoffs⟩:∃ offs,Hid (offs=JN rows (Zq m)):=⟨_,rfl⟩;have loff:offs.length=rows.length:=by rw[hoffs.out];simp[JN]
 have eoff:∀ (k:Nat) (row:List Int),rows[k]?=some row->offs[k]?=some (Yw (fun c=>row.getD c 0) (-1) (Zq m)):=fun k row h=>by rw[hoffs.out,JN,List.getElem?_map,h];rfl
 have hget:∀ row∈rows,∀ c∈Zq m,0<=row.getD c 0/\row.getD c 0<=2147483647:=fun row hr c hc=>by
  have h1:=hlen row hr c hc;have h2:row.getD c 0=row[c]:=by simp[List.getD,List.getElem?_eq_getElem h1]
  rw[h2];exact hbd row hr _ (List.getElem_mem _)
 have boff:∀ o∈offs,-2147483647<=o/\o<=2147483647:=fun o ho=>by
  rw[hoffs.out] at ho;obtain⟨row,hr,rfl⟩:=List.mem_map.1 ho;exact Ue (fun c hc=>by have:=hget row hr c hc;omega) (by omega) (by omega)
 have bsum:∀ k,-(2147483647*64)<=Yi (offs.take k)/\Yi (offs.take k)<=2147483647*64:=fun k=>by
  have h1:=VP (B:=2147483647) (l:=offs.take k) fun x hx=>boff x (List.mem_of_mem_take hx)
  have h2:(offs.take k).length<=64:=by rw[List.length_take];omega
  omega
 have LE:=fun(B:Option Addr) (c:Nat) (row:List Int) (hrow:row∈rows) (W:World) (x:Ext w W) (h:RdI W B row)=>Zdt B c row m hm h63 (hlen row hrow) W (hT.ext x) h
 unfold Yf at LE ⊢;replace LE:=Hd LE;replace hV:=Hd hV;replace hR:=Hd hR;replace hget:=Hd hget;replace hbd:=Hd hbd;replace hlen:=Hd hlen;replace boff:=Hd boff;replace bsum:=Hd bsum;replace eoff:=Hd eoff;replace lus:=Hd lus;replace loff:=Hd loff;refine callsIn_of_wp_marks Tryz.func382 rfl trivial ?_ rfl;simp only[Tryz.ntmps382,List.size_toArray,List.length_cons,List.length_nil,Nat.reduceAdd,Nat.reduceSub,Array.replicate_succ,Array.replicate_zero,List.push_toArray,List.append_toArray,List.nil_append,List.cons_append]
 gi_wp2
 have START:Hid (ZgC w ((((w.alloc (.cells #[.slice A rows.length rc] 72)).alloc (.cells #[.int .u64 m,.int .u64 0] 374)).alloc (.cells #[.int .i64 0] 3)).alloc (.cells #[.slice none 0 0] 22)) A rows.length rc m (Yi (offs.take 0)) none 0 0 (offs.take 0)) :=
  ⟨((((Ext.rf w).alloc _).alloc _).alloc _).alloc _,.alloc (.alloc (.alloc (.new rfl) _) _) _,.alloc (.alloc (.new (by simp)) _) _,.alloc (.new (by simp)) _,.new (by simp),World.ownsRow_nil _ _ _ _,by simp⟩
 gi_loopw [17] (fun v wr=>∃ (k:Nat) (OA:Option Addr) (oc:Nat),v=.int .i64 k/\k<=rows.length/\Hid (ZgC w wr A rows.length rc m (Yi (offs.take k)) OA k oc (offs.take k))) (fun v _=>rows.length-(intOf v).toNat)
 case atStart=>exact⟨0,none,0,rfl,by omega,START⟩
 case round =>
  obtain⟨wo,rfl⟩:=Wq wr;clear START;obtain⟨k,OA,oc,rfl,hk,HH⟩:=hrel;obtain⟨Y,bR,bS,bU,bO,oO,zO⟩:=HH.out
  by_cases hlt:k<rows.length
  ·have hlu:k<us.length:=by rw[lus.out];exact hlt
   have er:rows[k]?=some rows[k]:=List.getElem?_eq_getElem hlt;obtain⟨D,d,hu,oD⟩:=hR.out.2 k _ er;have hmem:rows[k]∈rows:=List.getElem_mem hlt;generalize rows[k]=row at *;obtain⟨ab,ao,vv,rfl,zv,cv,ev⟩:=(hV.out.ext Y).at hlu;obtain rfl:.slice D row.length d=vv:=by
    have h:=ev.out;rw[hu] at h;exact Option.some.inj h
   obtain⟨ob,hob⟩:∃ ob,Hid (ob=Yw (fun c=>row.getD c 0) (-1) (Zq m)):=⟨_,rfl⟩;have eo:=eoff.out k row er;rw[<-hob.out] at eo;have et:Hid (offs.take (k+1)=offs.take k++[ob]):=Hd (by rw[List.take_add_one,eo];rfl);have es:Yi (offs.take (k+1))=Yi (offs.take k)+ob:=by rw[et.out,Jy]
   have b1:=bsum.out k;have b2:=bsum.out (k+1);have lk:(offs.take k).length=k:=by rw[List.length_take,loff.out];omega
   obtain⟨su,hsu⟩:∃ su,Hid (su=Yi (offs.take k)):=⟨_,rfl⟩;rw[<-hsu.out] at bU es b1;rw[es] at b2;have hw:IntKind.i64.wrap (su+ob)=su+ob:=IntWalk.i64_in _ (by omega);have L1:=Hd (LE.out D d row hmem wo Y (oD.read.ext Y));rw[<-hob.out] at L1;have cS0:=bS.c0;have cS1:=bS.c1;have q1:(k:Int)<(rows.length:Int):=by omega
   replace es:=Hd es;replace Y:=Hd Y;replace bR:=Hd bR;replace bS:=Hd bS;replace bU:=Hd bU;replace bO:=Hd bO;replace oO:=Hd oO;replace lk:=Hd lk;clear HH ev eo hu oD er b1 b2
   gi_wp2
   refine⟨trivial,?_⟩;refine(callsIn_wide.2 L1.out).mono ?_;rintro e w1 ⟨rfl,x1⟩;have U1:=bU.out.ext x1;have O1:=bO.out.ext x1;have cU:=U1.c0;have fU:=U1.free 0;have hrow:(w1.setCell ⟨w.heap.size+1+1,0,none⟩ (.int .i64 (su+ob))).ownsRow (w.heap.size+1+1+1+1) 3 1 (.slice OA k oc) k ((offs.take k).map (Value.int .i64)):=by
    have h1:w1.ownsRow (w.heap.size+1+1+1+1) 3 1 (.slice OA k oc) k ((offs.take k).map (Value.int .i64)):=OwV.ext (n:=k) oO.out x1;exact OwV.keep (n:=k) h1 (fun g hg=>by
     have:=OwV.lt (n:=k) h1 g hg;exact Below.heap_setCell w1 ⟨w.heap.size+1+1,0,none⟩ _ g (by simp;omega))
   have cO:(w1.setCell ⟨w.heap.size+1+1,0,none⟩ (.int .i64 (su+ob))).cell? ⟨w.heap.size+1+1+1,0,none⟩=some (.slice OA k oc):=(O1.far (p:=⟨w.heap.size+1+1,0,none⟩) (by simp) _).cell 0
   gi_wp2_with (gi_at_builtin;go_loud (refine wpListIn_append_own _ rfl _ _ 22 rfl (w.heap.size+1+1+1+1) 3 i0 (.int .i64 0) 1 8 Tryz.underlying22 hi hz0 hz1 hz2 rfl (by decide) _ _ _ rfl (hrow.alloc _) ⟨w1.heap.size,0,none⟩ 1 1 [.int .i64 ob] rfl rfl (by simpa using cell_one_new (w1.setCell ⟨w.heap.size+1+1,0,none⟩ (.int .i64 (su+ob))) (.int .i64 ob) 3) (by simp[Value.oneCell']) (by simp only[maxLen];omega) (by omega) (by have:=x1.size;simp;omega) ?_;intro v' w3 hown' hgrow _;obtain⟨g',cap',rfl⟩:=ownsRow_succ hown';have hO3:=((O1.far (p:=⟨w.heap.size+1+1,0,none⟩) (by simp) (.int .i64 (su+ob))).alloc _).grown hgrow (WP hrow (by omega));have hc3:=hO3.cell 0;have hf3:=hO3.free 0))
   have Y3:Hid (Ext w w3):=(((Y.out.tr x1).setNew (by simp<;>omega) (.int .i64 (su+ob))).alloc _).grow hgrow (fun b hb=>Classical.byContradiction fun hn=>WP hrow (b:=b) (by omega) hb);have hR3:=Hd ((((bR.out.ext x1).far (p:=⟨w.heap.size+1+1,0,none⟩) (by simp<;>omega) (.int .i64 (su+ob))).alloc _).grown hgrow (WP hrow (by omega)));have hS3:Hid (Blk w3 (w.heap.size+1) 374 #[.int .u64 m,.int .u64 0]):=(((bS.out.ext x1).far (p:=⟨w.heap.size+1+1,0,none⟩) (by simp<;>omega) (.int .i64 (su+ob))).alloc _).grown hgrow (WP hrow (by omega));have hU3:Hid (Blk w3 (w.heap.size+1+1) 3 #[.int .i64 (su+ob)]):=(((U1.set 0 (.int .i64 (su+ob))).alloc _).grown hgrow (WP hrow (by omega)));have hown3:Hid (w3.ownsRow (w.heap.size+1+1+1+1) 3 1 (.slice (some ⟨g',0,none⟩) (k+1) cap') (k+1) ((offs.take (k+1)).map (Value.int .i64))):=Hd (by
    rw[et.out,List.map_append];exact hown')
   have FIN:Hid (ZgC w (w3.setCell ⟨w.heap.size+1+1+1,0,none⟩ (.slice (some ⟨g',0,none⟩) (k+1) cap')) (some ⟨ab,ao,none⟩) rows.length rc m (Yi (offs.take (k+1))) (some ⟨g',0,none⟩) (k+1) cap' (offs.take (k+1))):=by
    refine⟨Y3.out.setNew (by simp<;>omega) _,hR3.out.far (by simp<;>omega) _,hS3.out.far (by simp<;>omega) _,?_,hO3.set 0 _,?_,?_⟩
    ·rw[es.out]
     exact hU3.out.far (by simp<;>omega) _
    ·exact OwV.keep (n:=k+1) hown3.out (fun g hg=>by
      have:=OwV.lt (n:=k+1) hown3.out g hg;exact Below.heap_setCell w3 ⟨w.heap.size+1+1+1,0,none⟩ _ g (by simp;omega))
    ·have h1:=OwV.lt (n:=k+1) hown3.out g' (by simp[bl])
     simp;omega
   go_roundw
   case rel=>exact⟨k+1,some ⟨g',0,none⟩,cap',by go_num,by omega,FIN⟩
   case measure =>
    simp only[intOf];omega
  ·obtain rfl:k=rows.length:=by omega
   have q0:¬((rows.length:Int)<(rows.length:Int)):=by omega
   have et:offs.take rows.length=offs:=List.take_of_length_le (by rw[loff.out];exact Nat.le_refl _);rw[et] at bU oO;have cS0:=bS.c0;have cS1:=bS.c1;replace Y:=Hd Y;replace bR:=Hd bR;replace bS:=Hd bS;replace bU:=Hd bU;replace bO:=Hd bO;replace oO:=Hd oO;clear HH et
   gi_wp2
   refine⟨trivial,?_⟩;refine(callsIn_wide.2 (Zcv m _)).mono ?_;rintro e w' ⟨rfl,rfl⟩
   gi_wp2
   have loO:OwI wo (w.heap.size+1+1+1+1) OA oc offs:=by
    unfold OwI;rw[loff.out];exact oO.out
   have bB:Blk (wo.alloc (.cells #[.int .u64 m,.int .u64 0] 374)) wo.heap.size 374 #[.int .u64 m,.int .u64 0]:=.new rfl;have hB0:Ext w (wo.alloc (.cells #[.int .u64 m,.int .u64 0] 374)):=Y.out.alloc _;refine wpIn_rangeFunc_ownG rfl (by omega) (gf:=391) (lb:=#[.pointer (some ⟨wo.heap.size,0,none⟩)]) rfl trivial (enters_of Tryz.func391 (by kernel_rfl) rfl)
    (Jm 2 m hm h63 wo.heap.size w.heap.size _ bB (hT.ext hB0) hB0.size hg) SetKp.tr (Zcx (cs:=#[.int .u64 m,.int .u64 0]) hB0.size bB) (Below.refl _ _) (fun _=>rfl)
    (fun pre W=>Blk W (w.heap.size+1+1) 3 #[.int .i64 (Yi offs+Yi ((inL pre).map fun c=>Vq c (-1) rows offs))]/\Held (wo.alloc (.cells #[.int .u64 m,.int .u64 0] 374)) (w.heap.size+1+1) W/\Below w.heap.size w W)
    (fun _ _ _=>False)
    (OwnFrom.and (XV (by simp<;>omega) _ _) (OwnFrom.and (JM (Nat.le_refl _)) (ownFrom_below (Nat.le_refl _) (by simp<;>omega))))
    (fun _ _ _ _ _ hs _ _=>hs)
    ⟨by simpa [inL,Yi] using bU.out.alloc _,⟨Nat.le_refl _,fun _ _ _=>rfl⟩,hB0⟩
    (fun x=>{ tmps:=#[.slice A rows.length rc,.agg #[.int .u64 m,.int .u64 0],.pointer (some ⟨w.heap.size,0,none⟩),.pointer (some ⟨w.heap.size+1,0,none⟩),.int .i64 0,.pointer (some ⟨w.heap.size+1+1,0,none⟩),.pointer (some ⟨w.heap.size+1+1+1,0,none⟩),undef,u8,u9,.int .i64 ((x.1:Nat):Int),undef,undef,undef,undef,.slice A rows.length rc,.int .i64 rows.length,.int .i64 rows.length,.bool false,u19,u20,u21,u22,u23,u24,u25,u26,u27,u28,u29,u30,u31,.agg #[.int .u64 m,.int .u64 0],.func (.func 391) #[] #[.pointer (some ⟨wo.heap.size,0,none⟩)],.int .i64 ((x.1:Nat):Int),undef,undef,undef,undef,undef,undef,undef,undef,undef,undef,undef,undef,undef,undef,undef,undef,undef,undef,undef,undef,undef,undef,undef,undef,undef,undef,undef,undef,undef],defers:=[] }) ?assign ?body ?done ?stop
   case assign =>
    intro l x W K hK
    gi_wp2
    exact hK
   case body =>
    rintro l pre x W ⟨hO,hH,hB⟩ hlt;obtain⟨su,hsu⟩:∃ su,Hid (su=Yi offs+Yi ((inL pre).map fun c=>Vq c (-1) rows offs)):=⟨_,rfl⟩;obtain⟨cf,hcf⟩:∃ cf,Hid (cf=Vq x.1 (-1) rows offs):=⟨_,rfl⟩;rw[<-hsu.out] at hO;have cO:=hO.c0;have fO:=hO.free 0;have cR:W.cell? ⟨w.heap.size,0,none⟩=some (.slice A rows.length rc):=(hH.blk (bR.out.alloc _) (by omega)).cell 0;have bF:=Hd (hH.blk (bO.out.alloc _) (by omega));have rO:Hid (RdI W OA offs):=by
     have h:OwI W (w.heap.size+1+1+1+1) OA oc offs:=OwV.keep (n:=offs.length) loO (fun g hg=>by
      have:=OwV.lt (n:=offs.length) loO g hg;exact(hH.2 g (by simp;omega) (by omega)).trans (Below.heap_alloc _ _ g (by omega)))
     exact h.read
    have eN:Hid (Yi offs+Yi ((inL (pre++[x])).map fun c=>Vq c (-1) rows offs)=su+cf):=Hd (by
     rw[Zav,List.map_append,List.map_cons,List.map_nil,Jy,hsu.out,hcf.out];omega)
    have bdS:Hid (-(2147483647*64)+-(2*2147483647*64)<=su/\su<=2147483647*64+2*2147483647*64):=by
     have h1:=bsum.out rows.length;rw[List.take_of_length_le (by rw[loff.out];exact Nat.le_refl _)] at h1;have h2:=VP (B:=2*2147483647) (l:=(inL pre).map fun c=>Vq c (-1) rows offs) fun z hz=>by
      obtain⟨c,hc,rfl⟩:=List.mem_map.1 hz;obtain⟨c',_,rfl⟩:=List.mem_map.1 hc;exact UI (fun row hr=>hget.out row hr c'.1 c'.2) boff.out (by omega) (by omega) (by omega)
     have h3:((inL pre).map fun c=>Vq c (-1) rows offs).length<=64:=by
      have:=Zas m;simp[inL];omega
     have h:-(2147483647*64)+-(2*2147483647*64)<=su/\su<=2147483647*64+2*2147483647*64:=by
      rw[hsu.out];omega
     exact h
    have bdC:Hid (-(2*2147483647)<=cf/\cf<=2*2147483647):=by
     have h:=UI (c:=x.1) (B:=2147483647) (rows:=rows) (off:=offs) (b:=-1) (fun row hr=>hget.out row hr x.1 x.2) boff.out (by omega) (by omega) (by omega);rw[<-hcf.out] at h;exact h
    have hmx:Tryz.prog.follows .mixedOrders=true:=by kernel_rfl
    have x63:=h63 x.1 x.2;have HH':=Hd hH;have HB':=Hd hB;have HO':=Hd hO;have START2:Hid (Vq x.1 (-1) (rows.drop 0) (offs.drop 0)=cf):=hcf.out.symm;clear hsu hH hB hO loO bB hB0
    gi_wp2
    gi_loopw [11,37] (fun b v wr=>∃ (k:Nat) (bb:Int),v=.int .i64 k/\b=.int .i64 bb/\k<=rows.length/\Hid (Vq x.1 bb (rows.drop k) (offs.drop k)=cf)/\Hid (Ext W wr)) (fun _ v _=>rows.length-(intOf v).toNat)
    case atStart=>exact⟨0,-1,rfl,rfl,by omega,START2,Ext.rf W⟩
    case round =>
     obtain⟨k,bb,rfl,rfl,hk',hcol,xr⟩:=hrel
     by_cases hlt':k<rows.length
     ·have er:rows[k]?=some rows[k]:=List.getElem?_eq_getElem hlt'
      obtain⟨D,d,hu,oD⟩:=hR.out.2 k _ er;have hmem:rows[k]∈rows:=List.getElem_mem hlt';have edr:rows.drop k=rows[k]::rows.drop (k+1):=List.drop_eq_getElem_cons hlt';generalize rows[k]=row at *;have xw:Hid (Ext w wr):=Below.trans HB'.out (xr.out.mono HB'.out.size);obtain⟨ab,ao,vv,rfl,zv,cv,ev⟩:=(hV.out.ext xw.out).at (j:=k) (by rw[lus.out];exact hlt');obtain rfl:.slice D row.length d=vv:=by
       have h:=ev.out;rw[hu] at h;exact Option.some.inj h
      have hxr:=hlen.out row hmem x.1 x.2;obtain⟨cb,co,y,rfl,zy,cy,ey,_⟩:=(oD.read.ext xw.out).at (k:=x.1) hxr;obtain⟨ob,oo,o,rfl,zo,co',eo,edo⟩:=(rO.out.ext xr.out).at (k:=k) (by rw[loff.out];exact hlt');have cOF:wr.cell? ⟨w.heap.size+1+1+1,0,none⟩=some (.slice (some ⟨ob,oo,none⟩) rows.length oc):=(bF.out.ext xr.out).cell 0;have yb:=hget.out row hmem x.1 x.2;have ob':=boff.out o (List.mem_of_getElem? eo.out);rw[getD_some ey.out] at yb;have hw:IntKind.i64.wrap (y-o)=y-o:=IntWalk.i64_in _ (by omega);have hcol2:=hcol.out;rw[edr,edo.out,Vq,getD_some ey.out] at hcol2;replace hcol2:=Hd hcol2;have q1:(k:Int)<(rows.length:Int):=by omega
      have qx:((x.1:Nat):Int)<(row.length:Int):=by omega
      clear hcol ev hu oD edr er eo edo ey yb ob' hcf
      by_cases hneg:bb<0
      ·rw[if_pos hneg] at hcol2
       gi_wp2
       refine YH (by kernel_rfl) (by kernel_rfl) (by kernel_rfl) ?_
       repeat (gi_big_quiet_step (fail))
       refine wpQuietIn_nil ?_;rintro _ ⟨nq,rfl⟩
       gi_wp2
       exact⟨⟨k+1,y-o,by go_num,rfl,by omega,hcol2,xr.out.drewN nq⟩,by simp only[intOf];omega⟩
      ·rw[if_neg hneg] at hcol2
       by_cases hy:y-o<bb
       ·rw[if_pos hy] at hcol2
        gi_wp2
        refine YH (by kernel_rfl) (by kernel_rfl) (by kernel_rfl) ?_
        repeat (gi_big_quiet_step (fail))
        refine wpQuietIn_nil ?_;rintro _ ⟨nq,rfl⟩
        gi_wp2
        exact⟨⟨k+1,y-o,by go_num,rfl,by omega,hcol2,xr.out.drewN nq⟩,by simp only[intOf];omega⟩
       ·rw[if_neg hy] at hcol2
        gi_wp2
        refine YH (by kernel_rfl) (by kernel_rfl) (by kernel_rfl) ?_
        repeat (gi_big_quiet_step (fail))
        refine wpQuietIn_nil ?_;rintro _ ⟨nq,rfl⟩
        gi_wp2
        exact⟨⟨k+1,bb,by go_num,rfl,by omega,hcol2,xr.out.drewN nq⟩,by simp only[intOf];omega⟩
     ·obtain rfl:k=rows.length:=by omega
      have e1:rows.drop rows.length=[]:=List.drop_length;have hcol2:=hcol.out;rw[e1] at hcol2;obtain rfl:bb=cf:=by
       rw[<-hcol2]
       cases offs.drop rows.length<;>rfl
      have hw2:IntKind.i64.wrap (su+bb)=su+bb:=IntWalk.i64_in _ (by have:=bdS.out;have:=bdC.out;omega);have zW:wo.heap.size+1<=W.heap.size:=by simpa using HH'.out.1
      have q0:¬((rows.length:Int)<(rows.length:Int)):=by omega
      have F1:Hid (KeepsFrom (wo.heap.size+1) W (wr.setCell ⟨w.heap.size+1+1,0,none⟩ (.int .i64 (su+bb)))):=(KeepsFrom.of_ext xr.out).trans ((KeepsOthers.setCell _ _ _).from _);have F2:Hid (SetKp w.heap.size wo.heap.size W (wr.setCell ⟨w.heap.size+1+1,0,none⟩ (.int .i64 (su+bb)))):=⟨(xr.out.mono (by omega)).setCell (by simp<;>omega) _,(Below.heap_setCell wr ⟨w.heap.size+1+1,0,none⟩ _ wo.heap.size (by simp;omega)).trans (xr.out.block wo.heap.size (by omega))⟩;have F3:Hid (Blk (wr.setCell ⟨w.heap.size+1+1,0,none⟩ (.int .i64 (su+bb))) (w.heap.size+1+1) 3 #[.int .i64 (su+bb)]):=(HO'.out.ext xr.out).set 0 _;have F4:=Hd ((HH'.out.ext xr.out).set (.int .i64 (su+bb)));have F5:Hid (Ext w (wr.setCell ⟨w.heap.size+1+1,0,none⟩ (.int .i64 (su+bb)))):=(Below.trans HB'.out (xr.out.mono HB'.out.size)).setCell (by simp<;>omega) _;have cO2:wr.cell? ⟨w.heap.size+1+1,0,none⟩=some (.int .i64 su):=(HO'.out.ext xr.out).cell 0;have fO2:=(HO'.out.ext xr.out).free 0;clear hcol hcol2 e1 hcf START2
      gi_wp2
      exact⟨F1.out,F2.out,by rw[eN.out];exact F3.out,F4.out,F5.out⟩
   case done =>
    rintro D ys W hD rfl ⟨hO,_,hB⟩ hK;rw[Qx] at hO;have cO:=hO.cell 0
    gi_wp2
    refine⟨by simp,.inl ⟨_,_,rfl,run_takeDeferred hK,?_⟩⟩;refine⟨_,results_tmp rfl _ _ _,?_,hB.trans (belowK_b (w:=w) (Nat.le_refl _) W D _ _ (by simp at hD;omega) hK rfl rfl)⟩;rw[hoffs.out]
    rfl
   case stop =>
    rintro D c pre W _ _ h _;exact h.elim
theorem ZbY {base:Nat}(A:Option Addr)(rc:Nat)(us:List Value)(rows:List (List Int))(m:Nat)(hm:m<18446744073709551616)(h63:∀ x∈Zq m,x<63)(hlen:∀ row∈rows,∀ x∈Zq m,x<row.length)(hbd:∀ row∈rows,∀ x∈row,0<=x/\x<=2147483647)(hr64:rows.length<=64)
  (w:World) (hT:Tab w) (hV:RdV w 22 A us) (hR:RowsO w base us rows) :
  Calls Tryz.prog 382 #[.slice A rows.length rc,Yf m] w fun e W'=>e=.returned (.int .i64 (Xw rows (Zq m)))/\Ext w W' :=
 callsIn_wide.1 (Zdu A rc us rows m hm h63 hlen hbd hr64 w hT hV hR)
end
section
open Go.Shelf
def XO (rows:List (List Int))(p:List Int) : Int×Int :=
 match QM rows.length p with
 | none=>(0,1)
 | some m=>(Yv rows p+(if p.length<rows.length then Xw (rows.drop p.length) (Zq m) else 0),0)
theorem ZaR {n:Nat} : ∀ {p:List Int} {m q:Nat},SubN n m->Wg m p=some q->∀ c∈p,0<=c/\c<n
 | [],_,_,_,_,c,hc=>by cases hc
 | d::p,m,q,h,e,c,hc=>by
  unfold Wg at e;split at e
  ·rename_i hd
   rcases List.mem_cons.1 hc with rfl | hc
   ·have:=h.2 c.toNat (Jk.2 ⟨by omega,hd.2.2⟩)
    omega
   ·exact ZaR (h.clr _) e c hc
  ·cases e
theorem ZeK {n:Nat}(h24:n<=24){p:List Int}{q:Nat}(e:QM n p=some q) : p.length<=n/\(∀ c∈p,0<=c/\c<n)/\SubN n q:=by
 unfold QM at e;split at e
 ·cases e
 ·exact⟨by omega,ZaR (Ud h24) e,Jw (Ud h24) e⟩
theorem QO : ∀ {rows:List (List Int)} {p:List Int} {k:Nat} {row:List Int} {c:Int},rows[k]?=some row->p[k]?=some c->Yv rows (p.take (k+1))=Yv rows (p.take k)+row.getD c.toNat 0
 | r::rows,d::p,0,row,c,h1,h2=>by
  simp at h1 h2;subst h1 h2
  cases rows<;>simp[Yv]
 | r::rows,d::p,k+1,row,c,h1,h2=>by
  simp at h1 h2;simp only[List.take_succ_cons,Yv];rw[QO h1 h2];omega
 | [],_,_,_,_,h1,_=>by simp at h1
 | _::_,[],_,_,_,_,h2=>by simp at h2
theorem ZaS {B:Int}(hB:0<=B) : ∀ {rows:List (List Int)} {p:List Int},(∀ row∈rows,∀ c∈p,0<=row.getD c.toNat 0/\row.getD c.toNat 0<=B)->0<=Yv rows p/\Yv rows p<=B*p.length
 | [],p,_=>by
  have:0<=B*(p.length:Int):=Int.mul_nonneg hB (by omega);simp only[Yv];omega
 | _::_,[],_=>by simp[Yv]
 | r::rows,d::p,h=>by
  have h1:=h r (by simp) d (by simp);have h2:=ZaS hB (rows:=rows) (p:=p) fun row hr c hc=>h row (by simp[hr]) c (by simp[hc])
  simp only[Yv,List.length_cons,Int.natCast_add,Int.natCast_one,Int.mul_add,Int.mul_one];omega
theorem ZbZ {rows:List (List Int)}{m:Nat}(hr:rows.length<=24)(h:∀ row∈rows,∀ c∈Zq m,0<=row.getD c 0/\row.getD c 0<=2147483647) : -(2147483647*300)<=Xw rows (Zq m)/\Xw rows (Zq m)<=2147483647*300:=by
 have h1:∀ o∈JN rows (Zq m),-2147483647<=o/\o<=2147483647:=fun o ho=>by
  obtain⟨row,hr,rfl⟩:=List.mem_map.1 ho;exact Ue (fun c hc=>by have:=h row hr c hc;omega) (by omega) (by omega)
 have h2:=VP (B:=2147483647) h1;have h3:(JN rows (Zq m)).length=rows.length:=by simp[JN]
 have h4:=VP (B:=2*2147483647) (l:=(Zq m).map fun c=>Vq c (-1) rows (JN rows (Zq m))) fun z hz=>by
  obtain⟨c,hc,rfl⟩:=List.mem_map.1 hz;exact UI (fun row hr=>h row hr c hc) h1 (by omega) (by omega) (by omega)
 have h5:=Zas m;rw[List.length_map] at h4;unfold Xw;omega
theorem RowsO.drop {w:World}{base:Nat}{us:List Value}{rows:List (List Int)}(h:RowsO w base us rows)(k:Nat) : RowsO w base (us.drop k) (rows.drop k):=by
 refine⟨by rw[List.length_drop,List.length_drop,h.1],fun i r hr=>?_⟩;rw[List.getElem?_drop] at hr;obtain⟨A,c,h1,h2⟩:=h.2 (k+i) r hr;exact⟨A,c,by rw[List.getElem?_drop];exact h1,h2⟩
theorem QP {base g:Nat}{rows:List (List Int)}(P:Option Addr)(pc:Nat)(p:List Int)(w:World)(hT:Tab w)(H:KernA w base g rows)(ok:RowsOk rows)(hP:RdI w P p)(lp:p.length<=1000000000) :
  Calls Tryz.prog 378 #[.pointer (some ⟨g,0,none⟩),.slice P p.length pc] w fun e w'=>e=.returned (.tuple #[.int .i64 (XO rows p).1,.int .i64 (XO rows p).2])/\Ext w w':=by
 have FR:=fun(W:World) (x:Ext w W)=>ZeI P pc p W (H.ext x) ok.n1 ok.n2 (hP.ext x) lp
 have l1:=ok.n1;have l2:=ok.n2;obtain⟨C,cc,us,hB,_,hV,hR⟩:=H;have lus:Hid (us.length=rows.length):=hR.1;have lcc:rows.length<=cc:=by
  rcases hV.cases with⟨_,_,h,_⟩ | ⟨_,_,_,_,_,h,_⟩<;>omega
 obtain⟨r,hr⟩:∃ r,Hid (QM rows.length p=r):=⟨_,rfl⟩;rw[hr.out] at FR
 cases r with
 | none =>
  have e:XO rows p=(0,1):=by unfold XO;rw[hr.out]
  rw[e];unfold ZcC Yf at FR;replace FR:=Hd FR;go_enter Tryz.func378,Tryz.ntmps378;go_wp2_with (fail);refine(FR.out _ (Ext.rf w)).mono ?_;rintro e w1 ⟨rfl,x1⟩;go_wp2_with (fail);go_ret2;exact⟨rfl,by(repeat (first | assumption | exact Ext.rf _ | apply Ext.drew | apply Ext.drewN | apply Ext.alloc))⟩
 | some m =>
  obtain⟨hpl,hin,hS⟩:=ZeK l2 hr.out;have e:XO rows p=(Yv rows p+(if p.length<rows.length then Xw (rows.drop p.length) (Zq m) else 0),0):=by unfold XO;rw[hr.out]
  obtain⟨tot,ht⟩:∃ tot,Hid (tot=Yv rows p+(if p.length<rows.length then Xw (rows.drop p.length) (Zq m) else 0)):=⟨_,rfl⟩;rw[e,<-ht.out];clear e;unfold ZcC Yf at FR;replace FR:=Hd FR;replace hS:=Hd hS;replace hin:=Hd hin;replace ok:=Hd ok;replace hP:=Hd hP;replace hV:=Hd hV;replace hR:=Hd hR;replace hT:=Hd hT;replace hB:=Hd hB;go_enter Tryz.func378,Tryz.ntmps378;go_wp2_with (fail);refine(FR.out _ (Ext.rf w)).mono ?_;rintro e w1 ⟨rfl,x1⟩;have z1:=x1.size;have START:=Hd (And.intro (x1.alloc (.cells #[.int .u64 m,.int .u64 0] 374)) (show Blk (w1.alloc (.cells #[.int .u64 m,.int .u64 0] 374)) w1.heap.size 374 #[.int .u64 m,.int .u64 0] from .new rfl));obtain⟨sb,hsb⟩:∃ sb,Hid (sb=w1.heap.size):=⟨_,rfl⟩;have zsb:w.heap.size<=sb:=by rw[hsb.out];exact z1
  clear x1;go_wp2_with (fail);rw[<-hsb.out] at START ⊢;go_loopw [8,22] (fun s v wr=>∃ (k:Nat) (su:Int),v=.int .i64 k/\s=.int .i64 su/\k<=p.length/\Hid (Yv rows (p.take k)=su)/\Hid (Ext w wr/\Blk wr sb 374 #[.int .u64 m,.int .u64 0])) (fun _ v _=>p.length-(intOf v).toNat)
  case atStart=>exact⟨0,0,rfl,rfl,by omega,(by cases rows<;>rfl:Yv rows (p.take 0)=0),START⟩
  case round =>
   obtain⟨wo,rfl⟩:=Wq wr;clear START;obtain⟨k,su,rfl,rfl,hk,HS,HH⟩:=hrel;obtain⟨Y,bS⟩:=HH.out;have bdS:Hid (0<=su/\su<=2147483647*24):=by
    have h1:=ZaS (B:=2147483647) (rows:=rows) (p:=p.take k) (by omega) fun row hr c hc=>by
     have:=hin.out c (List.mem_of_mem_take hc);exact ok.out.get hr (by omega)
    have h2:(p.take k).length<=24:=by rw[List.length_take];omega
    have h:0<=su/\su<=2147483647*24:=by
     rw[<-HS.out];omega
    exact h
   replace Y:=Hd Y;replace bS:=Hd bS;clear HH;have bK:Blk wo g 262 #[.slice C rows.length cc]:=hB.out.ext Y.out;have cK:=bK.c0;clear bK
   by_cases hlt:k<p.length
   ·have hkr:k<rows.length:=by omega
    have er:rows[k]?=some rows[k]:=List.getElem?_eq_getElem hkr;obtain⟨D,d,hu,oD⟩:=hR.out.2 k _ er;have hmem:rows[k]∈rows:=List.getElem_mem hkr;generalize rows[k]=row at *;obtain⟨pb,po,c,rfl,zp,cp,ep,_⟩:=(hP.out.ext Y.out).at hlt;have hc:=hin.out c (List.mem_of_getElem? ep.out);obtain⟨ab,ao,vv,rfl,zv,cv,ev⟩:=(hV.out.read.ext Y.out).at (j:=k) (by rw[lus.out];exact hkr);obtain rfl:.slice D row.length d=vv:=by
     have h:=ev.out;rw[hu] at h;exact Option.some.inj h
    obtain⟨i,rfl⟩:∃ i:Nat,c=(i:Int):=⟨c.toNat,by omega⟩;have lrow:=ok.out.row row hmem;obtain⟨cb,co,y,rfl,zy,cy,ey,_⟩:=(oD.read.ext Y.out).at (k:=i) (by omega);have yb:=ok.out.get hmem (c:=i) (by omega);rw[getD_some ey.out] at yb;have b1:=bdS.out;have hw:IntKind.i64.wrap (su+y)=su+y:=IntWalk.i64_in _ (by omega);have HS2:Hid (Yv rows (p.take (k+1))=su+y):=Hd (by
     rw[QO er ep.out,HS.out,Int.toNat_natCast,getD_some ey.out])
    have q1:(k:Int)<(rows.length:Int):=by omega
    have q2:(k:Int)<(p.length:Int):=by omega
    have q3:(i:Int)<(row.length:Int):=by omega
    have FIN:Hid (Ext w wo/\Blk wo sb 374 #[.int .u64 m,.int .u64 0]):=⟨Y.out,bS.out⟩;clear ev hu oD er ep ey lrow b1 yb HS hc;go_wp2_with (fail);go_roundw
    case rel=>exact⟨k+1,su+y,by go_num,rfl,by omega,HS2,FIN⟩
    case measure=>simp only[intOf];omega
   ·obtain rfl:k=p.length:=by omega
    have HS2:Hid (Yv rows p=su):=by
     have h:=HS.out;rw[List.take_length] at h;exact h
    clear HS;have cS0:=bS.out.c0;have cS1:=bS.out.c1
    by_cases hlr:p.length<rows.length
    ·have ht2:=ht.out
     rw[if_pos hlr,HS2.out] at ht2;replace ht2:=Hd ht2;have b1:(0:Int)<=(p.length:Int):=by omega
     have b2:(p.length:Int)<=(cc:Int):=by omega
     have b3:(p.length:Int)<=(rows.length:Int):=by omega
     have q0:¬((p.length:Int)<(p.length:Int)):=by omega
     have RE:=fun(W:World) (x:Ext w W) (A:Option Addr) (rc:Nat) (hA:RdV W 22 A (us.drop p.length)) (hRo:RowsO W base (us.drop p.length) (rows.drop p.length))=>ZbY (base:=base) A rc (us.drop p.length) (rows.drop p.length) m hS.out.1 (fun x hx=>by have:=hS.out.2 x hx;omega) (fun row hr x hx=>by rw[ok.out.row row (List.mem_of_mem_drop hr)];exact hS.out.2 x hx) (fun row hr=>ok.out.num row (List.mem_of_mem_drop hr)) (by rw[List.length_drop];omega) W (hT.out.ext x) hA hRo
     have RB:=ZbZ (rows:=rows.drop p.length) (m:=m) (by rw[List.length_drop];omega) (fun row hr c hc=>ok.out.get (List.mem_of_mem_drop hr) (hS.out.2 c hc));rw[List.length_drop] at RE;unfold Yf at RE;replace RE:=Hd RE;generalize Xw (rows.drop p.length) (Zq m)=rp at *;have hw2:IntKind.i64.wrap (su+rp)=su+rp:=IntWalk.i64_in _ (by have:=bdS.out;omega);clear RB;go_wp2_with (fail);refine(RE.out wo Y.out _ _ ((hV.out.read.ext Y.out).drop p.length) ((hR.out.ext Y.out).drop p.length)).mono ?_;rintro e w3 ⟨rfl,x3⟩;go_wp2_with (fail);obtain rfl:tot=su+rp:=ht2.out;go_ret2;exact⟨rfl,Y.out.tr x3⟩
    ·have ht2:=ht.out
     rw[if_neg hlr,HS2.out,Int.add_zero] at ht2;have b1:(0:Int)<=(p.length:Int):=by omega
     have b2:(p.length:Int)<=(cc:Int):=by omega
     have b3:(p.length:Int)<=(rows.length:Int):=by omega
     have q0:¬((p.length:Int)<(p.length:Int)):=by omega
     obtain rfl:tot=su:=ht2;go_wp2_with (fail)
     all_goals go_ret2
     all_goals exact⟨rfl,Y.out⟩
end
section
theorem VQ {w:World}{g gk:Nat}{a b:Int}{s:Value}(h:FaceB w g 176 gk)(D:Calls Tryz.prog 378 #[.pointer (some ⟨gk,0,none⟩),s] w fun e w'=>e=.returned (.tuple #[.int .i64 a,.int .i64 b])/\Ext w w') :
  Calls Tryz.prog 94 #[.pointer (some ⟨g,0,none⟩),s] w fun e w'=>e=.returned (.tuple #[.int .i64 a,.int .i64 b])/\Ext w w':=by
 have c0:=Blk.c0 h;have hm:∀ (x y:Value) (u:World),(callMethod (.iface 176 x) "Bound" #[y]).run Tryz.prog u=.ok (.enter 378 #[x,y]) u:=fun _ _ _=>by kernel_rfl
 replace D:=Hd D;go_enter Tryz.func94,Tryz.ntmps94;go_wp2_with (fail);refine D.out.mono ?_;rintro e w1 ⟨rfl,x1⟩;go_wp2_with (fail);go_ret2;exact⟨rfl,x1⟩
theorem ZaT {w:World}{g gk base:Nat}{rows:List (List Int)}{b:Int}(h:FaceB w g 176 gk)(K:KernA w base gk rows)(ok:RowsOk rows)(hT:Tab w)(hb:XO rows []=(b,0)) :
  Calls Tryz.prog 94 #[.pointer (some ⟨g,0,none⟩),.slice none 0 0] w fun e w'=>e=.returned (.tuple #[.int .i64 b,.int .i64 0])/\Ext w w':=by
 have D:=QP none 0 [] w hT K ok (.inl rfl) (by simp);rw[hb] at D;exact VQ h D
section
variable {P:Program} {ops:Array Oper} {Q:Exit->Act->World->Prop}
theorem ZaU {σ:Type}(rem:List (Nat×Option Tmp))(R:σ->World->Prop)(V:Nat->Value->σ->World->Prop)(Stab:σ->World->σ->World->Prop){listed0:Array Bool}(listed1:Array Bool)(hok:WU ops listed0 listed1 rem=true)
  (stab:∀ j v s w s' w',V j v s w->Stab s w s' w'->V j v s' w')
  {a0:Act}
  (step:∀ p∈rem,∀ u s w,R s w->(∀ j∈XE ops rem p.1,V j (u j) s w)->∀ K:Act->World->Prop,(∀ v s' w',V p.1 v s' w'->R s' w'->Stab s w s' w'->K ((Zc a0 rem u).put p.2 v) w')->wpOp P ops Q p.1 K (Zc a0 rem u) w)
  (n:Nat) (done:∀ u s w,R s w->(∀ p∈rem,V p.1 (u p.1) s w)->wpAny P .any ops Q n listed1 (Zc a0 rem u) w) {s0:σ} {w0:World} (hR:R s0 w0) :
  wpAny P .any ops Q (rem.length+n) listed0 a0 w0 :=
 Ul rem (fun _=>[]) R V (fun _=>Stab) listed1 hok (by simp[Zbd]) (fun _ j v s w s' w' _=>stab j v s w s' w') step n (fun u s w hR h=>done u s w hR fun p hp=>h p hp rfl) hR
end
end
section
def Zb0 (i:InstP)(w:World)(e:Ending)(w':World) : Prop:=∃ A3 c3 B3 d3 C cc us,e=.returned (.agg #[.int .i64 i.kind,.int .i64 i.n,.int .i64 i.cap,.slice A3 i.weight.length c3,.slice B3 i.value.length d3,.slice C i.cost.length cc])/\OwI w' w.heap.size A3 c3 i.weight/\OwI w' w.heap.size B3 d3 i.value/\(∀ g,bl A3=some g->bl B3≠some g)/\OwV w' w.heap.size 22 1 C i.cost.length cc us/\RowsO w' w.heap.size us i.cost/\RowsD us/\Ext w w'
theorem Zb1 (i:InstP)(vs:List Value)(w:World)(H:RInst w vs i)(lw:i.weight.length<=1000000000)(lv:i.value.length<=1000000000)(lc:i.cost.length<=1000000)(lr:∀ r∈i.cost,r.length<=1000000000) :
  Calls Tryz.prog 48 #[.agg (List.toArray vs)] w (Zb0 i w):=by
 obtain⟨A,a,B,b,C,c,rfl,⟨rA,iA,lA,mA⟩,⟨rB,iB,lB,mB⟩,⟨rC,lC,mC⟩⟩:=H;obtain⟨kind,nn,cap,xw,xv,co⟩:=i;simp only at *;obtain⟨i0,hi,hz0,hz1,hz2⟩:=info_parts U4;replace hi:=Hd hi;replace hz0:=Hd hz0;replace hz1:=Hd hz1;replace hz2:=Hd hz2;replace lr:=Hd lr;have X:Ext w ((w.alloc (.cells #[.int .i64 kind,.int .i64 nn,.int .i64 cap,.slice A xw.length a,.slice B xv.length b,.slice C co.length c] 74)).alloc (.cells #[.int .i64 0,.int .i64 0,.int .i64 0,.slice none 0 0,.slice none 0 0,.slice none 0 0] 74)):=((Ext.rf _).alloc _).alloc _;have B1:Blk ((w.alloc (.cells #[.int .i64 kind,.int .i64 nn,.int .i64 cap,.slice A xw.length a,.slice B xv.length b,.slice C co.length c] 74)).alloc (.cells #[.int .i64 0,.int .i64 0,.int .i64 0,.slice none 0 0,.slice none 0 0,.slice none 0 0] 74)) w.heap.size 74 #[.int .i64 kind,.int .i64 nn,.int .i64 cap,.slice A xw.length a,.slice B xv.length b,.slice C co.length c]:=.alloc (.new rfl) _;have B2:Blk ((w.alloc (.cells #[.int .i64 kind,.int .i64 nn,.int .i64 cap,.slice A xw.length a,.slice B xv.length b,.slice C co.length c] 74)).alloc (.cells #[.int .i64 0,.int .i64 0,.int .i64 0,.slice none 0 0,.slice none 0 0,.slice none 0 0] 74)) (w.heap.size+1) 74 #[.int .i64 0,.int .i64 0,.int .i64 0,.slice none 0 0,.slice none 0 0,.slice none 0 0]:=.new (by simp);replace X:=Hd X;replace B1:=Hd B1;replace B2:=Hd B2;replace rA:=Hd rA;replace rB:=Hd rB;replace rC:=Hd rC;replace iA:=Hd iA;replace iB:=Hd iB;replace mA:=Hd mA;replace mB:=Hd mB;replace mC:=Hd mC;go_enter Tryz.func48,Tryz.ntmps48;go_wp2_with (fail);generalize (w.alloc (.cells #[.int .i64 kind,.int .i64 nn,.int .i64 cap,.slice A xw.length a,.slice B xv.length b,.slice C co.length c] 74)).alloc (.cells #[.int .i64 0,.int .i64 0,.int .i64 0,.slice none 0 0,.slice none 0 0,.slice none 0 0] 74)=wr at *;have z1:=B1.out.lt;have zw:=X.out.size;refine wp_region_any (by kernel_rfl) ?_
 change wpAny _ _ _ _ _ _ _ (World.drew _)
 refine Za 0 (.fieldAddr 74 (.tmp 1) 3) 0 (some 6) rfl (by kernel_rfl) Hq (by intro _;go_simp;try rfl) ?_;simp only[lay];refine Za 3 (.fieldAddr 74 (.tmp 1) 4) 0 (some 9) rfl (by kernel_rfl) Hq (by intro _;go_simp;try rfl) ?_;simp only[lay];refine ZaU (n:=3) (σ:=Nat->Nat) [(1,some 7),(2,some 8),(4,some 10),(5,some 11),(6,some 12)] (fun _ W=>Ext wr W)
  (fun j v T W=>(j=1->v=.slice A xw.length a)/\(j=4->v=.slice B xv.length b)/\(j=6->v=.pointer (some ⟨w.heap.size,3,none⟩))/\(j=2->∃ A' c',v=.slice A' xw.length c'/\OwI W w.heap.size A' c' xw/\∀ g,bl A'=some g->T g=2)/\(j=5->∃ A' c',v=.slice A' xv.length c'/\OwI W w.heap.size A' c' xv/\∀ g,bl A'=some g->T g=5))
  (fun T W T' W'=>Ext W W'/\∀ h,h<W.heap.size->T' h=T h) #[true,true,true,true,true,true,true,false,false,false] (by decide +kernel) ?_ ?_ ?_ (s0:=fun _=>0) ((Ext.rf _).drew)
 ·rintro j v T W T' W' ⟨h1,h4,h6,h2,h5⟩ ⟨hx,hT⟩
  refine⟨h1,h4,h6,fun hj=>?_,fun hj=>?_⟩
  ·obtain⟨A',c',k1,k2,k3⟩:=h2 hj
   exact⟨A',c',k1,k2.ext hx,fun g hg=>by rw[hT g (k2.lt g hg).2];exact k3 g hg⟩
  ·obtain⟨A',c',k1,k2,k3⟩:=h5 hj
   exact⟨A',c',k1,k2.ext hx,fun g hg=>by rw[hT g (k2.lt g hg).2];exact k3 g hg⟩
 ·intro pq hpm u T w2 hRW hD K hK
  have b2:=B1.out.ext hRW;have r3:=b2.c3;have r4:=b2.c4;have xe:=X.out.tr hRW;have zxe:=xe.size;have ID:Ext w2 w2/\∀ h,h<w2.heap.size->T h=T h:=⟨Ext.rf _,fun _ _=>rfl⟩;have TG:∀ (n:Nat) (w3:World),Ext w2 w3->Ext w2 w3/\∀ h,h<w2.heap.size->(fun x=>if w2.heap.size<=x then n else T x) h=T h:=fun n w3 x=>⟨x,fun h hh=>if_neg (by omega)⟩
  simp only[List.mem_cons,List.not_mem_nil,or_false] at hpm;rcases hpm with rfl | rfl | rfl | rfl | rfl
  ·exact Ze (T:=22) rfl (.pointer (some ⟨w.heap.size,3,none⟩)) (by kernel_rfl) (.slice A xw.length a) (by go_simp) (hK _ T w2 ⟨fun _=>rfl,(fun h=>by cases h),(fun h=>by cases h),(fun h=>by cases h),(fun h=>by cases h)⟩ hRW ID)
  ·refine Zi rfl #[.slice A xw.length a] (by go_simp) (Eq.trans (b:=#[u 1]) (by kernel_rfl) (by rw[(hD 1 (Zg (by kernel_rfl))).1 rfl])) _ (ZO A a xw w2 (rA.out.ext xe) (by omega)) ?_
   rintro e w3 ⟨A3,c3,rfl,o3,x3⟩;exact⟨_,rfl,hK _ (fun x=>if w2.heap.size<=x then 2 else T x) _ ⟨(fun h=>by cases h),(fun h=>by cases h),(fun h=>by cases h),fun _=>⟨A3,c3,rfl,o3.more (by omega),fun g hg=>if_pos (o3.lt g hg).1⟩,(fun h=>by cases h)⟩ (hRW.tr x3) (TG 2 _ x3)⟩
  ·exact Ze (T:=22) rfl (.pointer (some ⟨w.heap.size,4,none⟩)) (by kernel_rfl) (.slice B xv.length b) (by go_simp) (hK _ T w2 ⟨(fun h=>by cases h),fun _=>rfl,(fun h=>by cases h),(fun h=>by cases h),(fun h=>by cases h)⟩ hRW ID)
  ·refine Zi rfl #[.slice B xv.length b] (by go_simp) (Eq.trans (b:=#[u 4]) (by kernel_rfl) (by rw[(hD 4 (Zg (by kernel_rfl))).2.1 rfl])) _ (ZO B b xv w2 (rB.out.ext xe) (by omega)) ?_
   rintro e w3 ⟨A3,c3,rfl,o3,x3⟩;exact⟨_,rfl,hK _ (fun x=>if w2.heap.size<=x then 5 else T x) _ ⟨(fun h=>by cases h),(fun h=>by cases h),(fun h=>by cases h),(fun h=>by cases h),fun _=>⟨A3,c3,rfl,o3.more (by omega),fun g hg=>if_pos (o3.lt g hg).1⟩⟩ (hRW.tr x3) (TG 5 _ x3)⟩
  ·exact Zgg (T:=74) (f:=3) rfl (.pointer (some ⟨w.heap.size,0,none⟩)) (by kernel_rfl) (.pointer (some ⟨w.heap.size,3,none⟩)) (by go_simp) (hK _ T w2 ⟨(fun h=>by cases h),(fun h=>by cases h),fun _=>rfl,(fun h=>by cases h),(fun h=>by cases h)⟩ hRW ID)
 ·intro u T9 w3 hRW hV
  have h1:=(hV (1,some 7) (by simp)).1 rfl;have h4:=(hV (4,some 10) (by simp)).2.1 rfl;obtain⟨A3,c3,h2,oA,tA⟩:=(hV (2,some 8) (by simp)).2.2.2.1 rfl;obtain⟨B3,d3,h5,oB,tB⟩:=(hV (5,some 11) (by simp)).2.2.2.2 rfl;have h6:=(hV (6,some 12) (by simp)).2.2.1 rfl;have DJ:Hid (∀ g,bl A3=some g->bl B3≠some g):=fun g h1 h2=>by
   have e1:=tA g h1;have e2:=tB g h2;omega
  simp only[Zc,h1,h2,h4,h5,h6];have b1:=B1.out.ext hRW;have b2:=B2.out.ext hRW;have g3:=b1.c3;have k3:=b1.free 3;have b1a:=b1.set 3 (.slice A3 xw.length c3);have g4:=b1a.c4;have k4:=b1a.free 4;have b1b:=Hd (b1a.set 4 (.slice B3 xv.length d3));have b2b:=Hd ((b2.far (p:=⟨w.heap.size,3,none⟩) (by simp) (.slice A3 xw.length c3)).far (p:=⟨w.heap.size,4,none⟩) (by simp) (.slice B3 xv.length d3));have m3:ModT w.heap.size [74] w3 (w3.setCell ⟨w.heap.size,3,none⟩ (.slice A3 xw.length c3)):=ModT.set w3 b1 (by simp) (Nat.le_refl _) 3 _;have m4:ModT w.heap.size [74] (w3.setCell ⟨w.heap.size,3,none⟩ (.slice A3 xw.length c3)) ((w3.setCell ⟨w.heap.size,3,none⟩ (.slice A3 xw.length c3)).setCell ⟨w.heap.size,4,none⟩ (.slice B3 xv.length d3)):=ModT.set _ b1a (by simp) (Nat.le_refl _) 4 _;have OAB:=Hd (And.intro ((oA.modT m3 (by decide)).modT m4 (by decide)) ((oB.modT m3 (by decide)).modT m4 (by decide)));have Xb:=Hd (((X.out.tr hRW).setNew (p:=⟨w.heap.size,3,none⟩) (Nat.le_refl _) (.slice A3 xw.length c3)).setNew (p:=⟨w.heap.size,4,none⟩) (Nat.le_refl _) (.slice B3 xv.length d3));clear h1 h2 h4 h5 h6 hV oA oB tA tB m3 m4
  try simp only[lay]
  refine Zd 7 (by decide +kernel) (ZR rfl (.pointer (some ⟨w.heap.size,3,none⟩)) (.slice A3 xw.length c3) (by kernel_rfl) (by kernel_rfl) (by go_simp;rfl) ?_);refine Za 8 (.fieldAddr 74 (.tmp 1) 4) 0 (some 13) rfl (by kernel_rfl) Hq (by intro _;go_simp;try rfl) ?_;simp only[lay];refine Zd 9 (by decide +kernel) (ZR rfl (.pointer (some ⟨w.heap.size,4,none⟩)) (.slice B3 xv.length d3) (by kernel_rfl) (by kernel_rfl) (by go_simp;rfl) ?_);refine wpAny_done (by kernel_rfl) ?_ _;clear g3 g4 k3 k4 b1 b2 b1a hRW;generalize (w3.setCell ⟨w.heap.size,3,none⟩ (.slice A3 xw.length c3)).setCell ⟨w.heap.size,4,none⟩ (.slice B3 xv.length d3)=w4 at *;clear w3;have q5:=b1b.out.c5;go_simp;go_wp2_with (fail);have lct:=Hd lc;have START:Hid (OwV w4 w.heap.size 22 1 none 0 0 []/\RowsO w4 w.heap.size [] (co.take 0)/\Ext w w4/\Blk w4 w.heap.size 74 #[.int .i64 kind,.int .i64 nn,.int .i64 cap,.slice A3 xw.length c3,.slice B3 xv.length d3,.slice C co.length c]/\Blk w4 (w.heap.size+1) 74 #[.int .i64 0,.int .i64 0,.int .i64 0,.slice none 0 0,.slice none 0 0,.slice none 0 0]/\OwI w4 w.heap.size A3 c3 xw/\OwI w4 w.heap.size B3 d3 xv/\RowsD []):=⟨OwV.nil _ _ _ _,by simpa using RowsO.nil w4 w.heap.size,Xb.out,b1b.out,b2b.out,OAB.out.1,OAB.out.2,RowsD.nil⟩;clear b1b b2b Xb q5 OAB;go_loopw [3,17] (fun v3 v17 wr=>∃ (k:Nat) (C':Option Addr) (cc:Nat) (us:List Value),v17=.int .i64 k/\v3=.slice C' k cc/\k<=co.length/\Hid (OwV wr w.heap.size 22 1 C' k cc us/\RowsO wr w.heap.size us (co.take k)/\Ext w wr/\Blk wr w.heap.size 74 #[.int .i64 kind,.int .i64 nn,.int .i64 cap,.slice A3 xw.length c3,.slice B3 xv.length d3,.slice C co.length c]/\Blk wr (w.heap.size+1) 74 #[.int .i64 0,.int .i64 0,.int .i64 0,.slice none 0 0,.slice none 0 0,.slice none 0 0]/\OwI wr w.heap.size A3 c3 xw/\OwI wr w.heap.size B3 d3 xv/\RowsD us)) (fun _ v17 _=>co.length-(intOf v17).toNat)
  case atStart=>exact⟨0,none,0,[],rfl,rfl,by omega,START⟩
  case round =>
   obtain⟨wo,rfl⟩:=Wq wr;clear START;obtain⟨k,C',cc,us,rfl,rfl,hk,HH⟩:=hrel;obtain⟨oV,oR,Y,b1,b2,oA,oB,rD⟩:=HH.out;replace oA:=Hd oA;replace oB:=Hd oB;replace rD:=Hd rD
   by_cases hlt:k<co.length
   ·obtain⟨b',off,D,row,d,rfl,zd,hcd,her,_,rrow,_,ld,md⟩:=(rC.out.ext Y (fun _ _ h=>h.ext Y)).ints hlt
    have lrow:=lr.out row (List.mem_of_getElem? her.out);have etk:Hid (co.take (k+1)=co.take k++[row]):=Hd (by rw[List.take_add_one,her.out];rfl);have q1:(k:Int)<(co.length:Int):=by omega
    replace oV:=Hd oV;replace oR:=Hd oR;replace Y:=Hd Y;replace b1:=Hd b1;replace b2:=Hd b2;replace rrow:=Hd rrow;clear HH her;go_wp2_with (fail);refine(ZO D d row _ rrow.out (by omega)).mono ?_;rintro e w5 ⟨D2,e2,rfl,o5,x5⟩;have oV5:=oV.out.ext x5;have zw5:=Y.out.size;go_wp2_with (at_builtin;refine Zw _ (e:=22) Tryz.underlying72 hi.out hz0.out hz1.out hz2.out (by simp[Value.cells]) (by omega) rfl _ _ rfl w.heap.size C' k cc us (some ⟨w5.heap.size,0,none⟩) 1 1 [.slice D2 row.length e2] rfl rfl (oV5.ext ((Ext.rf _).alloc _)) (RdV.blk (.new (by simp))).rdC (by simp) (by simp[Value.oneCell']) (by simp only[maxLen];omega) (by omega) (by have:=x5.size;simp;omega) ?_;rintro C6 c6 w6 o6 g6 _);have M6:=(oV5.ext ((Ext.rf w5).alloc (.cells #[.slice D2 row.length e2] 22))).grownT g6;have X6:Ext wo (w5.alloc (.cells #[.slice D2 row.length e2] 22)):=x5.tr ((Ext.rf _).alloc _);have NEW:Hid (OwV w6 w.heap.size 22 1 C6 (k+1) c6 (us++[.slice D2 row.length e2])/\RowsO w6 w.heap.size (us++[.slice D2 row.length e2]) (co.take (k+1))/\Ext w w6/\Blk w6 w.heap.size 74 #[.int .i64 kind,.int .i64 nn,.int .i64 cap,.slice A3 xw.length c3,.slice B3 xv.length d3,.slice (some ⟨b',off,none⟩) co.length c]/\Blk w6 (w.heap.size+1) 74 #[.int .i64 0,.int .i64 0,.int .i64 0,.slice none 0 0,.slice none 0 0,.slice none 0 0]/\OwI w6 w.heap.size A3 c3 xw/\OwI w6 w.heap.size B3 d3 xv/\RowsD (us++[.slice D2 row.length e2])):=by
     refine⟨o6,?_,(Y.out.tr X6).modT M6 (Nat.le_refl _),(b1.out.ext X6).modT M6 (by decide),(b2.out.ext X6).modT M6 (by decide),(oA.out.ext X6).modT M6 (by decide),(oB.out.ext X6).modT M6 (by decide),RowsD.snoc rD.out oR.out o5⟩;rw[etk.out];exact((oR.out.ext X6).modT M6 (by decide)).snoc (((o5.more zw5).ext ((Ext.rf _).alloc _)).modT M6 (by decide))
    clear oV5 o5 x5 o6 g6 M6 X6 hcd;go_wp2_with (fail);go_roundw
    case rel=>exact⟨k+1,C6,c6,_,by go_num,rfl,by omega,NEW⟩
    case measure=>simp[intOf];omega
   ·obtain rfl:k=co.length:=by omega
    rw[List.take_length] at oR;have c0:=b1.c0;have c1:=b1.c1;have c2:=b1.c2;have c3':=b1.c3;have c4:=b1.c4;have c5:=b1.c5;have k5:=b1.free 5;have r0:=b2.c0;have r1:=b2.c1;have r2:=b2.c2;have r3:=b2.c3;have r4:=b2.c4;have r5:=b2.c5;have f0:=b2.free 0;have f1:=b2.free 1;have f2:=b2.free 2;have f3:=b2.free 3;have f4:=b2.free 4;have f5:=b2.free 5;have m1:ModT w.heap.size [74] wo (wo.setCell ⟨w.heap.size,5,none⟩ (.slice C' co.length cc)):=ModT.set wo b1 (by simp) (Nat.le_refl _) 5 _;have b2':=b2.far (p:=⟨w.heap.size,5,none⟩) (by simp) (.slice C' co.length cc);have m2:=(ZgX b2' (base:=w.heap.size) (by omega) (.int .i64 kind) (.int .i64 nn) (.int .i64 cap) (.slice A3 xw.length c3) (.slice B3 xv.length d3) (.slice C' co.length cc)).2;have F:=Hd (And.intro ((oV.modT m1 (by decide)).modT m2 (by decide)) (And.intro ((oR.modT m1 (by decide)).modT m2 (by decide)) (And.intro ((Y.modT m1 (Nat.le_refl _)).modT m2 (Nat.le_refl _)) (And.intro ((oA.out.modT m1 (by decide)).modT m2 (by decide)) ((oB.out.modT m1 (by decide)).modT m2 (by decide))))));have hRD:=rD;clear HH oV oR Y b1 b2 m1 m2 b2';go_wp2_with (fail);exact bodyPost_ret (v:=.agg #[.int .i64 kind,.int .i64 nn,.int .i64 cap,.slice A3 xw.length c3,.slice B3 xv.length d3,.slice C' co.length cc]) (by simp[results,Tryz.results48,go_sem, *]) rfl ⟨A3,c3,B3,d3,C',cc,us,rfl,F.out.2.2.2.1,F.out.2.2.2.2,DJ.out,F.out.1,F.out.2.1,hRD.out,F.out.2.2.1⟩
end
end Go.Proofs.YtocfmioihaefoaaGreatDoor
