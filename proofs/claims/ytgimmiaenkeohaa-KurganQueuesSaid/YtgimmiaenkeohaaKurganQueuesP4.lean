/- parts, packed by a program -/
import Derived.Test.YtgimmiaenkeohaaKurganQueuesP3
set_option maxRecDepth 100000
set_option maxHeartbeats 16000000
set_option linter.all false
namespace Go.Proofs.Ytgimmiaenkeohaa
section
open Go.RowKit Go.ChangeShapes Go.WideShapes Go.ChangeAt
theorem VK (bs gm gc gp gn go gh b lv ga:Nat)(M:List Int)(P:PoolS)(bd:Nat->Int)(a:HAct)(w:World)(H:HW w bs gm gc gp gn go gh b lv ga M P a)(hbd:PB P bd)(hn:P.n<=100000)(hb:b<=1048576)(i:Nat)(hi:a.pos=(i:Int))(h1:1<=i)(h2:i<=1048575)(y:Int)(hx:M[b+((2*i+1)-1)]?=some y)(hd:Zl a.hd)(hdl:pla a.hd<(P.n:Int))(hl:Zl a.lh)(hll:pla a.lh<(P.n:Int))(hy:Zl y)(hyl:pla y<(P.n:Int))(hs:0<=a.slot)(hq:ZR bd y a.lh=true)(hr:ZR bd y a.hd=true) :
  Calls Try.prog 60 #[.pointer (some ⟨ga,0,none⟩)] w fun e w'=>e=.returned (.tuple #[])/\HW w' bs gm gc gp gn go gh b lv ga M P { a with rh:=y,ch:=2*(i:Int)+1,chh:=y,ph:=10 }/\Mod (PT ga gm gc) w w':=by
 have RE:=fun(W:World) (X:Ext w W)=>ZA gm gc gh b lv ga gp M W (H.ext X).h (H.ext X).m _ _ (H.ext X).a rfl hb (2*i+1) (by omega) (by omega) y hx
 rw[show ((2*i+1:Nat):Int)=2*(i:Int)+1 by omega] at RE;have wr1:IntKind.i64.wrap (2*(i:Int))=2*(i:Int):=IntWalk.i64_in _ (by omega);have wr2:IntKind.i64.wrap (2*(i:Int)+1)=2*(i:Int)+1:=IntWalk.i64_in _ (by omega);have L1:=Hd (fun(W:World) (a':HAct) (h:HW W bs gm gc gp gn go gh b lv ga M P a')=>ZS bs gm gc gp gn go gh b lv P bd W h.h h.p hbd hn y a.lh hy hl hyl hll);have L2:=Hd (fun(W:World) (a':HAct) (h:HW W bs gm gc gp gn go gh b lv ga M P a')=>ZS bs gm gc gp gn go gh b lv P bd W h.h h.p hbd hn y a.hd hy hd hyl hdl);rw[hq] at L1;rw[hr] at L2;replace RE:=Hd RE;have HH:=Hd H;have a12:w.cell? ⟨ga,12,none⟩=some (.int .i64 (i:Int)):=(Blk.cell H.a 12).trans (by simp[HAct.cells,hi]);clear H hx hq hr hy hl hyl hll hd hdl hbd hn;go_enter Try.func60,Try.ntmps60;go_wp2_with (fail);refine(RE.out _ XI).mono ?_;rintro e w1 ⟨rfl,m1,d1⟩;have H1:=Hd (HH.out.cell m1 d1);have D1:=Hd (d1.mono fun b _ h=>(.inr h:PT ga gm gc b));clear m1 d1 RE a12 HH;have c0:w1.cell? ⟨ga,16,none⟩=some (.int .i64 a.rh):=Blk.cell H1.out.a 16;have f0:w1.frozen? ⟨ga,16,none⟩=false:=Blk.free H1.out.a 16;obtain⟨q1,q2⟩:=H1.out.field 16 (.int .i64 y) (a':={ a with rh:=y }) rfl;have H2:=Hd q1;have D2:=Hd (D1.out.tr (q2.mono fun b _ h=>(.inl h:PT ga gm gc b)));clear q1 q2 D1 H1;go_upto_region 1 with(fail);clear c0 f0;generalize w1.setCell ⟨ga,16,none⟩ (.int .i64 y)=w2 at *;refine wp_region_any (by kernel_rfl) ?_
 change wpAny _ _ _ _ _ _ _ (World.drew _)
 have HH:=Hd (H2.out.ext (show Ext w2 w2.drew from(Ext.rf _).drew));have DD:=Hd (D2.out.tr (Mod.of_ext (show Ext w2 w2.drew from(Ext.rf _).drew)));clear H2 D2;generalize w2.drew=w3 at *;have k12:w3.cell? ⟨ga,12,none⟩=some (.int .i64 (i:Int)):=(Blk.cell HH.out.a 12).trans (by simp[HAct.cells,hi]);have k15:w3.cell? ⟨ga,15,none⟩=some (.int .i64 a.lh):=Blk.cell HH.out.a 15;refine Za (i:=0) (op:=Op.move (Operand.tmp 0)) (t:=46) (d:=some 14) (v:=_) rfl (by decide +kernel) (fun _ _ _ h=>h) (by intro _;unfold Zb;go_simp;try with_reducible rfl) ?_
 try simp only[lay]
 refine Za (i:=1) (op:=Op.move (Operand.tmp 0)) (t:=46) (d:=some 15) (v:=_) rfl (by decide +kernel) (fun _ _ _ h=>h) (by intro _;unfold Zb;go_simp;try with_reducible rfl) ?_
 try simp only[lay]
 refine Za (i:=2) (op:=Op.move (Operand.tmp 0)) (t:=46) (d:=some 16) (v:=_) rfl (by decide +kernel) (fun _ _ _ h=>h) (by intro _;unfold Zb;go_simp;try with_reducible rfl) ?_
 try simp only[lay]
 refine Za (i:=3) (op:=Op.nilCheck (Operand.tmp 16)) (t:=0) (d:=some 17) (v:=_) rfl (by decide +kernel) (fun _ _ _ h=>h) (by intro _;unfold Zb;go_simp;try with_reducible rfl) ?_
 try simp only[lay]
 refine Za (i:=4) (op:=Op.fieldAddr 85 (Operand.tmp 17) 12) (t:=0) (d:=some 18) (v:=_) rfl (by decide +kernel) (fun _ _ _ h=>h) (by intro _;unfold Zb;go_simp;try with_reducible rfl) ?_
 try simp only[lay]
 refine Za (i:=7) (op:=Op.move (Operand.tmp 0)) (t:=46) (d:=some 21) (v:=_) rfl (by decide +kernel) (fun _ _ _ h=>h) (by intro _;unfold Zb;go_simp;try with_reducible rfl) ?_
 try simp only[lay]
 refine Za (i:=8) (op:=Op.nilCheck (Operand.tmp 21)) (t:=0) (d:=some 22) (v:=_) rfl (by decide +kernel) (fun _ _ _ h=>h) (by intro _;unfold Zb;go_simp;try with_reducible rfl) ?_
 try simp only[lay]
 refine Za (i:=9) (op:=Op.fieldAddr 85 (Operand.tmp 22) 15) (t:=0) (d:=some 23) (v:=_) rfl (by decide +kernel) (fun _ _ _ h=>h) (by intro _;unfold Zb;go_simp;try with_reducible rfl) ?_
 try simp only[lay]
 refine Za (i:=10) (op:=Op.fieldAddr 83 (Operand.tmp 23) 0) (t:=0) (d:=some 24) (v:=_) rfl (by decide +kernel) (fun _ _ _ h=>h) (by intro _;unfold Zb;go_simp;try with_reducible rfl) ?_
 try simp only[lay]
 refine Zj (n:=8) [(5,some 19),(6,some 20),(11,some 25)] (fun | 5=>.int .i64 (i:Int) | 6=>.int .i64 (2*(i:Int)) | 11=>.int .i64 a.lh | _=>undef) #[true,true,true,true,true,true,true,true,true,true,true,true,false,false,false,false,false,false,false,false] (by decide +kernel) ?_ ?_
 ·intro pS hpm uS hD K hK
  simp only[List.mem_cons,List.not_mem_nil,or_false] at hpm;rcases hpm with rfl | rfl | rfl
  ·exact Ze (T:=3) (x:=Operand.tmp 18) (t:=3) (d:=some 19) rfl (.pointer (some ⟨ga,12,none⟩)) (by kernel_rfl) (.int .i64 (i:Int)) (by go_simp) hK
  ·(have e5:uS 5=.int .i64 (i:Int):=hD 5 (Zg (by kernel_rfl));exact Zm (op:=Op.binOp BinOp.mul 3 (Operand.const (Value.int IntKind.i64 2)) (Operand.tmp 19) 3) (t:=3) (d:=some 20) rfl (.int .i64 (2*(i:Int))) (by simp only[Zc,Act.put,List.setIfInBounds_toArray,List.set_cons_zero,List.set_cons_succ];unfold Zb;go_simp;try simp only[e5];try go_simp) hK)
  ·exact Ze (T:=3) (x:=Operand.tmp 24) (t:=3) (d:=some 25) rfl (.pointer (some ⟨ga,15,none⟩)) (by kernel_rfl) (.int .i64 a.lh) (by go_simp) hK
 simp only[Zc,Act.put,List.setIfInBounds_toArray,List.set_cons_zero,List.set_cons_succ];refine Za (i:=12) (op:=Op.nilCheck (Operand.tmp 14)) (t:=0) (d:=some 26) (v:=_) rfl (by decide +kernel) (fun _ _ _ h=>h) (by intro _;unfold Zb;go_simp;try with_reducible rfl) ?_
 try simp only[lay]
 refine Za (i:=13) (op:=Op.fieldAddr 85 (Operand.tmp 26) 15) (t:=0) (d:=some 27) (v:=_) rfl (by decide +kernel) (fun _ _ _ h=>h) (by intro _;unfold Zb;go_simp;try with_reducible rfl) ?_
 try simp only[lay]
 refine Za (i:=14) (op:=Op.fieldAddr 83 (Operand.tmp 27) 2) (t:=0) (d:=some 28) (v:=_) rfl (by decide +kernel) (fun _ _ _ h=>h) (by intro _;unfold Zb;go_simp;try with_reducible rfl) ?_
 try simp only[lay]
 have c7:w3.cell? ⟨ga,17,none⟩=some (.int .i64 (a.ch)):=Blk.cell HH.out.a 17;have f7:w3.frozen? ⟨ga,17,none⟩=false:=Blk.free HH.out.a 17;obtain⟨q1,q2⟩:=HW.field HH.out 17 (.int .i64 (2*(i:Int))) (a':={ a with rh:=y,ch:=2*(i:Int) }) rfl;have c8:(w3.setCell ⟨ga,17,none⟩ (.int .i64 (2*(i:Int)))).cell? ⟨ga,18,none⟩=some (.int .i64 (a.chh)):=Blk.cell q1.a 18;have f8:(w3.setCell ⟨ga,17,none⟩ (.int .i64 (2*(i:Int)))).frozen? ⟨ga,18,none⟩=false:=Blk.free q1.a 18;obtain⟨r1,r2⟩:=HW.field q1 18 (.int .i64 (a.lh)) (a':={ a with rh:=y,ch:=2*(i:Int),chh:=a.lh }) rfl;have H4:=Hd r1;have D4:=Hd (DD.out.tr ((q2.tr r2).mono fun b _ h=>(.inl h:PT ga gm gc b)));clear q1 q2 r1 r2 DD;refine Zd 15 (by decide +kernel) (ZQ rfl (.pointer (some ⟨ga,17,none⟩)) (.int .i64 (2*(i:Int))) (by kernel_rfl) (by kernel_rfl) (by go_simp;rfl) ?_)
 try simp only[lay]
 refine Za (i:=16) (op:=Op.nilCheck (Operand.tmp 15)) (t:=0) (d:=some 29) (v:=_) rfl (by decide +kernel) (fun _ _ _ h=>h) (by intro _;unfold Zb;go_simp;try with_reducible rfl) ?_
 try simp only[lay]
 refine Za (i:=17) (op:=Op.fieldAddr 85 (Operand.tmp 29) 15) (t:=0) (d:=some 30) (v:=_) rfl (by decide +kernel) (fun _ _ _ h=>h) (by intro _;unfold Zb;go_simp;try with_reducible rfl) ?_
 try simp only[lay]
 refine Za (i:=18) (op:=Op.fieldAddr 83 (Operand.tmp 30) 3) (t:=0) (d:=some 31) (v:=_) rfl (by decide +kernel) (fun _ _ _ h=>h) (by intro _;unfold Zb;go_simp;try with_reducible rfl) ?_
 try simp only[lay]
 refine Zd 19 (by decide +kernel) (ZQ rfl (.pointer (some ⟨ga,18,none⟩)) (.int .i64 a.lh) (by kernel_rfl) (by kernel_rfl) (by go_simp;rfl) ?_);refine wpAny_done (by kernel_rfl) ?_ _;go_simp;clear c7 f7 c8 f8 HH k12 k15;generalize (w3.setCell ⟨ga,17,none⟩ (.int .i64 (2*(i:Int)))).setCell ⟨ga,18,none⟩ (.int .i64 a.lh)=w4 at *;go_upto_region 2 with(fail);refine wp_region_any (by kernel_rfl) ?_
 change wpAny _ _ _ _ _ _ _ (World.drew _)
 have k0:w4.drew.cell? ⟨ga,0,none⟩=some (.pointer (some ⟨gh,0,none⟩)):=Blk.cell H4.out.a 0;have k16:w4.drew.cell? ⟨ga,16,none⟩=some (.int .i64 y):=Blk.cell H4.out.a 16;have k15:w4.drew.cell? ⟨ga,15,none⟩=some (.int .i64 a.lh):=Blk.cell H4.out.a 15;refine Za (i:=0) (op:=Op.move (Operand.tmp 0)) (t:=46) (d:=some 32) (v:=_) rfl (by decide +kernel) (fun _ _ _ h=>h) (by intro _;unfold Zb;go_simp;try with_reducible rfl) ?_
 try simp only[lay]
 refine Za (i:=1) (op:=Op.nilCheck (Operand.tmp 32)) (t:=0) (d:=some 33) (v:=_) rfl (by decide +kernel) (fun _ _ _ h=>h) (by intro _;unfold Zb;go_simp;try with_reducible rfl) ?_
 try simp only[lay]
 refine Za (i:=2) (op:=Op.fieldAddr 85 (Operand.tmp 33) 0) (t:=0) (d:=some 34) (v:=_) rfl (by decide +kernel) (fun _ _ _ h=>h) (by intro _;unfold Zb;go_simp;try with_reducible rfl) ?_
 try simp only[lay]
 refine Za (i:=4) (op:=Op.move (Operand.tmp 0)) (t:=46) (d:=some 36) (v:=_) rfl (by decide +kernel) (fun _ _ _ h=>h) (by intro _;unfold Zb;go_simp;try with_reducible rfl) ?_
 try simp only[lay]
 refine Za (i:=5) (op:=Op.nilCheck (Operand.tmp 36)) (t:=0) (d:=some 37) (v:=_) rfl (by decide +kernel) (fun _ _ _ h=>h) (by intro _;unfold Zb;go_simp;try with_reducible rfl) ?_
 try simp only[lay]
 refine Za (i:=6) (op:=Op.fieldAddr 85 (Operand.tmp 37) 15) (t:=0) (d:=some 38) (v:=_) rfl (by decide +kernel) (fun _ _ _ h=>h) (by intro _;unfold Zb;go_simp;try with_reducible rfl) ?_
 try simp only[lay]
 refine Za (i:=7) (op:=Op.fieldAddr 83 (Operand.tmp 38) 1) (t:=0) (d:=some 39) (v:=_) rfl (by decide +kernel) (fun _ _ _ h=>h) (by intro _;unfold Zb;go_simp;try with_reducible rfl) ?_
 try simp only[lay]
 refine Za (i:=9) (op:=Op.move (Operand.tmp 0)) (t:=46) (d:=some 41) (v:=_) rfl (by decide +kernel) (fun _ _ _ h=>h) (by intro _;unfold Zb;go_simp;try with_reducible rfl) ?_
 try simp only[lay]
 refine Za (i:=10) (op:=Op.nilCheck (Operand.tmp 41)) (t:=0) (d:=some 42) (v:=_) rfl (by decide +kernel) (fun _ _ _ h=>h) (by intro _;unfold Zb;go_simp;try with_reducible rfl) ?_
 try simp only[lay]
 refine Za (i:=11) (op:=Op.fieldAddr 85 (Operand.tmp 42) 15) (t:=0) (d:=some 43) (v:=_) rfl (by decide +kernel) (fun _ _ _ h=>h) (by intro _;unfold Zb;go_simp;try with_reducible rfl) ?_
 try simp only[lay]
 refine Za (i:=12) (op:=Op.fieldAddr 83 (Operand.tmp 43) 0) (t:=0) (d:=some 44) (v:=_) rfl (by decide +kernel) (fun _ _ _ h=>h) (by intro _;unfold Zb;go_simp;try with_reducible rfl) ?_
 try simp only[lay]
 refine Zj (n:=1) [(3,some 35),(8,some 40),(13,some 45)] (fun | 3=>.pointer (some ⟨gh,0,none⟩) | 8=>.int .i64 y | 13=>.int .i64 a.lh | _=>undef) #[true,true,true,true,true,true,true,true,true,true,true,true,true,true,false] (by decide +kernel) ?_ ?_
 ·intro pS hpm uS hD K hK
  simp only[List.mem_cons,List.not_mem_nil,or_false] at hpm;rcases hpm with rfl | rfl | rfl
  ·exact Ze (T:=32) (x:=Operand.tmp 34) (t:=32) (d:=some 35) rfl (.pointer (some ⟨ga,0,none⟩)) (by kernel_rfl) (.pointer (some ⟨gh,0,none⟩)) (by go_simp) hK
  ·exact Ze (T:=3) (x:=Operand.tmp 39) (t:=3) (d:=some 40) rfl (.pointer (some ⟨ga,16,none⟩)) (by kernel_rfl) (.int .i64 y) (by go_simp) hK
  ·exact Ze (T:=3) (x:=Operand.tmp 44) (t:=3) (d:=some 45) rfl (.pointer (some ⟨ga,15,none⟩)) (by kernel_rfl) (.int .i64 a.lh) (by go_simp) hK
 simp only[Zc,Act.put,List.setIfInBounds_toArray,List.set_cons_zero,List.set_cons_succ];refine Zd 14 (by decide +kernel) (Zh (f:=80) (xs:=#[Operand.tmp 35,Operand.tmp 40,Operand.tmp 45]) (ts:=#[32,3,3]) (t:=4) (d:=some 46) rfl #[.pointer (some ⟨gh,0,none⟩),.int .i64 y,.int .i64 a.lh] (by go_simp) (by kernel_rfl) _ (L1.out _ _ (H4.out.ext (Ext.rf _).drew)) ?_);rintro e w5 ⟨rfl,x5⟩;have H5:=Hd ((H4.out.ext (Ext.rf _).drew).ext x5);have D5:=Hd (D4.out.tr (Mod.of_ext (Ext.tr (Ext.rf w4).drew x5)));clear x5 L1 H4 D4 k0 k15 k16;refine⟨_,rfl,?_⟩
 try simp only[lay]
 refine wpAny_done (by kernel_rfl) ?_ _;go_simp;go_upto_region 3 with(fail);refine wp_region_any (by kernel_rfl) ?_
 change wpAny _ _ _ _ _ _ _ (World.drew _)
 have HH:=Hd (H5.out.ext (show Ext w5 w5.drew from(Ext.rf _).drew));have DD:=Hd (D5.out.tr (Mod.of_ext (show Ext w5 w5.drew from(Ext.rf _).drew)));clear H5 D5;generalize w5.drew=w6 at *;have k12:w6.cell? ⟨ga,12,none⟩=some (.int .i64 (i:Int)):=(Blk.cell HH.out.a 12).trans (by simp[HAct.cells,hi]);have k16:w6.cell? ⟨ga,16,none⟩=some (.int .i64 y):=Blk.cell HH.out.a 16;refine Za (i:=0) (op:=Op.move (Operand.tmp 0)) (t:=46) (d:=some 47) (v:=_) rfl (by decide +kernel) (fun _ _ _ h=>h) (by intro _;unfold Zb;go_simp;try with_reducible rfl) ?_
 try simp only[lay]
 refine Za (i:=1) (op:=Op.move (Operand.tmp 0)) (t:=46) (d:=some 48) (v:=_) rfl (by decide +kernel) (fun _ _ _ h=>h) (by intro _;unfold Zb;go_simp;try with_reducible rfl) ?_
 try simp only[lay]
 refine Za (i:=2) (op:=Op.move (Operand.tmp 0)) (t:=46) (d:=some 49) (v:=_) rfl (by decide +kernel) (fun _ _ _ h=>h) (by intro _;unfold Zb;go_simp;try with_reducible rfl) ?_
 try simp only[lay]
 refine Za (i:=3) (op:=Op.nilCheck (Operand.tmp 49)) (t:=0) (d:=some 50) (v:=_) rfl (by decide +kernel) (fun _ _ _ h=>h) (by intro _;unfold Zb;go_simp;try with_reducible rfl) ?_
 try simp only[lay]
 refine Za (i:=4) (op:=Op.fieldAddr 85 (Operand.tmp 50) 12) (t:=0) (d:=some 51) (v:=_) rfl (by decide +kernel) (fun _ _ _ h=>h) (by intro _;unfold Zb;go_simp;try with_reducible rfl) ?_
 try simp only[lay]
 refine Za (i:=8) (op:=Op.move (Operand.tmp 0)) (t:=46) (d:=some 55) (v:=_) rfl (by decide +kernel) (fun _ _ _ h=>h) (by intro _;unfold Zb;go_simp;try with_reducible rfl) ?_
 try simp only[lay]
 refine Za (i:=9) (op:=Op.nilCheck (Operand.tmp 55)) (t:=0) (d:=some 56) (v:=_) rfl (by decide +kernel) (fun _ _ _ h=>h) (by intro _;unfold Zb;go_simp;try with_reducible rfl) ?_
 try simp only[lay]
 refine Za (i:=10) (op:=Op.fieldAddr 85 (Operand.tmp 56) 15) (t:=0) (d:=some 57) (v:=_) rfl (by decide +kernel) (fun _ _ _ h=>h) (by intro _;unfold Zb;go_simp;try with_reducible rfl) ?_
 try simp only[lay]
 refine Za (i:=11) (op:=Op.fieldAddr 83 (Operand.tmp 57) 1) (t:=0) (d:=some 58) (v:=_) rfl (by decide +kernel) (fun _ _ _ h=>h) (by intro _;unfold Zb;go_simp;try with_reducible rfl) ?_
 try simp only[lay]
 refine Zj (n:=8) [(5,some 52),(6,some 53),(7,some 54),(12,some 59)] (fun | 5=>.int .i64 (i:Int) | 6=>.int .i64 (2*(i:Int)) | 7=>.int .i64 (2*(i:Int)+1) | 12=>.int .i64 y | _=>undef) #[true,true,true,true,true,true,true,true,true,true,true,true,true,false,false,false,false,false,false,false,false] (by decide +kernel) ?_ ?_
 ·intro pS hpm uS hD K hK
  simp only[List.mem_cons,List.not_mem_nil,or_false] at hpm;rcases hpm with rfl | rfl | rfl | rfl
  ·exact Ze (T:=3) (x:=Operand.tmp 51) (t:=3) (d:=some 52) rfl (.pointer (some ⟨ga,12,none⟩)) (by kernel_rfl) (.int .i64 (i:Int)) (by go_simp) hK
  ·(have e5:uS 5=.int .i64 (i:Int):=hD 5 (Zg (by kernel_rfl));exact Zm (op:=Op.binOp BinOp.mul 3 (Operand.const (Value.int IntKind.i64 2)) (Operand.tmp 52) 3) (t:=3) (d:=some 53) rfl (.int .i64 (2*(i:Int))) (by simp only[Zc,Act.put,List.setIfInBounds_toArray,List.set_cons_zero,List.set_cons_succ];unfold Zb;go_simp;try simp only[e5];try go_simp) hK)
  ·(have e6:uS 6=.int .i64 (2*(i:Int)):=hD 6 (Zg (by kernel_rfl));exact Zm (op:=Op.binOp BinOp.add 3 (Operand.tmp 53) (Operand.const (Value.int IntKind.i64 1)) 3) (t:=3) (d:=some 54) rfl (.int .i64 (2*(i:Int)+1)) (by simp only[Zc,Act.put,List.setIfInBounds_toArray,List.set_cons_zero,List.set_cons_succ];unfold Zb;go_simp;try simp only[e6];try go_simp) hK)
  ·exact Ze (T:=3) (x:=Operand.tmp 58) (t:=3) (d:=some 59) rfl (.pointer (some ⟨ga,16,none⟩)) (by kernel_rfl) (.int .i64 y) (by go_simp) hK
 simp only[Zc,Act.put,List.setIfInBounds_toArray,List.set_cons_zero,List.set_cons_succ];refine Za (i:=13) (op:=Op.nilCheck (Operand.tmp 47)) (t:=0) (d:=some 60) (v:=_) rfl (by decide +kernel) (fun _ _ _ h=>h) (by intro _;unfold Zb;go_simp;try with_reducible rfl) ?_
 try simp only[lay]
 refine Za (i:=14) (op:=Op.fieldAddr 85 (Operand.tmp 60) 15) (t:=0) (d:=some 61) (v:=_) rfl (by decide +kernel) (fun _ _ _ h=>h) (by intro _;unfold Zb;go_simp;try with_reducible rfl) ?_
 try simp only[lay]
 refine Za (i:=15) (op:=Op.fieldAddr 83 (Operand.tmp 61) 2) (t:=0) (d:=some 62) (v:=_) rfl (by decide +kernel) (fun _ _ _ h=>h) (by intro _;unfold Zb;go_simp;try with_reducible rfl) ?_
 try simp only[lay]
 have c7:w6.cell? ⟨ga,17,none⟩=some (.int .i64 (2*(i:Int))):=Blk.cell HH.out.a 17;have f7:w6.frozen? ⟨ga,17,none⟩=false:=Blk.free HH.out.a 17;obtain⟨q1,q2⟩:=HW.field HH.out 17 (.int .i64 (2*(i:Int)+1)) (a':={ a with rh:=y,ch:=2*(i:Int)+1,chh:=a.lh }) rfl;have c8:(w6.setCell ⟨ga,17,none⟩ (.int .i64 (2*(i:Int)+1))).cell? ⟨ga,18,none⟩=some (.int .i64 (a.lh)):=Blk.cell q1.a 18;have f8:(w6.setCell ⟨ga,17,none⟩ (.int .i64 (2*(i:Int)+1))).frozen? ⟨ga,18,none⟩=false:=Blk.free q1.a 18;obtain⟨r1,r2⟩:=HW.field q1 18 (.int .i64 (y)) (a':={ a with rh:=y,ch:=2*(i:Int)+1,chh:=y }) rfl;have H7:=Hd r1;have D7:=Hd (DD.out.tr ((q2.tr r2).mono fun b _ h=>(.inl h:PT ga gm gc b)));clear q1 q2 r1 r2 DD;refine Zd 16 (by decide +kernel) (ZQ rfl (.pointer (some ⟨ga,17,none⟩)) (.int .i64 (2*(i:Int)+1)) (by kernel_rfl) (by kernel_rfl) (by go_simp;rfl) ?_)
 try simp only[lay]
 refine Za (i:=17) (op:=Op.nilCheck (Operand.tmp 48)) (t:=0) (d:=some 63) (v:=_) rfl (by decide +kernel) (fun _ _ _ h=>h) (by intro _;unfold Zb;go_simp;try with_reducible rfl) ?_
 try simp only[lay]
 refine Za (i:=18) (op:=Op.fieldAddr 85 (Operand.tmp 63) 15) (t:=0) (d:=some 64) (v:=_) rfl (by decide +kernel) (fun _ _ _ h=>h) (by intro _;unfold Zb;go_simp;try with_reducible rfl) ?_
 try simp only[lay]
 refine Za (i:=19) (op:=Op.fieldAddr 83 (Operand.tmp 64) 3) (t:=0) (d:=some 65) (v:=_) rfl (by decide +kernel) (fun _ _ _ h=>h) (by intro _;unfold Zb;go_simp;try with_reducible rfl) ?_
 try simp only[lay]
 refine Zd 20 (by decide +kernel) (ZQ rfl (.pointer (some ⟨ga,18,none⟩)) (.int .i64 y) (by kernel_rfl) (by kernel_rfl) (by go_simp;rfl) ?_);refine wpAny_done (by kernel_rfl) ?_ _;go_simp;clear c7 f7 c8 f8 HH k12 k16;generalize (w6.setCell ⟨ga,17,none⟩ (.int .i64 (2*(i:Int)+1))).setCell ⟨ga,18,none⟩ (.int .i64 y)=w7 at *;go_upto_region 4 with(fail);refine wp_region_any (by kernel_rfl) ?_
 change wpAny _ _ _ _ _ _ _ (World.drew _)
 have k0:w7.drew.cell? ⟨ga,0,none⟩=some (.pointer (some ⟨gh,0,none⟩)):=Blk.cell H7.out.a 0;have k18:w7.drew.cell? ⟨ga,18,none⟩=some (.int .i64 y):=Blk.cell H7.out.a 18;have k13:w7.drew.cell? ⟨ga,13,none⟩=some (.int .i64 a.hd):=Blk.cell H7.out.a 13;refine Za (i:=0) (op:=Op.move (Operand.tmp 0)) (t:=46) (d:=some 66) (v:=_) rfl (by decide +kernel) (fun _ _ _ h=>h) (by intro _;unfold Zb;go_simp;try with_reducible rfl) ?_
 try simp only[lay]
 refine Za (i:=1) (op:=Op.nilCheck (Operand.tmp 66)) (t:=0) (d:=some 67) (v:=_) rfl (by decide +kernel) (fun _ _ _ h=>h) (by intro _;unfold Zb;go_simp;try with_reducible rfl) ?_
 try simp only[lay]
 refine Za (i:=2) (op:=Op.fieldAddr 85 (Operand.tmp 67) 0) (t:=0) (d:=some 68) (v:=_) rfl (by decide +kernel) (fun _ _ _ h=>h) (by intro _;unfold Zb;go_simp;try with_reducible rfl) ?_
 try simp only[lay]
 refine Za (i:=4) (op:=Op.move (Operand.tmp 0)) (t:=46) (d:=some 70) (v:=_) rfl (by decide +kernel) (fun _ _ _ h=>h) (by intro _;unfold Zb;go_simp;try with_reducible rfl) ?_
 try simp only[lay]
 refine Za (i:=5) (op:=Op.nilCheck (Operand.tmp 70)) (t:=0) (d:=some 71) (v:=_) rfl (by decide +kernel) (fun _ _ _ h=>h) (by intro _;unfold Zb;go_simp;try with_reducible rfl) ?_
 try simp only[lay]
 refine Za (i:=6) (op:=Op.fieldAddr 85 (Operand.tmp 71) 15) (t:=0) (d:=some 72) (v:=_) rfl (by decide +kernel) (fun _ _ _ h=>h) (by intro _;unfold Zb;go_simp;try with_reducible rfl) ?_
 try simp only[lay]
 refine Za (i:=7) (op:=Op.fieldAddr 83 (Operand.tmp 72) 3) (t:=0) (d:=some 73) (v:=_) rfl (by decide +kernel) (fun _ _ _ h=>h) (by intro _;unfold Zb;go_simp;try with_reducible rfl) ?_
 try simp only[lay]
 refine Za (i:=9) (op:=Op.move (Operand.tmp 0)) (t:=46) (d:=some 75) (v:=_) rfl (by decide +kernel) (fun _ _ _ h=>h) (by intro _;unfold Zb;go_simp;try with_reducible rfl) ?_
 try simp only[lay]
 refine Za (i:=10) (op:=Op.nilCheck (Operand.tmp 75)) (t:=0) (d:=some 76) (v:=_) rfl (by decide +kernel) (fun _ _ _ h=>h) (by intro _;unfold Zb;go_simp;try with_reducible rfl) ?_
 try simp only[lay]
 refine Za (i:=11) (op:=Op.fieldAddr 85 (Operand.tmp 76) 13) (t:=0) (d:=some 77) (v:=_) rfl (by decide +kernel) (fun _ _ _ h=>h) (by intro _;unfold Zb;go_simp;try with_reducible rfl) ?_
 try simp only[lay]
 refine Zj (n:=2) [(3,some 69),(8,some 74),(12,some 78)] (fun | 3=>.pointer (some ⟨gh,0,none⟩) | 8=>.int .i64 y | 12=>.int .i64 a.hd | _=>undef) #[true,true,true,true,true,true,true,true,true,true,true,true,true,false,false] (by decide +kernel) ?_ ?_
 ·intro pS hpm uS hD K hK
  simp only[List.mem_cons,List.not_mem_nil,or_false] at hpm;rcases hpm with rfl | rfl | rfl
  ·exact Ze (T:=32) (x:=Operand.tmp 68) (t:=32) (d:=some 69) rfl (.pointer (some ⟨ga,0,none⟩)) (by kernel_rfl) (.pointer (some ⟨gh,0,none⟩)) (by go_simp) hK
  ·exact Ze (T:=3) (x:=Operand.tmp 73) (t:=3) (d:=some 74) rfl (.pointer (some ⟨ga,18,none⟩)) (by kernel_rfl) (.int .i64 y) (by go_simp) hK
  ·exact Ze (T:=3) (x:=Operand.tmp 77) (t:=3) (d:=some 78) rfl (.pointer (some ⟨ga,13,none⟩)) (by kernel_rfl) (.int .i64 a.hd) (by go_simp) hK
 simp only[Zc,Act.put,List.setIfInBounds_toArray,List.set_cons_zero,List.set_cons_succ];refine Zd 13 (by decide +kernel) (Zh (f:=80) (xs:=#[Operand.tmp 69,Operand.tmp 74,Operand.tmp 78]) (ts:=#[32,3,3]) (t:=4) (d:=some 79) rfl #[.pointer (some ⟨gh,0,none⟩),.int .i64 y,.int .i64 a.hd] (by go_simp) (by kernel_rfl) _ (L2.out _ _ (H7.out.ext (Ext.rf _).drew)) ?_);rintro e w8 ⟨rfl,x8⟩;have H8:=Hd ((H7.out.ext (Ext.rf _).drew).ext x8);have D8:=Hd (D7.out.tr (Mod.of_ext (Ext.tr (Ext.rf w7).drew x8)));clear x8 L2 H7 D7 k0 k13 k18;refine⟨_,rfl,?_⟩
 try simp only[lay]
 refine Za (i:=14) (op:=Op.unOp UnOp.not 4 (Operand.tmp 79)) (t:=4) (d:=some 80) (v:=_) rfl (by decide +kernel) (fun _ _ _ h=>h) (by intro _;unfold Zb;go_simp;try with_reducible rfl) ?_
 try simp only[lay]
 refine wpAny_done (by kernel_rfl) ?_ _;go_simp;have c0:w8.cell? ⟨ga,1,none⟩=some (.int .i64 a.ph):=Blk.cell H8.out.a 1;have f0:w8.frozen? ⟨ga,1,none⟩=false:=Blk.free H8.out.a 1;obtain⟨q1,q2⟩:=H8.out.field 1 (.int .i64 10) (a':={ a with rh:=y,ch:=2*(i:Int)+1,chh:=y,ph:=10 }) rfl;have S1:=Hd q1;have S2:=Hd (D8.out.tr (q2.mono fun b _ h=>(.inl h:PT ga gm gc b)));clear q1 q2;go_wp2_with (fail);go_end0;exact⟨rfl,S1.out,S2.out⟩
theorem VL (bs gm gc gp gn go gh b lv ga:Nat)(M:List Int)(P:PoolS)(bd:Nat->Int)(a:HAct)(w:World)(H:HW w bs gm gc gp gn go gh b lv ga M P a)(hbd:PB P bd)(hn:P.n<=100000)(hb:b<=1048576)(i:Nat)(hi:a.pos=(i:Int))(h1:1<=i)(h2:i<=1048575)(y:Int)(hx:M[b+((2*i+1)-1)]?=some y)(hd:Zl a.hd)(hdl:pla a.hd<(P.n:Int))(hl:Zl a.lh)(hll:pla a.lh<(P.n:Int))(hy:Zl y)(hyl:pla y<(P.n:Int))(hs:0<=a.slot)(hq:ZR bd y a.lh=true)(hr:ZR bd y a.hd=false) :
  Calls Try.prog 60 #[.pointer (some ⟨ga,0,none⟩)] w fun e w'=>e=.returned (.tuple #[])/\HW w' bs gm gc gp gn go gh b lv ga M P { a with rh:=y,ch:=2*(i:Int)+1,chh:=y,pos:=1,ph:=15 }/\Mod (PT ga gm gc) w w':=by
 have RE:=fun(W:World) (X:Ext w W)=>ZA gm gc gh b lv ga gp M W (H.ext X).h (H.ext X).m _ _ (H.ext X).a rfl hb (2*i+1) (by omega) (by omega) y hx
 rw[show ((2*i+1:Nat):Int)=2*(i:Int)+1 by omega] at RE;have wr1:IntKind.i64.wrap (2*(i:Int))=2*(i:Int):=IntWalk.i64_in _ (by omega);have wr2:IntKind.i64.wrap (2*(i:Int)+1)=2*(i:Int)+1:=IntWalk.i64_in _ (by omega);have L1:=Hd (fun(W:World) (a':HAct) (h:HW W bs gm gc gp gn go gh b lv ga M P a')=>ZS bs gm gc gp gn go gh b lv P bd W h.h h.p hbd hn y a.lh hy hl hyl hll);have L2:=Hd (fun(W:World) (a':HAct) (h:HW W bs gm gc gp gn go gh b lv ga M P a')=>ZS bs gm gc gp gn go gh b lv P bd W h.h h.p hbd hn y a.hd hy hd hyl hdl);rw[hq] at L1;rw[hr] at L2;replace RE:=Hd RE;have HH:=Hd H;have a12:w.cell? ⟨ga,12,none⟩=some (.int .i64 (i:Int)):=(Blk.cell H.a 12).trans (by simp[HAct.cells,hi]);clear H hx hq hr hy hl hyl hll hd hdl hbd hn;go_enter Try.func60,Try.ntmps60;go_wp2_with (fail);refine(RE.out _ XI).mono ?_;rintro e w1 ⟨rfl,m1,d1⟩;have H1:=Hd (HH.out.cell m1 d1);have D1:=Hd (d1.mono fun b _ h=>(.inr h:PT ga gm gc b));clear m1 d1 RE a12 HH;have c0:w1.cell? ⟨ga,16,none⟩=some (.int .i64 a.rh):=Blk.cell H1.out.a 16;have f0:w1.frozen? ⟨ga,16,none⟩=false:=Blk.free H1.out.a 16;obtain⟨q1,q2⟩:=H1.out.field 16 (.int .i64 y) (a':={ a with rh:=y }) rfl;have H2:=Hd q1;have D2:=Hd (D1.out.tr (q2.mono fun b _ h=>(.inl h:PT ga gm gc b)));clear q1 q2 D1 H1;go_upto_region 1 with(fail);clear c0 f0;generalize w1.setCell ⟨ga,16,none⟩ (.int .i64 y)=w2 at *;refine wp_region_any (by kernel_rfl) ?_
 change wpAny _ _ _ _ _ _ _ (World.drew _)
 have HH:=Hd (H2.out.ext (show Ext w2 w2.drew from(Ext.rf _).drew));have DD:=Hd (D2.out.tr (Mod.of_ext (show Ext w2 w2.drew from(Ext.rf _).drew)));clear H2 D2;generalize w2.drew=w3 at *;have k12:w3.cell? ⟨ga,12,none⟩=some (.int .i64 (i:Int)):=(Blk.cell HH.out.a 12).trans (by simp[HAct.cells,hi]);have k15:w3.cell? ⟨ga,15,none⟩=some (.int .i64 a.lh):=Blk.cell HH.out.a 15;refine Za (i:=0) (op:=Op.move (Operand.tmp 0)) (t:=46) (d:=some 14) (v:=_) rfl (by decide +kernel) (fun _ _ _ h=>h) (by intro _;unfold Zb;go_simp;try with_reducible rfl) ?_
 try simp only[lay]
 refine Za (i:=1) (op:=Op.move (Operand.tmp 0)) (t:=46) (d:=some 15) (v:=_) rfl (by decide +kernel) (fun _ _ _ h=>h) (by intro _;unfold Zb;go_simp;try with_reducible rfl) ?_
 try simp only[lay]
 refine Za (i:=2) (op:=Op.move (Operand.tmp 0)) (t:=46) (d:=some 16) (v:=_) rfl (by decide +kernel) (fun _ _ _ h=>h) (by intro _;unfold Zb;go_simp;try with_reducible rfl) ?_
 try simp only[lay]
 refine Za (i:=3) (op:=Op.nilCheck (Operand.tmp 16)) (t:=0) (d:=some 17) (v:=_) rfl (by decide +kernel) (fun _ _ _ h=>h) (by intro _;unfold Zb;go_simp;try with_reducible rfl) ?_
 try simp only[lay]
 refine Za (i:=4) (op:=Op.fieldAddr 85 (Operand.tmp 17) 12) (t:=0) (d:=some 18) (v:=_) rfl (by decide +kernel) (fun _ _ _ h=>h) (by intro _;unfold Zb;go_simp;try with_reducible rfl) ?_
 try simp only[lay]
 refine Za (i:=7) (op:=Op.move (Operand.tmp 0)) (t:=46) (d:=some 21) (v:=_) rfl (by decide +kernel) (fun _ _ _ h=>h) (by intro _;unfold Zb;go_simp;try with_reducible rfl) ?_
 try simp only[lay]
 refine Za (i:=8) (op:=Op.nilCheck (Operand.tmp 21)) (t:=0) (d:=some 22) (v:=_) rfl (by decide +kernel) (fun _ _ _ h=>h) (by intro _;unfold Zb;go_simp;try with_reducible rfl) ?_
 try simp only[lay]
 refine Za (i:=9) (op:=Op.fieldAddr 85 (Operand.tmp 22) 15) (t:=0) (d:=some 23) (v:=_) rfl (by decide +kernel) (fun _ _ _ h=>h) (by intro _;unfold Zb;go_simp;try with_reducible rfl) ?_
 try simp only[lay]
 refine Za (i:=10) (op:=Op.fieldAddr 83 (Operand.tmp 23) 0) (t:=0) (d:=some 24) (v:=_) rfl (by decide +kernel) (fun _ _ _ h=>h) (by intro _;unfold Zb;go_simp;try with_reducible rfl) ?_
 try simp only[lay]
 refine Zj (n:=8) [(5,some 19),(6,some 20),(11,some 25)] (fun | 5=>.int .i64 (i:Int) | 6=>.int .i64 (2*(i:Int)) | 11=>.int .i64 a.lh | _=>undef) #[true,true,true,true,true,true,true,true,true,true,true,true,false,false,false,false,false,false,false,false] (by decide +kernel) ?_ ?_
 ·intro pS hpm uS hD K hK
  simp only[List.mem_cons,List.not_mem_nil,or_false] at hpm;rcases hpm with rfl | rfl | rfl
  ·exact Ze (T:=3) (x:=Operand.tmp 18) (t:=3) (d:=some 19) rfl (.pointer (some ⟨ga,12,none⟩)) (by kernel_rfl) (.int .i64 (i:Int)) (by go_simp) hK
  ·(have e5:uS 5=.int .i64 (i:Int):=hD 5 (Zg (by kernel_rfl));exact Zm (op:=Op.binOp BinOp.mul 3 (Operand.const (Value.int IntKind.i64 2)) (Operand.tmp 19) 3) (t:=3) (d:=some 20) rfl (.int .i64 (2*(i:Int))) (by simp only[Zc,Act.put,List.setIfInBounds_toArray,List.set_cons_zero,List.set_cons_succ];unfold Zb;go_simp;try simp only[e5];try go_simp) hK)
  ·exact Ze (T:=3) (x:=Operand.tmp 24) (t:=3) (d:=some 25) rfl (.pointer (some ⟨ga,15,none⟩)) (by kernel_rfl) (.int .i64 a.lh) (by go_simp) hK
 simp only[Zc,Act.put,List.setIfInBounds_toArray,List.set_cons_zero,List.set_cons_succ];refine Za (i:=12) (op:=Op.nilCheck (Operand.tmp 14)) (t:=0) (d:=some 26) (v:=_) rfl (by decide +kernel) (fun _ _ _ h=>h) (by intro _;unfold Zb;go_simp;try with_reducible rfl) ?_
 try simp only[lay]
 refine Za (i:=13) (op:=Op.fieldAddr 85 (Operand.tmp 26) 15) (t:=0) (d:=some 27) (v:=_) rfl (by decide +kernel) (fun _ _ _ h=>h) (by intro _;unfold Zb;go_simp;try with_reducible rfl) ?_
 try simp only[lay]
 refine Za (i:=14) (op:=Op.fieldAddr 83 (Operand.tmp 27) 2) (t:=0) (d:=some 28) (v:=_) rfl (by decide +kernel) (fun _ _ _ h=>h) (by intro _;unfold Zb;go_simp;try with_reducible rfl) ?_
 try simp only[lay]
 have c7:w3.cell? ⟨ga,17,none⟩=some (.int .i64 (a.ch)):=Blk.cell HH.out.a 17;have f7:w3.frozen? ⟨ga,17,none⟩=false:=Blk.free HH.out.a 17;obtain⟨q1,q2⟩:=HW.field HH.out 17 (.int .i64 (2*(i:Int))) (a':={ a with rh:=y,ch:=2*(i:Int) }) rfl;have c8:(w3.setCell ⟨ga,17,none⟩ (.int .i64 (2*(i:Int)))).cell? ⟨ga,18,none⟩=some (.int .i64 (a.chh)):=Blk.cell q1.a 18;have f8:(w3.setCell ⟨ga,17,none⟩ (.int .i64 (2*(i:Int)))).frozen? ⟨ga,18,none⟩=false:=Blk.free q1.a 18;obtain⟨r1,r2⟩:=HW.field q1 18 (.int .i64 (a.lh)) (a':={ a with rh:=y,ch:=2*(i:Int),chh:=a.lh }) rfl;have H4:=Hd r1;have D4:=Hd (DD.out.tr ((q2.tr r2).mono fun b _ h=>(.inl h:PT ga gm gc b)));clear q1 q2 r1 r2 DD;refine Zd 15 (by decide +kernel) (ZQ rfl (.pointer (some ⟨ga,17,none⟩)) (.int .i64 (2*(i:Int))) (by kernel_rfl) (by kernel_rfl) (by go_simp;rfl) ?_)
 try simp only[lay]
 refine Za (i:=16) (op:=Op.nilCheck (Operand.tmp 15)) (t:=0) (d:=some 29) (v:=_) rfl (by decide +kernel) (fun _ _ _ h=>h) (by intro _;unfold Zb;go_simp;try with_reducible rfl) ?_
 try simp only[lay]
 refine Za (i:=17) (op:=Op.fieldAddr 85 (Operand.tmp 29) 15) (t:=0) (d:=some 30) (v:=_) rfl (by decide +kernel) (fun _ _ _ h=>h) (by intro _;unfold Zb;go_simp;try with_reducible rfl) ?_
 try simp only[lay]
 refine Za (i:=18) (op:=Op.fieldAddr 83 (Operand.tmp 30) 3) (t:=0) (d:=some 31) (v:=_) rfl (by decide +kernel) (fun _ _ _ h=>h) (by intro _;unfold Zb;go_simp;try with_reducible rfl) ?_
 try simp only[lay]
 refine Zd 19 (by decide +kernel) (ZQ rfl (.pointer (some ⟨ga,18,none⟩)) (.int .i64 a.lh) (by kernel_rfl) (by kernel_rfl) (by go_simp;rfl) ?_);refine wpAny_done (by kernel_rfl) ?_ _;go_simp;clear c7 f7 c8 f8 HH k12 k15;generalize (w3.setCell ⟨ga,17,none⟩ (.int .i64 (2*(i:Int)))).setCell ⟨ga,18,none⟩ (.int .i64 a.lh)=w4 at *;go_upto_region 2 with(fail);refine wp_region_any (by kernel_rfl) ?_
 change wpAny _ _ _ _ _ _ _ (World.drew _)
 have k0:w4.drew.cell? ⟨ga,0,none⟩=some (.pointer (some ⟨gh,0,none⟩)):=Blk.cell H4.out.a 0;have k16:w4.drew.cell? ⟨ga,16,none⟩=some (.int .i64 y):=Blk.cell H4.out.a 16;have k15:w4.drew.cell? ⟨ga,15,none⟩=some (.int .i64 a.lh):=Blk.cell H4.out.a 15;refine Za (i:=0) (op:=Op.move (Operand.tmp 0)) (t:=46) (d:=some 32) (v:=_) rfl (by decide +kernel) (fun _ _ _ h=>h) (by intro _;unfold Zb;go_simp;try with_reducible rfl) ?_
 try simp only[lay]
 refine Za (i:=1) (op:=Op.nilCheck (Operand.tmp 32)) (t:=0) (d:=some 33) (v:=_) rfl (by decide +kernel) (fun _ _ _ h=>h) (by intro _;unfold Zb;go_simp;try with_reducible rfl) ?_
 try simp only[lay]
 refine Za (i:=2) (op:=Op.fieldAddr 85 (Operand.tmp 33) 0) (t:=0) (d:=some 34) (v:=_) rfl (by decide +kernel) (fun _ _ _ h=>h) (by intro _;unfold Zb;go_simp;try with_reducible rfl) ?_
 try simp only[lay]
 refine Za (i:=4) (op:=Op.move (Operand.tmp 0)) (t:=46) (d:=some 36) (v:=_) rfl (by decide +kernel) (fun _ _ _ h=>h) (by intro _;unfold Zb;go_simp;try with_reducible rfl) ?_
 try simp only[lay]
 refine Za (i:=5) (op:=Op.nilCheck (Operand.tmp 36)) (t:=0) (d:=some 37) (v:=_) rfl (by decide +kernel) (fun _ _ _ h=>h) (by intro _;unfold Zb;go_simp;try with_reducible rfl) ?_
 try simp only[lay]
 refine Za (i:=6) (op:=Op.fieldAddr 85 (Operand.tmp 37) 15) (t:=0) (d:=some 38) (v:=_) rfl (by decide +kernel) (fun _ _ _ h=>h) (by intro _;unfold Zb;go_simp;try with_reducible rfl) ?_
 try simp only[lay]
 refine Za (i:=7) (op:=Op.fieldAddr 83 (Operand.tmp 38) 1) (t:=0) (d:=some 39) (v:=_) rfl (by decide +kernel) (fun _ _ _ h=>h) (by intro _;unfold Zb;go_simp;try with_reducible rfl) ?_
 try simp only[lay]
 refine Za (i:=9) (op:=Op.move (Operand.tmp 0)) (t:=46) (d:=some 41) (v:=_) rfl (by decide +kernel) (fun _ _ _ h=>h) (by intro _;unfold Zb;go_simp;try with_reducible rfl) ?_
 try simp only[lay]
 refine Za (i:=10) (op:=Op.nilCheck (Operand.tmp 41)) (t:=0) (d:=some 42) (v:=_) rfl (by decide +kernel) (fun _ _ _ h=>h) (by intro _;unfold Zb;go_simp;try with_reducible rfl) ?_
 try simp only[lay]
 refine Za (i:=11) (op:=Op.fieldAddr 85 (Operand.tmp 42) 15) (t:=0) (d:=some 43) (v:=_) rfl (by decide +kernel) (fun _ _ _ h=>h) (by intro _;unfold Zb;go_simp;try with_reducible rfl) ?_
 try simp only[lay]
 refine Za (i:=12) (op:=Op.fieldAddr 83 (Operand.tmp 43) 0) (t:=0) (d:=some 44) (v:=_) rfl (by decide +kernel) (fun _ _ _ h=>h) (by intro _;unfold Zb;go_simp;try with_reducible rfl) ?_
 try simp only[lay]
 refine Zj (n:=1) [(3,some 35),(8,some 40),(13,some 45)] (fun | 3=>.pointer (some ⟨gh,0,none⟩) | 8=>.int .i64 y | 13=>.int .i64 a.lh | _=>undef) #[true,true,true,true,true,true,true,true,true,true,true,true,true,true,false] (by decide +kernel) ?_ ?_
 ·intro pS hpm uS hD K hK
  simp only[List.mem_cons,List.not_mem_nil,or_false] at hpm;rcases hpm with rfl | rfl | rfl
  ·exact Ze (T:=32) (x:=Operand.tmp 34) (t:=32) (d:=some 35) rfl (.pointer (some ⟨ga,0,none⟩)) (by kernel_rfl) (.pointer (some ⟨gh,0,none⟩)) (by go_simp) hK
  ·exact Ze (T:=3) (x:=Operand.tmp 39) (t:=3) (d:=some 40) rfl (.pointer (some ⟨ga,16,none⟩)) (by kernel_rfl) (.int .i64 y) (by go_simp) hK
  ·exact Ze (T:=3) (x:=Operand.tmp 44) (t:=3) (d:=some 45) rfl (.pointer (some ⟨ga,15,none⟩)) (by kernel_rfl) (.int .i64 a.lh) (by go_simp) hK
 simp only[Zc,Act.put,List.setIfInBounds_toArray,List.set_cons_zero,List.set_cons_succ];refine Zd 14 (by decide +kernel) (Zh (f:=80) (xs:=#[Operand.tmp 35,Operand.tmp 40,Operand.tmp 45]) (ts:=#[32,3,3]) (t:=4) (d:=some 46) rfl #[.pointer (some ⟨gh,0,none⟩),.int .i64 y,.int .i64 a.lh] (by go_simp) (by kernel_rfl) _ (L1.out _ _ (H4.out.ext (Ext.rf _).drew)) ?_);rintro e w5 ⟨rfl,x5⟩;have H5:=Hd ((H4.out.ext (Ext.rf _).drew).ext x5);have D5:=Hd (D4.out.tr (Mod.of_ext (Ext.tr (Ext.rf w4).drew x5)));clear x5 L1 H4 D4 k0 k15 k16;refine⟨_,rfl,?_⟩
 try simp only[lay]
 refine wpAny_done (by kernel_rfl) ?_ _;go_simp;go_upto_region 3 with(fail);refine wp_region_any (by kernel_rfl) ?_
 change wpAny _ _ _ _ _ _ _ (World.drew _)
 have HH:=Hd (H5.out.ext (show Ext w5 w5.drew from(Ext.rf _).drew));have DD:=Hd (D5.out.tr (Mod.of_ext (show Ext w5 w5.drew from(Ext.rf _).drew)));clear H5 D5;generalize w5.drew=w6 at *;have k12:w6.cell? ⟨ga,12,none⟩=some (.int .i64 (i:Int)):=(Blk.cell HH.out.a 12).trans (by simp[HAct.cells,hi]);have k16:w6.cell? ⟨ga,16,none⟩=some (.int .i64 y):=Blk.cell HH.out.a 16;refine Za (i:=0) (op:=Op.move (Operand.tmp 0)) (t:=46) (d:=some 47) (v:=_) rfl (by decide +kernel) (fun _ _ _ h=>h) (by intro _;unfold Zb;go_simp;try with_reducible rfl) ?_
 try simp only[lay]
 refine Za (i:=1) (op:=Op.move (Operand.tmp 0)) (t:=46) (d:=some 48) (v:=_) rfl (by decide +kernel) (fun _ _ _ h=>h) (by intro _;unfold Zb;go_simp;try with_reducible rfl) ?_
 try simp only[lay]
 refine Za (i:=2) (op:=Op.move (Operand.tmp 0)) (t:=46) (d:=some 49) (v:=_) rfl (by decide +kernel) (fun _ _ _ h=>h) (by intro _;unfold Zb;go_simp;try with_reducible rfl) ?_
 try simp only[lay]
 refine Za (i:=3) (op:=Op.nilCheck (Operand.tmp 49)) (t:=0) (d:=some 50) (v:=_) rfl (by decide +kernel) (fun _ _ _ h=>h) (by intro _;unfold Zb;go_simp;try with_reducible rfl) ?_
 try simp only[lay]
 refine Za (i:=4) (op:=Op.fieldAddr 85 (Operand.tmp 50) 12) (t:=0) (d:=some 51) (v:=_) rfl (by decide +kernel) (fun _ _ _ h=>h) (by intro _;unfold Zb;go_simp;try with_reducible rfl) ?_
 try simp only[lay]
 refine Za (i:=8) (op:=Op.move (Operand.tmp 0)) (t:=46) (d:=some 55) (v:=_) rfl (by decide +kernel) (fun _ _ _ h=>h) (by intro _;unfold Zb;go_simp;try with_reducible rfl) ?_
 try simp only[lay]
 refine Za (i:=9) (op:=Op.nilCheck (Operand.tmp 55)) (t:=0) (d:=some 56) (v:=_) rfl (by decide +kernel) (fun _ _ _ h=>h) (by intro _;unfold Zb;go_simp;try with_reducible rfl) ?_
 try simp only[lay]
 refine Za (i:=10) (op:=Op.fieldAddr 85 (Operand.tmp 56) 15) (t:=0) (d:=some 57) (v:=_) rfl (by decide +kernel) (fun _ _ _ h=>h) (by intro _;unfold Zb;go_simp;try with_reducible rfl) ?_
 try simp only[lay]
 refine Za (i:=11) (op:=Op.fieldAddr 83 (Operand.tmp 57) 1) (t:=0) (d:=some 58) (v:=_) rfl (by decide +kernel) (fun _ _ _ h=>h) (by intro _;unfold Zb;go_simp;try with_reducible rfl) ?_
 try simp only[lay]
 refine Zj (n:=8) [(5,some 52),(6,some 53),(7,some 54),(12,some 59)] (fun | 5=>.int .i64 (i:Int) | 6=>.int .i64 (2*(i:Int)) | 7=>.int .i64 (2*(i:Int)+1) | 12=>.int .i64 y | _=>undef) #[true,true,true,true,true,true,true,true,true,true,true,true,true,false,false,false,false,false,false,false,false] (by decide +kernel) ?_ ?_
 ·intro pS hpm uS hD K hK
  simp only[List.mem_cons,List.not_mem_nil,or_false] at hpm;rcases hpm with rfl | rfl | rfl | rfl
  ·exact Ze (T:=3) (x:=Operand.tmp 51) (t:=3) (d:=some 52) rfl (.pointer (some ⟨ga,12,none⟩)) (by kernel_rfl) (.int .i64 (i:Int)) (by go_simp) hK
  ·(have e5:uS 5=.int .i64 (i:Int):=hD 5 (Zg (by kernel_rfl));exact Zm (op:=Op.binOp BinOp.mul 3 (Operand.const (Value.int IntKind.i64 2)) (Operand.tmp 52) 3) (t:=3) (d:=some 53) rfl (.int .i64 (2*(i:Int))) (by simp only[Zc,Act.put,List.setIfInBounds_toArray,List.set_cons_zero,List.set_cons_succ];unfold Zb;go_simp;try simp only[e5];try go_simp) hK)
  ·(have e6:uS 6=.int .i64 (2*(i:Int)):=hD 6 (Zg (by kernel_rfl));exact Zm (op:=Op.binOp BinOp.add 3 (Operand.tmp 53) (Operand.const (Value.int IntKind.i64 1)) 3) (t:=3) (d:=some 54) rfl (.int .i64 (2*(i:Int)+1)) (by simp only[Zc,Act.put,List.setIfInBounds_toArray,List.set_cons_zero,List.set_cons_succ];unfold Zb;go_simp;try simp only[e6];try go_simp) hK)
  ·exact Ze (T:=3) (x:=Operand.tmp 58) (t:=3) (d:=some 59) rfl (.pointer (some ⟨ga,16,none⟩)) (by kernel_rfl) (.int .i64 y) (by go_simp) hK
 simp only[Zc,Act.put,List.setIfInBounds_toArray,List.set_cons_zero,List.set_cons_succ];refine Za (i:=13) (op:=Op.nilCheck (Operand.tmp 47)) (t:=0) (d:=some 60) (v:=_) rfl (by decide +kernel) (fun _ _ _ h=>h) (by intro _;unfold Zb;go_simp;try with_reducible rfl) ?_
 try simp only[lay]
 refine Za (i:=14) (op:=Op.fieldAddr 85 (Operand.tmp 60) 15) (t:=0) (d:=some 61) (v:=_) rfl (by decide +kernel) (fun _ _ _ h=>h) (by intro _;unfold Zb;go_simp;try with_reducible rfl) ?_
 try simp only[lay]
 refine Za (i:=15) (op:=Op.fieldAddr 83 (Operand.tmp 61) 2) (t:=0) (d:=some 62) (v:=_) rfl (by decide +kernel) (fun _ _ _ h=>h) (by intro _;unfold Zb;go_simp;try with_reducible rfl) ?_
 try simp only[lay]
 have c7:w6.cell? ⟨ga,17,none⟩=some (.int .i64 (2*(i:Int))):=Blk.cell HH.out.a 17;have f7:w6.frozen? ⟨ga,17,none⟩=false:=Blk.free HH.out.a 17;obtain⟨q1,q2⟩:=HW.field HH.out 17 (.int .i64 (2*(i:Int)+1)) (a':={ a with rh:=y,ch:=2*(i:Int)+1,chh:=a.lh }) rfl;have c8:(w6.setCell ⟨ga,17,none⟩ (.int .i64 (2*(i:Int)+1))).cell? ⟨ga,18,none⟩=some (.int .i64 (a.lh)):=Blk.cell q1.a 18;have f8:(w6.setCell ⟨ga,17,none⟩ (.int .i64 (2*(i:Int)+1))).frozen? ⟨ga,18,none⟩=false:=Blk.free q1.a 18;obtain⟨r1,r2⟩:=HW.field q1 18 (.int .i64 (y)) (a':={ a with rh:=y,ch:=2*(i:Int)+1,chh:=y }) rfl;have H7:=Hd r1;have D7:=Hd (DD.out.tr ((q2.tr r2).mono fun b _ h=>(.inl h:PT ga gm gc b)));clear q1 q2 r1 r2 DD;refine Zd 16 (by decide +kernel) (ZQ rfl (.pointer (some ⟨ga,17,none⟩)) (.int .i64 (2*(i:Int)+1)) (by kernel_rfl) (by kernel_rfl) (by go_simp;rfl) ?_)
 try simp only[lay]
 refine Za (i:=17) (op:=Op.nilCheck (Operand.tmp 48)) (t:=0) (d:=some 63) (v:=_) rfl (by decide +kernel) (fun _ _ _ h=>h) (by intro _;unfold Zb;go_simp;try with_reducible rfl) ?_
 try simp only[lay]
 refine Za (i:=18) (op:=Op.fieldAddr 85 (Operand.tmp 63) 15) (t:=0) (d:=some 64) (v:=_) rfl (by decide +kernel) (fun _ _ _ h=>h) (by intro _;unfold Zb;go_simp;try with_reducible rfl) ?_
 try simp only[lay]
 refine Za (i:=19) (op:=Op.fieldAddr 83 (Operand.tmp 64) 3) (t:=0) (d:=some 65) (v:=_) rfl (by decide +kernel) (fun _ _ _ h=>h) (by intro _;unfold Zb;go_simp;try with_reducible rfl) ?_
 try simp only[lay]
 refine Zd 20 (by decide +kernel) (ZQ rfl (.pointer (some ⟨ga,18,none⟩)) (.int .i64 y) (by kernel_rfl) (by kernel_rfl) (by go_simp;rfl) ?_);refine wpAny_done (by kernel_rfl) ?_ _;go_simp;clear c7 f7 c8 f8 HH k12 k16;generalize (w6.setCell ⟨ga,17,none⟩ (.int .i64 (2*(i:Int)+1))).setCell ⟨ga,18,none⟩ (.int .i64 y)=w7 at *;go_upto_region 4 with(fail);refine wp_region_any (by kernel_rfl) ?_
 change wpAny _ _ _ _ _ _ _ (World.drew _)
 have k0:w7.drew.cell? ⟨ga,0,none⟩=some (.pointer (some ⟨gh,0,none⟩)):=Blk.cell H7.out.a 0;have k18:w7.drew.cell? ⟨ga,18,none⟩=some (.int .i64 y):=Blk.cell H7.out.a 18;have k13:w7.drew.cell? ⟨ga,13,none⟩=some (.int .i64 a.hd):=Blk.cell H7.out.a 13;refine Za (i:=0) (op:=Op.move (Operand.tmp 0)) (t:=46) (d:=some 66) (v:=_) rfl (by decide +kernel) (fun _ _ _ h=>h) (by intro _;unfold Zb;go_simp;try with_reducible rfl) ?_
 try simp only[lay]
 refine Za (i:=1) (op:=Op.nilCheck (Operand.tmp 66)) (t:=0) (d:=some 67) (v:=_) rfl (by decide +kernel) (fun _ _ _ h=>h) (by intro _;unfold Zb;go_simp;try with_reducible rfl) ?_
 try simp only[lay]
 refine Za (i:=2) (op:=Op.fieldAddr 85 (Operand.tmp 67) 0) (t:=0) (d:=some 68) (v:=_) rfl (by decide +kernel) (fun _ _ _ h=>h) (by intro _;unfold Zb;go_simp;try with_reducible rfl) ?_
 try simp only[lay]
 refine Za (i:=4) (op:=Op.move (Operand.tmp 0)) (t:=46) (d:=some 70) (v:=_) rfl (by decide +kernel) (fun _ _ _ h=>h) (by intro _;unfold Zb;go_simp;try with_reducible rfl) ?_
 try simp only[lay]
 refine Za (i:=5) (op:=Op.nilCheck (Operand.tmp 70)) (t:=0) (d:=some 71) (v:=_) rfl (by decide +kernel) (fun _ _ _ h=>h) (by intro _;unfold Zb;go_simp;try with_reducible rfl) ?_
 try simp only[lay]
 refine Za (i:=6) (op:=Op.fieldAddr 85 (Operand.tmp 71) 15) (t:=0) (d:=some 72) (v:=_) rfl (by decide +kernel) (fun _ _ _ h=>h) (by intro _;unfold Zb;go_simp;try with_reducible rfl) ?_
 try simp only[lay]
 refine Za (i:=7) (op:=Op.fieldAddr 83 (Operand.tmp 72) 3) (t:=0) (d:=some 73) (v:=_) rfl (by decide +kernel) (fun _ _ _ h=>h) (by intro _;unfold Zb;go_simp;try with_reducible rfl) ?_
 try simp only[lay]
 refine Za (i:=9) (op:=Op.move (Operand.tmp 0)) (t:=46) (d:=some 75) (v:=_) rfl (by decide +kernel) (fun _ _ _ h=>h) (by intro _;unfold Zb;go_simp;try with_reducible rfl) ?_
 try simp only[lay]
 refine Za (i:=10) (op:=Op.nilCheck (Operand.tmp 75)) (t:=0) (d:=some 76) (v:=_) rfl (by decide +kernel) (fun _ _ _ h=>h) (by intro _;unfold Zb;go_simp;try with_reducible rfl) ?_
 try simp only[lay]
 refine Za (i:=11) (op:=Op.fieldAddr 85 (Operand.tmp 76) 13) (t:=0) (d:=some 77) (v:=_) rfl (by decide +kernel) (fun _ _ _ h=>h) (by intro _;unfold Zb;go_simp;try with_reducible rfl) ?_
 try simp only[lay]
 refine Zj (n:=2) [(3,some 69),(8,some 74),(12,some 78)] (fun | 3=>.pointer (some ⟨gh,0,none⟩) | 8=>.int .i64 y | 12=>.int .i64 a.hd | _=>undef) #[true,true,true,true,true,true,true,true,true,true,true,true,true,false,false] (by decide +kernel) ?_ ?_
 ·intro pS hpm uS hD K hK
  simp only[List.mem_cons,List.not_mem_nil,or_false] at hpm;rcases hpm with rfl | rfl | rfl
  ·exact Ze (T:=32) (x:=Operand.tmp 68) (t:=32) (d:=some 69) rfl (.pointer (some ⟨ga,0,none⟩)) (by kernel_rfl) (.pointer (some ⟨gh,0,none⟩)) (by go_simp) hK
  ·exact Ze (T:=3) (x:=Operand.tmp 73) (t:=3) (d:=some 74) rfl (.pointer (some ⟨ga,18,none⟩)) (by kernel_rfl) (.int .i64 y) (by go_simp) hK
  ·exact Ze (T:=3) (x:=Operand.tmp 77) (t:=3) (d:=some 78) rfl (.pointer (some ⟨ga,13,none⟩)) (by kernel_rfl) (.int .i64 a.hd) (by go_simp) hK
 simp only[Zc,Act.put,List.setIfInBounds_toArray,List.set_cons_zero,List.set_cons_succ];refine Zd 13 (by decide +kernel) (Zh (f:=80) (xs:=#[Operand.tmp 69,Operand.tmp 74,Operand.tmp 78]) (ts:=#[32,3,3]) (t:=4) (d:=some 79) rfl #[.pointer (some ⟨gh,0,none⟩),.int .i64 y,.int .i64 a.hd] (by go_simp) (by kernel_rfl) _ (L2.out _ _ (H7.out.ext (Ext.rf _).drew)) ?_);rintro e w8 ⟨rfl,x8⟩;have H8:=Hd ((H7.out.ext (Ext.rf _).drew).ext x8);have D8:=Hd (D7.out.tr (Mod.of_ext (Ext.tr (Ext.rf w7).drew x8)));clear x8 L2 H7 D7 k0 k13 k18;refine⟨_,rfl,?_⟩
 try simp only[lay]
 refine Za (i:=14) (op:=Op.unOp UnOp.not 4 (Operand.tmp 79)) (t:=4) (d:=some 80) (v:=_) rfl (by decide +kernel) (fun _ _ _ h=>h) (by intro _;unfold Zb;go_simp;try with_reducible rfl) ?_
 try simp only[lay]
 refine wpAny_done (by kernel_rfl) ?_ _;go_simp;have TI:=Hd (fun(W:World) (X:Ext w8 W)=>YA bs gm gc gp gn go gh b lv ga M P { a with rh:=y,ch:=2*(i:Int)+1,chh:=y } W (H8.out.ext X) hs);go_wp2_with (fail);refine(TI.out _ XI).mono ?_;rintro e w9 ⟨rfl,h9,d9⟩;have H9:=Hd h9;have D9:=Hd (D8.out.tr (Mod.tr (Mod.of_ext (S:=PT ga gm gc) (show Ext w8 _ from XI)) (d9.mono fun b _ h=>(.inl h:PT ga gm gc b))));clear h9 d9 TI;go_wp2_with (fail);exact bodyPost_ret (results_none rfl _ _ _) rfl ⟨rfl,H9.out,D9.out⟩
theorem VM (bs gm gc gp gn go gh b lv ga:Nat)(M:List Int)(P:PoolS)(bd:Nat->Int)(a:HAct)(w:World)(H:HW w bs gm gc gp gn go gh b lv ga M P a)(hbd:PB P bd)(hn:P.n<=100000)(hb:b<=1048576)(i:Nat)(hi:a.pos=(i:Int))(h1:1<=i)(h2:i<=1048575)(y:Int)(hx:M[b+((2*i+1)-1)]?=some y)(hd:Zl a.hd)(hdl:pla a.hd<(P.n:Int))(hl:Zl a.lh)(hll:pla a.lh<(P.n:Int))(hy:Zl y)(hyl:pla y<(P.n:Int))(hs:0<=a.slot)(hq:ZR bd y a.lh=false)(hr:ZR bd a.lh a.hd=true) :
  Calls Try.prog 60 #[.pointer (some ⟨ga,0,none⟩)] w fun e w'=>e=.returned (.tuple #[])/\HW w' bs gm gc gp gn go gh b lv ga M P { a with rh:=y,ch:=2*(i:Int),chh:=a.lh,ph:=10 }/\Mod (PT ga gm gc) w w':=by
 have RE:=fun(W:World) (X:Ext w W)=>ZA gm gc gh b lv ga gp M W (H.ext X).h (H.ext X).m _ _ (H.ext X).a rfl hb (2*i+1) (by omega) (by omega) y hx
 rw[show ((2*i+1:Nat):Int)=2*(i:Int)+1 by omega] at RE;have wr1:IntKind.i64.wrap (2*(i:Int))=2*(i:Int):=IntWalk.i64_in _ (by omega);have wr2:IntKind.i64.wrap (2*(i:Int)+1)=2*(i:Int)+1:=IntWalk.i64_in _ (by omega);have L1:=Hd (fun(W:World) (a':HAct) (h:HW W bs gm gc gp gn go gh b lv ga M P a')=>ZS bs gm gc gp gn go gh b lv P bd W h.h h.p hbd hn y a.lh hy hl hyl hll);have L2:=Hd (fun(W:World) (a':HAct) (h:HW W bs gm gc gp gn go gh b lv ga M P a')=>ZS bs gm gc gp gn go gh b lv P bd W h.h h.p hbd hn a.lh a.hd hl hd hll hdl);rw[hq] at L1;rw[hr] at L2;replace RE:=Hd RE;have HH:=Hd H;have a12:w.cell? ⟨ga,12,none⟩=some (.int .i64 (i:Int)):=(Blk.cell H.a 12).trans (by simp[HAct.cells,hi]);clear H hx hq hr hy hl hyl hll hd hdl hbd hn;go_enter Try.func60,Try.ntmps60;go_wp2_with (fail);refine(RE.out _ XI).mono ?_;rintro e w1 ⟨rfl,m1,d1⟩;have H1:=Hd (HH.out.cell m1 d1);have D1:=Hd (d1.mono fun b _ h=>(.inr h:PT ga gm gc b));clear m1 d1 RE a12 HH;have c0:w1.cell? ⟨ga,16,none⟩=some (.int .i64 a.rh):=Blk.cell H1.out.a 16;have f0:w1.frozen? ⟨ga,16,none⟩=false:=Blk.free H1.out.a 16;obtain⟨q1,q2⟩:=H1.out.field 16 (.int .i64 y) (a':={ a with rh:=y }) rfl;have H2:=Hd q1;have D2:=Hd (D1.out.tr (q2.mono fun b _ h=>(.inl h:PT ga gm gc b)));clear q1 q2 D1 H1;go_upto_region 1 with(fail);clear c0 f0;generalize w1.setCell ⟨ga,16,none⟩ (.int .i64 y)=w2 at *;refine wp_region_any (by kernel_rfl) ?_
 change wpAny _ _ _ _ _ _ _ (World.drew _)
 have HH:=Hd (H2.out.ext (show Ext w2 w2.drew from(Ext.rf _).drew));have DD:=Hd (D2.out.tr (Mod.of_ext (show Ext w2 w2.drew from(Ext.rf _).drew)));clear H2 D2;generalize w2.drew=w3 at *;have k12:w3.cell? ⟨ga,12,none⟩=some (.int .i64 (i:Int)):=(Blk.cell HH.out.a 12).trans (by simp[HAct.cells,hi]);have k15:w3.cell? ⟨ga,15,none⟩=some (.int .i64 a.lh):=Blk.cell HH.out.a 15;refine Za (i:=0) (op:=Op.move (Operand.tmp 0)) (t:=46) (d:=some 14) (v:=_) rfl (by decide +kernel) (fun _ _ _ h=>h) (by intro _;unfold Zb;go_simp;try with_reducible rfl) ?_
 try simp only[lay]
 refine Za (i:=1) (op:=Op.move (Operand.tmp 0)) (t:=46) (d:=some 15) (v:=_) rfl (by decide +kernel) (fun _ _ _ h=>h) (by intro _;unfold Zb;go_simp;try with_reducible rfl) ?_
 try simp only[lay]
 refine Za (i:=2) (op:=Op.move (Operand.tmp 0)) (t:=46) (d:=some 16) (v:=_) rfl (by decide +kernel) (fun _ _ _ h=>h) (by intro _;unfold Zb;go_simp;try with_reducible rfl) ?_
 try simp only[lay]
 refine Za (i:=3) (op:=Op.nilCheck (Operand.tmp 16)) (t:=0) (d:=some 17) (v:=_) rfl (by decide +kernel) (fun _ _ _ h=>h) (by intro _;unfold Zb;go_simp;try with_reducible rfl) ?_
 try simp only[lay]
 refine Za (i:=4) (op:=Op.fieldAddr 85 (Operand.tmp 17) 12) (t:=0) (d:=some 18) (v:=_) rfl (by decide +kernel) (fun _ _ _ h=>h) (by intro _;unfold Zb;go_simp;try with_reducible rfl) ?_
 try simp only[lay]
 refine Za (i:=7) (op:=Op.move (Operand.tmp 0)) (t:=46) (d:=some 21) (v:=_) rfl (by decide +kernel) (fun _ _ _ h=>h) (by intro _;unfold Zb;go_simp;try with_reducible rfl) ?_
 try simp only[lay]
 refine Za (i:=8) (op:=Op.nilCheck (Operand.tmp 21)) (t:=0) (d:=some 22) (v:=_) rfl (by decide +kernel) (fun _ _ _ h=>h) (by intro _;unfold Zb;go_simp;try with_reducible rfl) ?_
 try simp only[lay]
 refine Za (i:=9) (op:=Op.fieldAddr 85 (Operand.tmp 22) 15) (t:=0) (d:=some 23) (v:=_) rfl (by decide +kernel) (fun _ _ _ h=>h) (by intro _;unfold Zb;go_simp;try with_reducible rfl) ?_
 try simp only[lay]
 refine Za (i:=10) (op:=Op.fieldAddr 83 (Operand.tmp 23) 0) (t:=0) (d:=some 24) (v:=_) rfl (by decide +kernel) (fun _ _ _ h=>h) (by intro _;unfold Zb;go_simp;try with_reducible rfl) ?_
 try simp only[lay]
 refine Zj (n:=8) [(5,some 19),(6,some 20),(11,some 25)] (fun | 5=>.int .i64 (i:Int) | 6=>.int .i64 (2*(i:Int)) | 11=>.int .i64 a.lh | _=>undef) #[true,true,true,true,true,true,true,true,true,true,true,true,false,false,false,false,false,false,false,false] (by decide +kernel) ?_ ?_
 ·intro pS hpm uS hD K hK
  simp only[List.mem_cons,List.not_mem_nil,or_false] at hpm;rcases hpm with rfl | rfl | rfl
  ·exact Ze (T:=3) (x:=Operand.tmp 18) (t:=3) (d:=some 19) rfl (.pointer (some ⟨ga,12,none⟩)) (by kernel_rfl) (.int .i64 (i:Int)) (by go_simp) hK
  ·(have e5:uS 5=.int .i64 (i:Int):=hD 5 (Zg (by kernel_rfl));exact Zm (op:=Op.binOp BinOp.mul 3 (Operand.const (Value.int IntKind.i64 2)) (Operand.tmp 19) 3) (t:=3) (d:=some 20) rfl (.int .i64 (2*(i:Int))) (by simp only[Zc,Act.put,List.setIfInBounds_toArray,List.set_cons_zero,List.set_cons_succ];unfold Zb;go_simp;try simp only[e5];try go_simp) hK)
  ·exact Ze (T:=3) (x:=Operand.tmp 24) (t:=3) (d:=some 25) rfl (.pointer (some ⟨ga,15,none⟩)) (by kernel_rfl) (.int .i64 a.lh) (by go_simp) hK
 simp only[Zc,Act.put,List.setIfInBounds_toArray,List.set_cons_zero,List.set_cons_succ];refine Za (i:=12) (op:=Op.nilCheck (Operand.tmp 14)) (t:=0) (d:=some 26) (v:=_) rfl (by decide +kernel) (fun _ _ _ h=>h) (by intro _;unfold Zb;go_simp;try with_reducible rfl) ?_
 try simp only[lay]
 refine Za (i:=13) (op:=Op.fieldAddr 85 (Operand.tmp 26) 15) (t:=0) (d:=some 27) (v:=_) rfl (by decide +kernel) (fun _ _ _ h=>h) (by intro _;unfold Zb;go_simp;try with_reducible rfl) ?_
 try simp only[lay]
 refine Za (i:=14) (op:=Op.fieldAddr 83 (Operand.tmp 27) 2) (t:=0) (d:=some 28) (v:=_) rfl (by decide +kernel) (fun _ _ _ h=>h) (by intro _;unfold Zb;go_simp;try with_reducible rfl) ?_
 try simp only[lay]
 have c7:w3.cell? ⟨ga,17,none⟩=some (.int .i64 (a.ch)):=Blk.cell HH.out.a 17;have f7:w3.frozen? ⟨ga,17,none⟩=false:=Blk.free HH.out.a 17;obtain⟨q1,q2⟩:=HW.field HH.out 17 (.int .i64 (2*(i:Int))) (a':={ a with rh:=y,ch:=2*(i:Int) }) rfl;have c8:(w3.setCell ⟨ga,17,none⟩ (.int .i64 (2*(i:Int)))).cell? ⟨ga,18,none⟩=some (.int .i64 (a.chh)):=Blk.cell q1.a 18;have f8:(w3.setCell ⟨ga,17,none⟩ (.int .i64 (2*(i:Int)))).frozen? ⟨ga,18,none⟩=false:=Blk.free q1.a 18;obtain⟨r1,r2⟩:=HW.field q1 18 (.int .i64 (a.lh)) (a':={ a with rh:=y,ch:=2*(i:Int),chh:=a.lh }) rfl;have H4:=Hd r1;have D4:=Hd (DD.out.tr ((q2.tr r2).mono fun b _ h=>(.inl h:PT ga gm gc b)));clear q1 q2 r1 r2 DD;refine Zd 15 (by decide +kernel) (ZQ rfl (.pointer (some ⟨ga,17,none⟩)) (.int .i64 (2*(i:Int))) (by kernel_rfl) (by kernel_rfl) (by go_simp;rfl) ?_)
 try simp only[lay]
 refine Za (i:=16) (op:=Op.nilCheck (Operand.tmp 15)) (t:=0) (d:=some 29) (v:=_) rfl (by decide +kernel) (fun _ _ _ h=>h) (by intro _;unfold Zb;go_simp;try with_reducible rfl) ?_
 try simp only[lay]
 refine Za (i:=17) (op:=Op.fieldAddr 85 (Operand.tmp 29) 15) (t:=0) (d:=some 30) (v:=_) rfl (by decide +kernel) (fun _ _ _ h=>h) (by intro _;unfold Zb;go_simp;try with_reducible rfl) ?_
 try simp only[lay]
 refine Za (i:=18) (op:=Op.fieldAddr 83 (Operand.tmp 30) 3) (t:=0) (d:=some 31) (v:=_) rfl (by decide +kernel) (fun _ _ _ h=>h) (by intro _;unfold Zb;go_simp;try with_reducible rfl) ?_
 try simp only[lay]
 refine Zd 19 (by decide +kernel) (ZQ rfl (.pointer (some ⟨ga,18,none⟩)) (.int .i64 a.lh) (by kernel_rfl) (by kernel_rfl) (by go_simp;rfl) ?_);refine wpAny_done (by kernel_rfl) ?_ _;go_simp;clear c7 f7 c8 f8 HH k12 k15;generalize (w3.setCell ⟨ga,17,none⟩ (.int .i64 (2*(i:Int)))).setCell ⟨ga,18,none⟩ (.int .i64 a.lh)=w4 at *;go_upto_region 2 with(fail);refine wp_region_any (by kernel_rfl) ?_
 change wpAny _ _ _ _ _ _ _ (World.drew _)
 have k0:w4.drew.cell? ⟨ga,0,none⟩=some (.pointer (some ⟨gh,0,none⟩)):=Blk.cell H4.out.a 0;have k16:w4.drew.cell? ⟨ga,16,none⟩=some (.int .i64 y):=Blk.cell H4.out.a 16;have k15:w4.drew.cell? ⟨ga,15,none⟩=some (.int .i64 a.lh):=Blk.cell H4.out.a 15;refine Za (i:=0) (op:=Op.move (Operand.tmp 0)) (t:=46) (d:=some 32) (v:=_) rfl (by decide +kernel) (fun _ _ _ h=>h) (by intro _;unfold Zb;go_simp;try with_reducible rfl) ?_
 try simp only[lay]
 refine Za (i:=1) (op:=Op.nilCheck (Operand.tmp 32)) (t:=0) (d:=some 33) (v:=_) rfl (by decide +kernel) (fun _ _ _ h=>h) (by intro _;unfold Zb;go_simp;try with_reducible rfl) ?_
 try simp only[lay]
 refine Za (i:=2) (op:=Op.fieldAddr 85 (Operand.tmp 33) 0) (t:=0) (d:=some 34) (v:=_) rfl (by decide +kernel) (fun _ _ _ h=>h) (by intro _;unfold Zb;go_simp;try with_reducible rfl) ?_
 try simp only[lay]
 refine Za (i:=4) (op:=Op.move (Operand.tmp 0)) (t:=46) (d:=some 36) (v:=_) rfl (by decide +kernel) (fun _ _ _ h=>h) (by intro _;unfold Zb;go_simp;try with_reducible rfl) ?_
 try simp only[lay]
 refine Za (i:=5) (op:=Op.nilCheck (Operand.tmp 36)) (t:=0) (d:=some 37) (v:=_) rfl (by decide +kernel) (fun _ _ _ h=>h) (by intro _;unfold Zb;go_simp;try with_reducible rfl) ?_
 try simp only[lay]
 refine Za (i:=6) (op:=Op.fieldAddr 85 (Operand.tmp 37) 15) (t:=0) (d:=some 38) (v:=_) rfl (by decide +kernel) (fun _ _ _ h=>h) (by intro _;unfold Zb;go_simp;try with_reducible rfl) ?_
 try simp only[lay]
 refine Za (i:=7) (op:=Op.fieldAddr 83 (Operand.tmp 38) 1) (t:=0) (d:=some 39) (v:=_) rfl (by decide +kernel) (fun _ _ _ h=>h) (by intro _;unfold Zb;go_simp;try with_reducible rfl) ?_
 try simp only[lay]
 refine Za (i:=9) (op:=Op.move (Operand.tmp 0)) (t:=46) (d:=some 41) (v:=_) rfl (by decide +kernel) (fun _ _ _ h=>h) (by intro _;unfold Zb;go_simp;try with_reducible rfl) ?_
 try simp only[lay]
 refine Za (i:=10) (op:=Op.nilCheck (Operand.tmp 41)) (t:=0) (d:=some 42) (v:=_) rfl (by decide +kernel) (fun _ _ _ h=>h) (by intro _;unfold Zb;go_simp;try with_reducible rfl) ?_
 try simp only[lay]
 refine Za (i:=11) (op:=Op.fieldAddr 85 (Operand.tmp 42) 15) (t:=0) (d:=some 43) (v:=_) rfl (by decide +kernel) (fun _ _ _ h=>h) (by intro _;unfold Zb;go_simp;try with_reducible rfl) ?_
 try simp only[lay]
 refine Za (i:=12) (op:=Op.fieldAddr 83 (Operand.tmp 43) 0) (t:=0) (d:=some 44) (v:=_) rfl (by decide +kernel) (fun _ _ _ h=>h) (by intro _;unfold Zb;go_simp;try with_reducible rfl) ?_
 try simp only[lay]
 refine Zj (n:=1) [(3,some 35),(8,some 40),(13,some 45)] (fun | 3=>.pointer (some ⟨gh,0,none⟩) | 8=>.int .i64 y | 13=>.int .i64 a.lh | _=>undef) #[true,true,true,true,true,true,true,true,true,true,true,true,true,true,false] (by decide +kernel) ?_ ?_
 ·intro pS hpm uS hD K hK
  simp only[List.mem_cons,List.not_mem_nil,or_false] at hpm;rcases hpm with rfl | rfl | rfl
  ·exact Ze (T:=32) (x:=Operand.tmp 34) (t:=32) (d:=some 35) rfl (.pointer (some ⟨ga,0,none⟩)) (by kernel_rfl) (.pointer (some ⟨gh,0,none⟩)) (by go_simp) hK
  ·exact Ze (T:=3) (x:=Operand.tmp 39) (t:=3) (d:=some 40) rfl (.pointer (some ⟨ga,16,none⟩)) (by kernel_rfl) (.int .i64 y) (by go_simp) hK
  ·exact Ze (T:=3) (x:=Operand.tmp 44) (t:=3) (d:=some 45) rfl (.pointer (some ⟨ga,15,none⟩)) (by kernel_rfl) (.int .i64 a.lh) (by go_simp) hK
 simp only[Zc,Act.put,List.setIfInBounds_toArray,List.set_cons_zero,List.set_cons_succ];refine Zd 14 (by decide +kernel) (Zh (f:=80) (xs:=#[Operand.tmp 35,Operand.tmp 40,Operand.tmp 45]) (ts:=#[32,3,3]) (t:=4) (d:=some 46) rfl #[.pointer (some ⟨gh,0,none⟩),.int .i64 y,.int .i64 a.lh] (by go_simp) (by kernel_rfl) _ (L1.out _ _ (H4.out.ext (Ext.rf _).drew)) ?_);rintro e w5 ⟨rfl,x5⟩;have H5:=Hd ((H4.out.ext (Ext.rf _).drew).ext x5);have D5:=Hd (D4.out.tr (Mod.of_ext (Ext.tr (Ext.rf w4).drew x5)));clear x5 L1 H4 D4 k0 k15 k16;refine⟨_,rfl,?_⟩
 try simp only[lay]
 refine wpAny_done (by kernel_rfl) ?_ _;go_simp;have H7:=H5;have D7:=D5;clear H5 D5;obtain⟨w7,rfl⟩:=Wq w5;go_upto_region 4 with(fail);refine wp_region_any (by kernel_rfl) ?_
 change wpAny _ _ _ _ _ _ _ (World.drew _)
 have k0:w7.drew.cell? ⟨ga,0,none⟩=some (.pointer (some ⟨gh,0,none⟩)):=Blk.cell H7.out.a 0;have k18:w7.drew.cell? ⟨ga,18,none⟩=some (.int .i64 a.lh):=Blk.cell H7.out.a 18;have k13:w7.drew.cell? ⟨ga,13,none⟩=some (.int .i64 a.hd):=Blk.cell H7.out.a 13;refine Za (i:=0) (op:=Op.move (Operand.tmp 0)) (t:=46) (d:=some 66) (v:=_) rfl (by decide +kernel) (fun _ _ _ h=>h) (by intro _;unfold Zb;go_simp;try with_reducible rfl) ?_
 try simp only[lay]
 refine Za (i:=1) (op:=Op.nilCheck (Operand.tmp 66)) (t:=0) (d:=some 67) (v:=_) rfl (by decide +kernel) (fun _ _ _ h=>h) (by intro _;unfold Zb;go_simp;try with_reducible rfl) ?_
 try simp only[lay]
 refine Za (i:=2) (op:=Op.fieldAddr 85 (Operand.tmp 67) 0) (t:=0) (d:=some 68) (v:=_) rfl (by decide +kernel) (fun _ _ _ h=>h) (by intro _;unfold Zb;go_simp;try with_reducible rfl) ?_
 try simp only[lay]
 refine Za (i:=4) (op:=Op.move (Operand.tmp 0)) (t:=46) (d:=some 70) (v:=_) rfl (by decide +kernel) (fun _ _ _ h=>h) (by intro _;unfold Zb;go_simp;try with_reducible rfl) ?_
 try simp only[lay]
 refine Za (i:=5) (op:=Op.nilCheck (Operand.tmp 70)) (t:=0) (d:=some 71) (v:=_) rfl (by decide +kernel) (fun _ _ _ h=>h) (by intro _;unfold Zb;go_simp;try with_reducible rfl) ?_
 try simp only[lay]
 refine Za (i:=6) (op:=Op.fieldAddr 85 (Operand.tmp 71) 15) (t:=0) (d:=some 72) (v:=_) rfl (by decide +kernel) (fun _ _ _ h=>h) (by intro _;unfold Zb;go_simp;try with_reducible rfl) ?_
 try simp only[lay]
 refine Za (i:=7) (op:=Op.fieldAddr 83 (Operand.tmp 72) 3) (t:=0) (d:=some 73) (v:=_) rfl (by decide +kernel) (fun _ _ _ h=>h) (by intro _;unfold Zb;go_simp;try with_reducible rfl) ?_
 try simp only[lay]
 refine Za (i:=9) (op:=Op.move (Operand.tmp 0)) (t:=46) (d:=some 75) (v:=_) rfl (by decide +kernel) (fun _ _ _ h=>h) (by intro _;unfold Zb;go_simp;try with_reducible rfl) ?_
 try simp only[lay]
 refine Za (i:=10) (op:=Op.nilCheck (Operand.tmp 75)) (t:=0) (d:=some 76) (v:=_) rfl (by decide +kernel) (fun _ _ _ h=>h) (by intro _;unfold Zb;go_simp;try with_reducible rfl) ?_
 try simp only[lay]
 refine Za (i:=11) (op:=Op.fieldAddr 85 (Operand.tmp 76) 13) (t:=0) (d:=some 77) (v:=_) rfl (by decide +kernel) (fun _ _ _ h=>h) (by intro _;unfold Zb;go_simp;try with_reducible rfl) ?_
 try simp only[lay]
 refine Zj (n:=2) [(3,some 69),(8,some 74),(12,some 78)] (fun | 3=>.pointer (some ⟨gh,0,none⟩) | 8=>.int .i64 a.lh | 12=>.int .i64 a.hd | _=>undef) #[true,true,true,true,true,true,true,true,true,true,true,true,true,false,false] (by decide +kernel) ?_ ?_
 ·intro pS hpm uS hD K hK
  simp only[List.mem_cons,List.not_mem_nil,or_false] at hpm;rcases hpm with rfl | rfl | rfl
  ·exact Ze (T:=32) (x:=Operand.tmp 68) (t:=32) (d:=some 69) rfl (.pointer (some ⟨ga,0,none⟩)) (by kernel_rfl) (.pointer (some ⟨gh,0,none⟩)) (by go_simp) hK
  ·exact Ze (T:=3) (x:=Operand.tmp 73) (t:=3) (d:=some 74) rfl (.pointer (some ⟨ga,18,none⟩)) (by kernel_rfl) (.int .i64 a.lh) (by go_simp) hK
  ·exact Ze (T:=3) (x:=Operand.tmp 77) (t:=3) (d:=some 78) rfl (.pointer (some ⟨ga,13,none⟩)) (by kernel_rfl) (.int .i64 a.hd) (by go_simp) hK
 simp only[Zc,Act.put,List.setIfInBounds_toArray,List.set_cons_zero,List.set_cons_succ];refine Zd 13 (by decide +kernel) (Zh (f:=80) (xs:=#[Operand.tmp 69,Operand.tmp 74,Operand.tmp 78]) (ts:=#[32,3,3]) (t:=4) (d:=some 79) rfl #[.pointer (some ⟨gh,0,none⟩),.int .i64 a.lh,.int .i64 a.hd] (by go_simp) (by kernel_rfl) _ (L2.out _ _ (H7.out.ext (Ext.rf _).drew)) ?_);rintro e w8 ⟨rfl,x8⟩;have H8:=Hd ((H7.out.ext (Ext.rf _).drew).ext x8);have D8:=Hd (D7.out.tr (Mod.of_ext (Ext.tr (Ext.rf w7).drew x8)));clear x8 L2 H7 D7 k0 k13 k18;refine⟨_,rfl,?_⟩
 try simp only[lay]
 refine Za (i:=14) (op:=Op.unOp UnOp.not 4 (Operand.tmp 79)) (t:=4) (d:=some 80) (v:=_) rfl (by decide +kernel) (fun _ _ _ h=>h) (by intro _;unfold Zb;go_simp;try with_reducible rfl) ?_
 try simp only[lay]
 refine wpAny_done (by kernel_rfl) ?_ _;go_simp;have c0:w8.cell? ⟨ga,1,none⟩=some (.int .i64 a.ph):=Blk.cell H8.out.a 1;have f0:w8.frozen? ⟨ga,1,none⟩=false:=Blk.free H8.out.a 1;obtain⟨q1,q2⟩:=H8.out.field 1 (.int .i64 10) (a':={ a with rh:=y,ch:=2*(i:Int),chh:=a.lh,ph:=10 }) rfl;have S1:=Hd q1;have S2:=Hd (D8.out.tr (q2.mono fun b _ h=>(.inl h:PT ga gm gc b)));clear q1 q2;go_wp2_with (fail);go_end0;exact⟨rfl,S1.out,S2.out⟩
theorem VN (bs gm gc gp gn go gh b lv ga:Nat)(M:List Int)(P:PoolS)(bd:Nat->Int)(a:HAct)(w:World)(H:HW w bs gm gc gp gn go gh b lv ga M P a)(hbd:PB P bd)(hn:P.n<=100000)(hb:b<=1048576)(i:Nat)(hi:a.pos=(i:Int))(h1:1<=i)(h2:i<=1048575)(y:Int)(hx:M[b+((2*i+1)-1)]?=some y)(hd:Zl a.hd)(hdl:pla a.hd<(P.n:Int))(hl:Zl a.lh)(hll:pla a.lh<(P.n:Int))(hy:Zl y)(hyl:pla y<(P.n:Int))(hs:0<=a.slot)(hq:ZR bd y a.lh=false)(hr:ZR bd a.lh a.hd=false) :
  Calls Try.prog 60 #[.pointer (some ⟨ga,0,none⟩)] w fun e w'=>e=.returned (.tuple #[])/\HW w' bs gm gc gp gn go gh b lv ga M P { a with rh:=y,ch:=2*(i:Int),chh:=a.lh,pos:=1,ph:=15 }/\Mod (PT ga gm gc) w w':=by
 have RE:=fun(W:World) (X:Ext w W)=>ZA gm gc gh b lv ga gp M W (H.ext X).h (H.ext X).m _ _ (H.ext X).a rfl hb (2*i+1) (by omega) (by omega) y hx
 rw[show ((2*i+1:Nat):Int)=2*(i:Int)+1 by omega] at RE;have wr1:IntKind.i64.wrap (2*(i:Int))=2*(i:Int):=IntWalk.i64_in _ (by omega);have wr2:IntKind.i64.wrap (2*(i:Int)+1)=2*(i:Int)+1:=IntWalk.i64_in _ (by omega);have L1:=Hd (fun(W:World) (a':HAct) (h:HW W bs gm gc gp gn go gh b lv ga M P a')=>ZS bs gm gc gp gn go gh b lv P bd W h.h h.p hbd hn y a.lh hy hl hyl hll);have L2:=Hd (fun(W:World) (a':HAct) (h:HW W bs gm gc gp gn go gh b lv ga M P a')=>ZS bs gm gc gp gn go gh b lv P bd W h.h h.p hbd hn a.lh a.hd hl hd hll hdl);rw[hq] at L1;rw[hr] at L2;replace RE:=Hd RE;have HH:=Hd H;have a12:w.cell? ⟨ga,12,none⟩=some (.int .i64 (i:Int)):=(Blk.cell H.a 12).trans (by simp[HAct.cells,hi]);clear H hx hq hr hy hl hyl hll hd hdl hbd hn;go_enter Try.func60,Try.ntmps60;go_wp2_with (fail);refine(RE.out _ XI).mono ?_;rintro e w1 ⟨rfl,m1,d1⟩;have H1:=Hd (HH.out.cell m1 d1);have D1:=Hd (d1.mono fun b _ h=>(.inr h:PT ga gm gc b));clear m1 d1 RE a12 HH;have c0:w1.cell? ⟨ga,16,none⟩=some (.int .i64 a.rh):=Blk.cell H1.out.a 16;have f0:w1.frozen? ⟨ga,16,none⟩=false:=Blk.free H1.out.a 16;obtain⟨q1,q2⟩:=H1.out.field 16 (.int .i64 y) (a':={ a with rh:=y }) rfl;have H2:=Hd q1;have D2:=Hd (D1.out.tr (q2.mono fun b _ h=>(.inl h:PT ga gm gc b)));clear q1 q2 D1 H1;go_upto_region 1 with(fail);clear c0 f0;generalize w1.setCell ⟨ga,16,none⟩ (.int .i64 y)=w2 at *;refine wp_region_any (by kernel_rfl) ?_
 change wpAny _ _ _ _ _ _ _ (World.drew _)
 have HH:=Hd (H2.out.ext (show Ext w2 w2.drew from(Ext.rf _).drew));have DD:=Hd (D2.out.tr (Mod.of_ext (show Ext w2 w2.drew from(Ext.rf _).drew)));clear H2 D2;generalize w2.drew=w3 at *;have k12:w3.cell? ⟨ga,12,none⟩=some (.int .i64 (i:Int)):=(Blk.cell HH.out.a 12).trans (by simp[HAct.cells,hi]);have k15:w3.cell? ⟨ga,15,none⟩=some (.int .i64 a.lh):=Blk.cell HH.out.a 15;refine Za (i:=0) (op:=Op.move (Operand.tmp 0)) (t:=46) (d:=some 14) (v:=_) rfl (by decide +kernel) (fun _ _ _ h=>h) (by intro _;unfold Zb;go_simp;try with_reducible rfl) ?_
 try simp only[lay]
 refine Za (i:=1) (op:=Op.move (Operand.tmp 0)) (t:=46) (d:=some 15) (v:=_) rfl (by decide +kernel) (fun _ _ _ h=>h) (by intro _;unfold Zb;go_simp;try with_reducible rfl) ?_
 try simp only[lay]
 refine Za (i:=2) (op:=Op.move (Operand.tmp 0)) (t:=46) (d:=some 16) (v:=_) rfl (by decide +kernel) (fun _ _ _ h=>h) (by intro _;unfold Zb;go_simp;try with_reducible rfl) ?_
 try simp only[lay]
 refine Za (i:=3) (op:=Op.nilCheck (Operand.tmp 16)) (t:=0) (d:=some 17) (v:=_) rfl (by decide +kernel) (fun _ _ _ h=>h) (by intro _;unfold Zb;go_simp;try with_reducible rfl) ?_
 try simp only[lay]
 refine Za (i:=4) (op:=Op.fieldAddr 85 (Operand.tmp 17) 12) (t:=0) (d:=some 18) (v:=_) rfl (by decide +kernel) (fun _ _ _ h=>h) (by intro _;unfold Zb;go_simp;try with_reducible rfl) ?_
 try simp only[lay]
 refine Za (i:=7) (op:=Op.move (Operand.tmp 0)) (t:=46) (d:=some 21) (v:=_) rfl (by decide +kernel) (fun _ _ _ h=>h) (by intro _;unfold Zb;go_simp;try with_reducible rfl) ?_
 try simp only[lay]
 refine Za (i:=8) (op:=Op.nilCheck (Operand.tmp 21)) (t:=0) (d:=some 22) (v:=_) rfl (by decide +kernel) (fun _ _ _ h=>h) (by intro _;unfold Zb;go_simp;try with_reducible rfl) ?_
 try simp only[lay]
 refine Za (i:=9) (op:=Op.fieldAddr 85 (Operand.tmp 22) 15) (t:=0) (d:=some 23) (v:=_) rfl (by decide +kernel) (fun _ _ _ h=>h) (by intro _;unfold Zb;go_simp;try with_reducible rfl) ?_
 try simp only[lay]
 refine Za (i:=10) (op:=Op.fieldAddr 83 (Operand.tmp 23) 0) (t:=0) (d:=some 24) (v:=_) rfl (by decide +kernel) (fun _ _ _ h=>h) (by intro _;unfold Zb;go_simp;try with_reducible rfl) ?_
 try simp only[lay]
 refine Zj (n:=8) [(5,some 19),(6,some 20),(11,some 25)] (fun | 5=>.int .i64 (i:Int) | 6=>.int .i64 (2*(i:Int)) | 11=>.int .i64 a.lh | _=>undef) #[true,true,true,true,true,true,true,true,true,true,true,true,false,false,false,false,false,false,false,false] (by decide +kernel) ?_ ?_
 ·intro pS hpm uS hD K hK
  simp only[List.mem_cons,List.not_mem_nil,or_false] at hpm;rcases hpm with rfl | rfl | rfl
  ·exact Ze (T:=3) (x:=Operand.tmp 18) (t:=3) (d:=some 19) rfl (.pointer (some ⟨ga,12,none⟩)) (by kernel_rfl) (.int .i64 (i:Int)) (by go_simp) hK
  ·(have e5:uS 5=.int .i64 (i:Int):=hD 5 (Zg (by kernel_rfl));exact Zm (op:=Op.binOp BinOp.mul 3 (Operand.const (Value.int IntKind.i64 2)) (Operand.tmp 19) 3) (t:=3) (d:=some 20) rfl (.int .i64 (2*(i:Int))) (by simp only[Zc,Act.put,List.setIfInBounds_toArray,List.set_cons_zero,List.set_cons_succ];unfold Zb;go_simp;try simp only[e5];try go_simp) hK)
  ·exact Ze (T:=3) (x:=Operand.tmp 24) (t:=3) (d:=some 25) rfl (.pointer (some ⟨ga,15,none⟩)) (by kernel_rfl) (.int .i64 a.lh) (by go_simp) hK
 simp only[Zc,Act.put,List.setIfInBounds_toArray,List.set_cons_zero,List.set_cons_succ];refine Za (i:=12) (op:=Op.nilCheck (Operand.tmp 14)) (t:=0) (d:=some 26) (v:=_) rfl (by decide +kernel) (fun _ _ _ h=>h) (by intro _;unfold Zb;go_simp;try with_reducible rfl) ?_
 try simp only[lay]
 refine Za (i:=13) (op:=Op.fieldAddr 85 (Operand.tmp 26) 15) (t:=0) (d:=some 27) (v:=_) rfl (by decide +kernel) (fun _ _ _ h=>h) (by intro _;unfold Zb;go_simp;try with_reducible rfl) ?_
 try simp only[lay]
 refine Za (i:=14) (op:=Op.fieldAddr 83 (Operand.tmp 27) 2) (t:=0) (d:=some 28) (v:=_) rfl (by decide +kernel) (fun _ _ _ h=>h) (by intro _;unfold Zb;go_simp;try with_reducible rfl) ?_
 try simp only[lay]
 have c7:w3.cell? ⟨ga,17,none⟩=some (.int .i64 (a.ch)):=Blk.cell HH.out.a 17;have f7:w3.frozen? ⟨ga,17,none⟩=false:=Blk.free HH.out.a 17;obtain⟨q1,q2⟩:=HW.field HH.out 17 (.int .i64 (2*(i:Int))) (a':={ a with rh:=y,ch:=2*(i:Int) }) rfl;have c8:(w3.setCell ⟨ga,17,none⟩ (.int .i64 (2*(i:Int)))).cell? ⟨ga,18,none⟩=some (.int .i64 (a.chh)):=Blk.cell q1.a 18;have f8:(w3.setCell ⟨ga,17,none⟩ (.int .i64 (2*(i:Int)))).frozen? ⟨ga,18,none⟩=false:=Blk.free q1.a 18;obtain⟨r1,r2⟩:=HW.field q1 18 (.int .i64 (a.lh)) (a':={ a with rh:=y,ch:=2*(i:Int),chh:=a.lh }) rfl;have H4:=Hd r1;have D4:=Hd (DD.out.tr ((q2.tr r2).mono fun b _ h=>(.inl h:PT ga gm gc b)));clear q1 q2 r1 r2 DD;refine Zd 15 (by decide +kernel) (ZQ rfl (.pointer (some ⟨ga,17,none⟩)) (.int .i64 (2*(i:Int))) (by kernel_rfl) (by kernel_rfl) (by go_simp;rfl) ?_)
 try simp only[lay]
 refine Za (i:=16) (op:=Op.nilCheck (Operand.tmp 15)) (t:=0) (d:=some 29) (v:=_) rfl (by decide +kernel) (fun _ _ _ h=>h) (by intro _;unfold Zb;go_simp;try with_reducible rfl) ?_
 try simp only[lay]
 refine Za (i:=17) (op:=Op.fieldAddr 85 (Operand.tmp 29) 15) (t:=0) (d:=some 30) (v:=_) rfl (by decide +kernel) (fun _ _ _ h=>h) (by intro _;unfold Zb;go_simp;try with_reducible rfl) ?_
 try simp only[lay]
 refine Za (i:=18) (op:=Op.fieldAddr 83 (Operand.tmp 30) 3) (t:=0) (d:=some 31) (v:=_) rfl (by decide +kernel) (fun _ _ _ h=>h) (by intro _;unfold Zb;go_simp;try with_reducible rfl) ?_
 try simp only[lay]
 refine Zd 19 (by decide +kernel) (ZQ rfl (.pointer (some ⟨ga,18,none⟩)) (.int .i64 a.lh) (by kernel_rfl) (by kernel_rfl) (by go_simp;rfl) ?_);refine wpAny_done (by kernel_rfl) ?_ _;go_simp;clear c7 f7 c8 f8 HH k12 k15;generalize (w3.setCell ⟨ga,17,none⟩ (.int .i64 (2*(i:Int)))).setCell ⟨ga,18,none⟩ (.int .i64 a.lh)=w4 at *;go_upto_region 2 with(fail);refine wp_region_any (by kernel_rfl) ?_
 change wpAny _ _ _ _ _ _ _ (World.drew _)
 have k0:w4.drew.cell? ⟨ga,0,none⟩=some (.pointer (some ⟨gh,0,none⟩)):=Blk.cell H4.out.a 0;have k16:w4.drew.cell? ⟨ga,16,none⟩=some (.int .i64 y):=Blk.cell H4.out.a 16;have k15:w4.drew.cell? ⟨ga,15,none⟩=some (.int .i64 a.lh):=Blk.cell H4.out.a 15;refine Za (i:=0) (op:=Op.move (Operand.tmp 0)) (t:=46) (d:=some 32) (v:=_) rfl (by decide +kernel) (fun _ _ _ h=>h) (by intro _;unfold Zb;go_simp;try with_reducible rfl) ?_
 try simp only[lay]
 refine Za (i:=1) (op:=Op.nilCheck (Operand.tmp 32)) (t:=0) (d:=some 33) (v:=_) rfl (by decide +kernel) (fun _ _ _ h=>h) (by intro _;unfold Zb;go_simp;try with_reducible rfl) ?_
 try simp only[lay]
 refine Za (i:=2) (op:=Op.fieldAddr 85 (Operand.tmp 33) 0) (t:=0) (d:=some 34) (v:=_) rfl (by decide +kernel) (fun _ _ _ h=>h) (by intro _;unfold Zb;go_simp;try with_reducible rfl) ?_
 try simp only[lay]
 refine Za (i:=4) (op:=Op.move (Operand.tmp 0)) (t:=46) (d:=some 36) (v:=_) rfl (by decide +kernel) (fun _ _ _ h=>h) (by intro _;unfold Zb;go_simp;try with_reducible rfl) ?_
 try simp only[lay]
 refine Za (i:=5) (op:=Op.nilCheck (Operand.tmp 36)) (t:=0) (d:=some 37) (v:=_) rfl (by decide +kernel) (fun _ _ _ h=>h) (by intro _;unfold Zb;go_simp;try with_reducible rfl) ?_
 try simp only[lay]
 refine Za (i:=6) (op:=Op.fieldAddr 85 (Operand.tmp 37) 15) (t:=0) (d:=some 38) (v:=_) rfl (by decide +kernel) (fun _ _ _ h=>h) (by intro _;unfold Zb;go_simp;try with_reducible rfl) ?_
 try simp only[lay]
 refine Za (i:=7) (op:=Op.fieldAddr 83 (Operand.tmp 38) 1) (t:=0) (d:=some 39) (v:=_) rfl (by decide +kernel) (fun _ _ _ h=>h) (by intro _;unfold Zb;go_simp;try with_reducible rfl) ?_
 try simp only[lay]
 refine Za (i:=9) (op:=Op.move (Operand.tmp 0)) (t:=46) (d:=some 41) (v:=_) rfl (by decide +kernel) (fun _ _ _ h=>h) (by intro _;unfold Zb;go_simp;try with_reducible rfl) ?_
 try simp only[lay]
 refine Za (i:=10) (op:=Op.nilCheck (Operand.tmp 41)) (t:=0) (d:=some 42) (v:=_) rfl (by decide +kernel) (fun _ _ _ h=>h) (by intro _;unfold Zb;go_simp;try with_reducible rfl) ?_
 try simp only[lay]
 refine Za (i:=11) (op:=Op.fieldAddr 85 (Operand.tmp 42) 15) (t:=0) (d:=some 43) (v:=_) rfl (by decide +kernel) (fun _ _ _ h=>h) (by intro _;unfold Zb;go_simp;try with_reducible rfl) ?_
 try simp only[lay]
 refine Za (i:=12) (op:=Op.fieldAddr 83 (Operand.tmp 43) 0) (t:=0) (d:=some 44) (v:=_) rfl (by decide +kernel) (fun _ _ _ h=>h) (by intro _;unfold Zb;go_simp;try with_reducible rfl) ?_
 try simp only[lay]
 refine Zj (n:=1) [(3,some 35),(8,some 40),(13,some 45)] (fun | 3=>.pointer (some ⟨gh,0,none⟩) | 8=>.int .i64 y | 13=>.int .i64 a.lh | _=>undef) #[true,true,true,true,true,true,true,true,true,true,true,true,true,true,false] (by decide +kernel) ?_ ?_
 ·intro pS hpm uS hD K hK
  simp only[List.mem_cons,List.not_mem_nil,or_false] at hpm;rcases hpm with rfl | rfl | rfl
  ·exact Ze (T:=32) (x:=Operand.tmp 34) (t:=32) (d:=some 35) rfl (.pointer (some ⟨ga,0,none⟩)) (by kernel_rfl) (.pointer (some ⟨gh,0,none⟩)) (by go_simp) hK
  ·exact Ze (T:=3) (x:=Operand.tmp 39) (t:=3) (d:=some 40) rfl (.pointer (some ⟨ga,16,none⟩)) (by kernel_rfl) (.int .i64 y) (by go_simp) hK
  ·exact Ze (T:=3) (x:=Operand.tmp 44) (t:=3) (d:=some 45) rfl (.pointer (some ⟨ga,15,none⟩)) (by kernel_rfl) (.int .i64 a.lh) (by go_simp) hK
 simp only[Zc,Act.put,List.setIfInBounds_toArray,List.set_cons_zero,List.set_cons_succ];refine Zd 14 (by decide +kernel) (Zh (f:=80) (xs:=#[Operand.tmp 35,Operand.tmp 40,Operand.tmp 45]) (ts:=#[32,3,3]) (t:=4) (d:=some 46) rfl #[.pointer (some ⟨gh,0,none⟩),.int .i64 y,.int .i64 a.lh] (by go_simp) (by kernel_rfl) _ (L1.out _ _ (H4.out.ext (Ext.rf _).drew)) ?_);rintro e w5 ⟨rfl,x5⟩;have H5:=Hd ((H4.out.ext (Ext.rf _).drew).ext x5);have D5:=Hd (D4.out.tr (Mod.of_ext (Ext.tr (Ext.rf w4).drew x5)));clear x5 L1 H4 D4 k0 k15 k16;refine⟨_,rfl,?_⟩
 try simp only[lay]
 refine wpAny_done (by kernel_rfl) ?_ _;go_simp;have H7:=H5;have D7:=D5;clear H5 D5;obtain⟨w7,rfl⟩:=Wq w5;go_upto_region 4 with(fail);refine wp_region_any (by kernel_rfl) ?_
 change wpAny _ _ _ _ _ _ _ (World.drew _)
 have k0:w7.drew.cell? ⟨ga,0,none⟩=some (.pointer (some ⟨gh,0,none⟩)):=Blk.cell H7.out.a 0;have k18:w7.drew.cell? ⟨ga,18,none⟩=some (.int .i64 a.lh):=Blk.cell H7.out.a 18;have k13:w7.drew.cell? ⟨ga,13,none⟩=some (.int .i64 a.hd):=Blk.cell H7.out.a 13;refine Za (i:=0) (op:=Op.move (Operand.tmp 0)) (t:=46) (d:=some 66) (v:=_) rfl (by decide +kernel) (fun _ _ _ h=>h) (by intro _;unfold Zb;go_simp;try with_reducible rfl) ?_
 try simp only[lay]
 refine Za (i:=1) (op:=Op.nilCheck (Operand.tmp 66)) (t:=0) (d:=some 67) (v:=_) rfl (by decide +kernel) (fun _ _ _ h=>h) (by intro _;unfold Zb;go_simp;try with_reducible rfl) ?_
 try simp only[lay]
 refine Za (i:=2) (op:=Op.fieldAddr 85 (Operand.tmp 67) 0) (t:=0) (d:=some 68) (v:=_) rfl (by decide +kernel) (fun _ _ _ h=>h) (by intro _;unfold Zb;go_simp;try with_reducible rfl) ?_
 try simp only[lay]
 refine Za (i:=4) (op:=Op.move (Operand.tmp 0)) (t:=46) (d:=some 70) (v:=_) rfl (by decide +kernel) (fun _ _ _ h=>h) (by intro _;unfold Zb;go_simp;try with_reducible rfl) ?_
 try simp only[lay]
 refine Za (i:=5) (op:=Op.nilCheck (Operand.tmp 70)) (t:=0) (d:=some 71) (v:=_) rfl (by decide +kernel) (fun _ _ _ h=>h) (by intro _;unfold Zb;go_simp;try with_reducible rfl) ?_
 try simp only[lay]
 refine Za (i:=6) (op:=Op.fieldAddr 85 (Operand.tmp 71) 15) (t:=0) (d:=some 72) (v:=_) rfl (by decide +kernel) (fun _ _ _ h=>h) (by intro _;unfold Zb;go_simp;try with_reducible rfl) ?_
 try simp only[lay]
 refine Za (i:=7) (op:=Op.fieldAddr 83 (Operand.tmp 72) 3) (t:=0) (d:=some 73) (v:=_) rfl (by decide +kernel) (fun _ _ _ h=>h) (by intro _;unfold Zb;go_simp;try with_reducible rfl) ?_
 try simp only[lay]
 refine Za (i:=9) (op:=Op.move (Operand.tmp 0)) (t:=46) (d:=some 75) (v:=_) rfl (by decide +kernel) (fun _ _ _ h=>h) (by intro _;unfold Zb;go_simp;try with_reducible rfl) ?_
 try simp only[lay]
 refine Za (i:=10) (op:=Op.nilCheck (Operand.tmp 75)) (t:=0) (d:=some 76) (v:=_) rfl (by decide +kernel) (fun _ _ _ h=>h) (by intro _;unfold Zb;go_simp;try with_reducible rfl) ?_
 try simp only[lay]
 refine Za (i:=11) (op:=Op.fieldAddr 85 (Operand.tmp 76) 13) (t:=0) (d:=some 77) (v:=_) rfl (by decide +kernel) (fun _ _ _ h=>h) (by intro _;unfold Zb;go_simp;try with_reducible rfl) ?_
 try simp only[lay]
 refine Zj (n:=2) [(3,some 69),(8,some 74),(12,some 78)] (fun | 3=>.pointer (some ⟨gh,0,none⟩) | 8=>.int .i64 a.lh | 12=>.int .i64 a.hd | _=>undef) #[true,true,true,true,true,true,true,true,true,true,true,true,true,false,false] (by decide +kernel) ?_ ?_
 ·intro pS hpm uS hD K hK
  simp only[List.mem_cons,List.not_mem_nil,or_false] at hpm;rcases hpm with rfl | rfl | rfl
  ·exact Ze (T:=32) (x:=Operand.tmp 68) (t:=32) (d:=some 69) rfl (.pointer (some ⟨ga,0,none⟩)) (by kernel_rfl) (.pointer (some ⟨gh,0,none⟩)) (by go_simp) hK
  ·exact Ze (T:=3) (x:=Operand.tmp 73) (t:=3) (d:=some 74) rfl (.pointer (some ⟨ga,18,none⟩)) (by kernel_rfl) (.int .i64 a.lh) (by go_simp) hK
  ·exact Ze (T:=3) (x:=Operand.tmp 77) (t:=3) (d:=some 78) rfl (.pointer (some ⟨ga,13,none⟩)) (by kernel_rfl) (.int .i64 a.hd) (by go_simp) hK
 simp only[Zc,Act.put,List.setIfInBounds_toArray,List.set_cons_zero,List.set_cons_succ];refine Zd 13 (by decide +kernel) (Zh (f:=80) (xs:=#[Operand.tmp 69,Operand.tmp 74,Operand.tmp 78]) (ts:=#[32,3,3]) (t:=4) (d:=some 79) rfl #[.pointer (some ⟨gh,0,none⟩),.int .i64 a.lh,.int .i64 a.hd] (by go_simp) (by kernel_rfl) _ (L2.out _ _ (H7.out.ext (Ext.rf _).drew)) ?_);rintro e w8 ⟨rfl,x8⟩;have H8:=Hd ((H7.out.ext (Ext.rf _).drew).ext x8);have D8:=Hd (D7.out.tr (Mod.of_ext (Ext.tr (Ext.rf w7).drew x8)));clear x8 L2 H7 D7 k0 k13 k18;refine⟨_,rfl,?_⟩
 try simp only[lay]
 refine Za (i:=14) (op:=Op.unOp UnOp.not 4 (Operand.tmp 79)) (t:=4) (d:=some 80) (v:=_) rfl (by decide +kernel) (fun _ _ _ h=>h) (by intro _;unfold Zb;go_simp;try with_reducible rfl) ?_
 try simp only[lay]
 refine wpAny_done (by kernel_rfl) ?_ _;go_simp;have TI:=Hd (fun(W:World) (X:Ext w8 W)=>YA bs gm gc gp gn go gh b lv ga M P { a with rh:=y,ch:=2*(i:Int),chh:=a.lh } W (H8.out.ext X) hs);go_wp2_with (fail);refine(TI.out _ XI).mono ?_;rintro e w9 ⟨rfl,h9,d9⟩;have H9:=Hd h9;have D9:=Hd (D8.out.tr (Mod.tr (Mod.of_ext (S:=PT ga gm gc) (show Ext w8 _ from XI)) (d9.mono fun b _ h=>(.inl h:PT ga gm gc b))));clear h9 d9 TI;go_wp2_with (fail);exact bodyPost_ret (results_none rfl _ _ _) rfl ⟨rfl,H9.out,D9.out⟩
theorem VO (bs gm gc gp gn go gh b lv ga:Nat)(M:List Int)(P:PoolS)(a:HAct)(w:World)(H:HW w bs gm gc gp gn go gh b lv ga M P a)(hb:b<=1048576)(hl:lv<=20)(ht:Zl a.hd)(s:Nat)(hs:a.slot=(s:Int))(hs2:s<=100000)(hi:b+(2^lv-1)+s<M.length) :
  Calls Try.prog 53 #[.pointer (some ⟨ga,0,none⟩)] w fun e w'=>e=.returned (.tuple #[])/\HW w' bs gm gc gp gn go gh b lv ga (M.set (b+(2^lv-1)+s) (pla a.hd)) P { a with ph:=3 }/\Mod (PT ga gm gc) w w':=by
 have LI:=Hd (fun(W:World) (X:Ext w W)=>XS gh gm gp b lv W (H.ext X).h hl s hs2 hb);have ST:=Hd (fun(W:World) (h:MemB W gm gc M)=>YD gm gc M (b+(2^lv-1)+s) (pla a.hd) W h hi);have UN:=Hd (fun(W:World)=>Zn a.hd W ht);have HH:=Hd H;have k13:w.cell? ⟨ga,13,none⟩=some (.int .i64 a.hd):=Blk.cell H.a 13;clear H hi;generalize b+(2^lv-1)+s=q at *;obtain⟨pc,hpc⟩:∃ pc,pla a.hd=pc:=⟨_,rfl⟩;rw[hpc] at ST UN ⊢;replace hpc:=Hd hpc;go_enter Try.func53,Try.ntmps53;go_wp2_with (fail);refine(UN.out _).mono ?_;rintro e w1 ⟨rfl,x1⟩;have X1:=Hd (Ext.tr (a:=w) XI x1);have H1:=Hd (HH.out.ext X1.out);clear x1 UN k13;have k0:w1.cell? ⟨ga,0,none⟩=some (.pointer (some ⟨gh,0,none⟩)):=Blk.cell H1.out.a 0;have k2:w1.cell? ⟨ga,2,none⟩=some (.int .i64 (s:Int)):=(Blk.cell H1.out.a 2).trans (by simp[HAct.cells,hs]);have h0:w1.cell? ⟨gh,0,none⟩=some (.pointer (some ⟨gm,0,none⟩)):=Blk.cell H1.out.h 0;have za:=Blk.lt H1.out.a;have zh:=Blk.lt H1.out.h;go_upto_region 1 with(fail);refine wp_region_any (by kernel_rfl) ?_
 change wpAny _ _ _ _ _ _ _ (World.drew _)
 refine Za (i:=0) (op:=Op.move (Operand.tmp 0)) (t:=46) (d:=some 12) (v:=_) rfl (by decide +kernel) (fun _ _ _ h=>h) (by intro _;unfold Zb;go_simp;try with_reducible rfl) ?_
 try simp only[lay]
 refine Za (i:=1) (op:=Op.nilCheck (Operand.tmp 12)) (t:=0) (d:=some 13) (v:=_) rfl (by decide +kernel) (fun _ _ _ h=>h) (by intro _;unfold Zb;go_simp;try with_reducible rfl) ?_
 try simp only[lay]
 refine Za (i:=2) (op:=Op.fieldAddr 85 (Operand.tmp 13) 0) (t:=0) (d:=some 14) (v:=_) rfl (by decide +kernel) (fun _ _ _ h=>h) (by intro _;unfold Zb;go_simp;try with_reducible rfl) ?_
 try simp only[lay]
 refine Za (i:=7) (op:=Op.move (Operand.tmp 0)) (t:=46) (d:=some 19) (v:=_) rfl (by decide +kernel) (fun _ _ _ h=>h) (by intro _;unfold Zb;go_simp;try with_reducible rfl) ?_
 try simp only[lay]
 refine Za (i:=8) (op:=Op.nilCheck (Operand.tmp 19)) (t:=0) (d:=some 20) (v:=_) rfl (by decide +kernel) (fun _ _ _ h=>h) (by intro _;unfold Zb;go_simp;try with_reducible rfl) ?_
 try simp only[lay]
 refine Za (i:=9) (op:=Op.fieldAddr 85 (Operand.tmp 20) 0) (t:=0) (d:=some 21) (v:=_) rfl (by decide +kernel) (fun _ _ _ h=>h) (by intro _;unfold Zb;go_simp;try with_reducible rfl) ?_
 try simp only[lay]
 refine Za (i:=11) (op:=Op.move (Operand.tmp 0)) (t:=46) (d:=some 23) (v:=_) rfl (by decide +kernel) (fun _ _ _ h=>h) (by intro _;unfold Zb;go_simp;try with_reducible rfl) ?_
 try simp only[lay]
 refine Za (i:=12) (op:=Op.nilCheck (Operand.tmp 23)) (t:=0) (d:=some 24) (v:=_) rfl (by decide +kernel) (fun _ _ _ h=>h) (by intro _;unfold Zb;go_simp;try with_reducible rfl) ?_
 try simp only[lay]
 refine Za (i:=13) (op:=Op.fieldAddr 85 (Operand.tmp 24) 2) (t:=0) (d:=some 25) (v:=_) rfl (by decide +kernel) (fun _ _ _ h=>h) (by intro _;unfold Zb;go_simp;try with_reducible rfl) ?_
 try simp only[lay]
 refine Za (i:=16) (op:=Op.move (Operand.tmp 3)) (t:=3) (d:=some 28) (v:=_) rfl (by decide +kernel) (fun _ _ _ h=>h) (by intro _;unfold Zb;go_simp;try with_reducible rfl) ?_
 try simp only[lay]
 refine Zi (n:=1) [(3,some 15),(4,some 16),(5,some 17),(6,some 18),(10,some 22),(14,some 26),(15,some 27)] (Ext w1) (VF (fun | 3=>some (.pointer (some ⟨gh,0,none⟩)) | 4=>some (.pointer (some ⟨gh,0,none⟩)) | 5=>some (.pointer (some ⟨gh,0,none⟩)) | 6=>some (.pointer (some ⟨gm,0,none⟩)) | 10=>some (.pointer (some ⟨gh,0,none⟩)) | 14=>some (.int .i64 (s:Int)) | 15=>some (.int .i64 (q:Int)) | _=>none) (fun i v W=>True)) Ext #[true,true,true,true,true,true,true,true,true,true,true,true,true,true,true,true,true,false] (by decide +kernel) (VF.stab ?_) ?_ ?_ (by first | exact(Ext.rf _).drew | exact Ext.rf _)
 ·intro j v W W' _ _ _;trivial
 ·intro pS hpm uS wS hRW hD K hK
  simp only[List.mem_cons,List.not_mem_nil,or_false] at hpm;rcases hpm with rfl | rfl | rfl | rfl | rfl | rfl | rfl
  ·( have rX:=Zf hRW za k0;exact Ze (T:=32) (x:=Operand.tmp 14) (t:=32) (d:=some 15) rfl (.pointer (some ⟨ga,0,none⟩)) (by kernel_rfl) (.pointer (some ⟨gh,0,none⟩)) (by go_simp) (hK _ _ (VF.mk rfl) hRW (Ext.rf _)))
  ·(have e3:uS 3=.pointer (some ⟨gh,0,none⟩):=(hD 3 (Zg (by kernel_rfl))).k rfl;exact Zm (op:=Op.nilCheck (Operand.tmp 15)) (t:=0) (d:=some 16) rfl (.pointer (some ⟨gh,0,none⟩)) (by simp only[Zc,Act.put,List.setIfInBounds_toArray,List.set_cons_zero,List.set_cons_succ];unfold Zb;(try go_simp);(try simp only[e3]);(try go_simp);(try rfl);(try (exact IntWalk.i64_in _ (by omega)))) (hK _ _ (VF.mk rfl) hRW (Ext.rf _)))
  ·(have e4:uS 4=.pointer (some ⟨gh,0,none⟩):=(hD 4 (Zg (by kernel_rfl))).k rfl;exact Zm (op:=Op.fieldAddr 69 (Operand.tmp 16) 0) (t:=0) (d:=some 17) rfl (.pointer (some ⟨gh,0,none⟩)) (by simp only[Zc,Act.put,List.setIfInBounds_toArray,List.set_cons_zero,List.set_cons_succ];unfold Zb;(try go_simp);(try simp only[e4]);(try go_simp);(try rfl);(try (exact IntWalk.i64_in _ (by omega)))) (hK _ _ (VF.mk rfl) hRW (Ext.rf _)))
  ·(have e5:uS 5=.pointer (some ⟨gh,0,none⟩):=(hD 5 (Zg (by kernel_rfl))).k rfl;have rX:=Zf hRW zh h0;exact Ze (T:=24) (x:=Operand.tmp 17) (t:=24) (d:=some 18) rfl (.pointer (some ⟨gh,0,none⟩)) (Eq.trans (b:=uS 5) (by kernel_rfl) e5) (.pointer (some ⟨gm,0,none⟩)) (by go_simp) (hK _ _ (VF.mk rfl) hRW (Ext.rf _)))
  ·( have rX:=Zf hRW za k0;exact Ze (T:=32) (x:=Operand.tmp 21) (t:=32) (d:=some 22) rfl (.pointer (some ⟨ga,0,none⟩)) (by kernel_rfl) (.pointer (some ⟨gh,0,none⟩)) (by go_simp) (hK _ _ (VF.mk rfl) hRW (Ext.rf _)))
  ·( have rX:=Zf hRW za k2;exact Ze (T:=3) (x:=Operand.tmp 25) (t:=3) (d:=some 26) rfl (.pointer (some ⟨ga,2,none⟩)) (by kernel_rfl) (.int .i64 (s:Int)) (by go_simp) (hK _ _ (VF.mk rfl) hRW (Ext.rf _)))
  ·(have e10:uS 10=.pointer (some ⟨gh,0,none⟩):=(hD 10 (Zg (by kernel_rfl))).k rfl;have e14:uS 14=.int .i64 (s:Int):=(hD 14 (Zg (by kernel_rfl))).k rfl;exact Zh (f:=77) (xs:=#[Operand.tmp 22,Operand.tmp 26]) (ts:=#[32,3]) (t:=3) (d:=some 27) rfl #[.pointer (some ⟨gh,0,none⟩),.int .i64 (s:Int)] (by go_simp) (Eq.trans (b:=#[uS 10,uS 14]) (by kernel_rfl) (by rw[e10,e14])) _ (LI.out _ (X1.out.tr hRW)) (by rintro e w9 ⟨rfl,xx⟩;exact⟨_,rfl,hK _ _ (VF.mk rfl) (hRW.tr xx) xx⟩))
 intro u w3 hR3 hV;have h3:=(hV (3,some 15) (by simp)).k rfl;have h4:=(hV (4,some 16) (by simp)).k rfl;have h5:=(hV (5,some 17) (by simp)).k rfl;have h6:=(hV (6,some 18) (by simp)).k rfl;have h10:=(hV (10,some 22) (by simp)).k rfl;have h14:=(hV (14,some 26) (by simp)).k rfl;have h15:=(hV (15,some 27) (by simp)).k rfl;simp only[Zc,h3,h4,h5,h6,h10,h14,h15];clear hV h3 h4 h5 h6 h10 h14 h15
 try simp only[lay]
 refine Zd 17 (by decide +kernel) (Zh (f:=27) (xs:=#[Operand.tmp 18,Operand.tmp 27,Operand.tmp 28]) (ts:=#[24,3,3]) (t:=25) (d:=some 29) rfl #[.pointer (some ⟨gm,0,none⟩),.int .i64 (q:Int),.int .i64 pc] (by go_simp) (by kernel_rfl) _ (ST.out _ (H1.out.ext hR3).m) ?_);rintro e w4 ⟨rfl,m4,d4⟩;have H4:=Hd ((H1.out.ext hR3).cell m4 d4);have D4:=Hd (((Mod.of_ext (X1.out.tr hR3):Mod (CS gm gc) w w3).tr d4).mono fun b _ h=>(.inr h:PT ga gm gc b));clear m4 d4 hR3 ST LI k0 k2 h0;refine⟨_,rfl,?_⟩
 try simp only[lay]
 refine wpAny_done (by kernel_rfl) ?_ _;go_simp;have c1:w4.cell? ⟨ga,1,none⟩=some (.int .i64 a.ph):=Blk.cell H4.out.a 1;have f1:w4.frozen? ⟨ga,1,none⟩=false:=Blk.free H4.out.a 1;obtain⟨s1,s2⟩:=H4.out.field 1 (.int .i64 3) (a':={ a with ph:=3 }) rfl;have S1:=Hd s1;have S2:=Hd (D4.out.tr (s2.mono fun b _ h=>(.inl h:PT ga gm gc b)));clear s1 s2;go_wp2_with (fail);go_end0;exact⟨rfl,S1.out,S2.out⟩
theorem Ue (bs gm gc gp gn go gh b lv ga:Nat)(M:List Int)(P:PoolS)(a:HAct)(w:World)(H:HW w bs gm gc gp gn go gh b lv ga M P a)(hb:b<=1048576)(i:Nat)(hi:a.pos=(i:Int))(h1:1<=i)(h2:i<=1048576)(x:Int)(hx:M[b+(i-1)]?=some x)(ht:Zl a.hd)(ho:x=a.hd) :
  Calls Try.prog 54 #[.pointer (some ⟨ga,0,none⟩)] w fun e w'=>e=.returned (.tuple #[])/\HW w' bs gm gc gp gn go gh b lv ga (M.set (b+(i-1)) (upP a.hd a.slot)) P { a with fits:=true,ph:=15 }/\Mod (PT ga gm gc) w w':=by
 have SW:=fun(W:World) (X:Ext w W)=>ZY gm gc gh b lv ga gp M W (H.ext X).h (H.ext X).m _ _ (H.ext X).a rfl hb i h1 (by omega) x hx a.hd a.slot ht
 simp only[if_pos ho,decide_eq_true ho,Zw] at SW;replace SW:=Hd SW;have HH:=Hd H;clear H hx ho;go_enter Try.func54,Try.ntmps54;go_upto_region 0 with(fail);refine wp_region_any (by kernel_rfl) ?_
 change wpAny _ _ _ _ _ _ _ (World.drew _)
 have k12:w.drew.cell? ⟨ga,12,none⟩=some (.int .i64 (i:Int)):=(Blk.cell HH.out.a 12).trans (by simp[HAct.cells,hi]);have k13:w.drew.cell? ⟨ga,13,none⟩=some (.int .i64 a.hd):=Blk.cell HH.out.a 13;have k2:w.drew.cell? ⟨ga,2,none⟩=some (.int .i64 a.slot):=Blk.cell HH.out.a 2;refine Za (i:=0) (op:=Op.move (Operand.tmp 0)) (t:=46) (d:=some 2) (v:=_) rfl (by decide +kernel) (fun _ _ _ h=>h) (by intro _;unfold Zb;go_simp;try with_reducible rfl) ?_
 try simp only[lay]
 refine Za (i:=1) (op:=Op.move (Operand.tmp 0)) (t:=46) (d:=some 3) (v:=_) rfl (by decide +kernel) (fun _ _ _ h=>h) (by intro _;unfold Zb;go_simp;try with_reducible rfl) ?_
 try simp only[lay]
 refine Za (i:=2) (op:=Op.nilCheck (Operand.tmp 3)) (t:=0) (d:=some 4) (v:=_) rfl (by decide +kernel) (fun _ _ _ h=>h) (by intro _;unfold Zb;go_simp;try with_reducible rfl) ?_
 try simp only[lay]
 refine Za (i:=3) (op:=Op.fieldAddr 85 (Operand.tmp 4) 12) (t:=0) (d:=some 5) (v:=_) rfl (by decide +kernel) (fun _ _ _ h=>h) (by intro _;unfold Zb;go_simp;try with_reducible rfl) ?_
 try simp only[lay]
 refine Za (i:=5) (op:=Op.move (Operand.tmp 0)) (t:=46) (d:=some 7) (v:=_) rfl (by decide +kernel) (fun _ _ _ h=>h) (by intro _;unfold Zb;go_simp;try with_reducible rfl) ?_
 try simp only[lay]
 refine Za (i:=6) (op:=Op.nilCheck (Operand.tmp 7)) (t:=0) (d:=some 8) (v:=_) rfl (by decide +kernel) (fun _ _ _ h=>h) (by intro _;unfold Zb;go_simp;try with_reducible rfl) ?_
 try simp only[lay]
 refine Za (i:=7) (op:=Op.fieldAddr 85 (Operand.tmp 8) 13) (t:=0) (d:=some 9) (v:=_) rfl (by decide +kernel) (fun _ _ _ h=>h) (by intro _;unfold Zb;go_simp;try with_reducible rfl) ?_
 try simp only[lay]
 refine Za (i:=9) (op:=Op.move (Operand.tmp 0)) (t:=46) (d:=some 11) (v:=_) rfl (by decide +kernel) (fun _ _ _ h=>h) (by intro _;unfold Zb;go_simp;try with_reducible rfl) ?_
 try simp only[lay]
 refine Za (i:=10) (op:=Op.nilCheck (Operand.tmp 11)) (t:=0) (d:=some 12) (v:=_) rfl (by decide +kernel) (fun _ _ _ h=>h) (by intro _;unfold Zb;go_simp;try with_reducible rfl) ?_
 try simp only[lay]
 refine Za (i:=11) (op:=Op.fieldAddr 85 (Operand.tmp 12) 2) (t:=0) (d:=some 13) (v:=_) rfl (by decide +kernel) (fun _ _ _ h=>h) (by intro _;unfold Zb;go_simp;try with_reducible rfl) ?_
 try simp only[lay]
 refine Zj (n:=1) [(4,some 6),(8,some 10),(12,some 14)] (fun | 4=>.int .i64 (i:Int) | 8=>.int .i64 a.hd | 12=>.int .i64 a.slot | _=>undef) #[true,true,true,true,true,true,true,true,true,true,true,true,true,false] (by decide +kernel) ?_ ?_
 ·intro pS hpm uS hD K hK
  simp only[List.mem_cons,List.not_mem_nil,or_false] at hpm;rcases hpm with rfl | rfl | rfl
  ·exact Ze (T:=3) (x:=Operand.tmp 5) (t:=3) (d:=some 6) rfl (.pointer (some ⟨ga,12,none⟩)) (by kernel_rfl) (.int .i64 (i:Int)) (by go_simp) hK
  ·exact Ze (T:=3) (x:=Operand.tmp 9) (t:=3) (d:=some 10) rfl (.pointer (some ⟨ga,13,none⟩)) (by kernel_rfl) (.int .i64 a.hd) (by go_simp) hK
  ·exact Ze (T:=3) (x:=Operand.tmp 13) (t:=3) (d:=some 14) rfl (.pointer (some ⟨ga,2,none⟩)) (by kernel_rfl) (.int .i64 a.slot) (by go_simp) hK
 simp only[Zc,Act.put,List.setIfInBounds_toArray,List.set_cons_zero,List.set_cons_succ];refine Zd 13 (by decide +kernel) (Zh (f:=78) (xs:=#[Operand.tmp 2,Operand.tmp 6,Operand.tmp 10,Operand.tmp 14]) (ts:=#[46,3,3,3]) (t:=4) (d:=some 15) rfl #[.pointer (some ⟨ga,0,none⟩),.int .i64 (i:Int),.int .i64 a.hd,.int .i64 a.slot] (by go_simp) (by kernel_rfl) _ (SW.out _ (Ext.rf _).drew) ?_);rintro e w4 ⟨rfl,m4,d4⟩;have H4:=Hd ((HH.out.ext (show Ext w w.drew from(Ext.rf _).drew)).cell m4 d4);have D4:=Hd (((Mod.of_ext (show Ext w w.drew from(Ext.rf _).drew):Mod (CS gm gc) w w.drew).tr d4).mono fun b _ h=>(.inr h:PT ga gm gc b));clear m4 d4 SW k12 k13 k2;refine⟨_,rfl,?_⟩
 try simp only[lay]
 refine wpAny_done (by kernel_rfl) ?_ _;go_simp;have c0:w4.cell? ⟨ga,5,none⟩=some (.bool a.fits):=Blk.cell H4.out.a 5;have f0:w4.frozen? ⟨ga,5,none⟩=false:=Blk.free H4.out.a 5;obtain⟨q1,q2⟩:=H4.out.field 5 (.bool true) (a':={ a with fits:=true }) rfl;have c1:(w4.setCell ⟨ga,5,none⟩ (.bool true)).cell? ⟨ga,1,none⟩=some (.int .i64 a.ph):=Blk.cell q1.a 1;have f1:(w4.setCell ⟨ga,5,none⟩ (.bool true)).frozen? ⟨ga,1,none⟩=false:=Blk.free q1.a 1;obtain⟨s1,s2⟩:=q1.field 1 (.int .i64 15) (a':={ a with fits:=true,ph:=15 }) rfl;have S1:=Hd s1;have S2:=Hd ((D4.out.tr (q2.mono fun b _ h=>(.inl h:PT ga gm gc b))).tr (s2.mono fun b _ h=>(.inl h:PT ga gm gc b)));clear q1 q2 s1 s2;go_wp2_with (fail);exact bodyPost_ret (results_none rfl _ _ _) rfl ⟨rfl,S1.out,S2.out⟩
theorem UJ (ga gh:Nat)(a:HAct)(w:World)(A:Zk w ga gh a)(h:a.ph=0)(R:World->HAct->Prop)(hR:∀ W b,R W b->Zk W ga gh b)(HC:Calls Try.prog 51 #[.pointer (some ⟨ga,0,none⟩)] w fun e w'=>e=.returned (.tuple #[])/\∃ b,R w' b) :
  Calls Try.prog 38 #[.pointer (some ⟨ga,0,none⟩)] w fun e w'=>∃ b,e=.returned (.bool (b.ph==15))/\R w' b:=by
 have a4:w.cell? ⟨ga,1,none⟩=some (.int .i64 0):=(Blk.cell A 1).trans (by simp[HAct.cells,h]);replace HC:=Hd HC;clear A h;go_enter Try.func38,Try.ntmps38;go_wp2_with (go_quiet (fail));refine HC.out.mono ?_;rintro e w1 ⟨rfl,b,hb⟩;have b4:w1.cell? ⟨ga,1,none⟩=some (.int .i64 b.ph):=Blk.cell (hR w1 b hb) 1;replace hb:=Hd hb;clear a4 HC;go_wp2_with (go_quiet (fail));go_ret;exact⟨b,rfl,hb.out⟩
theorem UK (ga gh:Nat)(a:HAct)(w:World)(A:Zk w ga gh a)(h:a.ph=1)(R:World->HAct->Prop)(hR:∀ W b,R W b->Zk W ga gh b)(HC:Calls Try.prog 52 #[.pointer (some ⟨ga,0,none⟩)] w fun e w'=>e=.returned (.tuple #[])/\∃ b,R w' b) :
  Calls Try.prog 38 #[.pointer (some ⟨ga,0,none⟩)] w fun e w'=>∃ b,e=.returned (.bool (b.ph==15))/\R w' b:=by
 have a4:w.cell? ⟨ga,1,none⟩=some (.int .i64 1):=(Blk.cell A 1).trans (by simp[HAct.cells,h]);replace HC:=Hd HC;clear A h;go_enter Try.func38,Try.ntmps38;go_wp2_with (go_quiet (fail));refine HC.out.mono ?_;rintro e w1 ⟨rfl,b,hb⟩;have b4:w1.cell? ⟨ga,1,none⟩=some (.int .i64 b.ph):=Blk.cell (hR w1 b hb) 1;replace hb:=Hd hb;clear a4 HC;go_wp2_with (go_quiet (fail));go_ret;exact⟨b,rfl,hb.out⟩
theorem UL (ga gh:Nat)(a:HAct)(w:World)(A:Zk w ga gh a)(h:a.ph=2)(R:World->HAct->Prop)(hR:∀ W b,R W b->Zk W ga gh b)(HC:Calls Try.prog 53 #[.pointer (some ⟨ga,0,none⟩)] w fun e w'=>e=.returned (.tuple #[])/\∃ b,R w' b) :
  Calls Try.prog 38 #[.pointer (some ⟨ga,0,none⟩)] w fun e w'=>∃ b,e=.returned (.bool (b.ph==15))/\R w' b:=by
 have a4:w.cell? ⟨ga,1,none⟩=some (.int .i64 2):=(Blk.cell A 1).trans (by simp[HAct.cells,h]);replace HC:=Hd HC;clear A h;go_enter Try.func38,Try.ntmps38;go_wp2_with (go_quiet (fail));refine HC.out.mono ?_;rintro e w1 ⟨rfl,b,hb⟩;have b4:w1.cell? ⟨ga,1,none⟩=some (.int .i64 b.ph):=Blk.cell (hR w1 b hb) 1;replace hb:=Hd hb;clear a4 HC;go_wp2_with (go_quiet (fail));go_ret;exact⟨b,rfl,hb.out⟩
theorem UM (ga gh:Nat)(a:HAct)(w:World)(A:Zk w ga gh a)(h:a.ph=3)(R:World->HAct->Prop)(hR:∀ W b,R W b->Zk W ga gh b)(HC:Calls Try.prog 54 #[.pointer (some ⟨ga,0,none⟩)] w fun e w'=>e=.returned (.tuple #[])/\∃ b,R w' b) :
  Calls Try.prog 38 #[.pointer (some ⟨ga,0,none⟩)] w fun e w'=>∃ b,e=.returned (.bool (b.ph==15))/\R w' b:=by
 have a4:w.cell? ⟨ga,1,none⟩=some (.int .i64 3):=(Blk.cell A 1).trans (by simp[HAct.cells,h]);replace HC:=Hd HC;clear A h;go_enter Try.func38,Try.ntmps38;go_wp2_with (go_quiet (fail));refine HC.out.mono ?_;rintro e w1 ⟨rfl,b,hb⟩;have b4:w1.cell? ⟨ga,1,none⟩=some (.int .i64 b.ph):=Blk.cell (hR w1 b hb) 1;replace hb:=Hd hb;clear a4 HC;go_wp2_with (go_quiet (fail));go_ret;exact⟨b,rfl,hb.out⟩
theorem UO (ga gh:Nat)(a:HAct)(w:World)(A:Zk w ga gh a)(h:a.ph=4)(R:World->HAct->Prop)(hR:∀ W b,R W b->Zk W ga gh b)(HC:Calls Try.prog 55 #[.pointer (some ⟨ga,0,none⟩)] w fun e w'=>e=.returned (.tuple #[])/\∃ b,R w' b) :
  Calls Try.prog 38 #[.pointer (some ⟨ga,0,none⟩)] w fun e w'=>∃ b,e=.returned (.bool (b.ph==15))/\R w' b:=by
 have a4:w.cell? ⟨ga,1,none⟩=some (.int .i64 4):=(Blk.cell A 1).trans (by simp[HAct.cells,h]);replace HC:=Hd HC;clear A h;go_enter Try.func38,Try.ntmps38;go_wp2_with (go_quiet (fail));refine HC.out.mono ?_;rintro e w1 ⟨rfl,b,hb⟩;have b4:w1.cell? ⟨ga,1,none⟩=some (.int .i64 b.ph):=Blk.cell (hR w1 b hb) 1;replace hb:=Hd hb;clear a4 HC;go_wp2_with (go_quiet (fail));go_ret;exact⟨b,rfl,hb.out⟩
theorem UQ (ga gh:Nat)(a:HAct)(w:World)(A:Zk w ga gh a)(h:a.ph=5)(R:World->HAct->Prop)(hR:∀ W b,R W b->Zk W ga gh b)(HC:Calls Try.prog 56 #[.pointer (some ⟨ga,0,none⟩)] w fun e w'=>e=.returned (.tuple #[])/\∃ b,R w' b) :
  Calls Try.prog 38 #[.pointer (some ⟨ga,0,none⟩)] w fun e w'=>∃ b,e=.returned (.bool (b.ph==15))/\R w' b:=by
 have a4:w.cell? ⟨ga,1,none⟩=some (.int .i64 5):=(Blk.cell A 1).trans (by simp[HAct.cells,h]);replace HC:=Hd HC;clear A h;go_enter Try.func38,Try.ntmps38;go_wp2_with (go_quiet (fail));refine HC.out.mono ?_;rintro e w1 ⟨rfl,b,hb⟩;have b4:w1.cell? ⟨ga,1,none⟩=some (.int .i64 b.ph):=Blk.cell (hR w1 b hb) 1;replace hb:=Hd hb;clear a4 HC;go_wp2_with (go_quiet (fail));go_ret;exact⟨b,rfl,hb.out⟩
theorem UR (ga gh:Nat)(a:HAct)(w:World)(A:Zk w ga gh a)(h:a.ph=6)(R:World->HAct->Prop)(hR:∀ W b,R W b->Zk W ga gh b)(HC:Calls Try.prog 57 #[.pointer (some ⟨ga,0,none⟩)] w fun e w'=>e=.returned (.tuple #[])/\∃ b,R w' b) :
  Calls Try.prog 38 #[.pointer (some ⟨ga,0,none⟩)] w fun e w'=>∃ b,e=.returned (.bool (b.ph==15))/\R w' b:=by
 have a4:w.cell? ⟨ga,1,none⟩=some (.int .i64 6):=(Blk.cell A 1).trans (by simp[HAct.cells,h]);replace HC:=Hd HC;clear A h;go_enter Try.func38,Try.ntmps38;go_wp2_with (go_quiet (fail));refine HC.out.mono ?_;rintro e w1 ⟨rfl,b,hb⟩;have b4:w1.cell? ⟨ga,1,none⟩=some (.int .i64 b.ph):=Blk.cell (hR w1 b hb) 1;replace hb:=Hd hb;clear a4 HC;go_wp2_with (go_quiet (fail));go_ret;exact⟨b,rfl,hb.out⟩
theorem UT (ga gh:Nat)(a:HAct)(w:World)(A:Zk w ga gh a)(h:a.ph=7)(R:World->HAct->Prop)(hR:∀ W b,R W b->Zk W ga gh b)(HC:Calls Try.prog 58 #[.pointer (some ⟨ga,0,none⟩)] w fun e w'=>e=.returned (.tuple #[])/\∃ b,R w' b) :
  Calls Try.prog 38 #[.pointer (some ⟨ga,0,none⟩)] w fun e w'=>∃ b,e=.returned (.bool (b.ph==15))/\R w' b:=by
 have a4:w.cell? ⟨ga,1,none⟩=some (.int .i64 7):=(Blk.cell A 1).trans (by simp[HAct.cells,h]);replace HC:=Hd HC;clear A h;go_enter Try.func38,Try.ntmps38;go_wp2_with (go_quiet (fail));refine HC.out.mono ?_;rintro e w1 ⟨rfl,b,hb⟩;have b4:w1.cell? ⟨ga,1,none⟩=some (.int .i64 b.ph):=Blk.cell (hR w1 b hb) 1;replace hb:=Hd hb;clear a4 HC;go_wp2_with (go_quiet (fail));go_ret;exact⟨b,rfl,hb.out⟩
theorem UV (ga gh:Nat)(a:HAct)(w:World)(A:Zk w ga gh a)(h:a.ph=8)(R:World->HAct->Prop)(hR:∀ W b,R W b->Zk W ga gh b)(HC:Calls Try.prog 59 #[.pointer (some ⟨ga,0,none⟩)] w fun e w'=>e=.returned (.tuple #[])/\∃ b,R w' b) :
  Calls Try.prog 38 #[.pointer (some ⟨ga,0,none⟩)] w fun e w'=>∃ b,e=.returned (.bool (b.ph==15))/\R w' b:=by
 have a4:w.cell? ⟨ga,1,none⟩=some (.int .i64 8):=(Blk.cell A 1).trans (by simp[HAct.cells,h]);replace HC:=Hd HC;clear A h;go_enter Try.func38,Try.ntmps38;go_wp2_with (go_quiet (fail));refine HC.out.mono ?_;rintro e w1 ⟨rfl,b,hb⟩;have b4:w1.cell? ⟨ga,1,none⟩=some (.int .i64 b.ph):=Blk.cell (hR w1 b hb) 1;replace hb:=Hd hb;clear a4 HC;go_wp2_with (go_quiet (fail));go_ret;exact⟨b,rfl,hb.out⟩
theorem UW (ga gh:Nat)(a:HAct)(w:World)(A:Zk w ga gh a)(h:a.ph=9)(R:World->HAct->Prop)(hR:∀ W b,R W b->Zk W ga gh b)(HC:Calls Try.prog 60 #[.pointer (some ⟨ga,0,none⟩)] w fun e w'=>e=.returned (.tuple #[])/\∃ b,R w' b) :
  Calls Try.prog 38 #[.pointer (some ⟨ga,0,none⟩)] w fun e w'=>∃ b,e=.returned (.bool (b.ph==15))/\R w' b:=by
 have a4:w.cell? ⟨ga,1,none⟩=some (.int .i64 9):=(Blk.cell A 1).trans (by simp[HAct.cells,h]);replace HC:=Hd HC;clear A h;go_enter Try.func38,Try.ntmps38;go_wp2_with (go_quiet (fail));refine HC.out.mono ?_;rintro e w1 ⟨rfl,b,hb⟩;have b4:w1.cell? ⟨ga,1,none⟩=some (.int .i64 b.ph):=Blk.cell (hR w1 b hb) 1;replace hb:=Hd hb;clear a4 HC;go_wp2_with (go_quiet (fail));go_ret;exact⟨b,rfl,hb.out⟩
theorem Uf (ga gh:Nat)(a:HAct)(w:World)(A:Zk w ga gh a)(h:a.ph=10)(R:World->HAct->Prop)(hR:∀ W b,R W b->Zk W ga gh b)(HC:Calls Try.prog 61 #[.pointer (some ⟨ga,0,none⟩)] w fun e w'=>e=.returned (.tuple #[])/\∃ b,R w' b) :
  Calls Try.prog 38 #[.pointer (some ⟨ga,0,none⟩)] w fun e w'=>∃ b,e=.returned (.bool (b.ph==15))/\R w' b:=by
 have a4:w.cell? ⟨ga,1,none⟩=some (.int .i64 10):=(Blk.cell A 1).trans (by simp[HAct.cells,h]);replace HC:=Hd HC;clear A h;go_enter Try.func38,Try.ntmps38;go_wp2_with (go_quiet (fail));refine HC.out.mono ?_;rintro e w1 ⟨rfl,b,hb⟩;have b4:w1.cell? ⟨ga,1,none⟩=some (.int .i64 b.ph):=Blk.cell (hR w1 b hb) 1;replace hb:=Hd hb;clear a4 HC;go_wp2_with (go_quiet (fail));go_ret;exact⟨b,rfl,hb.out⟩
theorem Ug (ga gh:Nat)(a:HAct)(w:World)(A:Zk w ga gh a)(h:a.ph=12)(R:World->HAct->Prop)(hR:∀ W b,R W b->Zk W ga gh b)(HC:Calls Try.prog 63 #[.pointer (some ⟨ga,0,none⟩)] w fun e w'=>e=.returned (.tuple #[])/\∃ b,R w' b) :
  Calls Try.prog 38 #[.pointer (some ⟨ga,0,none⟩)] w fun e w'=>∃ b,e=.returned (.bool (b.ph==15))/\R w' b:=by
 have a4:w.cell? ⟨ga,1,none⟩=some (.int .i64 12):=(Blk.cell A 1).trans (by simp[HAct.cells,h]);replace HC:=Hd HC;clear A h;go_enter Try.func38,Try.ntmps38;go_wp2_with (go_quiet (fail));refine HC.out.mono ?_;rintro e w1 ⟨rfl,b,hb⟩;have b4:w1.cell? ⟨ga,1,none⟩=some (.int .i64 b.ph):=Blk.cell (hR w1 b hb) 1;replace hb:=Hd hb;clear a4 HC;go_wp2_with (go_quiet (fail));go_ret;exact⟨b,rfl,hb.out⟩
theorem Uh (ga gh:Nat)(a:HAct)(w:World)(A:Zk w ga gh a)(h:a.ph=13)(R:World->HAct->Prop)(hR:∀ W b,R W b->Zk W ga gh b)(HC:Calls Try.prog 64 #[.pointer (some ⟨ga,0,none⟩)] w fun e w'=>e=.returned (.tuple #[])/\∃ b,R w' b) :
  Calls Try.prog 38 #[.pointer (some ⟨ga,0,none⟩)] w fun e w'=>∃ b,e=.returned (.bool (b.ph==15))/\R w' b:=by
 have a4:w.cell? ⟨ga,1,none⟩=some (.int .i64 13):=(Blk.cell A 1).trans (by simp[HAct.cells,h]);replace HC:=Hd HC;clear A h;go_enter Try.func38,Try.ntmps38;go_wp2_with (go_quiet (fail));refine HC.out.mono ?_;rintro e w1 ⟨rfl,b,hb⟩;have b4:w1.cell? ⟨ga,1,none⟩=some (.int .i64 b.ph):=Blk.cell (hR w1 b hb) 1;replace hb:=Hd hb;clear a4 HC;go_wp2_with (go_quiet (fail));go_ret;exact⟨b,rfl,hb.out⟩
theorem Ui (ga gh:Nat)(a:HAct)(w:World)(A:Zk w ga gh a)(h:a.ph=14)(R:World->HAct->Prop)(hR:∀ W b,R W b->Zk W ga gh b)(HC:Calls Try.prog 65 #[.pointer (some ⟨ga,0,none⟩)] w fun e w'=>e=.returned (.tuple #[])/\∃ b,R w' b) :
  Calls Try.prog 38 #[.pointer (some ⟨ga,0,none⟩)] w fun e w'=>∃ b,e=.returned (.bool (b.ph==15))/\R w' b:=by
 have a4:w.cell? ⟨ga,1,none⟩=some (.int .i64 14):=(Blk.cell A 1).trans (by simp[HAct.cells,h]);replace HC:=Hd HC;clear A h;go_enter Try.func38,Try.ntmps38;go_wp2_with (go_quiet (fail));refine HC.out.mono ?_;rintro e w1 ⟨rfl,b,hb⟩;have b4:w1.cell? ⟨ga,1,none⟩=some (.int .i64 b.ph):=Blk.cell (hR w1 b hb) 1;replace hb:=Hd hb;clear a4 HC;go_wp2_with (go_quiet (fail));go_ret;exact⟨b,rfl,hb.out⟩
def HRuns (ga:Nat)(Q:World->Prop) : Nat->World->Prop
 | 0,_=>False
 | f+1,w=>∀ W,Ext w W->Calls Try.prog 38 #[.pointer (some ⟨ga,0,none⟩)] W fun e w'=>(e=.returned (.bool true)/\Q w')\/(e=.returned (.bool false)/\HRuns ga Q f w')
theorem HRuns.ext {ga:Nat}{Q:World->Prop}{f:Nat}{w w':World}(h:HRuns ga Q f w)(x:Ext w w') : HRuns ga Q f w':=by
 cases f with
 | zero=>exact h
 | succ f=>exact fun W X=>h W (x.tr X)
theorem HRuns.of {ga gh:Nat}{Q:World->Prop}{f:Nat}{w:World}{R:World->HAct->Prop}(C:∀ W,Ext w W->Calls Try.prog 38 #[.pointer (some ⟨ga,0,none⟩)] W fun e w'=>∃ b,e=.returned (.bool (b.ph==15))/\R w' b)(K:∀ w' b,R w' b->if b.ph=15 then Q w' else HRuns ga Q f w') : HRuns ga Q (f+1) w:=fun W X=>by
 refine(C W X).mono ?_;rintro e w' ⟨b,rfl,hb⟩;have:=K w' b hb
 by_cases h:b.ph=15
 ·rw[if_pos h] at this
  exact .inl ⟨by simp[h],this⟩
 ·rw[if_neg h] at this
  exact .inr ⟨by simp[h],this⟩
theorem Qm {ga gh:Nat}{Q:World->Prop}{f:Nat}{w:World}{a:HAct}(A:Zk w ga gh a)(h:a.ph=0)(R:World->HAct->Prop)(hR:∀ W b,R W b->Zk W ga gh b)(C:∀ W,Ext w W->Calls Try.prog 51 #[.pointer (some ⟨ga,0,none⟩)] W fun e w'=>e=.returned (.tuple #[])/\∃ b,R w' b)(K:∀ w' b,R w' b->if b.ph=15 then Q w' else HRuns ga Q f w') : HRuns ga Q (f+1) w :=
 HRuns.of (gh:=gh) (fun W X=>UJ ga gh a W (Blk.ext A X) h R hR (C W X)) K
theorem UZ {ga gh:Nat}{Q:World->Prop}{f:Nat}{w:World}{a:HAct}(A:Zk w ga gh a)(h:a.ph=1)(R:World->HAct->Prop)(hR:∀ W b,R W b->Zk W ga gh b)(C:∀ W,Ext w W->Calls Try.prog 52 #[.pointer (some ⟨ga,0,none⟩)] W fun e w'=>e=.returned (.tuple #[])/\∃ b,R w' b)(K:∀ w' b,R w' b->if b.ph=15 then Q w' else HRuns ga Q f w') : HRuns ga Q (f+1) w :=
 HRuns.of (gh:=gh) (fun W X=>UK ga gh a W (Blk.ext A X) h R hR (C W X)) K
theorem QJ {ga gh:Nat}{Q:World->Prop}{f:Nat}{w:World}{a:HAct}(A:Zk w ga gh a)(h:a.ph=2)(R:World->HAct->Prop)(hR:∀ W b,R W b->Zk W ga gh b)(C:∀ W,Ext w W->Calls Try.prog 53 #[.pointer (some ⟨ga,0,none⟩)] W fun e w'=>e=.returned (.tuple #[])/\∃ b,R w' b)(K:∀ w' b,R w' b->if b.ph=15 then Q w' else HRuns ga Q f w') : HRuns ga Q (f+1) w :=
 HRuns.of (gh:=gh) (fun W X=>UL ga gh a W (Blk.ext A X) h R hR (C W X)) K
theorem QK {ga gh:Nat}{Q:World->Prop}{f:Nat}{w:World}{a:HAct}(A:Zk w ga gh a)(h:a.ph=3)(R:World->HAct->Prop)(hR:∀ W b,R W b->Zk W ga gh b)(C:∀ W,Ext w W->Calls Try.prog 54 #[.pointer (some ⟨ga,0,none⟩)] W fun e w'=>e=.returned (.tuple #[])/\∃ b,R w' b)(K:∀ w' b,R w' b->if b.ph=15 then Q w' else HRuns ga Q f w') : HRuns ga Q (f+1) w :=
 HRuns.of (gh:=gh) (fun W X=>UM ga gh a W (Blk.ext A X) h R hR (C W X)) K
theorem QL {ga gh:Nat}{Q:World->Prop}{f:Nat}{w:World}{a:HAct}(A:Zk w ga gh a)(h:a.ph=4)(R:World->HAct->Prop)(hR:∀ W b,R W b->Zk W ga gh b)(C:∀ W,Ext w W->Calls Try.prog 55 #[.pointer (some ⟨ga,0,none⟩)] W fun e w'=>e=.returned (.tuple #[])/\∃ b,R w' b)(K:∀ w' b,R w' b->if b.ph=15 then Q w' else HRuns ga Q f w') : HRuns ga Q (f+1) w :=
 HRuns.of (gh:=gh) (fun W X=>UO ga gh a W (Blk.ext A X) h R hR (C W X)) K
theorem QM {ga gh:Nat}{Q:World->Prop}{f:Nat}{w:World}{a:HAct}(A:Zk w ga gh a)(h:a.ph=5)(R:World->HAct->Prop)(hR:∀ W b,R W b->Zk W ga gh b)(C:∀ W,Ext w W->Calls Try.prog 56 #[.pointer (some ⟨ga,0,none⟩)] W fun e w'=>e=.returned (.tuple #[])/\∃ b,R w' b)(K:∀ w' b,R w' b->if b.ph=15 then Q w' else HRuns ga Q f w') : HRuns ga Q (f+1) w :=
 HRuns.of (gh:=gh) (fun W X=>UQ ga gh a W (Blk.ext A X) h R hR (C W X)) K
theorem QN {ga gh:Nat}{Q:World->Prop}{f:Nat}{w:World}{a:HAct}(A:Zk w ga gh a)(h:a.ph=6)(R:World->HAct->Prop)(hR:∀ W b,R W b->Zk W ga gh b)(C:∀ W,Ext w W->Calls Try.prog 57 #[.pointer (some ⟨ga,0,none⟩)] W fun e w'=>e=.returned (.tuple #[])/\∃ b,R w' b)(K:∀ w' b,R w' b->if b.ph=15 then Q w' else HRuns ga Q f w') : HRuns ga Q (f+1) w :=
 HRuns.of (gh:=gh) (fun W X=>UR ga gh a W (Blk.ext A X) h R hR (C W X)) K
theorem Qt {ga gh:Nat}{Q:World->Prop}{f:Nat}{w:World}{a:HAct}(A:Zk w ga gh a)(h:a.ph=7)(R:World->HAct->Prop)(hR:∀ W b,R W b->Zk W ga gh b)(C:∀ W,Ext w W->Calls Try.prog 58 #[.pointer (some ⟨ga,0,none⟩)] W fun e w'=>e=.returned (.tuple #[])/\∃ b,R w' b)(K:∀ w' b,R w' b->if b.ph=15 then Q w' else HRuns ga Q f w') : HRuns ga Q (f+1) w :=
 HRuns.of (gh:=gh) (fun W X=>UT ga gh a W (Blk.ext A X) h R hR (C W X)) K
theorem QO {ga gh:Nat}{Q:World->Prop}{f:Nat}{w:World}{a:HAct}(A:Zk w ga gh a)(h:a.ph=8)(R:World->HAct->Prop)(hR:∀ W b,R W b->Zk W ga gh b)(C:∀ W,Ext w W->Calls Try.prog 59 #[.pointer (some ⟨ga,0,none⟩)] W fun e w'=>e=.returned (.tuple #[])/\∃ b,R w' b)(K:∀ w' b,R w' b->if b.ph=15 then Q w' else HRuns ga Q f w') : HRuns ga Q (f+1) w :=
 HRuns.of (gh:=gh) (fun W X=>UV ga gh a W (Blk.ext A X) h R hR (C W X)) K
theorem Qu {ga gh:Nat}{Q:World->Prop}{f:Nat}{w:World}{a:HAct}(A:Zk w ga gh a)(h:a.ph=9)(R:World->HAct->Prop)(hR:∀ W b,R W b->Zk W ga gh b)(C:∀ W,Ext w W->Calls Try.prog 60 #[.pointer (some ⟨ga,0,none⟩)] W fun e w'=>e=.returned (.tuple #[])/\∃ b,R w' b)(K:∀ w' b,R w' b->if b.ph=15 then Q w' else HRuns ga Q f w') : HRuns ga Q (f+1) w :=
 HRuns.of (gh:=gh) (fun W X=>UW ga gh a W (Blk.ext A X) h R hR (C W X)) K
theorem Qv {ga gh:Nat}{Q:World->Prop}{f:Nat}{w:World}{a:HAct}(A:Zk w ga gh a)(h:a.ph=10)(R:World->HAct->Prop)(hR:∀ W b,R W b->Zk W ga gh b)(C:∀ W,Ext w W->Calls Try.prog 61 #[.pointer (some ⟨ga,0,none⟩)] W fun e w'=>e=.returned (.tuple #[])/\∃ b,R w' b)(K:∀ w' b,R w' b->if b.ph=15 then Q w' else HRuns ga Q f w') : HRuns ga Q (f+1) w :=
 HRuns.of (gh:=gh) (fun W X=>Uf ga gh a W (Blk.ext A X) h R hR (C W X)) K
theorem Qw {ga gh:Nat}{Q:World->Prop}{f:Nat}{w:World}{a:HAct}(A:Zk w ga gh a)(h:a.ph=12)(R:World->HAct->Prop)(hR:∀ W b,R W b->Zk W ga gh b)(C:∀ W,Ext w W->Calls Try.prog 63 #[.pointer (some ⟨ga,0,none⟩)] W fun e w'=>e=.returned (.tuple #[])/\∃ b,R w' b)(K:∀ w' b,R w' b->if b.ph=15 then Q w' else HRuns ga Q f w') : HRuns ga Q (f+1) w :=
 HRuns.of (gh:=gh) (fun W X=>Ug ga gh a W (Blk.ext A X) h R hR (C W X)) K
theorem Qx {ga gh:Nat}{Q:World->Prop}{f:Nat}{w:World}{a:HAct}(A:Zk w ga gh a)(h:a.ph=13)(R:World->HAct->Prop)(hR:∀ W b,R W b->Zk W ga gh b)(C:∀ W,Ext w W->Calls Try.prog 64 #[.pointer (some ⟨ga,0,none⟩)] W fun e w'=>e=.returned (.tuple #[])/\∃ b,R w' b)(K:∀ w' b,R w' b->if b.ph=15 then Q w' else HRuns ga Q f w') : HRuns ga Q (f+1) w :=
 HRuns.of (gh:=gh) (fun W X=>Uh ga gh a W (Blk.ext A X) h R hR (C W X)) K
theorem Qy {ga gh:Nat}{Q:World->Prop}{f:Nat}{w:World}{a:HAct}(A:Zk w ga gh a)(h:a.ph=14)(R:World->HAct->Prop)(hR:∀ W b,R W b->Zk W ga gh b)(C:∀ W,Ext w W->Calls Try.prog 65 #[.pointer (some ⟨ga,0,none⟩)] W fun e w'=>e=.returned (.tuple #[])/\∃ b,R w' b)(K:∀ w' b,R w' b->if b.ph=15 then Q w' else HRuns ga Q f w') : HRuns ga Q (f+1) w :=
 HRuns.of (gh:=gh) (fun W X=>Ui ga gh a W (Blk.ext A X) h R hR (C W X)) K
theorem Xu (ga f:Nat)(hf:f<=100)(Q:World->Prop)(XQ:∀ w w',Q w->Ext w w'->Q w')(w:World)(h:HRuns ga Q f w) :
  Calls Try.prog 16 #[.pointer (some ⟨ga,0,none⟩)] w fun e w'=>e=.returned (.tuple #[])/\Q w':=by
 replace XQ:=Hd XQ;replace h:=Hd h;go_enter Try.func16,Try.ntmps16;go_wp2_with (fail);go_loopw [2] (fun i wr=>∃ k g:Nat,i=.int .i64 k/\k+g<=100/\Hid (HRuns ga Q g wr)) (fun i _=>100-(intOf i).toNat)
 case atStart=>exact⟨0,f,rfl,by omega,h⟩
 case round =>
  clear h hf;obtain⟨k,g,rfl,hk,hR⟩:=hrel
  cases g with
  | zero=>exact hR.out.elim
  | succ g =>
   have e1:(k:Int)<100:=by omega
   go_wp2_with (go_quiet (fail));refine(hR.out _ XI).mono ?_;rintro e w1 (⟨rfl,r1⟩ | ⟨rfl,r1⟩)
   ·replace r1:=Hd r1
    clear hR;go_wp2_with (go_quiet (fail));go_end0;exact⟨rfl,XQ.out _ _ r1.out XI⟩
   ·replace r1:=Hd r1
    clear hR;go_wp2_with (go_quiet (fail));go_roundw
    case rel=>exact⟨k+1,g,by go_num,by omega,Hd (r1.out.ext XI)⟩
    case measure=>simp[intOf];omega
theorem Qz {w0 w:World}{bs gm gc gp gn go gh b lv ga:Nat}{M M':List Int}{P:PoolS}{a:HAct}{Q:World->Prop}{f:Nat}(a':HAct)(H:HW w bs gm gc gp gn go gh b lv ga M P a)(h:a.ph=2)(D:Mod (PT ga gm gc) w0 w)(hn:a'.ph≠15)(C:∀ W,HW W bs gm gc gp gn go gh b lv ga M P a->Calls Try.prog 53 #[.pointer (some ⟨ga,0,none⟩)] W fun e w'=>e=.returned (.tuple #[])/\HW w' bs gm gc gp gn go gh b lv ga M' P a'/\Mod (PT ga gm gc) W w')(K:∀ w',HW w' bs gm gc gp gn go gh b lv ga M' P a'->Mod (PT ga gm gc) w0 w'->HRuns ga Q f w') : HRuns ga Q (f+1) w :=
 QJ H.a h (fun W b'=>b'=a'/\HW W bs gm gc gp gn go gh b lv ga M' P a'/\Mod (PT ga gm gc) w0 W) (fun W b' h=>h.1 ▸ h.2.1.a) (fun W X=>(C W (H.ext X)).mono fun e w' h=>⟨h.1,a',rfl,h.2.1,(D.tr (Mod.of_ext X)).tr h.2.2⟩) (fun w' b' h=>by
  obtain⟨rfl,h1,h2⟩:=h;rw[if_neg hn];exact K w' h1 h2)
theorem Qn {w0 w:World}{bs gm gc gp gn go gh b lv ga:Nat}{M M':List Int}{P:PoolS}{a:HAct}{Q:World->Prop}{f:Nat}(a':HAct)(H:HW w bs gm gc gp gn go gh b lv ga M P a)(h:a.ph=3)(D:Mod (PT ga gm gc) w0 w)(hn:a'.ph=15)(C:∀ W,HW W bs gm gc gp gn go gh b lv ga M P a->Calls Try.prog 54 #[.pointer (some ⟨ga,0,none⟩)] W fun e w'=>e=.returned (.tuple #[])/\HW w' bs gm gc gp gn go gh b lv ga M' P a'/\Mod (PT ga gm gc) W w')(K:∀ w',HW w' bs gm gc gp gn go gh b lv ga M' P a'->Mod (PT ga gm gc) w0 w'->Q w') : HRuns ga Q (f+1) w :=
 QK H.a h (fun W b'=>b'=a'/\HW W bs gm gc gp gn go gh b lv ga M' P a'/\Mod (PT ga gm gc) w0 W) (fun W b' h=>h.1 ▸ h.2.1.a) (fun W X=>(C W (H.ext X)).mono fun e w' h=>⟨h.1,a',rfl,h.2.1,(D.tr (Mod.of_ext X)).tr h.2.2⟩) (fun w' b' h=>by
  obtain⟨rfl,h1,h2⟩:=h;rw[if_pos hn];exact K w' h1 h2)
theorem QA {w0 w:World}{bs gm gc gp gn go gh b lv ga:Nat}{M M':List Int}{P:PoolS}{a:HAct}{Q:World->Prop}{f:Nat}(a':HAct)(H:HW w bs gm gc gp gn go gh b lv ga M P a)(h:a.ph=4)(D:Mod (PT ga gm gc) w0 w)(hn:a'.ph≠15)(C:∀ W,HW W bs gm gc gp gn go gh b lv ga M P a->Calls Try.prog 55 #[.pointer (some ⟨ga,0,none⟩)] W fun e w'=>e=.returned (.tuple #[])/\HW w' bs gm gc gp gn go gh b lv ga M' P a'/\Mod (PT ga gm gc) W w')(K:∀ w',HW w' bs gm gc gp gn go gh b lv ga M' P a'->Mod (PT ga gm gc) w0 w'->HRuns ga Q f w') : HRuns ga Q (f+1) w :=
 QL H.a h (fun W b'=>b'=a'/\HW W bs gm gc gp gn go gh b lv ga M' P a'/\Mod (PT ga gm gc) w0 W) (fun W b' h=>h.1 ▸ h.2.1.a) (fun W X=>(C W (H.ext X)).mono fun e w' h=>⟨h.1,a',rfl,h.2.1,(D.tr (Mod.of_ext X)).tr h.2.2⟩) (fun w' b' h=>by
  obtain⟨rfl,h1,h2⟩:=h;rw[if_neg hn];exact K w' h1 h2)
theorem QB {w0 w:World}{bs gm gc gp gn go gh b lv ga:Nat}{M M':List Int}{P:PoolS}{a:HAct}{Q:World->Prop}{f:Nat}(a':HAct)(H:HW w bs gm gc gp gn go gh b lv ga M P a)(h:a.ph=5)(D:Mod (PT ga gm gc) w0 w)(hn:a'.ph≠15)(C:∀ W,HW W bs gm gc gp gn go gh b lv ga M P a->Calls Try.prog 56 #[.pointer (some ⟨ga,0,none⟩)] W fun e w'=>e=.returned (.tuple #[])/\HW w' bs gm gc gp gn go gh b lv ga M' P a'/\Mod (PT ga gm gc) W w')(K:∀ w',HW w' bs gm gc gp gn go gh b lv ga M' P a'->Mod (PT ga gm gc) w0 w'->HRuns ga Q f w') : HRuns ga Q (f+1) w :=
 QM H.a h (fun W b'=>b'=a'/\HW W bs gm gc gp gn go gh b lv ga M' P a'/\Mod (PT ga gm gc) w0 W) (fun W b' h=>h.1 ▸ h.2.1.a) (fun W X=>(C W (H.ext X)).mono fun e w' h=>⟨h.1,a',rfl,h.2.1,(D.tr (Mod.of_ext X)).tr h.2.2⟩) (fun w' b' h=>by
  obtain⟨rfl,h1,h2⟩:=h;rw[if_neg hn];exact K w' h1 h2)
theorem QC {w0 w:World}{bs gm gc gp gn go gh b lv ga:Nat}{M M':List Int}{P:PoolS}{a:HAct}{Q:World->Prop}{f:Nat}(a':HAct)(H:HW w bs gm gc gp gn go gh b lv ga M P a)(h:a.ph=6)(D:Mod (PT ga gm gc) w0 w)(hn:a'.ph≠15)(C:∀ W,HW W bs gm gc gp gn go gh b lv ga M P a->Calls Try.prog 57 #[.pointer (some ⟨ga,0,none⟩)] W fun e w'=>e=.returned (.tuple #[])/\HW w' bs gm gc gp gn go gh b lv ga M' P a'/\Mod (PT ga gm gc) W w')(K:∀ w',HW w' bs gm gc gp gn go gh b lv ga M' P a'->Mod (PT ga gm gc) w0 w'->HRuns ga Q f w') : HRuns ga Q (f+1) w :=
 QN H.a h (fun W b'=>b'=a'/\HW W bs gm gc gp gn go gh b lv ga M' P a'/\Mod (PT ga gm gc) w0 W) (fun W b' h=>h.1 ▸ h.2.1.a) (fun W X=>(C W (H.ext X)).mono fun e w' h=>⟨h.1,a',rfl,h.2.1,(D.tr (Mod.of_ext X)).tr h.2.2⟩) (fun w' b' h=>by
  obtain⟨rfl,h1,h2⟩:=h;rw[if_neg hn];exact K w' h1 h2)
theorem QD {w0 w:World}{bs gm gc gp gn go gh b lv ga:Nat}{M M':List Int}{P:PoolS}{a:HAct}{Q:World->Prop}{f:Nat}(a':HAct)(H:HW w bs gm gc gp gn go gh b lv ga M P a)(h:a.ph=7)(D:Mod (PT ga gm gc) w0 w)(hn:a'.ph≠15)(C:∀ W,HW W bs gm gc gp gn go gh b lv ga M P a->Calls Try.prog 58 #[.pointer (some ⟨ga,0,none⟩)] W fun e w'=>e=.returned (.tuple #[])/\HW w' bs gm gc gp gn go gh b lv ga M' P a'/\Mod (PT ga gm gc) W w')(K:∀ w',HW w' bs gm gc gp gn go gh b lv ga M' P a'->Mod (PT ga gm gc) w0 w'->HRuns ga Q f w') : HRuns ga Q (f+1) w :=
 Qt H.a h (fun W b'=>b'=a'/\HW W bs gm gc gp gn go gh b lv ga M' P a'/\Mod (PT ga gm gc) w0 W) (fun W b' h=>h.1 ▸ h.2.1.a) (fun W X=>(C W (H.ext X)).mono fun e w' h=>⟨h.1,a',rfl,h.2.1,(D.tr (Mod.of_ext X)).tr h.2.2⟩) (fun w' b' h=>by
  obtain⟨rfl,h1,h2⟩:=h;rw[if_neg hn];exact K w' h1 h2)
theorem Qo {w0 w:World}{bs gm gc gp gn go gh b lv ga:Nat}{M M':List Int}{P:PoolS}{a:HAct}{Q:World->Prop}{f:Nat}(a':HAct)(H:HW w bs gm gc gp gn go gh b lv ga M P a)(h:a.ph=7)(D:Mod (PT ga gm gc) w0 w)(hn:a'.ph=15)(C:∀ W,HW W bs gm gc gp gn go gh b lv ga M P a->Calls Try.prog 58 #[.pointer (some ⟨ga,0,none⟩)] W fun e w'=>e=.returned (.tuple #[])/\HW w' bs gm gc gp gn go gh b lv ga M' P a'/\Mod (PT ga gm gc) W w')(K:∀ w',HW w' bs gm gc gp gn go gh b lv ga M' P a'->Mod (PT ga gm gc) w0 w'->Q w') : HRuns ga Q (f+1) w :=
 Qt H.a h (fun W b'=>b'=a'/\HW W bs gm gc gp gn go gh b lv ga M' P a'/\Mod (PT ga gm gc) w0 W) (fun W b' h=>h.1 ▸ h.2.1.a) (fun W X=>(C W (H.ext X)).mono fun e w' h=>⟨h.1,a',rfl,h.2.1,(D.tr (Mod.of_ext X)).tr h.2.2⟩) (fun w' b' h=>by
  obtain⟨rfl,h1,h2⟩:=h;rw[if_pos hn];exact K w' h1 h2)
theorem QE {w0 w:World}{bs gm gc gp gn go gh b lv ga:Nat}{M M':List Int}{P:PoolS}{a:HAct}{Q:World->Prop}{f:Nat}(a':HAct)(H:HW w bs gm gc gp gn go gh b lv ga M P a)(h:a.ph=8)(D:Mod (PT ga gm gc) w0 w)(hn:a'.ph≠15)(C:∀ W,HW W bs gm gc gp gn go gh b lv ga M P a->Calls Try.prog 59 #[.pointer (some ⟨ga,0,none⟩)] W fun e w'=>e=.returned (.tuple #[])/\HW w' bs gm gc gp gn go gh b lv ga M' P a'/\Mod (PT ga gm gc) W w')(K:∀ w',HW w' bs gm gc gp gn go gh b lv ga M' P a'->Mod (PT ga gm gc) w0 w'->HRuns ga Q f w') : HRuns ga Q (f+1) w :=
 QO H.a h (fun W b'=>b'=a'/\HW W bs gm gc gp gn go gh b lv ga M' P a'/\Mod (PT ga gm gc) w0 W) (fun W b' h=>h.1 ▸ h.2.1.a) (fun W X=>(C W (H.ext X)).mono fun e w' h=>⟨h.1,a',rfl,h.2.1,(D.tr (Mod.of_ext X)).tr h.2.2⟩) (fun w' b' h=>by
  obtain⟨rfl,h1,h2⟩:=h;rw[if_neg hn];exact K w' h1 h2)
theorem Qf {w0 w:World}{bs gm gc gp gn go gh b lv ga:Nat}{M M':List Int}{P:PoolS}{a:HAct}{Q:World->Prop}{f:Nat}(a':HAct)(H:HW w bs gm gc gp gn go gh b lv ga M P a)(h:a.ph=9)(D:Mod (PT ga gm gc) w0 w)(hn:a'.ph≠15)(C:∀ W,HW W bs gm gc gp gn go gh b lv ga M P a->Calls Try.prog 60 #[.pointer (some ⟨ga,0,none⟩)] W fun e w'=>e=.returned (.tuple #[])/\HW w' bs gm gc gp gn go gh b lv ga M' P a'/\Mod (PT ga gm gc) W w')(K:∀ w',HW w' bs gm gc gp gn go gh b lv ga M' P a'->Mod (PT ga gm gc) w0 w'->HRuns ga Q f w') : HRuns ga Q (f+1) w :=
 Qu H.a h (fun W b'=>b'=a'/\HW W bs gm gc gp gn go gh b lv ga M' P a'/\Mod (PT ga gm gc) w0 W) (fun W b' h=>h.1 ▸ h.2.1.a) (fun W X=>(C W (H.ext X)).mono fun e w' h=>⟨h.1,a',rfl,h.2.1,(D.tr (Mod.of_ext X)).tr h.2.2⟩) (fun w' b' h=>by
  obtain⟨rfl,h1,h2⟩:=h;rw[if_neg hn];exact K w' h1 h2)
theorem Uj {w0 w:World}{bs gm gc gp gn go gh b lv ga:Nat}{M M':List Int}{P:PoolS}{a:HAct}{Q:World->Prop}{f:Nat}(a':HAct)(H:HW w bs gm gc gp gn go gh b lv ga M P a)(h:a.ph=9)(D:Mod (PT ga gm gc) w0 w)(hn:a'.ph=15)(C:∀ W,HW W bs gm gc gp gn go gh b lv ga M P a->Calls Try.prog 60 #[.pointer (some ⟨ga,0,none⟩)] W fun e w'=>e=.returned (.tuple #[])/\HW w' bs gm gc gp gn go gh b lv ga M' P a'/\Mod (PT ga gm gc) W w')(K:∀ w',HW w' bs gm gc gp gn go gh b lv ga M' P a'->Mod (PT ga gm gc) w0 w'->Q w') : HRuns ga Q (f+1) w :=
 Qu H.a h (fun W b'=>b'=a'/\HW W bs gm gc gp gn go gh b lv ga M' P a'/\Mod (PT ga gm gc) w0 W) (fun W b' h=>h.1 ▸ h.2.1.a) (fun W X=>(C W (H.ext X)).mono fun e w' h=>⟨h.1,a',rfl,h.2.1,(D.tr (Mod.of_ext X)).tr h.2.2⟩) (fun w' b' h=>by
  obtain⟨rfl,h1,h2⟩:=h;rw[if_pos hn];exact K w' h1 h2)
theorem Uk {w0 w:World}{bs gm gc gp gn go gh b lv ga:Nat}{M M':List Int}{P:PoolS}{a:HAct}{Q:World->Prop}{f:Nat}(a':HAct)(H:HW w bs gm gc gp gn go gh b lv ga M P a)(h:a.ph=10)(D:Mod (PT ga gm gc) w0 w)(hn:a'.ph≠15)(C:∀ W,HW W bs gm gc gp gn go gh b lv ga M P a->Calls Try.prog 61 #[.pointer (some ⟨ga,0,none⟩)] W fun e w'=>e=.returned (.tuple #[])/\HW w' bs gm gc gp gn go gh b lv ga M' P a'/\Mod (PT ga gm gc) W w')(K:∀ w',HW w' bs gm gc gp gn go gh b lv ga M' P a'->Mod (PT ga gm gc) w0 w'->HRuns ga Q f w') : HRuns ga Q (f+1) w :=
 Qv H.a h (fun W b'=>b'=a'/\HW W bs gm gc gp gn go gh b lv ga M' P a'/\Mod (PT ga gm gc) w0 W) (fun W b' h=>h.1 ▸ h.2.1.a) (fun W X=>(C W (H.ext X)).mono fun e w' h=>⟨h.1,a',rfl,h.2.1,(D.tr (Mod.of_ext X)).tr h.2.2⟩) (fun w' b' h=>by
  obtain⟨rfl,h1,h2⟩:=h;rw[if_neg hn];exact K w' h1 h2)
theorem Ul {w0 w:World}{bs gm gc gp gn go gh b lv ga:Nat}{M M':List Int}{P:PoolS}{a:HAct}{Q:World->Prop}{f:Nat}(a':HAct)(H:HW w bs gm gc gp gn go gh b lv ga M P a)(h:a.ph=12)(D:Mod (PT ga gm gc) w0 w)(hn:a'.ph≠15)(C:∀ W,HW W bs gm gc gp gn go gh b lv ga M P a->Calls Try.prog 63 #[.pointer (some ⟨ga,0,none⟩)] W fun e w'=>e=.returned (.tuple #[])/\HW w' bs gm gc gp gn go gh b lv ga M' P a'/\Mod (PT ga gm gc) W w')(K:∀ w',HW w' bs gm gc gp gn go gh b lv ga M' P a'->Mod (PT ga gm gc) w0 w'->HRuns ga Q f w') : HRuns ga Q (f+1) w :=
 Qw H.a h (fun W b'=>b'=a'/\HW W bs gm gc gp gn go gh b lv ga M' P a'/\Mod (PT ga gm gc) w0 W) (fun W b' h=>h.1 ▸ h.2.1.a) (fun W X=>(C W (H.ext X)).mono fun e w' h=>⟨h.1,a',rfl,h.2.1,(D.tr (Mod.of_ext X)).tr h.2.2⟩) (fun w' b' h=>by
  obtain⟨rfl,h1,h2⟩:=h;rw[if_neg hn];exact K w' h1 h2)
theorem Um {w0 w:World}{bs gm gc gp gn go gh b lv ga:Nat}{M M':List Int}{P:PoolS}{a:HAct}{Q:World->Prop}{f:Nat}(a':HAct)(H:HW w bs gm gc gp gn go gh b lv ga M P a)(h:a.ph=13)(D:Mod (PT ga gm gc) w0 w)(hn:a'.ph≠15)(C:∀ W,HW W bs gm gc gp gn go gh b lv ga M P a->Calls Try.prog 64 #[.pointer (some ⟨ga,0,none⟩)] W fun e w'=>e=.returned (.tuple #[])/\HW w' bs gm gc gp gn go gh b lv ga M' P a'/\Mod (PT ga gm gc) W w')(K:∀ w',HW w' bs gm gc gp gn go gh b lv ga M' P a'->Mod (PT ga gm gc) w0 w'->HRuns ga Q f w') : HRuns ga Q (f+1) w :=
 Qx H.a h (fun W b'=>b'=a'/\HW W bs gm gc gp gn go gh b lv ga M' P a'/\Mod (PT ga gm gc) w0 W) (fun W b' h=>h.1 ▸ h.2.1.a) (fun W X=>(C W (H.ext X)).mono fun e w' h=>⟨h.1,a',rfl,h.2.1,(D.tr (Mod.of_ext X)).tr h.2.2⟩) (fun w' b' h=>by
  obtain⟨rfl,h1,h2⟩:=h;rw[if_neg hn];exact K w' h1 h2)
theorem Un {w0 w:World}{bs gm gc gp gn go gh b lv ga:Nat}{M M':List Int}{P:PoolS}{a:HAct}{Q:World->Prop}{f:Nat}(a':HAct)(H:HW w bs gm gc gp gn go gh b lv ga M P a)(h:a.ph=14)(D:Mod (PT ga gm gc) w0 w)(hn:a'.ph≠15)(C:∀ W,HW W bs gm gc gp gn go gh b lv ga M P a->Calls Try.prog 65 #[.pointer (some ⟨ga,0,none⟩)] W fun e w'=>e=.returned (.tuple #[])/\HW w' bs gm gc gp gn go gh b lv ga M' P a'/\Mod (PT ga gm gc) W w')(K:∀ w',HW w' bs gm gc gp gn go gh b lv ga M' P a'->Mod (PT ga gm gc) w0 w'->HRuns ga Q f w') : HRuns ga Q (f+1) w :=
 Qy H.a h (fun W b'=>b'=a'/\HW W bs gm gc gp gn go gh b lv ga M' P a'/\Mod (PT ga gm gc) w0 W) (fun W b' h=>h.1 ▸ h.2.1.a) (fun W X=>(C W (H.ext X)).mono fun e w' h=>⟨h.1,a',rfl,h.2.1,(D.tr (Mod.of_ext X)).tr h.2.2⟩) (fun w' b' h=>by
  obtain⟨rfl,h1,h2⟩:=h;rw[if_neg hn];exact K w' h1 h2)
theorem WL (f:Nat)(ls:Ls)(i c:Nat)(hi:i<ls.length / 2)(hc:c=if Zt ls (2*i+1) (2*i) then 2*i+1 else 2*i)(hl:Zt ls c i=true) : Zx (f+1) ls i=Zx f ((ls.set i (ls.getD c [])).set c (ls.getD i [])) c:=by
 rw[Zx,if_pos hi,<-hc,if_pos hl]
theorem Xv (f:Nat)(ls:Ls)(i c:Nat)(hc:c=if Zt ls (2*i+1) (2*i) then 2*i+1 else 2*i)(hl:Zt ls c i=false) : Zx (f+1) ls i=ls:=by
 rw[Zx]
 by_cases hi:i<ls.length / 2
 ·rw[if_pos hi,<-hc,hl];rfl
 ·rw[if_neg hi]
theorem Vg (f:Nat)(ls:Ls)(i:Nat)(hi:¬i<ls.length / 2) : Zx f ls i=ls:=by
 cases f with
 | zero=>rfl
 | succ f=>rw[Zx,if_neg hi]
theorem VP (bs gm gc gp gn go gh ga n:Nat)(P:PoolS)(bd:Nat->Int)(hP:P.n=n)(hn:n<=4096)(hbd:PB P bd)(F:List Nat)(w0:World)(s0:Int)(hs0:0<=s0)(Q:World->Prop)(T:Ls)(hQ:∀ w' M' a' L',HW w' bs gm gc gp gn go gh (n+1) 6 ga M' P a'->a'.ph=15->a'.slot=s0->a'.push=false->LayQ M' n F L'->Zo bd L'=T->Mod (PT ga gm gc) w0 w'->Q w') : ∀ (g f i:Nat) (M:List Int) (a:HAct) (L:List (List Nat)) (w:World),g<=f->64<=i*2^g->1<=i->i<64->HW w bs gm gc gp gn go gh (n+1) 6 ga M P a->a.ph=7->a.pos=(i:Int)->a.slot=s0->a.push=false->LayQ M n F L->Mod (PT ga gm gc) w0 w->Zx f (Zo bd L) i=T->HRuns ga Q (7*g+1) w:=by
 intro g
 induction g with
 | zero=>intro f i M a L w _ hg;omega
 | succ g ih =>
  intro f i M a L w hgf hg h1 h2 H hph hpos hsl hpu hL D hT;obtain⟨f',hf⟩:∃ f',f=f'+1:=⟨f-1,by omega⟩;obtain⟨x,q1,q2,q3⟩:=hL.hd i h1 h2;have qx:=q3.rng (hL.llt i);have ln:=hL.len
  by_cases hi:2*i<=63
  ·obtain⟨y1,l1,l2,l3⟩:=hL.hd (2*i) (by omega) (by omega)
   obtain⟨y2,r1,r2,r3⟩:=hL.hd (2*i+1) (by omega) (by omega);have ql:=l3.rng (hL.llt (2*i));have qr:=r3.rng (hL.llt (2*i+1));have hg2:64<=(2*i)*2^g:=by rw[Nat.pow_succ,show i*(2^g*2)=(2*i)*2^g by rw[Nat.mul_comm (2^g) 2,<-Nat.mul_assoc,Nat.mul_comm i 2]] at hg;exact hg
   have e1:ZR bd y2 y1=Zt (Zo bd L) (2*i+1) (2*i):=Yl r3 l3;rw[show 7*(g+1)+1=(7*g+5+1+1)+1 by omega];refine QD { a with hd:=x,ph:=8 } H hph D (by simp) (fun W h=>Ud bs gm gc gp gn go gh (n+1) 6 ga M P a W h (by omega) (by omega) i hpos h1 (by omega) x q1 (by omega)) ?_;intro w1 H1 D1;refine QE { a with hd:=x,lh:=y1,ph:=9 } H1 rfl D1 (by simp) (fun W h=>VH bs gm gc gp gn go gh (n+1) 6 ga M P _ W h (by omega) i hpos h1 (by omega) y1 l1) ?_;intro w2 H2 D2;rw[show 7*g+5+1=(7*g+1+1+1+1+1)+1-0 by omega,Nat.sub_zero]
   cases hq:ZR bd y2 y1 with
   | true =>
    cases hr:ZR bd y2 x with
    | true =>
     have hc:2*i+1=if Zt (Zo bd L) (2*i+1) (2*i) then 2*i+1 else 2*i:=by rw[<-e1,hq];rfl
     have e2:ZR bd y2 x=Zt (Zo bd L) (2*i+1) i:=Yl r3 q3;refine Qf { a with hd:=x,lh:=y1,rh:=y2,ch:=2*(i:Int)+1,chh:=y2,ph:=10 } H2 rfl D2 (by simp) (fun W h=>VK bs gm gc gp gn go gh (n+1) 6 ga M P bd _ W h hbd (by omega) (by omega) i hpos h1 (by omega) y2 r1 q2 (by show pla x<_;omega) l2 (by show pla y1<_;omega) r2 (by omega) (by rw[hsl];exact hs0) hq hr) ?_;intro w3 H3 D3;refine Uk { a with hd:=x,lh:=y1,rh:=y2,ch:=2*(i:Int)+1,chh:=y2,held:=true,ph:=12 } H3 rfl D3 (by simp) (fun W h=>X9 bs gm gc gp gn go gh (n+1) 6 ga M P _ W h (by omega) (2*i+1) (by simp) (by omega) (by omega) y2 r1 r2 rfl) ?_;intro w4 H4 D4;refine Ul { a with hd:=x,lh:=y1,rh:=y2,ch:=2*(i:Int)+1,chh:=y2,held:=true,bare:=true,ph:=13 } H4 rfl D4 (by simp) (fun W h=>XZ bs gm gc gp gn go gh (n+1) 6 ga _ P _ W h (by omega) i hpos h1 (by omega) x (by rw[List.getElem?_set_ne (by omega)];exact q1) q2 rfl) ?_;intro w5 H5 D5;refine Um { a with hd:=x,lh:=y1,rh:=y2,ch:=2*(i:Int)+1,chh:=y2,held:=false,bare:=true,ph:=14 } H5 rfl D5 (by simp) (fun W h=>Xt bs gm gc gp gn go gh (n+1) 6 ga _ P _ W h (by omega) i hpos h1 (by omega) (upP x (-1)) (List.getElem?_set_self (by rw[List.length_set];omega)) q2 r2 (ZC _ _) rfl) ?_;intro w6 H6 D6;refine Un { a with hd:=x,lh:=y1,rh:=y2,ch:=2*(i:Int)+1,chh:=y2,held:=false,bare:=false,pos:=2*(i:Int)+1,ph:=7 } H6 rfl D6 (by simp) (fun W h=>Wa bs gm gc gp gn go gh (n+1) 6 ga _ P _ W h (by omega) (2*i+1) (by simp) (by omega) (by omega) (upP y2 (-1)) (by rw[List.getElem?_set_ne (by omega),List.getElem?_set_ne (by omega)];exact List.getElem?_set_self (by omega)) r2 q2 (ZC _ _) rfl) ?_;intro w7 H7 D7;exact ih f' (2*i+1) _ _ _ w7 (by omega) (Nat.le_trans hg2 (Nat.mul_le_mul_right _ (by omega))) (by omega) (by omega) H7 rfl (by simp) hsl hpu (hL.swap hn h1 h2 (by omega) (by omega) (by omega) q1 r1) D7 (by rw[Yb,Yb,<-hT,hf,WL f' _ i (2*i+1) (by rw[Yk,hL.ll];omega) hc (by rw[<-e2];exact hr),ZD,ZD])
    | false =>
     have hc:2*i+1=if Zt (Zo bd L) (2*i+1) (2*i) then 2*i+1 else 2*i:=by rw[<-e1,hq];rfl
     have e2:ZR bd y2 x=Zt (Zo bd L) (2*i+1) i:=Yl r3 q3;refine Uj { a with hd:=x,lh:=y1,rh:=y2,ch:=2*(i:Int)+1,chh:=y2,pos:=1,ph:=15 } H2 rfl D2 rfl (fun W h=>VL bs gm gc gp gn go gh (n+1) 6 ga M P bd _ W h hbd (by omega) (by omega) i hpos h1 (by omega) y2 (by rw[show 2*i+1-1=2*i+1-1 from rfl];exact r1) q2 (by show pla x<_;omega) l2 (by show pla y1<_;omega) r2 (by omega) (by rw[hsl];exact hs0) hq hr) ?_;intro w3 H3 D3;exact hQ w3 M _ L H3 rfl hsl hpu hL (by rw[<-hT,hf,Xv f' _ i (2*i+1) hc (by rw[<-e2];exact hr)]) D3
   | false =>
    cases hr:ZR bd y1 x with
    | true =>
     have hc:2*i=if Zt (Zo bd L) (2*i+1) (2*i) then 2*i+1 else 2*i:=by rw[<-e1,hq];rfl
     have e2:ZR bd y1 x=Zt (Zo bd L) (2*i) i:=Yl l3 q3;refine Qf { a with hd:=x,lh:=y1,rh:=y2,ch:=2*(i:Int),chh:=y1,ph:=10 } H2 rfl D2 (by simp) (fun W h=>VM bs gm gc gp gn go gh (n+1) 6 ga M P bd _ W h hbd (by omega) (by omega) i hpos h1 (by omega) y2 r1 q2 (by show pla x<_;omega) l2 (by show pla y1<_;omega) r2 (by omega) (by rw[hsl];exact hs0) hq hr) ?_;intro w3 H3 D3;refine Uk { a with hd:=x,lh:=y1,rh:=y2,ch:=2*(i:Int),chh:=y1,held:=true,ph:=12 } H3 rfl D3 (by simp) (fun W h=>X9 bs gm gc gp gn go gh (n+1) 6 ga M P _ W h (by omega) (2*i) (by simp) (by omega) (by omega) y1 l1 l2 rfl) ?_;intro w4 H4 D4;refine Ul { a with hd:=x,lh:=y1,rh:=y2,ch:=2*(i:Int),chh:=y1,held:=true,bare:=true,ph:=13 } H4 rfl D4 (by simp) (fun W h=>XZ bs gm gc gp gn go gh (n+1) 6 ga _ P _ W h (by omega) i hpos h1 (by omega) x (by rw[List.getElem?_set_ne (by omega)];exact q1) q2 rfl) ?_;intro w5 H5 D5;refine Um { a with hd:=x,lh:=y1,rh:=y2,ch:=2*(i:Int),chh:=y1,held:=false,bare:=true,ph:=14 } H5 rfl D5 (by simp) (fun W h=>Xt bs gm gc gp gn go gh (n+1) 6 ga _ P _ W h (by omega) i hpos h1 (by omega) (upP x (-1)) (List.getElem?_set_self (by rw[List.length_set];omega)) q2 l2 (ZC _ _) rfl) ?_;intro w6 H6 D6;refine Un { a with hd:=x,lh:=y1,rh:=y2,ch:=2*(i:Int),chh:=y1,held:=false,bare:=false,pos:=2*(i:Int),ph:=7 } H6 rfl D6 (by simp) (fun W h=>Wa bs gm gc gp gn go gh (n+1) 6 ga _ P _ W h (by omega) (2*i) (by simp) (by omega) (by omega) (upP y1 (-1)) (by rw[List.getElem?_set_ne (by omega),List.getElem?_set_ne (by omega)];exact List.getElem?_set_self (by omega)) l2 q2 (ZC _ _) rfl) ?_;intro w7 H7 D7;exact ih f' (2*i) _ _ _ w7 (by omega) (Nat.le_trans hg2 (Nat.mul_le_mul_right _ (by omega))) (by omega) (by omega) H7 rfl (by simp) hsl hpu (hL.swap hn h1 h2 (by omega) (by omega) (by omega) q1 l1) D7 (by rw[Yb,Yb,<-hT,hf,WL f' _ i (2*i) (by rw[Yk,hL.ll];omega) hc (by rw[<-e2];exact hr),ZD,ZD])
    | false =>
     have hc:2*i=if Zt (Zo bd L) (2*i+1) (2*i) then 2*i+1 else 2*i:=by rw[<-e1,hq];rfl
     have e2:ZR bd y1 x=Zt (Zo bd L) (2*i) i:=Yl l3 q3;refine Uj { a with hd:=x,lh:=y1,rh:=y2,ch:=2*(i:Int),chh:=y1,pos:=1,ph:=15 } H2 rfl D2 rfl (fun W h=>VN bs gm gc gp gn go gh (n+1) 6 ga M P bd _ W h hbd (by omega) (by omega) i hpos h1 (by omega) y2 (by rw[show 2*i+1-1=2*i+1-1 from rfl];exact r1) q2 (by show pla x<_;omega) l2 (by show pla y1<_;omega) r2 (by omega) (by rw[hsl];exact hs0) hq hr) ?_;intro w3 H3 D3;exact hQ w3 M _ L H3 rfl hsl hpu hL (by rw[<-hT,hf,Xv f' _ i (2*i) hc (by rw[<-e2];exact hr)]) D3
  ·refine Qo { a with hd:=x,pos:=1,ph:=15 } H hph D rfl (fun W h=>Vd bs gm gc gp gn go gh (n+1) 6 ga M P a W h (by omega) (by omega) i hpos h1 (by omega) x q1 (by omega) (by rw[hsl];exact hs0)) ?_
   intro w1 H1 D1;exact hQ w1 M _ L H1 rfl hsl hpu hL (by rw[<-hT,Vg f _ i (by rw[Yk,hL.ll];omega)]) D1
end
end Go.Proofs.Ytgimmiaenkeohaa
