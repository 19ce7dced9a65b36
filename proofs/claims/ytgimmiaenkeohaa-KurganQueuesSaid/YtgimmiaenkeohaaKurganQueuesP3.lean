/- parts, packed by a program -/
import Derived.Test.YtgimmiaenkeohaaKurganQueuesP2
set_option maxRecDepth 100000
set_option maxHeartbeats 16000000
set_option linter.all false
namespace Go.Proofs.Ytgimmiaenkeohaa
section
open Go.RowKit Go.ChangeShapes Go.WideShapes Go.ChangeAt
theorem VI (bs gm gc gp gn go gh b lv ga:Nat)(M:List Int)(P:PoolS)(a:HAct)(w:World)(H:HW w bs gm gc gp gn go gh b lv ga M P a)(hb:b<=1048576)(i:Nat)(hi:a.pos=(i:Int))(h1:1<=i)(h2:i<=1048576)(x:Int)(hx:M[b+(i-1)]?=some x)(ht:Zl a.hd)(ho:x=a.hd)(hw:a.owner=true) :
  Calls Try.prog 57 #[.pointer (some ⟨ga,0,none⟩)] w fun e w'=>e=.returned (.tuple #[])/\HW w' bs gm gc gp gn go gh b lv ga (M.set (b+(i-1)) (upP a.hd a.nx)) P { a with slot:=pla a.hd,ph:=7 }/\Mod (PT ga gm gc) w w':=by
 have SW:=fun(W:World) (X:Ext w W)=>ZY gm gc gh b lv ga gp M W (H.ext X).h (H.ext X).m _ _ (H.ext X).a rfl hb i h1 (by omega) x hx a.hd a.nx ht
 simp only[if_pos ho,decide_eq_true ho,Zw] at SW;replace SW:=Hd SW;have UN:=Hd (fun(W:World)=>Zn a.hd W ht);have HH:=Hd H;have k12:w.cell? ⟨ga,12,none⟩=some (.int .i64 (i:Int)):=(Blk.cell H.a 12).trans (by simp[HAct.cells,hi]);have k13:w.cell? ⟨ga,13,none⟩=some (.int .i64 a.hd):=Blk.cell H.a 13;have k14:w.cell? ⟨ga,14,none⟩=some (.int .i64 a.nx):=Blk.cell H.a 14;have za:=Blk.lt H.a;clear H hx;go_enter Try.func57,Try.ntmps57;go_upto_region 0 with(fail);refine wp_region_any (by kernel_rfl) ?_
 change wpAny _ _ _ _ _ _ _ (World.drew _)
 refine Za (i:=0) (op:=Op.move (Operand.tmp 0)) (t:=46) (d:=some 3) (v:=_) rfl (by decide +kernel) (fun _ _ _ h=>h) (by intro _;unfold Zb;go_simp;try with_reducible rfl) ?_
 try simp only[lay]
 refine Za (i:=1) (op:=Op.move (Operand.tmp 0)) (t:=46) (d:=some 4) (v:=_) rfl (by decide +kernel) (fun _ _ _ h=>h) (by intro _;unfold Zb;go_simp;try with_reducible rfl) ?_
 try simp only[lay]
 refine Za (i:=2) (op:=Op.nilCheck (Operand.tmp 4)) (t:=0) (d:=some 5) (v:=_) rfl (by decide +kernel) (fun _ _ _ h=>h) (by intro _;unfold Zb;go_simp;try with_reducible rfl) ?_
 try simp only[lay]
 refine Za (i:=3) (op:=Op.fieldAddr 85 (Operand.tmp 5) 12) (t:=0) (d:=some 6) (v:=_) rfl (by decide +kernel) (fun _ _ _ h=>h) (by intro _;unfold Zb;go_simp;try with_reducible rfl) ?_
 try simp only[lay]
 refine Za (i:=5) (op:=Op.move (Operand.tmp 0)) (t:=46) (d:=some 8) (v:=_) rfl (by decide +kernel) (fun _ _ _ h=>h) (by intro _;unfold Zb;go_simp;try with_reducible rfl) ?_
 try simp only[lay]
 refine Za (i:=6) (op:=Op.nilCheck (Operand.tmp 8)) (t:=0) (d:=some 9) (v:=_) rfl (by decide +kernel) (fun _ _ _ h=>h) (by intro _;unfold Zb;go_simp;try with_reducible rfl) ?_
 try simp only[lay]
 refine Za (i:=7) (op:=Op.fieldAddr 85 (Operand.tmp 9) 13) (t:=0) (d:=some 10) (v:=_) rfl (by decide +kernel) (fun _ _ _ h=>h) (by intro _;unfold Zb;go_simp;try with_reducible rfl) ?_
 try simp only[lay]
 refine Za (i:=9) (op:=Op.move (Operand.tmp 0)) (t:=46) (d:=some 12) (v:=_) rfl (by decide +kernel) (fun _ _ _ h=>h) (by intro _;unfold Zb;go_simp;try with_reducible rfl) ?_
 try simp only[lay]
 refine Za (i:=10) (op:=Op.nilCheck (Operand.tmp 12)) (t:=0) (d:=some 13) (v:=_) rfl (by decide +kernel) (fun _ _ _ h=>h) (by intro _;unfold Zb;go_simp;try with_reducible rfl) ?_
 try simp only[lay]
 refine Za (i:=11) (op:=Op.fieldAddr 85 (Operand.tmp 13) 14) (t:=0) (d:=some 14) (v:=_) rfl (by decide +kernel) (fun _ _ _ h=>h) (by intro _;unfold Zb;go_simp;try with_reducible rfl) ?_
 try simp only[lay]
 refine Zi (n:=2) [(4,some 7),(8,some 11),(12,some 15)] (Ext w) (VF (fun | 4=>some (.int .i64 (i:Int)) | 8=>some (.int .i64 a.hd) | 12=>some (.int .i64 a.nx) | _=>none) (fun i v W=>True)) Ext #[true,true,true,true,true,true,true,true,true,true,true,true,true,false,false] (by decide +kernel) (VF.stab ?_) ?_ ?_ (by first | exact(Ext.rf _).drew | exact Ext.rf _)
 ·intro j v W W' _ _ _;trivial
 ·intro pS hpm uS wS hRW hD K hK
  simp only[List.mem_cons,List.not_mem_nil,or_false] at hpm;rcases hpm with rfl | rfl | rfl
  ·( have rX:=Zf hRW za k12;exact Ze (T:=3) (x:=Operand.tmp 6) (t:=3) (d:=some 7) rfl (.pointer (some ⟨ga,12,none⟩)) (by kernel_rfl) (.int .i64 (i:Int)) (by go_simp) (hK _ _ (VF.mk rfl) hRW (Ext.rf _)))
  ·( have rX:=Zf hRW za k13;exact Ze (T:=3) (x:=Operand.tmp 10) (t:=3) (d:=some 11) rfl (.pointer (some ⟨ga,13,none⟩)) (by kernel_rfl) (.int .i64 a.hd) (by go_simp) (hK _ _ (VF.mk rfl) hRW (Ext.rf _)))
  ·( have rX:=Zf hRW za k14;exact Ze (T:=3) (x:=Operand.tmp 14) (t:=3) (d:=some 15) rfl (.pointer (some ⟨ga,14,none⟩)) (by kernel_rfl) (.int .i64 a.nx) (by go_simp) (hK _ _ (VF.mk rfl) hRW (Ext.rf _)))
 intro u w3 hR3 hV;have h4:=(hV (4,some 7) (by simp)).k rfl;have h8:=(hV (8,some 11) (by simp)).k rfl;have h12:=(hV (12,some 15) (by simp)).k rfl;simp only[Zc,h4,h8,h12];clear hV h4 h8 h12
 try simp only[lay]
 refine Zd 13 (by decide +kernel) (Zh (f:=78) (xs:=#[Operand.tmp 3,Operand.tmp 7,Operand.tmp 11,Operand.tmp 15]) (ts:=#[46,3,3,3]) (t:=4) (d:=some 16) rfl #[.pointer (some ⟨ga,0,none⟩),.int .i64 (i:Int),.int .i64 a.hd,.int .i64 a.nx] (by go_simp) (by kernel_rfl) _ (SW.out _ hR3) ?_);rintro e w4 ⟨rfl,m4,d4⟩;have H4:=Hd ((HH.out.ext hR3).cell m4 d4);have D4:=Hd (((Mod.of_ext hR3:Mod (CS gm gc) w w3).tr d4).mono fun b _ h=>(.inr h:PT ga gm gc b));clear m4 d4 hR3 SW k12 k13 k14;refine⟨_,rfl,?_⟩
 try simp only[lay]
 refine Za (i:=14) (op:=Op.assign (Operand.tmp 16)) (t:=4) (d:=some 2) (v:=_) rfl (by decide +kernel) (fun _ _ _ h=>h) (by intro _;unfold Zb;go_simp;try with_reducible rfl) ?_
 try simp only[lay]
 refine wpAny_done (by kernel_rfl) ?_ _;go_simp;have k4:w4.cell? ⟨ga,4,none⟩=some (.bool true):=(Blk.cell H4.out.a 4).trans (by simp[HAct.cells,hw]);replace hw:=Hd hw;have k13:w4.cell? ⟨ga,13,none⟩=some (.int .i64 a.hd):=Blk.cell H4.out.a 13;go_wp2_with (go_quiet (fail));refine(UN.out _).mono ?_;rintro e w5 ⟨rfl,x5⟩;have X5:=Hd (Ext.tr (a:=w4) XI x5);have H5:=Hd (H4.out.ext X5.out);have D5:=Hd (D4.out.ext X5.out);clear x5 UN k4 k13;have c0:w5.cell? ⟨ga,2,none⟩=some (.int .i64 a.slot):=Blk.cell H5.out.a 2;have f0:w5.frozen? ⟨ga,2,none⟩=false:=Blk.free H5.out.a 2;have k4:w5.cell? ⟨ga,4,none⟩=some (.bool true):=(Blk.cell H5.out.a 4).trans (by simp[HAct.cells,hw.out]);obtain⟨q1,q2⟩:=H5.out.field 2 (.int .i64 (pla a.hd)) (a':={ a with slot:=pla a.hd }) rfl;have c1:(w5.setCell ⟨ga,2,none⟩ (.int .i64 (pla a.hd))).cell? ⟨ga,1,none⟩=some (.int .i64 a.ph):=Blk.cell q1.a 1;have f1:(w5.setCell ⟨ga,2,none⟩ (.int .i64 (pla a.hd))).frozen? ⟨ga,1,none⟩=false:=Blk.free q1.a 1;obtain⟨s1,s2⟩:=q1.field 1 (.int .i64 7) (a':={ a with slot:=pla a.hd,ph:=7 }) rfl;have S1:=Hd s1;have S2:=Hd ((D5.out.tr (q2.mono fun b _ h=>(.inl h:PT ga gm gc b))).tr (s2.mono fun b _ h=>(.inl h:PT ga gm gc b)));clear q1 q2 s1 s2;go_wp2_with (go_quiet (fail));go_end0;exact⟨rfl,S1.out,S2.out⟩
theorem WK (bs gm gc gp gn go gh b lv ga:Nat)(M:List Int)(P:PoolS)(a:HAct)(w:World)(H:HW w bs gm gc gp gn go gh b lv ga M P a)(hb:b<=1048576)(hl:lv<=20)(ht:Zl a.hd)(s:Nat)(hs:pla a.hd=(s:Int))(hs2:s<=100000)(y:Int)(hy:M[b+(2^lv-1)+s]?=some y) :
  Calls Try.prog 56 #[.pointer (some ⟨ga,0,none⟩)] w fun e w'=>e=.returned (.tuple #[])/\HW w' bs gm gc gp gn go gh b lv ga M P { a with nx:=y,ph:=6 }/\Mod (PT ga gm gc) w w':=by
 have LI:=Hd (fun(W:World) (X:Ext w W)=>XS gh gm gp b lv W (H.ext X).h hl s hs2 hb);have GE:=Hd (fun(W:World) (h:MemB W gm gc M)=>YC gm gc M (b+(2^lv-1)+s) y W h hy);have UN:=Hd (fun(W:World)=>Zn a.hd W ht);have HH:=Hd H;have k13:w.cell? ⟨ga,13,none⟩=some (.int .i64 a.hd):=Blk.cell H.a 13;clear H hy;rw[hs] at UN;generalize b+(2^lv-1)+s=q at *;go_enter Try.func56,Try.ntmps56;go_wp2_with (fail);refine(UN.out _).mono ?_;rintro e w1 ⟨rfl,x1⟩;have X1:=Hd (Ext.tr (a:=w) XI x1);have H1:=Hd (HH.out.ext X1.out);clear x1 UN k13;have k0:w1.cell? ⟨ga,0,none⟩=some (.pointer (some ⟨gh,0,none⟩)):=Blk.cell H1.out.a 0;have h0:w1.cell? ⟨gh,0,none⟩=some (.pointer (some ⟨gm,0,none⟩)):=Blk.cell H1.out.h 0;have za:=Blk.lt H1.out.a;have zh:=Blk.lt H1.out.h;go_upto_region 1 with(fail);refine wp_region_any (by kernel_rfl) ?_
 change wpAny _ _ _ _ _ _ _ (World.drew _)
 refine Za (i:=0) (op:=Op.move (Operand.tmp 0)) (t:=46) (d:=some 13) (v:=_) rfl (by decide +kernel) (fun _ _ _ h=>h) (by intro _;unfold Zb;go_simp;try with_reducible rfl) ?_
 try simp only[lay]
 refine Za (i:=1) (op:=Op.move (Operand.tmp 0)) (t:=46) (d:=some 14) (v:=_) rfl (by decide +kernel) (fun _ _ _ h=>h) (by intro _;unfold Zb;go_simp;try with_reducible rfl) ?_
 try simp only[lay]
 refine Za (i:=2) (op:=Op.nilCheck (Operand.tmp 14)) (t:=0) (d:=some 15) (v:=_) rfl (by decide +kernel) (fun _ _ _ h=>h) (by intro _;unfold Zb;go_simp;try with_reducible rfl) ?_
 try simp only[lay]
 refine Za (i:=3) (op:=Op.fieldAddr 85 (Operand.tmp 15) 0) (t:=0) (d:=some 16) (v:=_) rfl (by decide +kernel) (fun _ _ _ h=>h) (by intro _;unfold Zb;go_simp;try with_reducible rfl) ?_
 try simp only[lay]
 refine Za (i:=8) (op:=Op.move (Operand.tmp 0)) (t:=46) (d:=some 21) (v:=_) rfl (by decide +kernel) (fun _ _ _ h=>h) (by intro _;unfold Zb;go_simp;try with_reducible rfl) ?_
 try simp only[lay]
 refine Za (i:=9) (op:=Op.nilCheck (Operand.tmp 21)) (t:=0) (d:=some 22) (v:=_) rfl (by decide +kernel) (fun _ _ _ h=>h) (by intro _;unfold Zb;go_simp;try with_reducible rfl) ?_
 try simp only[lay]
 refine Za (i:=10) (op:=Op.fieldAddr 85 (Operand.tmp 22) 0) (t:=0) (d:=some 23) (v:=_) rfl (by decide +kernel) (fun _ _ _ h=>h) (by intro _;unfold Zb;go_simp;try with_reducible rfl) ?_
 try simp only[lay]
 refine Za (i:=12) (op:=Op.move (Operand.tmp 3)) (t:=3) (d:=some 25) (v:=_) rfl (by decide +kernel) (fun _ _ _ h=>h) (by intro _;unfold Zb;go_simp;try with_reducible rfl) ?_
 try simp only[lay]
 refine Zi (n:=7) [(4,some 17),(5,some 18),(6,some 19),(7,some 20),(11,some 24),(13,some 26)] (Ext w1) (VF (fun | 4=>some (.pointer (some ⟨gh,0,none⟩)) | 5=>some (.pointer (some ⟨gh,0,none⟩)) | 6=>some (.pointer (some ⟨gh,0,none⟩)) | 7=>some (.pointer (some ⟨gm,0,none⟩)) | 11=>some (.pointer (some ⟨gh,0,none⟩)) | 13=>some (.int .i64 (q:Int)) | _=>none) (fun i v W=>True)) Ext #[true,true,true,true,true,true,true,true,true,true,true,true,true,true,false,false,false,false,false,false,false] (by decide +kernel) (VF.stab ?_) ?_ ?_ (by first | exact(Ext.rf _).drew | exact Ext.rf _)
 ·intro j v W W' _ _ _;trivial
 ·intro pS hpm uS wS hRW hD K hK
  simp only[List.mem_cons,List.not_mem_nil,or_false] at hpm;rcases hpm with rfl | rfl | rfl | rfl | rfl | rfl
  ·( have rX:=Zf hRW za k0;exact Ze (T:=32) (x:=Operand.tmp 16) (t:=32) (d:=some 17) rfl (.pointer (some ⟨ga,0,none⟩)) (by kernel_rfl) (.pointer (some ⟨gh,0,none⟩)) (by go_simp) (hK _ _ (VF.mk rfl) hRW (Ext.rf _)))
  ·(have e4:uS 4=.pointer (some ⟨gh,0,none⟩):=(hD 4 (Zg (by kernel_rfl))).k rfl;exact Zm (op:=Op.nilCheck (Operand.tmp 17)) (t:=0) (d:=some 18) rfl (.pointer (some ⟨gh,0,none⟩)) (by simp only[Zc,Act.put,List.setIfInBounds_toArray,List.set_cons_zero,List.set_cons_succ];unfold Zb;(try go_simp);(try simp only[e4]);(try go_simp);(try rfl);(try (exact IntWalk.i64_in _ (by omega)))) (hK _ _ (VF.mk rfl) hRW (Ext.rf _)))
  ·(have e5:uS 5=.pointer (some ⟨gh,0,none⟩):=(hD 5 (Zg (by kernel_rfl))).k rfl;exact Zm (op:=Op.fieldAddr 69 (Operand.tmp 18) 0) (t:=0) (d:=some 19) rfl (.pointer (some ⟨gh,0,none⟩)) (by simp only[Zc,Act.put,List.setIfInBounds_toArray,List.set_cons_zero,List.set_cons_succ];unfold Zb;(try go_simp);(try simp only[e5]);(try go_simp);(try rfl);(try (exact IntWalk.i64_in _ (by omega)))) (hK _ _ (VF.mk rfl) hRW (Ext.rf _)))
  ·(have e6:uS 6=.pointer (some ⟨gh,0,none⟩):=(hD 6 (Zg (by kernel_rfl))).k rfl;have rX:=Zf hRW zh h0;exact Ze (T:=24) (x:=Operand.tmp 19) (t:=24) (d:=some 20) rfl (.pointer (some ⟨gh,0,none⟩)) (Eq.trans (b:=uS 6) (by kernel_rfl) e6) (.pointer (some ⟨gm,0,none⟩)) (by go_simp) (hK _ _ (VF.mk rfl) hRW (Ext.rf _)))
  ·( have rX:=Zf hRW za k0;exact Ze (T:=32) (x:=Operand.tmp 23) (t:=32) (d:=some 24) rfl (.pointer (some ⟨ga,0,none⟩)) (by kernel_rfl) (.pointer (some ⟨gh,0,none⟩)) (by go_simp) (hK _ _ (VF.mk rfl) hRW (Ext.rf _)))
  ·(have e11:uS 11=.pointer (some ⟨gh,0,none⟩):=(hD 11 (Zg (by kernel_rfl))).k rfl;exact Zh (f:=77) (xs:=#[Operand.tmp 24,Operand.tmp 25]) (ts:=#[32,3]) (t:=3) (d:=some 26) rfl #[.pointer (some ⟨gh,0,none⟩),.int .i64 (s:Int)] (by go_simp) (Eq.trans (b:=#[uS 11,.int .i64 (s:Int)]) (by kernel_rfl) (by rw[e11])) _ (LI.out _ (X1.out.tr hRW)) (by rintro e w9 ⟨rfl,xx⟩;exact⟨_,rfl,hK _ _ (VF.mk rfl) (hRW.tr xx) xx⟩))
 intro u w3 hR3 hV;have h4:=(hV (4,some 17) (by simp)).k rfl;have h5:=(hV (5,some 18) (by simp)).k rfl;have h6:=(hV (6,some 19) (by simp)).k rfl;have h7:=(hV (7,some 20) (by simp)).k rfl;have h11:=(hV (11,some 24) (by simp)).k rfl;have h13:=(hV (13,some 26) (by simp)).k rfl;simp only[Zc,h4,h5,h6,h7,h11,h13];clear hV h4 h5 h6 h7 h11 h13
 try simp only[lay]
 refine Zd 14 (by decide +kernel) (Zh (f:=70) (xs:=#[Operand.tmp 20,Operand.tmp 26]) (ts:=#[24,3]) (t:=97) (d:=some 27) rfl #[.pointer (some ⟨gm,0,none⟩),.int .i64 (q:Int)] (by go_simp) (by kernel_rfl) _ (GE.out _ (H1.out.ext hR3).m) ?_);rintro e w4 ⟨rfl,m4,d4⟩;have H4:=Hd ((H1.out.ext hR3).cell m4 d4);have D4:=Hd (((Mod.of_ext (X1.out.tr hR3):Mod (CS gm gc) w w3).tr d4).mono fun b _ h=>(.inr h:PT ga gm gc b));clear m4 d4 hR3 GE LI k0 h0;refine⟨_,rfl,?_⟩
 try simp only[lay]
 refine Za (i:=15) (op:=Op.move (Operand.tmp 27)) (t:=97) (d:=some 12) (v:=_) rfl (by decide +kernel) (fun _ _ _ h=>h) (by intro _;unfold Zb;go_simp;try with_reducible rfl) ?_
 try simp only[lay]
 refine Za (i:=16) (op:=Op.extract (Operand.tmp 12) 0) (t:=3) (d:=some 28) (v:=_) rfl (by decide +kernel) (fun _ _ _ h=>h) (by intro _;unfold Zb;go_simp;try with_reducible rfl) ?_
 try simp only[lay]
 refine Za (i:=17) (op:=Op.extract (Operand.tmp 12) 1) (t:=25) (d:=some 29) (v:=_) rfl (by decide +kernel) (fun _ _ _ h=>h) (by intro _;unfold Zb;go_simp;try with_reducible rfl) ?_
 try simp only[lay]
 refine Za (i:=18) (op:=Op.nilCheck (Operand.tmp 13)) (t:=0) (d:=some 30) (v:=_) rfl (by decide +kernel) (fun _ _ _ h=>h) (by intro _;unfold Zb;go_simp;try with_reducible rfl) ?_
 try simp only[lay]
 refine Za (i:=19) (op:=Op.fieldAddr 85 (Operand.tmp 30) 14) (t:=0) (d:=some 31) (v:=_) rfl (by decide +kernel) (fun _ _ _ h=>h) (by intro _;unfold Zb;go_simp;try with_reducible rfl) ?_
 try simp only[lay]
 have k14:w4.cell? ⟨ga,14,none⟩=some (.int .i64 a.nx):=Blk.cell H4.out.a 14;have f14:w4.frozen? ⟨ga,14,none⟩=false:=Blk.free H4.out.a 14;obtain⟨q1,q2⟩:=H4.out.field 14 (.int .i64 y) (a':={ a with nx:=y }) rfl;have Q1:=Hd q1;have Q2:=Hd (D4.out.tr (q2.mono fun b _ h=>(.inl h:PT ga gm gc b)));clear q1 q2 H4 D4;refine Zd 20 (by decide +kernel) (ZQ rfl (.pointer (some ⟨ga,14,none⟩)) (.int .i64 y) (by kernel_rfl) (by kernel_rfl) (by go_simp;rfl) ?_);refine wpAny_done (by kernel_rfl) ?_ _;go_simp;clear k14 f14;generalize w4.setCell ⟨ga,14,none⟩ (.int .i64 y)=w5 at *;have c1:w5.cell? ⟨ga,1,none⟩=some (.int .i64 a.ph):=Blk.cell Q1.out.a 1;have f1:w5.frozen? ⟨ga,1,none⟩=false:=Blk.free Q1.out.a 1;obtain⟨s1,s2⟩:=Q1.out.field 1 (.int .i64 6) (a':={ a with nx:=y,ph:=6 }) rfl;have S1:=Hd s1;have S2:=Hd (Q2.out.tr (s2.mono fun b _ h=>(.inl h:PT ga gm gc b)));clear s1 s2;go_wp2_with (fail);go_end0;exact⟨rfl,S1.out,S2.out⟩
theorem Ud (bs gm gc gp gn go gh b lv ga:Nat)(M:List Int)(P:PoolS)(a:HAct)(w:World)(H:HW w bs gm gc gp gn go gh b lv ga M P a)(hb:b<=1048576)(hl:lv<=20)(i:Nat)(hi:a.pos=(i:Int))(h1:1<=i)(h2:i<=1048576)(x:Int)(hx:M[b+(i-1)]?=some x)(hp:2*i<=2^lv-1) :
  Calls Try.prog 58 #[.pointer (some ⟨ga,0,none⟩)] w fun e w'=>e=.returned (.tuple #[])/\HW w' bs gm gc gp gn go gh b lv ga M P { a with hd:=x,ph:=8 }/\Mod (PT ga gm gc) w w':=by
 have RE:=Hd (fun(W:World) (X:Ext w W)=>ZA gm gc gh b lv ga gp M W (H.ext X).h (H.ext X).m _ _ (H.ext X).a rfl hb i h1 (by omega) x hx);have PL:=Hd (fun(W:World) (h:ZK W gh gm gp b lv)=>Z7 gh gm gp b lv W h hl);have HH:=Hd H;have k12:w.cell? ⟨ga,12,none⟩=some (.int .i64 (i:Int)):=(Blk.cell H.a 12).trans (by simp[HAct.cells,hi]);have w1:IntKind.i64.wrap (2*(i:Int))=2*(i:Int):=IntWalk.i64_in _ (by omega);clear H hx;generalize 2^lv-1=n at *;have e9:¬2*(i:Int)>(n:Int):=by omega
 go_enter Try.func58,Try.ntmps58;go_wp2_with (fail);refine(RE.out _ XI).mono ?_;rintro e w1 ⟨rfl,m1,d1⟩;have H1:=Hd (HH.out.cell m1 d1);replace d1:=Hd d1;clear m1 RE k12;have c0:w1.cell? ⟨ga,13,none⟩=some (.int .i64 a.hd):=Blk.cell H1.out.a 13;have f0:w1.frozen? ⟨ga,13,none⟩=false:=Blk.free H1.out.a 13;obtain⟨q1,q2⟩:=H1.out.field 13 (.int .i64 x) (a':={ a with hd:=x }) rfl;have c1:(w1.setCell ⟨ga,13,none⟩ (.int .i64 x)).cell? ⟨ga,1,none⟩=some (.int .i64 a.ph):=Blk.cell q1.a 1;have f1:(w1.setCell ⟨ga,13,none⟩ (.int .i64 x)).frozen? ⟨ga,1,none⟩=false:=Blk.free q1.a 1;obtain⟨s1,s2⟩:=q1.field 1 (.int .i64 8) (a':={ a with hd:=x,ph:=8 }) rfl;have S1:=Hd s1;have S2:=Hd (((d1.out.mono fun b _ h=>(.inr h:PT ga gm gc b)).tr (q2.mono fun b _ h=>(.inl h:PT ga gm gc b))).tr (s2.mono fun b _ h=>(.inl h:PT ga gm gc b)));clear q1 q2 d1 s1 s2;go_upto_region 2 with(fail);clear c0 f0 c1 f1 H1;generalize (w1.setCell ⟨ga,13,none⟩ (.int .i64 x)).setCell ⟨ga,1,none⟩ (.int .i64 8)=w5 at *;have k12:w5.cell? ⟨ga,12,none⟩=some (.int .i64 (i:Int)):=(Blk.cell S1.out.a 12).trans (by simp[HAct.cells,hi]);have k0:w5.cell? ⟨ga,0,none⟩=some (.pointer (some ⟨gh,0,none⟩)):=Blk.cell S1.out.a 0;have za:=Blk.lt S1.out.a;refine wp_region_any (by kernel_rfl) ?_
 change wpAny _ _ _ _ _ _ _ (World.drew _)
 refine Za (i:=0) (op:=Op.move (Operand.tmp 0)) (t:=46) (d:=some 14) (v:=_) rfl (by decide +kernel) (fun _ _ _ h=>h) (by intro _;unfold Zb;go_simp;try with_reducible rfl) ?_
 try simp only[lay]
 refine Za (i:=1) (op:=Op.nilCheck (Operand.tmp 14)) (t:=0) (d:=some 15) (v:=_) rfl (by decide +kernel) (fun _ _ _ h=>h) (by intro _;unfold Zb;go_simp;try with_reducible rfl) ?_
 try simp only[lay]
 refine Za (i:=2) (op:=Op.fieldAddr 85 (Operand.tmp 15) 12) (t:=0) (d:=some 16) (v:=_) rfl (by decide +kernel) (fun _ _ _ h=>h) (by intro _;unfold Zb;go_simp;try with_reducible rfl) ?_
 try simp only[lay]
 refine Za (i:=5) (op:=Op.move (Operand.tmp 0)) (t:=46) (d:=some 19) (v:=_) rfl (by decide +kernel) (fun _ _ _ h=>h) (by intro _;unfold Zb;go_simp;try with_reducible rfl) ?_
 try simp only[lay]
 refine Za (i:=6) (op:=Op.nilCheck (Operand.tmp 19)) (t:=0) (d:=some 20) (v:=_) rfl (by decide +kernel) (fun _ _ _ h=>h) (by intro _;unfold Zb;go_simp;try with_reducible rfl) ?_
 try simp only[lay]
 refine Za (i:=7) (op:=Op.fieldAddr 85 (Operand.tmp 20) 0) (t:=0) (d:=some 21) (v:=_) rfl (by decide +kernel) (fun _ _ _ h=>h) (by intro _;unfold Zb;go_simp;try with_reducible rfl) ?_
 try simp only[lay]
 refine Zi (n:=1) [(3,some 17),(4,some 18),(8,some 22),(9,some 23)] (Ext w5) (VF (fun | 3=>some (.int .i64 (i:Int)) | 4=>some (.int .i64 (2*(i:Int))) | 8=>some (.pointer (some ⟨gh,0,none⟩)) | 9=>some (.int .i64 (n:Int)) | _=>none) (fun i v W=>True)) Ext #[true,true,true,true,true,true,true,true,true,true,false] (by decide +kernel) (VF.stab ?_) ?_ ?_ (by first | exact(Ext.rf _).drew | exact Ext.rf _)
 ·intro j v W W' _ _ _;trivial
 ·intro pS hpm uS wS hRW hD K hK
  simp only[List.mem_cons,List.not_mem_nil,or_false] at hpm;rcases hpm with rfl | rfl | rfl | rfl
  ·( have rX:=Zf hRW za k12;exact Ze (T:=3) (x:=Operand.tmp 16) (t:=3) (d:=some 17) rfl (.pointer (some ⟨ga,12,none⟩)) (by kernel_rfl) (.int .i64 (i:Int)) (by go_simp) (hK _ _ (VF.mk rfl) hRW (Ext.rf _)))
  ·(have e3:uS 3=.int .i64 (i:Int):=(hD 3 (Zg (by kernel_rfl))).k rfl;exact Zm (op:=Op.binOp BinOp.mul 3 (Operand.const (Value.int IntKind.i64 2)) (Operand.tmp 17) 3) (t:=3) (d:=some 18) rfl (.int .i64 (2*(i:Int))) (by simp only[Zc,Act.put,List.setIfInBounds_toArray,List.set_cons_zero,List.set_cons_succ];unfold Zb;(try go_simp);(try simp only[e3]);(try go_simp);(try rfl);(try (exact IntWalk.i64_in _ (by omega)))) (hK _ _ (VF.mk rfl) hRW (Ext.rf _)))
  ·( have rX:=Zf hRW za k0;exact Ze (T:=32) (x:=Operand.tmp 21) (t:=32) (d:=some 22) rfl (.pointer (some ⟨ga,0,none⟩)) (by kernel_rfl) (.pointer (some ⟨gh,0,none⟩)) (by go_simp) (hK _ _ (VF.mk rfl) hRW (Ext.rf _)))
  ·(have e8:uS 8=.pointer (some ⟨gh,0,none⟩):=(hD 8 (Zg (by kernel_rfl))).k rfl;exact Zh (f:=31) (xs:=#[Operand.tmp 22]) (ts:=#[32]) (t:=3) (d:=some 23) rfl #[.pointer (some ⟨gh,0,none⟩)] (by go_simp) (Eq.trans (b:=#[uS 8]) (by kernel_rfl) (by rw[e8])) _ (PL.out _ (S1.out.ext hRW).h) (by rintro e w9 ⟨rfl,xx⟩;exact⟨_,rfl,hK _ _ (VF.mk rfl) (hRW.tr xx) xx⟩))
 intro u w6 hR6 hV;have h3:=(hV (3,some 17) (by simp)).k rfl;have h4:=(hV (4,some 18) (by simp)).k rfl;have h8:=(hV (8,some 22) (by simp)).k rfl;have h9:=(hV (9,some 23) (by simp)).k rfl;simp only[Zc,h3,h4,h8,h9];clear hV h3 h4 h8 h9
 try simp only[lay]
 refine Za (i:=10) (op:=Op.binOp BinOp.gtr 3 (Operand.tmp 18) (Operand.tmp 23) 3) (t:=4) (d:=some 24) (v:=_) rfl (by decide +kernel) (fun _ _ _ h=>h) (by intro _;unfold Zb;go_simp;try with_reducible rfl) ?_
 try simp only[lay]
 refine wpAny_done (by kernel_rfl) ?_ _;go_simp;have R1:=Hd (S1.out.ext hR6);have R2:=Hd (S2.out.ext hR6);clear S1 S2 k12 k0 PL hR6;go_wp2_with (go_quiet (fail));go_end0;exact⟨rfl,R1.out,R2.out⟩
theorem Vd (bs gm gc gp gn go gh b lv ga:Nat)(M:List Int)(P:PoolS)(a:HAct)(w:World)(H:HW w bs gm gc gp gn go gh b lv ga M P a)(hb:b<=1048576)(hl:lv<=20)(i:Nat)(hi:a.pos=(i:Int))(h1:1<=i)(h2:i<=1048576)(x:Int)(hx:M[b+(i-1)]?=some x)(hp:2^lv-1<2*i)(hs:0<=a.slot) :
  Calls Try.prog 58 #[.pointer (some ⟨ga,0,none⟩)] w fun e w'=>e=.returned (.tuple #[])/\HW w' bs gm gc gp gn go gh b lv ga M P { a with hd:=x,pos:=1,ph:=15 }/\Mod (PT ga gm gc) w w':=by
 have RE:=Hd (fun(W:World) (X:Ext w W)=>ZA gm gc gh b lv ga gp M W (H.ext X).h (H.ext X).m _ _ (H.ext X).a rfl hb i h1 (by omega) x hx);have PL:=Hd (fun(W:World) (h:ZK W gh gm gp b lv)=>Z7 gh gm gp b lv W h hl);have HH:=Hd H;have k12:w.cell? ⟨ga,12,none⟩=some (.int .i64 (i:Int)):=(Blk.cell H.a 12).trans (by simp[HAct.cells,hi]);have w1:IntKind.i64.wrap (2*(i:Int))=2*(i:Int):=IntWalk.i64_in _ (by omega);clear H hx;generalize 2^lv-1=n at *;have e9:2*(i:Int)>(n:Int):=by omega
 go_enter Try.func58,Try.ntmps58;go_wp2_with (fail);refine(RE.out _ XI).mono ?_;rintro e w1 ⟨rfl,m1,d1⟩;have H1:=Hd (HH.out.cell m1 d1);replace d1:=Hd d1;clear m1 RE k12;have c0:w1.cell? ⟨ga,13,none⟩=some (.int .i64 a.hd):=Blk.cell H1.out.a 13;have f0:w1.frozen? ⟨ga,13,none⟩=false:=Blk.free H1.out.a 13;obtain⟨q1,q2⟩:=H1.out.field 13 (.int .i64 x) (a':={ a with hd:=x }) rfl;have c1:(w1.setCell ⟨ga,13,none⟩ (.int .i64 x)).cell? ⟨ga,1,none⟩=some (.int .i64 a.ph):=Blk.cell q1.a 1;have f1:(w1.setCell ⟨ga,13,none⟩ (.int .i64 x)).frozen? ⟨ga,1,none⟩=false:=Blk.free q1.a 1;obtain⟨s1,s2⟩:=q1.field 1 (.int .i64 8) (a':={ a with hd:=x,ph:=8 }) rfl;have S1:=Hd s1;have S2:=Hd (((d1.out.mono fun b _ h=>(.inr h:PT ga gm gc b)).tr (q2.mono fun b _ h=>(.inl h:PT ga gm gc b))).tr (s2.mono fun b _ h=>(.inl h:PT ga gm gc b)));clear q1 q2 d1 s1 s2;go_upto_region 2 with(fail);clear c0 f0 c1 f1 H1;generalize (w1.setCell ⟨ga,13,none⟩ (.int .i64 x)).setCell ⟨ga,1,none⟩ (.int .i64 8)=w5 at *;have k12:w5.cell? ⟨ga,12,none⟩=some (.int .i64 (i:Int)):=(Blk.cell S1.out.a 12).trans (by simp[HAct.cells,hi]);have k0:w5.cell? ⟨ga,0,none⟩=some (.pointer (some ⟨gh,0,none⟩)):=Blk.cell S1.out.a 0;have za:=Blk.lt S1.out.a;refine wp_region_any (by kernel_rfl) ?_
 change wpAny _ _ _ _ _ _ _ (World.drew _)
 refine Za (i:=0) (op:=Op.move (Operand.tmp 0)) (t:=46) (d:=some 14) (v:=_) rfl (by decide +kernel) (fun _ _ _ h=>h) (by intro _;unfold Zb;go_simp;try with_reducible rfl) ?_
 try simp only[lay]
 refine Za (i:=1) (op:=Op.nilCheck (Operand.tmp 14)) (t:=0) (d:=some 15) (v:=_) rfl (by decide +kernel) (fun _ _ _ h=>h) (by intro _;unfold Zb;go_simp;try with_reducible rfl) ?_
 try simp only[lay]
 refine Za (i:=2) (op:=Op.fieldAddr 85 (Operand.tmp 15) 12) (t:=0) (d:=some 16) (v:=_) rfl (by decide +kernel) (fun _ _ _ h=>h) (by intro _;unfold Zb;go_simp;try with_reducible rfl) ?_
 try simp only[lay]
 refine Za (i:=5) (op:=Op.move (Operand.tmp 0)) (t:=46) (d:=some 19) (v:=_) rfl (by decide +kernel) (fun _ _ _ h=>h) (by intro _;unfold Zb;go_simp;try with_reducible rfl) ?_
 try simp only[lay]
 refine Za (i:=6) (op:=Op.nilCheck (Operand.tmp 19)) (t:=0) (d:=some 20) (v:=_) rfl (by decide +kernel) (fun _ _ _ h=>h) (by intro _;unfold Zb;go_simp;try with_reducible rfl) ?_
 try simp only[lay]
 refine Za (i:=7) (op:=Op.fieldAddr 85 (Operand.tmp 20) 0) (t:=0) (d:=some 21) (v:=_) rfl (by decide +kernel) (fun _ _ _ h=>h) (by intro _;unfold Zb;go_simp;try with_reducible rfl) ?_
 try simp only[lay]
 refine Zi (n:=1) [(3,some 17),(4,some 18),(8,some 22),(9,some 23)] (Ext w5) (VF (fun | 3=>some (.int .i64 (i:Int)) | 4=>some (.int .i64 (2*(i:Int))) | 8=>some (.pointer (some ⟨gh,0,none⟩)) | 9=>some (.int .i64 (n:Int)) | _=>none) (fun i v W=>True)) Ext #[true,true,true,true,true,true,true,true,true,true,false] (by decide +kernel) (VF.stab ?_) ?_ ?_ (by first | exact(Ext.rf _).drew | exact Ext.rf _)
 ·intro j v W W' _ _ _;trivial
 ·intro pS hpm uS wS hRW hD K hK
  simp only[List.mem_cons,List.not_mem_nil,or_false] at hpm;rcases hpm with rfl | rfl | rfl | rfl
  ·( have rX:=Zf hRW za k12;exact Ze (T:=3) (x:=Operand.tmp 16) (t:=3) (d:=some 17) rfl (.pointer (some ⟨ga,12,none⟩)) (by kernel_rfl) (.int .i64 (i:Int)) (by go_simp) (hK _ _ (VF.mk rfl) hRW (Ext.rf _)))
  ·(have e3:uS 3=.int .i64 (i:Int):=(hD 3 (Zg (by kernel_rfl))).k rfl;exact Zm (op:=Op.binOp BinOp.mul 3 (Operand.const (Value.int IntKind.i64 2)) (Operand.tmp 17) 3) (t:=3) (d:=some 18) rfl (.int .i64 (2*(i:Int))) (by simp only[Zc,Act.put,List.setIfInBounds_toArray,List.set_cons_zero,List.set_cons_succ];unfold Zb;(try go_simp);(try simp only[e3]);(try go_simp);(try rfl);(try (exact IntWalk.i64_in _ (by omega)))) (hK _ _ (VF.mk rfl) hRW (Ext.rf _)))
  ·( have rX:=Zf hRW za k0;exact Ze (T:=32) (x:=Operand.tmp 21) (t:=32) (d:=some 22) rfl (.pointer (some ⟨ga,0,none⟩)) (by kernel_rfl) (.pointer (some ⟨gh,0,none⟩)) (by go_simp) (hK _ _ (VF.mk rfl) hRW (Ext.rf _)))
  ·(have e8:uS 8=.pointer (some ⟨gh,0,none⟩):=(hD 8 (Zg (by kernel_rfl))).k rfl;exact Zh (f:=31) (xs:=#[Operand.tmp 22]) (ts:=#[32]) (t:=3) (d:=some 23) rfl #[.pointer (some ⟨gh,0,none⟩)] (by go_simp) (Eq.trans (b:=#[uS 8]) (by kernel_rfl) (by rw[e8])) _ (PL.out _ (S1.out.ext hRW).h) (by rintro e w9 ⟨rfl,xx⟩;exact⟨_,rfl,hK _ _ (VF.mk rfl) (hRW.tr xx) xx⟩))
 intro u w6 hR6 hV;have h3:=(hV (3,some 17) (by simp)).k rfl;have h4:=(hV (4,some 18) (by simp)).k rfl;have h8:=(hV (8,some 22) (by simp)).k rfl;have h9:=(hV (9,some 23) (by simp)).k rfl;simp only[Zc,h3,h4,h8,h9];clear hV h3 h4 h8 h9
 try simp only[lay]
 refine Za (i:=10) (op:=Op.binOp BinOp.gtr 3 (Operand.tmp 18) (Operand.tmp 23) 3) (t:=4) (d:=some 24) (v:=_) rfl (by decide +kernel) (fun _ _ _ h=>h) (by intro _;unfold Zb;go_simp;try with_reducible rfl) ?_
 try simp only[lay]
 refine wpAny_done (by kernel_rfl) ?_ _;go_simp;have R1:=Hd (S1.out.ext hR6);have R2:=Hd (S2.out.ext hR6);clear S1 S2 k12 k0 PL hR6;have TI:=Hd (fun(W:World) (X:Ext w6 W)=>YA bs gm gc gp gn go gh b lv ga M P _ W (R1.out.ext X) hs);go_wp2_with (go_quiet (fail));refine(TI.out _ XI).mono ?_;rintro e w7 ⟨rfl,u1,u2⟩;have U1:=Hd u1;have U2:=Hd ((R2.out.ext XI).tr (u2.mono fun b _ h=>(.inl h:PT ga gm gc b)));clear u1 u2 TI;go_wp2_with (fail);go_end0;exact⟨rfl,U1.out,U2.out⟩
theorem Xt (bs gm gc gp gn go gh b lv ga:Nat)(M:List Int)(P:PoolS)(a:HAct)(w:World)(H:HW w bs gm gc gp gn go gh b lv ga M P a)(hb:b<=1048576)(i:Nat)(hi:a.pos=(i:Int))(h1:1<=i)(h2:i<=1048576)(x:Int)(hx:M[b+(i-1)]?=some x)(ht:Zl a.hd)(hc:Zl a.chh)(hu:Zl (upP a.hd (-1)))(ho:x=upP a.hd (-1)) :
  Calls Try.prog 64 #[.pointer (some ⟨ga,0,none⟩)] w fun e w'=>e=.returned (.tuple #[])/\HW w' bs gm gc gp gn go gh b lv ga (M.set (b+(i-1)) (upP (upP a.hd (-1)) (pla a.chh))) P { a with held:=false,ph:=14 }/\Mod (PT ga gm gc) w w':=by
 have SW:=fun(W:World) (X:Ext w W)=>ZY gm gc gh b lv ga gp M W (H.ext X).h (H.ext X).m _ _ (H.ext X).a rfl hb i h1 (by omega) x hx (upP a.hd (-1)) (pla a.chh) hu
 simp only[if_pos ho,decide_eq_true ho,Zw] at SW;have UP:=Hd (fun(W:World)=>YH a.hd (-1) W ht);have UN:=Hd (fun(W:World)=>Zn a.chh W hc);have HH:=Hd H;have k18:w.cell? ⟨ga,18,none⟩=some (.int .i64 a.chh):=Blk.cell H.a 18;clear H hx hu ho;generalize upP a.hd (-1)=up at *;generalize pla a.chh=pc at *;replace SW:=Hd SW;go_enter Try.func64,Try.ntmps64;go_wp2_with (fail);refine(UN.out _).mono ?_;rintro e w1 ⟨rfl,x1⟩;have X1:=Hd (Ext.tr (a:=w) XI x1);have H1:=Hd (HH.out.ext X1.out);clear x1 UN k18;have k12:w1.cell? ⟨ga,12,none⟩=some (.int .i64 (i:Int)):=(Blk.cell H1.out.a 12).trans (by simp[HAct.cells,hi]);have k13:w1.cell? ⟨ga,13,none⟩=some (.int .i64 a.hd):=Blk.cell H1.out.a 13;have za:=Blk.lt H1.out.a;go_upto_region 1 with(fail);refine wp_region_any (by kernel_rfl) ?_
 change wpAny _ _ _ _ _ _ _ (World.drew _)
 refine Za (i:=0) (op:=Op.move (Operand.tmp 0)) (t:=46) (d:=some 13) (v:=_) rfl (by decide +kernel) (fun _ _ _ h=>h) (by intro _;unfold Zb;go_simp;try with_reducible rfl) ?_
 try simp only[lay]
 refine Za (i:=1) (op:=Op.move (Operand.tmp 0)) (t:=46) (d:=some 14) (v:=_) rfl (by decide +kernel) (fun _ _ _ h=>h) (by intro _;unfold Zb;go_simp;try with_reducible rfl) ?_
 try simp only[lay]
 refine Za (i:=2) (op:=Op.nilCheck (Operand.tmp 14)) (t:=0) (d:=some 15) (v:=_) rfl (by decide +kernel) (fun _ _ _ h=>h) (by intro _;unfold Zb;go_simp;try with_reducible rfl) ?_
 try simp only[lay]
 refine Za (i:=3) (op:=Op.fieldAddr 85 (Operand.tmp 15) 12) (t:=0) (d:=some 16) (v:=_) rfl (by decide +kernel) (fun _ _ _ h=>h) (by intro _;unfold Zb;go_simp;try with_reducible rfl) ?_
 try simp only[lay]
 refine Za (i:=5) (op:=Op.move (Operand.tmp 0)) (t:=46) (d:=some 18) (v:=_) rfl (by decide +kernel) (fun _ _ _ h=>h) (by intro _;unfold Zb;go_simp;try with_reducible rfl) ?_
 try simp only[lay]
 refine Za (i:=6) (op:=Op.nilCheck (Operand.tmp 18)) (t:=0) (d:=some 19) (v:=_) rfl (by decide +kernel) (fun _ _ _ h=>h) (by intro _;unfold Zb;go_simp;try with_reducible rfl) ?_
 try simp only[lay]
 refine Za (i:=7) (op:=Op.fieldAddr 85 (Operand.tmp 19) 13) (t:=0) (d:=some 20) (v:=_) rfl (by decide +kernel) (fun _ _ _ h=>h) (by intro _;unfold Zb;go_simp;try with_reducible rfl) ?_
 try simp only[lay]
 refine Za (i:=10) (op:=Op.move (Operand.tmp 3)) (t:=3) (d:=some 23) (v:=_) rfl (by decide +kernel) (fun _ _ _ h=>h) (by intro _;unfold Zb;go_simp;try with_reducible rfl) ?_
 try simp only[lay]
 refine Zi (n:=1) [(4,some 17),(8,some 21),(9,some 22)] (Ext w1) (VF (fun | 4=>some (.int .i64 (i:Int)) | 8=>some (.int .i64 a.hd) | 9=>some (.int .i64 up) | _=>none) (fun i v W=>True)) Ext #[true,true,true,true,true,true,true,true,true,true,true,false] (by decide +kernel) (VF.stab ?_) ?_ ?_ (by first | exact(Ext.rf _).drew | exact Ext.rf _)
 ·intro j v W W' _ _ _;trivial
 ·intro pS hpm uS wS hRW hD K hK
  simp only[List.mem_cons,List.not_mem_nil,or_false] at hpm;rcases hpm with rfl | rfl | rfl
  ·( have rX:=Zf hRW za k12;exact Ze (T:=3) (x:=Operand.tmp 16) (t:=3) (d:=some 17) rfl (.pointer (some ⟨ga,12,none⟩)) (by kernel_rfl) (.int .i64 (i:Int)) (by go_simp) (hK _ _ (VF.mk rfl) hRW (Ext.rf _)))
  ·( have rX:=Zf hRW za k13;exact Ze (T:=3) (x:=Operand.tmp 20) (t:=3) (d:=some 21) rfl (.pointer (some ⟨ga,13,none⟩)) (by kernel_rfl) (.int .i64 a.hd) (by go_simp) (hK _ _ (VF.mk rfl) hRW (Ext.rf _)))
  ·(have e8:uS 8=.int .i64 a.hd:=(hD 8 (Zg (by kernel_rfl))).k rfl;exact Zh (f:=72) (xs:=#[Operand.tmp 21,Operand.const (Value.int IntKind.i64 (-1))]) (ts:=#[3,3]) (t:=3) (d:=some 22) rfl #[.int .i64 a.hd,.int .i64 (-1)] (by go_simp) (Eq.trans (b:=#[uS 8,.int .i64 (-1)]) (by kernel_rfl) (by rw[e8])) _ (UP.out _) (by rintro e w9 ⟨rfl,xx⟩;exact⟨_,rfl,hK _ _ (VF.mk rfl) (hRW.tr xx) xx⟩))
 intro u w3 hR3 hV;have h4:=(hV (4,some 17) (by simp)).k rfl;have h8:=(hV (8,some 21) (by simp)).k rfl;have h9:=(hV (9,some 22) (by simp)).k rfl;simp only[Zc,h4,h8,h9];clear hV h4 h8 h9
 try simp only[lay]
 refine Zd 11 (by decide +kernel) (Zh (f:=78) (xs:=#[Operand.tmp 13,Operand.tmp 17,Operand.tmp 22,Operand.tmp 23]) (ts:=#[46,3,3,3]) (t:=4) (d:=some 24) rfl #[.pointer (some ⟨ga,0,none⟩),.int .i64 (i:Int),.int .i64 up,.int .i64 pc] (by go_simp) (by kernel_rfl) _ (SW.out _ (X1.out.tr hR3)) ?_);rintro e w4 ⟨rfl,m4,d4⟩;have H4:=Hd ((H1.out.ext hR3).cell m4 d4);have D4:=Hd (((Mod.of_ext (X1.out.tr hR3):Mod (CS gm gc) w w3).tr d4).mono fun b _ h=>(.inr h:PT ga gm gc b));clear m4 d4 hR3 SW UP k12 k13;refine⟨_,rfl,?_⟩
 try simp only[lay]
 refine wpAny_done (by kernel_rfl) ?_ _;go_simp;have c0:w4.cell? ⟨ga,20,none⟩=some (.bool a.held):=Blk.cell H4.out.a 20;have f0:w4.frozen? ⟨ga,20,none⟩=false:=Blk.free H4.out.a 20;obtain⟨q1,q2⟩:=H4.out.field 20 (.bool false) (a':={ a with held:=false }) rfl;have c1:(w4.setCell ⟨ga,20,none⟩ (.bool false)).cell? ⟨ga,1,none⟩=some (.int .i64 a.ph):=Blk.cell q1.a 1;have f1:(w4.setCell ⟨ga,20,none⟩ (.bool false)).frozen? ⟨ga,1,none⟩=false:=Blk.free q1.a 1;obtain⟨s1,s2⟩:=q1.field 1 (.int .i64 14) (a':={ a with held:=false,ph:=14 }) rfl;have S1:=Hd s1;have S2:=Hd ((D4.out.tr (q2.mono fun b _ h=>(.inl h:PT ga gm gc b))).tr (s2.mono fun b _ h=>(.inl h:PT ga gm gc b)));clear q1 q2 s1 s2;go_wp2_with (fail);go_end0;exact⟨rfl,S1.out,S2.out⟩
theorem Wa (bs gm gc gp gn go gh b lv ga:Nat)(M:List Int)(P:PoolS)(a:HAct)(w:World)(H:HW w bs gm gc gp gn go gh b lv ga M P a)(hb:b<=1048576)(i:Nat)(hi:a.ch=(i:Int))(h1:1<=i)(h2:i<=1048576)(x:Int)(hx:M[b+(i-1)]?=some x)(ht:Zl a.chh)(hc:Zl a.hd)(hu:Zl (upP a.chh (-1)))(ho:x=upP a.chh (-1)) :
  Calls Try.prog 65 #[.pointer (some ⟨ga,0,none⟩)] w fun e w'=>e=.returned (.tuple #[])/\HW w' bs gm gc gp gn go gh b lv ga (M.set (b+(i-1)) (upP (upP a.chh (-1)) (pla a.hd))) P { a with bare:=false,pos:=a.ch,ph:=7 }/\Mod (PT ga gm gc) w w':=by
 have SW:=fun(W:World) (X:Ext w W)=>ZY gm gc gh b lv ga gp M W (H.ext X).h (H.ext X).m _ _ (H.ext X).a rfl hb i h1 (by omega) x hx (upP a.chh (-1)) (pla a.hd) hu
 simp only[if_pos ho,decide_eq_true ho,Zw] at SW;have UP:=Hd (fun(W:World)=>YH a.chh (-1) W ht);have UN:=Hd (fun(W:World)=>Zn a.hd W hc);have HH:=Hd H;have k13:w.cell? ⟨ga,13,none⟩=some (.int .i64 a.hd):=Blk.cell H.a 13;clear H hx hu ho;generalize upP a.chh (-1)=up at *;generalize pla a.hd=pc at *;replace SW:=Hd SW;go_enter Try.func65,Try.ntmps65;go_wp2_with (fail);refine(UN.out _).mono ?_;rintro e w1 ⟨rfl,x1⟩;have X1:=Hd (Ext.tr (a:=w) XI x1);have H1:=Hd (HH.out.ext X1.out);clear x1 UN k13;have k17:w1.cell? ⟨ga,17,none⟩=some (.int .i64 (i:Int)):=(Blk.cell H1.out.a 17).trans (by simp[HAct.cells,hi]);have k18:w1.cell? ⟨ga,18,none⟩=some (.int .i64 a.chh):=Blk.cell H1.out.a 18;have za:=Blk.lt H1.out.a;go_upto_region 1 with(fail);refine wp_region_any (by kernel_rfl) ?_
 change wpAny _ _ _ _ _ _ _ (World.drew _)
 refine Za (i:=0) (op:=Op.move (Operand.tmp 0)) (t:=46) (d:=some 12) (v:=_) rfl (by decide +kernel) (fun _ _ _ h=>h) (by intro _;unfold Zb;go_simp;try with_reducible rfl) ?_
 try simp only[lay]
 refine Za (i:=1) (op:=Op.move (Operand.tmp 0)) (t:=46) (d:=some 13) (v:=_) rfl (by decide +kernel) (fun _ _ _ h=>h) (by intro _;unfold Zb;go_simp;try with_reducible rfl) ?_
 try simp only[lay]
 refine Za (i:=2) (op:=Op.nilCheck (Operand.tmp 13)) (t:=0) (d:=some 14) (v:=_) rfl (by decide +kernel) (fun _ _ _ h=>h) (by intro _;unfold Zb;go_simp;try with_reducible rfl) ?_
 try simp only[lay]
 refine Za (i:=3) (op:=Op.fieldAddr 85 (Operand.tmp 14) 15) (t:=0) (d:=some 15) (v:=_) rfl (by decide +kernel) (fun _ _ _ h=>h) (by intro _;unfold Zb;go_simp;try with_reducible rfl) ?_
 try simp only[lay]
 refine Za (i:=4) (op:=Op.fieldAddr 83 (Operand.tmp 15) 2) (t:=0) (d:=some 16) (v:=_) rfl (by decide +kernel) (fun _ _ _ h=>h) (by intro _;unfold Zb;go_simp;try with_reducible rfl) ?_
 try simp only[lay]
 refine Za (i:=6) (op:=Op.move (Operand.tmp 0)) (t:=46) (d:=some 18) (v:=_) rfl (by decide +kernel) (fun _ _ _ h=>h) (by intro _;unfold Zb;go_simp;try with_reducible rfl) ?_
 try simp only[lay]
 refine Za (i:=7) (op:=Op.nilCheck (Operand.tmp 18)) (t:=0) (d:=some 19) (v:=_) rfl (by decide +kernel) (fun _ _ _ h=>h) (by intro _;unfold Zb;go_simp;try with_reducible rfl) ?_
 try simp only[lay]
 refine Za (i:=8) (op:=Op.fieldAddr 85 (Operand.tmp 19) 15) (t:=0) (d:=some 20) (v:=_) rfl (by decide +kernel) (fun _ _ _ h=>h) (by intro _;unfold Zb;go_simp;try with_reducible rfl) ?_
 try simp only[lay]
 refine Za (i:=9) (op:=Op.fieldAddr 83 (Operand.tmp 20) 3) (t:=0) (d:=some 21) (v:=_) rfl (by decide +kernel) (fun _ _ _ h=>h) (by intro _;unfold Zb;go_simp;try with_reducible rfl) ?_
 try simp only[lay]
 refine Za (i:=12) (op:=Op.move (Operand.tmp 3)) (t:=3) (d:=some 24) (v:=_) rfl (by decide +kernel) (fun _ _ _ h=>h) (by intro _;unfold Zb;go_simp;try with_reducible rfl) ?_
 try simp only[lay]
 refine Zi (n:=1) [(5,some 17),(10,some 22),(11,some 23)] (Ext w1) (VF (fun | 5=>some (.int .i64 (i:Int)) | 10=>some (.int .i64 a.chh) | 11=>some (.int .i64 up) | _=>none) (fun i v W=>True)) Ext #[true,true,true,true,true,true,true,true,true,true,true,true,true,false] (by decide +kernel) (VF.stab ?_) ?_ ?_ (by first | exact(Ext.rf _).drew | exact Ext.rf _)
 ·intro j v W W' _ _ _;trivial
 ·intro pS hpm uS wS hRW hD K hK
  simp only[List.mem_cons,List.not_mem_nil,or_false] at hpm;rcases hpm with rfl | rfl | rfl
  ·( have rX:=Zf hRW za k17;exact Ze (T:=3) (x:=Operand.tmp 16) (t:=3) (d:=some 17) rfl (.pointer (some ⟨ga,17,none⟩)) (by kernel_rfl) (.int .i64 (i:Int)) (by go_simp) (hK _ _ (VF.mk rfl) hRW (Ext.rf _)))
  ·( have rX:=Zf hRW za k18;exact Ze (T:=3) (x:=Operand.tmp 21) (t:=3) (d:=some 22) rfl (.pointer (some ⟨ga,18,none⟩)) (by kernel_rfl) (.int .i64 a.chh) (by go_simp) (hK _ _ (VF.mk rfl) hRW (Ext.rf _)))
  ·(have e10:uS 10=.int .i64 a.chh:=(hD 10 (Zg (by kernel_rfl))).k rfl;exact Zh (f:=72) (xs:=#[Operand.tmp 22,Operand.const (Value.int IntKind.i64 (-1))]) (ts:=#[3,3]) (t:=3) (d:=some 23) rfl #[.int .i64 a.chh,.int .i64 (-1)] (by go_simp) (Eq.trans (b:=#[uS 10,.int .i64 (-1)]) (by kernel_rfl) (by rw[e10])) _ (UP.out _) (by rintro e w9 ⟨rfl,xx⟩;exact⟨_,rfl,hK _ _ (VF.mk rfl) (hRW.tr xx) xx⟩))
 intro u w3 hR3 hV;have h5:=(hV (5,some 17) (by simp)).k rfl;have h10:=(hV (10,some 22) (by simp)).k rfl;have h11:=(hV (11,some 23) (by simp)).k rfl;simp only[Zc,h5,h10,h11];clear hV h5 h10 h11
 try simp only[lay]
 refine Zd 13 (by decide +kernel) (Zh (f:=78) (xs:=#[Operand.tmp 12,Operand.tmp 17,Operand.tmp 23,Operand.tmp 24]) (ts:=#[46,3,3,3]) (t:=4) (d:=some 25) rfl #[.pointer (some ⟨ga,0,none⟩),.int .i64 (i:Int),.int .i64 up,.int .i64 pc] (by go_simp) (by kernel_rfl) _ (SW.out _ (X1.out.tr hR3)) ?_);rintro e w4 ⟨rfl,m4,d4⟩;have H4:=Hd ((H1.out.ext hR3).cell m4 d4);have D4:=Hd (((Mod.of_ext (X1.out.tr hR3):Mod (CS gm gc) w w3).tr d4).mono fun b _ h=>(.inr h:PT ga gm gc b));clear m4 d4 hR3 SW UP k17 k18;refine⟨_,rfl,?_⟩
 try simp only[lay]
 refine wpAny_done (by kernel_rfl) ?_ _;go_simp;have c0:w4.cell? ⟨ga,21,none⟩=some (.bool a.bare):=Blk.cell H4.out.a 21;have f0:w4.frozen? ⟨ga,21,none⟩=false:=Blk.free H4.out.a 21;obtain⟨q1,q2⟩:=H4.out.field 21 (.bool false) (a':={ a with bare:=false }) rfl;obtain⟨r1,r2⟩:=q1.field 12 (.int .i64 a.ch) (a':={ a with bare:=false,pos:=a.ch }) rfl;obtain⟨s1,s2⟩:=r1.field 1 (.int .i64 7) (a':={ a with bare:=false,pos:=a.ch,ph:=7 }) rfl;have c1:(w4.setCell ⟨ga,21,none⟩ (.bool false)).cell? ⟨ga,17,none⟩=some (.int .i64 a.ch):=Blk.cell q1.a 17;have c2:(w4.setCell ⟨ga,21,none⟩ (.bool false)).cell? ⟨ga,12,none⟩=some (.int .i64 a.pos):=Blk.cell q1.a 12;have f2:(w4.setCell ⟨ga,21,none⟩ (.bool false)).frozen? ⟨ga,12,none⟩=false:=Blk.free q1.a 12;have c3:((w4.setCell ⟨ga,21,none⟩ (.bool false)).setCell ⟨ga,12,none⟩ (.int .i64 a.ch)).cell? ⟨ga,1,none⟩=some (.int .i64 a.ph):=Blk.cell r1.a 1;have f3:((w4.setCell ⟨ga,21,none⟩ (.bool false)).setCell ⟨ga,12,none⟩ (.int .i64 a.ch)).frozen? ⟨ga,1,none⟩=false:=Blk.free r1.a 1;have S1:=Hd s1;have S2:=Hd (((D4.out.tr (q2.mono fun b _ h=>(.inl h:PT ga gm gc b))).tr (r2.mono fun b _ h=>(.inl h:PT ga gm gc b))).tr (s2.mono fun b _ h=>(.inl h:PT ga gm gc b)));clear q1 q2 r1 r2 s1 s2 hi;go_wp2_with (fail);go_end0;exact⟨rfl,S1.out,S2.out⟩
theorem ZN {P:Program}{ops:Array Oper}{md:Region.Mode}{Q:Exit->Act->World->Prop}{a:Act}{w:World}{i:Nat}{op:Op}{t:TypeId}{d:Option Tmp}{listed:Array Bool}{n:Nat}{g:Nat×Bool}(hi:ZW ops i=some (some g,op,t,d))(hs:Region.noSelect ops=true)(hf:Region.free md ops listed i=true)(hr:(Region.ready md ops listed).contains i=true)
  (hQ:∀ c a w,Q (.panic c) (a.put d undef) w->Q (.panic c) a w) (hg:yielded ops a.tmps g.1=none) (h:wpAny P md ops Q n (listed.setIfInBounds i true) (a.put d undef) w):wpAny P md ops Q (n+1) listed a w:=by
 unfold ZW at hi;obtain⟨o,ho,he⟩:=Option.map_eq_some_iff.1 hi;simp only[Prod.mk.injEq] at he;obtain⟨h1,rfl,rfl,rfl⟩:=he;refine wpAny_take ho hs hf hr hQ (.inr ⟨?_,rfl⟩) h;obtain⟨g1,g2⟩:=g;simp only at hg
 cases g2<;>simp_all[Region.wanted]
theorem Ve (bs gm gc gp gn go gh b lv:Nat)(P:PoolS)(bd:Nat->Int)(w:World)(HH:ZK w gh gm gp b lv)(HP:PoolR w bs gm gc gp gn go P)(hbd:PB P bd)(hn:P.n<=100000)(x y:Int)(hx:Zl x)(hy:Zl y)(hp:pla x<0) :
  Calls Try.prog 80 #[.pointer (some ⟨gh,0,none⟩),.int .i64 x,.int .i64 y] w fun e w'=>e=.returned (.bool false)/\Ext w w':=by
 have UX:=Hd (fun(W:World)=>Zn x W hx);have UY:=Hd (fun(W:World)=>Zn y W hy);have h3:w.cell? ⟨gh,3,none⟩=some (.pointer (some ⟨gp,0,none⟩)):=Blk.cell HH 3;have zh:=Blk.lt HH;have e1:decide (pla x>=0)=false:=decide_eq_false (by omega);clear hp;generalize pla x=px at *;generalize pla y=py at *;clear HH HP hbd hx hy;go_enter Try.func80,Try.ntmps80;go_wp2_with (fail);refine(UX.out _).mono ?_;rintro e w1 ⟨rfl,x1⟩;have X1:=Hd (Ext.tr (a:=w) XI x1);clear x1 UX;go_wp2_with (fail);refine(UY.out _).mono ?_;rintro e w2 ⟨rfl,x2⟩;have X2:=Hd (X1.out.tr (Ext.tr (a:=w1) XI x2));clear x2 UY X1;have h3:=Zf X2.out zh h3;have zh:gh<w2.heap.size:=by have:=X2.out.size;omega
 go_upto_region 3 with(fail);refine wp_region_any (by kernel_rfl) ?_
 change wpAny _ _ _ _ _ _ _ (World.drew _)
 refine Za (i:=0) (op:=Op.move (Operand.tmp 8)) (t:=3) (d:=some 21) (v:=_) rfl (by decide +kernel) (fun _ _ _ h=>h) (by intro _;unfold Zb;go_simp;try with_reducible rfl) ?_
 try simp only[lay]
 refine Zs (i:=1) (op:=Op.binOp BinOp.geq 3 (Operand.tmp 21) (Operand.const (Value.int IntKind.i64 0)) 3) (t:=4) (d:=some 22) (v:=.bool false) rfl (by decide +kernel) (by decide +kernel) (by decide +kernel) (fun _ _ _ h=>h) ?_ ?_
 ·(intro _;unfold Zb;go_simp;skip)
 try simp only[lay]
 refine Za (i:=2) (op:=Op.move (Operand.tmp 22)) (t:=4) (d:=some 23) (v:=_) rfl (by decide +kernel) (fun _ _ _ h=>h) (by intro _;unfold Zb;go_simp;try with_reducible rfl) ?_
 try simp only[lay]
 refine ZB (i:=3) (op:=Op.move (Operand.tmp 10)) (t:=3) (d:=some 24) (b:=false) (g:=(2,true)) rfl (by decide +kernel) (fun _ _ _ h=>h) (by kernel_rfl) rfl ?_
 try simp only[lay]
 refine ZB (i:=4) (op:=Op.binOp BinOp.lss 3 (Operand.tmp 24) (Operand.const (Value.int IntKind.i64 0)) 3) (t:=4) (d:=some 25) (b:=false) (g:=(2,true)) rfl (by decide +kernel) (fun _ _ _ h=>h) (by kernel_rfl) rfl ?_
 try simp only[lay]
 refine ZB (i:=5) (op:=Op.move (Operand.tmp 25)) (t:=4) (d:=some 26) (b:=false) (g:=(2,true)) rfl (by decide +kernel) (fun _ _ _ h=>h) (by kernel_rfl) rfl ?_
 try simp only[lay]
 refine ZN (i:=6) (op:=Op.move (Operand.tmp 0)) (t:=32) (d:=some 27) (g:=(5,false)) rfl (by decide +kernel) (by decide +kernel) (by decide +kernel) (fun _ _ _ h=>h) (by kernel_rfl) ?_
 try simp only[lay]
 refine ZN (i:=7) (op:=Op.nilCheck (Operand.tmp 27)) (t:=0) (d:=some 28) (g:=(5,false)) rfl (by decide +kernel) (by decide +kernel) (by decide +kernel) (fun _ _ _ h=>h) (by kernel_rfl) ?_
 try simp only[lay]
 refine ZN (i:=8) (op:=Op.fieldAddr 69 (Operand.tmp 28) 3) (t:=0) (d:=some 29) (g:=(5,false)) rfl (by decide +kernel) (by decide +kernel) (by decide +kernel) (fun _ _ _ h=>h) (by kernel_rfl) ?_
 try simp only[lay]
 refine ZN (i:=9) (op:=Op.load 29 (Operand.tmp 29)) (t:=29) (d:=some 30) (g:=(5,false)) rfl (by decide +kernel) (by decide +kernel) (by decide +kernel) (fun _ _ _ h=>h) (by kernel_rfl) ?_
 try simp only[lay]
 refine ZN (i:=10) (op:=Op.move (Operand.tmp 8)) (t:=3) (d:=some 31) (g:=(5,false)) rfl (by decide +kernel) (by decide +kernel) (by decide +kernel) (fun _ _ _ h=>h) (by kernel_rfl) ?_
 try simp only[lay]
 refine ZN (i:=11) (op:=Op.call { callee:=Callee.value (Operand.func 23),args:=#[Operand.tmp 30,Operand.tmp 31],argTypes:=#[29,3] }) (t:=3) (d:=some 32) (g:=(5,false)) rfl (by decide +kernel) (by decide +kernel) (by decide +kernel) (fun _ _ _ h=>h) (by kernel_rfl) ?_
 try simp only[lay]
 refine ZN (i:=12) (op:=Op.move (Operand.tmp 0)) (t:=32) (d:=some 33) (g:=(5,false)) rfl (by decide +kernel) (by decide +kernel) (by decide +kernel) (fun _ _ _ h=>h) (by kernel_rfl) ?_
 try simp only[lay]
 refine ZN (i:=13) (op:=Op.nilCheck (Operand.tmp 33)) (t:=0) (d:=some 34) (g:=(5,false)) rfl (by decide +kernel) (by decide +kernel) (by decide +kernel) (fun _ _ _ h=>h) (by kernel_rfl) ?_
 try simp only[lay]
 refine ZN (i:=14) (op:=Op.fieldAddr 69 (Operand.tmp 34) 3) (t:=0) (d:=some 35) (g:=(5,false)) rfl (by decide +kernel) (by decide +kernel) (by decide +kernel) (fun _ _ _ h=>h) (by kernel_rfl) ?_
 try simp only[lay]
 refine ZN (i:=15) (op:=Op.load 29 (Operand.tmp 35)) (t:=29) (d:=some 36) (g:=(5,false)) rfl (by decide +kernel) (by decide +kernel) (by decide +kernel) (fun _ _ _ h=>h) (by kernel_rfl) ?_
 try simp only[lay]
 refine ZN (i:=16) (op:=Op.move (Operand.tmp 10)) (t:=3) (d:=some 37) (g:=(5,false)) rfl (by decide +kernel) (by decide +kernel) (by decide +kernel) (fun _ _ _ h=>h) (by kernel_rfl) ?_
 try simp only[lay]
 refine ZN (i:=17) (op:=Op.call { callee:=Callee.value (Operand.func 23),args:=#[Operand.tmp 36,Operand.tmp 37],argTypes:=#[29,3] }) (t:=3) (d:=some 38) (g:=(5,false)) rfl (by decide +kernel) (by decide +kernel) (by decide +kernel) (fun _ _ _ h=>h) (by kernel_rfl) ?_
 try simp only[lay]
 refine ZN (i:=18) (op:=Op.binOp BinOp.lss 3 (Operand.tmp 32) (Operand.tmp 38) 3) (t:=4) (d:=some 39) (g:=(5,false)) rfl (by decide +kernel) (by decide +kernel) (by decide +kernel) (fun _ _ _ h=>h) (by kernel_rfl) ?_
 try simp only[lay]
 refine ZB (i:=19) (op:=Op.pick (Operand.tmp 26) (Operand.const (Value.bool true)) (Operand.tmp 39)) (t:=4) (d:=some 40) (b:=false) (g:=(2,true)) rfl (by decide +kernel) (fun _ _ _ h=>h) (by kernel_rfl) rfl ?_
 try simp only[lay]
 refine Za (i:=20) (op:=Op.pick (Operand.tmp 23) (Operand.tmp 40) (Operand.const (Value.bool false))) (t:=4) (d:=some 41) (v:=_) rfl (by decide +kernel) (fun _ _ _ h=>h) (by intro _;unfold Zb;go_simp;try with_reducible rfl) ?_
 try simp only[lay]
 refine Za (i:=21) (op:=Op.assign (Operand.tmp 41)) (t:=4) (d:=some 6) (v:=_) rfl (by decide +kernel) (fun _ _ _ h=>h) (by intro _;unfold Zb;go_simp;try with_reducible rfl) ?_
 try simp only[lay]
 refine wpAny_done (by kernel_rfl) ?_ _;go_simp;go_wp2_with (fail);go_ret;exact⟨rfl,X2.out.tr XI⟩
theorem VJ (bs gm gc gp gn go gh b lv:Nat)(P:PoolS)(bd:Nat->Int)(w:World)(HH:ZK w gh gm gp b lv)(HP:PoolR w bs gm gc gp gn go P)(hbd:PB P bd)(hn:P.n<=100000)(x y:Int)(hx:Zl x)(hy:Zl y)(hp:0<=pla x)(hq:pla y<0) :
  Calls Try.prog 80 #[.pointer (some ⟨gh,0,none⟩),.int .i64 x,.int .i64 y] w fun e w'=>e=.returned (.bool true)/\Ext w w':=by
 have UX:=Hd (fun(W:World)=>Zn x W hx);have UY:=Hd (fun(W:World)=>Zn y W hy);have h3:w.cell? ⟨gh,3,none⟩=some (.pointer (some ⟨gp,0,none⟩)):=Blk.cell HH 3;have zh:=Blk.lt HH;have e1:decide (pla x>=0)=true:=decide_eq_true (by omega);have e2:decide (pla y<0)=true:=decide_eq_true hq;clear hp hq;generalize pla x=px at *;generalize pla y=py at *;clear HH HP hbd hx hy;go_enter Try.func80,Try.ntmps80;go_wp2_with (fail);refine(UX.out _).mono ?_;rintro e w1 ⟨rfl,x1⟩;have X1:=Hd (Ext.tr (a:=w) XI x1);clear x1 UX;go_wp2_with (fail);refine(UY.out _).mono ?_;rintro e w2 ⟨rfl,x2⟩;have X2:=Hd (X1.out.tr (Ext.tr (a:=w1) XI x2));clear x2 UY X1;have h3:=Zf X2.out zh h3;have zh:gh<w2.heap.size:=by have:=X2.out.size;omega
 go_upto_region 3 with(fail);refine wp_region_any (by kernel_rfl) ?_
 change wpAny _ _ _ _ _ _ _ (World.drew _)
 refine Za (i:=0) (op:=Op.move (Operand.tmp 8)) (t:=3) (d:=some 21) (v:=_) rfl (by decide +kernel) (fun _ _ _ h=>h) (by intro _;unfold Zb;go_simp;try with_reducible rfl) ?_
 try simp only[lay]
 refine Zs (i:=1) (op:=Op.binOp BinOp.geq 3 (Operand.tmp 21) (Operand.const (Value.int IntKind.i64 0)) 3) (t:=4) (d:=some 22) (v:=.bool true) rfl (by decide +kernel) (by decide +kernel) (by decide +kernel) (fun _ _ _ h=>h) ?_ ?_
 ·(intro _;unfold Zb;go_simp;skip)
 try simp only[lay]
 refine Za (i:=2) (op:=Op.move (Operand.tmp 22)) (t:=4) (d:=some 23) (v:=_) rfl (by decide +kernel) (fun _ _ _ h=>h) (by intro _;unfold Zb;go_simp;try with_reducible rfl) ?_
 try simp only[lay]
 refine Zy (i:=3) (op:=Op.move (Operand.tmp 10)) (t:=3) (d:=some 24) (g:=(2,true)) (v:=_) rfl (by decide +kernel) (fun _ _ _ h=>h) (by kernel_rfl) (by intro _;unfold Zb;go_simp;try with_reducible rfl) ?_
 try simp only[lay]
 refine YF (i:=4) (op:=Op.binOp BinOp.lss 3 (Operand.tmp 24) (Operand.const (Value.int IntKind.i64 0)) 3) (t:=4) (d:=some 25) (g:=(2,true)) (v:=.bool true) rfl (by decide +kernel) (by decide +kernel) (by decide +kernel) (fun _ _ _ h=>h) (by kernel_rfl) ?_ ?_
 ·(intro _;unfold Zb;go_simp;skip)
 try simp only[lay]
 refine Zy (i:=5) (op:=Op.move (Operand.tmp 25)) (t:=4) (d:=some 26) (g:=(2,true)) (v:=_) rfl (by decide +kernel) (fun _ _ _ h=>h) (by kernel_rfl) (by intro _;unfold Zb;go_simp;try with_reducible rfl) ?_
 try simp only[lay]
 refine ZB (i:=6) (op:=Op.move (Operand.tmp 0)) (t:=32) (d:=some 27) (b:=true) (g:=(5,false)) rfl (by decide +kernel) (fun _ _ _ h=>h) (by kernel_rfl) rfl ?_
 try simp only[lay]
 refine ZB (i:=7) (op:=Op.nilCheck (Operand.tmp 27)) (t:=0) (d:=some 28) (b:=true) (g:=(5,false)) rfl (by decide +kernel) (fun _ _ _ h=>h) (by kernel_rfl) rfl ?_
 try simp only[lay]
 refine ZB (i:=8) (op:=Op.fieldAddr 69 (Operand.tmp 28) 3) (t:=0) (d:=some 29) (b:=true) (g:=(5,false)) rfl (by decide +kernel) (fun _ _ _ h=>h) (by kernel_rfl) rfl ?_
 try simp only[lay]
 refine ZB (i:=9) (op:=Op.load 29 (Operand.tmp 29)) (t:=29) (d:=some 30) (b:=true) (g:=(5,false)) rfl (by decide +kernel) (fun _ _ _ h=>h) (by kernel_rfl) rfl ?_
 try simp only[lay]
 refine ZB (i:=10) (op:=Op.move (Operand.tmp 8)) (t:=3) (d:=some 31) (b:=true) (g:=(5,false)) rfl (by decide +kernel) (fun _ _ _ h=>h) (by kernel_rfl) rfl ?_
 try simp only[lay]
 refine ZB (i:=11) (op:=Op.call { callee:=Callee.value (Operand.func 23),args:=#[Operand.tmp 30,Operand.tmp 31],argTypes:=#[29,3] }) (t:=3) (d:=some 32) (b:=true) (g:=(5,false)) rfl (by decide +kernel) (fun _ _ _ h=>h) (by kernel_rfl) rfl ?_
 try simp only[lay]
 refine ZB (i:=12) (op:=Op.move (Operand.tmp 0)) (t:=32) (d:=some 33) (b:=true) (g:=(5,false)) rfl (by decide +kernel) (fun _ _ _ h=>h) (by kernel_rfl) rfl ?_
 try simp only[lay]
 refine ZB (i:=13) (op:=Op.nilCheck (Operand.tmp 33)) (t:=0) (d:=some 34) (b:=true) (g:=(5,false)) rfl (by decide +kernel) (fun _ _ _ h=>h) (by kernel_rfl) rfl ?_
 try simp only[lay]
 refine ZB (i:=14) (op:=Op.fieldAddr 69 (Operand.tmp 34) 3) (t:=0) (d:=some 35) (b:=true) (g:=(5,false)) rfl (by decide +kernel) (fun _ _ _ h=>h) (by kernel_rfl) rfl ?_
 try simp only[lay]
 refine ZB (i:=15) (op:=Op.load 29 (Operand.tmp 35)) (t:=29) (d:=some 36) (b:=true) (g:=(5,false)) rfl (by decide +kernel) (fun _ _ _ h=>h) (by kernel_rfl) rfl ?_
 try simp only[lay]
 refine ZB (i:=16) (op:=Op.move (Operand.tmp 10)) (t:=3) (d:=some 37) (b:=true) (g:=(5,false)) rfl (by decide +kernel) (fun _ _ _ h=>h) (by kernel_rfl) rfl ?_
 try simp only[lay]
 refine ZB (i:=17) (op:=Op.call { callee:=Callee.value (Operand.func 23),args:=#[Operand.tmp 36,Operand.tmp 37],argTypes:=#[29,3] }) (t:=3) (d:=some 38) (b:=true) (g:=(5,false)) rfl (by decide +kernel) (fun _ _ _ h=>h) (by kernel_rfl) rfl ?_
 try simp only[lay]
 refine ZB (i:=18) (op:=Op.binOp BinOp.lss 3 (Operand.tmp 32) (Operand.tmp 38) 3) (t:=4) (d:=some 39) (b:=true) (g:=(5,false)) rfl (by decide +kernel) (fun _ _ _ h=>h) (by kernel_rfl) rfl ?_
 try simp only[lay]
 refine Zy (i:=19) (op:=Op.pick (Operand.tmp 26) (Operand.const (Value.bool true)) (Operand.tmp 39)) (t:=4) (d:=some 40) (g:=(2,true)) (v:=_) rfl (by decide +kernel) (fun _ _ _ h=>h) (by kernel_rfl) (by intro _;unfold Zb;go_simp;try with_reducible rfl) ?_
 try simp only[lay]
 refine Za (i:=20) (op:=Op.pick (Operand.tmp 23) (Operand.tmp 40) (Operand.const (Value.bool false))) (t:=4) (d:=some 41) (v:=_) rfl (by decide +kernel) (fun _ _ _ h=>h) (by intro _;unfold Zb;go_simp;try with_reducible rfl) ?_
 try simp only[lay]
 refine Za (i:=21) (op:=Op.assign (Operand.tmp 41)) (t:=4) (d:=some 6) (v:=_) rfl (by decide +kernel) (fun _ _ _ h=>h) (by intro _;unfold Zb;go_simp;try with_reducible rfl) ?_
 try simp only[lay]
 refine wpAny_done (by kernel_rfl) ?_ _;go_simp;go_wp2_with (fail);go_ret;exact⟨rfl,X2.out.tr XI⟩
theorem Vf (bs gm gc gp gn go gh b lv:Nat)(P:PoolS)(bd:Nat->Int)(w:World)(HH:ZK w gh gm gp b lv)(HP:PoolR w bs gm gc gp gn go P)(hbd:PB P bd)(hn:P.n<=100000)(x y:Int)(hx:Zl x)(hy:Zl y)(s t:Nat)(hp:pla x=(s:Int))(hq:pla y=(t:Int))(hs:s<P.n)(ht:t<P.n) :
  Calls Try.prog 80 #[.pointer (some ⟨gh,0,none⟩),.int .i64 x,.int .i64 y] w fun e w'=>e=.returned (.bool (decide (bd s<bd t)))/\Ext w w':=by
 have UX:=Hd (fun(W:World)=>Zn x W hx);have UY:=Hd (fun(W:World)=>Zn y W hy);have h3:w.cell? ⟨gh,3,none⟩=some (.pointer (some ⟨gp,0,none⟩)):=Blk.cell HH 3;have zh:=Blk.lt HH;have B1:=Hd (fun(W:World) (X:Ext w W)=>Z0 bs gm gc gp gn go P W (HP.ext X) s hs hn (bd s) (hbd s hs));have B2:=Hd (fun(W:World) (X:Ext w W)=>Z0 bs gm gc gp gn go P W (HP.ext X) t ht hn (bd t) (hbd t ht));have e1:decide ((s:Int)>=0)=true:=decide_eq_true (by omega);have e2:decide ((t:Int)<0)=false:=decide_eq_false (by omega);rw[hp] at UX;rw[hq] at UY;clear hp hq hs ht hn;generalize bd s=ks at *;generalize bd t=kt at *;clear HH HP hbd hx hy;go_enter Try.func80,Try.ntmps80;go_wp2_with (fail);refine(UX.out _).mono ?_;rintro e w1 ⟨rfl,x1⟩;have X1:=Hd (Ext.tr (a:=w) XI x1);clear x1 UX;go_wp2_with (fail);refine(UY.out _).mono ?_;rintro e w2 ⟨rfl,x2⟩;have X2:=Hd (X1.out.tr (Ext.tr (a:=w1) XI x2));clear x2 UY X1;have h3:=Zf X2.out zh h3;have zh:gh<w2.heap.size:=by have:=X2.out.size;omega
 go_upto_region 3 with(fail);refine wp_region_any (by kernel_rfl) ?_
 change wpAny _ _ _ _ _ _ _ (World.drew _)
 refine Za (i:=0) (op:=Op.move (Operand.tmp 8)) (t:=3) (d:=some 21) (v:=_) rfl (by decide +kernel) (fun _ _ _ h=>h) (by intro _;unfold Zb;go_simp;try with_reducible rfl) ?_
 try simp only[lay]
 refine Zs (i:=1) (op:=Op.binOp BinOp.geq 3 (Operand.tmp 21) (Operand.const (Value.int IntKind.i64 0)) 3) (t:=4) (d:=some 22) (v:=.bool true) rfl (by decide +kernel) (by decide +kernel) (by decide +kernel) (fun _ _ _ h=>h) ?_ ?_
 ·(intro _;unfold Zb;go_simp;skip)
 try simp only[lay]
 refine Za (i:=2) (op:=Op.move (Operand.tmp 22)) (t:=4) (d:=some 23) (v:=_) rfl (by decide +kernel) (fun _ _ _ h=>h) (by intro _;unfold Zb;go_simp;try with_reducible rfl) ?_
 try simp only[lay]
 refine Zy (i:=3) (op:=Op.move (Operand.tmp 10)) (t:=3) (d:=some 24) (g:=(2,true)) (v:=_) rfl (by decide +kernel) (fun _ _ _ h=>h) (by kernel_rfl) (by intro _;unfold Zb;go_simp;try with_reducible rfl) ?_
 try simp only[lay]
 refine YF (i:=4) (op:=Op.binOp BinOp.lss 3 (Operand.tmp 24) (Operand.const (Value.int IntKind.i64 0)) 3) (t:=4) (d:=some 25) (g:=(2,true)) (v:=.bool false) rfl (by decide +kernel) (by decide +kernel) (by decide +kernel) (fun _ _ _ h=>h) (by kernel_rfl) ?_ ?_
 ·(intro _;unfold Zb;go_simp;skip)
 try simp only[lay]
 refine Zy (i:=5) (op:=Op.move (Operand.tmp 25)) (t:=4) (d:=some 26) (g:=(2,true)) (v:=_) rfl (by decide +kernel) (fun _ _ _ h=>h) (by kernel_rfl) (by intro _;unfold Zb;go_simp;try with_reducible rfl) ?_
 try simp only[lay]
 refine Zy (i:=6) (op:=Op.move (Operand.tmp 0)) (t:=32) (d:=some 27) (g:=(5,false)) (v:=_) rfl (by decide +kernel) (fun _ _ _ h=>h) (by kernel_rfl) (by intro _;unfold Zb;go_simp;try with_reducible rfl) ?_
 try simp only[lay]
 refine Zy (i:=7) (op:=Op.nilCheck (Operand.tmp 27)) (t:=0) (d:=some 28) (g:=(5,false)) (v:=_) rfl (by decide +kernel) (fun _ _ _ h=>h) (by kernel_rfl) (by intro _;unfold Zb;go_simp;try with_reducible rfl) ?_
 try simp only[lay]
 refine Zy (i:=8) (op:=Op.fieldAddr 69 (Operand.tmp 28) 3) (t:=0) (d:=some 29) (g:=(5,false)) (v:=_) rfl (by decide +kernel) (fun _ _ _ h=>h) (by kernel_rfl) (by intro _;unfold Zb;go_simp;try with_reducible rfl) ?_
 try simp only[lay]
 refine Zy (i:=10) (op:=Op.move (Operand.tmp 8)) (t:=3) (d:=some 31) (g:=(5,false)) (v:=_) rfl (by decide +kernel) (fun _ _ _ h=>h) (by kernel_rfl) (by intro _;unfold Zb;go_simp;try with_reducible rfl) ?_
 try simp only[lay]
 refine Zy (i:=12) (op:=Op.move (Operand.tmp 0)) (t:=32) (d:=some 33) (g:=(5,false)) (v:=_) rfl (by decide +kernel) (fun _ _ _ h=>h) (by kernel_rfl) (by intro _;unfold Zb;go_simp;try with_reducible rfl) ?_
 try simp only[lay]
 refine Zy (i:=13) (op:=Op.nilCheck (Operand.tmp 33)) (t:=0) (d:=some 34) (g:=(5,false)) (v:=_) rfl (by decide +kernel) (fun _ _ _ h=>h) (by kernel_rfl) (by intro _;unfold Zb;go_simp;try with_reducible rfl) ?_
 try simp only[lay]
 refine Zy (i:=14) (op:=Op.fieldAddr 69 (Operand.tmp 34) 3) (t:=0) (d:=some 35) (g:=(5,false)) (v:=_) rfl (by decide +kernel) (fun _ _ _ h=>h) (by kernel_rfl) (by intro _;unfold Zb;go_simp;try with_reducible rfl) ?_
 try simp only[lay]
 refine Zy (i:=16) (op:=Op.move (Operand.tmp 10)) (t:=3) (d:=some 37) (g:=(5,false)) (v:=_) rfl (by decide +kernel) (fun _ _ _ h=>h) (by kernel_rfl) (by intro _;unfold Zb;go_simp;try with_reducible rfl) ?_
 try simp only[lay]
 refine Zi (n:=5) [(9,some 30),(15,some 36),(11,some 32)] (Ext w2) (VF (fun | 9=>some (.pointer (some ⟨gp,0,none⟩)) | 15=>some (.pointer (some ⟨gp,0,none⟩)) | 11=>some (.int .i64 ks) | _=>none) (fun i v W=>True)) Ext #[true,true,true,true,true,true,true,true,true,true,true,true,true,true,true,true,true,false,false,false,false,false] (by decide +kernel) (VF.stab ?_) ?_ ?_ (by first | exact(Ext.rf _).drew | exact Ext.rf _)
 ·intro j v W W' _ _ _;trivial
 ·intro pS hpm uS wS hRW hD K hK
  simp only[List.mem_cons,List.not_mem_nil,or_false] at hpm;rcases hpm with rfl | rfl | rfl
  ·( have rX:=Zf hRW zh h3;exact WW (T:=29) (x:=Operand.tmp 29) (t:=29) (d:=some 30) rfl (by kernel_rfl) (.pointer (some ⟨gh,3,none⟩)) (by kernel_rfl) (.pointer (some ⟨gp,0,none⟩)) (by go_simp) (hK _ _ (VF.mk rfl) hRW (Ext.rf _)))
  ·( have rX:=Zf hRW zh h3;exact WW (T:=29) (x:=Operand.tmp 35) (t:=29) (d:=some 36) rfl (by kernel_rfl) (.pointer (some ⟨gh,3,none⟩)) (by kernel_rfl) (.pointer (some ⟨gp,0,none⟩)) (by go_simp) (hK _ _ (VF.mk rfl) hRW (Ext.rf _)))
  ·(have e9:uS 9=.pointer (some ⟨gp,0,none⟩):=(hD 9 (Zg (by kernel_rfl))).k rfl;exact Yh (f:=23) (xs:=#[Operand.tmp 30,Operand.tmp 31]) (ts:=#[29,3]) (t:=3) (d:=some 32) rfl (by kernel_rfl) #[.pointer (some ⟨gp,0,none⟩),.int .i64 (s:Int)] (by go_simp) (Eq.trans (b:=#[uS 9,.int .i64 (s:Int)]) (by kernel_rfl) (by rw[e9])) _ (B1.out _ (X2.out.tr hRW)) (by rintro e w9 ⟨rfl,xx⟩;exact⟨_,rfl,hK _ _ (VF.mk rfl) (hRW.tr xx) xx⟩))
 intro u w3 hR3 hV;have h9:=(hV (9,some 30) (by simp)).k rfl;have h15:=(hV (15,some 36) (by simp)).k rfl;have h11:=(hV (11,some 32) (by simp)).k rfl;simp only[Zc,h9,h15,h11];clear hV h9 h15 h11
 try simp only[lay]
 have X3:=Hd (X2.out.tr hR3);clear B1;refine Zd 17 (by decide +kernel) (Yh (f:=23) (xs:=#[Operand.tmp 36,Operand.tmp 37]) (ts:=#[29,3]) (t:=3) (d:=some 38) rfl (by kernel_rfl) #[.pointer (some ⟨gp,0,none⟩),.int .i64 (t:Int)] (by go_simp) (by kernel_rfl) _ (B2.out _ X3.out) ?_);rintro e w4 ⟨rfl,x4⟩;have X4:=Hd (X3.out.tr x4);clear x4 B2;refine⟨_,rfl,?_⟩
 try simp only[lay]
 refine Zy (i:=18) (op:=Op.binOp BinOp.lss 3 (Operand.tmp 32) (Operand.tmp 38) 3) (t:=4) (d:=some 39) (g:=(5,false)) (v:=_) rfl (by decide +kernel) (fun _ _ _ h=>h) (by kernel_rfl) (by intro _;unfold Zb;go_simp;try with_reducible rfl) ?_
 try simp only[lay]
 refine Zy (i:=19) (op:=Op.pick (Operand.tmp 26) (Operand.const (Value.bool true)) (Operand.tmp 39)) (t:=4) (d:=some 40) (g:=(2,true)) (v:=_) rfl (by decide +kernel) (fun _ _ _ h=>h) (by kernel_rfl) (by intro _;unfold Zb;go_simp;try with_reducible rfl) ?_
 try simp only[lay]
 refine Za (i:=20) (op:=Op.pick (Operand.tmp 23) (Operand.tmp 40) (Operand.const (Value.bool false))) (t:=4) (d:=some 41) (v:=_) rfl (by decide +kernel) (fun _ _ _ h=>h) (by intro _;unfold Zb;go_simp;try with_reducible rfl) ?_
 try simp only[lay]
 refine Za (i:=21) (op:=Op.assign (Operand.tmp 41)) (t:=4) (d:=some 6) (v:=_) rfl (by decide +kernel) (fun _ _ _ h=>h) (by intro _;unfold Zb;go_simp;try with_reducible rfl) ?_
 try simp only[lay]
 refine wpAny_done (by kernel_rfl) ?_ _;go_simp;go_wp2_with (fail);go_ret;exact⟨rfl,X4.out.tr XI⟩
theorem ZS (bs gm gc gp gn go gh b lv:Nat)(P:PoolS)(bd:Nat->Int)(w:World)(HH:ZK w gh gm gp b lv)(HP:PoolR w bs gm gc gp gn go P)(hbd:PB P bd)(hn:P.n<=100000)(x y:Int)(hx:Zl x)(hy:Zl y)(hpx:pla x<(P.n:Int))(hpy:pla y<(P.n:Int)) :
  Calls Try.prog 80 #[.pointer (some ⟨gh,0,none⟩),.int .i64 x,.int .i64 y] w fun e w'=>e=.returned (.bool (ZR bd x y))/\Ext w w':=by
 unfold ZR
 by_cases h1:0<=pla x
 ·by_cases h2:pla y<0
  ·have:=VJ bs gm gc gp gn go gh b lv P bd w HH HP hbd hn x y hx hy h1 h2
   simpa [h1,h2] using this
  ·obtain⟨s,hs⟩:=Int.eq_ofNat_of_zero_le h1
   obtain⟨t,ht⟩:=Int.eq_ofNat_of_zero_le (show 0<=pla y by omega);have:=Vf bs gm gc gp gn go gh b lv P bd w HH HP hbd hn x y hx hy s t hs ht (by omega) (by omega);rw[hs,ht];have e2:¬((t:Int)<0):=by omega
   simpa [e2] using this
 ·have:=Ve bs gm gc gp gn go gh b lv P bd w HH HP hbd hn x y hx hy (by omega)
  simpa [h1] using this
end
end Go.Proofs.Ytgimmiaenkeohaa
