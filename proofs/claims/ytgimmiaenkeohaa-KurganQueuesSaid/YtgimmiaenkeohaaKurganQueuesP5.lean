/- parts, packed by a program -/
import Derived.Test.YtgimmiaenkeohaaKurganQueuesP4
import Derived.BigRegion
set_option maxRecDepth 100000
set_option maxHeartbeats 16000000
set_option linter.all false
namespace Go.Proofs.Ytgimmiaenkeohaa
section
open Go.RowKit Go.ChangeShapes Go.WideShapes Go.ChangeAt
theorem YS (bs gm gc gp gn go gh b lv ga:Nat)(M:List Int)(P:PoolS)(a:HAct)(w:World)(H:HW w bs gm gc gp gn go gh b lv ga M P a)(hne:a.low≠a.high) :
  Calls Try.prog 76 #[.pointer (some ⟨ga,0,none⟩)] w fun e w'=>e=.returned (.tuple #[])/\Ext w w':=by
 have e1:decide (a.low=a.high)=false:=decide_eq_false hne;have k10:w.drew.cell? ⟨ga,10,none⟩=some (.int .i64 a.low):=Blk.cell H.a 10;have k11:w.drew.cell? ⟨ga,11,none⟩=some (.int .i64 a.high):=Blk.cell H.a 11;clear H;generalize a.low=lo at *;generalize a.high=hi at *;go_enter Try.func76,Try.ntmps76;go_upto_region 0 with(fail);refine wp_region_any (by kernel_rfl) ?_
 change wpAny _ _ _ _ _ _ _ (World.drew _)
 refine Za (i:=0) (op:=Op.move (Operand.tmp 0)) (t:=46) (d:=some 2) (v:=_) rfl (by decide +kernel) (fun _ _ _ h=>h) (by intro _;unfold Zb;go_simp;try with_reducible rfl) ?_
 try simp only[lay]
 refine Za (i:=1) (op:=Op.nilCheck (Operand.tmp 2)) (t:=0) (d:=some 3) (v:=_) rfl (by decide +kernel) (fun _ _ _ h=>h) (by intro _;unfold Zb;go_simp;try with_reducible rfl) ?_
 try simp only[lay]
 refine Za (i:=2) (op:=Op.fieldAddr 85 (Operand.tmp 3) 10) (t:=0) (d:=some 4) (v:=_) rfl (by decide +kernel) (fun _ _ _ h=>h) (by intro _;unfold Zb;go_simp;try with_reducible rfl) ?_
 try simp only[lay]
 refine Za (i:=4) (op:=Op.move (Operand.tmp 0)) (t:=46) (d:=some 6) (v:=_) rfl (by decide +kernel) (fun _ _ _ h=>h) (by intro _;unfold Zb;go_simp;try with_reducible rfl) ?_
 try simp only[lay]
 refine Za (i:=5) (op:=Op.nilCheck (Operand.tmp 6)) (t:=0) (d:=some 7) (v:=_) rfl (by decide +kernel) (fun _ _ _ h=>h) (by intro _;unfold Zb;go_simp;try with_reducible rfl) ?_
 try simp only[lay]
 refine Za (i:=6) (op:=Op.fieldAddr 85 (Operand.tmp 7) 11) (t:=0) (d:=some 8) (v:=_) rfl (by decide +kernel) (fun _ _ _ h=>h) (by intro _;unfold Zb;go_simp;try with_reducible rfl) ?_
 try simp only[lay]
 refine Zj (n:=1) [(3,some 5),(7,some 9)] (fun | 3=>.int .i64 lo | 7=>.int .i64 hi | _=>undef) #[true,true,true,true,true,true,true,true,false] (by decide +kernel) ?_ ?_
 ·intro pS hpm uS hD K hK
  simp only[List.mem_cons,List.not_mem_nil,or_false] at hpm;rcases hpm with rfl | rfl
  ·exact Ze (T:=3) (x:=Operand.tmp 4) (t:=3) (d:=some 5) rfl (.pointer (some ⟨ga,10,none⟩)) (by kernel_rfl) (.int .i64 lo) (by go_simp) hK
  ·exact Ze (T:=3) (x:=Operand.tmp 8) (t:=3) (d:=some 9) rfl (.pointer (some ⟨ga,11,none⟩)) (by kernel_rfl) (.int .i64 hi) (by go_simp) hK
 simp only[Zc,Act.put,List.setIfInBounds_toArray,List.set_cons_zero,List.set_cons_succ];refine Zs (i:=8) (op:=Op.binOp BinOp.eql 3 (Operand.tmp 5) (Operand.tmp 9) 3) (t:=4) (d:=some 10) (v:=.bool false) rfl (by decide +kernel) (by decide +kernel) (by decide +kernel) (fun _ _ _ h=>h) ?_ ?_
 ·(intro _;unfold Zb;go_simp;skip)
 try simp only[lay]
 refine wpAny_done (by kernel_rfl) ?_ _;go_simp;go_wp2_with (fail);go_end0;exact⟨rfl,(Ext.rf _).drew⟩
theorem Xw (bs gm gc gp gn go gh b lv ga:Nat)(M:List Int)(P:PoolS)(a:HAct)(w:World)(H:HW w bs gm gc gp gn go gh b lv ga M P a)(k:Nat)(hlo:a.low=(k:Int))(hhi:a.high=(k:Int))(b1 o1 b2 o2 n1 n2:Nat)(hya:a.way.A=some ⟨b1,o1,none⟩)(hxa:a.heads.A=some ⟨b2,o2,none⟩)(hn1:a.way.xs.length=n1)(hn2:a.heads.xs.length=n2)(p x:Int)(hp:w.cell? ⟨b1,o1+k,none⟩=some (.int .i64 p))(hx:w.cell? ⟨b2,o2+k,none⟩=some (.int .i64 x))(l1:k<n1)(l2:k<n2)(s1:n1<=64)(s2:n2<=64) :
  Calls Try.prog 76 #[.pointer (some ⟨ga,0,none⟩)] w fun e w'=>e=.returned (.tuple #[])/\HW w' bs gm gc gp gn go gh b lv ga M P { a with pos:=p,hd:=x,ph:=2 }/\Mod (fun b=>b=ga) w w':=by
 have k10:w.drew.cell? ⟨ga,10,none⟩=some (.int .i64 (k:Int)):=(Blk.cell H.a 10).trans (by simp[HAct.cells,hlo]);have k11:w.drew.cell? ⟨ga,11,none⟩=some (.int .i64 (k:Int)):=(Blk.cell H.a 11).trans (by simp[HAct.cells,hhi]);have HH:=Hd (H.ext (show Ext w w.drew from(Ext.rf _).drew));have DD:=Hd (Mod.of_ext (S:=fun b=>b=ga) (show Ext w w.drew from(Ext.rf _).drew));replace hp:w.drew.cell? ⟨b1,o1+k,none⟩=some (.int .i64 p):=hp;replace hx:w.drew.cell? ⟨b2,o2+k,none⟩=some (.int .i64 x):=hx;have e1:(0:Int)<=(k:Int):=by omega
 have e2:(k:Int)<(n1:Int):=by omega
 have e3:(k:Int)<(n2:Int):=by omega
 clear H;go_enter Try.func76,Try.ntmps76;go_upto_region 0 with(fail);refine wp_region_any (by kernel_rfl) ?_
 change wpAny _ _ _ _ _ _ _ (World.drew _)
 generalize w.drew=w1 at *;refine Za (i:=0) (op:=Op.move (Operand.tmp 0)) (t:=46) (d:=some 2) (v:=_) rfl (by decide +kernel) (fun _ _ _ h=>h) (by intro _;unfold Zb;go_simp;try with_reducible rfl) ?_
 try simp only[lay]
 refine Za (i:=1) (op:=Op.nilCheck (Operand.tmp 2)) (t:=0) (d:=some 3) (v:=_) rfl (by decide +kernel) (fun _ _ _ h=>h) (by intro _;unfold Zb;go_simp;try with_reducible rfl) ?_
 try simp only[lay]
 refine Za (i:=2) (op:=Op.fieldAddr 85 (Operand.tmp 3) 10) (t:=0) (d:=some 4) (v:=_) rfl (by decide +kernel) (fun _ _ _ h=>h) (by intro _;unfold Zb;go_simp;try with_reducible rfl) ?_
 try simp only[lay]
 refine Za (i:=4) (op:=Op.move (Operand.tmp 0)) (t:=46) (d:=some 6) (v:=_) rfl (by decide +kernel) (fun _ _ _ h=>h) (by intro _;unfold Zb;go_simp;try with_reducible rfl) ?_
 try simp only[lay]
 refine Za (i:=5) (op:=Op.nilCheck (Operand.tmp 6)) (t:=0) (d:=some 7) (v:=_) rfl (by decide +kernel) (fun _ _ _ h=>h) (by intro _;unfold Zb;go_simp;try with_reducible rfl) ?_
 try simp only[lay]
 refine Za (i:=6) (op:=Op.fieldAddr 85 (Operand.tmp 7) 11) (t:=0) (d:=some 8) (v:=_) rfl (by decide +kernel) (fun _ _ _ h=>h) (by intro _;unfold Zb;go_simp;try with_reducible rfl) ?_
 try simp only[lay]
 refine Zj (n:=1) [(3,some 5),(7,some 9)] (fun | 3=>.int .i64 (k:Int) | 7=>.int .i64 (k:Int) | _=>undef) #[true,true,true,true,true,true,true,true,false] (by decide +kernel) ?_ ?_
 ·intro pS hpm uS hD K hK
  simp only[List.mem_cons,List.not_mem_nil,or_false] at hpm;rcases hpm with rfl | rfl
  ·exact Ze (T:=3) (x:=Operand.tmp 4) (t:=3) (d:=some 5) rfl (.pointer (some ⟨ga,10,none⟩)) (by kernel_rfl) (.int .i64 (k:Int)) (by go_simp) hK
  ·exact Ze (T:=3) (x:=Operand.tmp 8) (t:=3) (d:=some 9) rfl (.pointer (some ⟨ga,11,none⟩)) (by kernel_rfl) (.int .i64 (k:Int)) (by go_simp) hK
 simp only[Zc,Act.put,List.setIfInBounds_toArray,List.set_cons_zero,List.set_cons_succ];refine Zs (i:=8) (op:=Op.binOp BinOp.eql 3 (Operand.tmp 5) (Operand.tmp 9) 3) (t:=4) (d:=some 10) (v:=.bool true) rfl (by decide +kernel) (by decide +kernel) (by decide +kernel) (fun _ _ _ h=>h) ?_ ?_
 ·(intro _;unfold Zb;go_simp;skip)
 try simp only[lay]
 refine wpAny_done (by kernel_rfl) ?_ _;go_simp;clear k10 k11;have X2:Ext w1 w1.drew:=(Ext.rf _).drew;have H2:=Hd (HH.out.ext X2);have D2:=Hd (DD.out.tr (Mod.of_ext (S:=fun b=>b=ga) X2));replace hp:w1.drew.cell? ⟨b1,o1+k,none⟩=some (.int .i64 p):=hp;replace hx:w1.drew.cell? ⟨b2,o2+k,none⟩=some (.int .i64 x):=hx;clear X2 HH DD;go_upto_region 1 with(fail);refine wp_region_any (by kernel_rfl) ?_
 change wpAny _ _ _ _ _ _ _ (World.drew _)
 generalize w1.drew=w2 at *;have k11:w2.cell? ⟨ga,11,none⟩=some (.int .i64 (k:Int)):=(Blk.cell H2.out.a 11).trans (by simp[HAct.cells,hhi]);have k8:w2.cell? ⟨ga,8,none⟩=some (.slice (some ⟨b1,o1,none⟩) n1 a.way.c):=(Blk.cell H2.out.a 8).trans (by simp[HAct.cells,OwL.v,hya,hn1]);have k9:w2.cell? ⟨ga,9,none⟩=some (.slice (some ⟨b2,o2,none⟩) n2 a.heads.c):=(Blk.cell H2.out.a 9).trans (by simp[HAct.cells,OwL.v,hxa,hn2]);refine Za (i:=0) (op:=Op.move (Operand.tmp 0)) (t:=46) (d:=some 11) (v:=_) rfl (by decide +kernel) (fun _ _ _ h=>h) (by intro _;unfold Zb;go_simp;try with_reducible rfl) ?_
 try simp only[lay]
 refine Za (i:=1) (op:=Op.move (Operand.tmp 0)) (t:=46) (d:=some 12) (v:=_) rfl (by decide +kernel) (fun _ _ _ h=>h) (by intro _;unfold Zb;go_simp;try with_reducible rfl) ?_
 try simp only[lay]
 refine Za (i:=2) (op:=Op.move (Operand.tmp 0)) (t:=46) (d:=some 13) (v:=_) rfl (by decide +kernel) (fun _ _ _ h=>h) (by intro _;unfold Zb;go_simp;try with_reducible rfl) ?_
 try simp only[lay]
 refine Za (i:=3) (op:=Op.nilCheck (Operand.tmp 13)) (t:=0) (d:=some 14) (v:=_) rfl (by decide +kernel) (fun _ _ _ h=>h) (by intro _;unfold Zb;go_simp;try with_reducible rfl) ?_
 try simp only[lay]
 refine Za (i:=4) (op:=Op.fieldAddr 85 (Operand.tmp 14) 8) (t:=0) (d:=some 15) (v:=_) rfl (by decide +kernel) (fun _ _ _ h=>h) (by intro _;unfold Zb;go_simp;try with_reducible rfl) ?_
 try simp only[lay]
 refine Za (i:=6) (op:=Op.move (Operand.tmp 0)) (t:=46) (d:=some 17) (v:=_) rfl (by decide +kernel) (fun _ _ _ h=>h) (by intro _;unfold Zb;go_simp;try with_reducible rfl) ?_
 try simp only[lay]
 refine Za (i:=7) (op:=Op.nilCheck (Operand.tmp 17)) (t:=0) (d:=some 18) (v:=_) rfl (by decide +kernel) (fun _ _ _ h=>h) (by intro _;unfold Zb;go_simp;try with_reducible rfl) ?_
 try simp only[lay]
 refine Za (i:=8) (op:=Op.fieldAddr 85 (Operand.tmp 18) 11) (t:=0) (d:=some 19) (v:=_) rfl (by decide +kernel) (fun _ _ _ h=>h) (by intro _;unfold Zb;go_simp;try with_reducible rfl) ?_
 try simp only[lay]
 refine Za (i:=12) (op:=Op.move (Operand.tmp 0)) (t:=46) (d:=some 23) (v:=_) rfl (by decide +kernel) (fun _ _ _ h=>h) (by intro _;unfold Zb;go_simp;try with_reducible rfl) ?_
 try simp only[lay]
 refine Za (i:=13) (op:=Op.nilCheck (Operand.tmp 23)) (t:=0) (d:=some 24) (v:=_) rfl (by decide +kernel) (fun _ _ _ h=>h) (by intro _;unfold Zb;go_simp;try with_reducible rfl) ?_
 try simp only[lay]
 refine Za (i:=14) (op:=Op.fieldAddr 85 (Operand.tmp 24) 9) (t:=0) (d:=some 25) (v:=_) rfl (by decide +kernel) (fun _ _ _ h=>h) (by intro _;unfold Zb;go_simp;try with_reducible rfl) ?_
 try simp only[lay]
 refine Za (i:=16) (op:=Op.move (Operand.tmp 0)) (t:=46) (d:=some 27) (v:=_) rfl (by decide +kernel) (fun _ _ _ h=>h) (by intro _;unfold Zb;go_simp;try with_reducible rfl) ?_
 try simp only[lay]
 refine Za (i:=17) (op:=Op.nilCheck (Operand.tmp 27)) (t:=0) (d:=some 28) (v:=_) rfl (by decide +kernel) (fun _ _ _ h=>h) (by intro _;unfold Zb;go_simp;try with_reducible rfl) ?_
 try simp only[lay]
 refine Za (i:=18) (op:=Op.fieldAddr 85 (Operand.tmp 28) 11) (t:=0) (d:=some 29) (v:=_) rfl (by decide +kernel) (fun _ _ _ h=>h) (by intro _;unfold Zb;go_simp;try with_reducible rfl) ?_
 try simp only[lay]
 refine Zj (n:=6) [(5,some 16),(9,some 20),(10,some 21),(11,some 22),(15,some 26),(19,some 30),(20,some 31),(21,some 32)] (fun | 5=>.slice (some ⟨b1,o1,none⟩) n1 a.way.c | 9=>.int .i64 (k:Int) | 10=>.pointer (some ⟨b1,o1+k,none⟩) | 11=>.int .i64 p | 15=>.slice (some ⟨b2,o2,none⟩) n2 a.heads.c | 19=>.int .i64 (k:Int) | 20=>.pointer (some ⟨b2,o2+k,none⟩) | 21=>.int .i64 x | _=>undef) #[true,true,true,true,true,true,true,true,true,true,true,true,true,true,true,true,true,true,true,true,true,true,false,false,false,false,false,false] (by decide +kernel) ?_ ?_
 ·intro pS hpm uS hD K hK
  simp only[List.mem_cons,List.not_mem_nil,or_false] at hpm;rcases hpm with rfl | rfl | rfl | rfl | rfl | rfl | rfl | rfl
  ·exact Ze (T:=22) (x:=Operand.tmp 15) (t:=22) (d:=some 16) rfl (.pointer (some ⟨ga,8,none⟩)) (by kernel_rfl) (.slice (some ⟨b1,o1,none⟩) n1 a.way.c) (by go_simp) hK
  ·exact Ze (T:=3) (x:=Operand.tmp 19) (t:=3) (d:=some 20) rfl (.pointer (some ⟨ga,11,none⟩)) (by kernel_rfl) (.int .i64 (k:Int)) (by go_simp) hK
  ·exact Wt (T:=22) (x:=Operand.tmp 16) (y:=Operand.tmp 20) (t:=0) (d:=some 21) rfl (.slice (some ⟨b1,o1,none⟩) n1 a.way.c) (.int .i64 (k:Int)) (Eq.trans (b:=uS 5) (by kernel_rfl) (hD 5 (Zg (by kernel_rfl)))) (Eq.trans (b:=uS 9) (by kernel_rfl) (hD 9 (Zg (by kernel_rfl)))) (.pointer (some ⟨b1,o1+k,none⟩)) (by go_simp) hK
  ·exact Ze (T:=3) (x:=Operand.tmp 21) (t:=3) (d:=some 22) rfl (.pointer (some ⟨b1,o1+k,none⟩)) (Eq.trans (b:=uS 10) (by kernel_rfl) (hD 10 (Zg (by kernel_rfl)))) (.int .i64 p) (by go_simp) hK
  ·exact Ze (T:=22) (x:=Operand.tmp 25) (t:=22) (d:=some 26) rfl (.pointer (some ⟨ga,9,none⟩)) (by kernel_rfl) (.slice (some ⟨b2,o2,none⟩) n2 a.heads.c) (by go_simp) hK
  ·exact Ze (T:=3) (x:=Operand.tmp 29) (t:=3) (d:=some 30) rfl (.pointer (some ⟨ga,11,none⟩)) (by kernel_rfl) (.int .i64 (k:Int)) (by go_simp) hK
  ·exact Wt (T:=22) (x:=Operand.tmp 26) (y:=Operand.tmp 30) (t:=0) (d:=some 31) rfl (.slice (some ⟨b2,o2,none⟩) n2 a.heads.c) (.int .i64 (k:Int)) (Eq.trans (b:=uS 15) (by kernel_rfl) (hD 15 (Zg (by kernel_rfl)))) (Eq.trans (b:=uS 19) (by kernel_rfl) (hD 19 (Zg (by kernel_rfl)))) (.pointer (some ⟨b2,o2+k,none⟩)) (by go_simp) hK
  ·exact Ze (T:=3) (x:=Operand.tmp 31) (t:=3) (d:=some 32) rfl (.pointer (some ⟨b2,o2+k,none⟩)) (Eq.trans (b:=uS 20) (by kernel_rfl) (hD 20 (Zg (by kernel_rfl)))) (.int .i64 x) (by go_simp) hK
 simp only[Zc,Act.put,List.setIfInBounds_toArray,List.set_cons_zero,List.set_cons_succ];refine Za (i:=22) (op:=Op.nilCheck (Operand.tmp 11)) (t:=0) (d:=some 33) (v:=_) rfl (by decide +kernel) (fun _ _ _ h=>h) (by intro _;unfold Zb;go_simp;try with_reducible rfl) ?_
 try simp only[lay]
 refine Za (i:=23) (op:=Op.fieldAddr 85 (Operand.tmp 33) 12) (t:=0) (d:=some 34) (v:=_) rfl (by decide +kernel) (fun _ _ _ h=>h) (by intro _;unfold Zb;go_simp;try with_reducible rfl) ?_
 try simp only[lay]
 have c7:w2.cell? ⟨ga,12,none⟩=some (.int .i64 a.pos):=Blk.cell H2.out.a 12;have f7:w2.frozen? ⟨ga,12,none⟩=false:=Blk.free H2.out.a 12;obtain⟨q1,q2⟩:=HW.field H2.out 12 (.int .i64 p) (a':={ a with pos:=p }) rfl;have c8:(w2.setCell ⟨ga,12,none⟩ (.int .i64 p)).cell? ⟨ga,13,none⟩=some (.int .i64 a.hd):=Blk.cell q1.a 13;have f8:(w2.setCell ⟨ga,12,none⟩ (.int .i64 p)).frozen? ⟨ga,13,none⟩=false:=Blk.free q1.a 13;obtain⟨r1,r2⟩:=HW.field q1 13 (.int .i64 x) (a':={ a with pos:=p,hd:=x }) rfl;have H3:=Hd r1;have D3:=Hd (D2.out.tr (q2.tr r2));clear q1 q2 r1 r2 D2;refine Zd 24 (by decide +kernel) (ZQ rfl (.pointer (some ⟨ga,12,none⟩)) (.int .i64 p) (by kernel_rfl) (by kernel_rfl) (by go_simp;rfl) ?_)
 try simp only[lay]
 refine Za (i:=25) (op:=Op.nilCheck (Operand.tmp 12)) (t:=0) (d:=some 35) (v:=_) rfl (by decide +kernel) (fun _ _ _ h=>h) (by intro _;unfold Zb;go_simp;try with_reducible rfl) ?_
 try simp only[lay]
 refine Za (i:=26) (op:=Op.fieldAddr 85 (Operand.tmp 35) 13) (t:=0) (d:=some 36) (v:=_) rfl (by decide +kernel) (fun _ _ _ h=>h) (by intro _;unfold Zb;go_simp;try with_reducible rfl) ?_
 try simp only[lay]
 refine Zd 27 (by decide +kernel) (ZQ rfl (.pointer (some ⟨ga,13,none⟩)) (.int .i64 x) (by kernel_rfl) (by kernel_rfl) (by go_simp;rfl) ?_);refine wpAny_done (by kernel_rfl) ?_ _;go_simp;clear c7 f7 c8 f8 H2 k8 k9 k11 hp hx;generalize (w2.setCell ⟨ga,12,none⟩ (.int .i64 p)).setCell ⟨ga,13,none⟩ (.int .i64 x)=w4 at *;have c0:w4.cell? ⟨ga,1,none⟩=some (.int .i64 a.ph):=Blk.cell H3.out.a 1;have f0:w4.frozen? ⟨ga,1,none⟩=false:=Blk.free H3.out.a 1;obtain⟨q1,q2⟩:=H3.out.field 1 (.int .i64 2) (a':={ a with pos:=p,hd:=x,ph:=2 }) rfl;have S1:=Hd q1;have S2:=Hd (D3.out.tr q2);clear q1 q2;go_wp2_with (fail);go_end0;exact⟨rfl,S1.out,S2.out⟩
def PX (ga gm gc gx:Nat)(b:Nat) : Prop:=PT ga gm gc b\/b=gx
theorem HW.row {w:World}{bs gm gc gp gn go gh b lv ga gx:Nat}{M:List Int}{P:PoolS}{a:HAct}(h:HW w bs gm gc gp gn go gh b lv ga M P a){hs:List Int}(hx:Blk w gx 3 (List.toArray (ZJ hs)))(hc:gx≠gc)(ho:∀ (k:Nat) (o:OwL),P.ows[k]?=some o->bl o.A≠some gx)(i:Nat)(v:Int) :
  HW (w.setCell ⟨gx,i,none⟩ (.int .i64 v)) bs gm gc gp gn go gh b lv ga M P a/\Blk (w.setCell ⟨gx,i,none⟩ (.int .i64 v)) gx 3 (List.toArray (ZJ (hs.set i v)))/\Mod (fun b=>b=gx) w (w.setCell ⟨gx,i,none⟩ (.int .i64 v)):=by
 have M1:Mod (fun b=>b=gx) w (w.setCell ⟨gx,i,none⟩ (.int .i64 v)):=Mod.set (S:=fun b=>b=gx) (p:=⟨gx,i,none⟩) (Mod.rf w) (.inl rfl) _;obtain⟨⟨st,k,c,o,n,d,m1⟩,m2⟩:=id h.m;refine⟨⟨h.m.mod M1 (m1.ne hx (by decide)) (fun e=>hc e.symm),h.p.mod M1 (h.p.p.ne hx (by decide)) (h.p.nd.ne hx (by decide)) (h.p.ow.ne hx (by decide)) (fun k q hq b hb e=>ho k q hq (by rw[hb,e])),Blk.mod h.h M1 (Blk.ne h.h hx (by decide)),Blk.mod h.a M1 (Blk.ne h.a hx (by decide))⟩,?_,M1⟩;have:=hx.set i (.int .i64 v)
 rwa [XP] at this
theorem Wb (bs gm gc gp gn go gh b lv ga:Nat)(M:List Int)(P:PoolS)(bd:Nat->Int)(a:HAct)(w:World)(H:HW w bs gm gc gp gn go gh b lv ga M P a)(hbd:PB P bd)(hn:P.n<=100000)(hb:b<=1048576)(lo hi mid:Nat)(hmid:mid=(lo+hi) / 2)(hlt:lo<hi)(hlo:a.low=(lo:Int))(hhi:a.high=(hi:Int))(b1 o1 n1 n2 gx:Nat)(hs:List Int)(hya:a.way.A=some ⟨b1,o1,none⟩)(hn1:a.way.xs.length=n1)(hxa:a.heads=⟨some ⟨gx,0,none⟩,n2,hs⟩)(hn2:hs.length=n2)(l1:hi<n1)(l2:hi<n2)(s1:n1<=64)(s2:n2<=64)(i:Nat)(hp:w.cell? ⟨b1,o1+mid,none⟩=some (.int .i64 (i:Int)))(hb1:b1<w.heap.size)(hx:Blk w gx 3 (List.toArray (ZJ hs)))(hgc:gx≠gc)(hgo:∀ (k:Nat) (o:OwL),P.ows[k]?=some o->bl o.A≠some gx)(h1:1<=i)(h2:i<=1048576)(x:Int)(hM:M[b+(i-1)]?=some x)(px:Zl x)(lx:pla x<(P.n:Int))(s:Nat)(hs1:a.slot=(s:Int))(hs2:s<P.n)(hq:Yi bd x (bd s)=true)
  (R:World->Prop) (HC:∀ W,HW W bs gm gc gp gn go gh b lv ga M P { a with low:=(mid:Int)+1 }->Blk W gx 3 (List.toArray (ZJ hs))->Mod (PX ga gm gc gx) w W->Calls Try.prog 76 #[.pointer (some ⟨ga,0,none⟩)] W fun e w'=>e=.returned (.tuple #[])/\R w') (XR:∀ W W',R W->Ext W W'->R W') :
  Calls Try.prog 52 #[.pointer (some ⟨ga,0,none⟩)] w fun e w'=>e=.returned (.tuple #[])/\R w':=by
 have RE:=Hd (fun(W:World) (h:HW W bs gm gc gp gn go gh b lv ga M P a)=>ZA gm gc gh b lv ga gp M W h.h h.m _ _ h.a rfl hb i h1 (by omega) x hM);have KE:=Hd (fun(W:World) (h:HW W bs gm gc gp gn go gh b lv ga M P a)=>YM bs gm gc gp gn go gh b lv ga P bd W h.h h.p hbd hn a h.a s hs1 hs2);have BE:=fun(W:World) (h:HW W bs gm gc gp gn go gh b lv ga M P a)=>Ye bs gm gc gp gn go gh b lv P bd W h.h h.p hbd hn x (bd s) px lx
 rw[hq] at BE;replace BE:=Hd BE;replace HC:=Hd HC;replace XR:=Hd XR;have wr1:IntKind.i64.wrap ((lo:Int)+(hi:Int))=(lo:Int)+(hi:Int):=IntWalk.i64_in _ (by omega);have wr3:IntKind.i64.wrap ((mid:Int)+1)=(mid:Int)+1:=IntWalk.i64_in _ (by omega);have e1:(0:Int)<=(mid:Int):=by omega
 have e2:(mid:Int)<(n1:Int):=by omega
 have e3:(mid:Int)<(n2:Int):=by omega
 have k10:w.drew.cell? ⟨ga,10,none⟩=some (.int .i64 (lo:Int)):=(Blk.cell H.a 10).trans (by simp[HAct.cells,hlo]);have k11:w.drew.cell? ⟨ga,11,none⟩=some (.int .i64 (hi:Int)):=(Blk.cell H.a 11).trans (by simp[HAct.cells,hhi]);have X1:Ext w w.drew:=(Ext.rf _).drew;have HH:=Hd (H.ext X1);have hx:=Hd (hx.ext X1);have DD:=Hd (Mod.of_ext (S:=PX ga gm gc gx) X1);replace hp:w.drew.cell? ⟨b1,o1+mid,none⟩=some (.int .i64 (i:Int)):=hp;replace hb1:b1<w.drew.heap.size:=hb1;have hm2:((lo:Int)+(hi:Int)) / 2=(mid:Int):=by omega
 clear hbd hM px lx hs1 hs2 hq H X1 hlo hhi hmid;have ln2:=hn2;generalize hks:bd s=ks at *;clear hks;go_enter Try.func52,Try.ntmps52;go_upto_region 0 with(fail);refine wp_region_any (by kernel_rfl) ?_
 change wpAny _ _ _ _ _ _ _ (World.drew _)
 generalize w.drew=w1 at *;refine Za (i:=0) (op:=Op.move (Operand.tmp 0)) (t:=46) (d:=some 4) (v:=_) rfl (by decide +kernel) (fun _ _ _ h=>h) (by intro _;unfold Zb;go_simp;try with_reducible rfl) ?_
 try simp only[lay]
 refine Za (i:=1) (op:=Op.nilCheck (Operand.tmp 4)) (t:=0) (d:=some 5) (v:=_) rfl (by decide +kernel) (fun _ _ _ h=>h) (by intro _;unfold Zb;go_simp;try with_reducible rfl) ?_
 try simp only[lay]
 refine Za (i:=2) (op:=Op.fieldAddr 85 (Operand.tmp 5) 10) (t:=0) (d:=some 6) (v:=_) rfl (by decide +kernel) (fun _ _ _ h=>h) (by intro _;unfold Zb;go_simp;try with_reducible rfl) ?_
 try simp only[lay]
 refine Za (i:=4) (op:=Op.move (Operand.tmp 0)) (t:=46) (d:=some 8) (v:=_) rfl (by decide +kernel) (fun _ _ _ h=>h) (by intro _;unfold Zb;go_simp;try with_reducible rfl) ?_
 try simp only[lay]
 refine Za (i:=5) (op:=Op.nilCheck (Operand.tmp 8)) (t:=0) (d:=some 9) (v:=_) rfl (by decide +kernel) (fun _ _ _ h=>h) (by intro _;unfold Zb;go_simp;try with_reducible rfl) ?_
 try simp only[lay]
 refine Za (i:=6) (op:=Op.fieldAddr 85 (Operand.tmp 9) 11) (t:=0) (d:=some 10) (v:=_) rfl (by decide +kernel) (fun _ _ _ h=>h) (by intro _;unfold Zb;go_simp;try with_reducible rfl) ?_
 try simp only[lay]
 refine Zj (n:=3) [(3,some 7),(7,some 11)] (fun | 3=>.int .i64 (lo:Int) | 7=>.int .i64 (hi:Int) | _=>undef) #[true,true,true,true,true,true,true,true,false,false,false] (by decide +kernel) ?_ ?_
 ·intro pS hpm uS hD K hK
  simp only[List.mem_cons,List.not_mem_nil,or_false] at hpm;rcases hpm with rfl | rfl
  ·exact Ze (T:=3) (x:=Operand.tmp 6) (t:=3) (d:=some 7) rfl (.pointer (some ⟨ga,10,none⟩)) (by kernel_rfl) (.int .i64 (lo:Int)) (by go_simp) hK
  ·exact Ze (T:=3) (x:=Operand.tmp 10) (t:=3) (d:=some 11) rfl (.pointer (some ⟨ga,11,none⟩)) (by kernel_rfl) (.int .i64 (hi:Int)) (by go_simp) hK
 simp only[Zc,Act.put,List.setIfInBounds_toArray,List.set_cons_zero,List.set_cons_succ];refine Zs (i:=8) (op:=Op.binOp BinOp.add 3 (Operand.tmp 7) (Operand.tmp 11) 3) (t:=3) (d:=some 12) (v:=.int .i64 ((lo:Int)+(hi:Int))) rfl (by decide +kernel) (by decide +kernel) (by decide +kernel) (fun _ _ _ h=>h) ?_ ?_
 ·(intro _;unfold Zb;go_simp;skip)
 try simp only[lay]
 refine Zs (i:=9) (op:=Op.binOp BinOp.quo 3 (Operand.tmp 12) (Operand.const (Value.int IntKind.i64 2)) 3) (t:=3) (d:=some 13) (v:=.int .i64 (mid:Int)) rfl (by decide +kernel) (by decide +kernel) (by decide +kernel) (fun _ _ _ h=>h) ?_ ?_
 ·(intro _;unfold Zb;go_simp;(rw[Int.tdiv_eq_ediv_of_nonneg (by omega),hm2];exact IntWalk.i64_in _ (by omega)))
 try simp only[lay]
 refine Za (i:=10) (op:=Op.assign (Operand.tmp 13)) (t:=3) (d:=some 2) (v:=_) rfl (by decide +kernel) (fun _ _ _ h=>h) (by intro _;unfold Zb;go_simp;try with_reducible rfl) ?_
 try simp only[lay]
 refine wpAny_done (by kernel_rfl) ?_ _;go_simp;clear k10 k11;have k8:w1.cell? ⟨ga,8,none⟩=some (.slice (some ⟨b1,o1,none⟩) n1 a.way.c):=(Blk.cell HH.out.a 8).trans (by simp[HAct.cells,OwL.v,hya,hn1]);go_upto_region 2 with(fail);refine(RE.out _ HH.out).mono ?_;rintro e w2 ⟨rfl,m2,d2⟩;have H2:=Hd (HH.out.cell m2 d2);have D2:=Hd (DD.out.tr (d2.mono fun b _ h=>(.inl (.inr h):PX ga gm gc gx b)));have hx2:Hid (Blk w2 gx 3 (List.toArray (ZJ hs))):=by
  obtain⟨⟨_,_,_,_,_,_,u1⟩,_⟩:=HH.out.m;exact Hd (Blk.mod hx.out d2 (fun h=>h.elim (fun e=>(u1.ne hx.out (by decide)) e.symm) hgc))
 clear m2 d2 RE k8 HH DD hx hp hb1;go_upto_region 2 with(fail);refine wp_region_any (by kernel_rfl) ?_
 change wpAny _ _ _ _ _ _ _ (World.drew _)
 have k0:w2.cell? ⟨ga,0,none⟩=some (.pointer (some ⟨gh,0,none⟩)):=Blk.cell H2.out.a 0;have za:=Blk.lt H2.out.a;refine Za (i:=0) (op:=Op.move (Operand.tmp 0)) (t:=46) (d:=some 23) (v:=_) rfl (by decide +kernel) (fun _ _ _ h=>h) (by intro _;unfold Zb;go_simp;try with_reducible rfl) ?_
 try simp only[lay]
 refine Za (i:=1) (op:=Op.nilCheck (Operand.tmp 23)) (t:=0) (d:=some 24) (v:=_) rfl (by decide +kernel) (fun _ _ _ h=>h) (by intro _;unfold Zb;go_simp;try with_reducible rfl) ?_
 try simp only[lay]
 refine Za (i:=2) (op:=Op.fieldAddr 85 (Operand.tmp 24) 0) (t:=0) (d:=some 25) (v:=_) rfl (by decide +kernel) (fun _ _ _ h=>h) (by intro _;unfold Zb;go_simp;try with_reducible rfl) ?_
 try simp only[lay]
 refine Za (i:=4) (op:=Op.move (Operand.tmp 3)) (t:=3) (d:=some 27) (v:=_) rfl (by decide +kernel) (fun _ _ _ h=>h) (by intro _;unfold Zb;go_simp;try with_reducible rfl) ?_
 try simp only[lay]
 refine Za (i:=5) (op:=Op.move (Operand.tmp 0)) (t:=46) (d:=some 28) (v:=_) rfl (by decide +kernel) (fun _ _ _ h=>h) (by intro _;unfold Zb;go_simp;try with_reducible rfl) ?_
 try simp only[lay]
 refine Zi (n:=1) [(3,some 26),(6,some 29)] (Ext w2) (VF (fun | 3=>some (.pointer (some ⟨gh,0,none⟩)) | 6=>some (.int .i64 ks) | _=>none) (fun i v W=>True)) Ext #[true,true,true,true,true,true,true,false] (by decide +kernel) (VF.stab ?_) ?_ ?_ (by first | exact(Ext.rf _).drew | exact Ext.rf _)
 ·intro j v W W' _ _ _;trivial
 ·intro pS hpm uS wS hRW hD K hK
  simp only[List.mem_cons,List.not_mem_nil,or_false] at hpm;rcases hpm with rfl | rfl
  ·( have rX:=Zf hRW za k0;exact Ze (T:=32) (x:=Operand.tmp 25) (t:=32) (d:=some 26) rfl (.pointer (some ⟨ga,0,none⟩)) (by kernel_rfl) (.pointer (some ⟨gh,0,none⟩)) (by go_simp) (hK _ _ (VF.mk rfl) hRW (Ext.rf _)))
  ·( exact Zh (f:=75) (xs:=#[Operand.tmp 28]) (ts:=#[46]) (t:=3) (d:=some 29) rfl #[.pointer (some ⟨ga,0,none⟩)] (by go_simp) (by kernel_rfl) _ (KE.out _ (H2.out.ext hRW)) (by rintro e w9 ⟨rfl,xx⟩;exact⟨_,rfl,hK _ _ (VF.mk rfl) (hRW.tr xx) xx⟩))
 intro u w3 hR3 hV;have h3:=(hV (3,some 26) (by simp)).k rfl;have h6:=(hV (6,some 29) (by simp)).k rfl;simp only[Zc,h3,h6];clear hV h3 h6
 try simp only[lay]
 refine Zd 7 (by decide +kernel) (Zh (f:=74) (xs:=#[Operand.tmp 26,Operand.tmp 27,Operand.tmp 29]) (ts:=#[32,3,3]) (t:=4) (d:=some 30) rfl #[.pointer (some ⟨gh,0,none⟩),.int .i64 x,.int .i64 ks] (by go_simp) (by kernel_rfl) _ (BE.out _ (H2.out.ext hR3)) ?_);rintro e w4 ⟨rfl,x4⟩;have H4:=Hd ((H2.out.ext hR3).ext x4);have D4:=Hd (D2.out.tr (Mod.of_ext (hR3.tr x4)));have hx4:=Hd (hx2.out.ext (hR3.tr x4));clear x4 hR3 KE BE k0 za H2 D2 hx2;refine⟨_,rfl,?_⟩
 try simp only[lay]
 refine wpAny_done (by kernel_rfl) ?_ _;go_simp;have c0:w4.cell? ⟨ga,10,none⟩=some (.int .i64 a.low):=Blk.cell H4.out.a 10;have f0:w4.frozen? ⟨ga,10,none⟩=false:=Blk.free H4.out.a 10;obtain⟨q1,q2⟩:=H4.out.field 10 (.int .i64 ((mid:Int)+1)) (a':={ a with low:=(mid:Int)+1 }) rfl;have H5:=Hd q1;have D5:=Hd (D4.out.tr (q2.mono fun b _ h=>(.inl (.inl h):PX ga gm gc gx b)));have hx5:=Hd (Blk.mod hx4.out q2 (Blk.ne hx4.out H4.out.a (by decide)));clear q1 q2 H4 D4 hx4;go_upto_region 5 with(fail);clear c0 f0;go_wp2_with (fail);refine(HC.out _ H5.out hx5.out D5.out).mono ?_;rintro e w6 ⟨rfl,r6⟩;replace r6:=Hd r6;clear HC;go_wp2_with (fail);go_end0;exact⟨rfl,r6.out⟩
theorem Xx (bs gm gc gp gn go gh b lv ga:Nat)(M:List Int)(P:PoolS)(bd:Nat->Int)(a:HAct)(w:World)(H:HW w bs gm gc gp gn go gh b lv ga M P a)(hbd:PB P bd)(hn:P.n<=100000)(hb:b<=1048576)(lo hi mid:Nat)(hmid:mid=(lo+hi) / 2)(hlt:lo<hi)(hlo:a.low=(lo:Int))(hhi:a.high=(hi:Int))(b1 o1 n1 n2 gx:Nat)(hs:List Int)(hya:a.way.A=some ⟨b1,o1,none⟩)(hn1:a.way.xs.length=n1)(hxa:a.heads=⟨some ⟨gx,0,none⟩,n2,hs⟩)(hn2:hs.length=n2)(l1:hi<n1)(l2:hi<n2)(s1:n1<=64)(s2:n2<=64)(i:Nat)(hp:w.cell? ⟨b1,o1+mid,none⟩=some (.int .i64 (i:Int)))(hb1:b1<w.heap.size)(hx:Blk w gx 3 (List.toArray (ZJ hs)))(hgc:gx≠gc)(hgo:∀ (k:Nat) (o:OwL),P.ows[k]?=some o->bl o.A≠some gx)(h1:1<=i)(h2:i<=1048576)(x:Int)(hM:M[b+(i-1)]?=some x)(px:Zl x)(lx:pla x<(P.n:Int))(s:Nat)(hs1:a.slot=(s:Int))(hs2:s<P.n)(hq:Yi bd x (bd s)=false)
  (R:World->Prop) (HC:∀ W,HW W bs gm gc gp gn go gh b lv ga M P { a with high:=(mid:Int),heads:=⟨some ⟨gx,0,none⟩,n2,hs.set mid x⟩ }->Blk W gx 3 (List.toArray (ZJ (hs.set mid x)))->Mod (PX ga gm gc gx) w W->Calls Try.prog 76 #[.pointer (some ⟨ga,0,none⟩)] W fun e w'=>e=.returned (.tuple #[])/\R w') (XR:∀ W W',R W->Ext W W'->R W') :
  Calls Try.prog 52 #[.pointer (some ⟨ga,0,none⟩)] w fun e w'=>e=.returned (.tuple #[])/\R w':=by
 have RE:=Hd (fun(W:World) (h:HW W bs gm gc gp gn go gh b lv ga M P a)=>ZA gm gc gh b lv ga gp M W h.h h.m _ _ h.a rfl hb i h1 (by omega) x hM);have KE:=Hd (fun(W:World) (h:HW W bs gm gc gp gn go gh b lv ga M P a)=>YM bs gm gc gp gn go gh b lv ga P bd W h.h h.p hbd hn a h.a s hs1 hs2);have BE:=fun(W:World) (h:HW W bs gm gc gp gn go gh b lv ga M P a)=>Ye bs gm gc gp gn go gh b lv P bd W h.h h.p hbd hn x (bd s) px lx
 rw[hq] at BE;replace BE:=Hd BE;replace HC:=Hd HC;replace XR:=Hd XR;have wr1:IntKind.i64.wrap ((lo:Int)+(hi:Int))=(lo:Int)+(hi:Int):=IntWalk.i64_in _ (by omega);have wr3:IntKind.i64.wrap ((mid:Int)+1)=(mid:Int)+1:=IntWalk.i64_in _ (by omega);have e1:(0:Int)<=(mid:Int):=by omega
 have e2:(mid:Int)<(n1:Int):=by omega
 have e3:(mid:Int)<(n2:Int):=by omega
 have k10:w.drew.cell? ⟨ga,10,none⟩=some (.int .i64 (lo:Int)):=(Blk.cell H.a 10).trans (by simp[HAct.cells,hlo]);have k11:w.drew.cell? ⟨ga,11,none⟩=some (.int .i64 (hi:Int)):=(Blk.cell H.a 11).trans (by simp[HAct.cells,hhi]);have X1:Ext w w.drew:=(Ext.rf _).drew;have HH:=Hd (H.ext X1);have hx:=Hd (hx.ext X1);have DD:=Hd (Mod.of_ext (S:=PX ga gm gc gx) X1);replace hp:w.drew.cell? ⟨b1,o1+mid,none⟩=some (.int .i64 (i:Int)):=hp;replace hb1:b1<w.drew.heap.size:=hb1;have hm2:((lo:Int)+(hi:Int)) / 2=(mid:Int):=by omega
 clear hbd hM px lx hs1 hs2 hq H X1 hlo hhi hmid;have ln2:=hn2;generalize hks:bd s=ks at *;clear hks;go_enter Try.func52,Try.ntmps52;go_upto_region 0 with(fail);refine wp_region_any (by kernel_rfl) ?_
 change wpAny _ _ _ _ _ _ _ (World.drew _)
 generalize w.drew=w1 at *;refine Za (i:=0) (op:=Op.move (Operand.tmp 0)) (t:=46) (d:=some 4) (v:=_) rfl (by decide +kernel) (fun _ _ _ h=>h) (by intro _;unfold Zb;go_simp;try with_reducible rfl) ?_
 try simp only[lay]
 refine Za (i:=1) (op:=Op.nilCheck (Operand.tmp 4)) (t:=0) (d:=some 5) (v:=_) rfl (by decide +kernel) (fun _ _ _ h=>h) (by intro _;unfold Zb;go_simp;try with_reducible rfl) ?_
 try simp only[lay]
 refine Za (i:=2) (op:=Op.fieldAddr 85 (Operand.tmp 5) 10) (t:=0) (d:=some 6) (v:=_) rfl (by decide +kernel) (fun _ _ _ h=>h) (by intro _;unfold Zb;go_simp;try with_reducible rfl) ?_
 try simp only[lay]
 refine Za (i:=4) (op:=Op.move (Operand.tmp 0)) (t:=46) (d:=some 8) (v:=_) rfl (by decide +kernel) (fun _ _ _ h=>h) (by intro _;unfold Zb;go_simp;try with_reducible rfl) ?_
 try simp only[lay]
 refine Za (i:=5) (op:=Op.nilCheck (Operand.tmp 8)) (t:=0) (d:=some 9) (v:=_) rfl (by decide +kernel) (fun _ _ _ h=>h) (by intro _;unfold Zb;go_simp;try with_reducible rfl) ?_
 try simp only[lay]
 refine Za (i:=6) (op:=Op.fieldAddr 85 (Operand.tmp 9) 11) (t:=0) (d:=some 10) (v:=_) rfl (by decide +kernel) (fun _ _ _ h=>h) (by intro _;unfold Zb;go_simp;try with_reducible rfl) ?_
 try simp only[lay]
 refine Zj (n:=3) [(3,some 7),(7,some 11)] (fun | 3=>.int .i64 (lo:Int) | 7=>.int .i64 (hi:Int) | _=>undef) #[true,true,true,true,true,true,true,true,false,false,false] (by decide +kernel) ?_ ?_
 ·intro pS hpm uS hD K hK
  simp only[List.mem_cons,List.not_mem_nil,or_false] at hpm;rcases hpm with rfl | rfl
  ·exact Ze (T:=3) (x:=Operand.tmp 6) (t:=3) (d:=some 7) rfl (.pointer (some ⟨ga,10,none⟩)) (by kernel_rfl) (.int .i64 (lo:Int)) (by go_simp) hK
  ·exact Ze (T:=3) (x:=Operand.tmp 10) (t:=3) (d:=some 11) rfl (.pointer (some ⟨ga,11,none⟩)) (by kernel_rfl) (.int .i64 (hi:Int)) (by go_simp) hK
 simp only[Zc,Act.put,List.setIfInBounds_toArray,List.set_cons_zero,List.set_cons_succ];refine Zs (i:=8) (op:=Op.binOp BinOp.add 3 (Operand.tmp 7) (Operand.tmp 11) 3) (t:=3) (d:=some 12) (v:=.int .i64 ((lo:Int)+(hi:Int))) rfl (by decide +kernel) (by decide +kernel) (by decide +kernel) (fun _ _ _ h=>h) ?_ ?_
 ·(intro _;unfold Zb;go_simp;skip)
 try simp only[lay]
 refine Zs (i:=9) (op:=Op.binOp BinOp.quo 3 (Operand.tmp 12) (Operand.const (Value.int IntKind.i64 2)) 3) (t:=3) (d:=some 13) (v:=.int .i64 (mid:Int)) rfl (by decide +kernel) (by decide +kernel) (by decide +kernel) (fun _ _ _ h=>h) ?_ ?_
 ·(intro _;unfold Zb;go_simp;(rw[Int.tdiv_eq_ediv_of_nonneg (by omega),hm2];exact IntWalk.i64_in _ (by omega)))
 try simp only[lay]
 refine Za (i:=10) (op:=Op.assign (Operand.tmp 13)) (t:=3) (d:=some 2) (v:=_) rfl (by decide +kernel) (fun _ _ _ h=>h) (by intro _;unfold Zb;go_simp;try with_reducible rfl) ?_
 try simp only[lay]
 refine wpAny_done (by kernel_rfl) ?_ _;go_simp;clear k10 k11;have k8:w1.cell? ⟨ga,8,none⟩=some (.slice (some ⟨b1,o1,none⟩) n1 a.way.c):=(Blk.cell HH.out.a 8).trans (by simp[HAct.cells,OwL.v,hya,hn1]);go_upto_region 2 with(fail);refine(RE.out _ HH.out).mono ?_;rintro e w2 ⟨rfl,m2,d2⟩;have H2:=Hd (HH.out.cell m2 d2);have D2:=Hd (DD.out.tr (d2.mono fun b _ h=>(.inl (.inr h):PX ga gm gc gx b)));have hx2:Hid (Blk w2 gx 3 (List.toArray (ZJ hs))):=by
  obtain⟨⟨_,_,_,_,_,_,u1⟩,_⟩:=HH.out.m;exact Hd (Blk.mod hx.out d2 (fun h=>h.elim (fun e=>(u1.ne hx.out (by decide)) e.symm) hgc))
 clear m2 d2 RE k8 HH DD hx hp hb1;go_upto_region 2 with(fail);refine wp_region_any (by kernel_rfl) ?_
 change wpAny _ _ _ _ _ _ _ (World.drew _)
 have k0:w2.cell? ⟨ga,0,none⟩=some (.pointer (some ⟨gh,0,none⟩)):=Blk.cell H2.out.a 0;have za:=Blk.lt H2.out.a;refine Za (i:=0) (op:=Op.move (Operand.tmp 0)) (t:=46) (d:=some 23) (v:=_) rfl (by decide +kernel) (fun _ _ _ h=>h) (by intro _;unfold Zb;go_simp;try with_reducible rfl) ?_
 try simp only[lay]
 refine Za (i:=1) (op:=Op.nilCheck (Operand.tmp 23)) (t:=0) (d:=some 24) (v:=_) rfl (by decide +kernel) (fun _ _ _ h=>h) (by intro _;unfold Zb;go_simp;try with_reducible rfl) ?_
 try simp only[lay]
 refine Za (i:=2) (op:=Op.fieldAddr 85 (Operand.tmp 24) 0) (t:=0) (d:=some 25) (v:=_) rfl (by decide +kernel) (fun _ _ _ h=>h) (by intro _;unfold Zb;go_simp;try with_reducible rfl) ?_
 try simp only[lay]
 refine Za (i:=4) (op:=Op.move (Operand.tmp 3)) (t:=3) (d:=some 27) (v:=_) rfl (by decide +kernel) (fun _ _ _ h=>h) (by intro _;unfold Zb;go_simp;try with_reducible rfl) ?_
 try simp only[lay]
 refine Za (i:=5) (op:=Op.move (Operand.tmp 0)) (t:=46) (d:=some 28) (v:=_) rfl (by decide +kernel) (fun _ _ _ h=>h) (by intro _;unfold Zb;go_simp;try with_reducible rfl) ?_
 try simp only[lay]
 refine Zi (n:=1) [(3,some 26),(6,some 29)] (Ext w2) (VF (fun | 3=>some (.pointer (some ⟨gh,0,none⟩)) | 6=>some (.int .i64 ks) | _=>none) (fun i v W=>True)) Ext #[true,true,true,true,true,true,true,false] (by decide +kernel) (VF.stab ?_) ?_ ?_ (by first | exact(Ext.rf _).drew | exact Ext.rf _)
 ·intro j v W W' _ _ _;trivial
 ·intro pS hpm uS wS hRW hD K hK
  simp only[List.mem_cons,List.not_mem_nil,or_false] at hpm;rcases hpm with rfl | rfl
  ·( have rX:=Zf hRW za k0;exact Ze (T:=32) (x:=Operand.tmp 25) (t:=32) (d:=some 26) rfl (.pointer (some ⟨ga,0,none⟩)) (by kernel_rfl) (.pointer (some ⟨gh,0,none⟩)) (by go_simp) (hK _ _ (VF.mk rfl) hRW (Ext.rf _)))
  ·( exact Zh (f:=75) (xs:=#[Operand.tmp 28]) (ts:=#[46]) (t:=3) (d:=some 29) rfl #[.pointer (some ⟨ga,0,none⟩)] (by go_simp) (by kernel_rfl) _ (KE.out _ (H2.out.ext hRW)) (by rintro e w9 ⟨rfl,xx⟩;exact⟨_,rfl,hK _ _ (VF.mk rfl) (hRW.tr xx) xx⟩))
 intro u w3 hR3 hV;have h3:=(hV (3,some 26) (by simp)).k rfl;have h6:=(hV (6,some 29) (by simp)).k rfl;simp only[Zc,h3,h6];clear hV h3 h6
 try simp only[lay]
 refine Zd 7 (by decide +kernel) (Zh (f:=74) (xs:=#[Operand.tmp 26,Operand.tmp 27,Operand.tmp 29]) (ts:=#[32,3,3]) (t:=4) (d:=some 30) rfl #[.pointer (some ⟨gh,0,none⟩),.int .i64 x,.int .i64 ks] (by go_simp) (by kernel_rfl) _ (BE.out _ (H2.out.ext hR3)) ?_);rintro e w4 ⟨rfl,x4⟩;have H4:=Hd ((H2.out.ext hR3).ext x4);have D4:=Hd (D2.out.tr (Mod.of_ext (hR3.tr x4)));have hx4:=Hd (hx2.out.ext (hR3.tr x4));clear x4 hR3 KE BE k0 za H2 D2 hx2;refine⟨_,rfl,?_⟩
 try simp only[lay]
 refine wpAny_done (by kernel_rfl) ?_ _;go_simp;have c0:w4.cell? ⟨ga,11,none⟩=some (.int .i64 a.high):=Blk.cell H4.out.a 11;have f0:w4.frozen? ⟨ga,11,none⟩=false:=Blk.free H4.out.a 11;have k9:w4.cell? ⟨ga,9,none⟩=some (.slice (some ⟨gx,0,none⟩) n2 n2):=(Blk.cell H4.out.a 9).trans (by simp[HAct.cells,OwL.v,hxa,hn2]);obtain⟨q1,q2⟩:=H4.out.field 11 (.int .i64 (mid:Int)) (a':={ a with high:=(mid:Int) }) rfl;have hx5:=Blk.mod hx4.out q2 (Blk.ne hx4.out H4.out.a (by decide));obtain⟨v0,hv0⟩:∃ v0,hs[mid]?=some v0:=⟨_,List.getElem?_eq_getElem (by omega)⟩;have c1:(w4.setCell ⟨ga,11,none⟩ (.int .i64 (mid:Int))).cell? ⟨gx,mid,none⟩=some (.int .i64 v0):=(hx5.cell mid).trans (ZV hv0);have f1:(w4.setCell ⟨ga,11,none⟩ (.int .i64 (mid:Int))).frozen? ⟨gx,mid,none⟩=false:=hx5.free mid;obtain⟨r1,r2,r3⟩:=q1.row hx5 hgc hgo mid x;have H5:=Hd (show HW ((w4.setCell ⟨ga,11,none⟩ (.int .i64 (mid:Int))).setCell ⟨gx,mid,none⟩ (.int .i64 x)) bs gm gc gp gn go gh b lv ga M P { a with high:=(mid:Int),heads:=⟨some ⟨gx,0,none⟩,n2,hs.set mid x⟩ } from⟨r1.m,r1.p,r1.h,by have:=r1.a;unfold Zk at this ⊢;rw[show HAct.cells { a with high:=(mid:Int),heads:=⟨some ⟨gx,0,none⟩,n2,hs.set mid x⟩ } gh=HAct.cells { a with high:=(mid:Int) } gh by simp[HAct.cells,OwL.v,hxa,hn2]];exact this⟩);have D5:=Hd ((D4.out.tr (q2.mono fun b _ h=>(.inl (.inl h):PX ga gm gc gx b))).tr (r3.mono fun b _ h=>(.inr h:PX ga gm gc gx b)));replace r2:=Hd r2;clear q1 q2 r1 r3 H4 D4 hx4 hx5;go_upto_region 5 with(fail);clear c0 f0 c1 f1 k9;go_wp2_with (fail);refine(HC.out _ H5.out r2.out D5.out).mono ?_;rintro e w6 ⟨rfl,r6⟩;replace r6:=Hd r6;clear HC;go_wp2_with (fail);go_end0;exact⟨rfl,r6.out⟩
structure HUnd (base gm gc gp gn go gh ga:Nat)(P:PoolS) : Prop where
 m:gm<base/\gc<base
 p:gp<base/\gn<base/\go<base
 h:gh<base/\ga<base
 o:∀ (k:Nat) (o:OwL),P.ows[k]?=some o->∀ b,bl o.A=some b->b<base
theorem HW.und {w:World}{bs gm gc gp gn go gh b lv ga:Nat}{M:List Int}{P:PoolS}{a:HAct}(h:HW w bs gm gc gp gn go gh b lv ga M P a) : HUnd w.heap.size gm gc gp gn go gh ga P :=
 ⟨h.m.lt,⟨h.p.p.lt,h.p.nd.lt,h.p.ow.lt⟩,⟨Blk.lt h.h,Blk.lt h.a⟩,fun k o ho b hb=>((h.p.oi k o ho).1.lt b hb).2⟩
theorem HW.keep {w w':World}{base bs gm gc gp gn go gh b lv ga:Nat}{M:List Int}{P:PoolS}{a:HAct}{S:Nat->Prop}(h:HW w bs gm gc gp gn go gh b lv ga M P a)(u:HUnd base gm gc gp gn go gh ga P)(hm:Mod S w w')(hS:∀ k,S k->base<=k) : HW w' bs gm gc gp gn go gh b lv ga M P a :=
 have q:∀ {k},k<base->¬S k:=fun hk hs=>by have:=hS _ hs;omega
 ⟨h.m.mod hm (q u.m.1) (q u.m.2),h.p.mod hm (q u.p.1) (q u.p.2.1) (q u.p.2.2) (fun k o ho b hb=>q (u.o k o ho b hb)),Blk.mod h.h hm (q u.h.1),Blk.mod h.a hm (q u.h.2)⟩
def PZ (ga gm gc base:Nat)(b:Nat) : Prop:=PT ga gm gc b\/base<=b
theorem WM (bs gm gc gp gn go gh b lv ga:Nat)(M:List Int)(P:PoolS)(bd:Nat->Int)(a:HAct)(w:World)(H:HW w bs gm gc gp gn go gh b lv ga M P a)(n:Nat)(hn:a.draws.xs.length=n)(hpr:(n:Int)<=a.probe) :
  Calls Try.prog 51 #[.pointer (some ⟨ga,0,none⟩)] w fun e w'=>e=.returned (.tuple #[])/\HW w' bs gm gc gp gn go gh b lv ga M P { a with ph:=15 }/\Mod (PT ga gm gc) w w':=by
 have k7:w.drew.cell? ⟨ga,7,none⟩=some (.int .i64 a.probe):=Blk.cell H.a 7;have k6:w.drew.cell? ⟨ga,6,none⟩=some (.slice a.draws.A n a.draws.c):=(Blk.cell H.a 6).trans (by simp[HAct.cells,OwL.v,hn]);have e1:decide (a.probe>=(n:Int))=true:=decide_eq_true hpr;have X1:Ext w w.drew:=(Ext.rf _).drew;have HH:=Hd (H.ext X1);have DD:=Hd (Mod.of_ext (S:=PT ga gm gc) X1);clear H hpr hn X1;go_enter Try.func51,Try.ntmps51;go_upto_region 0 with(fail);refine wp_region_any (by kernel_rfl) ?_
 change wpAny _ _ _ _ _ _ _ (World.drew _)
 generalize w.drew=w1 at *;refine Za (i:=0) (op:=Op.move (Operand.tmp 0)) (t:=46) (d:=some 6) (v:=_) rfl (by decide +kernel) (fun _ _ _ h=>h) (by intro _;unfold Zb;go_simp;try with_reducible rfl) ?_
 try simp only[lay]
 refine Za (i:=1) (op:=Op.nilCheck (Operand.tmp 6)) (t:=0) (d:=some 7) (v:=_) rfl (by decide +kernel) (fun _ _ _ h=>h) (by intro _;unfold Zb;go_simp;try with_reducible rfl) ?_
 try simp only[lay]
 refine Za (i:=2) (op:=Op.fieldAddr 85 (Operand.tmp 7) 7) (t:=0) (d:=some 8) (v:=_) rfl (by decide +kernel) (fun _ _ _ h=>h) (by intro _;unfold Zb;go_simp;try with_reducible rfl) ?_
 try simp only[lay]
 refine Za (i:=4) (op:=Op.move (Operand.tmp 0)) (t:=46) (d:=some 10) (v:=_) rfl (by decide +kernel) (fun _ _ _ h=>h) (by intro _;unfold Zb;go_simp;try with_reducible rfl) ?_
 try simp only[lay]
 refine Za (i:=5) (op:=Op.nilCheck (Operand.tmp 10)) (t:=0) (d:=some 11) (v:=_) rfl (by decide +kernel) (fun _ _ _ h=>h) (by intro _;unfold Zb;go_simp;try with_reducible rfl) ?_
 try simp only[lay]
 refine Za (i:=6) (op:=Op.fieldAddr 85 (Operand.tmp 11) 6) (t:=0) (d:=some 12) (v:=_) rfl (by decide +kernel) (fun _ _ _ h=>h) (by intro _;unfold Zb;go_simp;try with_reducible rfl) ?_
 try simp only[lay]
 refine Zj (n:=1) [(3,some 9),(7,some 13),(8,some 14)] (fun | 3=>.int .i64 a.probe | 7=>.slice a.draws.A n a.draws.c | 8=>.int .i64 (n:Int) | _=>undef) #[true,true,true,true,true,true,true,true,true,false] (by decide +kernel) ?_ ?_
 ·intro pS hpm uS hD K hK
  simp only[List.mem_cons,List.not_mem_nil,or_false] at hpm;rcases hpm with rfl | rfl | rfl
  ·exact Ze (T:=3) (x:=Operand.tmp 8) (t:=3) (d:=some 9) rfl (.pointer (some ⟨ga,7,none⟩)) (by kernel_rfl) (.int .i64 a.probe) (by go_simp) hK
  ·exact Ze (T:=22) (x:=Operand.tmp 12) (t:=22) (d:=some 13) rfl (.pointer (some ⟨ga,6,none⟩)) (by kernel_rfl) (.slice a.draws.A n a.draws.c) (by go_simp) hK
  ·(have e7:uS 7=.slice a.draws.A n a.draws.c:=hD 7 (Zg (by kernel_rfl));exact Zm (op:=Op.call { callee:=Callee.builtin Builtin.len,args:=#[Operand.tmp 13],argTypes:=#[22] }) (t:=3) (d:=some 14) rfl (.int .i64 (n:Int)) (by simp only[Zc,Act.put,List.setIfInBounds_toArray,List.set_cons_zero,List.set_cons_succ];unfold Zb;go_simp;try simp only[e7];try go_simp) hK)
 simp only[Zc,Act.put,List.setIfInBounds_toArray,List.set_cons_zero,List.set_cons_succ];refine Zs (i:=9) (op:=Op.binOp BinOp.geq 3 (Operand.tmp 9) (Operand.tmp 14) 3) (t:=4) (d:=some 15) (v:=.bool true) rfl (by decide +kernel) (by decide +kernel) (by decide +kernel) (fun _ _ _ h=>h) ?_ ?_
 ·(intro _;unfold Zb;go_simp;skip)
 try simp only[lay]
 refine wpAny_done (by kernel_rfl) ?_ _;go_simp;clear k6 k7;have c0:w1.cell? ⟨ga,1,none⟩=some (.int .i64 a.ph):=Blk.cell HH.out.a 1;have f0:w1.frozen? ⟨ga,1,none⟩=false:=Blk.free HH.out.a 1;obtain⟨q1,q2⟩:=HH.out.field 1 (.int .i64 15) (a':={ a with ph:=15 }) rfl;have S1:=Hd q1;have S2:=Hd (DD.out.tr (q2.mono fun b _ h=>(.inl h:PT ga gm gc b)));clear q1 q2;go_wp2_with (fail);exact bodyPost_ret (results_none rfl _ _ _) rfl ⟨rfl,S1.out,S2.out⟩
theorem WN (bs gm gc gp gn go gh b lv ga:Nat)(M:List Int)(P:PoolS)(bd:Nat->Int)(a:HAct)(w:World)(H:HW w bs gm gc gp gn go gh b lv ga M P a)(hbd:PB P bd)(hn:P.n<=100000)(hb:b<=1048576)(l:Nat)(hlv:lv=l+1)(hl6:l<=5)(n k:Nat)(hnd:a.draws.xs.length=n)(hn4:n<=4)(hk:a.probe=(k:Int))(hkn:k<n)(b1 o1:Nat)(hda:a.draws.A=some ⟨b1,o1,none⟩)(d:Int)(hd:w.cell? ⟨b1,o1+k,none⟩=some (.int .i64 d))(hb1:b1<w.heap.size)(hb1m:b1≠gm/\b1≠gc)(i:Nat)(hi:(i:Int)=((2^l:Nat):Int)+ZP d ((2^l:Nat):Int))(x:Int)(hM:M[b+(i-1)]?=some x)(px:Zl x)(lx:pla x<(P.n:Int))(s:Nat)(hs1:a.slot=(s:Int))(hs2:s<P.n)(hq:Yi bd x (bd s)=true) :
  Calls Try.prog 51 #[.pointer (some ⟨ga,0,none⟩)] w fun e w'=>e=.returned (.tuple #[])/\HW w' bs gm gc gp gn go gh b lv ga M P { a with probe:=(k:Int)+1 }/\Mod (PT ga gm gc) w w':=by
 have hpw:2^l<=2^5:=Nat.pow_le_pow_right (by omega) hl6;have hpw1:1<=2^l:=Nat.one_le_two_pow;have hp2:(2:Int)^l=((2^l:Nat):Int):=by simp
 have hmin:min l 64=l:=by omega
 obtain⟨nn,hnn⟩:∃ nn:Nat,2^l=nn:=⟨_,rfl⟩;rw[hnn] at hi hpw hpw1 hp2;have hm:=YI (x:=d) (n:=(nn:Int)) (by omega);have hi1:1<=i:=by omega
 have hi64:i<=64:=by omega
 have RE:=Hd (fun(W:World) (h:HW W bs gm gc gp gn go gh b lv ga M P a)=>ZA gm gc gh b lv ga gp M W h.h h.m _ _ h.a rfl hb i hi1 (by omega) x hM);have KE:=Hd (fun(W:World) (h:HW W bs gm gc gp gn go gh b lv ga M P a)=>YM bs gm gc gp gn go gh b lv ga P bd W h.h h.p hbd hn a h.a s hs1 hs2);have BE:=fun(W:World) (h:HW W bs gm gc gp gn go gh b lv ga M P a)=>Ye bs gm gc gp gn go gh b lv P bd W h.h h.p hbd hn x (bd s) px lx
 rw[hq] at BE;replace BE:=Hd BE;have e1:decide ((k:Int)>=(n:Int))=false:=decide_eq_false (by omega);have e2:(0:Int)<=(k:Int):=by omega
 have e3:(k:Int)<(n:Int):=by omega
 have wl:IntKind.i64.wrap ((lv:Int)-1)=(l:Int):=by rw[show (lv:Int)-1=(l:Int) by omega];exact IntWalk.i64_in _ (by omega)
 have e4:(l:Int)>=0:=by omega
 have wp:IntKind.i64.wrap ((2:Int)^l)=(nn:Int):=by rw[hp2];exact IntWalk.i64_in _ (by omega)
 have wu:IntKind.u64.wrap (nn:Int)=(nn:Int):=W7 (by omega) (by omega);have wm:IntKind.i64.wrap (ZP d (nn:Int))=ZP d (nn:Int):=IntWalk.i64_in _ (by omega);have wi:IntKind.i64.wrap ((nn:Int)+ZP d (nn:Int))=(i:Int):=by rw[<-hi];exact IntWalk.i64_in _ (by omega)
 have hu:(IntKind.u64.wrap d).tmod (nn:Int)=ZP d (nn:Int):=rfl;have n0:¬((nn:Int)=0):=by omega
 have w64:Hid (wrap64 ((2:Int)^l)=(nn:Int)):=Hd (by rw[hp2];exact IntWalk.wrap64_in _ ⟨by omega,by omega⟩);have hmin:=Hd hmin;clear hbd hM px lx hs1 hs2 hq hp2 hi hpw hpw1 hl6 hnn;generalize hmm:ZP d (nn:Int)=md at *;generalize (nn:Int)=nl at *;replace hmm:=Hd hmm;generalize bd s=ks at *;have k7:w.drew.cell? ⟨ga,7,none⟩=some (.int .i64 (k:Int)):=(Blk.cell H.a 7).trans (by simp[HAct.cells,hk]);have k6:w.drew.cell? ⟨ga,6,none⟩=some (.slice (some ⟨b1,o1,none⟩) n a.draws.c):=(Blk.cell H.a 6).trans (by simp[HAct.cells,OwL.v,hnd,hda]);have X1:Ext w w.drew:=(Ext.rf _).drew;have HH:=Hd (H.ext X1);have DD:=Hd (Mod.of_ext (S:=PT ga gm gc) X1);replace hd:w.drew.cell? ⟨b1,o1+k,none⟩=some (.int .i64 d):=hd;replace hb1:b1<w.drew.heap.size:=hb1;clear H X1;go_enter Try.func51,Try.ntmps51;go_upto_region 0 with(fail);refine wp_region_any (by kernel_rfl) ?_
 change wpAny _ _ _ _ _ _ _ (World.drew _)
 generalize w.drew=w1 at *;refine Za (i:=0) (op:=Op.move (Operand.tmp 0)) (t:=46) (d:=some 6) (v:=_) rfl (by decide +kernel) (fun _ _ _ h=>h) (by intro _;unfold Zb;go_simp;try with_reducible rfl) ?_
 try simp only[lay]
 refine Za (i:=1) (op:=Op.nilCheck (Operand.tmp 6)) (t:=0) (d:=some 7) (v:=_) rfl (by decide +kernel) (fun _ _ _ h=>h) (by intro _;unfold Zb;go_simp;try with_reducible rfl) ?_
 try simp only[lay]
 refine Za (i:=2) (op:=Op.fieldAddr 85 (Operand.tmp 7) 7) (t:=0) (d:=some 8) (v:=_) rfl (by decide +kernel) (fun _ _ _ h=>h) (by intro _;unfold Zb;go_simp;try with_reducible rfl) ?_
 try simp only[lay]
 refine Za (i:=4) (op:=Op.move (Operand.tmp 0)) (t:=46) (d:=some 10) (v:=_) rfl (by decide +kernel) (fun _ _ _ h=>h) (by intro _;unfold Zb;go_simp;try with_reducible rfl) ?_
 try simp only[lay]
 refine Za (i:=5) (op:=Op.nilCheck (Operand.tmp 10)) (t:=0) (d:=some 11) (v:=_) rfl (by decide +kernel) (fun _ _ _ h=>h) (by intro _;unfold Zb;go_simp;try with_reducible rfl) ?_
 try simp only[lay]
 refine Za (i:=6) (op:=Op.fieldAddr 85 (Operand.tmp 11) 6) (t:=0) (d:=some 12) (v:=_) rfl (by decide +kernel) (fun _ _ _ h=>h) (by intro _;unfold Zb;go_simp;try with_reducible rfl) ?_
 try simp only[lay]
 refine Zj (n:=1) [(3,some 9),(7,some 13),(8,some 14)] (fun | 3=>.int .i64 (k:Int) | 7=>.slice (some ⟨b1,o1,none⟩) n a.draws.c | 8=>.int .i64 (n:Int) | _=>undef) #[true,true,true,true,true,true,true,true,true,false] (by decide +kernel) ?_ ?_
 ·intro pS hpm uS hD K hK
  simp only[List.mem_cons,List.not_mem_nil,or_false] at hpm;rcases hpm with rfl | rfl | rfl
  ·exact Ze (T:=3) (x:=Operand.tmp 8) (t:=3) (d:=some 9) rfl (.pointer (some ⟨ga,7,none⟩)) (by kernel_rfl) (.int .i64 (k:Int)) (by go_simp) hK
  ·exact Ze (T:=22) (x:=Operand.tmp 12) (t:=22) (d:=some 13) rfl (.pointer (some ⟨ga,6,none⟩)) (by kernel_rfl) (.slice (some ⟨b1,o1,none⟩) n a.draws.c) (by go_simp) hK
  ·(have e7:uS 7=.slice (some ⟨b1,o1,none⟩) n a.draws.c:=hD 7 (Zg (by kernel_rfl));exact Zm (op:=Op.call { callee:=Callee.builtin Builtin.len,args:=#[Operand.tmp 13],argTypes:=#[22] }) (t:=3) (d:=some 14) rfl (.int .i64 (n:Int)) (by simp only[Zc,Act.put,List.setIfInBounds_toArray,List.set_cons_zero,List.set_cons_succ];unfold Zb;go_simp;try simp only[e7];try go_simp) hK)
 simp only[Zc,Act.put,List.setIfInBounds_toArray,List.set_cons_zero,List.set_cons_succ];refine Zs (i:=9) (op:=Op.binOp BinOp.geq 3 (Operand.tmp 9) (Operand.tmp 14) 3) (t:=4) (d:=some 15) (v:=.bool false) rfl (by decide +kernel) (by decide +kernel) (by decide +kernel) (fun _ _ _ h=>h) ?_ ?_
 ·(intro _;unfold Zb;go_simp;skip)
 try simp only[lay]
 refine wpAny_done (by kernel_rfl) ?_ _;go_simp;have k0:w1.cell? ⟨ga,0,none⟩=some (.pointer (some ⟨gh,0,none⟩)):=Blk.cell HH.out.a 0;have h2:w1.cell? ⟨gh,2,none⟩=some (.int .i64 (lv:Int)):=Blk.cell HH.out.h 2;clear hlv;go_upto_region 3 with(fail);clear k0 h2
 try simp only[hmin.out,w64.out]
 clear wp w64 hmin;refine wp_region_any (by kernel_rfl) ?_
 change wpAny _ _ _ _ _ _ _ (World.drew _)
 have X2:Ext w1 w1.drew:=(Ext.rf _).drew;have H2:=Hd (HH.out.ext X2);have D2:=Hd (DD.out.tr (Mod.of_ext (S:=PT ga gm gc) X2));replace k6:w1.drew.cell? ⟨ga,6,none⟩=_:=k6;replace k7:w1.drew.cell? ⟨ga,7,none⟩=_:=k7;replace hd:w1.drew.cell? ⟨b1,o1+k,none⟩=some (.int .i64 d):=hd;clear X2 HH DD;generalize w1.drew=w2 at *;refine Za (i:=0) (op:=Op.move (Operand.tmp 2)) (t:=3) (d:=some 28) (v:=_) rfl (by decide +kernel) (fun _ _ _ h=>h) (by intro _;unfold Zb;go_simp;try with_reducible rfl) ?_
 try simp only[lay]
 refine Za (i:=1) (op:=Op.move (Operand.tmp 0)) (t:=46) (d:=some 29) (v:=_) rfl (by decide +kernel) (fun _ _ _ h=>h) (by intro _;unfold Zb;go_simp;try with_reducible rfl) ?_
 try simp only[lay]
 refine Za (i:=2) (op:=Op.nilCheck (Operand.tmp 29)) (t:=0) (d:=some 30) (v:=_) rfl (by decide +kernel) (fun _ _ _ h=>h) (by intro _;unfold Zb;go_simp;try with_reducible rfl) ?_
 try simp only[lay]
 refine Za (i:=3) (op:=Op.fieldAddr 85 (Operand.tmp 30) 6) (t:=0) (d:=some 31) (v:=_) rfl (by decide +kernel) (fun _ _ _ h=>h) (by intro _;unfold Zb;go_simp;try with_reducible rfl) ?_
 try simp only[lay]
 refine Za (i:=5) (op:=Op.move (Operand.tmp 0)) (t:=46) (d:=some 33) (v:=_) rfl (by decide +kernel) (fun _ _ _ h=>h) (by intro _;unfold Zb;go_simp;try with_reducible rfl) ?_
 try simp only[lay]
 refine Za (i:=6) (op:=Op.nilCheck (Operand.tmp 33)) (t:=0) (d:=some 34) (v:=_) rfl (by decide +kernel) (fun _ _ _ h=>h) (by intro _;unfold Zb;go_simp;try with_reducible rfl) ?_
 try simp only[lay]
 refine Za (i:=7) (op:=Op.fieldAddr 85 (Operand.tmp 34) 7) (t:=0) (d:=some 35) (v:=_) rfl (by decide +kernel) (fun _ _ _ h=>h) (by intro _;unfold Zb;go_simp;try with_reducible rfl) ?_
 try simp only[lay]
 refine Za (i:=12) (op:=Op.move (Operand.tmp 2)) (t:=3) (d:=some 40) (v:=_) rfl (by decide +kernel) (fun _ _ _ h=>h) (by intro _;unfold Zb;go_simp;try with_reducible rfl) ?_
 try simp only[lay]
 refine Zs (i:=13) (op:=Op.convert 3 95 (Operand.tmp 40)) (t:=95) (d:=some 41) (v:=.int .u64 nl) rfl (by decide +kernel) (by decide +kernel) (by decide +kernel) (fun _ _ _ h=>h) ?_ ?_
 ·(intro _;unfold Zb;go_simp;skip)
 try simp only[lay]
 refine Zj (n:=5) [(4,some 32),(8,some 36),(9,some 37),(10,some 38)] (fun | 4=>.slice (some ⟨b1,o1,none⟩) n a.draws.c | 8=>.int .i64 (k:Int) | 9=>.pointer (some ⟨b1,o1+k,none⟩) | 10=>.int .i64 d | _=>undef) #[true,true,true,true,true,true,true,true,true,true,true,false,true,true,false,false,false,false] (by decide +kernel) ?_ ?_
 ·intro pS hpm uS hD K hK
  simp only[List.mem_cons,List.not_mem_nil,or_false] at hpm;rcases hpm with rfl | rfl | rfl | rfl
  ·exact Ze (T:=22) (x:=Operand.tmp 31) (t:=22) (d:=some 32) rfl (.pointer (some ⟨ga,6,none⟩)) (by kernel_rfl) (.slice (some ⟨b1,o1,none⟩) n a.draws.c) (by go_simp) hK
  ·exact Ze (T:=3) (x:=Operand.tmp 35) (t:=3) (d:=some 36) rfl (.pointer (some ⟨ga,7,none⟩)) (by kernel_rfl) (.int .i64 (k:Int)) (by go_simp) hK
  ·exact Wt (T:=22) (x:=Operand.tmp 32) (y:=Operand.tmp 36) (t:=0) (d:=some 37) rfl (.slice (some ⟨b1,o1,none⟩) n a.draws.c) (.int .i64 (k:Int)) (Eq.trans (b:=uS 4) (by kernel_rfl) (hD 4 (Zg (by kernel_rfl)))) (Eq.trans (b:=uS 8) (by kernel_rfl) (hD 8 (Zg (by kernel_rfl)))) (.pointer (some ⟨b1,o1+k,none⟩)) (by go_simp) hK
  ·exact Ze (T:=3) (x:=Operand.tmp 37) (t:=3) (d:=some 38) rfl (.pointer (some ⟨b1,o1+k,none⟩)) (Eq.trans (b:=uS 9) (by kernel_rfl) (hD 9 (Zg (by kernel_rfl)))) (.int .i64 d) (by go_simp) hK
 simp only[Zc,Act.put,List.setIfInBounds_toArray,List.set_cons_zero,List.set_cons_succ];refine Zs (i:=11) (op:=Op.convert 3 95 (Operand.tmp 38)) (t:=95) (d:=some 39) (v:=.int .u64 (IntKind.u64.wrap d)) rfl (by decide +kernel) (by decide +kernel) (by decide +kernel) (fun _ _ _ h=>h) ?_ ?_
 ·(intro _;unfold Zb;go_simp;skip)
 try simp only[lay]
 refine Zs (i:=14) (op:=Op.binOp BinOp.rem 95 (Operand.tmp 39) (Operand.tmp 41) 95) (t:=95) (d:=some 42) (v:=.int .u64 md) rfl (by decide +kernel) (by decide +kernel) (by decide +kernel) (fun _ _ _ h=>h) ?_ ?_
 ·(intro _;unfold Zb;go_simp;skip)
 try simp only[lay]
 refine Zs (i:=15) (op:=Op.convert 95 3 (Operand.tmp 42)) (t:=3) (d:=some 43) (v:=.int .i64 md) rfl (by decide +kernel) (by decide +kernel) (by decide +kernel) (fun _ _ _ h=>h) ?_ ?_
 ·(intro _;unfold Zb;go_simp;skip)
 try simp only[lay]
 refine Zs (i:=16) (op:=Op.binOp BinOp.add 3 (Operand.tmp 28) (Operand.tmp 43) 3) (t:=3) (d:=some 44) (v:=.int .i64 (i:Int)) rfl (by decide +kernel) (by decide +kernel) (by decide +kernel) (fun _ _ _ h=>h) ?_ ?_
 ·(intro _;unfold Zb;go_simp;skip)
 try simp only[lay]
 refine Za (i:=17) (op:=Op.assign (Operand.tmp 44)) (t:=3) (d:=some 3) (v:=_) rfl (by decide +kernel) (fun _ _ _ h=>h) (by intro _;unfold Zb;go_simp;try with_reducible rfl) ?_
 try simp only[lay]
 refine wpAny_done (by kernel_rfl) ?_ _;go_simp;clear k6 hd;go_wp2_with (fail);refine(RE.out _ H2.out).mono ?_;rintro e w3 ⟨rfl,m3,d3⟩;have H3:=Hd (H2.out.cell m3 d3);have D3:=Hd (D2.out.tr (d3.mono fun b _ h=>((.inr h):PT ga gm gc b)));clear m3 d3 RE k7 H2 D2;go_upto_region 5 with(fail);refine wp_region_any (by kernel_rfl) ?_
 change wpAny _ _ _ _ _ _ _ (World.drew _)
 have k0:w3.cell? ⟨ga,0,none⟩=some (.pointer (some ⟨gh,0,none⟩)):=Blk.cell H3.out.a 0;have za:=Blk.lt H3.out.a;refine Za (i:=0) (op:=Op.move (Operand.tmp 0)) (t:=46) (d:=some 48) (v:=_) rfl (by decide +kernel) (fun _ _ _ h=>h) (by intro _;unfold Zb;go_simp;try with_reducible rfl) ?_
 try simp only[lay]
 refine Za (i:=1) (op:=Op.nilCheck (Operand.tmp 48)) (t:=0) (d:=some 49) (v:=_) rfl (by decide +kernel) (fun _ _ _ h=>h) (by intro _;unfold Zb;go_simp;try with_reducible rfl) ?_
 try simp only[lay]
 refine Za (i:=2) (op:=Op.fieldAddr 85 (Operand.tmp 49) 0) (t:=0) (d:=some 50) (v:=_) rfl (by decide +kernel) (fun _ _ _ h=>h) (by intro _;unfold Zb;go_simp;try with_reducible rfl) ?_
 try simp only[lay]
 refine Za (i:=4) (op:=Op.move (Operand.tmp 4)) (t:=3) (d:=some 52) (v:=_) rfl (by decide +kernel) (fun _ _ _ h=>h) (by intro _;unfold Zb;go_simp;try with_reducible rfl) ?_
 try simp only[lay]
 refine Za (i:=5) (op:=Op.move (Operand.tmp 0)) (t:=46) (d:=some 53) (v:=_) rfl (by decide +kernel) (fun _ _ _ h=>h) (by intro _;unfold Zb;go_simp;try with_reducible rfl) ?_
 try simp only[lay]
 refine Zi (n:=1) [(3,some 51),(6,some 54)] (Ext w3) (VF (fun | 3=>some (.pointer (some ⟨gh,0,none⟩)) | 6=>some (.int .i64 ks) | _=>none) (fun i v W=>True)) Ext #[true,true,true,true,true,true,true,false] (by decide +kernel) (VF.stab ?_) ?_ ?_ (by first | exact(Ext.rf _).drew | exact Ext.rf _)
 ·intro j v W W' _ _ _;trivial
 ·intro pS hpm uS wS hRW hD K hK
  simp only[List.mem_cons,List.not_mem_nil,or_false] at hpm;rcases hpm with rfl | rfl
  ·( have rX:=Zf hRW za k0;exact Ze (T:=32) (x:=Operand.tmp 50) (t:=32) (d:=some 51) rfl (.pointer (some ⟨ga,0,none⟩)) (by kernel_rfl) (.pointer (some ⟨gh,0,none⟩)) (by go_simp) (hK _ _ (VF.mk rfl) hRW (Ext.rf _)))
  ·( exact Zh (f:=75) (xs:=#[Operand.tmp 53]) (ts:=#[46]) (t:=3) (d:=some 54) rfl #[.pointer (some ⟨ga,0,none⟩)] (by go_simp) (by kernel_rfl) _ (KE.out _ (H3.out.ext hRW)) (by rintro e w9 ⟨rfl,xx⟩;exact⟨_,rfl,hK _ _ (VF.mk rfl) (hRW.tr xx) xx⟩))
 intro u w4 hR3 hV;have h3:=(hV (3,some 51) (by simp)).k rfl;have h6:=(hV (6,some 54) (by simp)).k rfl;simp only[Zc,h3,h6];clear hV h3 h6
 try simp only[lay]
 refine Zd 7 (by decide +kernel) (Zh (f:=74) (xs:=#[Operand.tmp 51,Operand.tmp 52,Operand.tmp 54]) (ts:=#[32,3,3]) (t:=4) (d:=some 55) rfl #[.pointer (some ⟨gh,0,none⟩),.int .i64 x,.int .i64 ks] (by go_simp) (by kernel_rfl) _ (BE.out _ (H3.out.ext hR3)) ?_);rintro e w5 ⟨rfl,x5⟩;have H5:=Hd ((H3.out.ext hR3).ext x5);have D5:=Hd (D3.out.tr (Mod.of_ext (hR3.tr x5)));clear x5 hR3 KE BE k0 za H3 D3;refine⟨_,rfl,?_⟩
 try simp only[lay]
 refine wpAny_done (by kernel_rfl) ?_ _;go_simp;have c0:w5.cell? ⟨ga,7,none⟩=some (.int .i64 (k:Int)):=(Blk.cell H5.out.a 7).trans (by simp[HAct.cells,hk]);have f0:w5.frozen? ⟨ga,7,none⟩=false:=Blk.free H5.out.a 7;have wk:IntKind.i64.wrap ((k:Int)+1)=(k:Int)+1:=IntWalk.i64_in _ (by omega);obtain⟨q1,q2⟩:=H5.out.field 7 (.int .i64 ((k:Int)+1)) (a':={ a with probe:=(k:Int)+1 }) rfl;have S1:=Hd q1;have S2:=Hd (D5.out.tr (q2.mono fun b _ h=>(.inl h:PT ga gm gc b)));clear q1 q2;go_wp2_with (fail);exact bodyPost_ret (results_none rfl _ _ _) rfl ⟨rfl,S1.out,S2.out⟩
theorem WO (bs gm gc gp gn go gh b lv ga:Nat)(M:List Int)(P:PoolS)(bd:Nat->Int)(a:HAct)(w:World)(H:HW w bs gm gc gp gn go gh b lv ga M P a)(hbd:PB P bd)(hn:P.n<=100000)(hb:b<=1048576)(l:Nat)(hlv:lv=l+1)(hl6:l<=5)(n k:Nat)(hnd:a.draws.xs.length=n)(hn4:n<=4)(hk:a.probe=(k:Int))(hkn:k<n)(b1 o1:Nat)(hda:a.draws.A=some ⟨b1,o1,none⟩)(d:Int)(hd:w.cell? ⟨b1,o1+k,none⟩=some (.int .i64 d))(hb1:b1<w.heap.size)(hb1m:b1≠gm/\b1≠gc)(i:Nat)(hi:(i:Int)=((2^l:Nat):Int)+ZP d ((2^l:Nat):Int))(x:Int)(hM:M[b+(i-1)]?=some x)(px:Zl x)(lx:pla x<(P.n:Int))(s:Nat)(hs1:a.slot=(s:Int))(hs2:s<P.n)(hq:Yi bd x (bd s)=false)
  (R:World->Prop) (HC:∀ (W:World) (A:Option Addr) (c gx nx:Nat),nx=(Zp i).length->HW W bs gm gc gp gn go gh b lv ga M P { a with way:=⟨A,c,Zq (Zp i)⟩,heads:=⟨some ⟨gx,0,none⟩,nx,(List.replicate nx 0).set (nx-1) x⟩,low:=0,high:=((nx-1:Nat):Int),ph:=1 }->OwI W w.heap.size A c (Zq (Zp i))->Blk W gx 3 (List.toArray (ZJ ((List.replicate nx 0).set (nx-1) x)))->w.heap.size<=gx->bl A≠some gx->Mod (PZ ga gm gc w.heap.size) w W->Calls Try.prog 76 #[.pointer (some ⟨ga,0,none⟩)] W fun e w'=>e=.returned (.tuple #[])/\R w') :
  Calls Try.prog 51 #[.pointer (some ⟨ga,0,none⟩)] w fun e w'=>e=.returned (.tuple #[])/\R w':=by
 have hpw:2^l<=2^5:=Nat.pow_le_pow_right (by omega) hl6;have hpw1:1<=2^l:=Nat.one_le_two_pow;have hp2:(2:Int)^l=((2^l:Nat):Int):=by simp
 have hmin:min l 64=l:=by omega
 obtain⟨nn,hnn⟩:∃ nn:Nat,2^l=nn:=⟨_,rfl⟩;rw[hnn] at hi hpw hpw1 hp2;have hm:=YI (x:=d) (n:=(nn:Int)) (by omega);have hi1:1<=i:=by omega
 have hi64:i<=64:=by omega
 have RE:=Hd (fun(W:World) (h:HW W bs gm gc gp gn go gh b lv ga M P a)=>ZA gm gc gh b lv ga gp M W h.h h.m _ _ h.a rfl hb i hi1 (by omega) x hM);have KE:=Hd (fun(W:World) (h:HW W bs gm gc gp gn go gh b lv ga M P a)=>YM bs gm gc gp gn go gh b lv ga P bd W h.h h.p hbd hn a h.a s hs1 hs2);have BE:=fun(W:World) (h:HW W bs gm gc gp gn go gh b lv ga M P a)=>Ye bs gm gc gp gn go gh b lv P bd W h.h h.p hbd hn x (bd s) px lx
 rw[hq] at BE;replace BE:=Hd BE;replace HC:=Hd HC;have e1:decide ((k:Int)>=(n:Int))=false:=decide_eq_false (by omega);have e2:(0:Int)<=(k:Int):=by omega
 have e3:(k:Int)<(n:Int):=by omega
 have wl:IntKind.i64.wrap ((lv:Int)-1)=(l:Int):=by rw[show (lv:Int)-1=(l:Int) by omega];exact IntWalk.i64_in _ (by omega)
 have e4:(l:Int)>=0:=by omega
 have wp:IntKind.i64.wrap ((2:Int)^l)=(nn:Int):=by rw[hp2];exact IntWalk.i64_in _ (by omega)
 have wu:IntKind.u64.wrap (nn:Int)=(nn:Int):=W7 (by omega) (by omega);have wm:IntKind.i64.wrap (ZP d (nn:Int))=ZP d (nn:Int):=IntWalk.i64_in _ (by omega);have wi:IntKind.i64.wrap ((nn:Int)+ZP d (nn:Int))=(i:Int):=by rw[<-hi];exact IntWalk.i64_in _ (by omega)
 have hu:(IntKind.u64.wrap d).tmod (nn:Int)=ZP d (nn:Int):=rfl;have n0:¬((nn:Int)=0):=by omega
 have w64:Hid (wrap64 ((2:Int)^l)=(nn:Int)):=Hd (by rw[hp2];exact IntWalk.wrap64_in _ ⟨by omega,by omega⟩);have hmin:=Hd hmin;clear hbd hM px lx hs1 hs2 hq hp2 hi hpw hpw1 hl6 hnn;generalize hmm:ZP d (nn:Int)=md at *;generalize (nn:Int)=nl at *;replace hmm:=Hd hmm;generalize bd s=ks at *;have k7:w.drew.cell? ⟨ga,7,none⟩=some (.int .i64 (k:Int)):=(Blk.cell H.a 7).trans (by simp[HAct.cells,hk]);have k6:w.drew.cell? ⟨ga,6,none⟩=some (.slice (some ⟨b1,o1,none⟩) n a.draws.c):=(Blk.cell H.a 6).trans (by simp[HAct.cells,OwL.v,hnd,hda]);have X1:Ext w w.drew:=(Ext.rf _).drew;have HH:=Hd (H.ext X1);have UU:=Hd H.und;have DD:=Hd (Mod.of_ext (S:=PZ ga gm gc w.heap.size) X1);replace hd:w.drew.cell? ⟨b1,o1+k,none⟩=some (.int .i64 d):=hd;replace hb1:b1<w.drew.heap.size:=hb1;clear H X1;go_enter Try.func51,Try.ntmps51;go_upto_region 0 with(fail);refine wp_region_any (by kernel_rfl) ?_
 change wpAny _ _ _ _ _ _ _ (World.drew _)
 generalize w.drew=w1 at *;refine Za (i:=0) (op:=Op.move (Operand.tmp 0)) (t:=46) (d:=some 6) (v:=_) rfl (by decide +kernel) (fun _ _ _ h=>h) (by intro _;unfold Zb;go_simp;try with_reducible rfl) ?_
 try simp only[lay]
 refine Za (i:=1) (op:=Op.nilCheck (Operand.tmp 6)) (t:=0) (d:=some 7) (v:=_) rfl (by decide +kernel) (fun _ _ _ h=>h) (by intro _;unfold Zb;go_simp;try with_reducible rfl) ?_
 try simp only[lay]
 refine Za (i:=2) (op:=Op.fieldAddr 85 (Operand.tmp 7) 7) (t:=0) (d:=some 8) (v:=_) rfl (by decide +kernel) (fun _ _ _ h=>h) (by intro _;unfold Zb;go_simp;try with_reducible rfl) ?_
 try simp only[lay]
 refine Za (i:=4) (op:=Op.move (Operand.tmp 0)) (t:=46) (d:=some 10) (v:=_) rfl (by decide +kernel) (fun _ _ _ h=>h) (by intro _;unfold Zb;go_simp;try with_reducible rfl) ?_
 try simp only[lay]
 refine Za (i:=5) (op:=Op.nilCheck (Operand.tmp 10)) (t:=0) (d:=some 11) (v:=_) rfl (by decide +kernel) (fun _ _ _ h=>h) (by intro _;unfold Zb;go_simp;try with_reducible rfl) ?_
 try simp only[lay]
 refine Za (i:=6) (op:=Op.fieldAddr 85 (Operand.tmp 11) 6) (t:=0) (d:=some 12) (v:=_) rfl (by decide +kernel) (fun _ _ _ h=>h) (by intro _;unfold Zb;go_simp;try with_reducible rfl) ?_
 try simp only[lay]
 refine Zj (n:=1) [(3,some 9),(7,some 13),(8,some 14)] (fun | 3=>.int .i64 (k:Int) | 7=>.slice (some ⟨b1,o1,none⟩) n a.draws.c | 8=>.int .i64 (n:Int) | _=>undef) #[true,true,true,true,true,true,true,true,true,false] (by decide +kernel) ?_ ?_
 ·intro pS hpm uS hD K hK
  simp only[List.mem_cons,List.not_mem_nil,or_false] at hpm;rcases hpm with rfl | rfl | rfl
  ·exact Ze (T:=3) (x:=Operand.tmp 8) (t:=3) (d:=some 9) rfl (.pointer (some ⟨ga,7,none⟩)) (by kernel_rfl) (.int .i64 (k:Int)) (by go_simp) hK
  ·exact Ze (T:=22) (x:=Operand.tmp 12) (t:=22) (d:=some 13) rfl (.pointer (some ⟨ga,6,none⟩)) (by kernel_rfl) (.slice (some ⟨b1,o1,none⟩) n a.draws.c) (by go_simp) hK
  ·(have e7:uS 7=.slice (some ⟨b1,o1,none⟩) n a.draws.c:=hD 7 (Zg (by kernel_rfl));exact Zm (op:=Op.call { callee:=Callee.builtin Builtin.len,args:=#[Operand.tmp 13],argTypes:=#[22] }) (t:=3) (d:=some 14) rfl (.int .i64 (n:Int)) (by simp only[Zc,Act.put,List.setIfInBounds_toArray,List.set_cons_zero,List.set_cons_succ];unfold Zb;go_simp;try simp only[e7];try go_simp) hK)
 simp only[Zc,Act.put,List.setIfInBounds_toArray,List.set_cons_zero,List.set_cons_succ];refine Zs (i:=9) (op:=Op.binOp BinOp.geq 3 (Operand.tmp 9) (Operand.tmp 14) 3) (t:=4) (d:=some 15) (v:=.bool false) rfl (by decide +kernel) (by decide +kernel) (by decide +kernel) (fun _ _ _ h=>h) ?_ ?_
 ·(intro _;unfold Zb;go_simp;skip)
 try simp only[lay]
 refine wpAny_done (by kernel_rfl) ?_ _;go_simp;have k0:w1.cell? ⟨ga,0,none⟩=some (.pointer (some ⟨gh,0,none⟩)):=Blk.cell HH.out.a 0;have h2:w1.cell? ⟨gh,2,none⟩=some (.int .i64 (lv:Int)):=Blk.cell HH.out.h 2;clear hlv;go_upto_region 3 with(fail);clear k0 h2
 try simp only[hmin.out,w64.out]
 clear wp w64 hmin;refine wp_region_any (by kernel_rfl) ?_
 change wpAny _ _ _ _ _ _ _ (World.drew _)
 have X2:Ext w1 w1.drew:=(Ext.rf _).drew;have H2:=Hd (HH.out.ext X2);have D2:=Hd (DD.out.tr (Mod.of_ext (S:=PZ ga gm gc w.heap.size) X2));replace k6:w1.drew.cell? ⟨ga,6,none⟩=_:=k6;replace k7:w1.drew.cell? ⟨ga,7,none⟩=_:=k7;replace hd:w1.drew.cell? ⟨b1,o1+k,none⟩=some (.int .i64 d):=hd;clear X2 HH DD;generalize w1.drew=w2 at *;refine Za (i:=0) (op:=Op.move (Operand.tmp 2)) (t:=3) (d:=some 28) (v:=_) rfl (by decide +kernel) (fun _ _ _ h=>h) (by intro _;unfold Zb;go_simp;try with_reducible rfl) ?_
 try simp only[lay]
 refine Za (i:=1) (op:=Op.move (Operand.tmp 0)) (t:=46) (d:=some 29) (v:=_) rfl (by decide +kernel) (fun _ _ _ h=>h) (by intro _;unfold Zb;go_simp;try with_reducible rfl) ?_
 try simp only[lay]
 refine Za (i:=2) (op:=Op.nilCheck (Operand.tmp 29)) (t:=0) (d:=some 30) (v:=_) rfl (by decide +kernel) (fun _ _ _ h=>h) (by intro _;unfold Zb;go_simp;try with_reducible rfl) ?_
 try simp only[lay]
 refine Za (i:=3) (op:=Op.fieldAddr 85 (Operand.tmp 30) 6) (t:=0) (d:=some 31) (v:=_) rfl (by decide +kernel) (fun _ _ _ h=>h) (by intro _;unfold Zb;go_simp;try with_reducible rfl) ?_
 try simp only[lay]
 refine Za (i:=5) (op:=Op.move (Operand.tmp 0)) (t:=46) (d:=some 33) (v:=_) rfl (by decide +kernel) (fun _ _ _ h=>h) (by intro _;unfold Zb;go_simp;try with_reducible rfl) ?_
 try simp only[lay]
 refine Za (i:=6) (op:=Op.nilCheck (Operand.tmp 33)) (t:=0) (d:=some 34) (v:=_) rfl (by decide +kernel) (fun _ _ _ h=>h) (by intro _;unfold Zb;go_simp;try with_reducible rfl) ?_
 try simp only[lay]
 refine Za (i:=7) (op:=Op.fieldAddr 85 (Operand.tmp 34) 7) (t:=0) (d:=some 35) (v:=_) rfl (by decide +kernel) (fun _ _ _ h=>h) (by intro _;unfold Zb;go_simp;try with_reducible rfl) ?_
 try simp only[lay]
 refine Za (i:=12) (op:=Op.move (Operand.tmp 2)) (t:=3) (d:=some 40) (v:=_) rfl (by decide +kernel) (fun _ _ _ h=>h) (by intro _;unfold Zb;go_simp;try with_reducible rfl) ?_
 try simp only[lay]
 refine Zs (i:=13) (op:=Op.convert 3 95 (Operand.tmp 40)) (t:=95) (d:=some 41) (v:=.int .u64 nl) rfl (by decide +kernel) (by decide +kernel) (by decide +kernel) (fun _ _ _ h=>h) ?_ ?_
 ·(intro _;unfold Zb;go_simp;skip)
 try simp only[lay]
 refine Zj (n:=5) [(4,some 32),(8,some 36),(9,some 37),(10,some 38)] (fun | 4=>.slice (some ⟨b1,o1,none⟩) n a.draws.c | 8=>.int .i64 (k:Int) | 9=>.pointer (some ⟨b1,o1+k,none⟩) | 10=>.int .i64 d | _=>undef) #[true,true,true,true,true,true,true,true,true,true,true,false,true,true,false,false,false,false] (by decide +kernel) ?_ ?_
 ·intro pS hpm uS hD K hK
  simp only[List.mem_cons,List.not_mem_nil,or_false] at hpm;rcases hpm with rfl | rfl | rfl | rfl
  ·exact Ze (T:=22) (x:=Operand.tmp 31) (t:=22) (d:=some 32) rfl (.pointer (some ⟨ga,6,none⟩)) (by kernel_rfl) (.slice (some ⟨b1,o1,none⟩) n a.draws.c) (by go_simp) hK
  ·exact Ze (T:=3) (x:=Operand.tmp 35) (t:=3) (d:=some 36) rfl (.pointer (some ⟨ga,7,none⟩)) (by kernel_rfl) (.int .i64 (k:Int)) (by go_simp) hK
  ·exact Wt (T:=22) (x:=Operand.tmp 32) (y:=Operand.tmp 36) (t:=0) (d:=some 37) rfl (.slice (some ⟨b1,o1,none⟩) n a.draws.c) (.int .i64 (k:Int)) (Eq.trans (b:=uS 4) (by kernel_rfl) (hD 4 (Zg (by kernel_rfl)))) (Eq.trans (b:=uS 8) (by kernel_rfl) (hD 8 (Zg (by kernel_rfl)))) (.pointer (some ⟨b1,o1+k,none⟩)) (by go_simp) hK
  ·exact Ze (T:=3) (x:=Operand.tmp 37) (t:=3) (d:=some 38) rfl (.pointer (some ⟨b1,o1+k,none⟩)) (Eq.trans (b:=uS 9) (by kernel_rfl) (hD 9 (Zg (by kernel_rfl)))) (.int .i64 d) (by go_simp) hK
 simp only[Zc,Act.put,List.setIfInBounds_toArray,List.set_cons_zero,List.set_cons_succ];refine Zs (i:=11) (op:=Op.convert 3 95 (Operand.tmp 38)) (t:=95) (d:=some 39) (v:=.int .u64 (IntKind.u64.wrap d)) rfl (by decide +kernel) (by decide +kernel) (by decide +kernel) (fun _ _ _ h=>h) ?_ ?_
 ·(intro _;unfold Zb;go_simp;skip)
 try simp only[lay]
 refine Zs (i:=14) (op:=Op.binOp BinOp.rem 95 (Operand.tmp 39) (Operand.tmp 41) 95) (t:=95) (d:=some 42) (v:=.int .u64 md) rfl (by decide +kernel) (by decide +kernel) (by decide +kernel) (fun _ _ _ h=>h) ?_ ?_
 ·(intro _;unfold Zb;go_simp;skip)
 try simp only[lay]
 refine Zs (i:=15) (op:=Op.convert 95 3 (Operand.tmp 42)) (t:=3) (d:=some 43) (v:=.int .i64 md) rfl (by decide +kernel) (by decide +kernel) (by decide +kernel) (fun _ _ _ h=>h) ?_ ?_
 ·(intro _;unfold Zb;go_simp;skip)
 try simp only[lay]
 refine Zs (i:=16) (op:=Op.binOp BinOp.add 3 (Operand.tmp 28) (Operand.tmp 43) 3) (t:=3) (d:=some 44) (v:=.int .i64 (i:Int)) rfl (by decide +kernel) (by decide +kernel) (by decide +kernel) (fun _ _ _ h=>h) ?_ ?_
 ·(intro _;unfold Zb;go_simp;skip)
 try simp only[lay]
 refine Za (i:=17) (op:=Op.assign (Operand.tmp 44)) (t:=3) (d:=some 3) (v:=_) rfl (by decide +kernel) (fun _ _ _ h=>h) (by intro _;unfold Zb;go_simp;try with_reducible rfl) ?_
 try simp only[lay]
 refine wpAny_done (by kernel_rfl) ?_ _;go_simp;clear k6 hd;go_wp2_with (fail);refine(RE.out _ H2.out).mono ?_;rintro e w3 ⟨rfl,m3,d3⟩;have H3:=Hd (H2.out.cell m3 d3);have D3:=Hd (D2.out.tr (d3.mono fun b _ h=>(.inl (.inr h):PZ ga gm gc w.heap.size b)));clear m3 d3 RE k7 H2 D2;go_upto_region 5 with(fail);refine wp_region_any (by kernel_rfl) ?_
 change wpAny _ _ _ _ _ _ _ (World.drew _)
 have k0:w3.cell? ⟨ga,0,none⟩=some (.pointer (some ⟨gh,0,none⟩)):=Blk.cell H3.out.a 0;have za:=Blk.lt H3.out.a;refine Za (i:=0) (op:=Op.move (Operand.tmp 0)) (t:=46) (d:=some 48) (v:=_) rfl (by decide +kernel) (fun _ _ _ h=>h) (by intro _;unfold Zb;go_simp;try with_reducible rfl) ?_
 try simp only[lay]
 refine Za (i:=1) (op:=Op.nilCheck (Operand.tmp 48)) (t:=0) (d:=some 49) (v:=_) rfl (by decide +kernel) (fun _ _ _ h=>h) (by intro _;unfold Zb;go_simp;try with_reducible rfl) ?_
 try simp only[lay]
 refine Za (i:=2) (op:=Op.fieldAddr 85 (Operand.tmp 49) 0) (t:=0) (d:=some 50) (v:=_) rfl (by decide +kernel) (fun _ _ _ h=>h) (by intro _;unfold Zb;go_simp;try with_reducible rfl) ?_
 try simp only[lay]
 refine Za (i:=4) (op:=Op.move (Operand.tmp 4)) (t:=3) (d:=some 52) (v:=_) rfl (by decide +kernel) (fun _ _ _ h=>h) (by intro _;unfold Zb;go_simp;try with_reducible rfl) ?_
 try simp only[lay]
 refine Za (i:=5) (op:=Op.move (Operand.tmp 0)) (t:=46) (d:=some 53) (v:=_) rfl (by decide +kernel) (fun _ _ _ h=>h) (by intro _;unfold Zb;go_simp;try with_reducible rfl) ?_
 try simp only[lay]
 refine Zi (n:=1) [(3,some 51),(6,some 54)] (Ext w3) (VF (fun | 3=>some (.pointer (some ⟨gh,0,none⟩)) | 6=>some (.int .i64 ks) | _=>none) (fun i v W=>True)) Ext #[true,true,true,true,true,true,true,false] (by decide +kernel) (VF.stab ?_) ?_ ?_ (by first | exact(Ext.rf _).drew | exact Ext.rf _)
 ·intro j v W W' _ _ _;trivial
 ·intro pS hpm uS wS hRW hD K hK
  simp only[List.mem_cons,List.not_mem_nil,or_false] at hpm;rcases hpm with rfl | rfl
  ·( have rX:=Zf hRW za k0;exact Ze (T:=32) (x:=Operand.tmp 50) (t:=32) (d:=some 51) rfl (.pointer (some ⟨ga,0,none⟩)) (by kernel_rfl) (.pointer (some ⟨gh,0,none⟩)) (by go_simp) (hK _ _ (VF.mk rfl) hRW (Ext.rf _)))
  ·( exact Zh (f:=75) (xs:=#[Operand.tmp 53]) (ts:=#[46]) (t:=3) (d:=some 54) rfl #[.pointer (some ⟨ga,0,none⟩)] (by go_simp) (by kernel_rfl) _ (KE.out _ (H3.out.ext hRW)) (by rintro e w9 ⟨rfl,xx⟩;exact⟨_,rfl,hK _ _ (VF.mk rfl) (hRW.tr xx) xx⟩))
 intro u w4 hR3 hV;have h3:=(hV (3,some 51) (by simp)).k rfl;have h6:=(hV (6,some 54) (by simp)).k rfl;simp only[Zc,h3,h6];clear hV h3 h6
 try simp only[lay]
 refine Zd 7 (by decide +kernel) (Zh (f:=74) (xs:=#[Operand.tmp 51,Operand.tmp 52,Operand.tmp 54]) (ts:=#[32,3,3]) (t:=4) (d:=some 55) rfl #[.pointer (some ⟨gh,0,none⟩),.int .i64 x,.int .i64 ks] (by go_simp) (by kernel_rfl) _ (BE.out _ (H3.out.ext hR3)) ?_);rintro e w5 ⟨rfl,x5⟩;have H5:=Hd ((H3.out.ext hR3).ext x5);have D5:=Hd (D3.out.tr (Mod.of_ext (hR3.tr x5)));clear x5 hR3 KE BE k0 za H3 D3;refine⟨_,rfl,?_⟩
 try simp only[lay]
 refine wpAny_done (by kernel_rfl) ?_ _;go_simp;have c8:w5.cell? ⟨ga,8,none⟩=some a.way.v:=Blk.cell H5.out.a 8;have f8:w5.frozen? ⟨ga,8,none⟩=false:=Blk.free H5.out.a 8;obtain⟨q1,q2⟩:=H5.out.field 8 (.slice none 0 0) (a':={ a with way:=⟨none,0,[]⟩ }) rfl;have c9:(w5.setCell ⟨ga,8,none⟩ (.slice none 0 0)).cell? ⟨ga,9,none⟩=some a.heads.v:=Blk.cell q1.a 9;have f9:(w5.setCell ⟨ga,8,none⟩ (.slice none 0 0)).frozen? ⟨ga,9,none⟩=false:=Blk.free q1.a 9;obtain⟨r1,r2⟩:=q1.field 9 (.slice none 0 0) (a':={ a with way:=⟨none,0,[]⟩,heads:=⟨none,0,[]⟩ }) rfl;have H6:=Hd r1;have D6:=Hd (D5.out.tr ((q2.tr r2).mono fun b _ h=>(.inl (.inl h):PZ ga gm gc w.heap.size b)));have Z6:w.heap.size<=((w5.setCell ⟨ga,8,none⟩ (.slice none 0 0)).setCell ⟨ga,9,none⟩ (.slice none 0 0)).heap.size:=D6.out.size;clear q1 q2 r1 r2 H5 D5;go_upto_region 8 with(fail);clear c8 f8 c9 f9;generalize (w5.setCell ⟨ga,8,none⟩ (.slice none 0 0)).setCell ⟨ga,9,none⟩ (.slice none 0 0)=w6 at *;go_wp2_with (fail);go_loopw [5] (fun ii wr=>∃ (j f:Nat) (acc:List Nat) (A:Option Addr) (c:Nat),ii=.int .i64 j/\j<f/\j<=i/\Hid (ZF (i+1) i=acc++ZF f j)/\Hid (HW wr bs gm gc gp gn go gh b lv ga M P { a with way:=⟨A,c,Zq acc⟩,heads:=⟨none,0,[]⟩ })/\OwI wr w.heap.size A c (Zq acc)/\Hid (Mod (PZ ga gm gc w.heap.size) w wr)) (fun ii _=>(intOf ii).toNat)
 case atStart=>exact⟨i,i+1,[],none,0,rfl,by omega,by omega,by exact rfl,H6,OwI.nil _ _,D6⟩
 case round =>
  clear H6 D6 Z6;obtain⟨j,f,acc,A,c,rfl,hkf,hkl,hH,Hr,ho,Dr⟩:=hrel;have hal:acc.length<=64:=by
   have h1:=congrArg List.length hH.out;have h2:=YJ (i+1) i;rw[List.length_append] at h1;omega
  by_cases hj:0<j
  ·obtain⟨f',rfl⟩:∃ f',f=f'+1:=⟨f-1,by omega⟩
   have hstep:ZF (i+1) i=(acc++[j])++ZF f' (j / 2):=by rw[hH.out,ZI f' j hj];simp
   have hia:Zq (acc++[j])=Zq acc++[(j:Int)]:=by simp[Zq]
   have hil:(Zq acc).length<=64:=by rw[Zr];exact hal
   replace hstep:=Hd hstep;replace hia:=Hd hia;have hsz:w.heap.size<=wr.heap.size:=Dr.out.size;clear hH hal;generalize Zq acc=xs at *;have k8:wr.cell? ⟨ga,8,none⟩=some (.slice A xs.length c):=Blk.cell Hr.out.a 8;go_wp2_with (at_builtin;refine Yn _ rfl _ _ rfl w.heap.size A xs.length c xs [(j:Int)] (some ⟨wr.heap.size,0,none⟩) 1 rfl rfl rfl ?_ ?_ ?_ ?_ ?_;(exact ho.ext ((Ext.rf _).alloc _));(exact .blk (.new (by simp)) rfl);(simp;omega);(simp;omega);rintro A1 c1 w1 h1 g1 _;have G1:=Hd (Mod.grown (S:=fun b=>bl A=some b) g1 fun _ h=>h);have H1:=Hd ((Hr.out.ext ((Ext.rf _).alloc _)).keep UU.out G1.out (fun q hq=>(ho.lt q hq).1));have c1_:w1.cell? ⟨ga,8,none⟩=some (.slice A xs.length c):=Blk.cell H1.out.a 8;have f1_:w1.frozen? ⟨ga,8,none⟩=false:=Blk.free H1.out.a 8;replace h1:=Hd h1;clear g1);obtain⟨q1,q2⟩:=H1.out.field 8 (.slice A1 (xs.length+1) c1) (a':={ a with way:=⟨A1,c1,xs++[(j:Int)]⟩,heads:=⟨none,0,[]⟩ }) (by simp[HAct.cells,OwL.v]);have S1:=Hd q1;have O1:=Hd (h1.out.far H1.out.a (by decide) 8 (.slice A1 (xs.length+1) c1));have S2:=Hd (((Dr.out.tr (Mod.of_ext ((Ext.rf wr).alloc _))).tr (G1.out.mono fun q _ hq=>(.inr (ho.lt q hq).1:PZ ga gm gc w.heap.size q))).tr (q2.mono fun b _ h=>(.inl (.inl h):PZ ga gm gc w.heap.size b)));clear q1 q2 H1 h1 G1 Hr Dr;go_roundw
   case rel=>exact⟨j / 2,f',acc++[j],A1,c1,by go_num,by omega,by omega,hstep,by rw[hia.out];exact S1,by rw[hia.out];exact O1.out,S2⟩
   case measure=>simp[intOf];omega
  ·obtain rfl:j=0:=by omega
   have hacc:Zp i=acc.reverse:=by
    have h:=hH.out;rw[Yq,List.append_nil] at h;rw[Zp,h]
   have hir:(Zq acc).reverse=Zq (Zp i):=by rw[hacc];simp[Zq]
   have hil:(Zq acc).length<=2^44:=by rw[Zr];omega
   obtain⟨nx,hnx⟩:∃ nx,nx=(Zp i).length:=⟨_,rfl⟩;have hll:(Zq acc).length=nx:=by rw[hnx,<-Zr,<-hir];simp
   have hx1:1<=nx:=by
    rw[hnx,Zp,List.length_reverse,show ZF (i+1) i=i::ZF i (i / 2) from ZI i i hi1,List.length_cons];omega
   have hx64:nx<=64:=by rw[<-hll,Zr];exact hal
   replace hir:=Hd hir;replace hnx:=Hd hnx;clear hH hacc hal;have k8:wr.cell? ⟨ga,8,none⟩=some (.slice A nx c):=(Blk.cell Hr.out.a 8).trans (by simp[HAct.cells,OwL.v,hll]);have RV:=YX A c w.heap.size (Zq acc) wr ho hil;rw[hir.out,hll] at RV;replace RV:=Hd RV;have hsz:w.heap.size<=wr.heap.size:=Dr.out.size;go_upto_region 12 with(fail);go_wp2_with (fail);refine RV.out.mono ?_;rintro e w7 ⟨rfl,h7,m7⟩;have H7:=Hd (show HW w7 bs gm gc gp gn go gh b lv ga M P { a with way:=⟨A,c,Zq (Zp i)⟩,heads:=⟨none,0,[]⟩ } from by
    have:=Hr.out.keep UU.out m7 (fun q hq=>(ho.lt q hq).1);refine⟨this.m,this.p,this.h,?_⟩;have h9:=this.a;unfold Zk at h9 ⊢
    simpa [HAct.cells,OwL.v,hll,Zr,hnx.out] using h9)
   have D7:=Hd (Dr.out.tr (m7.mono fun q _ hq=>(.inr (ho.lt q hq).1:PZ ga gm gc w.heap.size q)));replace h7:=Hd h7;clear m7 RV k8 Hr Dr ho hsz;have hsz:w.heap.size<=w7.heap.size:=D7.out.size;have k8:w7.cell? ⟨ga,8,none⟩=some (.slice A nx c):=(Blk.cell H7.out.a 8).trans (by simp[HAct.cells,OwL.v,Zr,hnx.out]);have wx:IntKind.i64.wrap ((nx:Int)-1)=((nx-1:Nat):Int):=by rw[show (nx:Int)-1=((nx-1:Nat):Int) by omega];exact IntWalk.i64_in _ (by omega)
   have hxi:(0:Int)<=((nx-1:Nat):Int):=by omega
   have hxl:((nx-1:Nat):Int)<(nx:Int):=by omega
   obtain⟨nh,hnh⟩:∃ nh,nh=nx-1:=⟨_,rfl⟩;rw[<-hnh] at wx hxi hxl;replace hnh:=Hd hnh;go_wp2_with (at_make;refine Y5 _ rfl _ _ rfl w.heap.size _ _ nx rfl rfl rfl rfl (by omega) hsz ?_;rintro w8 o8 g8;have X8:=Hd (Ext.grownNone (Ext.rf w7) g8);have H8:=Hd (H7.out.ext X8.out);have c9:w8.cell? ⟨ga,9,none⟩=some (.slice none 0 0):=Blk.cell H8.out.a 9;have f9:w8.frozen? ⟨ga,9,none⟩=false:=Blk.free H8.out.a 9;obtain⟨q1,q2⟩:=H8.out.field 9 (.slice (some ⟨w7.heap.size,0,none⟩) nx nx) (a':={ a with way:=⟨A,c,Zq (Zp i)⟩,heads:=⟨some ⟨w7.heap.size,0,none⟩,nx,List.replicate nx 0⟩ }) (by simp[HAct.cells,OwL.v]);replace q1:=Hd q1;replace q2:=Hd q2;replace o8:=Hd o8;clear g8;have k8:(w8.setCell ⟨ga,9,none⟩ (.slice (some ⟨w7.heap.size,0,none⟩) nx nx)).cell? ⟨ga,8,none⟩=some (.slice A nx c):=(Blk.cell q1.out.a 8).trans (by simp[HAct.cells,OwL.v,Zr,hnx.out]);have c10:(w8.setCell ⟨ga,9,none⟩ (.slice (some ⟨w7.heap.size,0,none⟩) nx nx)).cell? ⟨ga,10,none⟩=some (.int .i64 a.low):=Blk.cell q1.out.a 10;have f10:(w8.setCell ⟨ga,9,none⟩ (.slice (some ⟨w7.heap.size,0,none⟩) nx nx)).frozen? ⟨ga,10,none⟩=false:=Blk.free q1.out.a 10;obtain⟨r1,r2⟩:=q1.out.field 10 (.int .i64 0) (a':={ a with way:=⟨A,c,Zq (Zp i)⟩,heads:=⟨some ⟨w7.heap.size,0,none⟩,nx,List.replicate nx 0⟩,low:=0 }) rfl;replace r1:=Hd r1;replace r2:=Hd r2;have c11:((w8.setCell ⟨ga,9,none⟩ (.slice (some ⟨w7.heap.size,0,none⟩) nx nx)).setCell ⟨ga,10,none⟩ (.int .i64 0)).cell? ⟨ga,11,none⟩=some (.int .i64 a.high):=Blk.cell r1.out.a 11;have f11:((w8.setCell ⟨ga,9,none⟩ (.slice (some ⟨w7.heap.size,0,none⟩) nx nx)).setCell ⟨ga,10,none⟩ (.int .i64 0)).frozen? ⟨ga,11,none⟩=false:=Blk.free r1.out.a 11);obtain⟨t1,t2⟩:=r1.out.field 11 (.int .i64 (nh:Int)) (a':={ a with way:=⟨A,c,Zq (Zp i)⟩,heads:=⟨some ⟨w7.heap.size,0,none⟩,nx,List.replicate nx 0⟩,low:=0,high:=(nh:Int) }) rfl;have T1:=Hd t1;have TM:=Hd (((q2.out.tr r2.out).tr t2:Mod (fun b=>b=ga) w8 _));have BX:=Hd ((OwI.full (xs:=List.replicate nx 0) (by simpa using o8.out)).1.mod TM.out (by have:=H7.out.und.h.2;omega));have OA:=Hd (((h7.out.ext X8.out).mod TM.out (h7.out.ext X8.out |>.ne H8.out.a (by decide))));have nA:bl A≠some w7.heap.size:=fun e=>by have:=(h7.out.lt _ e).2;omega
   have D8:=Hd ((D7.out.tr (Mod.of_ext X8.out)).tr (TM.out.mono fun b _ h=>(.inl (.inl h):PZ ga gm gc w.heap.size b)));clear t1 t2 q1 q2 r1 r2 TM X8 H8 o8 h7 D7 H7 c9 f9 k8 c10 f10 c11 f11;generalize ((w8.setCell ⟨ga,9,none⟩ (.slice (some ⟨w7.heap.size,0,none⟩) nx nx)).setCell ⟨ga,10,none⟩ (.int .i64 0)).setCell ⟨ga,11,none⟩ (.int .i64 (nh:Int))=w9 at *;generalize w7.heap.size=gx at *;have UG:∀ (k:Nat) (o:OwL),P.ows[k]?=some o->bl o.A≠some gx:=fun k o ho e=>by have:=UU.out.o k o ho _ e;omega
   have ngc:gx≠gc:=by have:=UU.out.m.2;omega
   refine wp_region_any (by kernel_rfl) ?_
   change wpAny _ _ _ _ _ _ _ (World.drew _)
   have XX:Ext w9 w9.drew:=(Ext.rf _).drew;have T2:=Hd (T1.out.ext XX);have B2:=Hd (BX.out.ext XX);have O2:=Hd (OA.out.ext XX);have D2:=Hd (D8.out.tr (Mod.of_ext XX));clear T1 BX OA D8 XX;generalize w9.drew=wa at *;have k9:wa.cell? ⟨ga,9,none⟩=some (.slice (some ⟨gx,0,none⟩) nx nx):=(Blk.cell T2.out.a 9).trans (by simp[HAct.cells,OwL.v]);have k11:wa.cell? ⟨ga,11,none⟩=some (.int .i64 (nh:Int)):=Blk.cell T2.out.a 11;have z0:(List.replicate nx (0:Int))[nh]?=some 0:=by rw[List.getElem?_replicate,if_pos (by omega)]
   have cx:wa.cell? ⟨gx,nh,none⟩=some (.int .i64 0):=(B2.out.cell nh).trans (ZV z0);have fx:wa.frozen? ⟨gx,nh,none⟩=false:=B2.out.free nh;obtain⟨r1,r2,r3⟩:=T2.out.row B2.out ngc UG nh x;have R1:=Hd (show HW (wa.setCell ⟨gx,nh,none⟩ (.int .i64 x)) bs gm gc gp gn go gh b lv ga M P { a with way:=⟨A,c,Zq (Zp i)⟩,heads:=⟨some ⟨gx,0,none⟩,nx,(List.replicate nx 0).set nh x⟩,low:=0,high:=(nh:Int) } from⟨r1.m,r1.p,r1.h,by have:=r1.a;unfold Zk at this ⊢;simpa [HAct.cells,OwL.v] using this⟩);have R2:=Hd r2;have R3:=Hd (O2.out.mod r3 (fun b hb e=>nA (by rw[hb,e])));have D3:=Hd (D2.out.tr (r3.mono fun b _ h=>(.inr (by omega):PZ ga gm gc w.heap.size b)));clear r1 r2 r3 z0 D2 O2 T2 B2;refine Za (i:=0) (op:=Op.move (Operand.tmp 0)) (t:=46) (d:=some 110) (v:=_) rfl (by decide +kernel) (fun _ _ _ h=>h) (by intro _;unfold Zb;go_simp;try with_reducible rfl) ?_
   try simp only[lay]
   refine Za (i:=1) (op:=Op.nilCheck (Operand.tmp 110)) (t:=0) (d:=some 111) (v:=_) rfl (by decide +kernel) (fun _ _ _ h=>h) (by intro _;unfold Zb;go_simp;try with_reducible rfl) ?_
   try simp only[lay]
   refine Za (i:=2) (op:=Op.fieldAddr 85 (Operand.tmp 111) 9) (t:=0) (d:=some 112) (v:=_) rfl (by decide +kernel) (fun _ _ _ h=>h) (by intro _;unfold Zb;go_simp;try with_reducible rfl) ?_
   try simp only[lay]
   refine Za (i:=4) (op:=Op.move (Operand.tmp 0)) (t:=46) (d:=some 114) (v:=_) rfl (by decide +kernel) (fun _ _ _ h=>h) (by intro _;unfold Zb;go_simp;try with_reducible rfl) ?_
   try simp only[lay]
   refine Za (i:=5) (op:=Op.nilCheck (Operand.tmp 114)) (t:=0) (d:=some 115) (v:=_) rfl (by decide +kernel) (fun _ _ _ h=>h) (by intro _;unfold Zb;go_simp;try with_reducible rfl) ?_
   try simp only[lay]
   refine Za (i:=6) (op:=Op.fieldAddr 85 (Operand.tmp 115) 11) (t:=0) (d:=some 116) (v:=_) rfl (by decide +kernel) (fun _ _ _ h=>h) (by intro _;unfold Zb;go_simp;try with_reducible rfl) ?_
   try simp only[lay]
   refine Za (i:=8) (op:=Op.move (Operand.tmp 4)) (t:=3) (d:=some 118) (v:=_) rfl (by decide +kernel) (fun _ _ _ h=>h) (by intro _;unfold Zb;go_simp;try with_reducible rfl) ?_
   try simp only[lay]
   refine Zj (n:=2) [(3,some 113),(7,some 117)] (fun | 3=>.slice (some ⟨gx,0,none⟩) nx nx | 7=>.int .i64 (nh:Int) | _=>undef) #[true,true,true,true,true,true,true,true,true,false,false] (by decide +kernel) ?_ ?_
   ·intro pS hpm uS hD K hK
    simp only[List.mem_cons,List.not_mem_nil,or_false] at hpm;rcases hpm with rfl | rfl
    ·exact Ze (T:=22) (x:=Operand.tmp 112) (t:=22) (d:=some 113) rfl (.pointer (some ⟨ga,9,none⟩)) (by kernel_rfl) (.slice (some ⟨gx,0,none⟩) nx nx) (by go_simp) hK
    ·exact Ze (T:=3) (x:=Operand.tmp 116) (t:=3) (d:=some 117) rfl (.pointer (some ⟨ga,11,none⟩)) (by kernel_rfl) (.int .i64 (nh:Int)) (by go_simp) hK
   simp only[Zc,Act.put,List.setIfInBounds_toArray,List.set_cons_zero,List.set_cons_succ];refine Za (i:=9) (op:=Op.indexAddr 22 (Operand.tmp 113) (Operand.tmp 117)) (t:=0) (d:=some 119) (v:=_) rfl (by decide +kernel) (fun _ _ _ h=>h) (by intro _;unfold Zb;go_simp;try with_reducible rfl) ?_
   try simp only[lay]
   refine Zd 10 (by decide +kernel) (ZQ rfl (.pointer (some ⟨gx,nh,none⟩)) (.int .i64 x) (by kernel_rfl) (by kernel_rfl) (by go_simp;rfl) ?_);refine wpAny_done (by kernel_rfl) ?_ _;go_simp;clear k9 k11 cx fx;generalize wa.setCell ⟨gx,nh,none⟩ (.int .i64 x)=wb at *;have c1:wb.cell? ⟨ga,1,none⟩=some (.int .i64 a.ph):=Blk.cell R1.out.a 1;have f1:wb.frozen? ⟨ga,1,none⟩=false:=Blk.free R1.out.a 1;obtain⟨q1,q2⟩:=R1.out.field 1 (.int .i64 1) (a':={ a with way:=⟨A,c,Zq (Zp i)⟩,heads:=⟨some ⟨gx,0,none⟩,nx,(List.replicate nx 0).set nh x⟩,low:=0,high:=(nh:Int),ph:=1 }) rfl;have S1:=Hd q1;have S2:=Hd (R2.out.mod q2 (Blk.ne R2.out R1.out.a (by decide)));have S3:=Hd (R3.out.mod q2 (R3.out.ne R1.out.a (by decide)));have S4:=Hd (D3.out.tr (q2.mono fun b _ h=>(.inl (.inl h):PZ ga gm gc w.heap.size b)));clear q1 q2 R1 R2 R3 D3;go_upto_region 17 with(fail);clear c1 f1;generalize wb.setCell ⟨ga,1,none⟩ (.int .i64 1)=wc at *;have HD:=Hd (HC.out wc A c gx nx hnx.out (by rw[<-hnh.out];exact S1.out) S3.out (by rw[<-hnh.out];exact S2.out) hsz nA S4.out);clear HC S1 S2 S3 S4;go_wp2_with (fail);refine HD.out.mono ?_;rintro e wd ⟨rfl,rd⟩;replace rd:=Hd rd;clear HD;go_wp2_with (fail);go_end0;exact⟨rfl,rd.out⟩
theorem Xy (bs gm gc gp gn go:Nat)(P:PoolS)(w:World)(H:PoolR w bs gm gc gp gn go P) :
  Calls Try.prog 30 #[.pointer (some ⟨gp,0,none⟩)] w fun e w'=>e=.returned (.int .i64 (P.n:Int))/\Ext w w':=by
 have p2:w.cell? ⟨gp,2,none⟩=some (.slice (some ⟨gn,0,none⟩) P.n P.n):=H.p.cell 2;clear H;go_enter Try.func30,Try.ntmps30;go_wp2_with (go_quiet (fail));go_ret;exact⟨rfl,XI⟩
def Ym (ph slot:Int)(push:Bool)(ds:OwL)(p:Int) : HAct:=⟨ph,slot,push,true,false,ds,0,⟨none,0,[]⟩,⟨none,0,[]⟩,0,0,p,0,0,0,0,0,0,false,false,false⟩
def ZE (ds:List Int) : List Int:=if ds.take 4=[] then [0] else ds.take 4
theorem Uo (gm gp gh b lv:Nat)(w:World)(H:ZK w gh gm gp b lv) :
  Calls Try.prog 20 #[.pointer (some ⟨gh,0,none⟩)] w fun e w'=>e=.returned (.pointer (some ⟨w.heap.size,0,none⟩))/\Zk w' w.heap.size gh (Ym 4 (-1) false ⟨none,0,[]⟩ 1)/\Ext w w':=by
 clear H;go_enter Try.func20,Try.ntmps20;go_wp2_with (go_quiet (fail));go_ret;exact⟨rfl,by unfold Zk HAct.cells Ym;exact Blk.new rfl,XI⟩
theorem VQ (ga gh:Nat)(a:HAct)(w:World)(A:Zk w ga gh a)(h:a.ph=15)(hp:a.push=false) :
  Calls Try.prog 22 #[.pointer (some ⟨ga,0,none⟩)] w fun e w'=>e=.returned (.int .i64 a.slot)/\Ext w w':=by
 have a1:w.cell? ⟨ga,1,none⟩=some (.int .i64 15):=(Blk.cell A 1).trans (by simp[HAct.cells,h]);have a3:w.cell? ⟨ga,3,none⟩=some (.bool false):=(Blk.cell A 3).trans (by simp[HAct.cells,hp]);have a2:w.cell? ⟨ga,2,none⟩=some (.int .i64 a.slot):=Blk.cell A 2;clear A h hp;go_enter Try.func22,Try.ntmps22;go_wp2_with (go_quiet (fail));go_ret;exact⟨rfl,XI⟩
theorem Wc (ga gh:Nat)(a:HAct)(w:World)(A:Zk w ga gh a) :
  Calls Try.prog 17 #[.pointer (some ⟨ga,0,none⟩)] w fun e w'=>e=.returned (.bool a.fits)/\Ext w w':=by
 have a5:w.cell? ⟨ga,5,none⟩=some (.bool a.fits):=Blk.cell A 5;clear A;generalize a.fits=q at *;go_enter Try.func17,Try.ntmps17;go_wp2_with (go_quiet (fail));go_ret;exact⟨rfl,XI⟩
def WP (gh:Nat)(s:Nat)(ds:List Int)(w:World)(e:Ending)(w':World) : Prop:=∃ (ga:Nat) (A:Option Addr) (c:Nat),e=.returned (.pointer (some ⟨ga,0,none⟩))/\Zk w' ga gh (Ym 0 (s:Int) true ⟨A,c,ZE ds⟩ 0)/\OwI w' w.heap.size A c (ZE ds)/\w.heap.size<=ga/\Ext w w'
theorem VR (bs gm gc gp gn go gh b lv:Nat)(P:PoolS)(w:World)(HH:ZK w gh gm gp b lv)(HP:PoolR w bs gm gc gp gn go P)(s:Nat)(hs:s<P.n)(hn:P.n<=100000)(ds:List Int)(D:Option Addr)(d:Nat)(hd:RdI w D ds)(id:Ints ds)(ld:ds.length<=d)(ld':d<=maxLen) :
  Calls Try.prog 15 #[.pointer (some ⟨gh,0,none⟩),.int .i64 (s:Int),.slice D ds.length d] w (WP gh s ds w):=by
 have SL:=Hd (fun(W:World) (X:Ext w W)=>Xy bs gm gc gp gn go P W (HP.ext X));have h3:w.cell? ⟨gh,3,none⟩=some (.pointer (some ⟨gp,0,none⟩)):=Blk.cell HH 3;have zh:=Blk.lt HH;have e1:¬(s:Int)<0:=by omega
 have e2:¬(s:Int)>=(P.n:Int):=by omega
 obtain⟨ps,hp,ip,lp,lp',kp,ep⟩:=Vk 4 hd id;simp only[Int.cast_ofNat_Int] at ep;have hD:ZE ds=if ps=[] then [0] else ps:=by unfold ZE;rw[<-kp.out]
 replace hD:=Hd hD;have CL:=Hd (fun(W:World) (X:Ext w W)=>YN D d ps W (hp.ext X) (by omega));unfold maxLen at ld';clear HH HP hd id kp hs;go_enter Try.func15,Try.ntmps15;go_wp2_with (go_quiet (fail));refine(SL.out _ XI).mono ?_;rintro e w1 ⟨rfl,x1⟩;have X1:=Hd (Ext.tr (a:=w) XI x1);clear x1 SL h3;go_wp2_with (go_quiet (fail));refine(CL.out _ (X1.out.tr XI)).mono ?_;rintro e w2 ⟨A,c,rfl,o2,x2⟩;have X2:=Hd (X1.out.tr (Ext.tr (a:=w1) XI x2));have O2:=Hd (OwI.more (base':=w.heap.size) o2 (by first | exact X1.out.size | (have:=X1.out.size;simp at *;omega)));clear x2 o2 CL;have BA:Hid (Zk (w2.alloc (.cells #[.pointer (some ⟨gh,0,none⟩),.int .i64 0,.int .i64 (s:Int),.bool true,.bool true,.bool false,.slice A ps.length c,.int .i64 0,.slice none 0 0,.slice none 0 0,.int .i64 0,.int .i64 0,.int .i64 0,.int .i64 0,.int .i64 0,.int .i64 0,.int .i64 0,.int .i64 0,.int .i64 0,.bool false,.bool false,.bool false] 85)) w2.heap.size gh (Ym 0 (s:Int) true ⟨A,c,ps⟩ 0)):=Hd (by unfold Zk HAct.cells Ym;exact Blk.new rfl);have XA:Hid (Ext w2 (w2.alloc (.cells #[.pointer (some ⟨gh,0,none⟩),.int .i64 0,.int .i64 (s:Int),.bool true,.bool true,.bool false,.slice A ps.length c,.int .i64 0,.slice none 0 0,.slice none 0 0,.int .i64 0,.int .i64 0,.int .i64 0,.int .i64 0,.int .i64 0,.int .i64 0,.int .i64 0,.int .i64 0,.int .i64 0,.bool false,.bool false,.bool false] 85))):=Hd ((Ext.rf _).alloc _);have hz:=X2.out.size;go_upto_region 4 with(go_quiet (fail));generalize (w2.alloc (.cells #[.pointer (some ⟨gh,0,none⟩),.int .i64 0,.int .i64 (s:Int),.bool true,.bool true,.bool false,.slice A ps.length c,.int .i64 0,.slice none 0 0,.slice none 0 0,.int .i64 0,.int .i64 0,.int .i64 0,.int .i64 0,.int .i64 0,.int .i64 0,.int .i64 0,.int .i64 0,.int .i64 0,.bool false,.bool false,.bool false] 85))=w3 at *;have X3:=Hd (X2.out.tr XA.out);have O3:=Hd (O2.out.ext XA.out);generalize w2.heap.size=ga at *;clear XA X2 O2 X1;have zx:w.heap.size<=w3.heap.size:=X3.out.size
 by_cases h0:ps=[]
 ·subst h0
  have k6:w3.cell? ⟨ga,6,none⟩=some (.slice A 0 c):=Blk.cell BA.out 6;have g1:Blk (w3.alloc (.cells #[.int .i64 0] 3)) w3.heap.size 3 #[.int .i64 0]:=.new rfl;have b2:Zk (w3.alloc (.cells #[.int .i64 0] 3)) ga gh (Ym 0 (s:Int) true ⟨A,c,[]⟩ 0):=Blk.ext BA.out ((Ext.rf _).alloc _);have k7:(w3.alloc (.cells #[.int .i64 0] 3)).cell? ⟨ga,6,none⟩=some (.slice A 0 c):=Blk.cell b2 6;have f7:(w3.alloc (.cells #[.int .i64 0] 3)).frozen? ⟨ga,6,none⟩=false:=Blk.free b2 6;have b3:=Blk.set b2 6 (.slice (some ⟨w3.heap.size,0,none⟩) 1 1);have hgg:ga≠w3.heap.size:=by have:=Blk.lt BA.out;omega
  have o3:OwI ((w3.alloc (.cells #[.int .i64 0] 3)).setCell ⟨ga,6,none⟩ (.slice (some ⟨w3.heap.size,0,none⟩) 1 1)) w.heap.size (some ⟨w3.heap.size,0,none⟩) 1 [0]:=OwI.far (OwI.new (xs:=[0]) (by simp) zx (by simp[maxLen])) b2 (by decide) _ _;have hD':ZE ds=[0]:=by rw[hD.out];rfl
  have xs3:Ext w ((w3.alloc (.cells #[.int .i64 0] 3)).setCell ⟨ga,6,none⟩ (.slice (some ⟨w3.heap.size,0,none⟩) 1 1)):=(X3.out.alloc _).mod (Mod.set (S:=fun k=>k=ga) (p:=⟨ga,6,none⟩) (Mod.rf _) (.inl rfl) _) (fun k hk e=>by subst e;omega);replace b3:=Hd b3;replace o3:=Hd o3;replace xs3:=Hd xs3;replace hD':=Hd hD';clear g1 b2;go_wp2_with (go_quiet (fail));go_ret;exact⟨ga,_,1,rfl,by rw[hD'.out];exact b3.out,by rw[hD'.out];exact o3.out,hz,xs3.out⟩
 ·have k6:w3.cell? ⟨ga,6,none⟩=some (.slice A ps.length c):=Blk.cell BA.out 6
  have hl:0<ps.length:=by cases ps with | nil=>exact absurd rfl h0 | cons x l=>simp
  have e5:¬((ps.length:Int)=0):=by omega
  have hD':ZE ds=ps:=by rw[hD.out,if_neg h0]
  replace hD':=Hd hD';go_wp2_with (go_quiet (fail));go_ret;exact⟨ga,A,c,rfl,by rw[hD'.out];exact BA.out,by rw[hD'.out];exact O3.out,hz,X3.out.tr XI⟩
theorem Up (bs gm gc gp gn go gh ga n:Nat)(P:PoolS)(bd:Nat->Int)(hP:P.n=n)(hn:n<=4096)(hbd:PB P bd)(F:List Nat)(w:World)(M:List Int)(a:HAct)(L:List (List Nat))(s:Nat)(l:List Nat)(H:HW w bs gm gc gp gn go gh (n+1) 6 ga M P a)(hph:a.ph=4)(hpos:a.pos=((1:Nat):Int))(hpu:a.push=false)(how:a.owner=true)(hL:LayQ M n F L)(hl:L.getD 1 []=s::l)(Q:World->Prop)
  (hQ:∀ w' M' a' L',HW w' bs gm gc gp gn go gh (n+1) 6 ga M' P a'->a'.ph=15->a'.slot=(s:Int)->a'.push=false->LayQ M' n F L'->Zo bd L'=Zx 64 ((Zo bd L).set 1 (itL bd l)) 1->Mod (PT ga gm gc) w w'->Q w'):HRuns ga Q 46 w:=by
 obtain⟨x,q1,q2,q3⟩:=hL.hd 1 (by omega) (by omega);have q3':=q3;rw[hl] at q3';obtain⟨e1,y,hy,q4⟩:=q3';have hs:s<n:=hL.llt 1 s (by rw[hl];simp);refine QA { a with hd:=x,ph:=5 } H hph (Mod.rf w) (by simp) (fun W h=>WJ bs gm gc gp gn go gh (n+1) 6 ga M P a W h (by omega) 1 hpos (by omega) (by omega) x q1 q2 (by omega)) ?_;intro w1 H1 D1;refine QB { a with hd:=x,nx:=y,ph:=6 } H1 rfl D1 (by simp) (fun W h=>WK bs gm gc gp gn go gh (n+1) 6 ga M P _ W h (by omega) (by omega) q2 s e1 (by omega) y (by exact hy)) ?_;intro w2 H2 D2;refine QC { a with hd:=x,nx:=y,slot:=pla x,ph:=7 } H2 rfl D2 (by simp) (fun W h=>VI bs gm gc gp gn go gh (n+1) 6 ga M P _ W h (by omega) 1 hpos (by omega) (by omega) x q1 q2 rfl how) ?_;intro w3 H3 D3;exact VP bs gm gc gp gn go gh ga n P bd hP hn hbd F w (s:Int) (by omega) Q _ hQ 6 64 1 _ _ (L.set 1 l) w3 (by omega) (by omega) (by omega) (by omega) H3 rfl hpos e1 hpu (hL.off hn (by omega) (by omega) hl q1 hy) D3 (by rw[Yb])
theorem Wd (bs gm gc gp gn go gh ga n base:Nat)(P:PoolS)(hP:P.n=n)(hn:n<=4096)(F:List Nat)(w0 w:World)(M:List Int)(a:HAct)(L:List (List Nat))(s i:Nat)(x:Int)(H:HW w bs gm gc gp gn go gh (n+1) 6 ga M P a)(hph:a.ph=2)(hpos:a.pos=(i:Int))(h1:1<=i)(h2:i<64)(hx:M[n+1+(i-1)]?=some x)(hhd:a.hd=x)(hsl:a.slot=(s:Int))(hs:s<n)(hL:LayQ M n F L)(hf:∀ j,s∉L.getD j [])(D:Mod (PZ ga gm gc base) w0 w)(Q:World->Prop)
  (hQ:∀ w' M' a',HW w' bs gm gc gp gn go gh (n+1) 6 ga M' P a'->a'.ph=15->a'.fits=true->LayQ M' n F (L.set i (s::L.getD i []))->Mod (PZ ga gm gc base) w0 w'->Q w'):HRuns ga Q 2 w:=by
 obtain⟨x',q1,q2,q3⟩:=hL.hd i h1 h2;rw[hx] at q1
 injection q1 with q1
 subst q1;have ln:=hL.len;refine Qz { a with ph:=3 } H hph (Mod.rf w) (by simp) (fun W h=>VO bs gm gc gp gn go gh (n+1) 6 ga M P a W h (by omega) (by omega) (by rw[hhd];exact q2) s hsl (by omega) (by omega)) ?_;intro w1 H1 D1;refine Qn { a with fits:=true,ph:=15 } H1 rfl D1 rfl (fun W h=>Ue bs gm gc gp gn go gh (n+1) 6 ga _ P _ W h (by omega) i hpos h1 (by omega) x (by rw[List.getElem?_set_ne (by omega)];exact hx) (by show Zl a.hd;rw[hhd];exact q2) hhd.symm) ?_;intro w2 H2 D2;refine hQ w2 _ _ H2 rfl rfl ?_ (D.tr (D2.mono fun b _ h=>.inl h));have:=hL.on hn h1 h2 hs hf hx;simp only[hhd,hsl];exact this
theorem HRuns.more {ga:Nat}{Q:World->Prop} : ∀ {f f':Nat} {w:World},HRuns ga Q f w->f<=f'->HRuns ga Q f' w
 | 0,_,_,h,_=>h.elim
 | f+1,0,_,_,h=>absurd h (by omega)
 | f+1,f'+1,_,h,hf=>fun W X=>(h W X).mono fun e w' he=>he.imp id fun q=>⟨q.1,q.2.more (by omega)⟩
theorem OwI.some0 {w:World}{base c:Nat}{A:Option Addr}{xs:List Int}(h:OwI w base A c xs)(h0:0<xs.length) : ∃ b,A=some ⟨b,0,none⟩/\base<=b/\b<w.heap.size:=by
 obtain⟨g,x,e,h1,h2,_⟩:=h.at h0;exact⟨g,e,h1,h2⟩
theorem OwI.rd {w:World}{base b c:Nat}{xs:List Int}(h:OwI w base (some ⟨b,0,none⟩) c xs){k:Nat}{x:Int}(hk:xs[k]?=some x) : w.cell? ⟨b,0+k,none⟩=some (.int .i64 x):=by
 obtain⟨hl,_⟩:=List.getElem?_eq_some_iff.1 hk;obtain⟨y,h1,_,_,h2,_⟩:=h.cell hl;have:=h2.out;rw[hk] at this
 injection this with this
 rw[Nat.zero_add,this];exact h1
theorem Xz (ls:Ls)(key:Int)(path:List Nat)(f k:Nat) : ZL ls key path f k k=k:=by
 cases f with
 | zero=>rfl
 | succ f=>simp[ZL]
theorem PX.pz {ga gm gc gx base b:Nat}(h:PX ga gm gc gx b)(hb:base<=gx) : PZ ga gm gc base b:=h.elim .inl fun e=>.inr (by omega)
theorem HW.way {w w':World}{bs gm gc gp gn go gh b lv ga base gx c:Nat}{M:List Int}{P:PoolS}{a:HAct}{A:Option Addr}{xs:List Int}(h:HW w bs gm gc gp gn go gh b lv ga M P a)(ho:OwI w base A c xs)(hgc:gc<base)(hA:bl A≠some gx)(hm:Mod (PX ga gm gc gx) w w') : OwI w' base A c xs:=by
 obtain⟨⟨st,k,c',o,n,d,m1⟩,m2⟩:=h.m;refine ho.mod hm fun g hg hS=>?_
 rcases hS with(rfl | rfl | rfl) | rfl
 ·exact ho.ne h.a (by decide) g hg rfl
 ·exact ho.ne m1 (by decide) g hg rfl
 ·have:=(ho.lt g hg).1;omega
 ·exact hA hg
theorem VS (bs gm gc gp gn go gh ga n base:Nat)(P:PoolS)(bd:Nat->Int)(hP:P.n=n)(hn:n<=4096)(hbd:PB P bd)(F:List Nat)(w0:World)(M:List Int)(L:List (List Nat))(s:Nat)(hs:s<n)(hL:LayQ M n F L)(hf:∀ j,s∉L.getD j [])(path:List Nat)(hp1:∀ j∈path,1<=j/\j<64)(hp64:path.length<=64)(hob:∀ (k:Nat) (o:OwL),P.ows[k]?=some o->∀ b,bl o.A=some b->b<base)(hgc:gc<base)(p:Nat)(Q:World->Prop)
  (hQ:∀ w' M' a',HW w' bs gm gc gp gn go gh (n+1) 6 ga M' P a'->a'.ph=15->a'.fits=true->LayQ M' n F (L.set p (s::L.getD p []))->Mod (PZ ga gm gc base) w0 w'->Q w') :
  ∀ (f lo hi:Nat) (a:HAct) (w:World) (A:Option Addr) (c gx nx:Nat) (hs:List Int),hi-lo<=f->lo<hi->hi<path.length->HW w bs gm gc gp gn go gh (n+1) 6 ga M P a->a.ph=1->a.slot=(s:Int)->a.low=(lo:Int)->a.high=(hi:Int)->a.way=⟨A,c,Zq path⟩->a.heads=⟨some ⟨gx,0,none⟩,nx,hs⟩->hs.length=nx->nx=path.length->OwI w base A c (Zq path)->Blk w gx 3 (List.toArray (ZJ hs))->base<=gx->bl A≠some gx->M[n+1+(path.getD hi 0-1)]?=some (hs.getD hi 0)->Mod (PZ ga gm gc base) w0 w->path.getD (ZL (Zo bd L) (bd s) path f lo hi) 0=p->HRuns ga Q (f+2) w:=by
 intro f
 induction f with
 | zero=>intro lo hi a w A c gx nx hs h hlt;omega
 | succ f ih =>
  intro lo hi a w A c gx nx hs hfu hlt hhi H hph hsl hlo hhi' hway hheads hln hnx ho hb hgx hA hM D hT;obtain⟨mid,hmid⟩:∃ mid,mid=(lo+hi) / 2:=⟨_,rfl⟩;have hm1:lo<=mid:=by omega
  have hm2:mid<hi:=by omega
  obtain⟨b1,rfl,hb1,hb1'⟩:=ho.some0 (by rw[Zr];omega);have mem:∀ k,k<path.length->path.getD k 0∈path:=fun k hk=>by rw[List.getD_eq_getElem?_getD,List.getElem?_eq_getElem hk];exact List.getElem_mem hk
  obtain⟨i,hi_⟩:∃ i,path.getD mid 0=i:=⟨_,rfl⟩;have hi1:=hp1 _ (mem mid (by omega));have hh1:=hp1 _ (mem hi hhi);rw[hi_] at hi1;obtain⟨x,q1,q2,q3⟩:=hL.hd i hi1.1 hi1.2;have qx:=q3.rng (hL.llt i);have hbel:=XY (bd:=bd) (key:=bd s) q3;have hgo:∀ (k:Nat) (o:OwL),P.ows[k]?=some o->bl o.A≠some gx:=fun k o hk e=>by have:=hob k o hk _ e;omega
  have hstep:=Yy (Zo bd L) (bd s) path f lo hi hlt;rw[<-hmid,hi_] at hstep;rw[hstep] at hT;have cmid:∀ W,OwI W base (some ⟨b1,0,none⟩) c (Zq path)->∀ k,k<path.length->W.cell? ⟨b1,0+k,none⟩=some (.int .i64 ((path.getD k 0:Nat):Int)):=fun W o k hk=>o.rd (Xl hk)
  have chd:∀ W (zs:List Int),zs.length=nx->Blk W gx 3 (List.toArray (ZJ zs))->∀ k,k<path.length->W.cell? ⟨gx,0+k,none⟩=some (.int .i64 (zs.getD k 0)):=fun W zs hz bz k hk=>by
   rw[Nat.zero_add];refine(bz.cell k).trans (ZV ?_);rw[List.getD_eq_getElem?_getD,List.getElem?_eq_getElem (by omega)]
   rfl
  cases hfit:Zv (Zo bd L) i (bd s) with
  | false =>
   by_cases hE:mid+1=hi
   ·refine UZ H.a hph (fun w' b=>b={ a with low:=(mid:Int)+1,pos:=((path.getD hi 0:Nat):Int),hd:=hs.getD hi 0,ph:=2 }/\HW w' bs gm gc gp gn go gh (n+1) 6 ga M P b/\OwI w' base (some ⟨b1,0,none⟩) c (Zq path)/\Blk w' gx 3 (List.toArray (ZJ hs))/\Mod (PZ ga gm gc base) w0 w') (fun W b h=>h.2.1.a) (fun W X=>?_) (fun w' b h=>?_)
    ·refine Wb bs gm gc gp gn go gh (n+1) 6 ga M P bd a W (H.ext X) hbd (by omega) (by omega) lo hi mid hmid hlt hlo hhi' b1 0 path.length nx gx hs (by rw[hway]) (by rw[hway];exact Zr _) hheads hln hhi (by omega) hp64 (by omega) i (by rw[<-hi_];exact cmid W (ho.ext X) mid (by omega)) (by have:=X.size;omega) (hb.ext X) (by omega) hgo hi1.1 (by omega) x q1 q2 (by omega) s hsl (by omega) (by rw[hbel,hfit];rfl) _ (fun W1 g1 g2 g3=>?_) ?_
     ·refine(Xw bs gm gc gp gn go gh (n+1) 6 ga M P { a with low:=(mid:Int)+1 } W1 g1 hi (by show (mid:Int)+1=_;omega) hhi' b1 0 gx 0 path.length nx (by show a.way.A=_;rw[hway]) (by show a.heads.A=_;rw[hheads]) (by show a.way.xs.length=_;rw[hway];exact Zr _) (by show a.heads.xs.length=_;rw[hheads];exact hln) _ _ (cmid W1 ((H.ext X).way (ho.ext X) hgc hA g3) hi (by omega)) (chd W1 hs hln g2 hi (by omega)) (by omega) (by omega) hp64 (by omega)).mono fun e w' g=>?_
      obtain⟨g4,g5,g6⟩:=g;have o1:=(H.ext X).way (ho.ext X) hgc hA g3;exact⟨g4,_,rfl,g5,o1.mod g6 (fun q hq e=>o1.ne g1.a (by decide) q hq e),g2.mod g6 (fun e=>Blk.ne g2 g1.a (by decide) e),((D.tr (Mod.of_ext X)).tr (g3.mono fun _ _ e=>e.pz hgx)).tr (g6.mono fun _ _ e=>.inl (.inl e))⟩
     ·exact fun W1 W2 g x2=>by
       obtain⟨b,e,g1,g2,g3,g4⟩:=g;exact⟨b,e,g1.ext x2,g2.ext x2,g3.ext x2,g4.tr (Mod.of_ext x2)⟩
    ·obtain⟨rfl,g1,g2,g3,g4⟩:=h
     rw[if_neg (by simp)];rw[hfit,if_neg (by simp),hE,Xz] at hT;subst hT;exact(Wd bs gm gc gp gn go gh ga n base P hP hn F w0 w' M _ L s (path.getD hi 0) (hs.getD hi 0) g1 rfl rfl hh1.1 hh1.2 hM rfl hsl (by omega) hL hf g4 Q hQ).more (by omega)
   ·refine UZ H.a hph (fun w' b=>b={ a with low:=(mid:Int)+1 }/\HW w' bs gm gc gp gn go gh (n+1) 6 ga M P b/\OwI w' base (some ⟨b1,0,none⟩) c (Zq path)/\Blk w' gx 3 (List.toArray (ZJ hs))/\Mod (PZ ga gm gc base) w0 w') (fun W b h=>h.2.1.a) (fun W X=>?_) (fun w' b h=>?_)
    ·refine Wb bs gm gc gp gn go gh (n+1) 6 ga M P bd a W (H.ext X) hbd (by omega) (by omega) lo hi mid hmid hlt hlo hhi' b1 0 path.length nx gx hs (by rw[hway]) (by rw[hway];exact Zr _) hheads hln hhi (by omega) hp64 (by omega) i (by rw[<-hi_];exact cmid W (ho.ext X) mid (by omega)) (by have:=X.size;omega) (hb.ext X) (by omega) hgo hi1.1 (by omega) x q1 q2 (by omega) s hsl (by omega) (by rw[hbel,hfit];rfl) _ (fun W1 g1 g2 g3=>?_) ?_
     ·refine(YS bs gm gc gp gn go gh (n+1) 6 ga M P { a with low:=(mid:Int)+1 } W1 g1 (by show (mid:Int)+1≠a.high;omega)).mono fun e w' g=>?_
      obtain⟨g4,g5⟩:=g;exact⟨g4,_,rfl,g1.ext g5,((H.ext X).way (ho.ext X) hgc hA g3).ext g5,g2.ext g5,((D.tr (Mod.of_ext X)).tr (g3.mono fun _ _ e=>e.pz hgx)).tr (Mod.of_ext g5)⟩
     ·exact fun W1 W2 g x2=>by
       obtain⟨b,e,g1,g2,g3,g4⟩:=g;exact⟨b,e,g1.ext x2,g2.ext x2,g3.ext x2,g4.tr (Mod.of_ext x2)⟩
    ·obtain⟨rfl,g1,g2,g3,g4⟩:=h
     rw[if_neg (by show ¬a.ph=15;omega)];rw[hfit,if_neg (by simp)] at hT;exact ih (mid+1) hi _ w' _ c gx nx hs (by omega) (by omega) hhi g1 hph hsl (by show (mid:Int)+1=_;omega) hhi' hway hheads hln hnx g2 g3 hgx hA hM g4 hT
  | true =>
   by_cases hE:lo=mid
   ·refine UZ H.a hph (fun w' b=>b={ a with high:=(mid:Int),heads:=⟨some ⟨gx,0,none⟩,nx,hs.set mid x⟩,pos:=((path.getD mid 0:Nat):Int),hd:=(hs.set mid x).getD mid 0,ph:=2 }/\HW w' bs gm gc gp gn go gh (n+1) 6 ga M P b/\OwI w' base (some ⟨b1,0,none⟩) c (Zq path)/\Blk w' gx 3 (List.toArray (ZJ (hs.set mid x)))/\Mod (PZ ga gm gc base) w0 w') (fun W b h=>h.2.1.a) (fun W X=>?_) (fun w' b h=>?_)
    ·refine Xx bs gm gc gp gn go gh (n+1) 6 ga M P bd a W (H.ext X) hbd (by omega) (by omega) lo hi mid hmid hlt hlo hhi' b1 0 path.length nx gx hs (by rw[hway]) (by rw[hway];exact Zr _) hheads hln hhi (by omega) hp64 (by omega) i (by rw[<-hi_];exact cmid W (ho.ext X) mid (by omega)) (by have:=X.size;omega) (hb.ext X) (by omega) hgo hi1.1 (by omega) x q1 q2 (by omega) s hsl (by omega) (by rw[hbel,hfit];rfl) _ (fun W1 g1 g2 g3=>?_) ?_
     ·refine(Xw bs gm gc gp gn go gh (n+1) 6 ga M P { a with high:=(mid:Int),heads:=⟨some ⟨gx,0,none⟩,nx,hs.set mid x⟩ } W1 g1 mid (by show a.low=_;omega) rfl b1 0 gx 0 path.length nx (by show a.way.A=_;rw[hway]) rfl (by show a.way.xs.length=_;rw[hway];exact Zr _) (by rw[List.length_set];exact hln) _ _ (cmid W1 ((H.ext X).way (ho.ext X) hgc hA g3) mid (by omega)) (chd W1 (hs.set mid x) (by rw[List.length_set];exact hln) g2 mid (by omega)) (by omega) (by omega) hp64 (by omega)).mono fun e w' g=>?_
      obtain⟨g4,g5,g6⟩:=g;have o1:=(H.ext X).way (ho.ext X) hgc hA g3;exact⟨g4,_,rfl,g5,o1.mod g6 (fun q hq e=>o1.ne g1.a (by decide) q hq e),g2.mod g6 (fun e=>Blk.ne g2 g1.a (by decide) e),((D.tr (Mod.of_ext X)).tr (g3.mono fun _ _ e=>e.pz hgx)).tr (g6.mono fun _ _ e=>.inl (.inl e))⟩
     ·exact fun W1 W2 g x2=>by
       obtain⟨b,e,g1,g2,g3,g4⟩:=g;exact⟨b,e,g1.ext x2,g2.ext x2,g3.ext x2,g4.tr (Mod.of_ext x2)⟩
    ·obtain⟨rfl,g1,g2,g3,g4⟩:=h
     rw[if_neg (by simp)];rw[hfit,if_pos rfl,hE,Xz] at hT;subst hT;exact(Wd bs gm gc gp gn go gh ga n base P hP hn F w0 w' M _ L s (path.getD mid 0) x g1 rfl rfl (by rw[hi_];exact hi1.1) (by rw[hi_];exact hi1.2) (by rw[hi_];exact q1) (by show (hs.set mid x).getD mid 0=x;rw[List.getD_eq_getElem?_getD,List.getElem?_set_self (by omega)];rfl) hsl (by omega) hL hf g4 Q hQ).more (by omega)
   ·refine UZ H.a hph (fun w' b=>b={ a with high:=(mid:Int),heads:=⟨some ⟨gx,0,none⟩,nx,hs.set mid x⟩ }/\HW w' bs gm gc gp gn go gh (n+1) 6 ga M P b/\OwI w' base (some ⟨b1,0,none⟩) c (Zq path)/\Blk w' gx 3 (List.toArray (ZJ (hs.set mid x)))/\Mod (PZ ga gm gc base) w0 w') (fun W b h=>h.2.1.a) (fun W X=>?_) (fun w' b h=>?_)
    ·refine Xx bs gm gc gp gn go gh (n+1) 6 ga M P bd a W (H.ext X) hbd (by omega) (by omega) lo hi mid hmid hlt hlo hhi' b1 0 path.length nx gx hs (by rw[hway]) (by rw[hway];exact Zr _) hheads hln hhi (by omega) hp64 (by omega) i (by rw[<-hi_];exact cmid W (ho.ext X) mid (by omega)) (by have:=X.size;omega) (hb.ext X) (by omega) hgo hi1.1 (by omega) x q1 q2 (by omega) s hsl (by omega) (by rw[hbel,hfit];rfl) _ (fun W1 g1 g2 g3=>?_) ?_
     ·refine(YS bs gm gc gp gn go gh (n+1) 6 ga M P { a with high:=(mid:Int),heads:=⟨some ⟨gx,0,none⟩,nx,hs.set mid x⟩ } W1 g1 (by show a.low≠(mid:Int);omega)).mono fun e w' g=>?_
      obtain⟨g4,g5⟩:=g;exact⟨g4,_,rfl,g1.ext g5,((H.ext X).way (ho.ext X) hgc hA g3).ext g5,g2.ext g5,((D.tr (Mod.of_ext X)).tr (g3.mono fun _ _ e=>e.pz hgx)).tr (Mod.of_ext g5)⟩
     ·exact fun W1 W2 g x2=>by
       obtain⟨b,e,g1,g2,g3,g4⟩:=g;exact⟨b,e,g1.ext x2,g2.ext x2,g3.ext x2,g4.tr (Mod.of_ext x2)⟩
    ·obtain⟨rfl,g1,g2,g3,g4⟩:=h
     rw[if_neg (by show ¬a.ph=15;omega)];rw[hfit,if_pos rfl] at hT;exact ih lo mid _ w' _ c gx nx (hs.set mid x) (by omega) (by omega) (by omega) g1 hph hsl hlo rfl hway rfl (by rw[List.length_set];exact hln) hnx g2 g3 hgx hA (by rw[hi_,List.getD_eq_getElem?_getD,List.getElem?_set_self (by omega)];exact q1) g4 hT
theorem Uq {leaf:Nat}(h:2<=leaf) : 2<=(Zp leaf).length:=by
 rw[Zp,List.length_reverse,ZI leaf leaf (by omega),List.length_cons];obtain⟨k,rfl⟩:∃ k,leaf=k+1:=⟨leaf-1,by omega⟩;rw[ZI k ((k+1) / 2) (by omega),List.length_cons];omega
theorem VT (bs gm gc gp gn go gh ga n base:Nat)(P:PoolS)(bd:Nat->Int)(hP:P.n=n)(hn:n<=4096)(hbd:PB P bd)(F:List Nat)(w0:World)(M:List Int)(L:List (List Nat))(s:Nat)(hs:s<n)(hL:LayQ M n F L)(hf:∀ j,s∉L.getD j [])(hob:∀ (k:Nat) (o:OwL),P.ows[k]?=some o->∀ b,bl o.A=some b->b<base)(hgc:gc<base)(A:Option Addr)(c:Nat)(qs:List Int)(hq4:qs.length<=4)(Q:World->Prop)
  (hQn:∀ w' a',HW w' bs gm gc gp gn go gh (n+1) 6 ga M P a'->a'.ph=15->a'.fits=false->ZH (Zo bd L) (bd s) 32 qs=none->Mod (PZ ga gm gc base) w0 w'->Q w')
  (hQy:∀ w' M' a' leaf,ZH (Zo bd L) (bd s) 32 qs=some leaf->HW w' bs gm gc gp gn go gh (n+1) 6 ga M' P a'->a'.ph=15->a'.fits=true->LayQ M' n F (L.set (Zu (Zo bd L) (bd s) leaf) (s::L.getD (Zu (Zo bd L) (bd s) leaf) []))->Mod (PZ ga gm gc base) w0 w'->Q w') :
  ∀ (r k:Nat) (a:HAct) (w:World),k+r=qs.length->HW w bs gm gc gp gn go gh (n+1) 6 ga M P a->a.ph=0->a.slot=(s:Int)->a.fits=false->a.probe=(k:Int)->a.draws=⟨A,c,qs⟩->OwI w base A c qs->base<=w.heap.size->Mod (PZ ga gm gc base) w0 w->ZH (Zo bd L) (bd s) 32 qs=ZH (Zo bd L) (bd s) 32 (qs.drop k)->HRuns ga Q (r+67) w:=by
 intro r
 induction r with
 | zero =>
  intro k a w hk H hph hsl hft hpr hdr ho hbw D hdp;rw[show 0+67=66+1 from rfl];refine Qm H.a hph (fun w' b=>b={ a with ph:=15 }/\HW w' bs gm gc gp gn go gh (n+1) 6 ga M P b/\Mod (PZ ga gm gc base) w0 w') (fun W b h=>h.2.1.a) (fun W X=>?_) (fun w' b h=>?_)
  ·exact(WM bs gm gc gp gn go gh (n+1) 6 ga M P bd a W (H.ext X) qs.length (by rw[hdr]) (by omega)).mono fun e w' g=>⟨g.1,_,rfl,g.2.1,(D.tr (Mod.of_ext X)).tr (g.2.2.mono fun _ _ e=>.inl e)⟩
  ·obtain⟨rfl,g1,g2⟩:=h
   rw[if_pos rfl];exact hQn w' _ g1 rfl hft (by rw[hdp,List.drop_of_length_le (by omega)];rfl) g2
 | succ r ih =>
  intro k a w hk H hph hsl hft hpr hdr ho hbw D hdp;have hkl:k<qs.length:=by omega
  obtain⟨b1,rfl,hb1,hb1'⟩:=ho.some0 (by omega);obtain⟨d,hd⟩:∃ d,qs[k]?=some d:=⟨_,List.getElem?_eq_getElem hkl⟩;have hdc:qs.drop k=d::qs.drop (k+1):=by rw[List.drop_eq_getElem_cons hkl];congr 1;exact(List.getElem?_eq_some_iff.1 hd).2
  have hmd:=YI (x:=d) (n:=((32:Nat):Int)) (by omega);obtain⟨i,hi⟩:∃ i,i=32+(ZP d ((32:Nat):Int)).toNat:=⟨_,rfl⟩;have hi2:(i:Int)=((2^5:Nat):Int)+ZP d ((2^5:Nat):Int):=by
   rw[show (2^5:Nat)=32 from rfl];omega
  rw[hdc,Z5,<-hi] at hdp;obtain⟨x,q1,q2,q3⟩:=hL.hd i (by omega) (by omega);have qx:=q3.rng (hL.llt i);have hbel:=XY (bd:=bd) (key:=bd s) q3;have hne:b1≠gm/\b1≠gc:=by
   obtain⟨⟨st,k,c',o,n,d,m1⟩,m2⟩:=H.m;exact⟨fun e=>ho.ne m1 (by decide) b1 rfl e,by omega⟩
  cases hfit:Zv (Zo bd L) i (bd s) with
  | false =>
   rw[hfit,if_neg (by simp)] at hdp;rw[show r+1+67=(r+67)+1 by omega];refine Qm H.a hph (fun w' b=>b={ a with probe:=(k:Int)+1 }/\HW w' bs gm gc gp gn go gh (n+1) 6 ga M P b/\OwI w' base (some ⟨b1,0,none⟩) c qs/\base<=w'.heap.size/\Mod (PZ ga gm gc base) w0 w') (fun W b h=>h.2.1.a) (fun W X=>?_) (fun w' b h=>?_)
   ·refine(WN bs gm gc gp gn go gh (n+1) 6 ga M P bd a W (H.ext X) hbd (by omega) (by omega) 5 rfl (by omega) qs.length k (by rw[hdr]) hq4 hpr hkl b1 0 (by rw[hdr]) d ((ho.ext X).rd hd) (by have:=X.size;omega) hne i hi2 x q1 q2 (by omega) s hsl (by omega) (by rw[hbel,hfit];rfl)).mono fun e w' g=>?_
    obtain⟨g1,g2,g3⟩:=g;exact⟨g1,_,rfl,g2,(H.ext X).way (gx:=base+b1+1) (ho.ext X) hgc (fun e=>by simp[bl] at e;omega) (g3.mono fun _ _ e=>.inl e),by have:=X.size;have:=g3.size;omega,(D.tr (Mod.of_ext X)).tr (g3.mono fun _ _ e=>.inl e)⟩
   ·obtain⟨rfl,g1,g2,g3,g4⟩:=h
    rw[if_neg (by show ¬a.ph=15;omega)];exact ih (k+1) _ w' (by omega) g1 hph hsl hft (by show (k:Int)+1=_;omega) hdr g2 g3 g4 hdp
  | true =>
   rw[hfit,if_pos rfl] at hdp;have w2:=Uq (leaf:=i) (by omega);have wle:=Vq i;rw[show r+1+67=(r+67)+1 by omega];refine Qm H.a hph (fun w' b=>∃ (A':Option Addr) (c' gx nx:Nat),nx=(Zp i).length/\b={ a with way:=⟨A',c',Zq (Zp i)⟩,heads:=⟨some ⟨gx,0,none⟩,nx,(List.replicate nx 0).set (nx-1) x⟩,low:=0,high:=((nx-1:Nat):Int),ph:=1 }/\HW w' bs gm gc gp gn go gh (n+1) 6 ga M P b/\OwI w' base A' c' (Zq (Zp i))/\Blk w' gx 3 (List.toArray (ZJ ((List.replicate nx 0).set (nx-1) x)))/\base<=gx/\bl A'≠some gx/\Mod (PZ ga gm gc base) w0 w') (fun W b h=>by obtain⟨_,_,_,_,_,_,h,_⟩:=h;exact h.a) (fun W X=>?_) (fun w' b h=>?_)
   ·refine WO bs gm gc gp gn go gh (n+1) 6 ga M P bd a W (H.ext X) hbd (by omega) (by omega) 5 rfl (by omega) qs.length k (by rw[hdr]) hq4 hpr hkl b1 0 (by rw[hdr]) d ((ho.ext X).rd hd) (by have:=X.size;omega) hne i hi2 x q1 q2 (by omega) s hsl (by omega) (by rw[hbel,hfit];rfl) _ (fun W1 A' c' gx nx g1 g2 g3 g4 g5 g6 g7=>?_)
    have hz:=X.size;refine(YS bs gm gc gp gn go gh (n+1) 6 ga M P _ W1 g2 (by show (0:Int)≠((nx-1:Nat):Int);omega)).mono fun e w' g=>?_
    obtain⟨h1,h2⟩:=g;exact⟨h1,_,A',c',gx,nx,g1,rfl,g2.ext h2,(g3.more (by omega)).ext h2,g4.ext h2,by omega,g6,((D.tr (Mod.of_ext X)).tr (g7.mono fun _ _ e=>e.imp id (fun e=>by omega))).tr (Mod.of_ext h2)⟩
   ·obtain⟨A',c',gx,nx,hnx,rfl,g1,g2,g3,g4,g5,g6⟩:=h
    rw[if_neg (by simp)];subst hnx;have hgx:((List.replicate (Zp i).length (0:Int)).set ((Zp i).length-1) x).getD ((Zp i).length-1) 0=x:=by
     rw[List.getD_eq_getElem?_getD,List.getElem?_set_self (by rw[List.length_replicate];omega)];rfl
    exact(VS bs gm gc gp gn go gh ga n base P bd hP hn hbd F w0 M L s hs hL hf (Zp i) (fun j hj=>by have:=Xh hj;omega) (by omega) hob hgc (Zu (Zo bd L) (bd s) i) Q (fun w' M' a' k1 k2 k3 k4 k5=>hQy w' M' a' i hdp k1 k2 k3 k4 k5)
     (Zp i).length 0 ((Zp i).length-1) _ w' A' c' gx (Zp i).length _ (by omega) (by omega) (by omega) g1 rfl hsl rfl rfl rfl rfl (by rw[List.length_set,List.length_replicate]) rfl g2 g3 g4 g5 (by rw[YY (by omega),hgx];exact q1) g6 rfl).more (by omega)
def PRuns (ga:Nat)(Q:World->Prop) : Nat->World->Prop
 | 0,_=>False
 | f+1,w=>∀ W,Ext w W->Calls Try.prog 34 #[.pointer (some ⟨ga,0,none⟩)] W fun e w'=>(e=.returned (.bool true)/\Q w')\/(e=.returned (.bool false)/\PRuns ga Q f w')
theorem PRuns.ext {ga:Nat}{Q:World->Prop}{f:Nat}{w w':World}(h:PRuns ga Q f w)(x:Ext w w') : PRuns ga Q f w':=by
 cases f with
 | zero=>exact h
 | succ f=>exact fun W X=>h W (x.tr X)
theorem PRuns.more {ga:Nat}{Q:World->Prop} : ∀ {f f':Nat} {w:World},PRuns ga Q f w->f<=f'->PRuns ga Q f' w
 | 0,_,_,h,_=>h.elim
 | f+1,0,_,_,h=>absurd h (by omega)
 | f+1,f'+1,_,h,hf=>fun W X=>(h W X).mono fun e w' he=>he.imp id fun q=>⟨q.1,q.2.more (by omega)⟩
theorem PRuns.of {ga:Nat}{Q:World->Prop}{f:Nat}{w:World}{R:World->PAct->Prop}(C:∀ W,Ext w W->Calls Try.prog 34 #[.pointer (some ⟨ga,0,none⟩)] W fun e w'=>∃ b,e=.returned (.bool (b.ph==3))/\R w' b)(K:∀ w' b,R w' b->if b.ph=3 then Q w' else PRuns ga Q f w') : PRuns ga Q (f+1) w:=fun W X=>by
 refine(C W X).mono ?_;rintro e w' ⟨b,rfl,hb⟩;have:=K w' b hb
 by_cases h:b.ph=3
 ·rw[if_pos h] at this
  exact .inl ⟨by simp[h],this⟩
 ·rw[if_neg h] at this
  exact .inr ⟨by simp[h],this⟩
theorem U0 {ga gp:Nat}{Q:World->Prop}{f:Nat}{w:World}{a:PAct}(A:ZO w ga gp a)(h:a.ph=0)(R:World->PAct->Prop)(hR:∀ W b,R W b->ZO W ga gp b)(C:∀ W,Ext w W->Calls Try.prog 48 #[.pointer (some ⟨ga,0,none⟩)] W fun e w'=>e=.returned (.tuple #[])/\∃ b,R w' b)(K:∀ w' b,R w' b->if b.ph=3 then Q w' else PRuns ga Q f w') : PRuns ga Q (f+1) w :=
 PRuns.of (fun W X=>Ww ga gp a W (Blk.ext A X) h R hR (C W X)) K
theorem QF {ga gp:Nat}{Q:World->Prop}{f:Nat}{w:World}{a:PAct}(A:ZO w ga gp a)(h:a.ph=1)(R:World->PAct->Prop)(hR:∀ W b,R W b->ZO W ga gp b)(C:∀ W,Ext w W->Calls Try.prog 49 #[.pointer (some ⟨ga,0,none⟩)] W fun e w'=>e=.returned (.tuple #[])/\∃ b,R w' b)(K:∀ w' b,R w' b->if b.ph=3 then Q w' else PRuns ga Q f w') : PRuns ga Q (f+1) w :=
 PRuns.of (fun W X=>Wj ga gp a W (Blk.ext A X) h R hR (C W X)) K
theorem QG {ga gp:Nat}{Q:World->Prop}{f:Nat}{w:World}{a:PAct}(A:ZO w ga gp a)(h:a.ph=2)(R:World->PAct->Prop)(hR:∀ W b,R W b->ZO W ga gp b)(C:∀ W,Ext w W->Calls Try.prog 50 #[.pointer (some ⟨ga,0,none⟩)] W fun e w'=>e=.returned (.tuple #[])/\∃ b,R w' b)(K:∀ w' b,R w' b->if b.ph=3 then Q w' else PRuns ga Q f w') : PRuns ga Q (f+1) w :=
 PRuns.of (fun W X=>Wx ga gp a W (Blk.ext A X) h R hR (C W X)) K
theorem XC (ga f:Nat)(hf:f<=100)(Q:World->Prop)(XQ:∀ w w',Q w->Ext w w'->Q w')(w:World)(h:PRuns ga Q f w) :
  Calls Try.prog 12 #[.pointer (some ⟨ga,0,none⟩)] w fun e w'=>e=.returned (.tuple #[])/\Q w':=by
 replace XQ:=Hd XQ;replace h:=Hd h;go_enter Try.func12,Try.ntmps12;go_wp2_with (fail);go_loopw [2] (fun i wr=>∃ k g:Nat,i=.int .i64 k/\k+g<=100/\Hid (PRuns ga Q g wr)) (fun i _=>100-(intOf i).toNat)
 case atStart=>exact⟨0,f,rfl,by omega,h⟩
 case round =>
  clear h hf;obtain⟨k,g,rfl,hk,hR⟩:=hrel
  cases g with
  | zero=>exact hR.out.elim
  | succ g =>
   have e1:(k:Int)<100:=by omega
   go_wp2_with (go_quiet (fail));refine(hR.out _ XI).mono ?_;rintro e w1 (⟨rfl,r1⟩ | ⟨rfl,r1⟩)
   ·replace r1:=Hd r1
    clear hR;go_wp2_with (go_quiet (fail));go_end0;exact⟨rfl,XQ.out _ _ r1.out XI⟩
   ·replace r1:=Hd r1
    clear hR;go_wp2_with (go_quiet (fail));go_roundw
    case rel=>exact⟨k+1,g,by go_num,by omega,Hd (r1.out.ext XI)⟩
    case measure=>simp[intOf];omega
abbrev TP : List TypeId:=[62,3,22,77]
theorem PW.modT {w w':World}{base gm gc gp gn go ga:Nat}{M:List Int}{P:PoolS}{a:PAct}{o:OwL}{k:Nat}(h:PW w base gm gc gp gn go ga M P a)(ho:P.ows[k]?=some o)(hm:Mod (PF ga gm gc go o) w w')(hb:base<=gm/\base<=gc/\base<=go/\base<=ga) : ModT base TP w w':=by
 obtain⟨⟨st,kk,c,o',n,d,m1⟩,m2⟩:=h.m;refine Mod.mono hm fun i hi hs=>?_
 rcases hs with(e | e | e) | (e | e | e)
 all_goals first
  | (subst e;exact⟨hb.2.2.2,_,_,h.a,by decide⟩)
  | (subst e;exact⟨hb.2.2.1,_,_,h.p.ow,by decide⟩)
  | (subst e;exact⟨hb.1,_,_,m1,by decide⟩)
  | (subst e;exact⟨hb.2.1,_,_,m2,by decide⟩)
  | (have:=(h.p.oi k o ho).1
     rcases this.cases with⟨q,_⟩ | ⟨g,cur,q,q1,q2,_⟩
     ·rw[q] at e;cases e
     ·rw[q] at e
      have e2:g=i:=by simpa [bl] using e
      subst e2;exact⟨q1,cur,_,q2,by decide⟩)
theorem WQ (l m:List Nat) : Zq (l++m)=Zq l++Zq m:=by simp[Zq]
theorem VU (base gm gc gp gn go ga n:Nat)(nv:List Value)(hn:n<=4096)(L:List (List Nat))(hb:base<=gm/\base<=gc/\base<=go/\base<=ga)(M:List Int)(o:OwL)(a:PAct)(w:World)(F O:List Nat)(H:PW w base gm gc gp gn go ga M ⟨0,n,nv,[o]⟩ a)(hph:a.ph=0)(hg:a.give=false)(hwk:a.wk=0)(hL:LayQ M n F L)(hO:o.xs=Zq O)(hlen:O.length<=1000)(hne:F++O≠[])(Q:World->Prop)
  (hQ:∀ w' M' o' a' (s:Nat) F' O',PW w' base gm gc gp gn go ga M' ⟨0,n,nv,[o']⟩ a'->a'.ph=3->a'.slot=(s:Int)->o'.xs=Zq O'->LayQ M' n F' L->(s::(F'++O')).Perm (F++O)->ModT base TP w w'->Q w'):PRuns ga Q 3 w:=by
 obtain⟨wk,give,slot,ph,top,nx⟩:=a;simp only at hph hg hwk;subst hph hg hwk;have hol:o.xs.length<=1000:=by rw[hO,Zr];exact hlen
 have ho:(⟨0,n,nv,[o]⟩:PoolS).ows[0]?=some o:=rfl;rcases List.eq_nil_or_concat O with rfl | ⟨O',s,rfl⟩
 ·rw[List.append_nil] at hne
  have h0:o.xs=[]:=hO;obtain⟨s,F',rfl⟩:∃ s F',F=s::F':=by cases F with | nil=>exact absurd rfl hne | cons s F'=>exact⟨s,F',rfl⟩
  obtain⟨x,q1,q2,q3⟩:=hL.top;obtain⟨e1,y,hy,q4⟩:=id q3;have hs:s<n:=hL.flt s (by simp);refine U0 H.a rfl (fun w' b=>b=⟨0,false,slot,1,x,nx⟩/\PW w' base gm gc gp gn go ga M ⟨0,n,nv,[o]⟩ b/\ModT base TP w w') (fun W b h=>h.2.1.a) (fun W X=>(Vx base gm gc gp gn go ga M ⟨0,n,nv,[o]⟩ _ o W (H.ext X) ho (by simp) (by simp) hol (.inr ⟨rfl,h0⟩) x q1 q2 rfl (by omega)).mono fun e w' g=>⟨g.1,_,rfl,g.2.1,(ModT.of_ext X).tr ((H.ext X).modT ho (PF.pt g.2.2) hb)⟩) (fun w1 b h=>?_);obtain⟨rfl,H1,D1⟩:=h;rw[if_neg (by simp)];refine QF H1.a rfl (fun w' b=>b=⟨0,false,slot,2,x,y⟩/\PW w' base gm gc gp gn go ga M ⟨0,n,nv,[o]⟩ b/\ModT base TP w w') (fun W b h=>h.2.1.a) (fun W X=>(Wv base gm gc gp gn go ga M ⟨0,n,nv,[o]⟩ _ W (H1.ext X) (by simp) rfl q2 s e1 (by omega) y (by simpa using hy)).mono fun e w' g=>⟨g.1,_,rfl,g.2.1,(D1.tr (ModT.of_ext X)).tr ((H1.ext X).modT ho (PF.pt g.2.2) hb)⟩) (fun w2 b h=>?_);obtain⟨rfl,H2,D2⟩:=h;rw[if_neg (by simp)];refine QG H2.a rfl (fun w' b=>b=⟨0,false,pla x,3,x,y⟩/\PW w' base gm gc gp gn go ga (M.set 0 (upP x y)) ⟨0,n,nv,[o]⟩ b/\ModT base TP w w') (fun W b h=>h.2.1.a) (fun W X=>(WZ base gm gc gp gn go ga M ⟨0,n,nv,[o]⟩ _ W (H2.ext X) (by simp) rfl q2 x q1 rfl).mono fun e w' g=>⟨g.1,_,rfl,g.2.1,(D2.tr (ModT.of_ext X)).tr ((H2.ext X).modT ho (PF.pt g.2.2) hb)⟩) (fun w3 b h=>?_);obtain⟨rfl,H3,D3⟩:=h;rw[if_pos rfl];exact hQ w3 _ o _ s F' [] H3 rfl e1 hO (hL.take hn q1 (by simpa using hy)) (List.Perm.refl _) D3
 ·rw[List.concat_eq_append] at *
  rw[WQ] at hO;refine U0 H.a rfl (fun w' b=>b=⟨0,false,(s:Int),3,top,nx⟩/\PW w' base gm gc gp gn go ga M ⟨0,n,nv,[⟨o.A,o.c,Zq O'⟩]⟩ b/\ModT base TP w w') (fun W b h=>h.2.1.a) (fun W X=>(W0 base gm gc gp gn go ga M ⟨0,n,nv,[o]⟩ _ o W (H.ext X) ho (by simp) rfl (Zq O') (s:Int) hO hol).mono fun e w' g=>⟨g.1,_,rfl,g.2.1,(ModT.of_ext X).tr ((H.ext X).modT ho g.2.2 hb)⟩) (fun w1 b h=>?_);obtain⟨rfl,H1,D1⟩:=h;rw[if_pos rfl];exact hQ w1 M _ _ s F O' H1 rfl rfl rfl hL (by rw[<-List.append_assoc];exact(List.perm_append_comm (l₁:=[s]))) D1
theorem VV (base gm gc gp gn go ga n:Nat)(nv:List Value)(hn:n<=4096)(L:List (List Nat))(M:List Int)(o:OwL)(a:PAct)(w:World)(hb:base<=gm/\base<=gc/\base<=go/\base<=ga)(hbw:base<=w.heap.size)(F O:List Nat)(s:Nat)(H:PW w base gm gc gp gn go ga M ⟨0,n,nv,[o]⟩ a)(hph:a.ph=0)(hg:a.give=true)(hwk:a.wk=0)(hsl:a.slot=(s:Int))(hs:s<n)(hF:s∉F)(hL:LayQ M n F L)(hO:o.xs=Zq O)(hlen:O.length<=1000)(Q:World->Prop)
  (hQ:∀ w' M' o' a' F' O',PW w' base gm gc gp gn go ga M' ⟨0,n,nv,[o']⟩ a'->a'.ph=3->o'.xs=Zq O'->LayQ M' n F' L->(F'++O').Perm (s::(F++O))->ModT base TP w w'->Q w'):PRuns ga Q 3 w:=by
 obtain⟨wk,give,slot,ph,top,nx⟩:=a;simp only at hph hg hwk hsl;subst hph hg hwk hsl;have hol:o.xs.length<=1000:=by rw[hO,Zr];exact hlen
 have ho:(⟨0,n,nv,[o]⟩:PoolS).ows[0]?=some o:=rfl;have ln:=hL.len
 by_cases h2:2<=o.xs.length
 ·obtain⟨x,q1,q2,q3⟩:=hL.top
  have qx:=q3.rng hL.flt;refine U0 H.a rfl (fun w' b=>b=⟨0,true,(s:Int),1,x,nx⟩/\PW w' base gm gc gp gn go ga M ⟨0,n,nv,[o]⟩ b/\ModT base TP w w') (fun W b h=>h.2.1.a) (fun W X=>(W5 base gm gc gp gn go ga M ⟨0,n,nv,[o]⟩ _ o W (H.ext X) ho (by simp) (by simp) hol (.inl ⟨rfl,h2⟩) x q1 q2 rfl).mono fun e w' g=>⟨g.1,_,rfl,g.2.1,(ModT.of_ext X).tr ((H.ext X).modT ho (PF.pt g.2.2) hb)⟩) (fun w1 b h=>?_);obtain⟨rfl,H1,D1⟩:=h;rw[if_neg (by simp)];refine QF H1.a rfl (fun w' b=>b=⟨0,true,(s:Int),2,x,nx⟩/\PW w' base gm gc gp gn go ga (M.set (0+1+s) (pla x)) ⟨0,n,nv,[o]⟩ b/\ModT base TP w w') (fun W b h=>h.2.1.a) (fun W X=>(Wu base gm gc gp gn go ga M ⟨0,n,nv,[o]⟩ _ W (H1.ext X) (by simp) rfl q2 s rfl (by omega) (by show 0+1+s<_;omega)).mono fun e w' g=>⟨g.1,_,rfl,g.2.1,(D1.tr (ModT.of_ext X)).tr ((H1.ext X).modT ho (PF.pt g.2.2) hb)⟩) (fun w2 b h=>?_);obtain⟨rfl,H2,D2⟩:=h;rw[if_neg (by simp)];refine QG H2.a rfl (fun w' b=>b=⟨0,true,(s:Int),3,x,nx⟩/\PW w' base gm gc gp gn go ga ((M.set (0+1+s) (pla x)).set 0 (upP x (s:Int))) ⟨0,n,nv,[o]⟩ b/\ModT base TP w w') (fun W b h=>h.2.1.a) (fun W X=>(WY base gm gc gp gn go ga _ ⟨0,n,nv,[o]⟩ _ W (H2.ext X) (by simp) rfl q2 x (by show (M.set (0+1+s) (pla x))[0]?=some x;rw[List.getElem?_set_ne (by omega)];exact q1) rfl).mono fun e w' g=>⟨g.1,_,rfl,g.2.1,(D2.tr (ModT.of_ext X)).tr ((H2.ext X).modT ho (PF.pt g.2.2) hb)⟩) (fun w3 b h=>?_);obtain⟨rfl,H3,D3⟩:=h;rw[if_pos rfl];exact hQ w3 _ o _ (s::F) O H3 rfl hO (hL.give hn hs hF q1) (List.Perm.refl _) D3
 ·refine U0 H.a rfl (fun w' b=>b=⟨0,true,(s:Int),3,top,nx⟩/\(∃ A' c',PW w' base gm gc gp gn go ga M ⟨0,n,nv,[⟨A',c',o.xs++[(s:Int)]⟩]⟩ b)/\ModT base TP w w') (fun W b h=>by obtain⟨_,⟨_,_,h⟩,_⟩:=h;exact h.a) (fun W X=>(W3 base gm gc gp gn go ga M ⟨0,n,nv,[o]⟩ _ o W (H.ext X) ho (by simp) rfl (by have:=X.size;omega) (by omega)).mono fun e w' g=>?_) (fun w1 b h=>?_)
  ·obtain⟨g1,⟨A',c',g2,_⟩,g3⟩:=g
   exact⟨g1,_,rfl,⟨A',c',g2⟩,(ModT.of_ext X).tr ((H.ext X).modT ho g3 hb)⟩
  ·obtain⟨rfl,⟨A',c',H1⟩,D1⟩:=h
   rw[if_pos rfl];exact hQ w1 M _ _ F (O++[s]) H1 rfl (by rw[WQ,<-hO];rfl) hL (by rw[<-List.append_assoc];exact(List.perm_append_comm (l₁:=F++O) (l₂:=[s]))) D1
def Und (w:World)(g top:Nat) : Prop:=∀ hh n c,w.cell? ⟨g,0,none⟩=some (.slice (some ⟨hh,0,none⟩) n c)->∀ cs,Blk w hh 88 cs->∀ (i b off m d:Nat),cs[i]?=some (.slice (some ⟨b,off,none⟩) m d)->m≠0->b<top
theorem Und.of {w:World}{base g:Nat}{ls:Ls}{sz:Int}(H:MoundRep w base g ls sz) : Und w g w.heap.size:=by
 obtain⟨h,hb,_,_,hH⟩:=H;intro hh n c hc cs hcs i b off m d hi hm;have c0:=hb.cell 0;rw[hc] at c0;simp at c0;obtain⟨rfl,_,_⟩:=c0;obtain⟨cs',hb',hs,hcc⟩:=hH;obtain rfl:=Blk.same hcs hb';have hlt:i<ls.length:=by have:=(Array.getElem?_eq_some_iff.1 hi).1;omega
 obtain⟨A,c',h1,h2,h3⟩:=hcc i _ (List.getElem?_eq_getElem hlt);rw[hi] at h1;simp at h1;obtain⟨rfl,h4,rfl⟩:=h1;refine h2.lt ?_ b rfl;intro h5;have:=Wz ls[i];rw[h5] at this;simp at this;omega
theorem Und.ext {w w':World}{base g top:Nat}{ls:Ls}{sz:Int}(U:Und w g top)(H:MoundRep w base g ls sz)(hx:Ext w w') : Und w' g top:=by
 obtain⟨h,hb,_,_,hH⟩:=H;intro hh n c hc cs hcs i b off m d hi hm;have c0:=(hb.ext hx).cell 0;rw[hc] at c0;simp at c0;obtain⟨rfl,rfl,rfl⟩:=c0;obtain⟨cs',hb',_,_⟩:=hH;obtain rfl:=Blk.same hcs (hb'.ext hx);exact U hh _ _ (by rw[hb.cell];rfl) _ hb' i b off m d hi hm
theorem Und.swap {w:World}{g hh top n i k:Nat}{v:Value}{cs:Array Value}{VA VB:Value}(U:Und w g top)(hb:Blk w g 72 #[.slice (some ⟨hh,0,none⟩) n n,v])(hcs:Blk w hh 88 cs)(hA:cs[i]?=some VA)(hB:cs[k]?=some VB) :
  Und ((w.setCell ⟨hh,i,none⟩ VB).setCell ⟨hh,k,none⟩ VA) g top:=by
 have hne:g≠hh:=Blk.ne hb hcs (by decide);intro h' n' c' hc cs' hcs' j b off m d hj hm;have c0:=((hb.far (p:=⟨hh,i,none⟩) hne VB).far (p:=⟨hh,k,none⟩) hne VA).cell 0;rw[hc] at c0;simp at c0;obtain⟨rfl,rfl,rfl⟩:=c0;obtain rfl:=Blk.same hcs' ((hcs.set i VB).set k VA);have hu:=U h' _ _ (by rw[hb.cell];rfl) _ hcs;rw[Array.getElem?_setIfInBounds,Array.getElem?_setIfInBounds] at hj;split at hj
 ·split at hj
  ·injection hj with hj
   subst hj;exact hu i b off m d hA hm
  ·cases hj
 ·split at hj
  ·split at hj
   ·injection hj with hj
    subst hj;exact hu k b off m d hB hm
   ·cases hj
  ·exact hu j b off m d hj hm
theorem MoundRep.aside {w:World}{base g top z:Nat}{ls:Ls}{sz:Int}{zs:Array Value}(H:MoundRep w base g ls sz)(U:Und w g top)(hz:top<=z)(hb0:Blk w z 52 zs)(i:Nat)(u:Value) : MoundRep (w.setCell ⟨z,i,none⟩ u) base g ls sz:=by
 obtain⟨h,hb,hbg,hbh,hH⟩:=H;obtain⟨cs,hc,hs,hcc⟩:=hH;have h1:g≠z:=Blk.ne hb hb0 (by decide);have h2:h≠z:=Blk.ne hc hb0 (by decide);have hu:=U h _ _ (by rw[hb.cell];rfl) _ hc;refine⟨h,hb.far h1 u,hbg,hbh,cs,hc.far h2 u,hs,fun j l hl=>?_⟩;obtain⟨A,c,k1,k2,k3⟩:=hcc j l hl;refine⟨A,c,k1,?_,k3⟩
 cases l with
 | nil=>exact .inl rfl
 | cons p l =>
  refine k2.keep fun b hb1=>?_
  rcases k2.form (by simp[ZX]) with⟨b',off,rfl,_,_⟩;simp[bl] at hb1;subst hb1;have:=hu j b' off _ c k1 (by simp);exact Below.heap_setCell w ⟨z,i,none⟩ u b' (by show b'≠z;omega)
def Y0 (ls:Ls)(i:Nat) : Nat:=if Zt ls (2*i+1) (2*i) then 2*i+1 else 2*i
def YZ (ls:Ls)(i k:Nat) : Ls:=(ls.set i (ls.getD k [])).set k (ls.getD i [])
theorem YT (ls:Ls)(i k:Nat) : (YZ ls i k).length=ls.length:=by simp[YZ]
theorem Vh (f:Nat)(ls:Ls)(i:Nat)(h:¬i<ls.length / 2) : Zx f ls i=ls:=by
 cases f with
 | zero=>rfl
 | succ f=>rw[Zx,if_neg h]
theorem XD (f:Nat)(ls:Ls)(i:Nat)(h:i<ls.length / 2)(h2:Zt ls (Y0 ls i) i=false) : Zx (f+1) ls i=ls:=by
 rw[Y0] at h2;rw[Zx,if_pos h,h2];simp
theorem XE (f:Nat)(ls:Ls)(i:Nat)(h:i<ls.length / 2)(h2:Zt ls (Y0 ls i) i=true) : Zx (f+1) ls i=Zx f (YZ ls i (Y0 ls i)) (Y0 ls i):=by
 rw[Zx,if_pos h,<-Y0,h2];simp[YZ]
theorem WR {w:World}{base g hh i k:Nat}{ls:Ls}{sz:Int}{A B:Option Addr}{c d:Nat}{l m:List It}(hb:Blk w g 72 #[.slice (some ⟨hh,0,none⟩) ls.length ls.length,.int .i64 sz])(hbg:base<=g)(hbh:base<=hh)(hH:HeadsAt w 52 88 hh ls)
  (hi:ls.getD i []=l) (hk:ls.getD k []=m) (hr:RdV w 52 A (Yw l)) (hl:l.length<=c) (hs:RdV w 52 B (Yw m)) (hm:m.length<=d) :
  MoundRep ((w.setCell ⟨hh,i,none⟩ (.slice B m.length d)).setCell ⟨hh,k,none⟩ (.slice A l.length c)) base g (YZ ls i k) sz /\
  ModT base [72,88] w ((w.setCell ⟨hh,i,none⟩ (.slice B m.length d)).setCell ⟨hh,k,none⟩ (.slice A l.length c)):=by
 have hH0:=hH;obtain⟨cs,hb2,_,_⟩:=hH0;have hne:¬g=hh:=Blk.ne hb hb2 (by decide);have k1:ModT base [72,88] w (w.setCell ⟨hh,i,none⟩ (.slice B m.length d)):=ModT.set w hb2 (by simp) hbh i _;have k1':ModT base [88] w (w.setCell ⟨hh,i,none⟩ (.slice B m.length d)):=ModT.set w hb2 (by simp) hbh i _;have hH1:=hH.set (by decide) i hs hm;have hH2:=hH1.set (by decide) k (hr.modT k1' (by decide)) hl;refine⟨⟨hh,?_,hbg,hbh,?_⟩,k1.tr (ModT.set _ (hb2.set i _) (by simp) hbh k _)⟩
 ·rw[YT]
  exact(hb.far hne _).far hne _
 ·rw[YZ,hi,hk]
  exact hH2
theorem WS (top g base:Nat)(ls:Ls)(sz:Int)(i0 n:Nat)(w:World)(H:MoundRep w base g ls sz)(hn:ls.length=2*n)(h32:n<=32)(hi1:1<=i0)(hi2:i0<2*n)(U:Und w g top) :
  Calls Try.prog 43 #[.pointer (some ⟨g,0,none⟩),.int .i64 (i0:Int)] w fun e w'=>e=.returned (.tuple #[])/\MoundRep w' base g (Zx (2*n) ls i0) sz/\ModT base [72,88] w w'/\Und w' g top:=by
 go_enter Try.func43,Try.ntmps43;go_wp2_with fail;go_loopw [1] (fun i wr=>∃ (k f:Nat) (ls':Ls),i=.int .i64 k/\1<=k/\k<2*n/\2*n<=f+k/\ls'.length=2*n/\MoundRep wr base g ls' sz/\Hid (Zx (2*n) ls i0=Zx f ls' k)/\ModT base [72,88] w wr/\Und wr g top) (fun i _=>2*n-(intOf i).toNat)
 case atStart=>exact⟨i0,2*n,ls,rfl,hi1,hi2,by omega,hn,H,rfl,ModT.rf _,U⟩
 case round =>
  clear hi1 hi2 hn H U;obtain⟨k,f,ls',rfl,hk1,hk2,hf,hlen,HR,hS,hM,hU⟩:=hrel;replace hU:=Hd hU;have hl64:ls'.length<=64:=by omega
  have hdiv:ls'.length / 2=n:=by omega
  have KL:=Xg g base ls' sz wr HR hl64;rw[hdiv] at KL;replace KL:=Hd KL
  by_cases hlt:k<n
  ·obtain⟨f',rfl⟩:∃ f',f=f'+1:=⟨f-1,by omega⟩
   have L1:=fun W (h:Ext wr W)=>WB g base ls' sz (2*k+1) (2*k) W (HR.ext h) hl64 (by omega) (by omega)
   have L2:=fun W (h:Ext wr W)=>WB g base ls' sz (Y0 ls' k) k W (HR.ext h) hl64 (by rw[Y0];split<;>omega) (by omega)
   have e1:((2*k+1:Nat):Int)=2*(k:Int)+1:=by omega
   have e2:((2*k:Nat):Int)=2*(k:Int):=by omega
   replace hlen:=Hd hlen
   cases hb1:Zt ls' (2*k+1) (2*k) with
   | true =>
    have hkid:Y0 ls' k=2*k+1:=by rw[Y0,hb1];rfl
    rw[hb1] at L1;rw[hkid] at L2;simp only[e1,e2] at L1 L2
    cases hb2:Zt ls' (2*k+1) k with
    | false =>
     have hdone:=XD f' ls' k (by have:=hlen.out;omega) (by rw[hkid];exact hb2);rw[hb2] at L2;replace L1:=Hd L1;replace L2:=Hd L2;go_wp2_with (first
      | (go_at_call 66;refine KL.out.mono ?_;rintro e w' ⟨rfl,rfl⟩)
      | (go_at_call 68;have hx:=x1;refine(L2.out _ hx).mono ?_;rintro e w2 ⟨rfl,x2⟩)
      | (go_at_call 68;refine(L1.out _ (Ext.rf _)).mono ?_;rintro e w1 ⟨rfl,x1⟩))
     exact bodyPost_ret (results_none rfl _ _ _) rfl ⟨rfl,by rw[hS.out,hdone];exact HR.ext (x1.tr x2),hM.ext (x1.tr x2),hU.out.ext HR (x1.tr x2)⟩
    | true =>
     have hstep:=XE f' ls' k (by have:=hlen.out;omega) (by rw[hkid];exact hb2);rw[hkid] at hstep;rw[hb2] at L2;replace hstep:=Hd hstep;replace L1:=Hd L1;replace L2:=Hd L2;replace hkid:=Hd hkid;clear hb1 hb2;have hkk:2*k+1<2*n:=by omega
     obtain⟨l,hl⟩:∃ l,ls'[k]?=some l:=⟨_,List.getElem?_eq_getElem (by have:=hlen.out;omega)⟩;obtain⟨m,hm⟩:∃ m,ls'[2*k+1]?=some m:=⟨_,List.getElem?_eq_getElem (by have:=hlen.out;omega)⟩;have hkl:k<ls'.length:=by have:=hlen.out;omega
     have hkl2:2*k+1<ls'.length:=by have:=hlen.out;omega
     go_wp2_with (first
      | (go_at_call 66;refine KL.out.mono ?_;rintro e w' ⟨rfl,rfl⟩)
      | (go_at_call 68;have hx:=x1;refine(L2.out _ hx).mono ?_;rintro e w2 ⟨rfl,x2⟩)
      | (go_at_call 68;refine(L1.out _ (Ext.rf _)).mono ?_;rintro e w1 ⟨rfl,x1⟩))
     obtain⟨hh,hb,hbg,hbh,hH⟩:=HR.ext (x1.tr x2);obtain⟨A,c,hcA,hfA,hrA,hlA⟩:=hH.at hl;obtain⟨B,d,hcB,hfB,hrB,hlB⟩:=hH.at hm;have c0:=hb.cell 0;simp at c0;have hgh:hh≠g:=by obtain⟨cs,hb2,_⟩:=hH;exact fun h=>Blk.ne hb hb2 (by decide) h.symm
     have XM:=hM.ext (x1.tr x2);replace hl:=Hd hl;replace hm:=Hd hm;have HS:=Hd (WR (w:=w2.drew) (i:=k) (k:=2*k+1) hb.drew hbg hbh (hH.ext ((Ext.rf _).drew)) (Z4 hl.out) (Z4 hm.out) (hrA.ext ((Ext.rf _).drew)) hlA (hrB.ext ((Ext.rf _).drew)) hlB);have hH0:=hH;obtain⟨cs0,hb20,hx01,hx02⟩:=hH0;have US:=Hd (Und.swap (i:=k) (hU.out.ext HR ((x1.tr x2).drew)) hb.drew hb20.drew ((hb20.cell k).symm.trans hcA) ((hb20.cell _).symm.trans hcB));clear hx01 hx02 hb20 cs0;replace hb:=Hd hb;replace hH:=Hd hH;replace hrA:=Hd hrA;replace hrB:=Hd hrB;have hk0:k≠2*k+1:=by omega
     generalize hKK:2*k+1=KK at *;have hKe:2*(k:Int)+1=(KK:Int):=by rw[<-hKK];omega
     simp only[hKe];clear e1 e2;replace hKe:=Hd hKe;replace hKK:=Hd hKK;go_region;go_wp2_with (fail);go_roundw
     case rel=>exact⟨KK,f',YZ ls' k KK,by go_num,by have:=hKK.out;omega,hkk,by have:=hKK.out;omega,by rw[YT];exact hlen.out,HS.out.1,Hd (hS.out.trans hstep.out),(XM.ext ((Ext.rf _).drew)).tr HS.out.2,US.out⟩
     case measure=>simp[intOf];have:=hKK.out;omega
   | false =>
    have hkid:Y0 ls' k=2*k:=by rw[Y0,hb1];rfl
    rw[hb1] at L1;rw[hkid] at L2;simp only[e1,e2] at L1 L2
    cases hb2:Zt ls' (2*k) k with
    | false =>
     have hdone:=XD f' ls' k (by have:=hlen.out;omega) (by rw[hkid];exact hb2);rw[hb2] at L2;replace L1:=Hd L1;replace L2:=Hd L2;go_wp2_with (first
      | (go_at_call 66;refine KL.out.mono ?_;rintro e w' ⟨rfl,rfl⟩)
      | (go_at_call 68;have hx:=x1;refine(L2.out _ hx).mono ?_;rintro e w2 ⟨rfl,x2⟩)
      | (go_at_call 68;refine(L1.out _ (Ext.rf _)).mono ?_;rintro e w1 ⟨rfl,x1⟩))
     exact bodyPost_ret (results_none rfl _ _ _) rfl ⟨rfl,by rw[hS.out,hdone];exact HR.ext (x1.tr x2),hM.ext (x1.tr x2),hU.out.ext HR (x1.tr x2)⟩
    | true =>
     have hstep:=XE f' ls' k (by have:=hlen.out;omega) (by rw[hkid];exact hb2);rw[hkid] at hstep;rw[hb2] at L2;replace hstep:=Hd hstep;replace L1:=Hd L1;replace L2:=Hd L2;replace hkid:=Hd hkid;clear hb1 hb2;have hkk:2*k<2*n:=by omega
     obtain⟨l,hl⟩:∃ l,ls'[k]?=some l:=⟨_,List.getElem?_eq_getElem (by have:=hlen.out;omega)⟩;obtain⟨m,hm⟩:∃ m,ls'[2*k]?=some m:=⟨_,List.getElem?_eq_getElem (by have:=hlen.out;omega)⟩;have hkl:k<ls'.length:=by have:=hlen.out;omega
     have hkl2:2*k<ls'.length:=by have:=hlen.out;omega
     go_wp2_with (first
      | (go_at_call 66;refine KL.out.mono ?_;rintro e w' ⟨rfl,rfl⟩)
      | (go_at_call 68;have hx:=x1;refine(L2.out _ hx).mono ?_;rintro e w2 ⟨rfl,x2⟩)
      | (go_at_call 68;refine(L1.out _ (Ext.rf _)).mono ?_;rintro e w1 ⟨rfl,x1⟩))
     obtain⟨hh,hb,hbg,hbh,hH⟩:=HR.ext (x1.tr x2);obtain⟨A,c,hcA,hfA,hrA,hlA⟩:=hH.at hl;obtain⟨B,d,hcB,hfB,hrB,hlB⟩:=hH.at hm;have c0:=hb.cell 0;simp at c0;have hgh:hh≠g:=by obtain⟨cs,hb2,_⟩:=hH;exact fun h=>Blk.ne hb hb2 (by decide) h.symm
     have XM:=hM.ext (x1.tr x2);replace hl:=Hd hl;replace hm:=Hd hm;have HS:=Hd (WR (w:=w2.drew) (i:=k) (k:=2*k) hb.drew hbg hbh (hH.ext ((Ext.rf _).drew)) (Z4 hl.out) (Z4 hm.out) (hrA.ext ((Ext.rf _).drew)) hlA (hrB.ext ((Ext.rf _).drew)) hlB);have hH0:=hH;obtain⟨cs0,hb20,hx01,hx02⟩:=hH0;have US:=Hd (Und.swap (i:=k) (hU.out.ext HR ((x1.tr x2).drew)) hb.drew hb20.drew ((hb20.cell k).symm.trans hcA) ((hb20.cell _).symm.trans hcB));clear hx01 hx02 hb20 cs0;replace hb:=Hd hb;replace hH:=Hd hH;replace hrA:=Hd hrA;replace hrB:=Hd hrB;have hk0:k≠2*k:=by omega
     generalize hKK:2*k=KK at *;have hKe:2*(k:Int)=(KK:Int):=by rw[<-hKK];omega
     simp only[hKe];clear e1 e2;replace hKe:=Hd hKe;replace hKK:=Hd hKK;go_region;go_wp2_with (fail);go_roundw
     case rel=>exact⟨KK,f',YZ ls' k KK,by go_num,by have:=hKK.out;omega,hkk,by have:=hKK.out;omega,by rw[YT];exact hlen.out,HS.out.1,Hd (hS.out.trans hstep.out),(XM.ext ((Ext.rf _).drew)).tr HS.out.2,US.out⟩
     case measure=>simp[intOf];have:=hKK.out;omega
  ·have hstop:=Vh f ls' k (by omega)
   replace hlen:=Hd hlen;go_wp2_with (go_at_call 66;refine KL.out.mono ?_;rintro e w' ⟨rfl,rfl⟩);go_end0;exact⟨rfl,by rw[hS.out,hstop];exact HR,hM,hU.out⟩
theorem Und.put {w:World}{g hh top n i:Nat}{v:Value}{cs:Array Value}(U:Und w g top)(hb:Blk w g 72 #[.slice (some ⟨hh,0,none⟩) n n,v])(hcs:Blk w hh 88 cs)(V u:Value)(hV:∀ (b off m d:Nat),V=.slice (some ⟨b,off,none⟩) m d->m≠0->b<top) :
  Und ((w.setCell ⟨hh,i,none⟩ V).setCell ⟨g,1,none⟩ u) g top:=by
 have hne:g≠hh:=Blk.ne hb hcs (by decide);intro h' n' c' hc cs' hcs' j b off m d hj hm;have c0:=((hb.far (p:=⟨hh,i,none⟩) hne V).set 1 u).cell 0;rw[hc] at c0;simp at c0;obtain⟨rfl,rfl,rfl⟩:=c0;obtain rfl:=Blk.same hcs' ((hcs.set i V).far (p:=⟨g,1,none⟩) (fun h=>hne h.symm) u);have hu:=U h' _ _ (by rw[hb.cell];rfl) _ hcs;rw[Array.getElem?_setIfInBounds] at hj;split at hj
 ·split at hj
  ·injection hj with hj
   exact hV b off m d hj hm
  ·cases hj
 ·exact hu j b off m d hj hm
theorem Und.aside {w:World}{base g top z:Nat}{ls:Ls}{sz:Int}{zs:Array Value}(H:MoundRep w base g ls sz)(U:Und w g top)(hb0:Blk w z 52 zs)(i:Nat)(u:Value) : Und (w.setCell ⟨z,i,none⟩ u) g top:=by
 obtain⟨h,hb,hbg,hbh,hH⟩:=H;obtain⟨cs,hc,hs,hcc⟩:=hH;have h1:g≠z:=Blk.ne hb hb0 (by decide);have h2:h≠z:=Blk.ne hc hb0 (by decide);intro h' n' c' hh cs' hcs' j b off m d hj hm;have c0:=(hb.far (p:=⟨z,i,none⟩) h1 u).cell 0;rw[hh] at c0;simp at c0;obtain⟨rfl,rfl,rfl⟩:=c0;obtain rfl:=Blk.same hcs' (hc.far (p:=⟨z,i,none⟩) h2 u);exact U h' _ _ (by rw[hb.cell];rfl) _ hc j b off m d hj hm
theorem U4 (g base n:Nat)(ls:Ls)(sz:Int)(p:It)(l:List It)(w:World)(H:MoundRep w base g ls sz)(hn:ls.length=2*n)(hn1:1<=n)(h32:n<=32)(h1:ls.getD 1 []=p::l)(hsz:0<=sz/\sz<=2^60) :
  Calls Try.prog 21 #[.pointer (some ⟨g,0,none⟩)] w fun e w'=>e=.returned (.tuple #[.agg #[.int .i64 p.1,.int .i64 p.2],.bool true])/\MoundRep w' base g (Zx (2*n) (ls.set 1 l) 1) (sz-1)/\ModT base [72,88] w w':=by
 have K:=fun W (h:Ext w W)=>UH g base ls sz W (H.ext h) (by omega) (by omega)
 have hm:XL ls=(p,true):=by rw[XL,h1]
 rw[hm] at K;simp only[itV] at K;replace K:=Hd K;clear hm;have h1lt:1<ls.length:=by omega
 have hl1:ls[1]?=some (p::l):=by
  have:=List.getElem?_eq_getElem h1lt;rw[Z4 this] at h1;rw[this,h1]
 have U:=Hd (Und.of H);have H0:=Hd H;obtain⟨hh,hb,hbg,hbh,hH⟩:=H;obtain⟨A,c,hcA,hfA,hrA,hlA⟩:=hH.at hl1;obtain⟨b,off,rfl,hbl,hcc⟩:=(ZX p l ▸ hrA).form (by simp);have c0:=hb.cell 0;have c1:=hb.cell 1;have f1:=hb.free 1;simp at c0 c1;have hgl:=hb.lt;have hhl:=hH.lt;have hgh:hh≠g:=by obtain⟨cs,hb2,_⟩:=hH;exact fun h=>Blk.ne hb hb2 (by decide) h.symm
 replace hb:=Hd hb;replace hH:=Hd hH;replace hrA:=Hd hrA;replace hcc:=Hd hcc;replace hl1:=Hd hl1;replace h1:=Hd h1;replace hn:=Hd hn;go_enter Try.func21,Try.ntmps21;go_wp2_with (fail);refine(K.out _ XI).mono ?_;rintro e w' ⟨rfl,x1⟩;have bx0:Blk w' w.heap.size 52 #[.int .i64 0,.int .i64 0]:=Blk.ext (.new rfl) x1;have jf:w'.frozen? ⟨w.heap.size,0,none⟩=false:=by rw[x1.cells.2 _ _ (by simp)];simp
 have jg:w'.frozen? ⟨w.heap.size,1,none⟩=false:=by rw[x1.cells.2 _ _ (by simp)];simp
 have j0:w'.cell? ⟨w.heap.size,0,none⟩=some (.int .i64 0):=by rw[x1.cells.1 _ _ (by simp)];simp
 have j1:w'.cell? ⟨w.heap.size,1,none⟩=some (.int .i64 0):=by rw[x1.cells.1 _ _ (by simp)];simp
 have jz:w.heap.size<w'.heap.size:=by have:=x1.size;simp at this;omega
 have y:=Ext.tr (a:=w) XI x1;clear x1;have c0:=(y.cells.1 _ _ hgl).trans c0;have c1:=(y.cells.1 _ _ hgl).trans c1;have f1:=(y.cells.2 _ _ hgl).trans f1;have hcA:=(y.cells.1 _ _ hhl).trans hcA;have hfA:=(y.cells.2 _ _ hhl).trans hfA;have hgl':g<w'.heap.size:=by have:=y.size;omega
 have hhl':hh<w'.heap.size:=by have:=y.size;omega
 have hll:∀ B d,RdV w' 52 B (Yw l)->l.length<=d->(∀ (b off m d':Nat),Value.slice B l.length d=.slice (some ⟨b,off,none⟩) m d'->m≠0->b<w.heap.size) ->
   ∀ o,MoundRep ((((w'.setCell ⟨hh,1,none⟩ (.slice B l.length d)).setCell ⟨g,1,none⟩ (.int .i64 (sz-1))).alloc o).drew) base g (ls.set 1 l) (sz-1) /\
    ModT base [72,88] w' ((((w'.setCell ⟨hh,1,none⟩ (.slice B l.length d)).setCell ⟨g,1,none⟩ (.int .i64 (sz-1))).alloc o).drew) /\
    Und ((((w'.setCell ⟨hh,1,none⟩ (.slice B l.length d)).setCell ⟨g,1,none⟩ (.int .i64 (sz-1))).alloc o).drew) g w.heap.size:=by
  intro B d hr hd hV o;have hb':=hb.out.ext y;have hH':=hH.out.ext y;have R:=Vp (place:=1) (sz:=sz-1) hb' rfl hbg hbh hH' hr hd;obtain⟨cs,hcs,_,_⟩:=hH';have X:Ext ((w'.setCell ⟨hh,1,none⟩ (.slice B l.length d)).setCell ⟨g,1,none⟩ (.int .i64 (sz-1))) ((((w'.setCell ⟨hh,1,none⟩ (.slice B l.length d)).setCell ⟨g,1,none⟩ (.int .i64 (sz-1))).alloc o).drew):=((Ext.rf _).alloc _).drew;exact⟨R.ext X,(Vo 1 hb' hbg hbh (hH.out.ext y) (Ext.rf _) _ _).ext X,(Und.put (U.out.ext H0.out y) hb' hcs _ _ hV).ext R X⟩
 replace hll:=Hd hll;replace bx0:=Hd bx0;go_wp2_with (fail)
 by_cases hc1:c=1
 ·subst hc1
  go_region;go_wp2_with (fail);have hl0:l=[]:=by
   have:=hlA
   cases l with
   | nil=>rfl
   | cons q l=>simp at this
  have hll:=hll.out (some ⟨b,off,none⟩) 0 (by rw[hl0];exact .inl rfl) (by rw[hl0];exact Nat.le_refl _) (by intro b' off' m d' h hm;injection h with h1 h2 h3;subst h2;rw[hl0] at hm;exact absurd rfl hm) (.cells #[.int .i64 p.1,.int .i64 p.2] 52);clear hl0;replace hll:=Hd hll;obtain⟨R1,M1,U1⟩:=hll.out;have S:=WS w.heap.size g base (ls.set 1 l) (sz-1) 1 n _ R1 (by rw[List.length_set];exact hn.out) h32 (by omega) (by omega) U1;rw[show ((1:Nat):Int)=1 from rfl] at S;refine S.mono ?_;clear S;rintro e w3 ⟨rfl,R3,M3,U3⟩;have bx:=(Blk.modT bx0.out M1 (by decide)).modT M3 (by decide);have bt:Blk w3 w'.heap.size 52 #[.int .i64 p.1,.int .i64 p.2]:=Blk.modT (Blk.drew (.new (by simp))) M3 (by decide);have j0:=bx.cell 0;have j1:=bx.cell 1;have jf:=bx.free 0;have jg:=bx.free 1;have t0:=bt.cell 0;have t1:=bt.cell 1;simp at j0 j1 t0 t1;have R4:=Hd ((R3.aside U3 (Nat.le_refl _) bx 0 (.int .i64 p.1)).aside (U3.aside R3 bx 0 (.int .i64 p.1)) (Nat.le_refl _) (bx.set 0 (.int .i64 p.1)) 1 (.int .i64 p.2));have M4:ModT base [72,88] w ((w3.setCell ⟨w.heap.size,0,none⟩ (.int .i64 p.1)).setCell ⟨w.heap.size,1,none⟩ (.int .i64 p.2)) :=
   Mod.set (p:=⟨w.heap.size,1,none⟩) (Mod.set (p:=⟨w.heap.size,0,none⟩) (((ModT.of_ext y).tr M1).tr M3) (.inr (Nat.le_refl _)) _) (.inr (Nat.le_refl _)) _
  clear R1 M1 U1 R3 M3 U3 bx bt hll;replace M4:=Hd M4;go_wp2_with (fail);exact bodyPost_ret (v:=.tuple #[.agg #[.int .i64 p.1,.int .i64 p.2],.bool true]) (by simp[results,Try.results21,go_sem, *]) rfl ⟨rfl,R4.out,M4.out⟩
 ·go_region
  go_wp2_with (fail);have hrl:RdV w' 52 (some ⟨b,off+2,none⟩) (Yw l):=by
   have:=(hrA.out.drop 2).ext y
   simpa [ZX,Addr.add] using this
  have hll:=hll.out (some ⟨b,off+2,none⟩) (c-1) hrl (by simp at hlA;omega) (by intro b' off' m d' h hm;injection h with h1 h2 h3;injection h1 with h1;injection h1 with h1;subst h1;exact hbl) (.cells #[.int .i64 p.1,.int .i64 p.2] 52);clear hrl;replace hll:=Hd hll;obtain⟨R1,M1,U1⟩:=hll.out;have S:=WS w.heap.size g base (ls.set 1 l) (sz-1) 1 n _ R1 (by rw[List.length_set];exact hn.out) h32 (by omega) (by omega) U1;rw[show ((1:Nat):Int)=1 from rfl] at S;refine S.mono ?_;clear S;rintro e w3 ⟨rfl,R3,M3,U3⟩;have bx:=(Blk.modT bx0.out M1 (by decide)).modT M3 (by decide);have bt:Blk w3 w'.heap.size 52 #[.int .i64 p.1,.int .i64 p.2]:=Blk.modT (Blk.drew (.new (by simp))) M3 (by decide);have j0:=bx.cell 0;have j1:=bx.cell 1;have jf:=bx.free 0;have jg:=bx.free 1;have t0:=bt.cell 0;have t1:=bt.cell 1;simp at j0 j1 t0 t1;have R4:=Hd ((R3.aside U3 (Nat.le_refl _) bx 0 (.int .i64 p.1)).aside (U3.aside R3 bx 0 (.int .i64 p.1)) (Nat.le_refl _) (bx.set 0 (.int .i64 p.1)) 1 (.int .i64 p.2));have M4:ModT base [72,88] w ((w3.setCell ⟨w.heap.size,0,none⟩ (.int .i64 p.1)).setCell ⟨w.heap.size,1,none⟩ (.int .i64 p.2)) :=
   Mod.set (p:=⟨w.heap.size,1,none⟩) (Mod.set (p:=⟨w.heap.size,0,none⟩) (((ModT.of_ext y).tr M1).tr M3) (.inr (Nat.le_refl _)) _) (.inr (Nat.le_refl _)) _
  clear R1 M1 U1 R3 M3 U3 bx bt hll;replace M4:=Hd M4;go_wp2_with (fail);exact bodyPost_ret (v:=.tuple #[.agg #[.int .i64 p.1,.int .i64 p.2],.bool true]) (by simp[results,Try.results21,go_sem, *]) rfl ⟨rfl,R4.out,M4.out⟩
structure KeptQ (ls:Ls)(sz:Int)(n k:Nat) : Prop where
 len:ls.length=2*n
 ord:Ordered ls
 size:sz=(Yt ls).length
 le:(Yt ls).length<=k
theorem KeptQ.start (n:Nat) : KeptQ (List.replicate (2*n) []) 0 n 0:=⟨by simp,WI _,by rw[Vr];rfl,by rw[Vr];exact Nat.le_refl _⟩
theorem KeptQ.more {ls:Ls}{sz:Int}{n k:Nat}(h:KeptQ ls sz n k) : KeptQ ls sz n (k+1):=⟨h.len,h.ord,h.size,by have:=h.le;omega⟩
theorem KeptQ.put {ls:Ls}{sz:Int}{n k:Nat}{x:It}{ds:List Int}(h:KeptQ ls sz n k)(h1:1<=n)(hz:Zz ls x.1 ds≠0) :
  KeptQ (ls.set (Zu ls x.1 (Zz ls x.1 ds)) (x::ls.getD (Zu ls x.1 (Zz ls x.1 ds)) [])) (sz+1) n (k+1):=by
 have hb:=Xk ls x.1 ds h.len h1;have hp:=Yr ls x.1 (leaf:=Zz ls x.1 ds) (by omega);have hl:=(Xs (ls:=ls) (x:=x) (i:=Zu ls x.1 (Zz ls x.1 ds)) (by have:=h.len;omega)).length_eq;rw[List.length_cons] at hl;exact⟨by rw[List.length_set];exact h.len,h.ord.insert h.len h1 hz,by have:=h.size;rw[hl];omega,by have:=h.le;omega⟩
theorem KeptQ.pop {ls:Ls}{sz:Int}{n k:Nat}{p:It}{l:List It}(h:KeptQ ls sz n k)(h1:1<=n)(hp:ls.getD 1 []=p::l) : KeptQ (Zx (2*n) (ls.set 1 l) 1) (sz-1) n k:=by
 have hl:=(Wk h.len h1 hp).length_eq;rw[List.length_cons] at hl;exact⟨by rw[Yf,List.length_set];exact h.len,h.ord.pop h.len h1 hp,by have:=h.size;omega,by have:=h.le;omega⟩
theorem KeptQ.lens {ls:Ls}{sz:Int}{n k:Nat}(h:KeptQ ls sz n k) : ∀ l∈ls,l.length<=k:=by
 intro l hl;have h2:l.length<=(Yt ls).length:=by
  rw[List.length_flatten];obtain⟨i,hi,rfl⟩:=List.mem_iff_getElem.1 hl;have:∀ (ls:Ls) (i:Nat) (hi:i<ls.length),ls[i].length<=(ls.map List.length).sum:=by
   intro ls
   induction ls with
   | nil=>intro i hi;simp at hi
   | cons m ls ih =>
    intro i hi
    cases i with
    | zero=>simp
    | succ i=>have:=ih i (by simpa using hi);simp;omega
  exact this ls i hi
 have:=h.le;omega
theorem KeptQ.root {ls:Ls}{sz:Int}{n k:Nat}(h:KeptQ ls sz n k)(h1:1<=n) : (XL ls).2=decide (0<sz):=by
 unfold XL
 cases hr:ls.getD 1 [] with
 | nil =>
  have hA:Yt ls=[]:=by
   cases hA:Yt ls with
   | nil=>rfl
   | cons a r =>
    obtain⟨p,l,hp,_⟩:=h.ord.least (q:=a) (by rw[hA];exact List.mem_cons_self);rw[hr] at hp
    cases hp
  have:=h.size;rw[hA] at this;simp at this;subst this
  rfl
 | cons p l =>
  have hl:=(Wk h.len h1 hr).length_eq;rw[List.length_cons] at hl;have:=h.size;have h0:0<sz:=by omega
  simp[h0]
def SM (base:Nat)(w:World)(gm gc gp gn go gh n:Nat)(bd:Nat->Int)(Hs F O:List Nat)(L:List (List Nat)) : Prop :=
 ∃ (M:List Int) (o:OwL) (nv:List Value),MemB w gm gc M/\PoolR w base gm gc gp gn go ⟨0,n,nv,[o]⟩/\ZK w gh gm gp (n+1) 6/\LayQ M n F L/\o.xs=Zq O/\(Hs++(F++O)++L.flatten).Perm (List.range n)/\PB ⟨0,n,nv,[o]⟩ bd
structure GB (base gm gc gp gn go gh:Nat) : Prop where
 m:base<=gm/\base<=gc
 p:base<=gp/\base<=gn/\base<=go
 h:base<=gh
section
variable {base gm gc gp gn go gh n:Nat} {w w':World} {bd:Nat->Int} {Hs F O:List Nat} {L:List (List Nat)}
theorem SM.ext (h:SM base w gm gc gp gn go gh n bd Hs F O L)(x:Ext w w') : SM base w' gm gc gp gn go gh n bd Hs F O L:=by
 obtain⟨M,o,nv,h1,h2,h3,h4⟩:=h;exact⟨M,o,nv,h1.ext x,h2.ext x,Blk.ext h3 x,h4⟩
theorem SM.modT {ts:List TypeId}(h:SM base w gm gc gp gn go gh n bd Hs F O L)(m:ModT base ts w w')(t1:62∉ts)(t2:3∉ts)(t3:66∉ts)(t4:45∉ts)(t5:22∉ts)(t6:69∉ts) : SM base w' gm gc gp gn go gh n bd Hs F O L:=by
 obtain⟨M,o,nv,⟨⟨st,k,c,q,u,d,h1⟩,h1'⟩,h2,h3,h4⟩:=h;exact⟨M,o,nv,⟨⟨st,k,c,q,u,d,h1.modT m t1⟩,h1'.modT m t2⟩,⟨h2.p.modT m t3,h2.nd.modT m t4,h2.ln,h2.ow.modT m t5,fun k o ho=>⟨(h2.oi k o ho).1.modT m t2,(h2.oi k o ho).2⟩,h2.dj⟩,Blk.modT h3 m t6,h4⟩
theorem SM.free (h:SM base w gm gc gp gn go gh n bd Hs F O L)(hl:Hs.length+L.flatten.length<n) : F++O≠[]:=by
 obtain⟨M,o,nv,-,-,-,-,-,h5,-⟩:=h;intro e;have:=h5.length_eq;rw[List.length_append,List.length_append,e,List.length_range,List.length_nil] at this;omega
theorem SM.held {s:Nat}(h:SM base w gm gc gp gn go gh n bd (s::Hs) F O L) : s<n/\s∉F/\∀ j,s∉L.getD j []:=by
 obtain⟨M,o,nv,-,-,-,-,-,h5,-⟩:=h;have hnd:=(h5.nodup_iff).2 List.nodup_range;rw[List.append_assoc,List.cons_append] at hnd;have hno:=(List.nodup_cons.1 hnd).1;refine⟨List.mem_range.1 (h5.subset (by simp)),fun hF=>hno (by simp[hF]),fun j hj=>hno ?_⟩;have:s∈L.flatten:=by
  rw[List.getD_eq_getElem?_getD] at hj
  cases hq:L[j]? with
  | none=>rw[hq] at hj;cases hj
  | some l=>rw[hq] at hj;exact List.mem_flatten.2 ⟨l,List.mem_of_getElem? hq,hj⟩
 simp only[List.mem_append];exact .inr (.inr this)
end
theorem ZZ (bd:Nat->Int)(L:List (List Nat)) : (Yt (Zo bd L)).map (fun p=>p.2.toNat)=L.flatten:=by
 unfold Yt Zo;rw[List.map_flatten,List.map_map]
 congr 1
 conv=>rhs;rw[<-List.map_id L]
 refine List.map_congr_left fun l _=>?_
 simp only[Function.comp,itL,List.map_map,id]
 conv=>rhs;rw[<-List.map_id l]
 exact List.map_congr_left fun s _=>by simp
theorem VW {bd:Nat->Int}{L:List (List Nat)}{s:Nat}(b:Int)(h:∀ j,s∉L.getD j []) : Zo (fun t=>if t=s then b else bd t) L=Zo bd L:=by
 unfold Zo;refine List.map_congr_left fun l hl=>?_
 obtain⟨j,hj,rfl⟩:=List.mem_iff_getElem.1 hl;have:=h j;rw[List.getD_eq_getElem?_getD,List.getElem?_eq_getElem hj] at this;refine List.map_congr_left fun t ht=>?_
 have e:t≠s:=fun e=>this (e ▸ ht)
 simp[e]
theorem U5 {ls:Ls}{key:Int}{ds:List Int}{leaf:Nat}(hl:ls.length=64)(h:ZH ls key 32 (ZE ds)=some leaf) : Zz ls key ds=leaf:=by
 unfold Zz;rw[hl,show 64 / 2=32 from rfl];unfold ZE at h
 by_cases e:ds.take 4=[]
 ·rw[if_pos e] at h
  rw[e];have e0:(32+(ZP 0 ((32:Nat):Int)).toNat)=32:=by rw[VD];rfl
  rw[Z5,e0] at h
  by_cases hf:Zv ls 32 key=true
  ·rw[hf,if_pos rfl] at h
   injection h with h
   show (none:Option Nat).getD (ZU ls key 32 32)=leaf;rw[Option.getD_none,show (32:Nat)=31+1 from rfl,Yx,show (31+1:Nat)=32 from rfl,hf,if_pos rfl,h]
  ·rw[if_neg hf] at h
   cases h
 ·rw[if_neg e] at h
  rw[h]
  rfl
theorem XF {ls:Ls}{key:Int} : ∀ {ds:List Int} {leaf:Nat},ZH ls key 32 ds=some leaf->32<=leaf
 | [],_,h=>by cases h
 | d::ds,leaf,h=>by
  rw[Z5] at h;split at h
  ·injection h with h;omega
  ·exact XF h
theorem U6 {base gm gc gp gn go gh n:Nat}{w:World}{bd:Nat->Int}{F O:List Nat}{L:List (List Nat)}(g:GB base gm gc gp gn go gh)(hn:n<=31)(h:SM base w gm gc gp gn go gh n bd [] F O L)(hf:L.flatten.length<n)(ga:Nat)(hga:base<=ga)(A:ZO w ga gp ⟨0,false,-1,0,0,0⟩) :
  Calls Try.prog 12 #[.pointer (some ⟨ga,0,none⟩)] w fun e w'=>e=.returned (.tuple #[])/\∃ (s:Nat) (a:PAct) (F' O':List Nat),SM base w' gm gc gp gn go gh n bd [s] F' O' L/\ZO w' ga gp a/\a.ph=3/\a.slot=(s:Int)/\ModT base TP w w':=by
 have hne:=h.free (by simpa using hf);obtain⟨M,o,nv,h1,h2,h3,h4,h5,h6,h7⟩:=h;have hlen:O.length<=1000:=by
  have:=h6.length_eq;simp only[List.length_append,List.length_range,List.nil_append] at this;omega
 refine XC ga 3 (by omega) (fun w'=>∃ (s:Nat) (a:PAct) (F' O':List Nat),SM base w' gm gc gp gn go gh n bd [s] F' O' L/\ZO w' ga gp a/\a.ph=3/\a.slot=(s:Int)/\ModT base TP w w') (fun W W' q x=>?_) w (VU base gm gc gp gn go ga n nv (by omega) L ⟨g.m.1,g.m.2,g.p.2.2,hga⟩ M o _ w F O ⟨h1,h2,A⟩ rfl rfl rfl h4 h5 hlen hne _ (fun w' M' o' a' s F' O' k1 k2 k3 k4 k5 k6 k7=>?_))
 ·obtain⟨s,a,F',O',q1,q2,q3,q4,q5⟩:=q
  exact⟨s,a,F',O',q1.ext x,Blk.ext q2 x,q3,q4,q5.ext x⟩
 ·exact⟨s,a',F',O',⟨M',o',nv,k1.m,k1.p,Blk.modT h3 k7 (by decide),k5,k4,((k6.append_right L.flatten).trans (by simpa using h6)),h7⟩,k1.a,k2,k3,k7⟩
theorem Vs {base gm gc gp gn go gh n s:Nat}{w:World}{bd:Nat->Int}{F O:List Nat}{L:List (List Nat)}(g:GB base gm gc gp gn go gh)(hn:n<=31)(hbw:base<=w.heap.size)(h:SM base w gm gc gp gn go gh n bd [s] F O L)(ga:Nat)(hga:base<=ga)(A:ZO w ga gp ⟨0,true,(s:Int),0,0,0⟩) :
  Calls Try.prog 12 #[.pointer (some ⟨ga,0,none⟩)] w fun e w'=>e=.returned (.tuple #[])/\∃ (F' O':List Nat),SM base w' gm gc gp gn go gh n bd [] F' O' L/\ModT base TP w w':=by
 obtain⟨e1,e2,e3⟩:=h.held;obtain⟨M,o,nv,h1,h2,h3,h4,h5,h6,h7⟩:=h;have hlen:O.length<=1000:=by
  have:=h6.length_eq;simp only[List.length_append,List.length_range] at this;omega
 refine XC ga 3 (by omega) (fun w'=>∃ (F' O':List Nat),SM base w' gm gc gp gn go gh n bd [] F' O' L/\ModT base TP w w') (fun W W' q x=>?_) w (VV base gm gc gp gn go ga n nv (by omega) L M o _ w ⟨g.m.1,g.m.2,g.p.2.2,hga⟩ hbw F O s ⟨h1,h2,A⟩ rfl rfl rfl rfl e1 e2 h4 h5 hlen _ (fun w' M' o' a' F' O' k1 k2 k4 k5 k6 k7=>?_))
 ·obtain⟨F',O',q1,q5⟩:=q
  exact⟨F',O',q1.ext x,q5.ext x⟩
 ·exact⟨F',O',⟨M',o',nv,k1.m,k1.p,Blk.modT h3 k7 (by decide),k5,k4,((k6.append_right L.flatten).trans (by simpa using h6)),h7⟩,k7⟩
end
end Go.Proofs.Ytgimmiaenkeohaa
