/- parts, packed by a program -/
import Derived.Test.YtgimmiaenkeohaaKurganQueuesP1
set_option maxRecDepth 100000
set_option maxHeartbeats 16000000
set_option linter.all false
namespace Go.Proofs.Ytgimmiaenkeohaa
open Go.ChangeAt Go.ChangeShapes Go.RowKit Go.WideShapes
section
def PF (ga gm gc go:Nat)(o:OwL)(b:Nat) : Prop:=PS ga go o b\/PT ga gm gc b
theorem PW.own {w w':World}{bs gm gc gp gn go ga:Nat}{M:List Int}{P P':PoolS}{a a':PAct}(h:PW w bs gm gc gp gn go ga M P a){k:Nat}{o:OwL}(ho:P.ows[k]?=some o)(hm:Mod (PS ga go o) w w')(hp:PoolR w' bs gm gc gp gn go P')(ha:ZO w' ga gp a') : PW w' bs gm gc gp gn go ga M P' a':=by
 obtain⟨⟨st,q,c,o',n,d,m1⟩,m2⟩:=id h.m;refine⟨h.m.mod hm ?_ ?_,hp,ha⟩
 ·rintro (e | e | e)
  ·exact m1.ne h.a (by decide) e
  ·exact(h.p.oi k o ho).1.ne m1 (by decide) gm e rfl
  ·exact m1.ne h.p.ow (by decide) e
 ·rintro (e | e | e)
  ·exact m2.ne h.a (by decide) e
  ·exact(h.p.oi k o ho).2 e
  ·exact m2.ne h.p.ow (by decide) e
section
variable {ga gm gc go:Nat} {o:OwL} {w w':World}
theorem PF.fa (h:Mod (fun b=>b=ga) w w') : Mod (PF ga gm gc go o) w w':=h.mono fun _ _ e=>.inl (.inl e)
theorem PF.ps (h:Mod (PS ga go o) w w') : Mod (PF ga gm gc go o) w w':=h.mono fun _ _ e=>.inl e
theorem PF.pt (h:Mod (PT ga gm gc) w w') : Mod (PF ga gm gc go o) w w':=h.mono fun _ _ e=>.inr e
end
theorem W0 (bs gm gc gp gn go ga:Nat)(M:List Int)(P:PoolS)(a:PAct)(o:OwL)(w:World)(H:PW w bs gm gc gp gn go ga M P a)(ho:P.ows[a.wk]?=some o)(hW:P.ows.length<=100)(hg:a.give=false)(l:List Int)(x:Int)(hx:o.xs=l++[x])(hl:o.xs.length<=1000) :
  Calls Try.prog 48 #[.pointer (some ⟨ga,0,none⟩)] w fun e w'=>e=.returned (.tuple #[])/\PW w' bs gm gc gp gn go ga M { P with ows:=P.ows.set a.wk ⟨o.A,o.c,l⟩ } { a with slot:=x,ph:=3 }/\Mod (PF ga gm gc go o) w w':=by
 have PR:=Hd (Wh bs gm gc gp gn go ga P a o l x w H.p (by exact(Blk.lt H.m.2)) H.a ho hg hx hW hl);have HH:=Hd H;clear H;go_enter Try.func48,Try.ntmps48;go_wp2_with (fail);refine PR.out.mono ?_;rintro e w1 ⟨rfl,p1,a1,d1⟩;have H1:=Hd (HH.out.own ho d1 p1 a1);clear p1 a1 PR;have a4:w1.cell? ⟨ga,4,none⟩=some (.int .i64 a.ph):=Blk.cell H1.out.a 4;have fa4:w1.frozen? ⟨ga,4,none⟩=false:=Blk.free H1.out.a 4;obtain⟨q1,q2⟩:=H1.out.field 4 (.int .i64 3) (a':={ a with slot:=x,ph:=3 }) rfl;have Q1:=Hd q1;have Q2:=Hd ((PF.ps d1:Mod (PF ga gm gc go o) w w1).tr (PF.fa q2));clear q1 q2 d1;go_wp2_with (fail);exact bodyPost_ret (results_none rfl _ _ _) rfl ⟨rfl,Q1.out,Q2.out⟩
theorem W3 (bs gm gc gp gn go ga:Nat)(M:List Int)(P:PoolS)(a:PAct)(o:OwL)(w:World)(H:PW w bs gm gc gp gn go ga M P a)(ho:P.ows[a.wk]?=some o)(hW:P.ows.length<=100)(hg:a.give=true)(hbs:bs<=w.heap.size)(hx:o.xs.length<2) :
  Calls Try.prog 48 #[.pointer (some ⟨ga,0,none⟩)] w fun e w'=>e=.returned (.tuple #[])/\(∃ A' c',PW w' bs gm gc gp gn go ga M { P with ows:=P.ows.set a.wk ⟨A',c',o.xs++[a.slot]⟩ } { a with ph:=3 }/\(bl A'=bl o.A\/∃ g,bl A'=some g/\w.heap.size<=g))/\Mod (PF ga gm gc go o) w w':=by
 have PR:=Hd (Wi bs gm gc gp gn go ga P a o w H.p (by exact(Blk.lt H.m.2)) hbs H.a ho hg hx hW);have HH:=Hd H;clear H;go_enter Try.func48,Try.ntmps48;go_wp2_with (fail);refine PR.out.mono ?_;rintro e w1 ⟨rfl,⟨A',c',p1,g1⟩,a1,d1⟩;have H1:=Hd (HH.out.own ho d1 p1 a1);replace g1:=Hd g1;clear p1 a1 PR;have a4:w1.cell? ⟨ga,4,none⟩=some (.int .i64 a.ph):=Blk.cell H1.out.a 4;have fa4:w1.frozen? ⟨ga,4,none⟩=false:=Blk.free H1.out.a 4;obtain⟨q1,q2⟩:=H1.out.field 4 (.int .i64 3) (a':={ a with ph:=3 }) rfl;have Q1:=Hd q1;have Q2:=Hd ((PF.ps d1:Mod (PF ga gm gc go o) w w1).tr (PF.fa q2));clear q1 q2 d1;go_wp2_with (fail);exact bodyPost_ret (results_none rfl _ _ _) rfl ⟨rfl,⟨A',c',Q1.out,g1.out⟩,Q2.out⟩
theorem Vx (bs gm gc gp gn go ga:Nat)(M:List Int)(P:PoolS)(a:PAct)(o:OwL)(w:World)(H:PW w bs gm gc gp gn go ga M P a)(ho:P.ows[a.wk]?=some o)(hW:P.ows.length<=100)(hb:P.base<=1048576)(hl:o.xs.length<=1000)(hno:(a.give=true/\2<=o.xs.length)\/(a.give=false/\o.xs=[]))(x:Int)(hx:M[P.base]?=some x)(ht:Zl x)(hg:a.give=false)(hp:0<=pla x) :
  Calls Try.prog 48 #[.pointer (some ⟨ga,0,none⟩)] w fun e w'=>e=.returned (.tuple #[])/\PW w' bs gm gc gp gn go ga M P { a with top:=x,ph:=1 }/\Mod (PT ga gm gc) w w':=by
 have PR:=Hd (Xe bs gm gc gp gn go ga P a o w H.p H.a ho hno hW hl);have HH:=Hd H;have GE:=Hd (fun(W:World) (h:MemB W gm gc M)=>YC gm gc M P.base x W h hx);have UN:=Hd (fun(W:World)=>Zn x W ht);generalize hpl:pla x=px at *;replace hpl:=Hd hpl;clear H;go_enter Try.func48,Try.ntmps48;go_wp2_with (fail);refine PR.out.mono ?_;rintro e w1 ⟨rfl,x1⟩;have H1:=Hd (HH.out.ext x1);replace x1:=Hd x1;clear PR;have a0:w1.cell? ⟨ga,0,none⟩=some (.pointer (some ⟨gp,0,none⟩)):=Blk.cell H1.out.a 0;have p0:w1.cell? ⟨gp,0,none⟩=some (.pointer (some ⟨gm,0,none⟩)):=H1.out.p.p.cell 0;have p1:w1.cell? ⟨gp,1,none⟩=some (.int .i64 (P.base:Int)):=H1.out.p.p.cell 1;have za:=Blk.lt H1.out.a;have zp:=H1.out.p.p.lt;go_upto_region 2 with(fail);refine wp_region_any (by kernel_rfl) ?_
 change wpAny _ _ _ _ _ _ _ (World.drew _)
 refine Za (i:=0) (op:=Op.move (Operand.tmp 0)) (t:=39) (d:=some 10) (v:=_) rfl (by decide +kernel) (fun _ _ _ h=>h) (by intro _;unfold Zb;go_simp;try with_reducible rfl) ?_
 try simp only[lay]
 refine Za (i:=1) (op:=Op.move (Operand.tmp 0)) (t:=39) (d:=some 11) (v:=_) rfl (by decide +kernel) (fun _ _ _ h=>h) (by intro _;unfold Zb;go_simp;try with_reducible rfl) ?_
 try simp only[lay]
 refine Za (i:=2) (op:=Op.nilCheck (Operand.tmp 11)) (t:=0) (d:=some 12) (v:=_) rfl (by decide +kernel) (fun _ _ _ h=>h) (by intro _;unfold Zb;go_simp;try with_reducible rfl) ?_
 try simp only[lay]
 refine Za (i:=3) (op:=Op.fieldAddr 77 (Operand.tmp 12) 0) (t:=0) (d:=some 13) (v:=_) rfl (by decide +kernel) (fun _ _ _ h=>h) (by intro _;unfold Zb;go_simp;try with_reducible rfl) ?_
 try simp only[lay]
 refine Za (i:=8) (op:=Op.move (Operand.tmp 0)) (t:=39) (d:=some 18) (v:=_) rfl (by decide +kernel) (fun _ _ _ h=>h) (by intro _;unfold Zb;go_simp;try with_reducible rfl) ?_
 try simp only[lay]
 refine Za (i:=9) (op:=Op.nilCheck (Operand.tmp 18)) (t:=0) (d:=some 19) (v:=_) rfl (by decide +kernel) (fun _ _ _ h=>h) (by intro _;unfold Zb;go_simp;try with_reducible rfl) ?_
 try simp only[lay]
 refine Za (i:=10) (op:=Op.fieldAddr 77 (Operand.tmp 19) 0) (t:=0) (d:=some 20) (v:=_) rfl (by decide +kernel) (fun _ _ _ h=>h) (by intro _;unfold Zb;go_simp;try with_reducible rfl) ?_
 try simp only[lay]
 refine Zi (n:=7) [(4,some 14),(5,some 15),(6,some 16),(7,some 17),(11,some 21),(12,some 22),(13,some 23),(14,some 24)] (Ext w1) (VF (fun | 4=>some (.pointer (some ⟨gp,0,none⟩)) | 5=>some (.pointer (some ⟨gp,0,none⟩)) | 6=>some (.pointer (some ⟨gp,0,none⟩)) | 7=>some (.pointer (some ⟨gm,0,none⟩)) | 11=>some (.pointer (some ⟨gp,0,none⟩)) | 12=>some (.pointer (some ⟨gp,0,none⟩)) | 13=>some (.pointer (some ⟨gp,1,none⟩)) | 14=>some (.int .i64 (P.base:Int)) | _=>none) (fun i v W=>True)) Ext #[true,true,true,true,true,true,true,true,true,true,true,true,true,true,true,false,false,false,false,false,false,false] (by decide +kernel) (VF.stab ?_) ?_ ?_ (by first | exact(Ext.rf _).drew | exact Ext.rf _)
 ·intro j v W W' _ _ _;trivial
 ·intro pS hpm uS wS hRW hD K hK
  simp only[List.mem_cons,List.not_mem_nil,or_false] at hpm;rcases hpm with rfl | rfl | rfl | rfl | rfl | rfl | rfl | rfl
  ·( have rX:=Zf hRW za a0;exact Ze (T:=29) (x:=Operand.tmp 13) (t:=29) (d:=some 14) rfl (.pointer (some ⟨ga,0,none⟩)) (by kernel_rfl) (.pointer (some ⟨gp,0,none⟩)) (by go_simp) (hK _ _ (VF.mk rfl) hRW (Ext.rf _)))
  ·(have e4:uS 4=.pointer (some ⟨gp,0,none⟩):=(hD 4 (Zg (by kernel_rfl))).k rfl;exact Zm (op:=Op.nilCheck (Operand.tmp 14)) (t:=0) (d:=some 15) rfl (.pointer (some ⟨gp,0,none⟩)) (by simp only[Zc,Act.put,List.setIfInBounds_toArray,List.set_cons_zero,List.set_cons_succ];unfold Zb;(try go_simp);(try simp only[e4]);(try go_simp);(try rfl);(try (exact IntWalk.i64_in _ (by omega)))) (hK _ _ (VF.mk rfl) hRW (Ext.rf _)))
  ·(have e5:uS 5=.pointer (some ⟨gp,0,none⟩):=(hD 5 (Zg (by kernel_rfl))).k rfl;exact Zm (op:=Op.fieldAddr 66 (Operand.tmp 15) 0) (t:=0) (d:=some 16) rfl (.pointer (some ⟨gp,0,none⟩)) (by simp only[Zc,Act.put,List.setIfInBounds_toArray,List.set_cons_zero,List.set_cons_succ];unfold Zb;(try go_simp);(try simp only[e5]);(try go_simp);(try rfl);(try (exact IntWalk.i64_in _ (by omega)))) (hK _ _ (VF.mk rfl) hRW (Ext.rf _)))
  ·(have e6:uS 6=.pointer (some ⟨gp,0,none⟩):=(hD 6 (Zg (by kernel_rfl))).k rfl;have rX:=Zf hRW zp p0;exact Ze (T:=24) (x:=Operand.tmp 16) (t:=24) (d:=some 17) rfl (.pointer (some ⟨gp,0,none⟩)) (Eq.trans (b:=uS 6) (by kernel_rfl) e6) (.pointer (some ⟨gm,0,none⟩)) (by go_simp) (hK _ _ (VF.mk rfl) hRW (Ext.rf _)))
  ·( have rX:=Zf hRW za a0;exact Ze (T:=29) (x:=Operand.tmp 20) (t:=29) (d:=some 21) rfl (.pointer (some ⟨ga,0,none⟩)) (by kernel_rfl) (.pointer (some ⟨gp,0,none⟩)) (by go_simp) (hK _ _ (VF.mk rfl) hRW (Ext.rf _)))
  ·(have e11:uS 11=.pointer (some ⟨gp,0,none⟩):=(hD 11 (Zg (by kernel_rfl))).k rfl;exact Zm (op:=Op.nilCheck (Operand.tmp 21)) (t:=0) (d:=some 22) rfl (.pointer (some ⟨gp,0,none⟩)) (by simp only[Zc,Act.put,List.setIfInBounds_toArray,List.set_cons_zero,List.set_cons_succ];unfold Zb;(try go_simp);(try simp only[e11]);(try go_simp);(try rfl);(try (exact IntWalk.i64_in _ (by omega)))) (hK _ _ (VF.mk rfl) hRW (Ext.rf _)))
  ·(have e12:uS 12=.pointer (some ⟨gp,0,none⟩):=(hD 12 (Zg (by kernel_rfl))).k rfl;exact Zm (op:=Op.fieldAddr 66 (Operand.tmp 22) 1) (t:=0) (d:=some 23) rfl (.pointer (some ⟨gp,1,none⟩)) (by simp only[Zc,Act.put,List.setIfInBounds_toArray,List.set_cons_zero,List.set_cons_succ];unfold Zb;(try go_simp);(try simp only[e12]);(try go_simp);(try rfl);(try (exact IntWalk.i64_in _ (by omega)))) (hK _ _ (VF.mk rfl) hRW (Ext.rf _)))
  ·(have e13:uS 13=.pointer (some ⟨gp,1,none⟩):=(hD 13 (Zg (by kernel_rfl))).k rfl;have rX:=Zf hRW zp p1;exact Ze (T:=3) (x:=Operand.tmp 23) (t:=3) (d:=some 24) rfl (.pointer (some ⟨gp,1,none⟩)) (Eq.trans (b:=uS 13) (by kernel_rfl) e13) (.int .i64 (P.base:Int)) (by go_simp) (hK _ _ (VF.mk rfl) hRW (Ext.rf _)))
 intro u w3 hR3 hV;have h4:=(hV (4,some 14) (by simp)).k rfl;have h5:=(hV (5,some 15) (by simp)).k rfl;have h6:=(hV (6,some 16) (by simp)).k rfl;have h7:=(hV (7,some 17) (by simp)).k rfl;have h11:=(hV (11,some 21) (by simp)).k rfl;have h12:=(hV (12,some 22) (by simp)).k rfl;have h13:=(hV (13,some 23) (by simp)).k rfl;have h14:=(hV (14,some 24) (by simp)).k rfl;simp only[Zc,h4,h5,h6,h7,h11,h12,h13,h14];clear hV h4 h5 h6 h7 h11 h12 h13 h14
 try simp only[lay]
 refine Zd 15 (by decide +kernel) (Zh (f:=70) (xs:=#[Operand.tmp 17,Operand.tmp 24]) (ts:=#[24,3]) (t:=97) (d:=some 25) rfl #[.pointer (some ⟨gm,0,none⟩),.int .i64 (P.base:Int)] (by go_simp) (by kernel_rfl) _ (GE.out _ (H1.out.m.ext hR3)) ?_);rintro e w4 ⟨rfl,m4,d4⟩;have H4:=Hd ((H1.out.ext hR3).cell m4 d4);have D4:=Hd ((Mod.of_ext (x1.out.tr hR3):Mod (CS gm gc) w w3).tr d4);clear m4 d4 hR3 a0 p0 p1 GE;refine⟨_,rfl,?_⟩
 try simp only[lay]
 refine Za (i:=16) (op:=Op.move (Operand.tmp 25)) (t:=97) (d:=some 9) (v:=_) rfl (by decide +kernel) (fun _ _ _ h=>h) (by intro _;unfold Zb;go_simp;try with_reducible rfl) ?_
 try simp only[lay]
 refine Za (i:=17) (op:=Op.extract (Operand.tmp 9) 0) (t:=3) (d:=some 26) (v:=_) rfl (by decide +kernel) (fun _ _ _ h=>h) (by intro _;unfold Zb;go_simp;try with_reducible rfl) ?_
 try simp only[lay]
 refine Za (i:=18) (op:=Op.extract (Operand.tmp 9) 1) (t:=25) (d:=some 27) (v:=_) rfl (by decide +kernel) (fun _ _ _ h=>h) (by intro _;unfold Zb;go_simp;try with_reducible rfl) ?_
 try simp only[lay]
 refine Za (i:=19) (op:=Op.nilCheck (Operand.tmp 10)) (t:=0) (d:=some 28) (v:=_) rfl (by decide +kernel) (fun _ _ _ h=>h) (by intro _;unfold Zb;go_simp;try with_reducible rfl) ?_
 try simp only[lay]
 refine Za (i:=20) (op:=Op.fieldAddr 77 (Operand.tmp 28) 5) (t:=0) (d:=some 29) (v:=_) rfl (by decide +kernel) (fun _ _ _ h=>h) (by intro _;unfold Zb;go_simp;try with_reducible rfl) ?_
 try simp only[lay]
 have a5:w4.cell? ⟨ga,5,none⟩=some (.int .i64 a.top):=Blk.cell H4.out.a 5;have fa5:w4.frozen? ⟨ga,5,none⟩=false:=Blk.free H4.out.a 5;obtain⟨q1,q2⟩:=H4.out.field 5 (.int .i64 x) (a':={ a with top:=x }) rfl;have Q1:=Hd q1;have Q2:=Hd ((D4.out.mono fun b _ h=>(.inr h:PT ga gm gc b)).tr (q2.mono fun b _ h=>(.inl h:PT ga gm gc b)));clear q1 q2 H4 D4;refine Zd 21 (by decide +kernel) (ZQ rfl (.pointer (some ⟨ga,5,none⟩)) (.int .i64 x) (by kernel_rfl) (by kernel_rfl) (by go_simp;rfl) ?_);refine wpAny_done (by kernel_rfl) ?_ _;go_simp;clear a5 fa5;generalize w4.setCell ⟨ga,5,none⟩ (.int .i64 x)=w5 at *;have a4:w5.cell? ⟨ga,4,none⟩=some (.int .i64 a.ph):=Blk.cell Q1.out.a 4;have fa4:w5.frozen? ⟨ga,4,none⟩=false:=Blk.free Q1.out.a 4;obtain⟨q1,q2⟩:=Q1.out.field 4 (.int .i64 1) (a':={ a with top:=x,ph:=1 }) rfl;have R1:=Hd q1;have R2:=Hd (Q2.out.tr (q2.mono fun b _ h=>(.inl h:PT ga gm gc b)));clear q1 q2 Q1 Q2;have a5:(w5.setCell ⟨ga,4,none⟩ (.int .i64 1)).cell? ⟨ga,5,none⟩=some (.int .i64 x):=Blk.cell R1.out.a 5;go_wp2_with (fail);refine(UN.out _).mono ?_;rintro e w6 ⟨rfl,x6⟩;have S1:=Hd (R1.out.ext x6);have S2:=Hd (R2.out.ext x6);clear x6 UN R1 R2 a4 fa4 a5;have a2:w6.cell? ⟨ga,2,none⟩=some (.bool false):=(Blk.cell S1.out.a 2).trans (by simp[PAct.cells,hg]);replace hg:=Hd hg;have a4:w6.cell? ⟨ga,4,none⟩=some (.int .i64 1):=Blk.cell S1.out.a 4;have fa4:w6.frozen? ⟨ga,4,none⟩=false:=Blk.free S1.out.a 4;go_wp2_with (go_quiet (fail));go_end0;exact⟨rfl,S1.out.ext XI,S2.out.ext XI⟩
theorem W5 (bs gm gc gp gn go ga:Nat)(M:List Int)(P:PoolS)(a:PAct)(o:OwL)(w:World)(H:PW w bs gm gc gp gn go ga M P a)(ho:P.ows[a.wk]?=some o)(hW:P.ows.length<=100)(hb:P.base<=1048576)(hl:o.xs.length<=1000)(hno:(a.give=true/\2<=o.xs.length)\/(a.give=false/\o.xs=[]))(x:Int)(hx:M[P.base]?=some x)(ht:Zl x)(hg:a.give=true) :
  Calls Try.prog 48 #[.pointer (some ⟨ga,0,none⟩)] w fun e w'=>e=.returned (.tuple #[])/\PW w' bs gm gc gp gn go ga M P { a with top:=x,ph:=1 }/\Mod (PT ga gm gc) w w':=by
 have PR:=Hd (Xe bs gm gc gp gn go ga P a o w H.p H.a ho hno hW hl);have HH:=Hd H;have GE:=Hd (fun(W:World) (h:MemB W gm gc M)=>YC gm gc M P.base x W h hx);have UN:=Hd (fun(W:World)=>Zn x W ht);generalize hpl:pla x=px at *;replace hpl:=Hd hpl;clear H;go_enter Try.func48,Try.ntmps48;go_wp2_with (fail);refine PR.out.mono ?_;rintro e w1 ⟨rfl,x1⟩;have H1:=Hd (HH.out.ext x1);replace x1:=Hd x1;clear PR;have a0:w1.cell? ⟨ga,0,none⟩=some (.pointer (some ⟨gp,0,none⟩)):=Blk.cell H1.out.a 0;have p0:w1.cell? ⟨gp,0,none⟩=some (.pointer (some ⟨gm,0,none⟩)):=H1.out.p.p.cell 0;have p1:w1.cell? ⟨gp,1,none⟩=some (.int .i64 (P.base:Int)):=H1.out.p.p.cell 1;have za:=Blk.lt H1.out.a;have zp:=H1.out.p.p.lt;go_upto_region 2 with(fail);refine wp_region_any (by kernel_rfl) ?_
 change wpAny _ _ _ _ _ _ _ (World.drew _)
 refine Za (i:=0) (op:=Op.move (Operand.tmp 0)) (t:=39) (d:=some 10) (v:=_) rfl (by decide +kernel) (fun _ _ _ h=>h) (by intro _;unfold Zb;go_simp;try with_reducible rfl) ?_
 try simp only[lay]
 refine Za (i:=1) (op:=Op.move (Operand.tmp 0)) (t:=39) (d:=some 11) (v:=_) rfl (by decide +kernel) (fun _ _ _ h=>h) (by intro _;unfold Zb;go_simp;try with_reducible rfl) ?_
 try simp only[lay]
 refine Za (i:=2) (op:=Op.nilCheck (Operand.tmp 11)) (t:=0) (d:=some 12) (v:=_) rfl (by decide +kernel) (fun _ _ _ h=>h) (by intro _;unfold Zb;go_simp;try with_reducible rfl) ?_
 try simp only[lay]
 refine Za (i:=3) (op:=Op.fieldAddr 77 (Operand.tmp 12) 0) (t:=0) (d:=some 13) (v:=_) rfl (by decide +kernel) (fun _ _ _ h=>h) (by intro _;unfold Zb;go_simp;try with_reducible rfl) ?_
 try simp only[lay]
 refine Za (i:=8) (op:=Op.move (Operand.tmp 0)) (t:=39) (d:=some 18) (v:=_) rfl (by decide +kernel) (fun _ _ _ h=>h) (by intro _;unfold Zb;go_simp;try with_reducible rfl) ?_
 try simp only[lay]
 refine Za (i:=9) (op:=Op.nilCheck (Operand.tmp 18)) (t:=0) (d:=some 19) (v:=_) rfl (by decide +kernel) (fun _ _ _ h=>h) (by intro _;unfold Zb;go_simp;try with_reducible rfl) ?_
 try simp only[lay]
 refine Za (i:=10) (op:=Op.fieldAddr 77 (Operand.tmp 19) 0) (t:=0) (d:=some 20) (v:=_) rfl (by decide +kernel) (fun _ _ _ h=>h) (by intro _;unfold Zb;go_simp;try with_reducible rfl) ?_
 try simp only[lay]
 refine Zi (n:=7) [(4,some 14),(5,some 15),(6,some 16),(7,some 17),(11,some 21),(12,some 22),(13,some 23),(14,some 24)] (Ext w1) (VF (fun | 4=>some (.pointer (some ⟨gp,0,none⟩)) | 5=>some (.pointer (some ⟨gp,0,none⟩)) | 6=>some (.pointer (some ⟨gp,0,none⟩)) | 7=>some (.pointer (some ⟨gm,0,none⟩)) | 11=>some (.pointer (some ⟨gp,0,none⟩)) | 12=>some (.pointer (some ⟨gp,0,none⟩)) | 13=>some (.pointer (some ⟨gp,1,none⟩)) | 14=>some (.int .i64 (P.base:Int)) | _=>none) (fun i v W=>True)) Ext #[true,true,true,true,true,true,true,true,true,true,true,true,true,true,true,false,false,false,false,false,false,false] (by decide +kernel) (VF.stab ?_) ?_ ?_ (by first | exact(Ext.rf _).drew | exact Ext.rf _)
 ·intro j v W W' _ _ _;trivial
 ·intro pS hpm uS wS hRW hD K hK
  simp only[List.mem_cons,List.not_mem_nil,or_false] at hpm;rcases hpm with rfl | rfl | rfl | rfl | rfl | rfl | rfl | rfl
  ·( have rX:=Zf hRW za a0;exact Ze (T:=29) (x:=Operand.tmp 13) (t:=29) (d:=some 14) rfl (.pointer (some ⟨ga,0,none⟩)) (by kernel_rfl) (.pointer (some ⟨gp,0,none⟩)) (by go_simp) (hK _ _ (VF.mk rfl) hRW (Ext.rf _)))
  ·(have e4:uS 4=.pointer (some ⟨gp,0,none⟩):=(hD 4 (Zg (by kernel_rfl))).k rfl;exact Zm (op:=Op.nilCheck (Operand.tmp 14)) (t:=0) (d:=some 15) rfl (.pointer (some ⟨gp,0,none⟩)) (by simp only[Zc,Act.put,List.setIfInBounds_toArray,List.set_cons_zero,List.set_cons_succ];unfold Zb;(try go_simp);(try simp only[e4]);(try go_simp);(try rfl);(try (exact IntWalk.i64_in _ (by omega)))) (hK _ _ (VF.mk rfl) hRW (Ext.rf _)))
  ·(have e5:uS 5=.pointer (some ⟨gp,0,none⟩):=(hD 5 (Zg (by kernel_rfl))).k rfl;exact Zm (op:=Op.fieldAddr 66 (Operand.tmp 15) 0) (t:=0) (d:=some 16) rfl (.pointer (some ⟨gp,0,none⟩)) (by simp only[Zc,Act.put,List.setIfInBounds_toArray,List.set_cons_zero,List.set_cons_succ];unfold Zb;(try go_simp);(try simp only[e5]);(try go_simp);(try rfl);(try (exact IntWalk.i64_in _ (by omega)))) (hK _ _ (VF.mk rfl) hRW (Ext.rf _)))
  ·(have e6:uS 6=.pointer (some ⟨gp,0,none⟩):=(hD 6 (Zg (by kernel_rfl))).k rfl;have rX:=Zf hRW zp p0;exact Ze (T:=24) (x:=Operand.tmp 16) (t:=24) (d:=some 17) rfl (.pointer (some ⟨gp,0,none⟩)) (Eq.trans (b:=uS 6) (by kernel_rfl) e6) (.pointer (some ⟨gm,0,none⟩)) (by go_simp) (hK _ _ (VF.mk rfl) hRW (Ext.rf _)))
  ·( have rX:=Zf hRW za a0;exact Ze (T:=29) (x:=Operand.tmp 20) (t:=29) (d:=some 21) rfl (.pointer (some ⟨ga,0,none⟩)) (by kernel_rfl) (.pointer (some ⟨gp,0,none⟩)) (by go_simp) (hK _ _ (VF.mk rfl) hRW (Ext.rf _)))
  ·(have e11:uS 11=.pointer (some ⟨gp,0,none⟩):=(hD 11 (Zg (by kernel_rfl))).k rfl;exact Zm (op:=Op.nilCheck (Operand.tmp 21)) (t:=0) (d:=some 22) rfl (.pointer (some ⟨gp,0,none⟩)) (by simp only[Zc,Act.put,List.setIfInBounds_toArray,List.set_cons_zero,List.set_cons_succ];unfold Zb;(try go_simp);(try simp only[e11]);(try go_simp);(try rfl);(try (exact IntWalk.i64_in _ (by omega)))) (hK _ _ (VF.mk rfl) hRW (Ext.rf _)))
  ·(have e12:uS 12=.pointer (some ⟨gp,0,none⟩):=(hD 12 (Zg (by kernel_rfl))).k rfl;exact Zm (op:=Op.fieldAddr 66 (Operand.tmp 22) 1) (t:=0) (d:=some 23) rfl (.pointer (some ⟨gp,1,none⟩)) (by simp only[Zc,Act.put,List.setIfInBounds_toArray,List.set_cons_zero,List.set_cons_succ];unfold Zb;(try go_simp);(try simp only[e12]);(try go_simp);(try rfl);(try (exact IntWalk.i64_in _ (by omega)))) (hK _ _ (VF.mk rfl) hRW (Ext.rf _)))
  ·(have e13:uS 13=.pointer (some ⟨gp,1,none⟩):=(hD 13 (Zg (by kernel_rfl))).k rfl;have rX:=Zf hRW zp p1;exact Ze (T:=3) (x:=Operand.tmp 23) (t:=3) (d:=some 24) rfl (.pointer (some ⟨gp,1,none⟩)) (Eq.trans (b:=uS 13) (by kernel_rfl) e13) (.int .i64 (P.base:Int)) (by go_simp) (hK _ _ (VF.mk rfl) hRW (Ext.rf _)))
 intro u w3 hR3 hV;have h4:=(hV (4,some 14) (by simp)).k rfl;have h5:=(hV (5,some 15) (by simp)).k rfl;have h6:=(hV (6,some 16) (by simp)).k rfl;have h7:=(hV (7,some 17) (by simp)).k rfl;have h11:=(hV (11,some 21) (by simp)).k rfl;have h12:=(hV (12,some 22) (by simp)).k rfl;have h13:=(hV (13,some 23) (by simp)).k rfl;have h14:=(hV (14,some 24) (by simp)).k rfl;simp only[Zc,h4,h5,h6,h7,h11,h12,h13,h14];clear hV h4 h5 h6 h7 h11 h12 h13 h14
 try simp only[lay]
 refine Zd 15 (by decide +kernel) (Zh (f:=70) (xs:=#[Operand.tmp 17,Operand.tmp 24]) (ts:=#[24,3]) (t:=97) (d:=some 25) rfl #[.pointer (some ⟨gm,0,none⟩),.int .i64 (P.base:Int)] (by go_simp) (by kernel_rfl) _ (GE.out _ (H1.out.m.ext hR3)) ?_);rintro e w4 ⟨rfl,m4,d4⟩;have H4:=Hd ((H1.out.ext hR3).cell m4 d4);have D4:=Hd ((Mod.of_ext (x1.out.tr hR3):Mod (CS gm gc) w w3).tr d4);clear m4 d4 hR3 a0 p0 p1 GE;refine⟨_,rfl,?_⟩
 try simp only[lay]
 refine Za (i:=16) (op:=Op.move (Operand.tmp 25)) (t:=97) (d:=some 9) (v:=_) rfl (by decide +kernel) (fun _ _ _ h=>h) (by intro _;unfold Zb;go_simp;try with_reducible rfl) ?_
 try simp only[lay]
 refine Za (i:=17) (op:=Op.extract (Operand.tmp 9) 0) (t:=3) (d:=some 26) (v:=_) rfl (by decide +kernel) (fun _ _ _ h=>h) (by intro _;unfold Zb;go_simp;try with_reducible rfl) ?_
 try simp only[lay]
 refine Za (i:=18) (op:=Op.extract (Operand.tmp 9) 1) (t:=25) (d:=some 27) (v:=_) rfl (by decide +kernel) (fun _ _ _ h=>h) (by intro _;unfold Zb;go_simp;try with_reducible rfl) ?_
 try simp only[lay]
 refine Za (i:=19) (op:=Op.nilCheck (Operand.tmp 10)) (t:=0) (d:=some 28) (v:=_) rfl (by decide +kernel) (fun _ _ _ h=>h) (by intro _;unfold Zb;go_simp;try with_reducible rfl) ?_
 try simp only[lay]
 refine Za (i:=20) (op:=Op.fieldAddr 77 (Operand.tmp 28) 5) (t:=0) (d:=some 29) (v:=_) rfl (by decide +kernel) (fun _ _ _ h=>h) (by intro _;unfold Zb;go_simp;try with_reducible rfl) ?_
 try simp only[lay]
 have a5:w4.cell? ⟨ga,5,none⟩=some (.int .i64 a.top):=Blk.cell H4.out.a 5;have fa5:w4.frozen? ⟨ga,5,none⟩=false:=Blk.free H4.out.a 5;obtain⟨q1,q2⟩:=H4.out.field 5 (.int .i64 x) (a':={ a with top:=x }) rfl;have Q1:=Hd q1;have Q2:=Hd ((D4.out.mono fun b _ h=>(.inr h:PT ga gm gc b)).tr (q2.mono fun b _ h=>(.inl h:PT ga gm gc b)));clear q1 q2 H4 D4;refine Zd 21 (by decide +kernel) (ZQ rfl (.pointer (some ⟨ga,5,none⟩)) (.int .i64 x) (by kernel_rfl) (by kernel_rfl) (by go_simp;rfl) ?_);refine wpAny_done (by kernel_rfl) ?_ _;go_simp;clear a5 fa5;generalize w4.setCell ⟨ga,5,none⟩ (.int .i64 x)=w5 at *;have a4:w5.cell? ⟨ga,4,none⟩=some (.int .i64 a.ph):=Blk.cell Q1.out.a 4;have fa4:w5.frozen? ⟨ga,4,none⟩=false:=Blk.free Q1.out.a 4;obtain⟨q1,q2⟩:=Q1.out.field 4 (.int .i64 1) (a':={ a with top:=x,ph:=1 }) rfl;have R1:=Hd q1;have R2:=Hd (Q2.out.tr (q2.mono fun b _ h=>(.inl h:PT ga gm gc b)));clear q1 q2 Q1 Q2;have a5:(w5.setCell ⟨ga,4,none⟩ (.int .i64 1)).cell? ⟨ga,5,none⟩=some (.int .i64 x):=Blk.cell R1.out.a 5;go_wp2_with (fail);refine(UN.out _).mono ?_;rintro e w6 ⟨rfl,x6⟩;have S1:=Hd (R1.out.ext x6);have S2:=Hd (R2.out.ext x6);clear x6 UN R1 R2 a4 fa4 a5;have a2:w6.cell? ⟨ga,2,none⟩=some (.bool true):=(Blk.cell S1.out.a 2).trans (by simp[PAct.cells,hg]);replace hg:=Hd hg;have a4:w6.cell? ⟨ga,4,none⟩=some (.int .i64 1):=Blk.cell S1.out.a 4;have fa4:w6.frozen? ⟨ga,4,none⟩=false:=Blk.free S1.out.a 4
 by_cases e0:px<0
 ·go_wp2_with (go_quiet (fail))
  go_end0;exact⟨rfl,S1.out.ext XI,S2.out.ext XI⟩
 ·go_wp2_with (go_quiet (fail))
  go_end0;exact⟨rfl,S1.out.ext XI,S2.out.ext XI⟩
end
section
theorem Ww (ga gp:Nat)(a:PAct)(w:World)(A:ZO w ga gp a)(h:a.ph=0)(R:World->PAct->Prop)(hR:∀ W b,R W b->ZO W ga gp b)(HC:Calls Try.prog 48 #[.pointer (some ⟨ga,0,none⟩)] w fun e w'=>e=.returned (.tuple #[])/\∃ b,R w' b) :
  Calls Try.prog 34 #[.pointer (some ⟨ga,0,none⟩)] w fun e w'=>∃ b,e=.returned (.bool (b.ph==3))/\R w' b:=by
 have a4:w.cell? ⟨ga,4,none⟩=some (.int .i64 0):=(Blk.cell A 4).trans (by simp[PAct.cells,h]);replace HC:=Hd HC;clear A h;go_enter Try.func34,Try.ntmps34;go_wp2_with (go_quiet (fail));refine HC.out.mono ?_;rintro e w1 ⟨rfl,b,hb⟩;have b4:w1.cell? ⟨ga,4,none⟩=some (.int .i64 b.ph):=Blk.cell (hR w1 b hb) 4;replace hb:=Hd hb;clear a4 HC;go_wp2_with (go_quiet (fail));go_ret;exact⟨b,rfl,hb.out⟩
theorem Wj (ga gp:Nat)(a:PAct)(w:World)(A:ZO w ga gp a)(h:a.ph=1)(R:World->PAct->Prop)(hR:∀ W b,R W b->ZO W ga gp b)(HC:Calls Try.prog 49 #[.pointer (some ⟨ga,0,none⟩)] w fun e w'=>e=.returned (.tuple #[])/\∃ b,R w' b) :
  Calls Try.prog 34 #[.pointer (some ⟨ga,0,none⟩)] w fun e w'=>∃ b,e=.returned (.bool (b.ph==3))/\R w' b:=by
 have a4:w.cell? ⟨ga,4,none⟩=some (.int .i64 1):=(Blk.cell A 4).trans (by simp[PAct.cells,h]);replace HC:=Hd HC;clear A h;go_enter Try.func34,Try.ntmps34;go_wp2_with (go_quiet (fail));refine HC.out.mono ?_;rintro e w1 ⟨rfl,b,hb⟩;have b4:w1.cell? ⟨ga,4,none⟩=some (.int .i64 b.ph):=Blk.cell (hR w1 b hb) 4;replace hb:=Hd hb;clear a4 HC;go_wp2_with (go_quiet (fail));go_ret;exact⟨b,rfl,hb.out⟩
theorem Wx (ga gp:Nat)(a:PAct)(w:World)(A:ZO w ga gp a)(h:a.ph=2)(R:World->PAct->Prop)(hR:∀ W b,R W b->ZO W ga gp b)(HC:Calls Try.prog 50 #[.pointer (some ⟨ga,0,none⟩)] w fun e w'=>e=.returned (.tuple #[])/\∃ b,R w' b) :
  Calls Try.prog 34 #[.pointer (some ⟨ga,0,none⟩)] w fun e w'=>∃ b,e=.returned (.bool (b.ph==3))/\R w' b:=by
 have a4:w.cell? ⟨ga,4,none⟩=some (.int .i64 2):=(Blk.cell A 4).trans (by simp[PAct.cells,h]);replace HC:=Hd HC;clear A h;go_enter Try.func34,Try.ntmps34;go_wp2_with (go_quiet (fail));refine HC.out.mono ?_;rintro e w1 ⟨rfl,b,hb⟩;have b4:w1.cell? ⟨ga,4,none⟩=some (.int .i64 b.ph):=Blk.cell (hR w1 b hb) 4;replace hb:=Hd hb;clear a4 HC;go_wp2_with (go_quiet (fail));go_ret;exact⟨b,rfl,hb.out⟩
theorem Xf (bs gm gc gp gn go:Nat)(P:PoolS)(w:World)(H:PoolR w bs gm gc gp gn go P)(s:Nat)(hs:s<P.n)(hn:P.n<=100000) :
  Calls Try.prog 35 #[.pointer (some ⟨gp,0,none⟩),.int .i64 (s:Int)] w fun e w'=>e=.returned (.bool true)/\Ext w w':=by
 have p2:w.cell? ⟨gp,2,none⟩=some (.slice (some ⟨gn,0,none⟩) P.n P.n):=H.p.cell 2;have e1:(s:Int)>=0:=by omega
 have e2:(s:Int)<(P.n:Int):=by omega
 clear H;go_enter Try.func35,Try.ntmps35;go_wp2_with (go_quiet (fail));go_ret;exact⟨rfl,XI⟩
theorem Vy (bs gm gc gp gn go:Nat)(P:PoolS)(w:World)(H:PoolR w bs gm gc gp gn go P)(k:Nat)(hk:k<P.ows.length)(hW:P.ows.length<=100) :
  Calls Try.prog 11 #[.pointer (some ⟨gp,0,none⟩),.int .i64 (k:Int)] w fun e w'=>∃ ga,e=.returned (.pointer (some ⟨ga,0,none⟩))/\ZO w' ga gp ⟨k,false,-1,0,0,0⟩/\w.heap.size<=ga/\Ext w w':=by
 have p3:w.cell? ⟨gp,3,none⟩=some (.slice (some ⟨go,0,none⟩) P.ows.length P.ows.length):=H.p.cell 3;have e1:¬(k:Int)<0:=by omega
 have e2:¬(k:Int)>=(P.ows.length:Int):=by omega
 have zz:w.heap.size=w.heap.size:=rfl;clear H;go_enter Try.func11,Try.ntmps11;go_wp2_with (go_quiet (fail));go_ret;exact⟨_,rfl,by unfold ZO PAct.cells;exact Blk.new rfl,by simp,XI⟩
theorem Vz (bs gm gc gp gn go:Nat)(P:PoolS)(w:World)(H:PoolR w bs gm gc gp gn go P)(k s:Nat)(hk:k<P.ows.length)(hW:P.ows.length<=100)(hs:s<P.n)(hn:P.n<=100000) :
  Calls Try.prog 18 #[.pointer (some ⟨gp,0,none⟩),.int .i64 (k:Int),.int .i64 (s:Int)] w fun e w'=>∃ ga,e=.returned (.pointer (some ⟨ga,0,none⟩))/\ZO w' ga gp ⟨k,true,s,0,0,0⟩/\w.heap.size<=ga/\Ext w w':=by
 have HA:=Hd (fun(W:World) (X:Ext w W)=>Xf bs gm gc gp gn go P W (H.ext X) s hs hn);have p3:w.cell? ⟨gp,3,none⟩=some (.slice (some ⟨go,0,none⟩) P.ows.length P.ows.length):=H.p.cell 3;have zp:=H.p.lt;have e1:¬(k:Int)<0:=by omega
 have e2:¬(k:Int)>=(P.ows.length:Int):=by omega
 clear H;go_enter Try.func18,Try.ntmps18;go_wp2_with (go_quiet (fail));refine(HA.out _ XI).mono ?_;rintro e w1 ⟨rfl,x1⟩;have X1:=Hd (Ext.tr (a:=w) XI x1);have p3:=Zf X1.out zp p3;clear x1 HA;go_wp2_with (go_quiet (fail));go_ret;exact⟨_,rfl,by unfold ZO PAct.cells;exact Blk.new rfl,by have:=X1.out.size;simpa using this,X1.out.tr XI⟩
theorem YP (ga gp:Nat)(a:PAct)(w:World)(A:ZO w ga gp a)(h:a.ph=3) :
  Calls Try.prog 14 #[.pointer (some ⟨ga,0,none⟩)] w fun e w'=>e=.returned (.int .i64 a.slot)/\Ext w w':=by
 have a4:w.cell? ⟨ga,4,none⟩=some (.int .i64 3):=(Blk.cell A 4).trans (by simp[PAct.cells,h]);have a3:w.cell? ⟨ga,3,none⟩=some (.int .i64 a.slot):=Blk.cell A 3;clear A h;go_enter Try.func14,Try.ntmps14;go_wp2_with (go_quiet (fail));go_ret;exact⟨rfl,XI⟩
theorem Z0 (bs gm gc gp gn go:Nat)(P:PoolS)(w:World)(H:PoolR w bs gm gc gp gn go P)(s:Nat)(hs:s<P.n)(hn:P.n<=100000)(b:Int)(hb:P.nv[s*2+1]?=some (.int .i64 b)) :
  Calls Try.prog 23 #[.pointer (some ⟨gp,0,none⟩),.int .i64 (s:Int)] w fun e w'=>e=.returned (.int .i64 b)/\Ext w w':=by
 have HA:=Hd (fun(W:World) (X:Ext w W)=>Xf bs gm gc gp gn go P W (H.ext X) s hs hn);have p2:w.cell? ⟨gp,2,none⟩=some (.slice (some ⟨gn,0,none⟩) P.n P.n):=H.p.cell 2;have n1:w.cell? ⟨gn,s*2+1,none⟩=some (.int .i64 b):=(H.nd.cell (s*2+1)).trans (by simpa using hb);have zp:=H.p.lt;have zn:=H.nd.lt;have e1:(0:Int)<=(s:Int):=by omega
 have e2:(s:Int)<(P.n:Int):=by omega
 clear H;go_enter Try.func23,Try.ntmps23;go_wp2_with (go_quiet (fail));refine(HA.out _ XI).mono ?_;rintro e w1 ⟨rfl,x1⟩;have X1:=Hd (Ext.tr (a:=w) XI x1);have p2:=Zf X1.out zp p2;have n1:=Zf X1.out zn n1;clear x1 HA;go_wp2_with (go_quiet (fail));go_ret;exact⟨rfl,X1.out.tr XI⟩
def Qe (xs:List Int)(b:Int)(w:World)(e:Ending)(w':World) : Prop:=∃ A c,e=.returned (.agg #[.slice A xs.length c,.int .i64 b])/\OwI w' w.heap.size A c xs/\Ext w w'
theorem Wy (xs:List Int)(b:Int)(A:Option Addr)(c:Nat)(w:World)(hA:RdI w A xs)(hl:xs.length<=2^44) :
  Calls Try.prog 36 #[.agg #[.slice A xs.length c,.int .i64 b]] w (Qe xs b w):=by
 unfold Qe;have X:Ext w ((w.alloc (.cells #[.slice A xs.length c,.int .i64 b] 45)).alloc (.cells #[.slice none 0 0,.int .i64 0] 45)):=((Ext.rf _).alloc _).alloc _;have B1:Blk ((w.alloc (.cells #[.slice A xs.length c,.int .i64 b] 45)).alloc (.cells #[.slice none 0 0,.int .i64 0] 45)) w.heap.size 45 #[.slice A xs.length c,.int .i64 b]:=.alloc (.new rfl) _;have B2:Blk ((w.alloc (.cells #[.slice A xs.length c,.int .i64 b] 45)).alloc (.cells #[.slice none 0 0,.int .i64 0] 45)) (w.heap.size+1) 45 #[.slice none 0 0,.int .i64 0]:=.new (by simp);replace X:=Hd X;replace B1:=Hd B1;replace B2:=Hd B2;go_enter Try.func36,Try.ntmps36;go_wp2_with (fail);generalize (w.alloc (.cells #[.slice A xs.length c,.int .i64 b] 45)).alloc (.cells #[.slice none 0 0,.int .i64 0] 45)=wr at *;have a0:wr.cell? ⟨w.heap.size,0,none⟩=some (.slice A xs.length c):=B1.out.cell 0;have a1:wr.cell? ⟨w.heap.size,1,none⟩=some (.int .i64 b):=B1.out.cell 1;have z1:=B1.out.lt;have z2:=B2.out.lt;have hA':=Hd (hA.ext X.out);go_region_held3 (fun w'=>w'.cell? ⟨w.heap.size,0,none⟩=some (.slice A xs.length c)/\w'.cell? ⟨w.heap.size,1,none⟩=some (.int .i64 b)) (go_keep)
  (first | (go_at_call 37;refine(YN A c xs _ (hA'.out.ext XI) hl).mono ?_;rintro e w3 ⟨A3,c3,rfl,o3,x3⟩;have y3:=Ext.tr (a:=wr) XI x3;have s1:=Zf y3 z1 a0;have s2:=Zf y3 z1 a1;have t0:w3.cell? ⟨w.heap.size+1,0,none⟩=some (.slice none 0 0):=(B2.out.ext y3).cell 0;have t1:w3.cell? ⟨w.heap.size+1,1,none⟩=some (.int .i64 0):=(B2.out.ext y3).cell 1;have f0:=(B2.out.ext y3).free 0;have f1:=(B2.out.ext y3).free 1))
 all_goals
  have hz3:=(X.out.tr y3).size;have hxy:w.heap.size<=wr.heap.size:=X.out.size;have Bq:=Hd (B2.out.ext y3);have OF:=Hd (OwI.more (base':=w.heap.size) o3 (by first | exact hxy | (simp;omega)));have M:=Hd ((ModT.set w3 Bq.out (ts:=[45]) (base:=w.heap.size) (by simp) (by omega) 0 (.slice A3 xs.length c3)).tr (ModT.set _ (Bq.out.set 0 (.slice A3 xs.length c3)) (by simp) (by omega) 1 (.int .i64 b)));go_wp2_with (fail);exact bodyPost_ret (v:=.agg #[.slice A3 xs.length c3,.int .i64 b]) (by simp[results,Try.results36,go_sem, *]) rfl ⟨A3,c3,rfl,OF.out.modT M.out (by decide),(X.out.tr y3).modT M.out (Nat.le_refl _)⟩
theorem PoolR.node {w:World}{bs gm gc gp gn go:Nat}{P:PoolS}(h:PoolR w bs gm gc gp gn go P)(i:Nat)(v:Value) : PoolR (w.setCell ⟨gn,i,none⟩ v) bs gm gc gp gn go { P with nv:=P.nv.set i v }:=by
 refine⟨h.p.far (p:=⟨gn,i,none⟩) (h.p.ne h.nd (by decide)) _,?_,by simpa using h.ln,h.ow.far (p:=⟨gn,i,none⟩) (h.ow.ne h.nd (by decide)) _,fun k o ho=>⟨(h.oi k o ho).1.far h.nd (by decide) _ _,(h.oi k o ho).2⟩,h.dj⟩;have:=h.nd.set i v
 rwa [show (List.toArray P.nv).setIfInBounds i v=List.toArray (P.nv.set i v) by simp] at this
theorem VC (bs gm gc gp gn go:Nat)(P:PoolS)(w:World)(H:PoolR w bs gm gc gp gn go P)(s:Nat)(hs:s<P.n)(hn:P.n<=100000)(xs:List Int)(b:Int)(A:Option Addr)(c:Nat)(hA:RdI w A xs)(hl:xs.length<=2^44) :
  Calls Try.prog 13 #[.pointer (some ⟨gp,0,none⟩),.int .i64 (s:Int),.agg #[.slice A xs.length c,.int .i64 b]] w fun e w'=>e=.returned (.tuple #[])/\(∃ A' c',PoolR w' bs gm gc gp gn go { P with nv:=(P.nv.set (s*2) (.slice A' xs.length c')).set (s*2+1) (.int .i64 b) }/\OwI w' w.heap.size A' c' xs)/\Mod (fun k=>k=gn) w w':=by
 have HA:=Hd (fun(W:World) (X:Ext w W)=>Xf bs gm gc gp gn go P W (H.ext X) s hs hn);have HH:=Hd H;have e1:(0:Int)<=(s:Int):=by omega
 have e2:(s:Int)<(P.n:Int):=by omega
 have l1:s*2+1<P.nv.length:=by rw[H.ln];omega
 obtain⟨v0,hv0⟩:∃ v0,P.nv[s*2]?=some v0:=⟨_,List.getElem?_eq_getElem (by omega)⟩;obtain⟨v1,hv1⟩:∃ v1,P.nv[s*2+1]?=some v1:=⟨_,List.getElem?_eq_getElem (by omega)⟩;have B1:Hid (Blk (w.alloc (.cells #[.slice A xs.length c,.int .i64 b] 45)) w.heap.size 45 #[.slice A xs.length c,.int .i64 b]):=Hd (.new rfl);clear H;go_enter Try.func13,Try.ntmps13;go_wp2_with (fail);refine(HA.out _ XI).mono ?_;rintro e w1 ⟨rfl,x1⟩;have B:=Hd (B1.out.ext x1);have X1:=Hd (Ext.tr (a:=w) XI x1);clear x1 HA B1;have H1:=Hd (HH.out.ext X1.out);have hA1:=Hd (hA.ext X1.out);have p2:w1.cell? ⟨gp,2,none⟩=some (.slice (some ⟨gn,0,none⟩) P.n P.n):=H1.out.p.cell 2;have a0:w1.cell? ⟨w.heap.size,0,none⟩=some (.slice A xs.length c):=B.out.cell 0;have a1:w1.cell? ⟨w.heap.size,1,none⟩=some (.int .i64 b):=B.out.cell 1;have z1:=B.out.lt;have zp:=H1.out.p.lt;have NC:=Hd (fun(W:World) (h:RdI W A xs)=>Wy xs b A c W h hl);have zn:=H1.out.nd.lt;have d1:w.heap.size≠gn:=by have:=HH.out.nd.lt;omega
 have d2:gn≠w.heap.size:=fun h=>d1 h.symm
 have d3:gp≠gn:=HH.out.p.ne HH.out.nd (by decide);have d4:gn≠gp:=fun h=>d3 h.symm
 go_wp2_with (go_quiet (fail));go_region_held3 (fun w'=>w'.cell? ⟨w.heap.size,0,none⟩=some (.slice A xs.length c)/\w'.cell? ⟨w.heap.size,1,none⟩=some (.int .i64 b)/\w'.cell? ⟨gp,2,none⟩=some (.slice (some ⟨gn,0,none⟩) P.n P.n)) (go_keep)
  (first | (go_at_call 36;refine(NC.out _ (hA1.out.ext XI)).mono ?_;rintro e w3 ⟨A3,c3,rfl,o3,x3⟩;have y3:=Ext.tr (a:=w1) XI x3;have s0:=Zf y3 z1 a0;have s1:=Zf y3 z1 a1;have s2:=Zf y3 zp p2;have t0:w3.cell? ⟨gn,s*2,none⟩=some v0:=((H1.out.ext y3).nd.cell (s*2)).trans (by simpa using hv0);have t1:w3.cell? ⟨gn,s*2+1,none⟩=some v1:=((H1.out.ext y3).nd.cell (s*2+1)).trans (by simpa using hv1);have f0:=(H1.out.ext y3).nd.free (s*2);have f1:=(H1.out.ext y3).nd.free (s*2+1)))
 all_goals
  have hz3:=(X1.out.tr y3).size;have H3:=Hd (((H1.out.ext y3).node (s*2) (.slice A3 xs.length c3)).node (s*2+1) (.int .i64 b));have O3:=Hd (((OwI.more (base':=w.heap.size) o3 (by have:=X1.out.size;have:=y3.size;first | omega | (simp;omega))).far (H1.out.ext y3).nd (by decide) (s*2) (.slice A3 xs.length c3)).far ((H1.out.ext y3).node (s*2) (.slice A3 xs.length c3)).nd (by decide) (s*2+1) (.int .i64 b));have M3:Hid (Mod (fun k=>k=gn) w ((w3.setCell ⟨gn,s*2,none⟩ (.slice A3 xs.length c3)).setCell ⟨gn,s*2+1,none⟩ (.int .i64 b))):=Hd (Mod.set (S:=fun k=>k=gn) (p:=⟨gn,s*2+1,none⟩) (Mod.set (S:=fun k=>k=gn) (p:=⟨gn,s*2,none⟩) (Mod.of_ext (X1.out.tr y3)) (.inl rfl) _) (.inl rfl) _);clear H1 HH NC;go_wp2_with (go_quiet (fail));go_end0;exact⟨rfl,⟨A3,c3,H3.out,O3.out⟩,M3.out⟩
def ZK (w:World)(gh gm gp b lv:Nat) : Prop:=Blk w gh 69 #[.pointer (some ⟨gm,0,none⟩),.int .i64 (b:Int),.int .i64 (lv:Int),.pointer (some ⟨gp,0,none⟩)]
theorem Z7 (gh gm gp b lv:Nat)(w:World)(H:ZK w gh gm gp b lv)(hl:lv<=20) :
  Calls Try.prog 31 #[.pointer (some ⟨gh,0,none⟩)] w fun e w'=>e=.returned (.int .i64 ((2^lv-1:Nat):Int))/\Ext w w':=by
 have h2:w.cell? ⟨gh,2,none⟩=some (.int .i64 (lv:Int)):=Blk.cell H 2;clear H;have hp:2^lv<=2^20:=Nat.pow_le_pow_right (by omega) hl;have hp1:1<=2^lv:=Nat.one_le_two_pow;have hp2:(2:Int)^lv=((2^lv:Nat):Int):=by simp
 have w1:IntKind.i64.wrap ((2:Int)^lv)=((2^lv:Nat):Int):=by rw[hp2];exact IntWalk.i64_in _ (by omega)
 have w2:IntKind.i64.wrap (((2^lv:Nat):Int)-1)=((2^lv-1:Nat):Int):=by rw[show ((2^lv:Nat):Int)-1=((2^lv-1:Nat):Int) by omega];exact IntWalk.i64_in _ (by omega)
 clear hp2;generalize hq:((2^lv-1:Nat):Int)=q at *;replace hq:=Hd hq;generalize hr:((2^lv:Nat):Int)=r at *;replace hr:=Hd hr;go_enter Try.func31,Try.ntmps31;go_wp2_with (go_quiet (fail));go_ret;exact⟨rfl,XI⟩
theorem YQ (gh gm gp b lv:Nat)(w:World)(H:ZK w gh gm gp b lv)(i:Nat)(h1:1<=i)(hi:i<=2097152)(hb:b<=1048576) :
  Calls Try.prog 32 #[.pointer (some ⟨gh,0,none⟩),.int .i64 (i:Int)] w fun e w'=>e=.returned (.int .i64 ((b+(i-1):Nat):Int))/\Ext w w':=by
 have h2:w.cell? ⟨gh,1,none⟩=some (.int .i64 (b:Int)):=Blk.cell H 1;clear H;have w1:IntKind.i64.wrap ((b:Int)+(i:Int))=(b:Int)+(i:Int):=IntWalk.i64_in _ (by omega);have w2:IntKind.i64.wrap ((b:Int)+(i:Int)-1)=((b+(i-1):Nat):Int):=by rw[show (b:Int)+(i:Int)-1=((b+(i-1):Nat):Int) by omega];exact IntWalk.i64_in _ (by omega)
 go_enter Try.func32,Try.ntmps32;go_wp2_with (fail);go_ret;exact⟨rfl,XI⟩
theorem XS (gh gm gp b lv:Nat)(w:World)(H:ZK w gh gm gp b lv)(hl:lv<=20)(s:Nat)(hs:s<=100000)(hb:b<=1048576) :
  Calls Try.prog 77 #[.pointer (some ⟨gh,0,none⟩),.int .i64 (s:Int)] w fun e w'=>e=.returned (.int .i64 ((b+(2^lv-1)+s:Nat):Int))/\Ext w w':=by
 have PL:=Hd (fun(W:World) (X:Ext w W)=>Z7 gh gm gp b lv W (Blk.ext H X) hl);have h2:w.cell? ⟨gh,1,none⟩=some (.int .i64 (b:Int)):=Blk.cell H 1;have zh:=Blk.lt H;clear H;have hp:2^lv<=2^20:=Nat.pow_le_pow_right (by omega) hl;have hn:2^lv-1<=2^20:=by omega
 generalize 2^lv-1=n at *;have w1:IntKind.i64.wrap ((b:Int)+(n:Int))=(b:Int)+(n:Int):=IntWalk.i64_in _ (by omega);have w2:IntKind.i64.wrap ((b:Int)+(n:Int)+(s:Int))=((b+n+s:Nat):Int):=by rw[show (b:Int)+(n:Int)+(s:Int)=((b+n+s:Nat):Int) by omega];exact IntWalk.i64_in _ (by omega)
 go_enter Try.func77,Try.ntmps77;go_upto_region 1 with(fail);refine wp_region_any (by kernel_rfl) ?_
 change wpAny _ _ _ _ _ _ _ (World.drew _)
 refine Za (i:=0) (op:=Op.move (Operand.tmp 0)) (t:=32) (d:=some 5) (v:=_) rfl (by decide +kernel) (fun _ _ _ h=>h) (by intro _;unfold Zb;go_simp;try with_reducible rfl) ?_
 try simp only[lay]
 refine Za (i:=1) (op:=Op.nilCheck (Operand.tmp 5)) (t:=0) (d:=some 6) (v:=_) rfl (by decide +kernel) (fun _ _ _ h=>h) (by intro _;unfold Zb;go_simp;try with_reducible rfl) ?_
 try simp only[lay]
 refine Za (i:=2) (op:=Op.fieldAddr 69 (Operand.tmp 6) 1) (t:=0) (d:=some 7) (v:=_) rfl (by decide +kernel) (fun _ _ _ h=>h) (by intro _;unfold Zb;go_simp;try with_reducible rfl) ?_
 try simp only[lay]
 refine Za (i:=4) (op:=Op.move (Operand.tmp 0)) (t:=32) (d:=some 9) (v:=_) rfl (by decide +kernel) (fun _ _ _ h=>h) (by intro _;unfold Zb;go_simp;try with_reducible rfl) ?_
 try simp only[lay]
 refine Za (i:=7) (op:=Op.move (Operand.tmp 1)) (t:=3) (d:=some 12) (v:=_) rfl (by decide +kernel) (fun _ _ _ h=>h) (by intro _;unfold Zb;go_simp;try with_reducible rfl) ?_
 try simp only[lay]
 refine Zi (n:=3) [(3,some 8),(5,some 10)] (Ext w) (VF (fun | 3=>some (.int .i64 (b:Int)) | 5=>some (.int .i64 (n:Int)) | _=>none) (fun i v W=>True)) Ext #[true,true,true,true,true,true,false,true,false,false] (by decide +kernel) (VF.stab ?_) ?_ ?_ (by first | exact(Ext.rf _).drew | exact Ext.rf _)
 ·intro j v W W' _ _ _;trivial
 ·intro pS hpm uS wS hRW hD K hK
  simp only[List.mem_cons,List.not_mem_nil,or_false] at hpm;rcases hpm with rfl | rfl
  ·( have rX:=Zf hRW zh h2;exact Ze (T:=3) (x:=Operand.tmp 7) (t:=3) (d:=some 8) rfl (.pointer (some ⟨gh,1,none⟩)) (by kernel_rfl) (.int .i64 (b:Int)) (by go_simp) (hK _ _ (VF.mk rfl) hRW (Ext.rf _)))
  ·( exact Zh (f:=31) (xs:=#[Operand.tmp 9]) (ts:=#[32]) (t:=3) (d:=some 10) rfl #[.pointer (some ⟨gh,0,none⟩)] (by go_simp) (by kernel_rfl) _ (PL.out _ hRW) (by rintro e w9 ⟨rfl,xx⟩;exact⟨_,rfl,hK _ _ (VF.mk rfl) (hRW.tr xx) xx⟩))
 intro u w3 hR3 hV;have h3:=(hV (3,some 8) (by simp)).k rfl;have h5:=(hV (5,some 10) (by simp)).k rfl;simp only[Zc,h3,h5];clear hV h3 h5
 try simp only[lay]
 refine Za (i:=6) (op:=Op.binOp BinOp.add 3 (Operand.tmp 8) (Operand.tmp 10) 3) (t:=3) (d:=some 11) (v:=_) rfl (by decide +kernel) (fun _ _ _ h=>h) (by intro _;unfold Zb;go_simp;try with_reducible rfl) ?_
 try simp only[lay]
 refine Za (i:=8) (op:=Op.binOp BinOp.add 3 (Operand.tmp 11) (Operand.tmp 12) 3) (t:=3) (d:=some 13) (v:=_) rfl (by decide +kernel) (fun _ _ _ h=>h) (by intro _;unfold Zb;go_simp;try with_reducible rfl) ?_
 try simp only[lay]
 refine Za (i:=9) (op:=Op.assign (Operand.tmp 13)) (t:=3) (d:=some 4) (v:=_) rfl (by decide +kernel) (fun _ _ _ h=>h) (by intro _;unfold Zb;go_simp;try with_reducible rfl) ?_
 try simp only[lay]
 refine wpAny_done (by kernel_rfl) ?_ _;go_simp;go_wp2_with (fail);go_ret;exact⟨rfl,hR3⟩
def PB (P:PoolS)(bd:Nat->Int) : Prop:=∀ s,s<P.n->P.nv[s*2+1]?=some (.int .i64 (bd s))
def Yi (bd:Nat->Int)(x key:Int) : Bool:=decide (0<=pla x)&&decide (bd (pla x).toNat<key)
def ZR (bd:Nat->Int)(x y:Int) : Bool:=decide (0<=pla x)&&(decide (pla y<0) || decide (bd (pla x).toNat<bd (pla y).toNat))
theorem Ye (bs gm gc gp gn go gh b lv:Nat)(P:PoolS)(bd:Nat->Int)(w:World)(HH:ZK w gh gm gp b lv)(HP:PoolR w bs gm gc gp gn go P)(hbd:PB P bd)(hn:P.n<=100000)(x key:Int)(hx:Zl x)(hp:pla x<(P.n:Int)) :
  Calls Try.prog 74 #[.pointer (some ⟨gh,0,none⟩),.int .i64 x,.int .i64 key] w fun e w'=>e=.returned (.bool (Yi bd x key))/\Ext w w':=by
 have UN:=Hd (Zn x w hx);have h3:w.cell? ⟨gh,3,none⟩=some (.pointer (some ⟨gp,0,none⟩)):=Blk.cell HH 3;have zh:=Blk.lt HH;unfold Yi
 by_cases h0:0<=pla x
 ·obtain⟨s,hs⟩:=Int.eq_ofNat_of_zero_le h0
  rw[hs] at hp UN ⊢;have BO:=fun(W:World) (X:Ext w W)=>Z0 bs gm gc gp gn go P W (HP.ext X) s (by omega) hn (bd s) (hbd s (by omega))
  have e1:(s:Int)>=0:=by omega
  clear HH HP hbd hp hs h0 hx;obtain⟨k,hk⟩:∃ k,bd s=k:=⟨_,rfl⟩;rw[hk] at BO;rw[show (decide (0<=(s:Int))&&decide (bd (s:Int).toNat<key))=decide (k<key) by simp[hk]];clear hk;replace BO:=Hd BO;go_enter Try.func74,Try.ntmps74;go_wp2_with (fail);refine UN.out.mono ?_;rintro e w1 ⟨rfl,x1⟩;replace x1:=Hd x1;have h3:=Zf x1.out zh h3;go_wp2_with (go_quiet (fail));refine(BO.out _ (x1.out.tr XI)).mono ?_;rintro e w2 ⟨rfl,x2⟩;have X2:=Hd (x1.out.tr (Ext.tr (a:=w1) XI x2));clear x2 BO UN;go_wp2_with (go_quiet (fail));go_ret;exact⟨rfl,X2.out.tr XI⟩
 ·have e1:pla x<0:=by omega
  have e2:decide (0<=pla x)=false:=decide_eq_false h0;rw[e2,Bool.false_and];generalize pla x=px at *;clear HH HP hbd hp hx h3 e2 h0 hn bd P zh;go_enter Try.func74,Try.ntmps74;go_wp2_with (fail);refine UN.out.mono ?_;rintro e w1 ⟨rfl,x1⟩;replace x1:=Hd x1;clear UN;go_wp2_with (go_quiet (fail));go_ret;exact⟨rfl,x1.out.tr XI⟩
def ZP (x n:Int) : Int:=(IntKind.u64.wrap x).tmod n
theorem W6 (x:Int) : 0<=IntKind.u64.wrap x:=by
 simp only[IntKind.wrap,IntKind.signed,IntKind.bits,Bool.false_and];exact Int.emod_nonneg _ (by decide)
theorem YI {x n:Int}(hn:1<=n) : 0<=ZP x n/\ZP x n<n:=by
 unfold ZP;rw[Int.tmod_eq_emod_of_nonneg (W6 x)];exact⟨Int.emod_nonneg _ (by omega),Int.emod_lt_of_pos _ (by omega)⟩
theorem W7 {x:Int}(h0:0<=x)(h1:x<=9223372036854775807) : IntKind.u64.wrap x=x:=by
 simp only[IntKind.wrap,IntKind.signed,IntKind.bits,Bool.false_and];exact Int.emod_eq_of_lt h0 (by omega)
theorem W8 {x n:Int}(h0:0<=x)(h1:x<=9223372036854775807) : ZP x n=x.tmod n:=by
 unfold ZP;rw[W7 h0 h1]
theorem V8 {x n:Int}(h0:0<=x)(h1:x<=9223372036854775807) : ZP x n=x%n:=by
 rw[W8 h0 h1,Int.tmod_eq_emod_of_nonneg h0]
theorem VD (n:Int) : ZP 0 n=0:=by rw[V8 (by decide) (by decide)];simp
abbrev It := Int×Int
def Yw (l:List It) : List Value:=l.flatMap fun p=>[.int .i64 p.1,.int .i64 p.2]
theorem ZX (p:It)(l:List It) : Yw (p::l)=.int .i64 p.1::.int .i64 p.2::Yw l:=rfl
theorem Wz (l:List It) : (Yw l).length=l.length*2:=by
 induction l with
 | nil=>rfl
 | cons p l ih=>rw[ZX,List.length_cons,List.length_cons,ih,List.length_cons];omega
theorem V9 (l:List It) : ∀ u∈Yw l,u.oneCell'=true:=by
 intro u hu;obtain⟨p,_,hp⟩:=List.mem_flatMap.1 hu;simp at hp;rcases hp with rfl | rfl<;>rfl
abbrev Ls := List (List It)
def Zv (ls:Ls)(i:Nat)(key:Int) : Bool:=match ls.getD i [] with
 | []=>true
 | p::_=>decide (key<=p.1)
def Zt (ls:Ls)(i k:Nat) : Bool:=match ls.getD i [],ls.getD k [] with
 | [],_=>false
 | _::_,[]=>true
 | p::_,q::_=>decide (p.1<q.1)
def ZU (ls:Ls)(key:Int) : Nat->Nat->Nat
 | 0,_=>0
 | f+1,i=>if Zv ls i key then i else ZU ls key f (i+1)
def ZH (ls:Ls)(key:Int)(n:Nat) : List Int->Option Nat
 | []=>none
 | d::ds=>if Zv ls (n+(ZP d n).toNat) key then some (n+(ZP d n).toNat) else ZH ls key n ds
def Zz (ls:Ls)(key:Int)(draws:List Int) : Nat:=(ZH ls key (ls.length / 2) (draws.take 4)).getD (ZU ls key (ls.length / 2) (ls.length / 2))
def ZF : Nat->Nat->List Nat
 | 0,_=>[]
 | f+1,i=>if i=0 then [] else i::ZF f (i / 2)
def Zp (leaf:Nat) : List Nat:=(ZF (leaf+1) leaf).reverse
def ZL (ls:Ls)(key:Int)(path:List Nat) : Nat->Nat->Nat->Nat
 | 0,_,hi=>hi
 | f+1,lo,hi=>if lo<hi then(if Zv ls (path.getD ((lo+hi) / 2) 0) key then ZL ls key path f lo ((lo+hi) / 2) else ZL ls key path f ((lo+hi) / 2+1) hi) else hi
def Zu (ls:Ls)(key:Int)(leaf:Nat) : Nat:=(Zp leaf).getD (ZL ls key (Zp leaf) (Zp leaf).length 0 ((Zp leaf).length-1)) 0
def Zx : Nat->Ls->Nat->Ls
 | 0,ls,_=>ls
 | f+1,ls,i=>if i<ls.length / 2 then
   (if Zt ls (if Zt ls (2*i+1) (2*i) then 2*i+1 else 2*i) i then
    Zx f ((ls.set i (ls.getD (if Zt ls (2*i+1) (2*i) then 2*i+1 else 2*i) [])).set (if Zt ls (2*i+1) (2*i) then 2*i+1 else 2*i) (ls.getD i [])) (if Zt ls (2*i+1) (2*i) then 2*i+1 else 2*i)
   else ls)
  else ls
theorem Z4 {ls:Ls}{i:Nat}{l:List It}(h:ls[i]?=some l) : ls.getD i []=l:=by simp[List.getD,h]
def HeadsAt (w:World)(E SE:TypeId)(h:Nat)(ls:Ls) : Prop :=
 ∃ cs:Array Value,Blk w h SE cs/\cs.size=ls.length/\∀ (i:Nat) (l:List It),ls[i]?=some l->∃ (A:Option Addr) (c:Nat),cs[i]?=some (Value.slice A l.length c)/\RdV w E A (Yw l)/\l.length<=c
section
variable {w w':World} {E SE:TypeId} {h:Nat} {ls:Ls}
theorem HeadsAt.lt (H:HeadsAt w E SE h ls) : h<w.heap.size:=by obtain⟨cs,hb,_⟩:=H;exact hb.lt
theorem HeadsAt.at (H:HeadsAt w E SE h ls){i:Nat}{l:List It}(hl:ls[i]?=some l) : ∃ (A:Option Addr) (c:Nat),w.cell? ⟨h,i,none⟩=some (Value.slice A l.length c)/\w.frozen? ⟨h,i,none⟩=false/\RdV w E A (Yw l)/\l.length<=c:=by
 obtain⟨cs,hb,hs,hc⟩:=H;obtain⟨A,c,h1,h2,h3⟩:=hc i l hl;exact⟨A,c,by rw[hb.cell];exact h1,hb.free i,h2,h3⟩
theorem HeadsAt.ext (H:HeadsAt w E SE h ls)(hx:Ext w w') : HeadsAt w' E SE h ls:=by
 obtain⟨cs,hb,hs,hc⟩:=H;refine⟨cs,hb.ext hx,hs,fun i l hl=>?_⟩;obtain⟨A,c,h1,h2,h3⟩:=hc i l hl;exact⟨A,c,h1,h2.ext hx,h3⟩
theorem HeadsAt.mod {S:Nat->Prop}(H:HeadsAt w E SE h ls)(hm:Mod S w w')(hh:¬S h)(hE:∀ k cur,w.heap[k]?=some (.cells cur E (0,0))->¬S k) : HeadsAt w' E SE h ls:=by
 obtain⟨cs,hb,hs,hc⟩:=H;refine⟨cs,hb.mod hm hh,hs,fun i l hl=>?_⟩;obtain⟨A,c,h1,h2,h3⟩:=hc i l hl;exact⟨A,c,h1,h2.mod hm hE,h3⟩
theorem HeadsAt.set (H:HeadsAt w E SE h ls)(hne:E≠SE)(i:Nat){A:Option Addr}{c:Nat}{l:List It}(hr:RdV w E A (Yw l))(hl:l.length<=c) : HeadsAt (w.setCell ⟨h,i,none⟩ (.slice A l.length c)) E SE h (ls.set i l):=by
 obtain⟨cs,hb,hs,hc⟩:=H;have hm:Mod (fun k=>k=h) w (w.setCell ⟨h,i,none⟩ (.slice A l.length c)):=Mod.set (S:=fun k=>k=h) (p:=⟨h,i,none⟩) (Mod.rf w) (.inl rfl) _;have hE:∀ k cur,w.heap[k]?=some (.cells cur E (0,0))->¬k=h:=by
  rintro k cur hk rfl;exact Blk.ne (show Blk w k E cur from hk) hb hne rfl
 refine⟨_,hb.set i _,by simpa using hs,fun j m hj=>?_⟩;rw[Array.getElem?_setIfInBounds]
 by_cases hij:i=j
 ·subst hij
  have hlt:i<ls.length:=by
   have:=(List.getElem?_eq_some_iff.1 hj).1
   simpa using this
  rw[List.getElem?_set_self hlt] at hj
  injection hj with hj
  subst hj;rw[if_pos rfl,if_pos (by omega)];exact⟨A,c,rfl,hr.mod hm hE,hl⟩
 ·rw[List.getElem?_set_ne hij] at hj
  rw[if_neg hij];obtain⟨A',c',h1,h2,h3⟩:=hc j m hj;exact⟨A',c',h1,h2.mod hm hE,h3⟩
theorem HeadsAt.new {n:Nat}(hb:Blk w h SE (Array.replicate n (.slice none 0 0))) : HeadsAt w E SE h (List.replicate n []):=by
 refine⟨_,hb,by simp,fun i l hl=>?_⟩;obtain⟨hlt,hl⟩:=List.getElem?_eq_some_iff.1 hl;simp at hlt hl;subst hl;exact⟨none,0,by simp[hlt],.inl rfl,Nat.le_refl _⟩
end
def MoundRep (w:World)(base g:Nat)(ls:Ls)(sz:Int) : Prop :=
 ∃ h,Blk w g 72 #[.slice (some ⟨h,0,none⟩) ls.length ls.length,.int .i64 sz]/\base<=g/\base<=h/\HeadsAt w 52 88 h ls
theorem MoundRep.ext {w w':World}{base g:Nat}{ls:Ls}{sz:Int}(H:MoundRep w base g ls sz)(hx:Ext w w') : MoundRep w' base g ls sz:=by
 obtain⟨h,h1,h2,h3,h4⟩:=H;exact⟨h,h1.ext hx,h2,h3,h4.ext hx⟩
end
section
theorem HeadsAt.look {w:World}{E SE:TypeId}{h:Nat}{ls:Ls}(H:HeadsAt w E SE h ls){i:Nat}(hi:i<ls.length) :
  (Hid (ls.getD i []=[])/\∃ (A:Option Addr) (c:Nat),w.cell? ⟨h,i,none⟩=some (Value.slice A 0 c)) ∨
  (∃ p l b off c,Hid (ls.getD i []=p::l)/\w.cell? ⟨h,i,none⟩=some (.slice (some ⟨b,off,none⟩) (l.length+1) c)/\w.cell? ⟨b,off,none⟩=some (.int .i64 p.1)/\w.cell? ⟨b,off+1,none⟩=some (.int .i64 p.2)/\l.length+1<=c):=by
 have hl:ls[i]?=some ls[i]:=List.getElem?_eq_getElem hi;obtain⟨A,c,hc,_,hr,hle⟩:=H.at hl;have hg:=Z4 hl;generalize ls[i]=l at *
 cases l with
 | nil=>exact .inl ⟨hg,A,c,hc⟩
 | cons p l =>
  rw[ZX] at hr;obtain⟨b,off,rfl,_,hcc⟩:=hr.form (by simp);exact .inr ⟨p,l,b,off,c,hg,hc,hcc 0 _ rfl,hcc 1 _ rfl,hle⟩
theorem Xg (g base:Nat)(ls:Ls)(sz:Int)(w:World)(H:MoundRep w base g ls sz)(hl:ls.length<=64) :
  Calls Try.prog 66 #[.pointer (some ⟨g,0,none⟩)] w fun e w'=>e=.returned (.int .i64 ((ls.length / 2:Nat):Int))/\w=w':=by
 obtain⟨h,hb,_,_,_⟩:=H;have c0:=hb.cell 0;simp at c0;clear hb;go_enter Try.func66,Try.ntmps66;go_wp2;go_ret;exact⟨Vl (by simp),rfl⟩
theorem WA (g base:Nat)(ls:Ls)(sz:Int)(i:Nat)(key:Int)(w:World)(H:MoundRep w base g ls sz)(hl:ls.length<=64)(hi:i<ls.length) :
  Calls Try.prog 41 #[.pointer (some ⟨g,0,none⟩),.int .i64 (i:Int),.int .i64 key] w fun e w'=>e=.returned (.bool (Zv ls i key))/\w=w':=by
 obtain⟨h,hb,_,_,hH⟩:=H;have c0:=hb.cell 0;simp at c0;clear hb;rcases hH.look hi with⟨hn,A,c,hc⟩ | ⟨p,l,b,off,c,hn,hc,k0,k1,hlc⟩
 ·go_enter Try.func41,Try.ntmps41
  go_wp2;go_ret;exact⟨Wl (by rw[Zv,hn.out]),rfl⟩
 ·have hne:(((l.length:Int)+1)==0)=false:=by simp;omega
  go_enter Try.func41,Try.ntmps41;go_wp2;go_ret;exact⟨Wl (by rw[Zv,hn.out]),rfl⟩
theorem WB (g base:Nat)(ls:Ls)(sz:Int)(i k:Nat)(w:World)(H:MoundRep w base g ls sz)(hl:ls.length<=64)(hi:i<ls.length)(hk:k<ls.length) :
  Calls Try.prog 68 #[.pointer (some ⟨g,0,none⟩),.int .i64 (i:Int),.int .i64 (k:Int)] w fun e w'=>e=.returned (.bool (Zt ls i k))/\Ext w w':=by
 obtain⟨h,hb,_,_,hH⟩:=H;have c0:=hb.cell 0;simp at c0;clear hb;rcases hH.look hi with⟨hn,A,c,hc⟩ | ⟨p,l,b,off,c,hn,hc,k0,k1,hlc⟩
 ·go_enter Try.func68,Try.ntmps68
  go_wp2_with (go_quiet (fail));go_ret;exact⟨Wl (by rw[Zt,hn.out]),XI⟩
 ·have hne:(0:Int)<(l.length:Int)+1:=by omega
  rcases hH.look hk with⟨hn',A',c',hc'⟩ | ⟨p',l',b',off',c',hn',hc',k0',k1',hlc'⟩
  ·go_enter Try.func68,Try.ntmps68
   go_wp2_with (go_quiet (fail));go_ret;exact⟨Wl (by rw[Zt,hn.out,hn'.out]),XI⟩
  ·have hne':(((l'.length:Int)+1)==0)=false:=by simp;omega
   go_enter Try.func68,Try.ntmps68;go_wp2_with (go_quiet (fail));go_ret;exact⟨Wl (by rw[Zt,hn.out,hn'.out]),XI⟩
def RevTo (xs ys:List Int)(i:Nat) : Prop:=ys.length=xs.length/\∀ k,k<xs.length->ys[k]?=if k<i\/xs.length-i<=k then xs[xs.length-1-k]? else xs[k]?
theorem RevTo.start (xs:List Int) : RevTo xs xs 0:=⟨rfl,fun k hk=>by rw[if_neg (by omega)]⟩
theorem RevTo.step {xs ys:List Int}{i:Nat}{x y:Int}(h:RevTo xs ys i)(hi:i+i+1<xs.length)(hx:ys[i]?=some x)(hy:ys[xs.length-1-i]?=some y) : RevTo xs ((ys.set i y).set (xs.length-1-i) x) (i+1):=by
 obtain⟨h1,h2⟩:=h;have ei:=h2 i (by omega);have ej:=h2 (xs.length-1-i) (by omega);rw[if_neg (by omega),hx] at ei;rw[if_neg (by omega),hy] at ej;refine⟨by simpa using h1,fun k hk=>?_⟩
 by_cases hkj:xs.length-1-i=k
 ·subst hkj
  rw[List.getElem?_set_self (by simp;omega),if_pos (by omega),show xs.length-1-(xs.length-1-i)=i by omega,<-ei]
 ·rw[List.getElem?_set_ne hkj]
  by_cases hki:i=k
  ·subst hki
   rw[List.getElem?_set_self (by omega),if_pos (by omega),<-ej]
  ·rw[List.getElem?_set_ne hki,h2 k hk]
   by_cases hc:k<i\/xs.length-i<=k
   ·rw[if_pos hc,if_pos (by omega)]
   ·rw[if_neg hc,if_neg (by omega)]
theorem RevTo.done {xs ys:List Int}{i:Nat}(h:RevTo xs ys i)(hi:xs.length<=i+i+1) : ys=xs.reverse:=by
 obtain⟨h1,h2⟩:=h;apply List.ext_getElem?;intro k
 by_cases hk:k<xs.length
 ·rw[h2 k hk,List.getElem?_reverse hk]
  split
  ·rfl
  ·rw[show xs.length-1-k=k by omega]
 ·rw[List.getElem?_eq_none (by omega),List.getElem?_eq_none (by simp;omega)]
theorem YX (A:Option Addr)(c base:Nat)(xs:List Int)(w:World)(h:OwI w base A c xs)(hl:xs.length<=2^44) :
  Calls Try.prog 67 #[.slice A xs.length c] w fun e w'=>e=.returned (.tuple #[])/\OwI w' base A c xs.reverse/\Mod (fun k=>bl A=some k) w w':=by
 go_enter Try.func67,Try.ntmps67;go_wp2_with fail;go_loopw [2,3] (fun i j wr=>∃ (k:Nat) (ys:List Int),i=.int .i64 k/\j=.int .i64 ((xs.length:Int)-1-k)/\k+k<=xs.length/\RevTo xs ys k/\OwI wr base A c ys/\Mod (fun k=>bl A=some k) w wr) (fun i _ _=>xs.length-(intOf i).toNat)
 case atStart=>exact⟨0,xs,rfl,by simp,by omega,RevTo.start _,h,Mod.rf _⟩
 case round =>
  obtain⟨k,ys,rfl,rfl,hk,hr,ho,hm⟩:=hrel
  by_cases hlt:k+k+1<xs.length
  ·have hly:ys.length=xs.length:=hr.1
   obtain⟨g,x,rfl,hg,hgl,hc1,hf1,hx,hs1⟩:=ho.at (k:=k) (by omega);obtain⟨y,hc2,hf2,_,hy,_⟩:=ho.cell (k:=xs.length-1-k) (by omega);obtain⟨_,_,_,_,_,hs2⟩:=(hs1.out y).cell (k:=xs.length-1-k) (by rw[List.length_set];omega);have hr2:=Hd (hr.step hlt hx.out hy.out);replace hly:=Hd hly;replace hr:=Hd hr;replace ho:=Hd ho;have hlt':(k:Int)<(xs.length:Int)-1-k:=by omega
   have hej:(xs.length:Int)-1-(k:Int)=((xs.length-1-k:Nat):Int):=by omega
   rw[hej] at hlt' ⊢;generalize hj:xs.length-1-k=j at *;have hkj:k<j:=by omega
   have hjl:j<xs.length:=by omega
   replace hj:=Hd hj;replace hej:=Hd hej;go_wp2_with (go_region);go_roundw
   case rel=>exact⟨k+1,_,by go_num,by congr 1;have:=hej.out;omega,by omega,hr2.out,(hs2.out x).ext ((Ext.rf _).drew),((hm.set (p:=⟨g,k,none⟩) (.inl rfl) _).set (p:=⟨g,j,none⟩) (.inl rfl) _).drew⟩
   case measure=>simp[intOf];omega
  ·have hle:¬(k:Int)<(xs.length:Int)-1-k:=by omega
   go_wp2;go_end0;exact⟨rfl,by have:=hr.done (by omega);rw[<-this];exact ho,hm⟩
theorem Z5 (ls:Ls)(key:Int)(n:Nat)(d:Int)(ds:List Int) : ZH ls key n (d::ds)=if Zv ls (n+(ZP d n).toNat) key then some (n+(ZP d n).toNat) else ZH ls key n ds:=rfl
theorem Yx (ls:Ls)(key:Int)(f i:Nat) : ZU ls key (f+1) i=if Zv ls i key then i else ZU ls key f (i+1):=rfl
theorem Ua (g base:Nat)(ls:Ls)(sz:Int)(key:Int)(D:Option Addr)(d:Nat)(ds:List Int)(n:Nat)(w:World)(H:MoundRep w base g ls sz)(hn:ls.length=2*n)(h1:1<=n)(h32:n<=32)
  (hd:RdI w D ds) (id:Ints ds) (ld:ds.length<=d) (ld':d<=maxLen) :
  Calls Try.prog 39 #[.pointer (some ⟨g,0,none⟩),.int .i64 key,.slice D ds.length d] w fun e w'=>e=.returned (.int .i64 (Zz ls key ds:Nat))/\w=w':=by
 have hl64:ls.length<=64:=by omega
 have hn2:ls.length / 2=n:=by omega
 have K75:=Xg g base ls sz w H hl64;rw[hn2] at K75;replace K75:=Hd K75;have K62:=fun i (hi:i<2*n)=>WA g base ls sz i key w H hl64 (by omega)
 replace K62:=Hd K62;have hleaf:Zz ls key ds=(ZH ls key n (ds.take 4)).getD (ZU ls key n n):=by rw[Zz,hn2]
 replace hleaf:=Hd hleaf;replace H:=Hd H;replace hn:=Hd hn;clear hn2 hl64;obtain⟨ps,hp,ip,lp,lp',kp,ep⟩:=Vk 4 hd id;simp only[Int.cast_ofNat_Int] at ep;rw[<-kp.out] at hleaf;clear hd id kp;unfold maxLen at ld';go_enter Try.func39,Try.ntmps39;go_wp2_with fail;refine K75.out.mono ?_;rintro e w' ⟨rfl,rfl⟩;go_wp2_with fail;clear ep K75;go_loop [20] (fun i=>∃ k:Nat,k<=ps.length/\i=.int .i64 k/\Hid (ZH ls key n ps=ZH ls key n (ps.drop k))) (fun i=>ps.length-(intOf i).toNat)
 case atStart=>exact⟨0,by omega,rfl,by exact rfl⟩
 case round =>
  obtain⟨k,hk,rfl,hD⟩:=hrel
  by_cases hlt:k<ps.length
  ·obtain⟨b,off,x,rfl,_,hc,_,hdr⟩:=hp.at hlt
   have hm:=YI (x:=x) (n:=(n:Int)) (by omega);have hcons:=Z5 ls key n x (ps.drop (k+1));rw[<-hdr.out,<-hD.out] at hcons;replace hcons:=Hd hcons;have K:=K62.out (n+(ZP x n).toNat) (by omega);have hi:((n+(ZP x n).toNat:Nat):Int)=(n:Int)+ZP x n:=by omega
   rw[hi] at K;replace hi:=Hd hi;replace K:=Hd K
   cases hf:Zv ls (n+(ZP x n).toNat) key with
   | true =>
    replace hf:=Hd hf;rw[hf.out] at K;have hend:((Zz ls key ds:Nat):Int)=(n:Int)+ZP x n:=by
     rw[hleaf.out,hcons.out,hf.out,if_pos rfl,Option.getD_some];exact hi.out
    replace hend:=Hd hend;unfold ZP at hm K hend;clear hi hcons hdr hD;go_wp2_with (go_at_call 41;refine K.out.mono ?_;rintro e w' ⟨rfl,rfl⟩);go_ret;exact⟨Vl hend.out.symm,rfl⟩
   | false =>
    replace hf:=Hd hf;rw[hf.out] at K;have hnext:ZH ls key n ps=ZH ls key n (ps.drop (k+1)):=by rw[hcons.out,hf.out];simp
    replace hnext:=Hd hnext;unfold ZP at hm K;clear hi hcons hdr hD hf;go_wp2_with (go_at_call 41;refine K.out.mono ?_;rintro e w' ⟨rfl,rfl⟩);go_round
    case rel=>exact⟨k+1,by omega,by go_num,hnext.out⟩
    case measure=>simp[intOf];omega
  ·have hnone:ZH ls key n ps=none:=by rw[hD.out,List.drop_of_length_le (by omega)];rfl
   have hleaf2:Zz ls key ds=ZU ls key n n:=by rw[hleaf.out,hnone,Option.getD_none]
   replace hleaf2:=Hd hleaf2;clear hleaf hD hnone;go_wp2_with fail;go_loop [11] (fun i=>∃ k:Nat,n<=k/\k<=2*n/\i=.int .i64 k/\Hid (ZU ls key n n=ZU ls key (2*n-k) k)) (fun i=>2*n-(intOf i).toNat)
   case atStart=>exact⟨n,by omega,by omega,rfl,by rw[show 2*n-n=n by omega];exact rfl⟩
   case round =>
    obtain⟨j,hj1,hj2,rfl,hS⟩:=hrel
    by_cases hlt2:j<2*n
    ·have K:=K62.out j hlt2
     have hstep:ZU ls key n n=if Zv ls j key then j else ZU ls key (2*n-(j+1)) (j+1):=by
      rw[hS.out,show 2*n-j=(2*n-(j+1))+1 by omega,Yx]
     replace hstep:=Hd hstep;replace K:=Hd K;have hlt3:(j:Int)<2*(n:Int):=by omega
     cases hf:Zv ls j key with
     | true =>
      replace hf:=Hd hf;rw[hf.out] at K;have hend:Zz ls key ds=j:=by rw[hleaf2.out,hstep.out,hf.out,if_pos rfl]
      replace hend:=Hd hend;go_wp2_with (go_at_call 41;refine K.out.mono ?_;rintro e w' ⟨rfl,rfl⟩);go_ret;exact⟨Vl (by rw[hend.out]),rfl⟩
     | false =>
      replace hf:=Hd hf;rw[hf.out] at K;have hnext:ZU ls key n n=ZU ls key (2*n-(j+1)) (j+1):=by rw[hstep.out,hf.out];simp
      replace hnext:=Hd hnext;go_wp2_with (go_at_call 41;refine K.out.mono ?_;rintro e w' ⟨rfl,rfl⟩);go_round
      case rel=>exact⟨j+1,by omega,by omega,by go_num,hnext.out⟩
      case measure=>simp[intOf];omega
    ·have hend:Zz ls key ds=0:=by rw[hleaf2.out,hS.out,show 2*n-j=0 by omega];rfl
     replace hend:=Hd hend;have hlt3:¬(j:Int)<2*(n:Int):=by omega
     go_wp2;go_ret;exact⟨Vl (by rw[hend.out];rfl),rfl⟩
def Zq (l:List Nat) : List Int:=l.map (fun(i:Nat)=>(i:Int))
theorem Zr (l:List Nat) : (Zq l).length=l.length:=by simp[Zq]
theorem ZI (f i:Nat)(hi:0<i) : ZF (f+1) i=i::ZF f (i / 2):=by rw[ZF,if_neg (by omega)]
theorem Yq (f:Nat) : ZF f 0=[]:=by cases f<;>simp[ZF]
theorem YJ : ∀ (f i:Nat),(ZF f i).length<=i
 | 0,_=>by simp[ZF]
 | f+1,i=>by
  by_cases hi:i=0
  ·simp[ZF,hi]
  ·rw[ZF,if_neg hi,List.length_cons]
   have:=YJ f (i / 2);omega
theorem UF (leaf:Nat)(w:World)(hl:leaf<=64) :
  Calls Try.prog 40 #[.int .i64 (leaf:Int)] w fun e w'=>∃ A' c',e=.returned (.slice A' (Zq (Zp leaf)).length c')/\OwI w' w.heap.size A' c' (Zq (Zp leaf))/\Ext w w':=by
 go_enter Try.func40,Try.ntmps40;go_wp2_with fail;go_loopw [3,4] (fun o i wr=>∃ (k f:Nat) (acc:List Nat) (A:Option Addr) (c:Nat),i=.int .i64 k/\k<f/\k<=leaf/\Hid (ZF (leaf+1) leaf=acc++ZF f k)/\o=.slice A (Zq acc).length c/\OwI wr w.heap.size A c (Zq acc)/\Ext w wr) (fun _ i _=>(intOf i).toNat)
 case atStart=>exact⟨leaf,leaf+1,[],none,0,rfl,by omega,by omega,by exact rfl,rfl,OwI.nil _ _,Ext.rf _⟩
 case round =>
  obtain⟨k,f,acc,A,c,rfl,hkf,hkl,hH,rfl,ho,hx⟩:=hrel;have hal:acc.length<=64:=by
   have h1:=congrArg List.length hH.out;have h2:=YJ (leaf+1) leaf;rw[List.length_append] at h1;omega
  by_cases hk:0<k
  ·obtain⟨f',rfl⟩:∃ f',f=f'+1:=⟨f-1,by omega⟩
   have hstep:ZF (leaf+1) leaf=(acc++[k])++ZF f' (k / 2):=by rw[hH.out,ZI f' k hk];simp
   have hia:Zq (acc++[k])=Zq acc++[(k:Int)]:=by simp[Zq]
   have hil:(Zq acc).length<=64:=by rw[Zr];exact hal
   replace hstep:=Hd hstep;replace hia:=Hd hia;have hsz:=hx.size;clear hH hal;generalize Zq acc=xs at *;go_wp2_with (at_builtin;refine Yn _ rfl _ _ rfl w.heap.size A xs.length c xs [(k:Int)] (some ⟨wr.heap.size,0,none⟩) 1 rfl rfl rfl ?_ ?_ ?_ ?_ ?_;(exact ho.ext ((Ext.rf _).alloc _));(exact .blk (.new (by simp)) rfl);(simp;omega);(first | exact Nat.le_refl _ | omega | (focus (simp;try omega)));rintro A1 c1 w1 h1 g1 _);go_roundw
   case rel=>exact⟨k / 2,f',acc++[k],A1,c1,by go_num,by omega,by omega,hstep.out,by rw[hia.out];simp,by rw[hia.out];exact h1,(hx.alloc _).grow g1 (fun j hj=>(ho.lt j hj).1)⟩
   case measure=>simp[intOf];omega
  ·obtain rfl:k=0:=by omega
   have hacc:Zp leaf=acc.reverse:=by
    have h:=hH.out;rw[Yq,List.append_nil] at h;rw[Zp,h]
   have hir:(Zq acc).reverse=Zq (Zp leaf):=by rw[hacc];simp[Zq]
   have hil:(Zq acc).length<=2^44:=by rw[Zr];omega
   have hll:(Zq acc).length=(Zq (Zp leaf)).length:=by rw[<-hir];simp
   replace hir:=Hd hir;replace hll:=Hd hll;clear hH hacc hal;go_wp2_with fail;refine(YX A c w.heap.size (Zq acc) _ ho hil).mono ?_;rw[hir.out];rintro e w1 ⟨rfl,h1,m1⟩;go_wp2;go_ret;exact⟨A,c,by rw[<-hll.out];rfl,h1,hx.mod m1 (fun j hj hs=>by have:=(ho.lt j hs).1;omega)⟩
def itV (p:It) : Value:=.agg #[.int .i64 p.1,.int .i64 p.2]
def XL (ls:Ls) : It×Bool:=match ls.getD 1 [] with
 | []=>((0,0),false)
 | p::_=>(p,true)
theorem UH (g base:Nat)(ls:Ls)(sz:Int)(w:World)(H:MoundRep w base g ls sz)(hl:2<=ls.length)(hl64:ls.length<=64) :
  Calls Try.prog 42 #[.pointer (some ⟨g,0,none⟩)] w fun e w'=>e=.returned (.tuple #[itV (XL ls).1,.bool (XL ls).2])/\Ext w w':=by
 obtain⟨h,hb,_,_,hH⟩:=H;have hg:=hb.lt;have hhl:=hH.lt;have c0:=hb.cell 0;simp at c0;clear hb;rcases hH.look (i:=1) (by omega) with⟨hn,A,c,hc⟩ | ⟨p,l,b,off,c,hn,hc,k0,k1,hlc⟩
 ·have hm:XL ls=((0,0),false):=by rw[XL,hn.out]
  rw[hm];clear hm;go_enter Try.func42,Try.ntmps42;go_wp2;exact bodyPost_ret (v:=.tuple #[.agg #[.int .i64 0,.int .i64 0],.bool false]) (by simp[results,Try.results42,go_sem]) rfl ⟨rfl,by repeat (first | exact Ext.rf _ | apply Ext.alloc | (refine Ext.setNew ?_ (by simp) _))⟩
 ·have hm:XL ls=(p,true):=by rw[XL,hn.out]
  rw[hm];clear hm;have hbl:=World.block_lt_of_cell? w _ k0;have hne:(((l.length:Int)+1)==0)=false:=by simp;omega
  go_enter Try.func42,Try.ntmps42;go_wp2;exact bodyPost_ret (v:=.tuple #[.agg #[.int .i64 p.1,.int .i64 p.2],.bool true]) (by simp[results,Try.results42,go_sem]) rfl ⟨rfl,by repeat (first | exact Ext.rf _ | apply Ext.alloc | (refine Ext.setNew ?_ (by simp) _))⟩
theorem W9 : (Try.prog.info? 88).map (fun i=>(i.zero,i.size,i.bytes))=some (some (.slice none 0 0),1,24):=by kernel_rfl
theorem Va (n:Nat) : madeCells #[Value.slice none 0 0] (n*1)=Array.replicate n (Value.slice none 0 0):=by
 apply Array.ext
 ·simp[madeCells]
 ·intro i h1 h2
  simp[madeCells,Nat.mod_one]
theorem Ub (n:Nat)(hn:n<=64)(u:World) : (Instr.makeSlice 70 (.int .i64 (n:Int)) (.int .i64 (n:Int))).run Try.prog u=.ok (.slice (some ⟨u.heap.size,0,none⟩) n n) (u.alloc (.cells (Array.replicate n (Value.slice none 0 0)) 88)):=by
 obtain⟨i0,hi,hz0,hz1,hz2⟩:=info_parts W9;have h:=run_make (P:=Try.prog) u 70 88 i0 _ Try.underlying70 hi hz0 .i64 .i64 (n:Int) (n:Int) (by omega) (Int.le_refl _) (by rw[hz2];omega) (by omega);rw[<-Va]
 simpa [hz1,Value.cells] using h
theorem XN (n:Nat)(w:World) : MoundRep ((w.alloc (.cells (Array.replicate n (Value.slice none 0 0)) 88)).alloc (.cells #[.slice (some ⟨w.heap.size,0,none⟩) n n,.int .i64 0] 72)) w.heap.size (w.heap.size+1) (List.replicate n []) 0:=by
 refine⟨w.heap.size,?_,by omega,Nat.le_refl _,HeadsAt.ext (HeadsAt.new (.new rfl)) ((Ext.rf _).alloc _)⟩;simp only[List.length_replicate];exact .new (by simp)
def Qs (n:Nat) : Array Value:=Array.replicate n (Value.slice none 0 0)
theorem QI (w:World) : Calls Try.prog 9 #[.int .i64 6] w fun e w'=>∃ g,e=.returned (.tuple #[.pointer (some ⟨g,0,none⟩),.int .i64 0])/\MoundRep w' w.heap.size g (List.replicate 64 []) 0/\Ext w w':=by
 have hm:∀ u:World,(Instr.makeSlice 70 (.int .i64 64) (.int .i64 64)).run Try.prog u=.ok (.slice (some ⟨u.heap.size,0,none⟩) 64 64) (u.alloc (.cells (Qs 64) 88)):=fun u=>Ub 64 (by omega) u
 go_enter Try.func9,Try.ntmps9;go_wp2;go_ret2;exact⟨_,rfl,XN 64 w,by repeat (first | exact Ext.rf _ | apply Ext.alloc)⟩
theorem HeadsAt.modT {w w':World}{E SE:TypeId}{h base:Nat}{ts:List TypeId}{ls:Ls}(H:HeadsAt w E SE h ls)(k:ModT base ts w w')(h1:E∉ts)(h2:SE∉ts) : HeadsAt w' E SE h ls:=by
 obtain⟨cs,hb,hs,hc⟩:=H;refine⟨cs,hb.modT k h2,hs,fun i l hl=>?_⟩;obtain⟨A,c,g1,g2,g3⟩:=hc i l hl;exact⟨A,c,g1,g2.modT k h1,g3⟩
theorem Vo {w w3:World}{base g hh n:Nat}{ls:Ls}{v:Value}(place:Nat)(hb:Blk w3 g 72 #[.slice (some ⟨hh,0,none⟩) n n,v])(hbg:base<=g)(hbh:base<=hh)(hH:HeadsAt w3 52 88 hh ls)(hx:Ext w w3)(V u:Value) :
  ModT base [72,88] w ((w3.setCell ⟨hh,place,none⟩ V).setCell ⟨g,1,none⟩ u):=by
 obtain⟨cs,hb2,hs,hc⟩:=hH;have hne:¬g=hh:=Blk.ne hb hb2 (by decide);have k1:ModT base [72,88] w3 (w3.setCell ⟨hh,place,none⟩ V):=ModT.set w3 hb2 (by simp) hbh place V;have hb3:=hb.mod (Mod.set (S:=fun k=>k=hh) (p:=⟨hh,place,none⟩) (Mod.rf w3) (.inl rfl) V) hne;exact(ModT.of_ext hx).tr (k1.tr (ModT.set _ hb3 (by simp) hbg 1 u))
theorem Vp {w3:World}{base g hh n place:Nat}{ls:Ls}{v:Value}{sz:Int}{A:Option Addr}{c:Nat}{l:List It}(hb:Blk w3 g 72 #[.slice (some ⟨hh,0,none⟩) n n,v])(hn:n=ls.length)(hbg:base<=g)(hbh:base<=hh)(hH:HeadsAt w3 52 88 hh ls)(hr:RdV w3 52 A (Yw l))(hl:l.length<=c) :
  MoundRep ((w3.setCell ⟨hh,place,none⟩ (.slice A l.length c)).setCell ⟨g,1,none⟩ (.int .i64 sz)) base g (ls.set place l) sz:=by
 subst hn;have hH':=hH;obtain⟨cs,hb2,hs,hc⟩:=hH';have hne:¬g=hh:=Blk.ne hb hb2 (by decide);have hb3:=hb.mod (Mod.set (S:=fun k=>k=hh) (p:=⟨hh,place,none⟩) (Mod.rf w3) (.inl rfl) (.slice A l.length c)) hne;have hH3:=hH.set (by decide) place hr hl;refine⟨hh,?_,hbg,hbh,?_⟩
 ·have:=hb3.set 1 (.int .i64 sz)
  simpa using this
 ·refine hH3.mod (S:=fun k=>k=g) (Mod.set (S:=fun k=>k=g) (p:=⟨g,1,none⟩) (Mod.rf _) (.inl rfl) _) (fun h=>hne h.symm) ?_
  rintro k cur hk rfl;exact Blk.ne (show Blk _ k 52 cur from hk) hb3 (by decide) rfl
theorem WC : ∀ (f i j:Nat),j∈ZF f i->1<=j/\j<=i
 | 0,_,_,h=>by simp[ZF] at h
 | f+1,i,j,h=>by
  by_cases hi:i=0
  ·simp[ZF,hi] at h
  ·rw[ZF,if_neg hi] at h
   rcases List.mem_cons.1 h with rfl | h
   ·omega
   ·have:=WC f (i / 2) j h
    omega
theorem Xh {leaf j:Nat}(h:j∈Zp leaf) : 1<=j/\j<=leaf:=WC (leaf+1) leaf j (by simpa [Zp] using h)
theorem Yj {leaf:Nat}(h:1<=leaf) : 0<(Zp leaf).length:=by
 rw[Zp,List.length_reverse,ZI _ _ h];simp
theorem Vq (leaf:Nat) : (Zp leaf).length<=leaf:=by rw[Zp,List.length_reverse];exact YJ _ _
theorem Xi (ls:Ls)(key:Int)(path:List Nat) : ∀ (f lo hi:Nat),ZL ls key path f lo hi<=hi
 | 0,_,_=>Nat.le_refl _
 | f+1,lo,hi=>by
  rw[ZL];split
  ·split
   ·have:=Xi ls key path f lo ((lo+hi) / 2);omega
   ·exact Xi ls key path f _ hi
  ·exact Nat.le_refl _
theorem Yr (ls:Ls)(key:Int){leaf:Nat}(h:1<=leaf) : 1<=Zu ls key leaf/\Zu ls key leaf<=leaf:=by
 have hp:=Yj h;have hb:=Xi ls key (Zp leaf) (Zp leaf).length 0 ((Zp leaf).length-1);have hm:(Zp leaf).getD (ZL ls key (Zp leaf) (Zp leaf).length 0 ((Zp leaf).length-1)) 0∈Zp leaf:=by
  rw[List.getD,List.getElem?_eq_getElem (by omega),Option.getD_some];exact List.getElem_mem _
 exact Xh hm
theorem WD (ls:Ls)(key:Int) : ∀ (f i:Nat),ZU ls key f i<i+f\/ZU ls key f i=0
 | 0,_=>.inr rfl
 | f+1,i=>by
  rw[ZU];split
  ·left;omega
  ·rcases WD ls key f (i+1) with h | h
   ·left;omega
   ·right;exact h
theorem Xj (ls:Ls)(key:Int)(n:Nat)(hn:1<=n) : ∀ (ds:List Int) (i:Nat),ZH ls key n ds=some i->i<2*n
 | [],_,h=>by simp[ZH] at h
 | d::ds,i,h=>by
  rw[ZH] at h;split at h
  ·have:=YI (x:=d) (n:=(n:Int)) (by omega)
   injection h with h
   omega
  ·exact Xj ls key n hn ds i h
theorem Xk (ls:Ls)(key:Int)(ds:List Int){n:Nat}(hn:ls.length=2*n)(h1:1<=n) : Zz ls key ds<2*n:=by
 have h2:ls.length / 2=n:=by omega
 rw[Zz,h2]
 cases hd:ZH ls key n (ds.take 4) with
 | some i=>exact Xj ls key n h1 _ i hd
 | none =>
  rw[Option.getD_none];rcases WD ls key n n with h | h<;>omega
theorem Xl {l:List Nat}{k:Nat}(hk:k<l.length) : (Zq l)[k]?=some ((l.getD k 0:Nat):Int):=by
 simp[Zq,List.getD,hk]
theorem VE : (Try.prog.info? 52).map (fun i=>(i.zero,i.size,i.bytes))=some (some (.agg #[.int .i64 0,.int .i64 0]),2,16):=by kernel_rfl
theorem Yy (ls:Ls)(key:Int)(path:List Nat)(f lo hi:Nat)(h:lo<hi) : ZL ls key path (f+1) lo hi=if Zv ls (path.getD ((lo+hi) / 2) 0) key then ZL ls key path f lo ((lo+hi) / 2) else ZL ls key path f ((lo+hi) / 2+1) hi:=by
 rw[ZL,if_pos h]
theorem Xm (ls:Ls)(key:Int)(path:List Nat)(f lo hi:Nat)(h:¬lo<hi) : ZL ls key path f lo hi=hi:=by
 cases f with
 | zero=>rfl
 | succ f=>rw[ZL,if_neg h]
theorem Vb (g base:Nat)(ls:Ls)(sz:Int)(x:It)(D:Option Addr)(d:Nat)(ds:List Int)(n:Nat)(w:World)(H:MoundRep w base g ls sz)(hn:ls.length=2*n)(h1:1<=n)(h32:n<=32)
  (hd:RdI w D ds) (id:Ints ds) (ld:ds.length<=d) (ld':d<=maxLen) (hz:Zz ls x.1 ds≠0) (hsz:0<=sz/\sz<=2^60) (hll:∀ l∈ls,l.length<=2^40) :
  Calls Try.prog 19 #[.pointer (some ⟨g,0,none⟩),.agg #[.int .i64 x.1,.int .i64 x.2],.slice D ds.length d] w fun e w'=>e=.returned (.bool true) /\
   MoundRep w' base g (ls.set (Zu ls x.1 (Zz ls x.1 ds)) (x::ls.getD (Zu ls x.1 (Zz ls x.1 ds)) [])) (sz+1)/\ModT base [72,88] w w':=by
 have hlb:=Xk ls x.1 ds hn h1;have K:=fun W (h:Ext w W)=>Ua g base ls sz x.1 D d ds n W (H.ext h) hn h1 h32 (hd.ext h) id ld ld'
 generalize hL:Zz ls x.1 ds=L at *;have hL1:1<=L:=by omega
 have hpb:=Yr ls x.1 hL1;have hplace:Zu ls x.1 L=(Zp L).getD (ZL ls x.1 (Zp L) (Zp L).length 0 ((Zp L).length-1)) 0:=rfl;have hwl:=Vq L;have hwp:=Yj hL1;have hL64:L<=64:=by omega
 have hne:((L:Int)==0)=false:=by simp;omega
 have K61:=fun W=>UF L W hL64
 have hmem:∀ k,k<(Zp L).length->(Zp L).getD k 0<2*n:=by
  intro k hk;have:(Zp L).getD k 0∈Zp L:=by
   rw[List.getD,List.getElem?_eq_getElem hk,Option.getD_some];exact List.getElem_mem _
  have:=Xh this;omega
 generalize hP:Zp L=path at *;generalize hp:Zu ls x.1 L=place at *;have K62:=fun W (h:Ext w W) i (hi:i<2*n)=>WA g base ls sz i x.1 W (H.ext h) (by omega) (by omega)
 replace K:=Hd K;replace K61:=Hd K61;replace K62:=Hd K62;replace hplace:=Hd hplace;replace hmem:=Hd hmem;have hgl:g<w.heap.size:=by obtain⟨h,hb,_⟩:=H;exact hb.lt
 clear hL hP hp hz hd id ld ld';replace hn:=Hd hn;go_enter Try.func19,Try.ntmps19;go_wp2_with (go_at_call 39;refine(K.out _ ((Ext.rf _).alloc _)).mono ?_;rintro e w' ⟨rfl,rfl⟩);refine(K61.out _).mono ?_;rintro e w2 ⟨A1,c1,rfl,o1,x1⟩;rw[Zr];have X2:Ext w w2:=((Ext.rf _).alloc _).tr x1;have b0:Blk w2 w.heap.size 52 #[.int .i64 x.1,.int .i64 x.2]:=Blk.ext (.new rfl) x1;clear K K61 x1;have r1:=o1.read;replace b0:=Hd b0;clear o1;go_wp2_with fail;go_loopw [9,10] (fun lo hi wr=>∃ l h f:Nat,lo=.int .i64 l/\hi=.int .i64 h/\l<=h/\h<path.length/\h-l<=f/\Hid (ZL ls x.1 path path.length 0 (path.length-1)=ZL ls x.1 path f l h)/\Ext w2 wr) (fun lo hi _=>(intOf hi).toNat-(intOf lo).toNat)
 case atStart=>exact⟨0,path.length-1,path.length,rfl,by congr 1;omega,by omega,by omega,by omega,by exact rfl,Ext.rf _⟩
 case round =>
  obtain⟨l,h,f,rfl,rfl,hlh,hhp,hf,hH,xr⟩:=hrel
  by_cases hlt:l<h
  ·obtain⟨f',rfl⟩:∃ f',f=f'+1:=⟨f-1,by omega⟩
   have hst:=Yy ls x.1 path f' l h hlt;rw[<-hH.out] at hst;have hmid:(l+h) / 2<path.length:=by omega
   have hm:=hmem.out _ hmid;have Kf:∀ m,Calls Try.prog 41 #[.pointer (some ⟨g,0,none⟩),.int .i64 ((path.getD ((l+h) / 2) 0:Nat):Int),.int .i64 x.1] (wr.drewN m) fun e w'=>e=.returned (.bool (Zv ls (path.getD ((l+h) / 2) 0) x.1))/\w'=wr.drewN m :=
    fun m=>(K62.out _ ((X2.tr xr).drewN m) _ hm).mono fun e w' q=>⟨q.1,q.2.symm⟩
   obtain⟨b,off,y,hA,hbl,hcell,hy,hdr⟩:=(r1.ext xr).at (k:=(l+h) / 2) (by rw[Zr];exact hmid);clear hdr;have hy:=hy.out;rw[Xl hmid] at hy
   injection hy with hy
   subst hA;obtain⟨k0,k1⟩:wr.cell? ⟨w.heap.size,0,none⟩=some (.int .i64 x.1)/\wr.cell? ⟨w.heap.size,1,none⟩=some (.int .i64 x.2):=by
    have hb:=b0.out.ext xr;have h0:=hb.cell 0;have h1:=hb.cell 1;simp at h0 h1;exact⟨h0,h1⟩
   have hq:((l:Int)+(h:Int)) / 2=(((l+h) / 2:Nat):Int):=by omega
   have hmp:(l+h) / 2<path.length:=hmid;have hh44:h<=2^44:=by omega
   have hlt':(l:Int)<(h:Int):=by omega
   generalize hM:(l+h) / 2=M at *;replace hM:=Hd hM;rw[hy] at Kf;replace Kf:=Hd Kf;replace hst:=Hd hst;replace hy:=Hd hy;clear hm
   cases hf:Zv ls (path.getD M 0) x.1 with
   | true =>
    rw[hf] at Kf hst;go_wp2_with (go_quiet (first | (go_at_call 41;refine Calls.quiet_of_same (Kf.out _))));go_roundw
    case rel=>exact⟨l,M,f',rfl,by go_num,by have:=hM.out;omega,by omega,by have:=hM.out;omega,Hd (hst.out.trans (if_pos (by simp))),xr.drewN _⟩
    case measure=>simp[intOf];have:=hM.out;omega
   | false =>
    rw[hf] at Kf hst;go_wp2_with (go_quiet (first | (go_at_call 41;refine Calls.quiet_of_same (Kf.out _))));go_roundw
    case rel=>exact⟨M+1,h,f',by go_num,rfl,by have:=hM.out;omega,hhp,by have:=hM.out;omega,Hd (hst.out.trans (if_neg (by simp))),xr.drewN _⟩
    case measure=>simp[intOf];have:=hM.out;omega
  ·obtain rfl:l=h:=by omega
   have hpl:=hplace.out;rw[hH.out,Xm _ _ _ _ _ _ (by omega)] at hpl;obtain⟨b,off,y,hA,hbl,hcell,hy,hdr⟩:=(r1.ext xr).at (k:=l) (by rw[Zr];exact hhp);have hy:=hy.out;rw[Xl hhp,<-hpl] at hy
   injection hy with hy
   subst hA;subst hy;have hpn:place<ls.length:=by have:=hn.out;omega
   obtain⟨l',hl'⟩:∃ l',ls[place]?=some l':=⟨_,List.getElem?_eq_getElem hpn⟩;have hd:=Z4 hl';replace hd:=Hd hd;have hlm:l'.length<=2^40:=hll l' (List.mem_of_getElem? hl');obtain⟨hh,hb,hbg,hbh,hH'⟩:=H.ext (X2.tr xr);obtain⟨A2,c2,hc2,hf2,hr2,hlc⟩:=hH'.at hl';have c0:=hb.cell 0;simp at c0;obtain⟨k0,k1⟩:wr.cell? ⟨w.heap.size,0,none⟩=some (.int .i64 x.1)/\wr.cell? ⟨w.heap.size,1,none⟩=some (.int .i64 x.2):=by
    have hb:=b0.out.ext xr;have h0:=hb.cell 0;have h1:=hb.cell 1;simp at h0 h1;exact⟨h0,h1⟩
   have XR:=X2.tr xr;have hgh:g≠hh:=by obtain⟨cs,hb2,_⟩:=hH';exact Blk.ne hb hb2 (by decide)
   have zg:=hb.lt;have zh:=hH'.lt;have zb:=(b0.out.ext xr).lt;have f1:=hb.free 1;have q1:=hb.cell 1;simp at q1;clear K62 hH hmem hplace r1 hpl hdr b0 hl';replace hb:=Hd hb;replace hH':=Hd hH';replace hr2:=Hd hr2;go_upto_region 14 with(fail);go_cut [63] (fun _ wx=>∃ A3 c3 w3,RdV w3 52 A3 (Yw (x::l'))/\l'.length+1<=c3/\Ext wr w3/\wx=w3.setCell ⟨hh,place,none⟩ (.slice A3 (l'.length+1) c3))
   case first =>
    have hbs:∀ u:World,(Instr.buildSlice 88 1 #[(0,.agg #[.int .i64 x.1,.int .i64 x.2])]).run Try.prog u=.ok (.slice (some ⟨u.heap.size,0,none⟩) 1 1) (u.alloc (.cells #[.int .i64 x.1,.int .i64 x.2] 52)):=fun u=>by go_simp
    refine wp_region_any (by kernel_rfl) ?_
    change wpAny _ _ _ _ _ _ _ (World.drew _)
    refine wpAny_take (i:=0) (v:=?_) rfl (by kernel_rfl) (by kernel_rfl) (by kernel_rfl) (fun _ _ _ h=>h) (Or.inl ⟨by rfl,?_⟩) ?_
    case refine_2=>(intro _;go_simp;try with_reducible rfl)
    refine wpAny_take (i:=1) (v:=?_) rfl (by kernel_rfl) (by kernel_rfl) (by kernel_rfl) (fun _ _ _ h=>h) (Or.inl ⟨by rfl,?_⟩) ?_
    case refine_2=>(intro _;go_simp;try with_reducible rfl)
    refine wpAny_take (i:=2) (v:=?_) rfl (by kernel_rfl) (by kernel_rfl) (by kernel_rfl) (fun _ _ _ h=>h) (Or.inl ⟨by rfl,?_⟩) ?_
    case refine_2=>(intro _;go_simp;try with_reducible rfl)
    refine wpAny_take (i:=4) (v:=?_) rfl (by kernel_rfl) (by kernel_rfl) (by kernel_rfl) (fun _ _ _ h=>h) (Or.inl ⟨by rfl,?_⟩) ?_
    case refine_2=>(intro _;go_simp;try with_reducible rfl)
    refine wpAny_take (i:=7) (v:=?_) rfl (by kernel_rfl) (by kernel_rfl) (by kernel_rfl) (fun _ _ _ h=>h) (Or.inl ⟨by rfl,?_⟩) ?_
    case refine_2=>(intro _;go_simp;try with_reducible rfl)
    refine wpAny_take (i:=8) (v:=?_) rfl (by kernel_rfl) (by kernel_rfl) (by kernel_rfl) (fun _ _ _ h=>h) (Or.inl ⟨by rfl,?_⟩) ?_
    case refine_2=>(intro _;go_simp;try with_reducible rfl)
    refine wpAny_take (i:=9) (v:=?_) rfl (by kernel_rfl) (by kernel_rfl) (by kernel_rfl) (fun _ _ _ h=>h) (Or.inl ⟨by rfl,?_⟩) ?_
    case refine_2=>(intro _;go_simp;try with_reducible rfl)
    refine wpAny_take (i:=11) (v:=?_) rfl (by kernel_rfl) (by kernel_rfl) (by kernel_rfl) (fun _ _ _ h=>h) (Or.inl ⟨by rfl,?_⟩) ?_
    case refine_2=>(intro _;go_simp;try with_reducible rfl)
    refine Yv (n:=2) [(3,some 52),(5,some 54),(6,some 55),(10,some 59),(12,some 61),(13,some 62),(14,some 63)] (Ext wr)
     (VF (fun | 3=>some (.slice (some ⟨hh,0,none⟩) ls.length ls.length) | 5=>some (.agg #[.int .i64 x.1,.int .i64 x.2]) | 10=>some (.slice (some ⟨hh,0,none⟩) ls.length ls.length) | 12=>some (.pointer (some ⟨hh,place,none⟩)) | 13=>some (.slice A2 l'.length c2) | _=>none)
      (fun i v W=>(i=6->∃ q,v=.slice (some ⟨q,0,none⟩) 1 1/\Blk W q 52 #[.int .i64 x.1,.int .i64 x.2])/\(i=14->∃ A3 c3,v=.slice A3 (x::l').length c3/\RdV W 52 A3 (Yw (x::l'))/\(x::l').length<=c3)))
     Ext (Array.replicate 15 true++#[false,false]) (by kernel_rfl) (VF.stab ?_) ?_ ?_ ((Ext.rf _).drew)
    ·intro j v W W' _ ⟨g6,g14⟩ hx
     refine⟨fun h=>?_,fun h=>?_⟩
     ·obtain⟨q,q1,q2⟩:=g6 h
      exact⟨q,q1,q2.ext hx⟩
     ·obtain⟨A3,c3,q1,q2,q3⟩:=g14 h
      exact⟨A3,c3,q1,q2.ext hx,q3⟩
    ·intro p hpm u w2 hR hD K hK
     have r0:=(hR.cells.1 _ 0 zg).trans c0;have r2:=(hR.cells.1 _ place zh).trans hc2;have b0:=(hR.cells.1 _ 0 zb).trans k0;have b1:=(hR.cells.1 _ 1 zb).trans k1;simp only[List.mem_cons,List.not_mem_nil,or_false] at hpm;rcases hpm with rfl | rfl | rfl | rfl | rfl | rfl | rfl
     ·exact Ze (T:=70) rfl (.pointer (some ⟨g,0,none⟩)) (by kernel_rfl) (.slice (some ⟨hh,0,none⟩) ls.length ls.length) (by go_simp) (hK _ _ (VF.mk rfl) hR (Ext.rf _))
     ·exact Ze (T:=52) rfl (.pointer (some ⟨w.heap.size,0,none⟩)) (by kernel_rfl) (.agg #[.int .i64 x.1,.int .i64 x.2]) (by go_simp) (hK _ _ (VF.mk rfl) hR (Ext.rf _))
     ·have h5:=(hD 5 (Zg (by kernel_rfl))).k rfl
      exact Qh rfl _ (Eq.trans (b:=u 5) (by kernel_rfl) h5) _ (hbs _) (hK _ _ (VF.mg rfl ⟨fun _=>⟨_,rfl,.new rfl⟩,fun h=>by cases h⟩) (hR.alloc _) ((Ext.rf _).alloc _))
     ·exact Ze (T:=70) rfl (.pointer (some ⟨g,0,none⟩)) (by kernel_rfl) (.slice (some ⟨hh,0,none⟩) ls.length ls.length) (by go_simp) (hK _ _ (VF.mk rfl) hR (Ext.rf _))
     ·have h10:=(hD 10 (Zg (by kernel_rfl))).k rfl
      exact Wt (T:=70) rfl _ (.int .i64 (place:Int)) (Eq.trans (b:=u 10) (by kernel_rfl) h10) (by kernel_rfl) (.pointer (some ⟨hh,place,none⟩)) (by go_simp) (hK _ _ (VF.mk rfl) hR (Ext.rf _))
     ·have h12:=(hD 12 (Zg (by kernel_rfl))).k rfl
      exact Ze (T:=88) rfl _ (Eq.trans (b:=u 12) (by kernel_rfl) h12) (.slice A2 l'.length c2) (by go_simp) (hK _ _ (VF.mk rfl) hR (Ext.rf _))
     ·have h13:=(hD 13 (Zg (by kernel_rfl))).k rfl
      obtain⟨q,h6,hq⟩:=((hD 6 (Zg (by kernel_rfl))).g rfl).1 rfl;obtain⟨i0,hi,hz0,hz1,hz2⟩:=info_parts VE;obtain⟨A3,c3,w3,hrun,h3,x3⟩:=Wo w2 (e:=52) Try.underlying88 hi hz0 hz1 hz2 (by simp[Value.cells]) (by omega) 0 88 q 1 #[.int .i64 x.1,.int .i64 x.2] A2 l'.length c2 (Yw l') hq (by omega) (by simp) (hr2.out.ext hR).rdC (Wz l') (V9 l') (by simp only[maxLen];omega) (by omega);have e:(1+l'.length)=(x::l').length:=by simp;omega
      rw[e] at hrun h3;exact V5 rfl _ _ (Eq.trans (b:=u 6) (by kernel_rfl) h6) (Eq.trans (b:=u 13) (by kernel_rfl) h13) _ hrun (hK _ _ (VF.mg rfl ⟨(fun h=>by cases h),fun _=>⟨_,_,rfl,by simpa [ZX] using h3.read,h3.le.1⟩⟩) (hR.tr x3) x3)
    ·intro u w3 hR hV
     have h3:=(hV (3,some 52) (by simp)).k rfl;have h5:=(hV (5,some 54) (by simp)).k rfl;have h10:=(hV (10,some 59) (by simp)).k rfl;have h12:=(hV (12,some 61) (by simp)).k rfl;have h13:=(hV (13,some 62) (by simp)).k rfl;obtain⟨q,h6,hq⟩:=((hV (6,some 55) (by simp)).g rfl).1 rfl;obtain⟨A3,c3,h14,q1,q2⟩:=((hV (14,some 63) (by simp)).g rfl).2 rfl;simp only[Zc,h3,h5,h6,h10,h12,h13,h14];clear h3 h5 h6 h10 h12 h13 h14 hV hq;have m3:=(hR.cells.1 _ place zh).trans hc2;have f3:=(hR.cells.2 _ place zh).trans hf2;refine wpAny_take (i:=15) (v:=?_) rfl (by kernel_rfl) (by kernel_rfl) (by kernel_rfl) (fun _ _ _ h=>h) (Or.inl ⟨by rfl,?_⟩) ?_
     case refine_2=>(intro _;go_simp;try with_reducible rfl)
     refine Vw 16 (by kernel_rfl) (by kernel_rfl) ?_;refine ZQ rfl (.pointer (some ⟨hh,place,none⟩)) (.slice A3 (x::l').length c3) (by kernel_rfl) (by kernel_rfl) (by go_simp;rfl) ?_;go_simp;go_wp2_with fail;go_meet;exact⟨_,_,_,q1,q2,hR,rfl⟩
   case rest =>
    obtain⟨A3,c3,w3,h3,l3,y3,rfl⟩:=hcut;have f4:=(y3.cells.2 _ _ zg).trans f1;have m0:=(y3.cells.1 _ _ zg).trans c0;have m4:=(y3.cells.1 _ _ zg).trans q1;replace h3:=Hd h3;have hgh':hh≠g:=fun h=>hgh h.symm
    replace y3:=Hd y3;go_wp2_with (fail);go_ret;have R:=Vp (place:=place) (l:=x::l') (sz:=sz+1) (A:=A3) (c:=c3) (hb.out.ext y3.out) rfl hbg hbh (hH'.out.ext y3.out) h3.out (by simpa using l3);have M:=Vo place (hb.out.ext y3.out) hbg hbh (hH'.out.ext y3.out) (XR.tr y3.out) (.slice A3 (l'.length+1) c3) (.int .i64 (sz+1));rw[<-hd.out] at R;simp only[List.length_cons,hd.out] at R;rw[hd.out];exact⟨rfl,R,M⟩
def leL : List It->List It->Prop
 | _,[]=>True
 | [],_::_=>False
 | p::_,q::_=>p.1<=q.1
theorem leL.rf (a:List It) : leL a a:=by cases a<;>simp[leL]
theorem leL.tr {a b c:List It}(h:leL a b)(k:leL b c) : leL a c:=by
 cases c with
 | nil=>simp[leL]
 | cons r c =>
  cases b with
  | nil=>simp[leL] at k
  | cons q b =>
   cases a with
   | nil=>simp[leL] at h
   | cons p a=>simp only[leL] at *;omega
theorem leL.total (a b:List It) : leL a b\/leL b a:=by
 cases a with
 | nil=>right;simp[leL]
 | cons p a =>
  cases b with
  | nil=>left;simp[leL]
  | cons q b=>simp only[leL];omega
theorem YR (ls:Ls)(i k:Nat) : Zt ls i k=true↔¬leL (ls.getD k []) (ls.getD i []):=by
 unfold Zt
 cases ls.getD i [] with
 | nil=>simp[leL]
 | cons p l =>
  cases ls.getD k [] with
  | nil=>simp[leL]
  | cons q m=>simp[leL]
theorem Xn {ls:Ls}{i k:Nat}(h:Zt ls i k=false) : leL (ls.getD k []) (ls.getD i []):=by
 apply Classical.byContradiction;intro hn;rw[(YR ls i k).2 hn] at h
 cases h
theorem XT (ls:Ls)(i:Nat)(key:Int) : Zv ls i key=true↔leL [(key,0)] (ls.getD i []):=by
 unfold Zv
 cases ls.getD i [] with
 | nil=>simp[leL]
 | cons p l=>simp[leL]
def Y2 (l:List It) : Prop:=l.Pairwise fun p q=>p.1<=q.1
structure Ordered (ls:Ls) : Prop where
 sorted:∀ i,Y2 (ls.getD i [])
 zero:ls.getD 0 []=[]
 heap:∀ i,2<=i->leL (ls.getD (i / 2) []) (ls.getD i [])
theorem ZM {ls:Ls}{i:Nat}(v:List It)(hi:i<ls.length)(j:Nat) : (ls.set i v).getD j []=if j=i then v else ls.getD j []:=by
 simp only[List.getD_eq_getElem?_getD]
 by_cases h:j=i
 ·subst h
  rw[if_pos rfl,List.getElem?_set_self hi]
  rfl
 ·rw[if_neg h,List.getElem?_set_ne (Ne.symm h)]
theorem WE {x:It}{l:List It}(hs:Y2 l)(h:leL [(x.1,0)] l) : Y2 (x::l):=by
 refine List.pairwise_cons.2 ⟨fun q hq=>?_,hs⟩
 cases l with
 | nil=>cases hq
 | cons p l =>
  have h1:x.1<=p.1:=h;rcases List.mem_cons.1 hq with rfl | hq
  ·exact h1
  ·have:=(List.pairwise_cons.1 hs).1 q hq
   omega
theorem Uc {x:It}{l m:List It}(h:leL [(x.1,0)] m) : leL (x::l) m:=by
 cases m with
 | nil=>simp[leL]
 | cons q m=>simpa [leL] using h
theorem VG {x:It}{l m:List It}(h:leL m [(x.1,0)]) : leL m (x::l):=by
 cases m with
 | nil=>simp[leL] at h
 | cons q m=>simpa [leL] using h
theorem Ordered.put {ls:Ls}(h:Ordered ls){i:Nat}{x:It}(hi:i<ls.length)(h1:1<=i)(hf:Zv ls i x.1=true)(hp:2<=i->Zv ls (i / 2) x.1=false) : Ordered (ls.set i (x::ls.getD i [])):=by
 have hf':=(XT ls i x.1).1 hf;refine⟨fun j=>?_,?_,fun j hj=>?_⟩
 ·rw[ZM _ hi]
  split
  ·exact WE (h.sorted i) hf'
  ·exact h.sorted j
 ·rw[ZM _ hi,if_neg (by omega)]
  exact h.zero
 ·rw[ZM _ hi,ZM _ hi]
  by_cases hji:j=i
  ·subst hji
   rw[if_pos rfl,if_neg (by omega)];have hn:=hp hj;refine VG ?_;rcases leL.total (ls.getD (j / 2) []) [(x.1,0)] with hl | hl
   ·exact hl
   ·rw[(XT ls (j / 2) x.1).2 hl] at hn
    cases hn
  ·rw[if_neg hji]
   by_cases hjp:j / 2=i
   ·rw[if_pos hjp]
    have:=h.heap j hj;rw[hjp] at this;exact Uc (hf'.tr this)
   ·rw[if_neg hjp]
    exact h.heap j hj
theorem XU {f i:Nat}(hf:0<f)(hi:0<i) : (ZF f i).getD 0 0=i:=by
 obtain⟨f,rfl⟩:∃ g,f=g+1:=⟨f-1,by omega⟩;rw[ZI f i hi]
 rfl
theorem Xo : ∀ (f i k:Nat),i<f->k+1<(ZF f i).length->(ZF f i).getD (k+1) 0=(ZF f i).getD k 0 / 2
 | 0,i,k,h,_=>by omega
 | f+1,i,k,h,hk=>by
  by_cases hi:i=0
  ·subst hi;simp[ZF] at hk
  ·rw[ZI f i (by omega)] at hk ⊢
   have hk':k<(ZF f (i / 2)).length:=by simpa using hk
   cases k with
   | zero =>
    show (ZF f (i / 2)).getD 0 0=i / 2
    by_cases h2:i / 2=0
    ·rw[h2,Yq] at hk';simp at hk'
    ·exact XU (by omega) (by omega)
   | succ k=>exact Xo f (i / 2) k (by omega) hk'
theorem XV : ∀ (f i:Nat),0<i->i<f->(ZF f i).getD ((ZF f i).length-1) 0=1
 | 0,i,_,h=>by omega
 | f+1,i,hi,h=>by
  rw[ZI f i hi]
  by_cases h2:i / 2=0
  ·rw[h2,Yq]
   show i=1;omega
  ·have ih:=XV f (i / 2) (by omega) (by omega)
   have hl:0<(ZF f (i / 2)).length:=by
    obtain⟨g,rfl⟩:∃ g,f=g+1:=⟨f-1,by omega⟩;rw[ZI g _ (by omega)];simp
   obtain⟨m,hm⟩:∃ m,(ZF f (i / 2)).length=m+1:=⟨(ZF f (i / 2)).length-1,by omega⟩;rw[hm,Nat.add_sub_cancel] at ih;rw[List.length_cons,hm,Nat.add_sub_cancel];exact ih
theorem YK (l:List Nat){j:Nat}(hj:j<l.length) : l.reverse.getD j 0=l.getD (l.length-1-j) 0:=by
 simp only[List.getD_eq_getElem?_getD];rw[List.getElem?_reverse hj]
theorem UI {leaf r:Nat}(hl:1<=leaf)(hr:r<(Zp leaf).length)(h0:0<r) : (Zp leaf).getD (r-1) 0=(Zp leaf).getD r 0 / 2:=by
 have hlen:(Zp leaf).length=(ZF (leaf+1) leaf).length:=by simp[Zp]
 rw[Zp,YK _ (by omega),YK _ (by omega),<-Xo (leaf+1) leaf _ (by omega) (by omega)]
 congr 1
 omega
theorem WF {leaf:Nat}(hl:1<=leaf) : (Zp leaf).getD 0 0=1:=by
 have hp:=Yj hl;have hlen:(Zp leaf).length=(ZF (leaf+1) leaf).length:=by simp[Zp]
 rw[Zp,YK _ (by omega)];exact XV (leaf+1) leaf hl (by omega)
theorem YY {leaf:Nat}(hl:1<=leaf) : (Zp leaf).getD ((Zp leaf).length-1) 0=leaf:=by
 have hp:=Yj hl;have hlen:(Zp leaf).length=(ZF (leaf+1) leaf).length:=by simp[Zp]
 rw[hlen,Zp,YK _ (by omega),Nat.sub_self];exact XU (by omega) hl
theorem Yz (ls:Ls)(key:Int)(path:List Nat) : ∀ (f lo hi:Nat),hi-lo<=f->lo<=hi->Zv ls (path.getD hi 0) key=true->(lo=0\/Zv ls (path.getD (lo-1) 0) key=false) ->
  ZL ls key path f lo hi<=hi/\Zv ls (path.getD (ZL ls key path f lo hi) 0) key=true/\(ZL ls key path f lo hi=0\/Zv ls (path.getD (ZL ls key path f lo hi-1) 0) key=false)
 | 0,lo,hi,hf,hlh,hh,hl=>by
  obtain rfl:lo=hi:=by omega
  exact⟨Nat.le_refl _,hh,hl⟩
 | f+1,lo,hi,hf,hlh,hh,hl=>by
  by_cases hlt:lo<hi
  ·rw[Yy _ _ _ _ _ _ hlt]
   cases hm:Zv ls (path.getD ((lo+hi) / 2) 0) key with
   | true =>
    rw[if_pos rfl];have:=Yz ls key path f lo ((lo+hi) / 2) (by omega) (by omega) hm hl;exact⟨by omega,this.2⟩
   | false =>
    rw[if_neg (by simp)];exact Yz ls key path f ((lo+hi) / 2+1) hi (by omega) (by omega) hh (.inr (by simpa using hm))
  ·obtain rfl:lo=hi:=by omega
   rw[Xm _ _ _ _ _ _ (by omega)];exact⟨Nat.le_refl _,hh,hl⟩
theorem WG (ls:Ls)(key:Int){leaf:Nat}(hl:1<=leaf)(hf:Zv ls leaf key=true) :
  Zv ls (Zu ls key leaf) key=true/\(2<=Zu ls key leaf->Zv ls (Zu ls key leaf / 2) key=false):=by
 have hp:=Yj hl;have hb:=YY hl;obtain⟨h1,h2,h3⟩:=Yz ls key (Zp leaf) (Zp leaf).length 0 ((Zp leaf).length-1) (by omega) (by omega) (by rw[hb];exact hf) (.inl rfl);refine⟨h2,fun h=>?_⟩;unfold Zu at h ⊢;generalize ZL ls key (Zp leaf) (Zp leaf).length 0 ((Zp leaf).length-1)=r at *;rcases h3 with rfl | h3
 ·rw[WF hl] at h
  omega
 ·by_cases hr0:r=0
  ·subst hr0
   rw[WF hl] at h;omega
  ·rw[<-UI hl (by omega) (by omega)]
   exact h3
theorem Xp (ls:Ls)(key:Int) : ∀ (f i:Nat),ZU ls key f i≠0->Zv ls (ZU ls key f i) key=true
 | 0,_,h=>absurd rfl h
 | f+1,i,h=>by
  rw[Yx] at h ⊢;split
  ·assumption
  ·rename_i hn
   rw[if_neg hn] at h;exact Xp ls key f (i+1) h
theorem Xq (ls:Ls)(key:Int)(n:Nat) : ∀ (ds:List Int) (i:Nat),ZH ls key n ds=some i->Zv ls i key=true
 | [],i,h=>by simp[ZH] at h
 | d::ds,i,h=>by
  rw[Z5] at h;split at h
  ·injection h with h
   subst h
   assumption
  ·exact Xq ls key n ds i h
theorem Vc (ls:Ls)(key:Int)(ds:List Int)(h:Zz ls key ds≠0) : Zv ls (Zz ls key ds) key=true:=by
 unfold Zz at *
 cases hd:ZH ls key (ls.length / 2) (ds.take 4) with
 | some i=>rw[Option.getD_some];exact Xq ls key _ _ i hd
 | none =>
  rw[hd,Option.getD_none] at h;rw[Option.getD_none];exact Xp ls key _ _ h
theorem Ordered.insert {ls:Ls}(h:Ordered ls){x:It}{ds:List Int}{n:Nat}(hn:ls.length=2*n)(h1:1<=n)(hz:Zz ls x.1 ds≠0) :
  Ordered (ls.set (Zu ls x.1 (Zz ls x.1 ds)) (x::ls.getD (Zu ls x.1 (Zz ls x.1 ds)) [])):=by
 have hb:=Xk ls x.1 ds hn h1;have hp:=Yr ls x.1 (leaf:=Zz ls x.1 ds) (by omega);obtain⟨s1,s2⟩:=WG ls x.1 (leaf:=Zz ls x.1 ds) (by omega) (Vc ls x.1 ds hz);exact h.put (by omega) hp.1 s1 s2
structure Sinks (ls:Ls)(i:Nat) : Prop where
 sorted:∀ j,Y2 (ls.getD j [])
 zero:ls.getD 0 []=[]
 heap:∀ j,2<=j->j / 2≠i->leL (ls.getD (j / 2) []) (ls.getD j [])
 over:2<=i->∀ j,j / 2=i->leL (ls.getD (i / 2) []) (ls.getD j [])
theorem WH {ls:Ls}{j:Nat}(h:ls.length<=j) : ls.getD j []=[]:=by
 rw[List.getD_eq_getElem?_getD,List.getElem?_eq_none h]
 rfl
theorem Sinks.done {ls:Ls}{i:Nat}(h:Sinks ls i)(hc:∀ j,2<=j->j / 2=i->leL (ls.getD i []) (ls.getD j [])) : Ordered ls :=
 ⟨h.sorted,h.zero,fun j hj=>by
  by_cases hji:j / 2=i
  ·rw[hji];exact hc j hj hji
  ·exact h.heap j hj hji⟩
theorem Sinks.swap {ls:Ls}{i k o:Nat}(h:Sinks ls i)(hi:1<=i)(hk:k=2*i\/k=2*i+1)(ho:o=2*i\/o=2*i+1)(hko:k≠o)(hlt:k<ls.length)(hle:leL (ls.getD k []) (ls.getD o []))(hl:Zt ls k i=true) :
  Sinks ((ls.set i (ls.getD k [])).set k (ls.getD i [])) k:=by
 have hki:leL (ls.getD k []) (ls.getD i []):=by
  rcases leL.total (ls.getD k []) (ls.getD i []) with h | h
  ·exact h
  ·exact absurd h ((YR ls k i).1 hl)
 have hg:∀ j,((ls.set i (ls.getD k [])).set k (ls.getD i [])).getD j []=if j=k then ls.getD i [] else if j=i then ls.getD k [] else ls.getD j []:=by
  intro j;rw[ZM _ (by rw[List.length_set];exact hlt),ZM _ (by omega)]
 refine⟨fun j=>?_,?_,fun j hj hjk=>?_,fun _ j hj=>?_⟩
 ·rw[hg]
  split
  ·exact h.sorted i
  ·split
   ·exact h.sorted k
   ·exact h.sorted j
 ·rw[hg,if_neg (by omega),if_neg (by omega)]
  exact h.zero
 ·rw[hg,hg,if_neg hjk]
  by_cases h1:j=k
  ·subst h1
   rw[if_pos rfl,if_pos (by omega)];exact hki
  ·rw[if_neg h1]
   by_cases h2:j=i
   ·subst h2
    rw[if_pos rfl,if_neg (by omega)];exact h.over hj k (by omega)
   ·rw[if_neg h2]
    by_cases h3:j / 2=i
    ·rw[if_pos h3]
     have:j=o:=by omega
     subst this;exact hle
    ·rw[if_neg h3]
     exact h.heap j hj h3
 ·rw[hg,hg,if_neg (by omega),if_pos (by omega),if_neg (by omega),if_neg (by omega)]
  have:=h.heap j (by omega) (by omega);rw[hj] at this;exact this
theorem Ya : ∀ (f:Nat) (ls:Ls) (i n:Nat),ls.length=2*n->1<=i->n<=i+f->Sinks ls i->Ordered (Zx f ls i)
 | 0,ls,i,n,hn,hi,hf,h=>h.done fun j hj hji=>by rw[WH (ls:=ls) (j:=j) (by omega)];cases ls.getD i []<;>simp[leL]
 | f+1,ls,i,n,hn,hi,hf,h=>by
  rw[Zx];have h2:ls.length / 2=n:=by omega
  rw[h2]
  by_cases hin:i<n
  ·rw[if_pos hin]
   cases hl:Zt ls (2*i+1) (2*i) with
   | true =>
    simp only[if_true];have hko:leL (ls.getD (2*i+1) []) (ls.getD (2*i) []):=by
     rcases leL.total (ls.getD (2*i+1) []) (ls.getD (2*i) []) with h | h
     ·exact h
     ·exact absurd h ((YR ls _ _).1 hl)
    cases hk:Zt ls (2*i+1) i with
    | true =>
     simp only[if_true];exact Ya f _ (2*i+1) n (by simpa using hn) (by omega) (by omega) (h.swap (o:=2*i) hi (.inr rfl) (.inl rfl) (by omega) (by omega) hko hk)
    | false =>
     simp only[Bool.false_eq_true,if_false];have hik:=Xn hk;refine h.done fun j hj hji=>?_
     have:j=2*i\/j=2*i+1:=by omega
     rcases this with rfl | rfl
     ·exact hik.tr hko
     ·exact hik
   | false =>
    simp only[Bool.false_eq_true,if_false];have hko:=Xn hl
    cases hk:Zt ls (2*i) i with
    | true =>
     simp only[if_true];exact Ya f _ (2*i) n (by simpa using hn) (by omega) (by omega) (h.swap (o:=2*i+1) hi (.inl rfl) (.inr rfl) (by omega) (by omega) hko hk)
    | false =>
     simp only[Bool.false_eq_true,if_false];have hik:=Xn hk;refine h.done fun j hj hji=>?_
     have:j=2*i\/j=2*i+1:=by omega
     rcases this with rfl | rfl
     ·exact hik
     ·exact hik.tr hko
  ·rw[if_neg hin]
   exact h.done fun j hj hji=>by rw[WH (ls:=ls) (j:=j) (by omega)];cases ls.getD i []<;>simp[leL]
theorem Ordered.pop {ls:Ls}(h:Ordered ls){p:It}{l:List It}{n:Nat}(hn:ls.length=2*n)(h1:1<=n)(hp:ls.getD 1 []=p::l) : Ordered (Zx (2*n) (ls.set 1 l) 1):=by
 refine Ya (2*n) _ 1 n (by simpa using hn) (Nat.le_refl _) (by omega) ⟨fun j=>?_,?_,fun j hj hj1=>?_,fun h=>by omega⟩
 ·rw[ZM _ (by omega)]
  split
  ·have:=h.sorted 1
   rw[hp] at this;exact(List.pairwise_cons.1 this).2
  ·exact h.sorted j
 ·rw[ZM _ (by omega),if_neg (by omega)]
  exact h.zero
 ·rw[ZM _ (by omega),ZM _ (by omega),if_neg hj1,if_neg (by omega)]
  exact h.heap j hj
def cnt (a:It)(ls:Ls) : Nat:=(ls.map (List.count a)).sum
theorem YL (a:It) : ∀ (ls:Ls) (i:Nat) (v:List It),i<ls.length->cnt a (ls.set i v)+(ls.getD i []).count a=cnt a ls+v.count a
 | [],_,_,h=>by simp at h
 | l::ls,0,v,_=>by simp[cnt];omega
 | l::ls,i+1,v,h=>by
  have ih:=YL a ls i v (by simpa using h);simp only[cnt,List.set_cons_succ,List.map_cons,List.sum_cons,List.getD_cons_succ] at *;omega
theorem Xr (a:It) : ∀ (f:Nat) (ls:Ls) (i n:Nat),ls.length=2*n->1<=i->cnt a (Zx f ls i)=cnt a ls
 | 0,_,_,_,_,_=>rfl
 | f+1,ls,i,n,hn,hi=>by
  rw[Zx];have h2:ls.length / 2=n:=by omega
  rw[h2]
  by_cases hin:i<n
  ·rw[if_pos hin]
   have key:∀ k,i<k->k<ls.length->cnt a ((ls.set i (ls.getD k [])).set k (ls.getD i []))=cnt a ls:=by
    intro k hik hk;have e1:=YL a ls i (ls.getD k []) (by omega);have e2:=YL a (ls.set i (ls.getD k [])) k (ls.getD i []) (by rw[List.length_set];exact hk);rw[ZM _ (by omega),if_neg (by omega)] at e2;omega
   cases Zt ls (2*i+1) (2*i) with
   | true =>
    simp only[if_true];split
    ·rw[Xr a f _ _ n (by simpa using hn) (by omega),key _ (by omega) (by omega)]
    ·rfl
   | false =>
    simp only[Bool.false_eq_true,if_false];split
    ·rw[Xr a f _ _ n (by simpa using hn) (by omega),key _ (by omega) (by omega)]
    ·rfl
  ·rw[if_neg hin]
theorem Yf : ∀ (f:Nat) (ls:Ls) (i:Nat),(Zx f ls i).length=ls.length
 | 0,_,_=>rfl
 | f+1,ls,i=>by
  rw[Zx];split
  ·cases Zt ls (2*i+1) (2*i) with
   | true =>
    simp only[if_true];split
    ·rw[Yf f];simp
    ·rfl
   | false =>
    simp only[Bool.false_eq_true,if_false];split
    ·rw[Yf f];simp
    ·rfl
  ·rfl
theorem Z8 (a:It)(ls:Ls) : ls.flatten.count a=cnt a ls:=by rw[cnt,List.count_flatten]
abbrev Yt (ls:Ls) : List It:=ls.flatten
theorem Xs {ls:Ls}{x:It}{i:Nat}(hi:i<ls.length) : (Yt (ls.set i (x::ls.getD i []))).Perm (x::Yt ls):=by
 rw[List.perm_iff_count];intro a;rw[Z8,List.count_cons,Z8];have:=YL a ls i (x::ls.getD i []) hi;rw[List.count_cons] at this;omega
theorem Wk {ls:Ls}{p:It}{l:List It}{n:Nat}(hn:ls.length=2*n)(h1:1<=n)(hp:ls.getD 1 []=p::l) : (Yt ls).Perm (p::Yt (Zx (2*n) (ls.set 1 l) 1)):=by
 rw[List.perm_iff_count];intro a;rw[Z8,List.count_cons,Z8,Xr a _ _ 1 n (by simpa using hn) (Nat.le_refl _)];have:=YL a ls 1 l (by omega);rw[hp,List.count_cons] at this;omega
theorem Ordered.root {ls:Ls}(h:Ordered ls) : ∀ i,1<=i->leL (ls.getD 1 []) (ls.getD i []):=by
 intro i
 induction i using Nat.strongRecOn with
 | _ i ih =>
  intro hi
  by_cases h1:i=1
  ·subst h1;exact leL.rf _
  ·exact(ih (i / 2) (by omega) (by omega)).tr (h.heap i (by omega))
theorem Ordered.least {ls:Ls}(h:Ordered ls){q:It}(hq:q∈Yt ls) : ∃ p l,ls.getD 1 []=p::l/\p.1<=q.1:=by
 obtain⟨m,hm,hqm⟩:=List.mem_flatten.1 hq;obtain⟨i,hi,him⟩:=List.mem_iff_getElem.1 hm;have hg:ls.getD i []=m:=by rw[List.getD_eq_getElem?_getD,List.getElem?_eq_getElem hi,him];rfl
 have hi1:1<=i:=by
  rcases Nat.eq_zero_or_pos i with h0 | h0
  ·subst h0
   rw[h.zero] at hg;rw[<-hg] at hqm
   cases hqm
  ·exact h0
 have hr:=h.root i hi1;have hs:=h.sorted i;rw[hg] at hr hs
 cases m with
 | nil=>cases hqm
 | cons c m =>
  cases h1:ls.getD 1 [] with
  | nil=>rw[h1] at hr;simp[leL] at hr
  | cons p l =>
   rw[h1] at hr;have hr:p.1<=c.1:=hr;refine⟨p,l,rfl,?_⟩;rcases List.mem_cons.1 hqm with rfl | hqm
   ·exact hr
   ·have:=(List.pairwise_cons.1 hs).1 q hqm
    omega
theorem WI (n:Nat) : Ordered (List.replicate n []):=by
 have hg:∀ i,(List.replicate n ([]:List It)).getD i []=[]:=by
  intro i;rw[List.getD_eq_getElem?_getD,List.getElem?_replicate];split<;>rfl
 refine⟨fun i=>?_,hg 0,fun i _=>?_⟩
 ·rw[hg];exact List.Pairwise.nil
 ·rw[hg,hg];simp[leL]
theorem Vr (n:Nat) : Yt (List.replicate n [])=[]:=by simp[Yt]
theorem MoundRep.modT {w w':World}{base base' g:Nat}{ts:List TypeId}{ls:Ls}{sz:Int}(H:MoundRep w base g ls sz)(k:ModT base' ts w w')(h1:52∉ts)(h2:88∉ts)(h3:72∉ts) : MoundRep w' base g ls sz:=by
 obtain⟨h,hb,q1,q2,q3⟩:=H;exact⟨h,hb.modT k h3,q1,q2,q3.modT k h1 h2⟩
def ChainM (M:List Int)(lb:Nat) : Int->List Nat->Prop
 | x,[]=>x=-1
 | x,s::l=>x=(s:Int)/\∃ y,M[lb+s]?=some y/\ChainM M lb y l
theorem ChainM.congr {M M':List Int}{lb:Nat} : ∀ {x:Int} {l:List Nat},ChainM M lb x l->(∀ s∈l,M'[lb+s]?=M[lb+s]?)->ChainM M' lb x l
 | _,[],h,_=>h
 | _,s::l,⟨h1,y,h2,h3⟩,hc=>⟨h1,y,by rw[hc s (by simp)];exact h2,h3.congr fun t ht=>hc t (by simp[ht])⟩
theorem ChainM.rng {M:List Int}{lb n:Nat}{x:Int}{l:List Nat}(h:ChainM M lb x l)(hl:∀ s∈l,s<n) : -1<=x/\x<(n:Int):=by
 cases l with
 | nil=>have:x=-1:=h;omega
 | cons s l=>have:=hl s (by simp);have:=h.1;omega
theorem Ql {p:Int}(h:-1<=p/\p<=2147483646) : plc p=p:=by unfold plc;split<;>omega
theorem Ys {x p:Int}(h:-1<=p/\p<=2147483646) : pla (upP x p)=p:=by rw[Qk,Ql h]
structure LayQ (M:List Int)(n:Nat)(F:List Nat)(L:List (List Nat)) : Prop where
 len:M.length=n+1+(63+n)
 top:∃ x,M[0]?=some x/\Zl x/\ChainM M 1 (pla x) F
 flt:∀ s∈F,s<n
 ll:L.length=64
 hd:∀ i,1<=i->i<64->∃ x,M[n+1+(i-1)]?=some x/\Zl x/\ChainM M (n+1+63) (pla x) (L.getD i [])
 llt:∀ (i s:Nat),s∈L.getD i []->s<n
theorem LayQ.take {M:List Int}{n s:Nat}{F:List Nat}{L:List (List Nat)}(h:LayQ M n (s::F) L)(hn:n<=4096){x y:Int}(hx:M[0]?=some x)(hy:M[0+1+s]?=some y) : LayQ (M.set 0 (upP x y)) n F L:=by
 obtain⟨x',h1,h2,h3,y',h4,h5⟩:=h.top;rw[hx] at h1
 injection h1 with h1
 subst h1;rw[show 0+1+s=1+s by omega,h4] at hy
 injection hy with hy
 subst hy;have hF:∀ t∈F,t<n:=fun t ht=>h.flt t (by simp[ht])
 have r:=h5.rng hF;refine⟨by simpa using h.len,⟨_,List.getElem?_set_self (by have:=h.len;omega),ZC _ _,?_⟩,hF,h.ll,fun i h1 h2=>?_,h.llt⟩
 ·rw[Ys (by omega)]
  exact h5.congr fun t _=>List.getElem?_set_ne (by omega)
 ·obtain⟨z,q1,q2,q3⟩:=h.hd i h1 h2
  exact⟨z,by rw[List.getElem?_set_ne (by omega)];exact q1,q2,q3.congr fun t _=>List.getElem?_set_ne (by omega)⟩
theorem LayQ.give {M:List Int}{n s:Nat}{F:List Nat}{L:List (List Nat)}(h:LayQ M n F L)(hn:n<=4096)(hs:s<n)(hF:s∉F){x:Int}(hx:M[0]?=some x) : LayQ ((M.set (0+1+s) (pla x)).set 0 (upP x (s:Int))) n (s::F) L:=by
 obtain⟨x',h1,h2,h3⟩:=h.top;rw[hx] at h1
 injection h1 with h1
 subst h1;have ln:=h.len;refine⟨by simpa using h.len,⟨_,List.getElem?_set_self (by rw[List.length_set];omega),ZC _ _,?_⟩,fun t ht=>?_,h.ll,fun i h1 h2=>?_,h.llt⟩
 ·rw[Ys (by omega)]
  refine⟨rfl,_,by rw[List.getElem?_set_ne (by omega),show 1+s=0+1+s by omega];exact List.getElem?_set_self (by omega),h3.congr fun t ht=>?_⟩;rw[List.getElem?_set_ne (by omega),List.getElem?_set_ne (fun e=>hF (by rwa [show s=t by omega]))]
 ·rcases List.mem_cons.1 ht with rfl | ht
  ·exact hs
  ·exact h.flt t ht
 ·obtain⟨z,q1,q2,q3⟩:=h.hd i h1 h2
  exact⟨z,by rw[List.getElem?_set_ne (by omega),List.getElem?_set_ne (by omega)];exact q1,q2,q3.congr fun t _=>by rw[List.getElem?_set_ne (by omega),List.getElem?_set_ne (by omega)]⟩
theorem XW {L:List (List Nat)}{i:Nat}(v:List Nat)(hi:i<L.length)(j:Nat) : (L.set i v).getD j []=if j=i then v else L.getD j []:=by
 simp only[List.getD_eq_getElem?_getD]
 by_cases h:j=i
 ·subst h
  rw[if_pos rfl,List.getElem?_set_self hi]
  rfl
 ·rw[if_neg h,List.getElem?_set_ne (fun e=>h e.symm)]
theorem LayQ.at {M M':List Int}{n i:Nat}{F:List Nat}{L:List (List Nat)}{l:List Nat}(h:LayQ M n F L)(hl:M'.length=M.length)(h1:1<=i)(h2:i<64){x:Int}(hx:M'[n+1+(i-1)]?=some x)(px:Zl x)(hc:ChainM M' (n+1+63) (pla x) l)(hlt:∀ s∈l,s<n)
  (h3:∀ j,j≠n+1+(i-1)->j<n+1+63->M'[j]?=M[j]?) (h4:∀ (j s:Nat),j≠i->s∈L.getD j []->M'[n+1+63+s]?=M[n+1+63+s]?):LayQ M' n F (L.set i l):=by
 obtain⟨x0,t1,t2,t3⟩:=h.top;have hi:i<L.length:=by rw[h.ll];omega
 refine⟨by rw[hl];exact h.len,⟨x0,by rw[h3 0 (by omega) (by omega)];exact t1,t2,t3.congr fun s hs=>h3 _ (by have:=h.flt s hs;omega) (by have:=h.flt s hs;omega)⟩,h.flt,by rw[List.length_set];exact h.ll,fun j j1 j2=>?_,fun j s hs=>?_⟩
 ·rw[XW _ hi]
  by_cases e:j=i
  ·subst e
   rw[if_pos rfl];exact⟨x,hx,px,hc⟩
  ·rw[if_neg e]
   obtain⟨z,q1,q2,q3⟩:=h.hd j j1 j2;exact⟨z,by rw[h3 _ (by omega) (by omega)];exact q1,q2,q3.congr fun s hs=>h4 j s e hs⟩
 ·rw[XW _ hi] at hs
  split at hs
  ·exact hlt s hs
  ·exact h.llt j s hs
theorem LayQ.off {M:List Int}{n i s:Nat}{F:List Nat}{L:List (List Nat)}{l:List Nat}(h:LayQ M n F L)(hn:n<=4096)(h1:1<=i)(h2:i<64)(hL:L.getD i []=s::l){x y:Int}(hx:M[n+1+(i-1)]?=some x)(hy:M[n+1+63+s]?=some y) : LayQ (M.set (n+1+(i-1)) (upP x y)) n F (L.set i l):=by
 obtain⟨x',q1,q2,q3⟩:=h.hd i h1 h2;rw[hx] at q1
 injection q1 with q1
 subst q1;rw[hL] at q3;obtain⟨_,y',h4,h5⟩:=q3;rw[hy] at h4
 injection h4 with h4
 subst h4;have hlt:∀ t∈l,t<n:=fun t ht=>h.llt i t (by rw[hL];simp[ht])
 have r:=h5.rng hlt;have ln:=h.len;refine h.at (by simp) h1 h2 (List.getElem?_set_self (by omega)) (ZC _ _) ?_ hlt (fun j e _=>List.getElem?_set_ne (fun e'=>e e'.symm)) (fun j s _ _=>List.getElem?_set_ne (by omega));rw[Ys (by omega)];exact h5.congr fun t _=>List.getElem?_set_ne (by omega)
theorem LayQ.on {M:List Int}{n i s:Nat}{F:List Nat}{L:List (List Nat)}(h:LayQ M n F L)(hn:n<=4096)(h1:1<=i)(h2:i<64)(hs:s<n)(hf:∀ j,s∉L.getD j []){x:Int}(hx:M[n+1+(i-1)]?=some x) : LayQ ((M.set (n+1+63+s) (pla x)).set (n+1+(i-1)) (upP x (s:Int))) n F (L.set i (s::L.getD i [])):=by
 obtain⟨x',q1,q2,q3⟩:=h.hd i h1 h2;rw[hx] at q1
 injection q1 with q1
 subst q1;have ln:=h.len;have hne:∀ (j t:Nat),t∈L.getD j []->((M.set (n+1+63+s) (pla x)).set (n+1+(i-1)) (upP x (s:Int)))[n+1+63+t]?=M[n+1+63+t]?:=fun j t ht=>by
  rw[List.getElem?_set_ne (by omega),List.getElem?_set_ne (fun e=>hf j (by rwa [show s=t by omega]))]
 refine h.at (by simp) h1 h2 (List.getElem?_set_self (by rw[List.length_set];omega)) (ZC _ _) ?_ (fun t ht=>?_) (fun j e hj=>by rw[List.getElem?_set_ne (fun e'=>e e'.symm),List.getElem?_set_ne (by omega)]) (fun j t _ ht=>hne j t ht)
 ·rw[Ys (by omega)]
  refine⟨rfl,_,by rw[List.getElem?_set_ne (by omega)];exact List.getElem?_set_self (by omega),q3.congr fun t ht=>hne i t ht⟩
 ·rcases List.mem_cons.1 ht with rfl | ht
  ·exact hs
  ·exact h.llt i t ht
theorem LayQ.swap {M:List Int}{n i c:Nat}{F:List Nat}{L:List (List Nat)}(h:LayQ M n F L)(hn:n<=4096)(h1:1<=i)(h2:i<64)(k1:1<=c)(k2:c<64)(hic:i≠c){x z:Int}(hx:M[n+1+(i-1)]?=some x)(hz:M[n+1+(c-1)]?=some z) :
  LayQ ((((M.set (n+1+(c-1)) (upP z (-1))).set (n+1+(i-1)) (upP x (-1))).set (n+1+(i-1)) (upP (upP x (-1)) (pla z))).set (n+1+(c-1)) (upP (upP z (-1)) (pla x))) n F ((L.set i (L.getD c [])).set c (L.getD i [])):=by
 obtain⟨x',q1,q2,q3⟩:=h.hd i h1 h2;rw[hx] at q1
 injection q1 with q1
 subst q1;obtain⟨z',p1,p2,p3⟩:=h.hd c k1 k2;rw[hz] at p1
 injection p1 with p1
 subst p1;have ln:=h.len;have rx:=q3.rng (h.llt i);have rz:=p3.rng (h.llt c);have hlow:∀ (t:Nat) (a b c' d:Int),((((M.set (n+1+(c-1)) a).set (n+1+(i-1)) b).set (n+1+(i-1)) c').set (n+1+(c-1)) d)[n+1+63+t]?=M[n+1+63+t]?:=fun t a b c' d=>by
  rw[List.getElem?_set_ne (by omega),List.getElem?_set_ne (by omega),List.getElem?_set_ne (by omega),List.getElem?_set_ne (by omega)]
 have s1:LayQ (M.set (n+1+(i-1)) (upP (upP x (-1)) (pla z))) n F (L.set i (L.getD c [])):=by
  refine h.at (by simp) h1 h2 (List.getElem?_set_self (by omega)) (ZC _ _) ?_ (h.llt c) (fun j e _=>List.getElem?_set_ne (fun e'=>e e'.symm)) (fun j s _ _=>List.getElem?_set_ne (by omega));rw[Ys (by omega)];exact p3.congr fun t _=>List.getElem?_set_ne (by omega)
 refine s1.at (by simp) k1 k2 (List.getElem?_set_self (by simp only[List.length_set];omega)) (ZC _ _) ?_ (h.llt i) (fun j e _=>?_) (fun j s _ _=>?_)
 ·rw[Ys (by omega)]
  exact q3.congr fun t _=>hlow t _ _ _ _
 ·rw[List.getElem?_set_ne (fun e'=>e e'.symm)]
  by_cases e2:n+1+(i-1)=j
  ·subst e2
   rw[List.getElem?_set_self (by simp only[List.length_set];omega),List.getElem?_set_self (by omega)]
  ·rw[List.getElem?_set_ne e2,List.getElem?_set_ne e2,List.getElem?_set_ne (fun e'=>e e'.symm),List.getElem?_set_ne e2]
 ·rw[hlow,List.getElem?_set_ne (by omega)]
def itL (bd:Nat->Int)(l:List Nat) : List It:=l.map fun s=>(bd s,(s:Int))
def Zo (bd:Nat->Int)(L:List (List Nat)) : Ls:=L.map (itL bd)
theorem ZD (bd:Nat->Int)(L:List (List Nat))(i:Nat) : (Zo bd L).getD i []=itL bd (L.getD i []):=by
 simp only[List.getD_eq_getElem?_getD,Zo,List.getElem?_map]
 cases L[i]?<;>rfl
theorem Yb (bd:Nat->Int)(L:List (List Nat))(i:Nat)(l:List Nat) : Zo bd (L.set i l)=(Zo bd L).set i (itL bd l):=by simp[Zo,List.map_set]
theorem Yk (bd:Nat->Int)(L:List (List Nat)) : (Zo bd L).length=L.length:=by simp[Zo]
theorem Yl {bd:Nat->Int}{M:List Int}{lb:Nat}{L:List (List Nat)}{i k:Nat}{x y:Int}(hx:ChainM M lb (pla x) (L.getD i []))(hy:ChainM M lb (pla y) (L.getD k [])) : ZR bd x y=Zt (Zo bd L) i k:=by
 unfold ZR Zt;rw[ZD,ZD]
 cases hi:L.getD i [] with
 | nil =>
  rw[hi] at hx;have e:pla x=-1:=hx;simp[itL,e]
 | cons s l =>
  rw[hi] at hx;have e:pla x=(s:Int):=hx.1
  cases hk:L.getD k [] with
  | nil =>
   rw[hk] at hy;have e2:pla y=-1:=hy;simp[itL,e,e2]
  | cons t m =>
   rw[hk] at hy;have e2:pla y=(t:Int):=hy.1;have e3:¬((t:Int)<0):=by omega
   simp[itL,e,e2,e3]
theorem XY {bd:Nat->Int}{M:List Int}{lb:Nat}{L:List (List Nat)}{i:Nat}{x key:Int}(hx:ChainM M lb (pla x) (L.getD i [])) : Yi bd x key = !Zv (Zo bd L) i key:=by
 unfold Yi Zv;rw[ZD]
 cases hi:L.getD i [] with
 | nil =>
  rw[hi] at hx;have e:pla x=-1:=hx;simp[itL,e]
 | cons s l =>
  rw[hi] at hx;have e:pla x=(s:Int):=hx.1
  by_cases h:key<=bd s
  ·have h2:¬bd s<key:=by omega
   simp[itL,e,h,h2]
  ·have h2:bd s<key:=by omega
   simp[itL,e,h,h2]
theorem ZA (gm gc gh b lv ga gp:Nat)(M:List Int)(w:World)(HH:ZK w gh gm gp b lv)(HM:MemB w gm gc M)(t:TypeId)(cs:Array Value)(A:Blk w ga t cs)(A0:cs[0]?=some (.pointer (some ⟨gh,0,none⟩)))(hb:b<=1048576)(i:Nat)(h1:1<=i)(hi:i<=2097152)(x:Int)(hx:M[b+(i-1)]?=some x) :
  Calls Try.prog 73 #[.pointer (some ⟨ga,0,none⟩),.int .i64 (i:Int)] w (Zw gm gc M (.int .i64 x) w):=by
 have GE:=Hd (fun(W:World) (h:MemB W gm gc M)=>YC gm gc M (b+(i-1)) x W h hx);have HD:=Hd (fun(W:World) (X:Ext w W)=>YQ gh gm gp b lv W (Blk.ext HH X) i h1 hi hb);have MM:=Hd HM;have a0:w.cell? ⟨ga,0,none⟩=some (.pointer (some ⟨gh,0,none⟩)):=(A.cell 0).trans A0;have h0:w.cell? ⟨gh,0,none⟩=some (.pointer (some ⟨gm,0,none⟩)):=Blk.cell HH 0;have za:=A.lt;have zh:=Blk.lt HH;clear HH HM A A0 hx;generalize b+(i-1)=q at *;go_enter Try.func73,Try.ntmps73;go_upto_region 1 with(fail);refine wp_region_any (by kernel_rfl) ?_
 change wpAny _ _ _ _ _ _ _ (World.drew _)
 refine Za (i:=0) (op:=Op.move (Operand.tmp 0)) (t:=46) (d:=some 8) (v:=_) rfl (by decide +kernel) (fun _ _ _ h=>h) (by intro _;unfold Zb;go_simp;try with_reducible rfl) ?_
 try simp only[lay]
 refine Za (i:=1) (op:=Op.nilCheck (Operand.tmp 8)) (t:=0) (d:=some 9) (v:=_) rfl (by decide +kernel) (fun _ _ _ h=>h) (by intro _;unfold Zb;go_simp;try with_reducible rfl) ?_
 try simp only[lay]
 refine Za (i:=2) (op:=Op.fieldAddr 85 (Operand.tmp 9) 0) (t:=0) (d:=some 10) (v:=_) rfl (by decide +kernel) (fun _ _ _ h=>h) (by intro _;unfold Zb;go_simp;try with_reducible rfl) ?_
 try simp only[lay]
 refine Za (i:=7) (op:=Op.move (Operand.tmp 0)) (t:=46) (d:=some 15) (v:=_) rfl (by decide +kernel) (fun _ _ _ h=>h) (by intro _;unfold Zb;go_simp;try with_reducible rfl) ?_
 try simp only[lay]
 refine Za (i:=8) (op:=Op.nilCheck (Operand.tmp 15)) (t:=0) (d:=some 16) (v:=_) rfl (by decide +kernel) (fun _ _ _ h=>h) (by intro _;unfold Zb;go_simp;try with_reducible rfl) ?_
 try simp only[lay]
 refine Za (i:=9) (op:=Op.fieldAddr 85 (Operand.tmp 16) 0) (t:=0) (d:=some 17) (v:=_) rfl (by decide +kernel) (fun _ _ _ h=>h) (by intro _;unfold Zb;go_simp;try with_reducible rfl) ?_
 try simp only[lay]
 refine Za (i:=11) (op:=Op.move (Operand.tmp 1)) (t:=3) (d:=some 19) (v:=_) rfl (by decide +kernel) (fun _ _ _ h=>h) (by intro _;unfold Zb;go_simp;try with_reducible rfl) ?_
 try simp only[lay]
 refine Zi (n:=6) [(3,some 11),(4,some 12),(5,some 13),(6,some 14),(10,some 18),(12,some 20)] (Ext w) (VF (fun | 3=>some (.pointer (some ⟨gh,0,none⟩)) | 4=>some (.pointer (some ⟨gh,0,none⟩)) | 5=>some (.pointer (some ⟨gh,0,none⟩)) | 6=>some (.pointer (some ⟨gm,0,none⟩)) | 10=>some (.pointer (some ⟨gh,0,none⟩)) | 12=>some (.int .i64 (q:Int)) | _=>none) (fun i v W=>True)) Ext #[true,true,true,true,true,true,true,true,true,true,true,true,true,false,false,false,false,false,false] (by decide +kernel) (VF.stab ?_) ?_ ?_ (by first | exact(Ext.rf _).drew | exact Ext.rf _)
 ·intro j v W W' _ _ _;trivial
 ·intro pS hpm uS wS hRW hD K hK
  simp only[List.mem_cons,List.not_mem_nil,or_false] at hpm;rcases hpm with rfl | rfl | rfl | rfl | rfl | rfl
  ·( have rX:=Zf hRW za a0;exact Ze (T:=32) (x:=Operand.tmp 10) (t:=32) (d:=some 11) rfl (.pointer (some ⟨ga,0,none⟩)) (by kernel_rfl) (.pointer (some ⟨gh,0,none⟩)) (by go_simp) (hK _ _ (VF.mk rfl) hRW (Ext.rf _)))
  ·(have e3:uS 3=.pointer (some ⟨gh,0,none⟩):=(hD 3 (Zg (by kernel_rfl))).k rfl;exact Zm (op:=Op.nilCheck (Operand.tmp 11)) (t:=0) (d:=some 12) rfl (.pointer (some ⟨gh,0,none⟩)) (by simp only[Zc,Act.put,List.setIfInBounds_toArray,List.set_cons_zero,List.set_cons_succ];unfold Zb;(try go_simp);(try simp only[e3]);(try go_simp);(try rfl);(try (exact IntWalk.i64_in _ (by omega)))) (hK _ _ (VF.mk rfl) hRW (Ext.rf _)))
  ·(have e4:uS 4=.pointer (some ⟨gh,0,none⟩):=(hD 4 (Zg (by kernel_rfl))).k rfl;exact Zm (op:=Op.fieldAddr 69 (Operand.tmp 12) 0) (t:=0) (d:=some 13) rfl (.pointer (some ⟨gh,0,none⟩)) (by simp only[Zc,Act.put,List.setIfInBounds_toArray,List.set_cons_zero,List.set_cons_succ];unfold Zb;(try go_simp);(try simp only[e4]);(try go_simp);(try rfl);(try (exact IntWalk.i64_in _ (by omega)))) (hK _ _ (VF.mk rfl) hRW (Ext.rf _)))
  ·(have e5:uS 5=.pointer (some ⟨gh,0,none⟩):=(hD 5 (Zg (by kernel_rfl))).k rfl;have rX:=Zf hRW zh h0;exact Ze (T:=24) (x:=Operand.tmp 13) (t:=24) (d:=some 14) rfl (.pointer (some ⟨gh,0,none⟩)) (Eq.trans (b:=uS 5) (by kernel_rfl) e5) (.pointer (some ⟨gm,0,none⟩)) (by go_simp) (hK _ _ (VF.mk rfl) hRW (Ext.rf _)))
  ·( have rX:=Zf hRW za a0;exact Ze (T:=32) (x:=Operand.tmp 17) (t:=32) (d:=some 18) rfl (.pointer (some ⟨ga,0,none⟩)) (by kernel_rfl) (.pointer (some ⟨gh,0,none⟩)) (by go_simp) (hK _ _ (VF.mk rfl) hRW (Ext.rf _)))
  ·(have e10:uS 10=.pointer (some ⟨gh,0,none⟩):=(hD 10 (Zg (by kernel_rfl))).k rfl;exact Zh (f:=32) (xs:=#[Operand.tmp 18,Operand.tmp 19]) (ts:=#[32,3]) (t:=3) (d:=some 20) rfl #[.pointer (some ⟨gh,0,none⟩),.int .i64 (i:Int)] (by go_simp) (Eq.trans (b:=#[uS 10,.int .i64 (i:Int)]) (by kernel_rfl) (by rw[e10])) _ (HD.out _ hRW) (by rintro e w9 ⟨rfl,xx⟩;exact⟨_,rfl,hK _ _ (VF.mk rfl) (hRW.tr xx) xx⟩))
 intro u w3 hR3 hV;have h3:=(hV (3,some 11) (by simp)).k rfl;have h4:=(hV (4,some 12) (by simp)).k rfl;have h5:=(hV (5,some 13) (by simp)).k rfl;have h6:=(hV (6,some 14) (by simp)).k rfl;have h10:=(hV (10,some 18) (by simp)).k rfl;have h12:=(hV (12,some 20) (by simp)).k rfl;simp only[Zc,h3,h4,h5,h6,h10,h12];clear hV h3 h4 h5 h6 h10 h12
 try simp only[lay]
 refine Zd 13 (by decide +kernel) (Zh (f:=70) (xs:=#[Operand.tmp 14,Operand.tmp 20]) (ts:=#[24,3]) (t:=97) (d:=some 21) rfl #[.pointer (some ⟨gm,0,none⟩),.int .i64 (q:Int)] (by go_simp) (by kernel_rfl) _ (GE.out _ (MM.out.ext hR3)) ?_);rintro e w4 ⟨rfl,m4,d4⟩;have M4:=Hd m4;have D4:=Hd ((Mod.of_ext hR3:Mod (CS gm gc) w w3).tr d4);clear m4 d4 hR3 GE HD;refine⟨_,rfl,?_⟩
 try simp only[lay]
 refine Za (i:=14) (op:=Op.move (Operand.tmp 21)) (t:=97) (d:=some 7) (v:=_) rfl (by decide +kernel) (fun _ _ _ h=>h) (by intro _;unfold Zb;go_simp;try with_reducible rfl) ?_
 try simp only[lay]
 refine Za (i:=15) (op:=Op.extract (Operand.tmp 7) 0) (t:=3) (d:=some 22) (v:=_) rfl (by decide +kernel) (fun _ _ _ h=>h) (by intro _;unfold Zb;go_simp;try with_reducible rfl) ?_
 try simp only[lay]
 refine Za (i:=16) (op:=Op.extract (Operand.tmp 7) 1) (t:=25) (d:=some 23) (v:=_) rfl (by decide +kernel) (fun _ _ _ h=>h) (by intro _;unfold Zb;go_simp;try with_reducible rfl) ?_
 try simp only[lay]
 refine Za (i:=17) (op:=Op.assign (Operand.tmp 22)) (t:=3) (d:=some 5) (v:=_) rfl (by decide +kernel) (fun _ _ _ h=>h) (by intro _;unfold Zb;go_simp;try with_reducible rfl) ?_
 try simp only[lay]
 refine Za (i:=18) (op:=Op.assign (Operand.tmp 23)) (t:=25) (d:=some 6) (v:=_) rfl (by decide +kernel) (fun _ _ _ h=>h) (by intro _;unfold Zb;go_simp;try with_reducible rfl) ?_
 try simp only[lay]
 refine wpAny_done (by kernel_rfl) ?_ _;go_simp;go_wp2_with (fail);go_ret;exact⟨rfl,M4.out,D4.out⟩
theorem ZY (gm gc gh b lv ga gp:Nat)(M:List Int)(w:World)(HH:ZK w gh gm gp b lv)(HM:MemB w gm gc M)(t:TypeId)(cs:Array Value)(A:Blk w ga t cs)(A0:cs[0]?=some (.pointer (some ⟨gh,0,none⟩)))(hb:b<=1048576)(i:Nat)(h1:1<=i)(hi:i<=2097152)(x:Int)(hx:M[b+(i-1)]?=some x)(had slot:Int)(hh:Zl had) :
  Calls Try.prog 78 #[.pointer (some ⟨ga,0,none⟩),.int .i64 (i:Int),.int .i64 had,.int .i64 slot] w (Zw gm gc (if x=had then M.set (b+(i-1)) (upP had slot) else M) (.bool (decide (x=had))) w):=by
 have CA:=fun(W:World) (h:MemB W gm gc M)=>Wf gm gc M (b+(i-1)) x had (upP had slot) W h hx
 have UP:=Hd (fun(W:World)=>YH had slot W hh);have HD:=Hd (fun(W:World) (X:Ext w W)=>YQ gh gm gp b lv W (Blk.ext HH X) i h1 hi hb);have MM:=Hd HM;have a0:w.cell? ⟨ga,0,none⟩=some (.pointer (some ⟨gh,0,none⟩)):=(A.cell 0).trans A0;have h0:w.cell? ⟨gh,0,none⟩=some (.pointer (some ⟨gm,0,none⟩)):=Blk.cell HH 0;have za:=A.lt;have zh:=Blk.lt HH;clear HH HM A A0 hx;generalize (if x=had then M.set (b+(i-1)) (upP had slot) else M)=M' at *;generalize decide (x=had)=ok at *;generalize upP had slot=up at *;generalize b+(i-1)=q at *;replace CA:=Hd CA;go_enter Try.func78,Try.ntmps78;go_upto_region 1 with(fail);refine wp_region_any (by kernel_rfl) ?_
 change wpAny _ _ _ _ _ _ _ (World.drew _)
 refine Za (i:=0) (op:=Op.move (Operand.tmp 0)) (t:=46) (d:=some 12) (v:=_) rfl (by decide +kernel) (fun _ _ _ h=>h) (by intro _;unfold Zb;go_simp;try with_reducible rfl) ?_
 try simp only[lay]
 refine Za (i:=1) (op:=Op.nilCheck (Operand.tmp 12)) (t:=0) (d:=some 13) (v:=_) rfl (by decide +kernel) (fun _ _ _ h=>h) (by intro _;unfold Zb;go_simp;try with_reducible rfl) ?_
 try simp only[lay]
 refine Za (i:=2) (op:=Op.fieldAddr 85 (Operand.tmp 13) 0) (t:=0) (d:=some 14) (v:=_) rfl (by decide +kernel) (fun _ _ _ h=>h) (by intro _;unfold Zb;go_simp;try with_reducible rfl) ?_
 try simp only[lay]
 refine Za (i:=7) (op:=Op.move (Operand.tmp 0)) (t:=46) (d:=some 19) (v:=_) rfl (by decide +kernel) (fun _ _ _ h=>h) (by intro _;unfold Zb;go_simp;try with_reducible rfl) ?_
 try simp only[lay]
 refine Za (i:=8) (op:=Op.nilCheck (Operand.tmp 19)) (t:=0) (d:=some 20) (v:=_) rfl (by decide +kernel) (fun _ _ _ h=>h) (by intro _;unfold Zb;go_simp;try with_reducible rfl) ?_
 try simp only[lay]
 refine Za (i:=9) (op:=Op.fieldAddr 85 (Operand.tmp 20) 0) (t:=0) (d:=some 21) (v:=_) rfl (by decide +kernel) (fun _ _ _ h=>h) (by intro _;unfold Zb;go_simp;try with_reducible rfl) ?_
 try simp only[lay]
 refine Za (i:=11) (op:=Op.move (Operand.tmp 1)) (t:=3) (d:=some 23) (v:=_) rfl (by decide +kernel) (fun _ _ _ h=>h) (by intro _;unfold Zb;go_simp;try with_reducible rfl) ?_
 try simp only[lay]
 refine Za (i:=13) (op:=Op.move (Operand.tmp 2)) (t:=3) (d:=some 25) (v:=_) rfl (by decide +kernel) (fun _ _ _ h=>h) (by intro _;unfold Zb;go_simp;try with_reducible rfl) ?_
 try simp only[lay]
 refine Za (i:=14) (op:=Op.move (Operand.tmp 2)) (t:=3) (d:=some 26) (v:=_) rfl (by decide +kernel) (fun _ _ _ h=>h) (by intro _;unfold Zb;go_simp;try with_reducible rfl) ?_
 try simp only[lay]
 refine Za (i:=15) (op:=Op.move (Operand.tmp 3)) (t:=3) (d:=some 27) (v:=_) rfl (by decide +kernel) (fun _ _ _ h=>h) (by intro _;unfold Zb;go_simp;try with_reducible rfl) ?_
 try simp only[lay]
 refine Zi (n:=6) [(3,some 15),(4,some 16),(5,some 17),(6,some 18),(10,some 22),(12,some 24),(16,some 28)] (Ext w) (VF (fun | 3=>some (.pointer (some ⟨gh,0,none⟩)) | 4=>some (.pointer (some ⟨gh,0,none⟩)) | 5=>some (.pointer (some ⟨gh,0,none⟩)) | 6=>some (.pointer (some ⟨gm,0,none⟩)) | 10=>some (.pointer (some ⟨gh,0,none⟩)) | 12=>some (.int .i64 (q:Int)) | 16=>some (.int .i64 up) | _=>none) (fun i v W=>True)) Ext #[true,true,true,true,true,true,true,true,true,true,true,true,true,true,true,true,true,false,false,false,false,false,false] (by decide +kernel) (VF.stab ?_) ?_ ?_ (by first | exact(Ext.rf _).drew | exact Ext.rf _)
 ·intro j v W W' _ _ _;trivial
 ·intro pS hpm uS wS hRW hD K hK
  simp only[List.mem_cons,List.not_mem_nil,or_false] at hpm;rcases hpm with rfl | rfl | rfl | rfl | rfl | rfl | rfl
  ·( have rX:=Zf hRW za a0;exact Ze (T:=32) (x:=Operand.tmp 14) (t:=32) (d:=some 15) rfl (.pointer (some ⟨ga,0,none⟩)) (by kernel_rfl) (.pointer (some ⟨gh,0,none⟩)) (by go_simp) (hK _ _ (VF.mk rfl) hRW (Ext.rf _)))
  ·(have e3:uS 3=.pointer (some ⟨gh,0,none⟩):=(hD 3 (Zg (by kernel_rfl))).k rfl;exact Zm (op:=Op.nilCheck (Operand.tmp 15)) (t:=0) (d:=some 16) rfl (.pointer (some ⟨gh,0,none⟩)) (by simp only[Zc,Act.put,List.setIfInBounds_toArray,List.set_cons_zero,List.set_cons_succ];unfold Zb;(try go_simp);(try simp only[e3]);(try go_simp);(try rfl);(try (exact IntWalk.i64_in _ (by omega)))) (hK _ _ (VF.mk rfl) hRW (Ext.rf _)))
  ·(have e4:uS 4=.pointer (some ⟨gh,0,none⟩):=(hD 4 (Zg (by kernel_rfl))).k rfl;exact Zm (op:=Op.fieldAddr 69 (Operand.tmp 16) 0) (t:=0) (d:=some 17) rfl (.pointer (some ⟨gh,0,none⟩)) (by simp only[Zc,Act.put,List.setIfInBounds_toArray,List.set_cons_zero,List.set_cons_succ];unfold Zb;(try go_simp);(try simp only[e4]);(try go_simp);(try rfl);(try (exact IntWalk.i64_in _ (by omega)))) (hK _ _ (VF.mk rfl) hRW (Ext.rf _)))
  ·(have e5:uS 5=.pointer (some ⟨gh,0,none⟩):=(hD 5 (Zg (by kernel_rfl))).k rfl;have rX:=Zf hRW zh h0;exact Ze (T:=24) (x:=Operand.tmp 17) (t:=24) (d:=some 18) rfl (.pointer (some ⟨gh,0,none⟩)) (Eq.trans (b:=uS 5) (by kernel_rfl) e5) (.pointer (some ⟨gm,0,none⟩)) (by go_simp) (hK _ _ (VF.mk rfl) hRW (Ext.rf _)))
  ·( have rX:=Zf hRW za a0;exact Ze (T:=32) (x:=Operand.tmp 21) (t:=32) (d:=some 22) rfl (.pointer (some ⟨ga,0,none⟩)) (by kernel_rfl) (.pointer (some ⟨gh,0,none⟩)) (by go_simp) (hK _ _ (VF.mk rfl) hRW (Ext.rf _)))
  ·(have e10:uS 10=.pointer (some ⟨gh,0,none⟩):=(hD 10 (Zg (by kernel_rfl))).k rfl;exact Zh (f:=32) (xs:=#[Operand.tmp 22,Operand.tmp 23]) (ts:=#[32,3]) (t:=3) (d:=some 24) rfl #[.pointer (some ⟨gh,0,none⟩),.int .i64 (i:Int)] (by go_simp) (Eq.trans (b:=#[uS 10,.int .i64 (i:Int)]) (by kernel_rfl) (by rw[e10])) _ (HD.out _ hRW) (by rintro e w9 ⟨rfl,xx⟩;exact⟨_,rfl,hK _ _ (VF.mk rfl) (hRW.tr xx) xx⟩))
  ·( exact Zh (f:=72) (xs:=#[Operand.tmp 26,Operand.tmp 27]) (ts:=#[3,3]) (t:=3) (d:=some 28) rfl #[.int .i64 had,.int .i64 slot] (by go_simp) (by kernel_rfl) _ (UP.out _) (by rintro e w9 ⟨rfl,xx⟩;exact⟨_,rfl,hK _ _ (VF.mk rfl) (hRW.tr xx) xx⟩))
 intro u w3 hR3 hV;have h3:=(hV (3,some 15) (by simp)).k rfl;have h4:=(hV (4,some 16) (by simp)).k rfl;have h5:=(hV (5,some 17) (by simp)).k rfl;have h6:=(hV (6,some 18) (by simp)).k rfl;have h10:=(hV (10,some 22) (by simp)).k rfl;have h12:=(hV (12,some 24) (by simp)).k rfl;have h16:=(hV (16,some 28) (by simp)).k rfl;simp only[Zc,h3,h4,h5,h6,h10,h12,h16];clear hV h3 h4 h5 h6 h10 h12 h16
 try simp only[lay]
 refine Zd 17 (by decide +kernel) (Zh (f:=71) (xs:=#[Operand.tmp 18,Operand.tmp 24,Operand.tmp 25,Operand.tmp 28]) (ts:=#[24,3,3,3]) (t:=99) (d:=some 29) rfl #[.pointer (some ⟨gm,0,none⟩),.int .i64 (q:Int),.int .i64 had,.int .i64 up] (by go_simp) (by kernel_rfl) _ (CA.out _ (MM.out.ext hR3)) ?_);rintro e w4 ⟨rfl,m4,d4⟩;have M4:=Hd m4;have D4:=Hd ((Mod.of_ext hR3:Mod (CS gm gc) w w3).tr d4);clear m4 d4 hR3 CA HD UP;refine⟨_,rfl,?_⟩
 try simp only[lay]
 refine Za (i:=18) (op:=Op.move (Operand.tmp 29)) (t:=99) (d:=some 11) (v:=_) rfl (by decide +kernel) (fun _ _ _ h=>h) (by intro _;unfold Zb;go_simp;try with_reducible rfl) ?_
 try simp only[lay]
 refine Za (i:=19) (op:=Op.extract (Operand.tmp 11) 0) (t:=4) (d:=some 30) (v:=_) rfl (by decide +kernel) (fun _ _ _ h=>h) (by intro _;unfold Zb;go_simp;try with_reducible rfl) ?_
 try simp only[lay]
 refine Za (i:=20) (op:=Op.extract (Operand.tmp 11) 1) (t:=25) (d:=some 31) (v:=_) rfl (by decide +kernel) (fun _ _ _ h=>h) (by intro _;unfold Zb;go_simp;try with_reducible rfl) ?_
 try simp only[lay]
 refine Za (i:=21) (op:=Op.assign (Operand.tmp 30)) (t:=4) (d:=some 9) (v:=_) rfl (by decide +kernel) (fun _ _ _ h=>h) (by intro _;unfold Zb;go_simp;try with_reducible rfl) ?_
 try simp only[lay]
 refine Za (i:=22) (op:=Op.assign (Operand.tmp 31)) (t:=25) (d:=some 10) (v:=_) rfl (by decide +kernel) (fun _ _ _ h=>h) (by intro _;unfold Zb;go_simp;try with_reducible rfl) ?_
 try simp only[lay]
 refine wpAny_done (by kernel_rfl) ?_ _;go_simp;go_wp2_with (fail);go_ret;exact⟨rfl,M4.out,D4.out⟩
structure HAct where
 ph:Int
 slot:Int
 push:Bool
 owner:Bool
 fits:Bool
 draws:OwL
 probe:Int
 way:OwL
 heads:OwL
 low:Int
 high:Int
 pos:Int
 hd:Int
 nx:Int
 lh:Int
 rh:Int
 ch:Int
 chh:Int
 tidied:Bool
 held:Bool
 bare:Bool
def HAct.cells (a:HAct)(gh:Nat) : Array Value:=#[.pointer (some ⟨gh,0,none⟩),.int .i64 a.ph,.int .i64 a.slot,.bool a.push,.bool a.owner,.bool a.fits,a.draws.v,.int .i64 a.probe,a.way.v,a.heads.v,.int .i64 a.low,.int .i64 a.high,.int .i64 a.pos,.int .i64 a.hd,.int .i64 a.nx,.int .i64 a.lh,.int .i64 a.rh,.int .i64 a.ch,.int .i64 a.chh,.bool a.tidied,.bool a.held,.bool a.bare]
def Zk (w:World)(ga gh:Nat)(a:HAct) : Prop:=Blk w ga 85 (a.cells gh)
theorem YM (bs gm gc gp gn go gh b lv ga:Nat)(P:PoolS)(bd:Nat->Int)(w:World)(HH:ZK w gh gm gp b lv)(HP:PoolR w bs gm gc gp gn go P)(hbd:PB P bd)(hn:P.n<=100000)(a:HAct)(A:Zk w ga gh a)(s:Nat)(hs:a.slot=(s:Int))(hsn:s<P.n) :
  Calls Try.prog 75 #[.pointer (some ⟨ga,0,none⟩)] w fun e w'=>e=.returned (.int .i64 (bd s))/\Ext w w':=by
 have BO:=Hd (fun(W:World) (X:Ext w W)=>Z0 bs gm gc gp gn go P W (HP.ext X) s hsn hn (bd s) (hbd s hsn));have a0:w.cell? ⟨ga,0,none⟩=some (.pointer (some ⟨gh,0,none⟩)):=Blk.cell A 0;have a2:w.cell? ⟨ga,2,none⟩=some (.int .i64 (s:Int)):=(Blk.cell A 2).trans (by simp[HAct.cells,hs]);have h3:w.cell? ⟨gh,3,none⟩=some (.pointer (some ⟨gp,0,none⟩)):=Blk.cell HH 3;have za:=Blk.lt A;have zh:=Blk.lt HH;clear HH HP hbd A hs hsn;generalize bd s=k at *;go_enter Try.func75,Try.ntmps75;go_upto_region 1 with(fail);refine wp_region_any (by kernel_rfl) ?_
 change wpAny _ _ _ _ _ _ _ (World.drew _)
 refine Za (i:=0) (op:=Op.move (Operand.tmp 0)) (t:=46) (d:=some 3) (v:=_) rfl (by decide +kernel) (fun _ _ _ h=>h) (by intro _;unfold Zb;go_simp;try with_reducible rfl) ?_
 try simp only[lay]
 refine Za (i:=1) (op:=Op.nilCheck (Operand.tmp 3)) (t:=0) (d:=some 4) (v:=_) rfl (by decide +kernel) (fun _ _ _ h=>h) (by intro _;unfold Zb;go_simp;try with_reducible rfl) ?_
 try simp only[lay]
 refine Za (i:=2) (op:=Op.fieldAddr 85 (Operand.tmp 4) 0) (t:=0) (d:=some 5) (v:=_) rfl (by decide +kernel) (fun _ _ _ h=>h) (by intro _;unfold Zb;go_simp;try with_reducible rfl) ?_
 try simp only[lay]
 refine Za (i:=7) (op:=Op.move (Operand.tmp 0)) (t:=46) (d:=some 10) (v:=_) rfl (by decide +kernel) (fun _ _ _ h=>h) (by intro _;unfold Zb;go_simp;try with_reducible rfl) ?_
 try simp only[lay]
 refine Za (i:=8) (op:=Op.nilCheck (Operand.tmp 10)) (t:=0) (d:=some 11) (v:=_) rfl (by decide +kernel) (fun _ _ _ h=>h) (by intro _;unfold Zb;go_simp;try with_reducible rfl) ?_
 try simp only[lay]
 refine Za (i:=9) (op:=Op.fieldAddr 85 (Operand.tmp 11) 2) (t:=0) (d:=some 12) (v:=_) rfl (by decide +kernel) (fun _ _ _ h=>h) (by intro _;unfold Zb;go_simp;try with_reducible rfl) ?_
 try simp only[lay]
 refine Zi (n:=1) [(3,some 6),(4,some 7),(5,some 8),(6,some 9),(10,some 13),(11,some 14)] (Ext w) (VF (fun | 3=>some (.pointer (some ⟨gh,0,none⟩)) | 4=>some (.pointer (some ⟨gh,0,none⟩)) | 5=>some (.pointer (some ⟨gh,3,none⟩)) | 6=>some (.pointer (some ⟨gp,0,none⟩)) | 10=>some (.int .i64 (s:Int)) | 11=>some (.int .i64 k) | _=>none) (fun i v W=>True)) Ext #[true,true,true,true,true,true,true,true,true,true,true,true,false] (by decide +kernel) (VF.stab ?_) ?_ ?_ (by first | exact(Ext.rf _).drew | exact Ext.rf _)
 ·intro j v W W' _ _ _;trivial
 ·intro pS hpm uS wS hRW hD K hK
  simp only[List.mem_cons,List.not_mem_nil,or_false] at hpm;rcases hpm with rfl | rfl | rfl | rfl | rfl | rfl
  ·( have rX:=Zf hRW za a0;exact Ze (T:=32) (x:=Operand.tmp 5) (t:=32) (d:=some 6) rfl (.pointer (some ⟨ga,0,none⟩)) (by kernel_rfl) (.pointer (some ⟨gh,0,none⟩)) (by go_simp) (hK _ _ (VF.mk rfl) hRW (Ext.rf _)))
  ·(have e3:uS 3=.pointer (some ⟨gh,0,none⟩):=(hD 3 (Zg (by kernel_rfl))).k rfl;exact Zm (op:=Op.nilCheck (Operand.tmp 6)) (t:=0) (d:=some 7) rfl (.pointer (some ⟨gh,0,none⟩)) (by simp only[Zc,Act.put,List.setIfInBounds_toArray,List.set_cons_zero,List.set_cons_succ];unfold Zb;(try go_simp);(try simp only[e3]);(try go_simp);(try rfl);(try (exact IntWalk.i64_in _ (by omega)))) (hK _ _ (VF.mk rfl) hRW (Ext.rf _)))
  ·(have e4:uS 4=.pointer (some ⟨gh,0,none⟩):=(hD 4 (Zg (by kernel_rfl))).k rfl;exact Zm (op:=Op.fieldAddr 69 (Operand.tmp 7) 3) (t:=0) (d:=some 8) rfl (.pointer (some ⟨gh,3,none⟩)) (by simp only[Zc,Act.put,List.setIfInBounds_toArray,List.set_cons_zero,List.set_cons_succ];unfold Zb;(try go_simp);(try simp only[e4]);(try go_simp);(try rfl);(try (exact IntWalk.i64_in _ (by omega)))) (hK _ _ (VF.mk rfl) hRW (Ext.rf _)))
  ·(have e5:uS 5=.pointer (some ⟨gh,3,none⟩):=(hD 5 (Zg (by kernel_rfl))).k rfl;have rX:=Zf hRW zh h3;exact Ze (T:=29) (x:=Operand.tmp 8) (t:=29) (d:=some 9) rfl (.pointer (some ⟨gh,3,none⟩)) (Eq.trans (b:=uS 5) (by kernel_rfl) e5) (.pointer (some ⟨gp,0,none⟩)) (by go_simp) (hK _ _ (VF.mk rfl) hRW (Ext.rf _)))
  ·( have rX:=Zf hRW za a2;exact Ze (T:=3) (x:=Operand.tmp 12) (t:=3) (d:=some 13) rfl (.pointer (some ⟨ga,2,none⟩)) (by kernel_rfl) (.int .i64 (s:Int)) (by go_simp) (hK _ _ (VF.mk rfl) hRW (Ext.rf _)))
  ·(have e6:uS 6=.pointer (some ⟨gp,0,none⟩):=(hD 6 (Zg (by kernel_rfl))).k rfl;have e10:uS 10=.int .i64 (s:Int):=(hD 10 (Zg (by kernel_rfl))).k rfl;exact Zh (f:=23) (xs:=#[Operand.tmp 9,Operand.tmp 13]) (ts:=#[29,3]) (t:=3) (d:=some 14) rfl #[.pointer (some ⟨gp,0,none⟩),.int .i64 (s:Int)] (by go_simp) (Eq.trans (b:=#[uS 6,uS 10]) (by kernel_rfl) (by rw[e6,e10])) _ (BO.out _ hRW) (by rintro e w9 ⟨rfl,xx⟩;exact⟨_,rfl,hK _ _ (VF.mk rfl) (hRW.tr xx) xx⟩))
 intro u w3 hR3 hV;have h3:=(hV (3,some 6) (by simp)).k rfl;have h4:=(hV (4,some 7) (by simp)).k rfl;have h5:=(hV (5,some 8) (by simp)).k rfl;have h6:=(hV (6,some 9) (by simp)).k rfl;have h10:=(hV (10,some 13) (by simp)).k rfl;have h11:=(hV (11,some 14) (by simp)).k rfl;simp only[Zc,h3,h4,h5,h6,h10,h11];clear hV h3 h4 h5 h6 h10 h11
 try simp only[lay]
 refine Za (i:=12) (op:=Op.assign (Operand.tmp 14)) (t:=3) (d:=some 2) (v:=_) rfl (by decide +kernel) (fun _ _ _ h=>h) (by intro _;unfold Zb;go_simp;try with_reducible rfl) ?_
 try simp only[lay]
 refine wpAny_done (by kernel_rfl) ?_ _;go_simp;go_wp2_with (fail);go_ret;exact⟨rfl,hR3⟩
structure HW (w:World)(bs gm gc gp gn go gh b lv ga:Nat)(M:List Int)(P:PoolS)(a:HAct) : Prop where
 m:MemB w gm gc M
 p:PoolR w bs gm gc gp gn go P
 h:ZK w gh gm gp b lv
 a:Zk w ga gh a
section
variable {w w':World} {bs gm gc gp gn go gh b lv ga:Nat} {M:List Int} {P:PoolS} {a:HAct}
theorem HW.ext (h:HW w bs gm gc gp gn go gh b lv ga M P a)(x:Ext w w') : HW w' bs gm gc gp gn go gh b lv ga M P a:=⟨h.m.ext x,h.p.ext x,Blk.ext h.h x,Blk.ext h.a x⟩
theorem HW.cell (h:HW w bs gm gc gp gn go gh b lv ga M P a){M':List Int}(hm:MemB w' gm gc M')(hd:Mod (CS gm gc) w w') : HW w' bs gm gc gp gn go gh b lv ga M' P a:=by
 obtain⟨⟨st,k,c,o,n,d,m1⟩,m2⟩:=h.m;have q:∀ {b:Nat} {t:TypeId} {cs:Array Value},Blk w b t cs->t≠62->t≠3->¬CS gm gc b:=fun hb h1 h2 h=>by
  rcases h with rfl | rfl
  ·exact hb.ne m1 h1 rfl
  ·exact hb.ne m2 h2 rfl
 refine⟨hm,h.p.mod hd (q h.p.p (by decide) (by decide)) (q h.p.nd (by decide) (by decide)) (q h.p.ow (by decide) (by decide)) (fun k o ho b hb hS=>?_),Blk.mod h.h hd (q h.h (by decide) (by decide)),Blk.mod h.a hd (q h.a (by decide) (by decide))⟩;rcases hS with rfl | rfl
 ·exact(h.p.oi k o ho).1.ne m1 (by decide) b hb rfl
 ·exact(h.p.oi k o ho).2 hb
theorem HW.field (h:HW w bs gm gc gp gn go gh b lv ga M P a)(i:Nat)(v:Value){a':HAct}(ha:(a.cells gh).setIfInBounds i v=a'.cells gh) : HW (w.setCell ⟨ga,i,none⟩ v) bs gm gc gp gn go gh b lv ga M P a'/\Mod (fun b=>b=ga) w (w.setCell ⟨ga,i,none⟩ v):=by
 have M1:Mod (fun b=>b=ga) w (w.setCell ⟨ga,i,none⟩ v):=Mod.set (S:=fun b=>b=ga) (p:=⟨ga,i,none⟩) (Mod.rf w) (.inl rfl) _;obtain⟨⟨st,k,c,o,n,d,m1⟩,m2⟩:=h.m;refine⟨⟨h.m.mod M1 (m1.ne h.a (by decide)) (m2.ne h.a (by decide)),h.p.mod M1 (h.p.p.ne h.a (by decide)) (h.p.nd.ne h.a (by decide)) (h.p.ow.ne h.a (by decide)) (fun k q hq b hb e=>(h.p.oi k q hq).1.ne h.a (by decide) b hb e),Blk.mod h.h M1 (Blk.ne h.h h.a (by decide)),?_⟩,M1⟩;have:=Blk.set h.a i v;rw[ha] at this;exact this
end
end
section
theorem WJ (bs gm gc gp gn go gh b lv ga:Nat)(M:List Int)(P:PoolS)(a:HAct)(w:World)(H:HW w bs gm gc gp gn go gh b lv ga M P a)(hb:b<=1048576)(i:Nat)(hi:a.pos=(i:Int))(h1:1<=i)(h2:i<=2097152)(x:Int)(hx:M[b+(i-1)]?=some x)(ht:Zl x)(hp:0<=pla x) :
  Calls Try.prog 55 #[.pointer (some ⟨ga,0,none⟩)] w fun e w'=>e=.returned (.tuple #[])/\HW w' bs gm gc gp gn go gh b lv ga M P { a with hd:=x,ph:=5 }/\Mod (PT ga gm gc) w w':=by
 have RE:=Hd (fun(W:World) (X:Ext w W)=>ZA gm gc gh b lv ga gp M W (H.ext X).h (H.ext X).m _ _ (H.ext X).a rfl hb i h1 h2 x hx);have UN:=Hd (fun(W:World)=>Zn x W ht);have HH:=Hd H;have a12:w.cell? ⟨ga,12,none⟩=some (.int .i64 (i:Int)):=(Blk.cell H.a 12).trans (by simp[HAct.cells,hi]);generalize hpl:pla x=px at *;replace hpl:=Hd hpl;clear H;go_enter Try.func55,Try.ntmps55;go_wp2_with (fail);refine(RE.out _ XI).mono ?_;rintro e w1 ⟨rfl,m1,d1⟩;have H1:=Hd (HH.out.cell m1 d1);replace d1:=Hd d1;clear m1 RE a12;have a13:w1.cell? ⟨ga,13,none⟩=some (.int .i64 a.hd):=Blk.cell H1.out.a 13;have fa13:w1.frozen? ⟨ga,13,none⟩=false:=Blk.free H1.out.a 13;obtain⟨q1,q2⟩:=H1.out.field 13 (.int .i64 x) (a':={ a with hd:=x }) rfl;have Q1:=Hd q1;have Q2:=Hd ((d1.out.mono fun b _ h=>(.inr h:PT ga gm gc b)).tr (q2.mono fun b _ h=>(.inl h:PT ga gm gc b)));clear q1 q2 d1;have b13:(w1.setCell ⟨ga,13,none⟩ (.int .i64 x)).cell? ⟨ga,13,none⟩=some (.int .i64 x):=Blk.cell Q1.out.a 13;go_wp2_with (fail);refine(UN.out _).mono ?_;rintro e w2 ⟨rfl,x2⟩;have R1:=Hd (Q1.out.ext x2);have R2:=Hd (Q2.out.ext x2);clear x2 Q1 Q2 UN a13 fa13 b13 H1;have a1:w2.cell? ⟨ga,1,none⟩=some (.int .i64 a.ph):=Blk.cell R1.out.a 1;have fa1:w2.frozen? ⟨ga,1,none⟩=false:=Blk.free R1.out.a 1;have e1:px>=0:=hp;obtain⟨s1,s2⟩:=R1.out.field 1 (.int .i64 5) (a':={ a with hd:=x,ph:=5 }) rfl;have S1:=Hd s1;have S2:=Hd (R2.out.tr (s2.mono fun b _ h=>(.inl h:PT ga gm gc b)));clear s1 s2;go_wp2_with (go_quiet (fail));go_end0;exact⟨rfl,S1.out,S2.out⟩
theorem VH (bs gm gc gp gn go gh b lv ga:Nat)(M:List Int)(P:PoolS)(a:HAct)(w:World)(H:HW w bs gm gc gp gn go gh b lv ga M P a)(hb:b<=1048576)(i:Nat)(hi:a.pos=(i:Int))(h1:1<=i)(h2:i<=1048576)(x:Int)(hx:M[b+((2*i)-1)]?=some x) :
  Calls Try.prog 59 #[.pointer (some ⟨ga,0,none⟩)] w fun e w'=>e=.returned (.tuple #[])/\HW w' bs gm gc gp gn go gh b lv ga M P { a with lh:=x,ph:=9 }/\Mod (PT ga gm gc) w w':=by
 have RE:=fun(W:World) (X:Ext w W)=>ZA gm gc gh b lv ga gp M W (H.ext X).h (H.ext X).m _ _ (H.ext X).a rfl hb (2*i) (by omega) (by omega) x hx
 rw[show ((2*i:Nat):Int)=2*(i:Int) by omega] at RE;have w1:IntKind.i64.wrap (2*(i:Int))=2*(i:Int):=IntWalk.i64_in _ (by omega);replace RE:=Hd RE;have HH:=Hd H;have a12:w.cell? ⟨ga,12,none⟩=some (.int .i64 (i:Int)):=(Blk.cell H.a 12).trans (by simp[HAct.cells,hi]);clear H hx;go_enter Try.func59,Try.ntmps59;go_wp2_with (fail);refine(RE.out _ XI).mono ?_;rintro e w1 ⟨rfl,m1,d1⟩;have H1:=Hd (HH.out.cell m1 d1);replace d1:=Hd d1;clear m1 RE a12;have c0:w1.cell? ⟨ga,15,none⟩=some (.int .i64 a.lh):=Blk.cell H1.out.a 15;have f0:w1.frozen? ⟨ga,15,none⟩=false:=Blk.free H1.out.a 15;obtain⟨q1,q2⟩:=H1.out.field 15 (.int .i64 x) (a':={ a with lh:=x }) rfl;have c1:(w1.setCell ⟨ga,15,none⟩ (.int .i64 x)).cell? ⟨ga,1,none⟩=some (.int .i64 a.ph):=Blk.cell q1.a 1;have f1:(w1.setCell ⟨ga,15,none⟩ (.int .i64 x)).frozen? ⟨ga,1,none⟩=false:=Blk.free q1.a 1;obtain⟨s1,s2⟩:=q1.field 1 (.int .i64 9) (a':={ a with lh:=x,ph:=9 }) rfl;have S1:=Hd s1;have S2:=Hd (((d1.out.mono fun b _ h=>(.inr h:PT ga gm gc b)).tr (q2.mono fun b _ h=>(.inl h:PT ga gm gc b))).tr (s2.mono fun b _ h=>(.inl h:PT ga gm gc b)));clear q1 q2 d1 s1 s2;go_wp2_with (fail);go_end0;exact⟨rfl,S1.out,S2.out⟩
theorem YA (bs gm gc gp gn go gh b lv ga:Nat)(M:List Int)(P:PoolS)(a:HAct)(w:World)(H:HW w bs gm gc gp gn go gh b lv ga M P a)(hs:0<=a.slot) :
  Calls Try.prog 79 #[.pointer (some ⟨ga,0,none⟩)] w fun e w'=>e=.returned (.tuple #[])/\HW w' bs gm gc gp gn go gh b lv ga M P { a with pos:=1,ph:=15 }/\Mod (fun b=>b=ga) w w':=by
 have e1:a.slot>=0:=hs;have c0:w.cell? ⟨ga,12,none⟩=some (.int .i64 a.pos):=Blk.cell H.a 12;have f0:w.frozen? ⟨ga,12,none⟩=false:=Blk.free H.a 12;obtain⟨q1,q2⟩:=H.field 12 (.int .i64 1) (a':={ a with pos:=1 }) rfl;have c1:(w.setCell ⟨ga,12,none⟩ (.int .i64 1)).cell? ⟨ga,1,none⟩=some (.int .i64 a.ph):=Blk.cell q1.a 1;have f1:(w.setCell ⟨ga,12,none⟩ (.int .i64 1)).frozen? ⟨ga,1,none⟩=false:=Blk.free q1.a 1;obtain⟨r1,r2⟩:=q1.field 1 (.int .i64 4) (a':={ a with pos:=1,ph:=4 }) rfl;have c2:((w.setCell ⟨ga,12,none⟩ (.int .i64 1)).setCell ⟨ga,1,none⟩ (.int .i64 4)).cell? ⟨ga,2,none⟩=some (.int .i64 a.slot):=Blk.cell r1.a 2;have c3:((w.setCell ⟨ga,12,none⟩ (.int .i64 1)).setCell ⟨ga,1,none⟩ (.int .i64 4)).cell? ⟨ga,1,none⟩=some (.int .i64 4):=Blk.cell r1.a 1;have f3:((w.setCell ⟨ga,12,none⟩ (.int .i64 1)).setCell ⟨ga,1,none⟩ (.int .i64 4)).frozen? ⟨ga,1,none⟩=false:=Blk.free r1.a 1;obtain⟨s1,s2⟩:=r1.field 1 (.int .i64 15) (a':={ a with pos:=1,ph:=15 }) rfl;have R1:=Hd r1;have R2:=Hd (q2.tr r2);have S1:=Hd s1;have S2:=Hd ((q2.tr r2).tr s2);clear q1 q2 r1 r2 s1 s2 H;go_enter Try.func79,Try.ntmps79;go_wp2_with (go_quiet (fail));go_end0;exact⟨rfl,S1.out,S2.out⟩
theorem XZ (bs gm gc gp gn go gh b lv ga:Nat)(M:List Int)(P:PoolS)(a:HAct)(w:World)(H:HW w bs gm gc gp gn go gh b lv ga M P a)(hb:b<=1048576)(i:Nat)(hi:a.pos=(i:Int))(h1:1<=i)(h2:i<=1048576)(x:Int)(hx:M[b+(i-1)]?=some x)(ht:Zl a.hd)(ho:x=a.hd) :
  Calls Try.prog 63 #[.pointer (some ⟨ga,0,none⟩)] w fun e w'=>e=.returned (.tuple #[])/\HW w' bs gm gc gp gn go gh b lv ga (M.set (b+(i-1)) (upP a.hd (-1))) P { a with bare:=true,ph:=13 }/\Mod (PT ga gm gc) w w':=by
 have SW:=fun(W:World) (X:Ext w W)=>ZY gm gc gh b lv ga gp M W (H.ext X).h (H.ext X).m _ _ (H.ext X).a rfl hb i h1 (by omega) x hx a.hd (-1) ht
 simp only[if_pos ho,decide_eq_true ho,Zw] at SW;replace SW:=Hd SW;have HH:=Hd H;have a12:w.cell? ⟨ga,12,none⟩=some (.int .i64 (i:Int)):=(Blk.cell H.a 12).trans (by simp[HAct.cells,hi]);have a13:w.cell? ⟨ga,13,none⟩=some (.int .i64 a.hd):=Blk.cell H.a 13;have za:=Blk.lt H.a;clear H hx;go_enter Try.func63,Try.ntmps63;go_upto_region 0 with(fail);refine wp_region_any (by kernel_rfl) ?_
 change wpAny _ _ _ _ _ _ _ (World.drew _)
 refine Za (i:=0) (op:=Op.move (Operand.tmp 0)) (t:=46) (d:=some 2) (v:=_) rfl (by decide +kernel) (fun _ _ _ h=>h) (by intro _;unfold Zb;go_simp;try with_reducible rfl) ?_
 try simp only[lay]
 refine Za (i:=1) (op:=Op.move (Operand.tmp 0)) (t:=46) (d:=some 3) (v:=_) rfl (by decide +kernel) (fun _ _ _ h=>h) (by intro _;unfold Zb;go_simp;try with_reducible rfl) ?_
 try simp only[lay]
 refine Za (i:=2) (op:=Op.nilCheck (Operand.tmp 3)) (t:=0) (d:=some 4) (v:=_) rfl (by decide +kernel) (fun _ _ _ h=>h) (by intro _;unfold Zb;go_simp;try with_reducible rfl) ?_
 try simp only[lay]
 refine Za (i:=3) (op:=Op.fieldAddr 85 (Operand.tmp 4) 12) (t:=0) (d:=some 5) (v:=_) rfl (by decide +kernel) (fun _ _ _ h=>h) (by intro _;unfold Zb;go_simp;try with_reducible rfl) ?_
 try simp only[lay]
 refine Za (i:=5) (op:=Op.move (Operand.tmp 0)) (t:=46) (d:=some 7) (v:=_) rfl (by decide +kernel) (fun _ _ _ h=>h) (by intro _;unfold Zb;go_simp;try with_reducible rfl) ?_
 try simp only[lay]
 refine Za (i:=6) (op:=Op.nilCheck (Operand.tmp 7)) (t:=0) (d:=some 8) (v:=_) rfl (by decide +kernel) (fun _ _ _ h=>h) (by intro _;unfold Zb;go_simp;try with_reducible rfl) ?_
 try simp only[lay]
 refine Za (i:=7) (op:=Op.fieldAddr 85 (Operand.tmp 8) 13) (t:=0) (d:=some 9) (v:=_) rfl (by decide +kernel) (fun _ _ _ h=>h) (by intro _;unfold Zb;go_simp;try with_reducible rfl) ?_
 try simp only[lay]
 refine Zi (n:=2) [(4,some 6),(8,some 10)] (Ext w) (VF (fun | 4=>some (.int .i64 (i:Int)) | 8=>some (.int .i64 a.hd) | _=>none) (fun i v W=>True)) Ext #[true,true,true,true,true,true,true,true,true,false,false] (by decide +kernel) (VF.stab ?_) ?_ ?_ (by first | exact(Ext.rf _).drew | exact Ext.rf _)
 ·intro j v W W' _ _ _;trivial
 ·intro pS hpm uS wS hRW hD K hK
  simp only[List.mem_cons,List.not_mem_nil,or_false] at hpm;rcases hpm with rfl | rfl
  ·( have rX:=Zf hRW za a12;exact Ze (T:=3) (x:=Operand.tmp 5) (t:=3) (d:=some 6) rfl (.pointer (some ⟨ga,12,none⟩)) (by kernel_rfl) (.int .i64 (i:Int)) (by go_simp) (hK _ _ (VF.mk rfl) hRW (Ext.rf _)))
  ·( have rX:=Zf hRW za a13;exact Ze (T:=3) (x:=Operand.tmp 9) (t:=3) (d:=some 10) rfl (.pointer (some ⟨ga,13,none⟩)) (by kernel_rfl) (.int .i64 a.hd) (by go_simp) (hK _ _ (VF.mk rfl) hRW (Ext.rf _)))
 intro u w3 hR3 hV;have h4:=(hV (4,some 6) (by simp)).k rfl;have h8:=(hV (8,some 10) (by simp)).k rfl;simp only[Zc,h4,h8];clear hV h4 h8
 try simp only[lay]
 refine Zd 9 (by decide +kernel) (Zh (f:=78) (xs:=#[Operand.tmp 2,Operand.tmp 6,Operand.tmp 10,Operand.const (Value.int IntKind.i64 (-1))]) (ts:=#[46,3,3,3]) (t:=4) (d:=some 11) rfl #[.pointer (some ⟨ga,0,none⟩),.int .i64 (i:Int),.int .i64 a.hd,.int .i64 (-1)] (by go_simp) (by kernel_rfl) _ (SW.out _ hR3) ?_);rintro e w4 ⟨rfl,m4,d4⟩;have H4:=Hd ((HH.out.ext hR3).cell m4 d4);have D4:=Hd (((Mod.of_ext hR3:Mod (CS gm gc) w w3).tr d4).mono fun b _ h=>(.inr h:PT ga gm gc b));clear m4 d4 hR3 SW a12 a13;refine⟨_,rfl,?_⟩
 try simp only[lay]
 refine Za (i:=10) (op:=Op.unOp UnOp.not 4 (Operand.tmp 11)) (t:=4) (d:=some 12) (v:=_) rfl (by decide +kernel) (fun _ _ _ h=>h) (by intro _;unfold Zb;go_simp;try with_reducible rfl) ?_
 try simp only[lay]
 refine wpAny_done (by kernel_rfl) ?_ _;go_simp;have c0:w4.cell? ⟨ga,21,none⟩=some (.bool a.bare):=Blk.cell H4.out.a 21;have f0:w4.frozen? ⟨ga,21,none⟩=false:=Blk.free H4.out.a 21;obtain⟨q1,q2⟩:=H4.out.field 21 (.bool true) (a':={ a with bare:=true }) rfl;have c1:(w4.setCell ⟨ga,21,none⟩ (.bool true)).cell? ⟨ga,1,none⟩=some (.int .i64 a.ph):=Blk.cell q1.a 1;have f1:(w4.setCell ⟨ga,21,none⟩ (.bool true)).frozen? ⟨ga,1,none⟩=false:=Blk.free q1.a 1;obtain⟨s1,s2⟩:=q1.field 1 (.int .i64 13) (a':={ a with bare:=true,ph:=13 }) rfl;have S1:=Hd s1;have S2:=Hd ((D4.out.tr (q2.mono fun b _ h=>(.inl h:PT ga gm gc b))).tr (s2.mono fun b _ h=>(.inl h:PT ga gm gc b)));clear q1 q2 s1 s2;go_wp2_with (fail);go_end0;exact⟨rfl,S1.out,S2.out⟩
theorem X9 (bs gm gc gp gn go gh b lv ga:Nat)(M:List Int)(P:PoolS)(a:HAct)(w:World)(H:HW w bs gm gc gp gn go gh b lv ga M P a)(hb:b<=1048576)(i:Nat)(hi:a.ch=(i:Int))(h1:1<=i)(h2:i<=1048576)(x:Int)(hx:M[b+(i-1)]?=some x)(ht:Zl a.chh)(ho:x=a.chh) :
  Calls Try.prog 61 #[.pointer (some ⟨ga,0,none⟩)] w fun e w'=>e=.returned (.tuple #[])/\HW w' bs gm gc gp gn go gh b lv ga (M.set (b+(i-1)) (upP a.chh (-1))) P { a with held:=true,ph:=12 }/\Mod (PT ga gm gc) w w':=by
 have SW:=fun(W:World) (X:Ext w W)=>ZY gm gc gh b lv ga gp M W (H.ext X).h (H.ext X).m _ _ (H.ext X).a rfl hb i h1 (by omega) x hx a.chh (-1) ht
 simp only[if_pos ho,decide_eq_true ho,Zw] at SW;replace SW:=Hd SW;have HH:=Hd H;have k17:w.cell? ⟨ga,17,none⟩=some (.int .i64 (i:Int)):=(Blk.cell H.a 17).trans (by simp[HAct.cells,hi]);have k18:w.cell? ⟨ga,18,none⟩=some (.int .i64 a.chh):=Blk.cell H.a 18;have za:=Blk.lt H.a;clear H hx;go_enter Try.func61,Try.ntmps61;go_upto_region 0 with(fail);refine wp_region_any (by kernel_rfl) ?_
 change wpAny _ _ _ _ _ _ _ (World.drew _)
 refine Za (i:=0) (op:=Op.move (Operand.tmp 0)) (t:=46) (d:=some 2) (v:=_) rfl (by decide +kernel) (fun _ _ _ h=>h) (by intro _;unfold Zb;go_simp;try with_reducible rfl) ?_
 try simp only[lay]
 refine Za (i:=1) (op:=Op.move (Operand.tmp 0)) (t:=46) (d:=some 3) (v:=_) rfl (by decide +kernel) (fun _ _ _ h=>h) (by intro _;unfold Zb;go_simp;try with_reducible rfl) ?_
 try simp only[lay]
 refine Za (i:=2) (op:=Op.nilCheck (Operand.tmp 3)) (t:=0) (d:=some 4) (v:=_) rfl (by decide +kernel) (fun _ _ _ h=>h) (by intro _;unfold Zb;go_simp;try with_reducible rfl) ?_
 try simp only[lay]
 refine Za (i:=3) (op:=Op.fieldAddr 85 (Operand.tmp 4) 15) (t:=0) (d:=some 5) (v:=_) rfl (by decide +kernel) (fun _ _ _ h=>h) (by intro _;unfold Zb;go_simp;try with_reducible rfl) ?_
 try simp only[lay]
 refine Za (i:=4) (op:=Op.fieldAddr 83 (Operand.tmp 5) 2) (t:=0) (d:=some 6) (v:=_) rfl (by decide +kernel) (fun _ _ _ h=>h) (by intro _;unfold Zb;go_simp;try with_reducible rfl) ?_
 try simp only[lay]
 refine Za (i:=6) (op:=Op.move (Operand.tmp 0)) (t:=46) (d:=some 8) (v:=_) rfl (by decide +kernel) (fun _ _ _ h=>h) (by intro _;unfold Zb;go_simp;try with_reducible rfl) ?_
 try simp only[lay]
 refine Za (i:=7) (op:=Op.nilCheck (Operand.tmp 8)) (t:=0) (d:=some 9) (v:=_) rfl (by decide +kernel) (fun _ _ _ h=>h) (by intro _;unfold Zb;go_simp;try with_reducible rfl) ?_
 try simp only[lay]
 refine Za (i:=8) (op:=Op.fieldAddr 85 (Operand.tmp 9) 15) (t:=0) (d:=some 10) (v:=_) rfl (by decide +kernel) (fun _ _ _ h=>h) (by intro _;unfold Zb;go_simp;try with_reducible rfl) ?_
 try simp only[lay]
 refine Za (i:=9) (op:=Op.fieldAddr 83 (Operand.tmp 10) 3) (t:=0) (d:=some 11) (v:=_) rfl (by decide +kernel) (fun _ _ _ h=>h) (by intro _;unfold Zb;go_simp;try with_reducible rfl) ?_
 try simp only[lay]
 refine Zi (n:=2) [(5,some 7),(10,some 12)] (Ext w) (VF (fun | 5=>some (.int .i64 (i:Int)) | 10=>some (.int .i64 a.chh) | _=>none) (fun i v W=>True)) Ext #[true,true,true,true,true,true,true,true,true,true,true,false,false] (by decide +kernel) (VF.stab ?_) ?_ ?_ (by first | exact(Ext.rf _).drew | exact Ext.rf _)
 ·intro j v W W' _ _ _;trivial
 ·intro pS hpm uS wS hRW hD K hK
  simp only[List.mem_cons,List.not_mem_nil,or_false] at hpm;rcases hpm with rfl | rfl
  ·( have rX:=Zf hRW za k17;exact Ze (T:=3) (x:=Operand.tmp 6) (t:=3) (d:=some 7) rfl (.pointer (some ⟨ga,17,none⟩)) (by kernel_rfl) (.int .i64 (i:Int)) (by go_simp) (hK _ _ (VF.mk rfl) hRW (Ext.rf _)))
  ·( have rX:=Zf hRW za k18;exact Ze (T:=3) (x:=Operand.tmp 11) (t:=3) (d:=some 12) rfl (.pointer (some ⟨ga,18,none⟩)) (by kernel_rfl) (.int .i64 a.chh) (by go_simp) (hK _ _ (VF.mk rfl) hRW (Ext.rf _)))
 intro u w3 hR3 hV;have h5:=(hV (5,some 7) (by simp)).k rfl;have h10:=(hV (10,some 12) (by simp)).k rfl;simp only[Zc,h5,h10];clear hV h5 h10
 try simp only[lay]
 refine Zd 11 (by decide +kernel) (Zh (f:=78) (xs:=#[Operand.tmp 2,Operand.tmp 7,Operand.tmp 12,Operand.const (Value.int IntKind.i64 (-1))]) (ts:=#[46,3,3,3]) (t:=4) (d:=some 13) rfl #[.pointer (some ⟨ga,0,none⟩),.int .i64 (i:Int),.int .i64 a.chh,.int .i64 (-1)] (by go_simp) (by kernel_rfl) _ (SW.out _ hR3) ?_);rintro e w4 ⟨rfl,m4,d4⟩;have H4:=Hd ((HH.out.ext hR3).cell m4 d4);have D4:=Hd (((Mod.of_ext hR3:Mod (CS gm gc) w w3).tr d4).mono fun b _ h=>(.inr h:PT ga gm gc b));clear m4 d4 hR3 SW k17 k18;refine⟨_,rfl,?_⟩
 try simp only[lay]
 refine Za (i:=12) (op:=Op.unOp UnOp.not 4 (Operand.tmp 13)) (t:=4) (d:=some 14) (v:=_) rfl (by decide +kernel) (fun _ _ _ h=>h) (by intro _;unfold Zb;go_simp;try with_reducible rfl) ?_
 try simp only[lay]
 refine wpAny_done (by kernel_rfl) ?_ _;go_simp;have c0:w4.cell? ⟨ga,20,none⟩=some (.bool a.held):=Blk.cell H4.out.a 20;have f0:w4.frozen? ⟨ga,20,none⟩=false:=Blk.free H4.out.a 20;obtain⟨q1,q2⟩:=H4.out.field 20 (.bool true) (a':={ a with held:=true }) rfl;have c1:(w4.setCell ⟨ga,20,none⟩ (.bool true)).cell? ⟨ga,1,none⟩=some (.int .i64 a.ph):=Blk.cell q1.a 1;have f1:(w4.setCell ⟨ga,20,none⟩ (.bool true)).frozen? ⟨ga,1,none⟩=false:=Blk.free q1.a 1;obtain⟨s1,s2⟩:=q1.field 1 (.int .i64 12) (a':={ a with held:=true,ph:=12 }) rfl;have S1:=Hd s1;have S2:=Hd ((D4.out.tr (q2.mono fun b _ h=>(.inl h:PT ga gm gc b))).tr (s2.mono fun b _ h=>(.inl h:PT ga gm gc b)));clear q1 q2 s1 s2;go_wp2_with (fail);go_end0;exact⟨rfl,S1.out,S2.out⟩
end
end Go.Proofs.Ytgimmiaenkeohaa
