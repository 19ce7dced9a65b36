/- parts, packed by a program -/
import Derived.Test.YtocfmioihaefoaaGreatDoorShellWritesP4
import Derived.Laws.Bits64b
import Derived.Lib.TrailingZeros
import Derived.Shelf.Spec.TrailingZeros
import Derived.RangeFuncNested
import Derived.RangeFuncBound
import Derived.RangeFuncCalls
import Derived.RangeFuncLeaves
import Derived.RangeFuncBox
import Derived.Shelf.RegionOpen
import Derived.OwnWalkIn
import Derived.TacticsInMore
import Derived.LoopNIn
import Derived.LoopIn
set_option maxRecDepth 100000
set_option maxHeartbeats 16000000
set_option linter.all false
namespace Go.Proofs.YtocfmioihaefoaaGreatDoor
open Go.ChangeAt Go.ChangeShapes Go.RowKit Go.WideShapes
section
open Go.Deep
def Ji (s:ScrP) : ScrP:=⟨s.wk,s.sl,s.lv,s.draws.take 110,s.parts.take 60⟩
theorem Zel (vs:List Value)(s:ScrP)(w:World)(H:RScr w vs s) :
  Calls Tryz.prog 4 #[.agg (List.toArray vs)] w fun e w'=>∃ v,e=.returned v/\RScrO w.heap.size (Ji s) v w'/\Ext w w':=by
 obtain⟨A,a,B,b,rfl,⟨rA,-,lA,mA⟩,⟨rB,lB,mB⟩⟩:=H;obtain⟨wk,sl,lv,dr,pa⟩:=s;unfold Ji RScrO ZV;simp only at rA lA mA rB lB mB ⊢;obtain⟨ds,hds⟩:∃ ds,dr.take 110=ds:=⟨_,rfl⟩;obtain⟨ps,hps⟩:∃ ps,pa.take 60=ps:=⟨_,rfl⟩;have RD:=Hd (show RdI w A ds by rw[<-hds];exact rA.take 110);have RP:=Hd (show RdC w B (ZG ps) by rw[<-hps];exact rB.prts 60);have ld:ds.length=min 110 dr.length:=by rw[<-hds,List.length_take]
 have lp:ps.length=min 60 pa.length:=by rw[<-hps,List.length_take]
 rw[hds,hps];have ed:(if (110:Int)<(dr.length:Int) then(110:Int) else(dr.length:Int))=(ds.length:Int):=by split<;>omega
 have ep:(if (60:Int)<(pa.length:Int) then(60:Int) else(pa.length:Int))=(ps.length:Int):=by split<;>omega
 have ed2:min (dr.length:Int) 110=(ds.length:Int):=by omega
 have ep2:min (pa.length:Int) 60=(ps.length:Int):=by omega
 have ldx:ds.length<=dr.length:=by omega
 have lpx:ps.length<=pa.length:=by omega
 have ld1:ds.length<=110:=by omega
 have lp1:ps.length<=60:=by omega
 clear rA rB hds hps ld lp;generalize dr.length=ldr at *;generalize pa.length=lpa at *;obtain⟨i0,hi,hz0,hz1,hz2⟩:=info_parts Vn;replace hi:=Hd hi;replace hz0:=Hd hz0;replace hz1:=Hd hz1;replace hz2:=Hd hz2;unfold maxLen at mA mB;have XB:Hid (Ext w ((w.alloc (.cells #[.int .i64 wk,.int .i64 sl,.int .i64 lv,.slice A ldr a,.slice B lpa b] 25)).alloc (.cells #[.int .i64 0,.int .i64 0,.int .i64 0,.slice none 0 0,.slice none 0 0] 25))):=Hd (((Ext.rf w).alloc _).alloc _);have B1:Hid (Blk ((w.alloc (.cells #[.int .i64 wk,.int .i64 sl,.int .i64 lv,.slice A ldr a,.slice B lpa b] 25)).alloc (.cells #[.int .i64 0,.int .i64 0,.int .i64 0,.slice none 0 0,.slice none 0 0] 25)) w.heap.size 25 #[.int .i64 wk,.int .i64 sl,.int .i64 lv,.slice A ldr a,.slice B lpa b]):=Hd (.alloc (.new rfl) _);have B2:Hid (Blk ((w.alloc (.cells #[.int .i64 wk,.int .i64 sl,.int .i64 lv,.slice A ldr a,.slice B lpa b] 25)).alloc (.cells #[.int .i64 0,.int .i64 0,.int .i64 0,.slice none 0 0,.slice none 0 0] 25)) (w.heap.size+1) 25 #[.int .i64 0,.int .i64 0,.int .i64 0,.slice none 0 0,.slice none 0 0]):=Hd (.new (by simp));go_enter Tryz.func4,Tryz.ntmps4;go_upto_region 1 with(fail);generalize (w.alloc (.cells #[.int .i64 wk,.int .i64 sl,.int .i64 lv,.slice A ldr a,.slice B lpa b] 25)).alloc (.cells #[.int .i64 0,.int .i64 0,.int .i64 0,.slice none 0 0,.slice none 0 0] 25)=w1 at *;obtain⟨g1,hg1⟩:∃ g,Hid (g=w.heap.size):=⟨_,Hd rfl⟩;rw[<-hg1.out] at B1 B2 ⊢;have b3:=(B1.out.cell 3);simp only[List.getElem?_toArray,List.getElem?_cons_zero,List.getElem?_cons_succ] at b3;have f3:=B1.out.free 3;have z1:=B1.out.lt;have z2:=B2.out.lt;go_upto_region 2 with(at_builtin;refine Zba _ rfl _ _ rfl g1 _ ds A a rfl rfl ?_ ?_ ?_ ?_ ?_;(first | exact .new (by simp) | exact .drew (.new (by simp)) | exact .alloc (.new (by simp)) _ | exact .drew (.alloc (.new (by simp)) _) | exact .alloc (.alloc (.new (by simp)) _) _ | exact .drew (.alloc (.alloc (.new (by simp)) _) _) | (repeat (first | assumption | (refine Blk.new ?_;(focus (simp;done))) | apply Blk.drew | apply Blk.drewN | apply Blk.alloc)));(first | exact Nat.le_refl _ | omega | (focus (simp;try omega)));(refine RD.out.ext ?_;exact XB.out.tr XI);omega;rintro A7 c7 w7 o7 x7;have y7:=Ext.tr (a:=w1) XI x7;have k3:w7.cell? ⟨g1,3,none⟩=some (.slice A ldr a):=(B1.out.ext y7).cell 3;have q3:=(B1.out.ext y7).free 3);have Y7:=Hd y7;have BA:=Hd ((B1.out.ext y7).set 3 (.slice A7 ds.length c7));have MA:Hid (ModT g1 [25] w7 (w7.setCell ⟨g1,3,none⟩ (.slice A7 ds.length c7))):=Hd (ModT.set w7 (B1.out.ext y7) (by simp) (Nat.le_refl _) 3 _);have XA:=Hd ((XB.out.tr y7).setNew (p:=⟨g1,3,none⟩) (by rw[hg1.out];exact Nat.le_refl _) (.slice A7 ds.length c7));have ZA:=Hd ((B2.out.ext y7).far (p:=⟨g1,3,none⟩) (by simp) (.slice A7 ds.length c7));have OA:=Hd (o7.modT MA.out (by decide));have PA:=Hd (RP.out.ext XA.out);clear o7 x7 y7 k3 q3 b3 f3 B1 B2 MA RD RP Y7;generalize w7.setCell ⟨g1,3,none⟩ (.slice A7 ds.length c7)=w2 at *;have b4:=(BA.out.cell 4);simp only[List.setIfInBounds_toArray,List.set_cons_zero,List.set_cons_succ,List.getElem?_toArray,List.getElem?_cons_zero,List.getElem?_cons_succ] at b4;have f4:=BA.out.free 4;have z1:=BA.out.lt;have z2:=ZA.out.lt;have zw:g1<=w2.heap.size:=by omega
 skip
 go_upto_region 3 with(at_builtin;refine J0 _ (e:=50) Tryz.underlying23 hi.out hz0.out hz1.out hz2.out (by simp[Value.cells]) (by omega) rfl _ _ rfl g1 w2.heap.size 0 #[] B ps.length b (ZG ps) rfl rfl (by(first | exact .new (by simp) | exact .drew (.new (by simp)) | exact .alloc (.new (by simp)) _ | exact .drew (.alloc (.new (by simp)) _) | exact .alloc (.alloc (.new (by simp)) _) _ | exact .drew (.alloc (.alloc (.new (by simp)) _) _) | (repeat (first | assumption | (refine Blk.new ?_;(focus (simp;done))) | apply Blk.drew | apply Blk.drewN | apply Blk.alloc)))) zw rfl (PA.out.ext XI) (XT ps) (QW ps) (by simp only[maxLen];omega) (by omega) ?_;rintro A8 c8 w8 o8 x8;have y8:=Ext.tr (a:=w2) XI x8;have k4:w8.cell? ⟨g1,4,none⟩=some (.slice B lpa b):=(BA.out.ext y8).cell 4;have q4:=(BA.out.ext y8).free 4);have BC:=Hd ((BA.out.ext y8).set 4 (.slice A8 ps.length c8));have MC:Hid (ModT g1 [25] w8 (w8.setCell ⟨g1,4,none⟩ (.slice A8 ps.length c8))):=Hd (ModT.set w8 (BA.out.ext y8) (by simp) (Nat.le_refl _) 4 _);have XC:=Hd ((XA.out.tr y8).setNew (p:=⟨g1,4,none⟩) (by rw[hg1.out];exact Nat.le_refl _) (.slice A8 ps.length c8));have ZC:=Hd ((ZA.out.ext y8).far (p:=⟨g1,4,none⟩) (by simp) (.slice A8 ps.length c8));have OC:=Hd ((OA.out.ext y8).modT MC.out (by decide));have QC:=Hd (o8.modT MC.out (by decide));clear o8 x8 y8 k4 q4 b4 f4 BA MC OA PA XA ZA XB;generalize w8.setCell ⟨g1,4,none⟩ (.slice A8 ps.length c8)=w3 at *;have BD:=Hd (show Blk w3 g1 25 #[.int .i64 wk,.int .i64 sl,.int .i64 lv,.slice A7 ds.length c7,.slice A8 ps.length c8] from BC.out);obtain⟨d0,d1,d2,d3,d4,-⟩:=Zk BD.out;obtain⟨b0,b1,b2,b3,b4,f0,f1,f2,f3,f4⟩:=Zk ZC.out;have hgw:Hid (w.heap.size<=g1+1):=Hd (by rw[hg1.out];omega);obtain⟨w9,hWF,BF,YF⟩:=Zo ZC.out XC.out hgw.out (.int .i64 wk) (.int .i64 sl) (.int .i64 lv) (.slice A7 ds.length c7) (.slice A8 ps.length c8);have MF:Hid (ModT g1 [25] w3 w9):=Hd (by
  rw[<-hWF.out];exact((((ModT.set w3 ZC.out (by simp) (by omega) 0 _).tr (ModT.set _ (ZC.out.set 0 _) (by simp) (by omega) 1 _)).tr (ModT.set _ ((ZC.out.set 0 _).set 1 _) (by simp) (by omega) 2 _)).tr (ModT.set _ (((ZC.out.set 0 _).set 1 _).set 2 _) (by simp) (by omega) 3 _)).tr (ModT.set _ ((((ZC.out.set 0 _).set 1 _).set 2 _).set 3 _) (by simp) (by omega) 4 _))
 go_wp2_with (fail);rw[hWF.out];clear hWF b0 b1 b2 b3 b4 f0 f1 f2 f3 f4 d0 d1 d2 d3 d4;obtain⟨r0,r1,r2,r3,r4,-⟩:=Zk BF.out;refine bodyPost_ret (v:=.agg #[.int .i64 wk,.int .i64 sl,.int .i64 lv,.slice A7 ds.length c7,.slice A8 ps.length c8]) (by simp[results,Tryz.results4,go_sem, *]) rfl ?_;rw[hg1.out] at OC QC MF;exact⟨_,rfl,⟨A7,c7,A8,c8,rfl,OC.out.modT MF.out (by decide),by have h:=QC.out;simp only[Nat.zero_add] at h;exact h.modT MF.out (by decide)⟩,YF.out⟩
def CpW (base:Nat)(ys:List Int)(v:Value)(W:World) : Prop:=∃ A c,v=.slice A ys.length c/\OwI W base A c ys
theorem CpW.ext {base:Nat}{ys:List Int}(v:Value)(W W':World)(h:CpW base ys v W)(x:Ext W W') : CpW base ys v W':=by
 obtain⟨A,c,h1,h2⟩:=h;exact⟨A,c,h1,h2.ext x⟩
def CqW (wk sl lv:Int)(base:Nat)(ys:List Int)(v:Value)(W:World) : Prop:=∃ A c,v=.agg #[.int .i64 wk,.int .i64 sl,.int .i64 lv,.slice A ys.length c,.slice none 0 0]/\OwI W base A c ys
theorem CqW.ext {wk sl lv:Int}{base:Nat}{ys:List Int}(v:Value)(W W':World)(h:CqW wk sl lv base ys v W)(x:Ext W W') : CqW wk sl lv base ys v W':=by
 obtain⟨A,c,h1,h2⟩:=h;exact⟨A,c,h1,h2.ext x⟩
def Zem (s:ScrP)(w:World)(e:Ending)(w':World) : Prop:=∃ A a B b,e=.returned (.agg (ZV s A a B b))/\ScrRd s A B w'/\Ext w w'
theorem Zgp (s:ScrP)(A:Option Addr)(a:Nat)(B:Option Addr)(b:Nat)(w:World)(H:RScrRd s A B w)(ld:s.draws.length<=110)(lp:s.parts.length<=60)(la:s.draws.length<=a/\a<=maxLen)(lb:s.parts.length<=b/\b<=maxLen) :
  Calls Tryz.prog 6 #[.agg (ZV s A a B b)] w (Zem s w):=by
 obtain⟨RD,RP⟩:=H;obtain⟨wk,sl,lv,dr,pa⟩:=s;unfold Zem ScrRd ZV;simp only at RD RP ld lp la lb ⊢;have ed:(if (110:Int)<(dr.length:Int) then(110:Int) else(dr.length:Int))=(dr.length:Int):=by split<;>omega
 have ed2:min (dr.length:Int) 110=(dr.length:Int):=by omega
 obtain⟨i0,hi,hz0,hz1,hz2⟩:=info_parts Jd;replace hi:=Hd hi;replace hz0:=Hd hz0;replace hz1:=Hd hz1;replace hz2:=Hd hz2;obtain⟨la1,la2⟩:=la;obtain⟨lb1,lb2⟩:=lb;unfold maxLen at la2 lb2;replace RD:=Hd RD;replace RP:=Hd RP;have XB:Hid (Ext w ((w.alloc (.cells #[.int .i64 wk,.int .i64 sl,.int .i64 lv,.slice A dr.length a,.slice B pa.length b] 25)).alloc (.cells #[.int .i64 0,.int .i64 0,.int .i64 0,.slice none 0 0,.slice none 0 0] 34))):=Hd (((Ext.rf w).alloc _).alloc _);have B1:Hid (Blk ((w.alloc (.cells #[.int .i64 wk,.int .i64 sl,.int .i64 lv,.slice A dr.length a,.slice B pa.length b] 25)).alloc (.cells #[.int .i64 0,.int .i64 0,.int .i64 0,.slice none 0 0,.slice none 0 0] 34)) w.heap.size 25 #[.int .i64 wk,.int .i64 sl,.int .i64 lv,.slice A dr.length a,.slice B pa.length b]):=Hd (.alloc (.new rfl) _);have B2:Hid (Blk ((w.alloc (.cells #[.int .i64 wk,.int .i64 sl,.int .i64 lv,.slice A dr.length a,.slice B pa.length b] 25)).alloc (.cells #[.int .i64 0,.int .i64 0,.int .i64 0,.slice none 0 0,.slice none 0 0] 34)) (w.heap.size+1) 34 #[.int .i64 0,.int .i64 0,.int .i64 0,.slice none 0 0,.slice none 0 0]):=Hd (.new (by simp));go_enter Tryz.func6,Tryz.ntmps6;go_upto_region 1 with(fail);generalize (w.alloc (.cells #[.int .i64 wk,.int .i64 sl,.int .i64 lv,.slice A dr.length a,.slice B pa.length b] 25)).alloc (.cells #[.int .i64 0,.int .i64 0,.int .i64 0,.slice none 0 0,.slice none 0 0] 34)=w1 at *;obtain⟨g1,hg1⟩:∃ g,Hid (g=w.heap.size):=⟨_,Hd rfl⟩;rw[<-hg1.out] at B1 B2 ⊢;obtain⟨c0,c1,c2,c3,c4,-⟩:=Zk B1.out;have zb:=B1.out.lt;have z0:w.heap.size<=w1.heap.size:=XB.out.size;have zg:w.heap.size+1<w1.heap.size:=by rw[<-hg1.out];exact B2.out.lt
 replace B2:=Hd B2.out;refine wp_region_any (by kernel_rfl) ?_
 change wpAny _ _ _ _ _ _ _ (World.drew _)
 refine Za 0 (.fieldAddr 25 (.tmp 1) 0) 0 (some 6) rfl (by kernel_rfl) Hq (by intro _;go_simp;try rfl) ?_;simp only[lay];refine Za 2 (.fieldAddr 25 (.tmp 1) 1) 0 (some 8) rfl (by kernel_rfl) Hq (by intro _;go_simp;try rfl) ?_;simp only[lay];refine Za 4 (.fieldAddr 25 (.tmp 1) 2) 0 (some 10) rfl (by kernel_rfl) Hq (by intro _;go_simp;try rfl) ?_;simp only[lay];refine Za 8 (.fieldAddr 25 (.tmp 1) 3) 0 (some 14) rfl (by kernel_rfl) Hq (by intro _;go_simp;try rfl) ?_;simp only[lay];refine Za 10 (.fieldAddr 25 (.tmp 1) 3) 0 (some 16) rfl (by kernel_rfl) Hq (by intro _;go_simp;try rfl) ?_;simp only[lay];refine Zh (n:=1) [(1,some 7),(3,some 9),(5,some 11),(9,some 15),(11,some 17),(6,some 12),(12,some 18),(13,some 19),(14,some 20),(7,some 13),(15,some 21),(16,some 22),(17,some 3)] (Ext w1) (VF (fun | 1=>some (.int .i64 wk) | 3=>some (.int .i64 sl) | 5=>some (.int .i64 lv) | 9=>some (.slice A dr.length a) | 11=>some (.slice A dr.length a) | 6=>some (.agg #[.int .i64 wk,.int .i64 sl,.int .i64 lv]) | 12=>some (.int .i64 dr.length) | 13=>some (.int .i64 dr.length) | 14=>some (.slice A dr.length a) | _=>none) (fun i v W=>(i=7->∃ z,v=.slice (some ⟨z,0,none⟩) 0 0/\Blk W z 3 #[]/\w1.heap.size<=z)/\(i=15->(CpW w.heap.size dr) v W)/\(i=16->(CqW wk sl lv w.heap.size dr) v W)/\(i=17->∃ z,v=.pointer (some ⟨z,0,none⟩)/\Blk W z 34 #[.int .i64 0,.int .i64 0,.int .i64 0,.slice none 0 0,.slice none 0 0]/\w1.heap.size<=z))) Ext #[true,true,true,true,true,true,true,true,true,true,true,true,true,true,true,true,true,true,false] (by decide +kernel) (VF.stab ?_) ?_ ?_ (by first | exact(Ext.rf _).drew | exact Ext.rf _)
 ·intro j v W W' _ gz hx
  obtain⟨g0,g1,g2,g3⟩:=gz;exact⟨fun h=>(g0 h).imp fun z hz=>⟨hz.1,hz.2.1.ext hx,hz.2.2⟩,fun h=>(CpW.ext) _ _ _ (g1 h) hx,fun h=>(CqW.ext) _ _ _ (g2 h) hx,fun h=>(g3 h).imp fun z hz=>⟨hz.1,hz.2.1.ext hx,hz.2.2⟩⟩
 ·intro pS hpm uS wS hRW hD K hK
  simp only[List.mem_cons,List.not_mem_nil,or_false] at hpm;rcases hpm with rfl | rfl | rfl | rfl | rfl | rfl | rfl | rfl | rfl | rfl | rfl | rfl | rfl
  ·( have rX:=Zb hRW zb c0;exact Ze (T:=3) (x:=Operand.tmp 6) (t:=3) (d:=some 7) rfl (.pointer (some ⟨g1,0,none⟩)) (by kernel_rfl) (.int .i64 wk) (by go_simp) (hK _ _ (VF.mk rfl) hRW (Ext.rf _)))
  ·( have rX:=Zb hRW zb c1;exact Ze (T:=3) (x:=Operand.tmp 8) (t:=3) (d:=some 9) rfl (.pointer (some ⟨g1,1,none⟩)) (by kernel_rfl) (.int .i64 sl) (by go_simp) (hK _ _ (VF.mk rfl) hRW (Ext.rf _)))
  ·( have rX:=Zb hRW zb c2;exact Ze (T:=3) (x:=Operand.tmp 10) (t:=3) (d:=some 11) rfl (.pointer (some ⟨g1,2,none⟩)) (by kernel_rfl) (.int .i64 lv) (by go_simp) (hK _ _ (VF.mk rfl) hRW (Ext.rf _)))
  ·( have rX:=Zb hRW zb c3;exact Ze (T:=22) (x:=Operand.tmp 14) (t:=22) (d:=some 15) rfl (.pointer (some ⟨g1,3,none⟩)) (by kernel_rfl) (.slice A dr.length a) (by go_simp) (hK _ _ (VF.mk rfl) hRW (Ext.rf _)))
  ·( have rX:=Zb hRW zb c3;exact Ze (T:=22) (x:=Operand.tmp 16) (t:=22) (d:=some 17) rfl (.pointer (some ⟨g1,3,none⟩)) (by kernel_rfl) (.slice A dr.length a) (by go_simp) (hK _ _ (VF.mk rfl) hRW (Ext.rf _)))
  ·(have e1:uS 1=.int .i64 wk:=(hD 1 (Zg (by kernel_rfl))).k rfl;have e3:uS 3=.int .i64 sl:=(hD 3 (Zg (by kernel_rfl))).k rfl;have e5:uS 5=.int .i64 lv:=(hD 5 (Zg (by kernel_rfl))).k rfl;exact Zl (op:=Op.build 31 #[(0,Operand.tmp 7),(1,Operand.tmp 9),(2,Operand.tmp 11)]) (t:=31) (d:=some 12) rfl (.agg #[.int .i64 wk,.int .i64 sl,.int .i64 lv]) (by simp only[Zc,Act.put,List.setIfInBounds_toArray,List.set_cons_zero,List.set_cons_succ];unfold Zj;(try go_simp);(try simp only[e1,e3,e5]);(try go_simp);(try rfl);(try (exact IntWalk.i64_in _ (by omega)))) (hK _ _ (VF.mk rfl) hRW (Ext.rf _)))
  ·(have e11:uS 11=.slice A dr.length a:=(hD 11 (Zg (by kernel_rfl))).k rfl;exact Zl (op:=Op.call { callee:=Callee.builtin Builtin.len,args:=#[Operand.tmp 17],argTypes:=#[22] }) (t:=3) (d:=some 18) rfl (.int .i64 dr.length) (by simp only[Zc,Act.put,List.setIfInBounds_toArray,List.set_cons_zero,List.set_cons_succ];unfold Zj;(try go_simp);(try simp only[e11]);(try go_simp);(try rfl);(try (exact IntWalk.i64_in _ (by omega)))) (hK _ _ (VF.mk rfl) hRW (Ext.rf _)))
  ·(have e12:uS 12=.int .i64 dr.length:=(hD 12 (Zg (by kernel_rfl))).k rfl;exact Zl (op:=Op.call { callee:=Callee.builtin Builtin.min,args:=#[Operand.tmp 18,Operand.const (Value.int IntKind.i64 110)],argTypes:=#[3,3] }) (t:=3) (d:=some 19) rfl (.int .i64 dr.length) (by simp only[Zc,Act.put,List.setIfInBounds_toArray,List.set_cons_zero,List.set_cons_succ];unfold Zj;(try go_simp);(try simp only[e12]);(try go_simp);(try rfl);(try (exact IntWalk.i64_in _ (by omega)));(try (simp[ed,ed2]))) (hK _ _ (VF.mk rfl) hRW (Ext.rf _)))
  ·(have e9:uS 9=.slice A dr.length a:=(hD 9 (Zg (by kernel_rfl))).k rfl;have e13:uS 13=.int .i64 dr.length:=(hD 13 (Zg (by kernel_rfl))).k rfl;exact Zl (op:=Op.slice 22 (Operand.tmp 15) none (some (Operand.tmp 19)) none) (t:=22) (d:=some 20) rfl (.slice A dr.length a) (by simp only[Zc,Act.put,List.setIfInBounds_toArray,List.set_cons_zero,List.set_cons_succ];unfold Zj;(try go_simp);(try simp only[e9,e13]);(try go_simp);(try rfl);(try (exact IntWalk.i64_in _ (by omega)));(try (simp[la1]))) (hK _ _ (VF.mk rfl) hRW (Ext.rf _)))
  ·( exact Zl (op:=Op.buildSlice 22 0 #[]) (t:=22) (d:=some 13) rfl _ (by simp only[Zc,Act.put,List.setIfInBounds_toArray,List.set_cons_zero,List.set_cons_succ];unfold Zj;(try go_simp);(try rfl)) (hK _ _ (VF.mg rfl ⟨(fun _=>⟨_,rfl,.new rfl,hRW.size⟩),(fun h=>absurd h (by decide)),(fun h=>absurd h (by decide)),(fun h=>absurd h (by decide))⟩) (hRW.alloc _) ((Ext.rf _).alloc _)))
  ·(have e14:uS 14=.slice A dr.length a:=(hD 14 (Zg (by kernel_rfl))).k rfl;have w7:=((hD 7 (Zg (by kernel_rfl))).g rfl).1 rfl;obtain⟨z7,e7,b7,l7⟩:=w7;obtain⟨A9,c9,w9,hr,oo,xx⟩:=UR wS w.heap.size 22 z7 dr A a b7 (Nat.le_trans z0 l7) (RD.out.ext (XB.out.tr hRW)) (by omega);exact Vh rfl _ _ (Eq.trans (b:=uS 7) (by kernel_rfl) e7) (Eq.trans (b:=uS 14) (by kernel_rfl) e14) _ hr (hK _ _ (VF.mg rfl ⟨(fun h=>absurd h (by decide)),(fun _=>⟨A9,c9,rfl,oo⟩),(fun h=>absurd h (by decide)),(fun h=>absurd h (by decide))⟩) (hRW.tr xx) xx))
  ·(have e6:uS 6=.agg #[.int .i64 wk,.int .i64 sl,.int .i64 lv]:=(hD 6 (Zg (by kernel_rfl))).k rfl;have w15:=((hD 15 (Zg (by kernel_rfl))).g rfl).2.1 rfl;obtain⟨A9,c9,e15,oo⟩:=w15;exact Zl rfl _ (by simp only[Zc,Act.put,List.setIfInBounds_toArray,List.set_cons_zero,List.set_cons_succ];unfold Zj;(try go_simp);(try simp only[e6,e15]);(try go_simp);(try rfl)) (hK _ _ (VF.mg rfl ⟨(fun h=>absurd h (by decide)),(fun h=>absurd h (by decide)),(fun _=>⟨A9,c9,rfl,oo⟩),(fun h=>absurd h (by decide))⟩) hRW (Ext.rf _)))
  ·( exact Zl (op:=Op.alloc 34) (t:=0) (d:=some 3) rfl _ (by unfold Zj;go_simp;try rfl) (hK _ _ (VF.mg rfl ⟨(fun h=>absurd h (by decide)),(fun h=>absurd h (by decide)),(fun h=>absurd h (by decide)),(fun _=>⟨_,rfl,.new rfl,hRW.size⟩)⟩) (hRW.alloc _) ((Ext.rf _).alloc _)))
 intro u w9 hR9 hV;have h1:=(hV (1,some 7) (by simp)).k rfl;have h3:=(hV (3,some 9) (by simp)).k rfl;have h5:=(hV (5,some 11) (by simp)).k rfl;have h9:=(hV (9,some 15) (by simp)).k rfl;have h11:=(hV (11,some 17) (by simp)).k rfl;have h6:=(hV (6,some 12) (by simp)).k rfl;have h12:=(hV (12,some 18) (by simp)).k rfl;have h13:=(hV (13,some 19) (by simp)).k rfl;have h14:=(hV (14,some 20) (by simp)).k rfl;obtain⟨ez,h7,eb,el⟩:=((hV (7,some 13) (by simp)).g rfl).1 rfl;obtain⟨qz,h17,qb,ql⟩:=((hV (17,some 3) (by simp)).g rfl).2.2.2 rfl;obtain⟨A5,c5,h15,o5⟩:=((hV (15,some 21) (by simp)).g rfl).2.1 rfl;obtain⟨A6,c6,h16,o6⟩:=((hV (16,some 22) (by simp)).g rfl).2.2.1 rfl;simp only[Zc,h1,h3,h5,h9,h11,h6,h12,h13,h14,h7,h15,h16,h17];clear hV h1 h3 h5 h9 h11 h6 h12 h13 h14 h7 h15 h16 h17
 try simp only[lay]
 have X9:=Hd (XB.out.tr hR9);have B9:=Hd (B1.out.ext hR9);have lq:Hid (w.heap.size<=qz):=Hd (Nat.le_trans z0 ql);obtain⟨b0,b1,b2,b3,b4,f0,f1,f2,f3,f4⟩:=Zk qb;obtain⟨w5,hWF,BF,YF⟩:=Zo qb X9.out lq.out (.int .i64 wk) (.int .i64 sl) (.int .i64 lv) (.slice A6 dr.length c6) (.slice none 0 0);refine Zd 18 (by decide +kernel) (ZR rfl (.pointer (some ⟨qz,0,none⟩)) (.agg #[.int .i64 wk,.int .i64 sl,.int .i64 lv,.slice A6 dr.length c6,.slice none 0 0]) (by kernel_rfl) (by kernel_rfl) (by go_simp;rfl) ?_);refine wpAny_done (by kernel_rfl) ?_ _;have MS:Hid (ModT w.heap.size [34] w9 w5):=Hd (by
  rw[<-hWF.out];exact((((ModT.set w9 qb (by simp) lq.out 0 _).tr (ModT.set _ (qb.set 0 _) (by simp) lq.out 1 _)).tr (ModT.set _ ((qb.set 0 _).set 1 _) (by simp) lq.out 2 _)).tr (ModT.set _ (((qb.set 0 _).set 1 _).set 2 _) (by simp) lq.out 3 _)).tr (ModT.set _ ((((qb.set 0 _).set 1 _).set 2 _).set 3 _) (by simp) lq.out 4 _))
 have nq:Hid (g1+1≠qz):=Hd (by have:=B2.out.lt;omega);have Z5:Hid (Blk w5 (g1+1) 34 #[.int .i64 0,.int .i64 0,.int .i64 0,.slice none 0 0,.slice none 0 0]):=Hd (by
  rw[<-hWF.out];exact(((((B2.out.ext hR9).far (p:=⟨qz,0,none⟩) nq.out _).far (p:=⟨qz,1,none⟩) nq.out _).far (p:=⟨qz,2,none⟩) nq.out _).far (p:=⟨qz,3,none⟩) nq.out _).far (p:=⟨qz,4,none⟩) nq.out _)
 have B5:=Hd (B9.out.modT MS.out (by decide));have O5:=Hd (o6.modT MS.out (by decide));rw[hWF.out];clear hWF b0 b1 b2 b3 b4 f0 f1 f2 f3 f4 qb ql o6 o5 hR9 eb el X9 B9 MS B1 B2 XB c0 c1 c2 c3 c4 zb zg z0 ed ed2;replace RP:=Hd (fun(W:World) (x:Ext w W)=>RP.out.ext x);go_wp2_with (fail);go_loopw [4] (fun kv wr=>∃ (k:Nat) (D:Option Addr) (d:Nat),kv=.int .i64 k/\k<=pa.length/\Hid (Blk wr qz 34 #[.int .i64 wk,.int .i64 sl,.int .i64 lv,.slice A6 dr.length c6,.slice D k d])/\Hid (OwV wr w.heap.size 46 5 D k d (ZU (pa.take k)))/\Hid (Blk wr g1 25 #[.int .i64 wk,.int .i64 sl,.int .i64 lv,.slice A dr.length a,.slice B pa.length b])/\Hid (Blk wr (g1+1) 34 #[.int .i64 0,.int .i64 0,.int .i64 0,.slice none 0 0,.slice none 0 0])/\Hid (OwI wr w.heap.size A6 c6 dr)/\Hid (Ext w wr)) (fun kv _=>pa.length-(intOf kv).toNat)
 case atStart=>exact⟨0,none,0,rfl,by omega,Hd (BF.out.ext XI),Hd (OwV.nil _ _ _ _),Hd (B5.out.ext XI),Hd (Z5.out.ext XI),Hd (O5.out.ext XI),Hd (YF.out.tr XI)⟩
 case round =>
  clear BF YF Z5 B5 O5;obtain⟨k,D,d,rfl,hk,BO,HO,BI,BZ,OI,Y⟩:=hrel;have i4:=(BI.out.cell 4);simp only[List.getElem?_toArray,List.getElem?_cons_zero,List.getElem?_cons_succ] at i4
  by_cases hlt:k<pa.length
  ·have hlt2:(k:Int)<(pa.length:Int):=by omega
   have hlt3:(k:Int)<60:=by omega
   obtain⟨e,he⟩:∃ e,pa[k]?=some e:=⟨_,List.getElem?_eq_getElem hlt⟩;obtain⟨pb,po,rfl,zp,p0,p1,p2,p3,p4⟩:=(RP.out _ Y.out).rprt he;have hTK:Hid (ZU (pa.take (k+1))=ZU (pa.take k)++Vc e):=Hd (by rw[List.take_add_one,he];simp only[Option.toList_some];exact Uo _ _);clear he;have o4:=(BO.out.cell 4);simp only[List.getElem?_toArray,List.getElem?_cons_zero,List.getElem?_cons_succ] at o4;have zo:=BO.out.lt;have zi:=BI.out.lt;go_wp2_with (at_builtin;refine Zw _ (e:=46) Tryz.underlying32 hi.out hz0.out hz1.out hz2.out (by simp[Value.cells]) (by omega) rfl _ _ rfl w.heap.size D k d (ZU (pa.take k)) _ 1 1 (Vc e) rfl rfl (HO.out.ext XI) (RdV.blk (by(first | exact .new (by simp) | exact .drew (.new (by simp)) | exact .alloc (.new (by simp)) _ | exact .drew (.alloc (.new (by simp)) _) | exact .alloc (.alloc (.new (by simp)) _) _ | exact .drew (.alloc (.alloc (.new (by simp)) _) _) | (repeat (first | assumption | (refine Blk.new ?_;(focus (simp;done))) | apply Blk.drew | apply Blk.drewN | apply Blk.alloc))))).rdC (by rfl) (by simp[Value.oneCell',Vc]) (by simp only[maxLen];omega) (by omega) (by have:=Y.out.size;simp;omega) ?_;rintro D8 d8 w8 o8 g8 _;have M8:ModT w.heap.size [46] wr w8:=(ModT.of_ext XI).tr ((HO.out.ext XI).grownT g8);have BO8:=Hd (BO.out.modT M8 (by decide));have k4:=BO8.out.cell 4;simp only[List.getElem?_toArray,List.getElem?_cons_zero,List.getElem?_cons_succ] at k4;have j4:=BO8.out.free 4);have C8:=Hd (BO8.out.set 4 (.slice D8 (k+1) d8));have MS:Hid (ModT w.heap.size [34] w8 (w8.setCell ⟨qz,4,none⟩ (.slice D8 (k+1) d8))):=Hd (ModT.set w8 BO8.out (by simp) lq.out 4 _);have Q8:Hid (OwV (w8.setCell ⟨qz,4,none⟩ (.slice D8 (k+1) d8)) w.heap.size 46 5 D8 (k+1) d8 (ZU (pa.take (k+1)))):=Hd (by rw[hTK.out];exact OwV.modT o8 MS.out (by decide));have I8:=Hd ((BI.out.modT M8 (by decide)).modT MS.out (by decide));have Z8:=Hd ((BZ.out.modT M8 (by decide)).far (p:=⟨qz,4,none⟩) nq.out (.slice D8 (k+1) d8));have N8:=Hd ((OI.out.modT M8 (by decide)).modT MS.out (by decide));have Y8:=Hd ((Y.out.modT M8 (Nat.le_refl _)).setNew (p:=⟨qz,4,none⟩) lq.out (.slice D8 (k+1) d8));clear o8 g8 M8 BO8 k4 j4 BO HO BI BZ OI Y MS o4 i4 zo zi p0 p1 p2 p3 p4 zp;generalize w8.setCell ⟨qz,4,none⟩ (.slice D8 (k+1) d8)=w7 at *;go_roundw
   case rel=>exact⟨k+1,D8,d8,by go_num,by omega,C8,Q8,I8,Z8,N8,Y8⟩
   case measure=>simp[intOf];omega
  ·obtain rfl:k=pa.length:=by omega
   have HO2:Hid (OwV wr w.heap.size 46 5 D pa.length d (ZU pa)):=by have:=HO.out;rw[List.take_length] at this;exact Hd this
   have zr:=BZ.out.lt;obtain⟨d0,d1,d2,d3,d4,-⟩:=Zk BO.out;obtain⟨b0,b1,b2,b3,b4,f0,f1,f2,f3,f4⟩:=Zk BZ.out;obtain⟨w6,hWF,BF,YF⟩:=Zo BZ.out Y.out (by rw[hg1.out];omega) (.int .i64 wk) (.int .i64 sl) (.int .i64 lv) (.slice A6 dr.length c6) (.slice D pa.length d);have MF:Hid (ModT w.heap.size [34] wr w6):=Hd (by
    have hz:w.heap.size<=g1+1:=by rw[hg1.out];omega
    rw[<-hWF.out];exact((((ModT.set wr BZ.out (by simp) hz 0 _).tr (ModT.set _ (BZ.out.set 0 _) (by simp) hz 1 _)).tr (ModT.set _ ((BZ.out.set 0 _).set 1 _) (by simp) hz 2 _)).tr (ModT.set _ (((BZ.out.set 0 _).set 1 _).set 2 _) (by simp) hz 3 _)).tr (ModT.set _ ((((BZ.out.set 0 _).set 1 _).set 2 _).set 3 _) (by simp) hz 4 _))
   clear HO;go_wp2_with (fail);rw[hWF.out];clear hWF b0 b1 b2 b3 b4 f0 f1 f2 f3 f4 d0 d1 d2 d3 d4 i4;obtain⟨r0,r1,r2,r3,r4,-⟩:=Zk BF.out;refine bodyPost_ret (v:=.agg #[.int .i64 wk,.int .i64 sl,.int .i64 lv,.slice A6 dr.length c6,.slice D pa.length d]) (by simp[results,Tryz.results6,go_sem, *]) rfl ?_;exact⟨_,_,_,_,rfl,⟨(OI.out.modT MF.out (by decide)).read,(HO2.out.modT MF.out (by decide)).read⟩,YF.out⟩
def JH (s:ScrP)(w:World)(e:Ending)(w':World) : Prop:=∃ A a B b,e=.returned (.agg (ZV s A a B b))/\RScrRd s A B w'/\Ext w w'
theorem Zen (s:ScrP)(A:Option Addr)(a:Nat)(B:Option Addr)(b:Nat)(w:World)(H:ScrRd s A B w)(hs:s.In)(lp:s.parts.length<=1000000) :
  Calls Tryz.prog 11 #[.agg (ZV s A a B b)] w (JH s w):=by
 obtain⟨RD,RP⟩:=H;have hin:=hs.parts;obtain⟨wk,sl,lv,dr,pa⟩:=s;unfold JH RScrRd ZV;simp only at RD RP lp hin ⊢;obtain⟨i0,hi,hz0,hz1,hz2⟩:=info_parts Vn;replace hi:=Hd hi;replace hz0:=Hd hz0;replace hz1:=Hd hz1;replace hz2:=Hd hz2;replace RD:=Hd RD;replace RP:=Hd (fun(W:World) (x:Ext w W)=>RP.ext x);replace hin:=Hd hin;clear hs;generalize hnd:dr.length=nd at *;replace hnd:=Hd hnd;go_enter Tryz.func11,Tryz.ntmps11;go_upto_region 2 with(fail);have B1:Hid (Blk (((w.alloc (.cells #[.int .i64 wk,.int .i64 sl,.int .i64 lv,.slice A nd a,.slice B pa.length b] 34)).alloc (.cells #[.int .i64 0,.int .i64 0,.int .i64 0,.slice none 0 0,.slice none 0 0] 25)).alloc (.cells #[.int .i64 wk,.int .i64 sl,.int .i64 lv,.slice A nd a,.slice none 0 0] 25)) w.heap.size 34 #[.int .i64 wk,.int .i64 sl,.int .i64 lv,.slice A nd a,.slice B pa.length b]):=Hd (.alloc (.alloc (.new rfl) _) _);have B2:Hid (Blk (((w.alloc (.cells #[.int .i64 wk,.int .i64 sl,.int .i64 lv,.slice A nd a,.slice B pa.length b] 34)).alloc (.cells #[.int .i64 0,.int .i64 0,.int .i64 0,.slice none 0 0,.slice none 0 0] 25)).alloc (.cells #[.int .i64 wk,.int .i64 sl,.int .i64 lv,.slice A nd a,.slice none 0 0] 25)) (w.heap.size+1) 25 #[.int .i64 0,.int .i64 0,.int .i64 0,.slice none 0 0,.slice none 0 0]):=Hd (.alloc (.new (by simp)) _);have B3:Hid (Blk (((w.alloc (.cells #[.int .i64 wk,.int .i64 sl,.int .i64 lv,.slice A nd a,.slice B pa.length b] 34)).alloc (.cells #[.int .i64 0,.int .i64 0,.int .i64 0,.slice none 0 0,.slice none 0 0] 25)).alloc (.cells #[.int .i64 wk,.int .i64 sl,.int .i64 lv,.slice A nd a,.slice none 0 0] 25)) (w.heap.size+1+1) 25 #[.int .i64 wk,.int .i64 sl,.int .i64 lv,.slice A nd a,.slice none 0 0]):=Hd (.new (by simp));have XB:Hid (Ext w (((w.alloc (.cells #[.int .i64 wk,.int .i64 sl,.int .i64 lv,.slice A nd a,.slice B pa.length b] 34)).alloc (.cells #[.int .i64 0,.int .i64 0,.int .i64 0,.slice none 0 0,.slice none 0 0] 25)).alloc (.cells #[.int .i64 wk,.int .i64 sl,.int .i64 lv,.slice A nd a,.slice none 0 0] 25))):=Hd ((((Ext.rf w).alloc _).alloc _).alloc _);generalize ((w.alloc (.cells #[.int .i64 wk,.int .i64 sl,.int .i64 lv,.slice A nd a,.slice B pa.length b] 34)).alloc (.cells #[.int .i64 0,.int .i64 0,.int .i64 0,.slice none 0 0,.slice none 0 0] 25)).alloc (.cells #[.int .i64 wk,.int .i64 sl,.int .i64 lv,.slice A nd a,.slice none 0 0] 25)=w5 at *;obtain⟨g1,hg1⟩:∃ g,Hid (g=w.heap.size):=⟨_,Hd rfl⟩;rw[<-hg1.out] at B1 B2 B3 ⊢;obtain⟨qz,hqz⟩:∃ g,Hid (g=g1+1+1):=⟨_,Hd rfl⟩;rw[<-hqz.out] at B3 ⊢;have lq:Hid (w.heap.size<=qz):=Hd (by rw[hqz.out,hg1.out];omega);have nq:Hid (g1+1≠qz):=Hd (by rw[hqz.out];omega);go_wp2_with (fail);go_loopw [4] (fun kv wr=>∃ (k:Nat) (D:Option Addr) (d:Nat),kv=.int .i64 k/\k<=pa.length/\Hid (Blk wr qz 25 #[.int .i64 wk,.int .i64 sl,.int .i64 lv,.slice A nd a,.slice D k d])/\Hid (OwV wr w.heap.size 50 5 D k d (ZG (pa.take k)))/\Hid (Blk wr g1 34 #[.int .i64 wk,.int .i64 sl,.int .i64 lv,.slice A nd a,.slice B pa.length b])/\Hid (Blk wr (g1+1) 25 #[.int .i64 0,.int .i64 0,.int .i64 0,.slice none 0 0,.slice none 0 0])/\Hid (Ext w wr)) (fun kv _=>pa.length-(intOf kv).toNat)
 case atStart=>exact⟨0,none,0,rfl,by omega,Hd (B3.out.ext XI),Hd (OwV.nil _ _ _ _),Hd (B1.out.ext XI),Hd (B2.out.ext XI),Hd (XB.out.tr XI)⟩
 case round =>
  clear B1 B2 B3 XB;obtain⟨k,D,d,rfl,hk,BO,HO,BI,BZ,Y⟩:=hrel;have i4:=(BI.out.cell 4);simp only[List.getElem?_toArray,List.getElem?_cons_zero,List.getElem?_cons_succ] at i4
  by_cases hlt:k<pa.length
  ·have hlt2:(k:Int)<(pa.length:Int):=by omega
   obtain⟨e,he⟩:∃ e,pa[k]?=some e:=⟨_,List.getElem?_eq_getElem hlt⟩;obtain⟨pb,po,rfl,zp,p0,p1,p2,p3,p4⟩:=(RP.out _ Y.out).prt he;have hTK:Hid (ZG (pa.take (k+1))=ZG (pa.take k)++Xa e):=Hd (by rw[List.take_add_one,he];simp only[Option.toList_some];exact VB _ _);have hsd:IntKind.i64.wrap (IntKind.u64.wrap e.seed)=e.seed:=VD (hin.out e (List.mem_of_getElem? he)).seed;clear he;have o4:=(BO.out.cell 4);simp only[List.getElem?_toArray,List.getElem?_cons_zero,List.getElem?_cons_succ] at o4;have zo:=BO.out.lt;have zi:=BI.out.lt;go_wp2_with (at_builtin;refine Zw _ (e:=50) Tryz.underlying23 hi.out hz0.out hz1.out hz2.out (by simp[Value.cells]) (by omega) rfl _ _ rfl w.heap.size D k d (ZG (pa.take k)) _ 1 1 (Xa e) rfl rfl (HO.out.ext XI) (RdV.blk (by(first | exact .new (by simp) | exact .drew (.new (by simp)) | exact .alloc (.new (by simp)) _ | exact .drew (.alloc (.new (by simp)) _) | exact .alloc (.alloc (.new (by simp)) _) _ | exact .drew (.alloc (.alloc (.new (by simp)) _) _) | (repeat (first | assumption | (refine Blk.new ?_;(focus (simp;done))) | apply Blk.drew | apply Blk.drewN | apply Blk.alloc))))).rdC (by rfl) (by simp[Value.oneCell',Xa]) (by simp only[maxLen];omega) (by omega) (by have:=Y.out.size;simp;omega) ?_;rintro D8 d8 w8 o8 g8 _;have M8:ModT w.heap.size [50] wr w8:=(ModT.of_ext XI).tr ((HO.out.ext XI).grownT g8);have BO8:=Hd (BO.out.modT M8 (by decide));have k4:=BO8.out.cell 4;simp only[List.getElem?_toArray,List.getElem?_cons_zero,List.getElem?_cons_succ] at k4;have j4:=BO8.out.free 4);have C8:=Hd (BO8.out.set 4 (.slice D8 (k+1) d8));have MS:Hid (ModT w.heap.size [25] w8 (w8.setCell ⟨qz,4,none⟩ (.slice D8 (k+1) d8))):=Hd (ModT.set w8 BO8.out (by simp) lq.out 4 _);have Q8:Hid (OwV (w8.setCell ⟨qz,4,none⟩ (.slice D8 (k+1) d8)) w.heap.size 50 5 D8 (k+1) d8 (ZG (pa.take (k+1)))):=Hd (by rw[hTK.out];exact OwV.modT o8 MS.out (by decide));have I8:=Hd ((BI.out.modT M8 (by decide)).modT MS.out (by decide));have Z8:=Hd ((BZ.out.modT M8 (by decide)).far (p:=⟨qz,4,none⟩) nq.out (.slice D8 (k+1) d8));have Y8:=Hd ((Y.out.modT M8 (Nat.le_refl _)).setNew (p:=⟨qz,4,none⟩) lq.out (.slice D8 (k+1) d8));clear o8 g8 M8 BO8 k4 j4 BO HO BI BZ Y MS o4 i4 zo zi p0 p1 p2 p3 p4 zp hsd;generalize w8.setCell ⟨qz,4,none⟩ (.slice D8 (k+1) d8)=w7 at *;go_roundw
   case rel=>exact⟨k+1,D8,d8,by go_num,by omega,C8,Q8,I8,Z8,Y8⟩
   case measure=>simp[intOf];omega
  ·obtain rfl:k=pa.length:=by omega
   have HO2:Hid (OwV wr w.heap.size 50 5 D pa.length d (ZG pa)):=by have:=HO.out;rw[List.take_length] at this;exact Hd this
   have zr:=BZ.out.lt;obtain⟨d0,d1,d2,d3,d4,-⟩:=Zk BO.out;obtain⟨b0,b1,b2,b3,b4,f0,f1,f2,f3,f4⟩:=Zk BZ.out;have hz:Hid (w.heap.size<=g1+1):=Hd (by rw[hg1.out];omega);obtain⟨w6,hWF,BF,YF⟩:=Zo BZ.out Y.out hz.out (.int .i64 wk) (.int .i64 sl) (.int .i64 lv) (.slice A nd a) (.slice D pa.length d);have MF:Hid (ModT w.heap.size [25] wr w6):=Hd (by
    rw[<-hWF.out];exact((((ModT.set wr BZ.out (by simp) hz.out 0 _).tr (ModT.set _ (BZ.out.set 0 _) (by simp) hz.out 1 _)).tr (ModT.set _ ((BZ.out.set 0 _).set 1 _) (by simp) hz.out 2 _)).tr (ModT.set _ (((BZ.out.set 0 _).set 1 _).set 2 _) (by simp) hz.out 3 _)).tr (ModT.set _ ((((BZ.out.set 0 _).set 1 _).set 2 _).set 3 _) (by simp) hz.out 4 _))
   clear HO;go_wp2_with (fail);rw[hWF.out];clear hWF b0 b1 b2 b3 b4 f0 f1 f2 f3 f4 d0 d1 d2 d3 d4 i4;obtain⟨r0,r1,r2,r3,r4,-⟩:=Zk BF.out;refine bodyPost_ret (v:=.agg #[.int .i64 wk,.int .i64 sl,.int .i64 lv,.slice A nd a,.slice D pa.length d]) (by simp[results,Tryz.results11,go_sem, *]) rfl ?_;exact⟨_,_,_,_,rfl,⟨RD.out.ext YF.out,(HO2.out.modT MF.out (by decide)).read⟩,YF.out⟩
structure Rec where
 kind:Int
 path:List Int
def RecsO (w:World)(base:Nat)(vs:List Value)(rs:List Rec) : Prop :=
 vs.length=rs.length*2/\∀ (i:Nat) (r:Rec),rs[i]?=some r->∃ (A:Option Addr) (c:Nat),vs[i*2]?=some (.int .i64 r.kind)/\vs[i*2+1]?=some (.slice A r.path.length c)/\OwI w base A c r.path
section
variable {w w':World} {base:Nat} {vs:List Value} {rs:List Rec}
theorem RecsO.nil (w:World)(base:Nat) : RecsO w base [] []:=⟨rfl,fun i r h=>by simp at h⟩
theorem RecsO.ext (h:RecsO w base vs rs)(hx:Ext w w') : RecsO w' base vs rs :=
 ⟨h.1,fun i r hr=>by obtain⟨A,c,h1,h2,h3⟩:=h.2 i r hr;exact⟨A,c,h1,h2,h3.ext hx⟩⟩
theorem RecsO.more {base':Nat}(h:RecsO w base vs rs)(hb:base'<=base) : RecsO w base' vs rs :=
 ⟨h.1,fun i r hr=>by obtain⟨A,c,h1,h2,h3⟩:=h.2 i r hr;exact⟨A,c,h1,h2,h3.more hb⟩⟩
theorem RecsO.modT {base':Nat}{ts:List TypeId}(h:RecsO w base vs rs)(k:ModT base' ts w w')(ht:3∉ts) : RecsO w' base vs rs :=
 ⟨h.1,fun i r hr=>by obtain⟨A,c,h1,h2,h3⟩:=h.2 i r hr;exact⟨A,c,h1,h2,h3.modT k ht⟩⟩
theorem RecsO.snoc (h:RecsO w base vs rs){r:Rec}{A:Option Addr}{c:Nat}(ho:OwI w base A c r.path) : RecsO w base (vs++[.int .i64 r.kind,.slice A r.path.length c]) (rs++[r]):=by
 obtain⟨h1,h2⟩:=h;refine⟨by simp[h1];omega,fun i q hq=>?_⟩
 by_cases hi:i<rs.length
 ·rw[List.getElem?_append_left hi] at hq
  obtain⟨A',c',q1,q2,q3⟩:=h2 i q hq;exact⟨A',c',by rw[List.getElem?_append_left (by omega)];exact q1,by rw[List.getElem?_append_left (by omega)];exact q2,q3⟩
 ·rw[List.getElem?_append_right (by omega)] at hq
  obtain⟨h0,hq⟩:=List.getElem?_eq_some_iff.1 hq;have:i=rs.length:=by simp at h0;omega
  subst this;simp at hq;subst hq;exact⟨A,c,by rw[List.getElem?_append_right (by omega),h1];simp,by rw[List.getElem?_append_right (by omega),h1];simp,ho⟩
theorem RecsO.at {E:TypeId}{A:Option Addr}(h:RecsO w base vs rs)(hr:RdV w E A vs){i:Nat}(hi:i<rs.length) :
  ∃ b off r A' c',A=some ⟨b,off,none⟩/\b<w.heap.size/\w.cell? ⟨b,off+i*2,none⟩=some (.int .i64 r.kind)/\w.cell? ⟨b,off+i*2+1,none⟩=some (.slice A' r.path.length c')/\OwI w base A' c' r.path/\Hid (rs[i]?=some r):=by
 obtain⟨h1,h2⟩:=h;obtain⟨A',c',q1,q2,q3⟩:=h2 i rs[i] (List.getElem?_eq_getElem hi);obtain⟨b,off,rfl,hb,hc⟩:=hr.form (fun e=>by rw[e] at h1;simp at h1;omega);exact⟨b,off,rs[i],A',c',rfl,hb,hc _ _ q1,by rw[Nat.add_assoc];exact hc _ _ q2,q3,List.getElem?_eq_getElem hi⟩
end
def VN (N:Nat->Prop)(vs:List Value) : Prop:=∀ (i:Nat) (A:Option Addr) (m c b:Nat),vs[i]?=some (.slice A m c)->bl A=some b->N b
theorem VN.snoc {N:Nat->Prop}{vs:List Value}(h:VN N vs){k:Int}{A:Option Addr}{m c:Nat}(hA:∀ b,bl A=some b->N b) : VN N (vs++[.int .i64 k,.slice A m c]):=by
 intro i A' m' c' b hv hb
 by_cases hi:i<vs.length
 ·rw[List.getElem?_append_left hi] at hv
  exact h i A' m' c' b hv hb
 ·rw[List.getElem?_append_right (by omega)] at hv
  obtain⟨h0,hv'⟩:=List.getElem?_eq_some_iff.1 hv;have h0:i-vs.length<2:=by simpa using h0
  have:i-vs.length=0\/i-vs.length=1:=by omega
  rcases this with e | e
  ·rw[e] at hv;simp at hv
  ·rw[e] at hv
   simp at hv;obtain⟨rfl,_,_⟩:=hv;exact hA b hb
theorem VN.mono {N M:Nat->Prop}{vs:List Value}(h:VN N vs)(hm:∀ b,N b->M b) : VN M vs:=fun i A m c b hv hb=>hm b (h i A m c b hv hb)
theorem RecsO.mod {w w':World}{base:Nat}{vs:List Value}{rs:List Rec}{S:Nat->Prop}(h:RecsO w base vs rs)(hm:Mod S w w')(hn:VN (fun b=>¬S b) vs) : RecsO w' base vs rs :=
 ⟨h.1,fun i r hr=>by
  obtain⟨A,c,h1,h2,h3⟩:=h.2 i r hr;exact⟨A,c,h1,h2,h3.keep fun b hb=>hm.block b (h3.lt b hb).2 (hn _ A _ c b h2 hb)⟩⟩
def Zbw (r:Rec)(w:World)(e:Ending)(w':World) : Prop:=∃ A c,e=.returned (.agg #[.int .i64 r.kind,.slice A r.path.length c])/\OwI w' w.heap.size A c r.path/\Ext w w'
theorem Qs (r:Rec)(A:Option Addr)(c:Nat)(w:World)(hA:RdI w A r.path)(hl:r.path.length<=2^44) :
  Calls Tryz.prog 258 #[.agg #[.int .i64 r.kind,.slice A r.path.length c]] w (Zbw r w):=by
 have X:Ext w ((w.alloc (.cells #[.int .i64 r.kind,.slice A r.path.length c] 223)).alloc (.cells #[.int .i64 0,.slice none 0 0] 223)):=((Ext.rf _).alloc _).alloc _;have B1:Blk ((w.alloc (.cells #[.int .i64 r.kind,.slice A r.path.length c] 223)).alloc (.cells #[.int .i64 0,.slice none 0 0] 223)) w.heap.size 223 #[.int .i64 r.kind,.slice A r.path.length c]:=.alloc (.new rfl) _;have B2:Blk ((w.alloc (.cells #[.int .i64 r.kind,.slice A r.path.length c] 223)).alloc (.cells #[.int .i64 0,.slice none 0 0] 223)) (w.heap.size+1) 223 #[.int .i64 0,.slice none 0 0]:=.new (by simp);replace X:=Hd X;replace B1:=Hd B1;replace B2:=Hd B2;go_enter Tryz.func258,Tryz.ntmps258;go_wp2_with (fail);generalize (w.alloc (.cells #[.int .i64 r.kind,.slice A r.path.length c] 223)).alloc (.cells #[.int .i64 0,.slice none 0 0] 223)=wr at *;have a0:=B1.out.c0;have a1:=B1.out.c1;have z1:=B1.out.lt;have z2:=B2.out.lt;have hA':=Hd (hA.ext X.out);go_region_held3 (fun w'=>w'.cell? ⟨w.heap.size,0,none⟩=some (.int .i64 r.kind)/\w'.cell? ⟨w.heap.size,1,none⟩=some (.slice A r.path.length c)) (go_keep)
  (first | (go_at_call 52;refine(ZO A c r.path _ (hA'.out.ext XI) hl).mono ?_;rintro e w3 ⟨A3,c3,rfl,o3,x3⟩;have y3:=Ext.tr (a:=wr) XI x3;have s1:=Zb y3 z1 a0;have s2:=Zb y3 z1 a1;have t0:w3.cell? ⟨w.heap.size+1,0,none⟩=some (.int .i64 0):=(B2.out.ext y3).cell 0;have t1:w3.cell? ⟨w.heap.size+1,1,none⟩=some (.slice none 0 0):=(B2.out.ext y3).cell 1;have f0:=(B2.out.ext y3).free 0;have f1:=(B2.out.ext y3).free 1))
 all_goals
  have hz3:=(X.out.tr y3).size;have hxy:w.heap.size<=wr.heap.size:=X.out.size;have Bq:=Hd (B2.out.ext y3);have OF:=Hd (OwI.more (base':=w.heap.size) o3 (by first | exact hxy | (simp;omega)));have M:=Hd ((ModT.set w3 Bq.out (ts:=[223]) (base:=w.heap.size) (by simp) (by omega) 0 (.int .i64 r.kind)).tr (ModT.set _ (Bq.out.set 0 (.int .i64 r.kind)) (by simp) (by omega) 1 (.slice A3 r.path.length c3)));go_wp2_with (fail);exact bodyPost_ret (v:=.agg #[.int .i64 r.kind,.slice A3 r.path.length c3]) (by simp[results,Tryz.results258,go_sem, *]) rfl ⟨A3,c3,rfl,OF.out.modT M.out (by decide),(X.out.tr y3).modT M.out (Nat.le_refl _)⟩
theorem WK : (Tryz.prog.info? 223).map (fun i=>(i.zero,i.size,i.bytes))=some (some (.agg #[.int .i64 0,.slice none 0 0]),2,32):=by kernel_rfl
end
section
def Xq (l:List Int) : List Value:=l.map (Value.int .i64)
structure MemB (w:World)(gm gc:Nat)(M:List Int) : Prop where
 m:∃ (st k c o n:Int) (d:Bool),Blk w gm 268 #[.slice (some ⟨gc,0,none⟩) M.length M.length,.int .i64 st,.int .i64 k,.int .i64 c,.int .i64 o,.int .i64 n,.bool d]
 c:Blk w gc 3 (List.toArray (Xq M))
def CS (gm gc:Nat)(b:Nat) : Prop:=b=gm\/b=gc
section
variable {w w':World} {gm gc:Nat} {M:List Int}
theorem MemB.ext (h:MemB w gm gc M)(x:Ext w w') : MemB w' gm gc M:=by
 obtain⟨⟨st,k,c,o,n,d,h1⟩,h2⟩:=h;exact⟨⟨st,k,c,o,n,d,h1.ext x⟩,h2.ext x⟩
theorem MemB.mod {S:Nat->Prop}(h:MemB w gm gc M)(hm:Mod S w w')(h1:¬S gm)(h2:¬S gc) : MemB w' gm gc M:=by
 obtain⟨⟨st,k,c,o,n,d,q1⟩,q2⟩:=h;exact⟨⟨st,k,c,o,n,d,q1.mod hm h1⟩,q2.mod hm h2⟩
theorem MemB.ne (h:MemB w gm gc M) : gm≠gc:=by
 obtain⟨⟨st,k,c,o,n,d,q1⟩,q2⟩:=h;exact q1.ne q2 (by decide)
theorem MemB.lt (h:MemB w gm gc M) : gm<w.heap.size/\gc<w.heap.size:=by
 obtain⟨⟨st,k,c,o,n,d,q1⟩,q2⟩:=h;exact⟨q1.lt,q2.lt⟩
end
theorem Wf (gm gc:Nat)(M:List Int)(i:Nat)(w:World)(H:MemB w gm gc M)(hi:i<M.length) :
  Calls Tryz.prog 220 #[.pointer (some ⟨gm,0,none⟩),.int .i64 (i:Int)] w fun e w'=>e=.returned (.int .i64 0)/\w=w':=by
 obtain⟨⟨st,k,c,o,n,d,h1⟩,-⟩:=H;have c0:=(h1.cell 0);have e1:¬((i:Int)<0):=by omega
 have e2:¬((i:Int)>=(M.length:Int)):=by omega
 clear h1;go_enter Tryz.func220,Tryz.ntmps220;go_wp2_with (fail);go_ret;exact⟨rfl,rfl⟩
theorem Xc {M:List Int}{i:Nat}{x:Int}(h:M[i]?=some x) : (List.toArray (Xq M))[i]?=some (.int .i64 x):=by simp[Xq,h]
theorem Jj (M:List Int)(i:Nat)(x:Int) : (List.toArray (Xq M)).setIfInBounds i (.int .i64 x)=List.toArray (Xq (M.set i x)):=by simp[Xq,List.map_set]
theorem W8 (gm gc:Nat)(M:List Int)(i:Nat)(x kind n:Int)(done:Bool)(w:World)(H:MemB w gm gc M)(hx:M[i]?=some x) :
  Calls Tryz.prog 221 #[.pointer (some ⟨gm,0,none⟩),.int .i64 kind,.int .i64 (i:Int),.int .i64 n,.bool done] w fun e w'=>e=.returned (.int .i64 x)/\MemB w' gm gc (M.set i n)/\Mod (CS gm gc) w w':=by
 have hne:=H.ne;have hne2:gc≠gm:=fun h=>hne h.symm
 obtain⟨⟨st,k,c,o,n0,d,h1⟩,h2⟩:=H;have hi:i<M.length:=(List.getElem?_eq_some_iff.1 hx).1;have c0:=(h1.cell 0);have c1:=(h1.cell 1);have c2:=(h1.cell 2);have c3:=(h1.cell 3);have c4:=(h1.cell 4);have c5:=(h1.cell 5);have c6:=(h1.cell 6);have f1:=h1.free 1;have f2:=h1.free 2;have f3:=h1.free 3;have f4:=h1.free 4;have f5:=h1.free 5;have f6:=h1.free 6;have d0:w.cell? ⟨gc,i,none⟩=some (.int .i64 x):=(h2.cell i).trans (Xc hx);have g0:=h2.free i;have hi0:(0:Int)<=(i:Int):=by omega
 have hi1:(i:Int)<(M.length:Int):=by omega
 have FIN:Hid (∀ u:Int,MemB ((((((((w.setCell ⟨gm,2,none⟩ (.int .i64 kind)).setCell ⟨gm,3,none⟩ (.int .i64 (i:Int))).setCell ⟨gm,4,none⟩ (.int .i64 x)).setCell ⟨gm,5,none⟩ (.int .i64 n)).setCell ⟨gm,6,none⟩ (.bool done)).setCell ⟨gc,i,none⟩ (.int .i64 n)).setCell ⟨gm,1,none⟩ (.int .i64 u))) gm gc (M.set i n)/\Mod (CS gm gc) w ((((((((w.setCell ⟨gm,2,none⟩ (.int .i64 kind)).setCell ⟨gm,3,none⟩ (.int .i64 (i:Int))).setCell ⟨gm,4,none⟩ (.int .i64 x)).setCell ⟨gm,5,none⟩ (.int .i64 n)).setCell ⟨gm,6,none⟩ (.bool done)).setCell ⟨gc,i,none⟩ (.int .i64 n)).setCell ⟨gm,1,none⟩ (.int .i64 u)))):=Hd fun u=>by
  have m1:=(((((((h1.set 2 (.int .i64 kind)).set 3 (.int .i64 (i:Int))).set 4 (.int .i64 x)).set 5 (.int .i64 n)).set 6 (.bool done)).far (p:=⟨gc,i,none⟩) hne (.int .i64 n)).set 1 (.int .i64 u));have m2:=((((((h2.far (p:=⟨gm,2,none⟩) hne2 (.int .i64 kind)).far (p:=⟨gm,3,none⟩) hne2 (.int .i64 (i:Int))).far (p:=⟨gm,4,none⟩) hne2 (.int .i64 x)).far (p:=⟨gm,5,none⟩) hne2 (.int .i64 n)).far (p:=⟨gm,6,none⟩) hne2 (.bool done)).set i (.int .i64 n)).far (p:=⟨gm,1,none⟩) hne2 (.int .i64 u);rw[Jj] at m2;refine⟨⟨⟨u,kind,i,x,n,done,?_⟩,m2⟩,?_⟩
  ·rw[List.length_set]
   exact m1
  ·exact(((((((Mod.rf w).set (p:=⟨gm,2,none⟩) (.inl (.inl rfl)) _).set (p:=⟨gm,3,none⟩) (.inl (.inl rfl)) _).set (p:=⟨gm,4,none⟩) (.inl (.inl rfl)) _).set (p:=⟨gm,5,none⟩) (.inl (.inl rfl)) _).set (p:=⟨gm,6,none⟩) (.inl (.inl rfl)) _).set (p:=⟨gc,i,none⟩) (.inl (.inr rfl)) _).set (p:=⟨gm,1,none⟩) (.inl (.inl rfl)) _
 clear h1 h2 hx;go_enter Tryz.func221,Tryz.ntmps221;go_wp2_with (fail);go_ret;exact⟨rfl,FIN.out _⟩
def Yc (gm gc:Nat)(M:List Int)(v:Value)(w:World)(e:Ending)(w':World) : Prop:=e=.returned v/\MemB w' gm gc M/\Mod (CS gm gc) w w'
theorem VG (gm gc:Nat)(M:List Int)(i:Nat)(x:Int)(w:World)(H:MemB w gm gc M)(hx:M[i]?=some x) :
  Calls Tryz.prog 295 #[.pointer (some ⟨gm,0,none⟩),.int .i64 (i:Int)] w (Yc gm gc M (.tuple #[.int .i64 x,.int .i64 0]) w):=by
 have hi:i<M.length:=(List.getElem?_eq_some_iff.1 hx).1;have FI:=Hd (Wf gm gc M i w H hi);have ST:=Hd (W8 gm gc M i x 1 x true w H hx);have hs:M.set i x=M:=by
  apply List.ext_getElem?;intro j;rw[List.getElem?_set];split
  ·rename_i h;subst h;simp[hi,(List.getElem?_eq_some_iff.1 hx).2]
  ·rfl
 rw[hs] at ST;obtain⟨⟨st,k,c,o,n0,d,h1⟩,h2⟩:=H;have c0:=(h1.cell 0);have d0:w.cell? ⟨gc,i,none⟩=some (.int .i64 x):=(h2.cell i).trans (Xc hx);have hi0:(0:Int)<=(i:Int):=by omega
 have hi1:(i:Int)<(M.length:Int):=by omega
 unfold Yc;clear h1 h2 hx hs;go_enter Tryz.func295,Tryz.ntmps295;go_wp2_with (fail);refine FI.out.mono ?_;rintro e w1 ⟨rfl,rfl⟩;go_wp2_with (fail);refine ST.out.mono ?_;rintro e w2 ⟨rfl,q1,q2⟩;have Q1:=Hd q1;have Q2:=Hd q2;clear q1 q2;go_wp2_with (fail);go_ret2;exact⟨rfl,Q1.out,Q2.out⟩
theorem Wm (gm gc:Nat)(M:List Int)(i:Nat)(n:Int)(w:World)(H:MemB w gm gc M)(hi:i<M.length) :
  Calls Tryz.prog 152 #[.pointer (some ⟨gm,0,none⟩),.int .i64 (i:Int),.int .i64 n] w (Yc gm gc (M.set i n) (.int .i64 0) w):=by
 have FI:=Hd (Wf gm gc M i w H hi);have ST:=Hd (W8 gm gc M i M[i] 2 n true w H (List.getElem?_eq_getElem hi));unfold Yc;clear H;generalize M[i]=x at *;go_enter Tryz.func152,Tryz.ntmps152;go_wp2_with (fail);refine FI.out.mono ?_;rintro e w1 ⟨rfl,rfl⟩;go_wp2_with (fail);refine ST.out.mono ?_;rintro e w2 ⟨rfl,q1,q2⟩;have Q1:=Hd q1;have Q2:=Hd q2;clear q1 q2;go_wp2_with (fail);go_ret;exact⟨rfl,Q1.out,Q2.out⟩
theorem Zcu (gm gc:Nat)(M:List Int)(i:Nat)(x old n:Int)(w:World)(H:MemB w gm gc M)(hx:M[i]?=some x) :
  Calls Tryz.prog 296 #[.pointer (some ⟨gm,0,none⟩),.int .i64 (i:Int),.int .i64 old,.int .i64 n] w (Yc gm gc (if x=old then M.set i n else M) (.tuple #[.bool (decide (x=old)),.int .i64 0]) w):=by
 have hi:i<M.length:=(List.getElem?_eq_some_iff.1 hx).1;have FI:=Hd (Wf gm gc M i w H hi);have hs:M.set i x=M:=by
  apply List.ext_getElem?;intro j;rw[List.getElem?_set];split
  ·rename_i h;subst h;simp[hi,(List.getElem?_eq_some_iff.1 hx).2]
  ·rfl
 have ST:=fun(n:Int) (b:Bool)=>W8 gm gc M i x 3 n b w H hx
 obtain⟨⟨st,k,c,o,n0,d,h1⟩,h2⟩:=H;have c0:=(h1.cell 0);have d0:w.cell? ⟨gc,i,none⟩=some (.int .i64 x):=(h2.cell i).trans (Xc hx);have hi0:(0:Int)<=(i:Int):=by omega
 have hi1:(i:Int)<(M.length:Int):=by omega
 unfold Yc
 by_cases he:x=old
 ·subst he
  rw[if_pos rfl,decide_eq_true rfl];have ST1:=Hd (ST n true);have e1:(x != x)=false:=by simp
  have e2:(x==x)=true:=by simp
  clear h1 h2 hx hs ST;go_enter Tryz.func296,Tryz.ntmps296;go_wp2_with (fail);refine FI.out.mono ?_;rintro e w1 ⟨rfl,rfl⟩;go_wp2_with (fail);refine ST1.out.mono ?_;rintro e w2 ⟨rfl,q1,q2⟩;have Q1:=Hd q1;have Q2:=Hd q2;clear q1 q2;go_wp2_with (fail);go_ret2;exact⟨rfl,Q1.out,Q2.out⟩
 ·rw[if_neg he,decide_eq_false he]
  have ST1:=ST x false;rw[hs] at ST1;replace ST1:=Hd ST1;have e1:(x != old)=true:=by simpa using he
  have e2:(x==old)=false:=by simpa using he
  clear h1 h2 hx hs ST he;go_enter Tryz.func296,Tryz.ntmps296;go_wp2_with (fail);refine FI.out.mono ?_;rintro e w1 ⟨rfl,rfl⟩;go_wp2_with (fail);refine ST1.out.mono ?_;rintro e w2 ⟨rfl,q1,q2⟩;have Q1:=Hd q1;have Q2:=Hd q2;clear q1 q2;go_wp2_with (fail);go_ret2;exact⟨rfl,Q1.out,Q2.out⟩
theorem Qt (gm gc:Nat)(M:List Int)(i:Nat)(x:Int)(w:World)(H:MemB w gm gc M)(hx:M[i]?=some x) :
  Calls Tryz.prog 184 #[.pointer (some ⟨gm,0,none⟩),.int .i64 (i:Int)] w fun e w'=>e=.returned (.int .i64 x)/\w=w':=by
 have hi:i<M.length:=(List.getElem?_eq_some_iff.1 hx).1;have FI:=Hd (Wf gm gc M i w H hi);obtain⟨⟨st,k,c,o,n0,d,h1⟩,h2⟩:=H;have c0:=(h1.cell 0);have d0:w.cell? ⟨gc,i,none⟩=some (.int .i64 x):=(h2.cell i).trans (Xc hx);have hi0:(0:Int)<=(i:Int):=by omega
 have hi1:(i:Int)<(M.length:Int):=by omega
 clear h1 h2 hx;go_enter Tryz.func184,Tryz.ntmps184;go_wp2_with (fail);refine FI.out.mono ?_;rintro e w1 ⟨rfl,rfl⟩;go_wp2_with (fail);go_ret;exact⟨rfl,rfl⟩
theorem Wn (gm gc:Nat)(M:List Int)(w:World)(H:MemB w gm gc M) :
  Calls Tryz.prog 151 #[.pointer (some ⟨gm,0,none⟩)] w fun e w'=>e=.returned (.int .i64 (M.length:Int))/\w=w':=by
 obtain⟨⟨st,k,c,o,n0,d,h1⟩,-⟩:=H;have c0:=(h1.cell 0);clear h1;go_enter Tryz.func151,Tryz.ntmps151;go_wp2_with (fail);go_ret;exact⟨rfl,rfl⟩
end
section
def Yi : List Int->Int
 | []=>0
 | x::l=>x+Yi l
theorem Zeo (a b:List Int) : Yi (a++b)=Yi a+Yi b:=by
 induction a with
 | nil=>simp[Yi]
 | cons x a ih=>simp[Yi,ih];omega
section
variable {cap:Int} {ws vs p ws' vs':List Int} {r o w v:Int}
end
end
section
def XL (l:List Nat) : List Int:=l.map fun n:Nat=>(n:Int)
theorem V7 (l:List Nat) : (XL l).length=l.length:=by simp[XL]
def Yv : List (List Int)->List Int->Int
 | row::rows,c::p=>row.getD c.toNat 0+Yv rows p
 | _,_=>0
def Xd (rows:List (List Int))(a b:Nat) : Int:=(rows.getD a []).getD b 0
structure RowsOk (rows:List (List Int)) : Prop where
 n1:1<=rows.length
 n2:rows.length<=24
 row:∀ row∈rows,row.length=rows.length
 num:∀ row∈rows,∀ x∈row,0<=x/\x<=2147483647
theorem RowsOk.get {rows:List (List Int)}(h:RowsOk rows){row:List Int}(hr:row∈rows){c:Nat}(hc:c<rows.length) : 0<=row.getD c 0/\row.getD c 0<=2147483647:=by
 have h1:c<row.length:=by rw[h.row row hr];exact hc
 have h2:row.getD c 0=row[c]:=by simp[List.getD,List.getElem?_eq_getElem h1]
 rw[h2];exact h.num row hr _ (List.getElem_mem _)
theorem Ut : ∀ {rows:List (List Int)} {q:List Nat},rows.length=q.length->Yv rows (XL q)=Yi ((List.range q.length).map fun k=>Xd rows k (q.getD k 0))
 | [],[],_=>rfl
 | [],_::_,h=>by simp at h
 | _::_,[],h=>by simp at h
 | r::rows,c::q,h=>by
  have ih:=Ut (rows:=rows) (q:=q) (by simpa using h);have e:(List.range (c::q).length).map (fun k=>Xd (r::rows) k ((c::q).getD k 0))=Xd (r::rows) 0 c::(List.range q.length).map fun k=>Xd rows k (q.getD k 0):=by
   rw[List.length_cons,List.range_succ_eq_map,List.map_cons,List.map_map]
   rfl
  rw[e];simp only[XL,List.map_cons,Yi,Yv] at ih ⊢;rw[Int.toNat_natCast,ih]
  rfl
theorem Zar (a b:List Int) : Yi (a++b)=Yi a+Yi b:=by
 induction a with
 | nil=>simp[Yi]
 | cons x a ih=>simp only[List.cons_append,Yi,ih];omega
end
section
open Go
def Ym (a b:Nat) : Nat:=(BitVec.ofNat 64 a &&& ~~~ BitVec.ofNat 64 b).toNat
theorem Vp (a b:Nat) : Ym a b<18446744073709551616:=(BitVec.ofNat 64 a &&& ~~~ BitVec.ofNat 64 b).isLt
theorem Wx (a b:Nat)(ha:a<18446744073709551616)(hb:b<18446744073709551616) : bits .andNot .u64 (a:Int) (b:Int)=((Ym a b:Nat):Int):=by
 have h1:BitVec.ofInt 64 (a:Int)=BitVec.ofNat 64 a:=BitVec.ofInt_natCast ..;have h2:BitVec.ofInt 64 (b:Int)=BitVec.ofNat 64 b:=BitVec.ofInt_natCast ..;show IntKind.u64.wrap ((BitVec.ofInt 64 (a:Int) &&& ~~~ BitVec.ofInt 64 (b:Int)).toNat:Int)=_;rw[h1,h2,IntKind.wrap_u64];have:=Vp a b;unfold Ym at this ⊢;omega
theorem Uu {a b j:Nat}(ha:a<18446744073709551616) : (Ym a b).testBit j=(a.testBit j && !b.testBit j):=by
 unfold Ym;rw[BitVec.testBit_toNat,BitVec.getLsbD_and,BitVec.getLsbD_not,BitVec.getLsbD_ofNat,BitVec.getLsbD_ofNat]
 by_cases hj:j<64
 ·simp[hj]
 ·have:a.testBit j=false:=Nat.testBit_lt_two_pow (Nat.lt_of_lt_of_le ha (by
   have:2^64<=2^j:=Nat.pow_le_pow_right (by omega) (by omega);omega))
  simp[hj,this]
def Zq (m:Nat) : List Nat:=(List.range 64).filter fun j=>m.testBit j
theorem Jk {m j:Nat} : j∈Zq m↔j<64/\m.testBit j=true:=by simp[Zq]
theorem VH (m:Nat) : (Zq m).Pairwise (· < ·):=List.Pairwise.filter _ List.pairwise_lt_range
theorem Zbx : Zq 0=[]:=by simp[Zq]
theorem Zas (m:Nat) : (Zq m).length<=64:=by
 have:=List.length_filter_le (fun j=>m.testBit j) (List.range 64)
 simpa [Zq] using this
theorem Zby {m:Nat}(h0:m≠0)(h:m<18446744073709551616) : (Zq m).head?=some (Lib.ctz 64 m):=by
 have hc:Lib.ctz 64 m=Lib.ctzFrom 64 m:=by unfold Lib.ctz;rw[if_neg h0]
 obtain⟨q,h1,h2⟩:=Lib.ctzFrom_spec 64 m (by omega) (by omega);rw[hc];generalize Lib.ctzFrom 64 m=k at *;have hbit:∀ j,m.testBit j=(decide (k<=j)&&(2*q+1).testBit (j-k)):=fun j=>by rw[h1,Nat.testBit_two_pow_mul]
 have e:List.range 64=List.range k++(k::(List.range (64-k-1)).map (· + (k+1))):=by
  have:List.range 64=List.range (k+((64-k-1)+1)):=by congr 1;omega
  rw[this,List.range_add,List.range_succ_eq_map];simp only[List.map_cons,List.map_map,Nat.add_zero]
  congr 2
  apply List.map_congr_left;intro a _;simp[Function.comp_def];omega
 have e1:(List.range k).filter (fun j=>m.testBit j)=[]:=by
  rw[List.filter_eq_nil_iff];intro j hj;have:=List.mem_range.1 hj;rw[hbit,decide_eq_false (by omega)];simp
 have e2:m.testBit k=true:=by
  rw[hbit,decide_eq_true (Nat.le_refl _),Nat.sub_self,Nat.testBit_zero];simp
 unfold Zq;rw[e,List.filter_append,e1,List.filter_cons,e2]
 rfl
theorem Zbz {m x:Nat}{pre rest:List Nat}(h:m<18446744073709551616)(hx:Zq m=pre++x::rest) : Zq (Ym m (2^(x+1)-1))=rest:=by
 have hs:=VH m;rw[hx] at hs;have h1:=List.pairwise_append.1 hs;have h2:=List.pairwise_cons.1 h1.2.1;have e:Zq (Ym m (2^(x+1)-1))=(Zq m).filter fun j=>decide (x<j):=by
  unfold Zq;rw[List.filter_filter];refine List.filter_congr fun j _=>?_
  rw[Uu h,Nat.testBit_two_pow_sub_one]
  by_cases hj:j<x+1
  ·have:¬x<j:=by omega
   simp[hj,this]
  ·have:x<j:=by omega
   simp[hj,this]
 rw[e,hx,List.filter_append,List.filter_cons,decide_eq_false (by omega),List.filter_eq_nil_iff.2 (fun j hj=>by
  have:=h1.2.2 j hj x (by simp);simp;omega),List.filter_eq_self.2 (fun j hj=>by
  have:=h2.1 j hj
  simpa using this)]
 rfl
def UA (m i:Nat) : Nat:=Ym m (2^i)
theorem Zep {m i j:Nat}(h:m<18446744073709551616) : (UA m i).testBit j=(m.testBit j&&decide (i≠j)):=by
 unfold UA;rw[Uu h,Nat.testBit_two_pow]
 by_cases hij:i=j<;>simp[hij]
theorem ZcY {m i:Nat}(h:m<18446744073709551616) : Zq (UA m i)=(Zq m).filter fun j=>decide (i≠j):=by
 unfold Zq;rw[List.filter_filter];refine List.filter_congr fun j _=>?_
 rw[Zep h,Bool.and_comm]
theorem ZbA {n:Nat}(h:n<=64) : Zq (2^n-1)=List.range n:=by
 have e:List.range 64=List.range n++(List.range (64-n)).map (n + ·):=by
  rw[<-List.range_add]
  congr 1
  omega
 unfold Zq;rw[e,List.filter_append,List.filter_eq_self.2 (fun j hj=>by
  rw[Nat.testBit_two_pow_sub_one];simpa using hj),List.filter_eq_nil_iff.2 (fun j hj=>by
  obtain⟨a,_,rfl⟩:=List.mem_map.1 hj;rw[Nat.testBit_two_pow_sub_one];simp),List.append_nil]
def Qu : List Nat->Int
 | []=>-1
 | x::_=>(x:Int)
theorem Zfx (m i:Nat) : (m / 2^i)%2=if m.testBit i=true then 1 else 0:=by
 rw[Nat.testBit_eq_decide_div_mod_eq];have:m / 2^i%2<2:=Nat.mod_lt _ (by omega)
 by_cases h:m / 2^i%2=1
 ·simp[h]
 ·have h0:m / 2^i%2=0:=by omega
  simp[h0]
end
section
open Go.Deep
def Yf (m:Nat) : Value:=.agg #[.int .u64 m,.int .u64 0]
def Tab (w:World) : Prop:=TabAt 5 Lib.deBruijn64tab w
theorem Tab.ext {w w':World}(h:Tab w)(x:Ext w w') : Tab w':=fun j hj=>by
 have h1:=h j hj;have h2:(⟨5,j,none⟩:Addr).block<w.heap.size:=World.block_lt_of_cell? w _ h1;rw[x.cell h2];exact h1
theorem Zfy (x k idx:Nat)(w:World)(hx0:((x:Int)==0)=false)
  (key:IntKind.u64.wrap (bits BinOp.and IntKind.u64 (x:Int) (IntKind.u64.wrap (-(x:Int)))*285870213051353865) / 288230376151711744=(idx:Int))
  (hi:idx<64) (hk:k<64) (hcell:w.cell? ⟨5,idx,none⟩=some (.int .u8 k)) :
  Calls Tryz.prog 314 #[.int .u64 x] w fun e w'=>e=.returned (.int .i64 k)/\Ext w w':=by
 go_enter Tryz.func314,Tryz.ntmps314;go_wp2_with (simp only[key]);go_ret;exact⟨rfl,Ext.rf _⟩
theorem Zgq (x:Nat)(hx:x<18446744073709551616)(hx0:x≠0)(w:World)(hT:Tab w) :
  Calls Tryz.prog 314 #[.int .u64 x] w fun e w'=>e=.returned (.int .i64 (Lib.ctz 64 x))/\Ext w w':=by
 obtain⟨hlow,hk⟩:=Lib.lowest_bit 64 x hx0 hx;obtain⟨hi,htab⟩:=Lib.deBruijn64_at _ hk;have hcell:=hT _ hi;rw[htab] at hcell;exact Zfy x _ _ w (by simp;omega) (tz64_key x _ hx hx0 hlow) hi hk hcell
theorem XM (i:Int)(w:World) : Calls Tryz.prog 335 #[.int .i64 i] w fun e w'=>e=.returned (.bool (decide (0<=i)&&decide (i<128)))/\Ext w w':=by
 by_cases h0:0<=i
 ·have hb:decide (0<=i)=true:=decide_eq_true h0
  go_enter Tryz.func335,Tryz.ntmps335;go_wp2;go_ret;exact⟨by simp[hb],Ext.rf _⟩
 ·have hb:decide (0<=i)=false:=decide_eq_false h0
  go_enter Tryz.func335,Tryz.ntmps335;go_wp2;go_ret;exact⟨by simp[hb],Ext.rf _⟩
theorem ZcZ (a b:Nat)(ha:a<18446744073709551616)(hb:b<18446744073709551616)(w:World) : Calls Tryz.prog 396 #[Yf a,Yf b] w fun e w'=>e=.returned (Yf (Ym a b))/\Ext w w':=by
 have k:=Wx a b ha hb;have k0:bits .andNot .u64 0 0=0:=by decide +kernel
 clear ha hb;unfold Yf;go_enter Tryz.func396,Tryz.ntmps396;go_wp2;refine bodyPost_ret (v:=.agg #[.int .u64 (Ym a b),.int .u64 0]) (by simp[results,Tryz.results396,go_sem]) rfl ⟨rfl,?_⟩
 repeat (first | exact Ext.rf _ | apply Ext.alloc | (refine Ext.setNew ?_ (by simp<;>omega) _))
theorem Zat (m n:Nat)(hm:m<18446744073709551616) : (bits BinOp.and IntKind.u64 ((m:Int) / 2^n) 1==1)=m.testBit n:=by
 have e:((m:Int) / 2^n)=((m / 2^n:Nat):Int):=by rw[Int.natCast_ediv,Int.natCast_pow];rfl
 have hlt:m / 2^n<18446744073709551616:=Nat.lt_of_le_of_lt (Nat.div_le_self _ _) hm;have h:=bits_and_u64_nat (m / 2^n) 1 hlt (by omega);rw[e,show ((1:Int))=((1:Nat):Int) from rfl,h,Nat.and_one_is_mod,Zfx];split<;>rename_i hb
 ·rw[hb];rfl
 ·simp at hb;rw[hb];rfl
theorem Zfz (m:Nat)(i:Int)(hm:m<18446744073709551616)(w:World) : Calls Tryz.prog 386 #[Yf m,.int .i64 i] w fun e w'=>e=.returned (.bool (decide (0<=i/\i<64)&&m.testBit i.toNat))/\Ext w w':=by
 by_cases h0:0<=i/\i<64
 ·obtain⟨n,rfl⟩:∃ n:Nat,i=(n:Int):=⟨i.toNat,by omega⟩
  have hn:n<64:=by omega
  unfold Yf;have B1:Blk (w.alloc (.cells #[.int .u64 m,.int .u64 0] 374)) w.heap.size 374 #[.int .u64 m,.int .u64 0]:=.new rfl;go_enter Tryz.func386,Tryz.ntmps386;go_wp2_with (fail);refine(XM _ _).mono ?_;rintro e w1 ⟨rfl,x1⟩;have c0:w1.cell? ⟨w.heap.size,0,none⟩=some (.int .u64 m):=(B1.ext x1).cell 0;have X1:=Hd (Ext.tr (a:=w) XI x1);clear x1 B1;have e1:(decide (0<=(n:Int))&&decide ((n:Int)<128))=true:=by simp;omega
  rw[e1];have F:=Zat m n hm;have q1:(n:Int) / 64=0:=by omega
  have q2:(n:Int)%64=(n:Int):=by omega
  go_wp2_with (fail);go_ret;exact⟨Zco (by rw[decide_eq_true (p:=0<=(n:Int)/\(n:Int)<64) (by omega)];simp),X1.out⟩
 ·unfold Yf
  have eF:(decide (0<=i/\i<64)&&m.testBit i.toNat)=false:=by rw[decide_eq_false h0];rfl
  rw[eF];have B1:Blk (w.alloc (.cells #[.int .u64 m,.int .u64 0] 374)) w.heap.size 374 #[.int .u64 m,.int .u64 0]:=.new rfl
  by_cases h1:0<=i/\i<128
  ·obtain⟨n,rfl⟩:∃ n:Nat,i=(n:Int):=⟨i.toNat,by omega⟩
   have hn:64<=n:=by omega
   have hn2:n<128:=by omega
   go_enter Tryz.func386,Tryz.ntmps386;go_wp2_with (fail);refine(XM _ _).mono ?_;rintro e w1 ⟨rfl,x1⟩;have c1:w1.cell? ⟨w.heap.size,1,none⟩=some (.int .u64 0):=(B1.ext x1).cell 1;have X1:=Hd (Ext.tr (a:=w) XI x1);clear x1 B1;have e1:(decide (0<=(n:Int))&&decide ((n:Int)<128))=true:=by simp;omega
   rw[e1];have q1:(n:Int) / 64=1:=by omega
   have F:bits BinOp.and IntKind.u64 0 1=0:=by decide +kernel
   clear h0 h1 eF;go_wp2_with (fail);go_ret;exact⟨rfl,X1.out⟩
  ·have e1:(decide (0<=i)&&decide (i<128))=false:=by
    by_cases h2:0<=i
    ·rw[decide_eq_false (p:=i<128) (by omega)];simp
    ·rw[decide_eq_false h2];rfl
   clear h0 h1 eF;go_enter Tryz.func386,Tryz.ntmps386;go_wp2_with (fail);refine(XM _ _).mono ?_;rintro e w1 ⟨rfl,x1⟩;have X1:=Hd (Ext.tr (a:=w) XI x1);clear x1 B1;rw[e1];go_wp2_with (fail);go_ret;exact⟨rfl,X1.out⟩
theorem Zau (i:Nat)(hi:i<64) : IntKind.u64.wrap ((2:Int)^i)=((2^i:Nat):Int):=by
 have h1:2^i<2^64:=Nat.pow_lt_pow_right (by omega) hi;have e2:((2:Int)^i)=((2^i:Nat):Int):=by rw[Int.natCast_pow];rfl
 rw[IntKind.wrap_u64,e2];generalize 2^i=p at *;omega
theorem Jl (m:Nat)(hm:m<18446744073709551616)(w:World)(hT:Tab w) : Calls Tryz.prog 392 #[Yf m] w fun e w'=>e=.returned (.int .i64 (Qu (Zq m)))/\Ext w w':=by
 unfold Yf
 by_cases h0:m=0
 ·subst h0
  rw[Zbx];clear hT hm;have i0:∀ W,(Instr.index 374 (.agg #[.int .u64 0,.int .u64 0]) (.int .i64 0)).run Tryz.prog W=.ok (.int .u64 0) W:=fun _=>by kernel_rfl
  have i1:∀ W,(Instr.index 374 (.agg #[.int .u64 0,.int .u64 0]) (.int .i64 1)).run Tryz.prog W=.ok (.int .u64 0) W:=fun _=>by kernel_rfl
  go_enter Tryz.func392,Tryz.ntmps392;go_wp2_with (fail);go_loopw [6] (fun v wr=>(v=.int .i64 0\/v=.int .i64 1\/v=.int .i64 2)/\Ext w wr) (fun v _=>2-(intOf v).toNat)
  case atStart=>exact⟨.inl rfl,XI⟩
  case round =>
   obtain⟨h3,Y⟩:=hrel;rcases h3 with rfl | rfl | rfl
   ·go_wp2_with (fail)
    go_roundw
    case rel=>exact⟨.inr (.inl rfl),Y⟩
    case measure=>simp[intOf]
   ·go_wp2_with (fail)
    go_roundw
    case rel=>exact⟨.inr (.inr rfl),Y⟩
    case measure=>simp[intOf]
   ·go_wp2_with (fail)
    go_ret;exact⟨rfl,Y⟩
 ·have hh:=Zby h0 hm
  have eh:Qu (Zq m)=(Lib.ctz 64 m:Int):=by
   cases hl:Zq m with
   | nil=>rw[hl] at hh;cases hh
   | cons a l=>rw[hl] at hh;simp at hh;rw[<-hh];rfl
  rw[eh];have TZ:=Hd (fun(W:World) (x:Ext w W)=>Zgq m hm h0 W (hT.ext x));have hk:=(Lib.lowest_bit 64 m h0 hm).2;have hne:((m:Int) != 0)=true:=by simp;omega
  have i0:∀ W,(Instr.index 374 (.agg #[.int .u64 m,.int .u64 0]) (.int .i64 0)).run Tryz.prog W=.ok (.int .u64 m) W:=fun _=>by kernel_rfl
  have hwp:IntKind.i64.wrap (0+(Lib.ctz 64 m:Int))=(Lib.ctz 64 m:Int):=by rw[Int.zero_add];exact IntWalk.i64_in _ (by omega)
  generalize Lib.ctz 64 m=z at *;clear hh eh h0 hT;go_enter Tryz.func392,Tryz.ntmps392;go_wp2_with (fail);go_loopw [6] (fun v wr=>v=.int .i64 0/\Ext w wr) (fun _ _=>0)
  case atStart=>exact⟨rfl,XI⟩
  case round =>
   obtain⟨rfl,Y⟩:=hrel;go_wp2_with (fail);refine(TZ.out _ Y).mono ?_;rintro e w2 ⟨rfl,x2⟩;go_wp2_with (fail);go_ret;exact⟨rfl,Y.tr x2⟩
theorem ZgY (n:Nat)(h:n<64) : IntKind.u64.wrap (IntKind.u64.wrap (2^n)-1)=((2^n-1:Nat):Int):=by
 have h1:2^n<2^64:=Nat.pow_lt_pow_right (by omega) h;have h2:0<2^n:=Nat.pow_pos (by omega);have e:((2:Int)^n)=((2^n:Nat):Int):=by rw[Int.natCast_pow];rfl
 rw[IntKind.wrap_u64,IntKind.wrap_u64,e];omega
theorem Qv (n:Nat)(hn:n<64)(w:World) : Calls Tryz.prog 277 #[.int .i64 n] w fun e w'=>e=.returned (Yf (2^n-1))/\Ext w w':=by
 unfold Yf;have FW:=ZgY n hn;have F0:n=0->2^n-1=0:=fun h=>by subst h;rfl
 generalize 2^n-1=fm at *;replace F0:=Hd F0;have B2:Blk ((w.alloc (.cells #[.int .u64 0,.int .u64 0] 374)).alloc (.cells #[.int .u64 0,.int .u64 0] 374)) (w.heap.size+1) 374 #[.int .u64 0,.int .u64 0]:=.new (by simp);have B1:Blk ((w.alloc (.cells #[.int .u64 0,.int .u64 0] 374)).alloc (.cells #[.int .u64 0,.int .u64 0] 374)) w.heap.size 374 #[.int .u64 0,.int .u64 0]:=.alloc (.new rfl) _;have X0:Ext w ((w.alloc (.cells #[.int .u64 0,.int .u64 0] 374)).alloc (.cells #[.int .u64 0,.int .u64 0] 374)):=((Ext.rf w).alloc _).alloc _;go_enter Tryz.func277,Tryz.ntmps277;go_wp2_with (fail);go_loopw [6] (fun v wr=>∃ k:Nat,v=.int .i64 k/\k<=2/\Hid (Ext w wr)/\Hid (Blk wr w.heap.size 374 #[.int .u64 0,.int .u64 0])/\Hid (Blk wr (w.heap.size+1) 374 #[.int .u64 (if k=0 then 0 else(fm:Int)),.int .u64 0])) (fun v _=>2-(intOf v).toNat)
 case atStart=>exact⟨0,rfl,by omega,X0,B1,B2⟩
 case round =>
  obtain⟨k,rfl,hk,Y,C1,C2⟩:=hrel;have h3:k=0\/k=1\/k=2:=by omega
  rcases h3 with rfl | rfl | rfl
  ·have c0:wr.cell? ⟨w.heap.size+1,0,none⟩=some (.int .u64 0):=C2.out.cell 0
   have f0:=C2.out.free 0
   by_cases hn0:n=0
   ·obtain rfl:fm=0:=F0.out hn0
    subst hn0;go_wp2_with (fail);go_roundw
    case rel=>exact⟨1,rfl,by omega,Y,C1,C2⟩
    case measure=>simp[intOf]
   ·have hn1:0<n:=by omega
    have C3:=Hd (C2.out.set 0 (.int .u64 (fm:Int)));have C4:=Hd (C1.out.far (p:=⟨w.heap.size+1,0,none⟩) (by simp) (.int .u64 (fm:Int)));have Y4:=Hd (Y.out.setNew (p:=⟨w.heap.size+1,0,none⟩) (by simp) (.int .u64 (fm:Int)));go_wp2_with (fail);go_roundw
    case rel=>exact⟨1,rfl,by omega,Y4,C4,C3⟩
    case measure=>simp[intOf]
  ·go_wp2_with (fail)
   go_roundw
   case rel=>exact⟨2,rfl,by omega,Y,C1,C2⟩
   case measure=>simp[intOf]
  ·have c0:wr.cell? ⟨w.heap.size+1,0,none⟩=some (.int .u64 (fm:Int)):=C2.out.cell 0
   have c1:=C2.out.c1;have r0:=C1.out.c0;have r1:=C1.out.c1;have f0:=C1.out.free 0;have f1:=C1.out.free 1;go_wp2_with (fail);refine bodyPost_ret (v:=.agg #[.int .u64 (fm:Int),.int .u64 0]) (by simp[results,Tryz.results277,go_sem, *]) rfl ⟨rfl,?_⟩;exact(Y.out.setNew (p:=⟨w.heap.size,0,none⟩) (by simp) _).setNew (p:=⟨w.heap.size,1,none⟩) (by simp) _
end
section
open Go.Deep Go.Shelf
attribute [local go_sem] Oper.semAt_some
theorem Zeq (m x:Nat)(hm:m<18446744073709551616)(hx:x<63)(w:World)(hT:Tab w) :
  Calls Tryz.prog 393 #[Yf m,.int .i64 x] w fun e w'=>e=.returned (.int .i64 (Qu (Zq (Ym m (2^(x+1)-1)))))/\Ext w w':=by
 have FU:Hid (∀ W:World,Calls Tryz.prog 277 #[.int .i64 ((x:Int)+1)] W fun e w'=>e=.returned (Yf (2^(x+1)-1))/\Ext W w'):=fun W=>by
  have h:=Qv (x+1) (by omega) W;have e:((x+1:Nat):Int)=(x:Int)+1:=by omega
  rw[e] at h;exact h
 have hf:2^(x+1)-1<18446744073709551616:=by
  have:2^(x+1)<2^64:=Nat.pow_lt_pow_right (by omega) (by omega);omega
 have MI:=Hd (fun(W:World)=>ZcZ m (2^(x+1)-1) hm hf W);have FI:=Hd (fun(W:World) (y:Ext w W)=>Jl (Ym m (2^(x+1)-1)) (Vp _ _) W (hT.ext y));clear hT hf hm;generalize Qu (Zq (Ym m (2^(x+1)-1)))=r at *;generalize Ym m (2^(x+1)-1)=z at *;generalize 2^(x+1)-1=f at *;unfold Yf at *;have hq1:(if (x:Int) < -1 then(-1:Int) else(x:Int))=(x:Int):=if_neg (by omega);have hq3:max (x:Int) (-1)=(x:Int):=(by omega);have hq2:IntKind.i64.wrap ((x:Int)+1)=(x:Int)+1:=IntWalk.i64_in _ (by omega);have B1:Blk (w.alloc (.cells #[.int .u64 m,.int .u64 0] 374)) w.heap.size 374 #[.int .u64 m,.int .u64 0]:=.new rfl;have X0:Ext w (w.alloc (.cells #[.int .u64 m,.int .u64 0] 374)):=(Ext.rf w).alloc _;go_enter Tryz.func393,Tryz.ntmps393;go_upto_region 3 with(fail);generalize w.alloc (.cells #[.int .u64 m,.int .u64 0] 374)=w1 at *;refine wp_region_any (by kernel_rfl) ?_
 change wpAny _ _ _ _ _ _ _ (World.drew _)
 refine Za 1 (.move (.tmp 1)) 3 (some 8) rfl (by kernel_rfl) Hq (by intro _;go_simp;try rfl) ?_;simp only[lay];refine Za 2 (.call { callee:=.builtin .max,args:=#[.tmp 8,.const (.int .i64 (-1))],argTypes:=#[3,3] }) 3 (some 9) rfl (by kernel_rfl) Hq (by intro _;go_simp;try rfl) ?_;simp only[lay];refine Za 3 (.binOp .add 3 (.tmp 9) (.const (.int .i64 1)) 3) 3 (some 10) rfl (by kernel_rfl) Hq (by intro _;go_simp;try rfl) ?_;simp only[lay];refine Zh (n:=3) [(0,some 7),(4,some 11)] (Ext w1)
  (VF (fun | 0=>some (.agg #[.int .u64 m,.int .u64 0]) | 4=>some (.agg #[.int .u64 f,.int .u64 0]) | _=>none) (fun _ _ _=>True))
  Ext #[true,true,true,true,true,false,false,false] (by kernel_rfl) (VF.stab ?_) ?_ ?_ ((Ext.rf _).drew)
 ·intro j v W W' _ h _
  exact h
 ·intro pq hpm u W hRW hD K hK
  have c0:W.cell? ⟨w.heap.size,0,none⟩=some (.int .u64 m):=(B1.ext hRW).cell 0;have c1:W.cell? ⟨w.heap.size,1,none⟩=some (.int .u64 0):=(B1.ext hRW).cell 1;simp only[List.mem_cons,List.not_mem_nil,or_false] at hpm;rcases hpm with rfl | rfl
  ·exact Ze (T:=374) rfl (.pointer (some ⟨w.heap.size,0,none⟩)) (by kernel_rfl) (.agg #[.int .u64 m,.int .u64 0]) (by go_simp) (hK _ _ (VF.mk rfl) hRW (Ext.rf _))
  ·refine Zi rfl #[.int .i64 ((x:Int)+1)] (by go_simp) (by kernel_rfl) _ (FU.out W) ?_
   rintro e w3 ⟨rfl,x3⟩;exact⟨_,rfl,hK _ _ (VF.mk rfl) (hRW.tr x3) x3⟩
 ·intro u W hRW hV
  have h0:=(hV (0,some 7) (by simp)).k rfl;have h4:=(hV (4,some 11) (by simp)).k rfl;simp only[Zc,h0,h4];have XW:=X0.tr hRW
  try simp only[lay]
  refine Zd 5 (by decide +kernel) (Zi (f:=396) (xs:=#[Operand.tmp 7,Operand.tmp 11]) (ts:=#[374,374]) (t:=374) (d:=some 12) rfl #[.agg #[.int .u64 m,.int .u64 0],.agg #[.int .u64 f,.int .u64 0]] (by go_simp) (by kernel_rfl) _ (MI.out W) ?_);rintro e w3 ⟨rfl,x3⟩;refine⟨_,rfl,?_⟩
  try simp only[lay]
  refine Zd 6 (by decide +kernel) (Zi (f:=392) (xs:=#[Operand.tmp 12]) (ts:=#[374]) (t:=3) (d:=some 13) rfl #[.agg #[.int .u64 z,.int .u64 0]] (by go_simp) (by kernel_rfl) _ (FI.out w3 (XW.tr x3)) ?_);rintro e w4 ⟨rfl,x4⟩;refine⟨_,rfl,?_⟩
  try simp only[lay]
  refine Za 7 (.assign (.tmp 13)) 3 (some 4) rfl (by kernel_rfl) Hq (by intro _;go_simp;try rfl) ?_;simp only[lay];refine wpAny_done (by kernel_rfl) ?_ _;have X4:=Hd ((XW.tr x3).tr x4);clear XW x3 x4 hRW hV h0 h4;go_simp;go_wp2_with (fail);go_ret;exact⟨rfl,X4.out⟩
theorem Zcv (m:Nat)(w:World) : Calls Tryz.prog 389 #[Yf m] w fun e w'=>e=.returned (.func (.func 391) #[] #[.pointer (some ⟨w.heap.size,0,none⟩)])/\w'=w.alloc (.cells #[.int .u64 m,.int .u64 0] 374):=by
 unfold Yf;go_enter Tryz.func389,Tryz.ntmps389;go_wp2_with (fail);go_ret;exact⟨rfl,rfl⟩
abbrev In (m:Nat) : Type:={ x:Nat // x∈Zq m }
theorem In.lt {m:Nat}(x:In m) : x.1<64:=(Jk.1 x.2).1
def SetKp (n₀ Bn:Nat)(W W':World) : Prop:=Below n₀ W W'/\W'.heap[Bn]?=W.heap[Bn]?
theorem SetKp.tr {n₀ Bn:Nat}{A B C:World}(h:SetKp n₀ Bn A B)(k:SetKp n₀ Bn B C) : SetKp n₀ Bn A C:=⟨h.1.trans k.1,k.2.trans h.2⟩
theorem VI {W W':World}(x:Ext W W') : W.grownBy W' none:=⟨x.os,x.tape,x.output,x.size,fun k hk _=>x.block k hk⟩
theorem Qw (x:Nat)(l:List Nat) : Qu (x::l)=(x:Int):=rfl
theorem ZfA (n:Nat)(m:Nat)(hm:m<18446744073709551616)(l Bn n₀:Nat)(J Jx:List (In m)->World->Prop)(W:World)(hJ:AbidesFrom W.heap.size J)
  (hY:∀ pre x W1,J pre W1->pre.length<(Zq m).length->YieldAt Fence.wide (n-1) Tryz.prog l #[.int .i64 ((x:In m).1:Nat)] W1 fun e W' =>
   (e=.returned (.bool true)/\J (pre++[x]) W'/\SetKp n₀ Bn W1 W')\/(e=.returned (.bool false)/\Jx (pre++[x]) W'))
  (hB:Blk W Bn 374 #[.int .u64 m,.int .u64 0]) (hT:Tab W) (hT0:∀ j,j<Lib.deBruijn64tab.length->5<n₀) (hn₀:n₀<=W.heap.size) (h0:J [] W) (h63:∀ x∈Zq m,x<63) :
  CallsIn Fence.wide n Tryz.prog 391 #[.func (.yield l) #[] #[],.pointer (some ⟨Bn,0,none⟩)] W fun e W'=>(∃ v,e=.returned v) /\
   ((∃ ys,ys=(Zq m).attach/\J ys W')\/(∃ pre,pre <+: (Zq m).attach/\Jx pre W')):=by
 have key:∀ (W1:World),Below n₀ W W1->Tab W1:=fun W1 hb j hj=>by
  rw[hb.cell (p:=⟨5,j,none⟩) (hT0 j hj)];exact hT j hj
 refine callsIn_of_wp Tryz.func391 rfl trivial ?_ rfl;simp only[Tryz.ntmps391,List.size_toArray,List.length_cons,List.length_nil,Nat.reduceAdd,Nat.reduceSub,Array.replicate_succ,Array.replicate_zero,List.push_toArray,List.append_toArray,List.nil_append,List.cons_append];have c0:=hB.c0;have c1:=hB.c1;have FI:=Hd (Jl m hm W hT);unfold Yf at FI
 gi_wp2
 refine⟨trivial,fun h=>(by cases h),?_⟩;refine(callsIn_wide.2 FI.out).mono ?_;rintro e w1 ⟨rfl,x1⟩;have h1:J [] w1:=hJ [] W w1 none h0 (VI x1) (fun r h=>by cases h);have b1:=hB.ext x1;have k1:Below n₀ W w1:=x1.mono hn₀
 gi_wp2
 gi_loopw [3] (fun p wr=>∃ (pre rest:List (In m)),p=.int .i64 (Qu (rest.map (·.1)))/\Hid ((Zq m).attach=pre++rest)/\Hid (J pre wr)/\Hid (Blk wr Bn 374 #[.int .u64 m,.int .u64 0])/\Hid (Below n₀ W wr)/\Hid (W.heap.size<=wr.heap.size)) (fun p _=>((65-intOf p)%66).toNat)
 case atStart=>exact⟨[],(Zq m).attach,by rw[List.attach_map_subtype_val],rfl,h1,b1,k1,x1.size⟩
 case round =>
  obtain⟨pre,rest,rfl,hx,hJ1,hB1,hk,hz⟩:=hrel;have hval:Zq m=(pre++rest).map (·.1):=by rw[<-hx.out,List.attach_map_subtype_val]
  cases rest with
  | nil =>
   gi_wp2
   go_end0;exact⟨⟨_,rfl⟩,.inl ⟨pre,by rw[hx.out,List.append_nil],hJ1.out⟩⟩
  | cons x rest =>
   have hlen:pre.length<(Zq m).length:=by rw[hval];simp
   obtain⟨fn,tmps,assign,body,hy,hR⟩:=hY pre x wr hJ1.out hlen;have hx64:=h63 x.1 x.2;have hnx:Zq m=pre.map (·.1)++x.1::rest.map (·.1):=hval.trans (by simp);have NX:=fun(V:World) (hT':Tab V)=>Zeq m x.1 hm hx64 V hT'
   rw[Zbz hm hnx] at NX;have hpre:pre++[x] <+: (Zq m).attach:=⟨rest,by rw[hx.out];simp⟩;have hx2:Hid ((Zq m).attach=(pre++[x])++rest):=Hd (by rw[hx.out];simp);have hsort:=VH m;rw[hnx] at hsort;have hlt:∀ y∈rest.map (·.1),x.1<y:=(List.pairwise_cons.1 (List.pairwise_append.1 hsort).2.1).1;obtain⟨nx,hnxt⟩:∃ nx,Hid (Qu (rest.map (·.1))=nx):=⟨_,rfl⟩;have hms:nx=-1\/((x.1:Int)<nx/\nx<=63):=by
    rw[<-hnxt.out]
    cases rest with
    | nil=>left;rfl
    | cons y l=>right;have h1:=hlt y.1 (by simp);have h2:=y.lt;simp only[List.map_cons,Qw];omega
   rw[hnxt.out] at NX;replace NX:=Hd NX;unfold Yf at NX;simp only[List.map_cons,Qw];replace hpre:=Hd hpre;clear hval hnx hsort hlt hlen;have B1':=hB1.out
   gi_wp2
   refine⟨fun h=>(by cases h),?_⟩;refine hR.mono ?_;rintro e W3 (⟨rfl,hJ3,hk3⟩ | ⟨rfl,hJx3⟩)
   ·have b3:Blk W3 Bn 374 #[.int .u64 m,.int .u64 0]:=hk3.2.trans B1'
    have kb3:=hk.out.trans hk3.1;have c0':=b3.c0;have c1':=b3.c1;have NX3:=Hd (NX.out W3 (key W3 kb3))
    gi_wp2
    refine⟨trivial,fun h=>(by cases h),?_⟩;refine(callsIn_wide.2 NX3.out).mono ?_;rintro e w4 ⟨rfl,x4⟩;have z3:=hk3.1.size;have hJ4:=hJ (pre++[x]) W3 w4 none hJ3 (VI x4) (fun r h=>by cases h)
    gi_wp2
    go_roundw
    case rel=>exact⟨pre++[x],rest,by rw[hnxt.out],hx2,hJ4,b3.ext x4,kb3.trans (x4.mono (by have:=hz.out;omega)),by have:=hz.out;have:=x4.size;exact(by omega:W.heap.size<=w4.heap.size)⟩
    case measure =>
     simp only[intOf];have q1:=hms;have q2:=hx64;omega
   ·gi_wp2
    refine bodyPost_ret (results_none rfl _ _ _) rfl ?_;exact⟨⟨_,rfl⟩,.inr ⟨pre++[x],hpre.out,hJx3⟩⟩
theorem Zcw {w:World}(h:Tab w) : 5<w.heap.size:=World.block_lt_of_cell? w _ (h 0 (by decide))
theorem Jm (n:Nat)(m:Nat)(hm:m<18446744073709551616)(h63:∀ x∈Zq m,x<63)(Bn n₀:Nat)(w:World)(hB:Blk w Bn 374 #[.int .u64 m,.int .u64 0])(hT:Tab w)(hn₀:n₀<=w.heap.size)(hg:5<n₀) :
  SeqStopsK Fence.wide n Tryz.prog 391 #[.pointer (some ⟨Bn,0,none⟩)] (fun x:In m=>#[Value.int .i64 ((x.1:Nat):Int)]) (SetKp n₀ Bn) (fun ys=>ys=(Zq m).attach) (fun pre=>pre <+: (Zq m).attach) (Zq m).length w:=fun l J Jx W hW hJ _ hY h0 =>
 ZfA n m hm l Bn n₀ J Jx W hJ hY (hB.ext hW) (hT.ext hW) (fun _ _=>hg) (Nat.le_trans hn₀ hW.size) h0 h63
theorem Zcx {n₀ Bn:Nat}{w:World}{cs:Array Value}(hn:n₀<=w.heap.size)(hB:Blk w Bn 374 cs)(W:World)(l:Nat)(o o':Obj)(hl:w.heap.size<=l)(h:W.heap[l]?=some o)(h1:o.isCells=false)(h2:o.isWalk=false) : SetKp n₀ Bn W (W.putObj l o') :=
 ⟨belowK_b hn W l o o' hl h h1 h2,World.putObj_heap_other (by have:=hB.lt;omega)⟩
end
section
open Go.Deep Go.Shelf
attribute [local go_sem] Oper.semAt_some
def inL {m:Nat}(pre:List (In m)) : List Nat:=pre.map (·.1)
theorem Zav {m:Nat}(pre:List (In m))(x:In m) : inL (pre++[x])=inL pre++[x.1]:=by simp[inL]
theorem Qx (m:Nat) : inL (Zq m).attach=Zq m:=List.attach_map_subtype_val _
end
section
open Go
theorem Wo (a b:Nat)(ha:a<9223372036854775808)(hb:b<9223372036854775808) : bits .and .i64 (a:Int) (b:Int)=((a &&& b:Nat):Int):=by
 have h1:BitVec.ofInt 64 (a:Int)=BitVec.ofNat 64 a:=BitVec.ofInt_natCast ..;have h2:BitVec.ofInt 64 (b:Int)=BitVec.ofNat 64 b:=BitVec.ofInt_natCast ..;show IntKind.i64.wrap ((BitVec.ofInt 64 (a:Int) &&& BitVec.ofInt 64 (b:Int)).toNat:Int)=_;rw[h1,h2,BitVec.toNat_and,BitVec.toNat_ofNat,BitVec.toNat_ofNat,Nat.mod_eq_of_lt (by omega),Nat.mod_eq_of_lt (by omega)];have:=Nat.and_le_left (n:=a) (m:=b);exact IntWalk.i64_in _ (by omega)
end
section
def pk (v p:Int) : Int:=v*4294967296+(p+1)
def plc (p:Int) : Int:=if p<0\/2147483646<p then -1 else p
theorem Zcy (p:Int) : -1<=plc p/\plc p<=2147483646:=by unfold plc;split<;>omega
theorem Qy {x:Int}(h0:0<=x)(h1:x<9223372036854775808) : bits .and .i64 x 1073741823=x%1073741824:=by
 obtain⟨n,rfl⟩:=Int.eq_ofNat_of_zero_le h0;have:=Wo n 1073741823 (by omega) (by omega);rw[show ((1073741823:Nat):Int)=1073741823 from rfl] at this;rw[this,show (1073741823:Nat)=2^30-1 from rfl,Nat.and_two_pow_sub_one_eq_mod];omega
theorem ZbB {x:Int}(h0:0<=x)(h1:x<9223372036854775808) : bits .and .i64 x 4294967295=x%4294967296:=by
 obtain⟨n,rfl⟩:=Int.eq_ofNat_of_zero_le h0;have:=Wo n 4294967295 (by omega) (by omega);rw[show ((4294967295:Nat):Int)=4294967295 from rfl] at this;rw[this,show (4294967295:Nat)=2^32-1 from rfl,Nat.and_two_pow_sub_one_eq_mod];omega
theorem Qz (v p:Int)(w:World)(hv:0<=v/\v<1073741824)(hp:-1<=p/\p<=4294967294) :
  Calls Tryz.prog 323 #[.int .i64 (pk v p)] w fun e w'=>e=.returned (.tuple #[.int .i64 v,.int .i64 p])/\w=w':=by
 have b0:0<=pk v p/\pk v p<9223372036854775808:=by unfold pk;omega
 have e1:pk v p / 4294967296=v:=by unfold pk;omega
 have e2:bits .and .i64 v 1073741823=v:=by rw[Qy hv.1 (by omega)];omega
 have e3:bits .and .i64 (pk v p) 4294967295=p+1:=by rw[ZbB b0.1 b0.2];unfold pk;omega
 have e4:IntKind.i64.wrap (p+1-1)=p:=by rw[show p+1-1=p by omega];exact IntWalk.i64_in _ (by omega)
 have e5:p+1-1=p:=by omega
 have e6:IntKind.i64.wrap p=p:=IntWalk.i64_in _ (by omega);generalize pk v p=x at *;go_enter Tryz.func323,Tryz.ntmps323;go_wp2_with (fail);go_ret2;exact⟨rfl,rfl⟩
theorem QA (v p:Int)(w:World)(hv:0<=v/\v<=1073741824) :
  Calls Tryz.prog 153 #[.int .i64 v,.int .i64 p] w fun e w'=>e=.returned (.int .i64 (pk (v%1073741824) (plc p)))/\w=w':=by
 have e1:bits .and .i64 v 1073741823=v%1073741824:=Qy hv.1 (by omega);have r:=Zcy p;have m0:0<=v%1073741824/\v%1073741824<1073741824:=by omega
 generalize v%1073741824=m at *
 by_cases h1:p<0
 ·have hq:plc p=-1:=by unfold plc;rw[if_pos (.inl h1)]
  rw[hq];clear r hq;go_enter Tryz.func153,Tryz.ntmps153;go_wp2_with (fail);go_ret;refine⟨?_,rfl⟩;show Ending.returned (Value.int .i64 _)=_;refine congrArg (fun k=>Ending.returned (Value.int .i64 k)) ?_;unfold pk;omega
 ·by_cases h2:2147483646<p
  ·have hq:plc p=-1:=by unfold plc;rw[if_pos (.inr h2)]
   rw[hq];clear r hq;go_enter Tryz.func153,Tryz.ntmps153;go_wp2_with (fail);go_ret;refine⟨?_,rfl⟩;show Ending.returned (Value.int .i64 _)=_;refine congrArg (fun k=>Ending.returned (Value.int .i64 k)) ?_;unfold pk;omega
  ·have hq:plc p=p:=by unfold plc;rw[if_neg (by omega)]
   rw[hq];clear r hq;have w1:IntKind.i64.wrap (m*4294967296+p)=m*4294967296+p:=IntWalk.i64_in _ (by omega);have w2:IntKind.i64.wrap (m*4294967296+p+1)=m*4294967296+p+1:=IntWalk.i64_in _ (by omega);go_enter Tryz.func153,Tryz.ntmps153;go_wp2_with (fail);go_ret;refine⟨?_,rfl⟩;show Ending.returned (Value.int .i64 _)=_;refine congrArg (fun k=>Ending.returned (Value.int .i64 k)) ?_;unfold pk;omega
theorem Zgr (v p q:Int)(w:World)(hv:0<=v/\v<1073741824)(hp:-1<=p/\p<=4294967294) :
  Calls Tryz.prog 328 #[.int .i64 (pk v p),.int .i64 q] w fun e w'=>e=.returned (.int .i64 (pk ((v+1)%1073741824) (plc q)))/\w=w':=by
 have UN:=Hd (Qz v p w hv hp);have PA:=Hd (QA (v+1) q w (by omega));generalize pk v p=x at *;generalize pk ((v+1)%1073741824) (plc q)=y at *;go_enter Tryz.func328,Tryz.ntmps328;go_wp2_with (fail);refine UN.out.mono ?_;rintro e w1 ⟨rfl,rfl⟩;go_wp2_with (fail);refine PA.out.mono ?_;rintro e w2 ⟨rfl,rfl⟩;go_wp2_with (fail);go_ret;exact⟨rfl,rfl⟩
def ver (x:Int) : Int:=x / 4294967296
def pla (x:Int) : Int:=x%4294967296-1
def Zt (x:Int) : Prop:=0<=x/\x<4611686018427387904
theorem Zgf {x:Int}(h:Zt x) : pk (ver x) (pla x)=x/\(0<=ver x/\ver x<1073741824)/\(-1<=pla x/\pla x<=4294967294):=by
 obtain⟨h0,h1⟩:=h;unfold pk ver pla;omega
def upP (x q:Int) : Int:=pk ((ver x+1)%1073741824) (plc q)
theorem QB (x q:Int) : Zt (upP x q):=by
 have:=Zcy q;unfold upP pk Zt;omega
theorem Zz (x:Int)(w:World)(h:Zt x) :
  Calls Tryz.prog 323 #[.int .i64 x] w fun e w'=>e=.returned (.tuple #[.int .i64 (ver x),.int .i64 (pla x)])/\Ext w w':=by
 obtain⟨h1,h2,h3⟩:=Zgf h;have:=Qz (ver x) (pla x) w h2 h3;rw[h1] at this;exact this.mono fun e w' ⟨q1,q2⟩=>⟨q1,q2 ▸ Ext.rf w⟩
theorem Zcz (x q:Int)(w:World)(h:Zt x) :
  Calls Tryz.prog 328 #[.int .i64 x,.int .i64 q] w fun e w'=>e=.returned (.int .i64 (upP x q))/\Ext w w':=by
 obtain⟨h1,h2,h3⟩:=Zgf h;have:=Zgr (ver x) (pla x) q w h2 h3;rw[h1] at this;exact this.mono fun e w' ⟨q1,q2⟩=>⟨q1,q2 ▸ Ext.rf w⟩
theorem OwI.full {w:World}{base g:Nat}{xs:List Int}(h:OwI w base (some ⟨g,0,none⟩) xs.length xs) : Blk w g 3 (List.toArray (Xq xs))/\base<=g:=by
 rcases h.cases with⟨h1,_⟩ | ⟨g',cur,h1,h2,h3,h4,h5,h6,h7⟩
 ·cases h1
 ·obtain rfl:g=g':=by simpa using h1
  refine⟨?_,h2⟩;have hc:cur=List.toArray (Xq xs):=by
   apply Array.ext';rw[Nat.mul_one,List.take_of_length_le (by rw[Array.length_toList,h6];omega)] at h7;rw[h7]
   rfl
  rw[<-hc];exact h3
theorem Zer (n:Nat)(w:World)(hn:n<=1048576) :
  Calls Tryz.prog 88 #[.int .i64 (n:Int)] w fun e w'=>∃ gm,e=.returned (.tuple #[.pointer (some ⟨gm,0,none⟩),.int .i64 0])/\∃ gc,MemB w' gm gc (List.replicate n 0)/\w.heap.size<=gm/\w.heap.size<=gc/\Ext w w':=by
 have e1:¬((n:Int)<0):=by omega
 have e2:¬((n:Int)>1048576):=by omega
 go_enter Tryz.func88,Tryz.ntmps88;go_wp2_with (refine UQ _ rfl _ _ rfl w.heap.size (n:Int) (n:Int) n rfl rfl rfl rfl (by omega) (Nat.le_refl _) ?_;rintro w1 o1 g1);obtain⟨b1,z1⟩:=OwI.full (xs:=List.replicate n 0) (by rw[List.length_replicate];exact o1);have z2:w.heap.size<=w1.heap.size:=g1.size;exact bodyPost_ret (v:=.tuple #[.pointer (some ⟨w1.heap.size,0,none⟩),.int .i64 0]) (by simp[results,Tryz.results88,go_sem]) rfl ⟨w1.heap.size,rfl,w.heap.size,⟨⟨0,0,0,0,0,false,by rw[List.length_replicate];exact .new rfl⟩,b1.ext ((Ext.rf w1).alloc _)⟩,z2,z1,(Ext.grownNone (Ext.rf w) g1).alloc _⟩
structure OwL where
 A:Option Addr
 c:Nat
 xs:List Int
def OwL.v (o:OwL) : Value:=.slice o.A o.xs.length o.c
structure PoolS where
 base:Nat
 n:Nat
 nv:List Value
 ows:List OwL
structure PoolR (w:World)(bs gm gc gp gn go:Nat)(P:PoolS) : Prop where
 p:Blk w gp 271 #[.pointer (some ⟨gm,0,none⟩),.int .i64 (P.base:Int),.slice (some ⟨gn,0,none⟩) P.n P.n,.slice (some ⟨go,0,none⟩) P.ows.length P.ows.length]
 nd:Blk w gn 204 (List.toArray P.nv)
 ln:P.nv.length=P.n*2
 ow:Blk w go 22 (List.toArray (P.ows.map OwL.v))
 oi:∀ (k:Nat) (o:OwL),P.ows[k]?=some o->OwI w bs o.A o.c o.xs/\bl o.A≠some gc
 dj:∀ (i j:Nat) (o q:OwL),P.ows[i]?=some o->P.ows[j]?=some q->i≠j->∀ b,bl o.A=some b->bl q.A≠some b
section
variable {w w':World} {bs gm gc gp gn go:Nat} {P:PoolS}
theorem PoolR.ext (h:PoolR w bs gm gc gp gn go P)(x:Ext w w') : PoolR w' bs gm gc gp gn go P :=
 ⟨h.p.ext x,h.nd.ext x,h.ln,h.ow.ext x,fun k o ho=>⟨(h.oi k o ho).1.ext x,(h.oi k o ho).2⟩,h.dj⟩
theorem PoolR.mod {S:Nat->Prop}(h:PoolR w bs gm gc gp gn go P)(hm:Mod S w w')(h1:¬S gp)(h2:¬S gn)(h3:¬S go)(h4:∀ (k:Nat) (o:OwL),P.ows[k]?=some o->∀ b,bl o.A=some b->¬S b) : PoolR w' bs gm gc gp gn go P :=
 ⟨h.p.mod hm h1,h.nd.mod hm h2,h.ln,h.ow.mod hm h3,fun k o ho=>⟨(h.oi k o ho).1.keep fun b hb=>hm.block b ((h.oi k o ho).1.lt b hb).2 (h4 k o ho b hb),(h.oi k o ho).2⟩,h.dj⟩
theorem PoolR.own (h:PoolR w bs gm gc gp gn go P)(hgc:gc<w.heap.size){k:Nat}{o:OwL}(hk:P.ows[k]?=some o){w1:World}(hm:Mod (fun b=>bl o.A=some b) w w1){A':Option Addr}{c':Nat}{xs':List Int}(hi:OwI w1 bs A' c' xs')(hA:bl A'=bl o.A\/bl A'=none\/∃ g,bl A'=some g/\w.heap.size<=g) :
  PoolR (w1.setCell ⟨go,k,none⟩ (.slice A' xs'.length c')) bs gm gc gp gn go { P with ows:=P.ows.set k ⟨A',c',xs'⟩ }/\Mod (fun b=>bl o.A=some b\/b=go) w (w1.setCell ⟨go,k,none⟩ (.slice A' xs'.length c')):=by
 have ho:=h.oi k o hk;have hlt:k<P.ows.length:=(List.getElem?_eq_some_iff.1 hk).1;have np:¬bl o.A=some gp:=fun e=>ho.1.ne h.p (by decide) gp e rfl
 have nn:¬bl o.A=some gn:=fun e=>ho.1.ne h.nd (by decide) gn e rfl
 have no:¬bl o.A=some go:=fun e=>ho.1.ne h.ow (by decide) go e rfl
 have p1:=h.p.mod hm np;have d1:=h.nd.mod hm nn;have w1':=h.ow.mod hm no;have e1:gp≠go:=p1.ne w1' (by decide);have e2:gn≠go:=d1.ne w1' (by decide);have hget:∀ (j:Nat) (q:OwL),(P.ows.set k ⟨A',c',xs'⟩)[j]?=some q->(j=k/\q=⟨A',c',xs'⟩)\/(j≠k/\P.ows[j]?=some q):=fun j q hq=>by
  by_cases hkj:k=j
  ·subst hkj
   rw[List.getElem?_set_self hlt] at hq;exact .inl ⟨rfl,(Option.some.inj hq).symm⟩
  ·rw[List.getElem?_set_ne hkj] at hq
   exact .inr ⟨fun e=>hkj e.symm,hq⟩
 refine⟨⟨?_,d1.far (p:=⟨go,k,none⟩) e2 _,h.ln,?_,fun j q hq=>?_,fun i j q r hq hr hij b hb hb2=>?_⟩,?_⟩
 ·simp only[List.length_set]
  exact p1.far (p:=⟨go,k,none⟩) e1 _
 ·have:=w1'.set k (.slice A' xs'.length c')
  rw[show (List.toArray (P.ows.map OwL.v)).setIfInBounds k (.slice A' xs'.length c')=List.toArray ((P.ows.set k ⟨A',c',xs'⟩).map OwL.v) by simp[List.map_set,OwL.v]] at this;exact this
 ·rcases hget j q hq with⟨rfl,rfl⟩ | ⟨hj,hq'⟩
  ·refine⟨hi.far w1' (by decide) _ _,?_⟩
   rcases hA with e | e | ⟨g,e,hg⟩
   ·simp only[e];exact ho.2
   ·simp only[e];exact fun e=>by cases e
   ·simp only[e];intro e3;injection e3 with e3;omega
  ·have hq2:=h.oi j q hq'
   exact⟨(hq2.1.mod hm fun b hb hb2=>h.dj j k q o hq' hk hj b hb hb2).far w1' (by decide) _ _,hq2.2⟩
 ·have old:∀ (j:Nat) (q:OwL),P.ows[j]?=some q->∀ b,bl q.A=some b->b<w.heap.size:=fun j q hq b hb=>((h.oi j q hq).1.lt b hb).2
  rcases hget i q hq with⟨rfl,rfl⟩ | ⟨hi',hq'⟩
  ·rcases hget j r hr with⟨rfl,rfl⟩ | ⟨hj',hr'⟩
   ·exact hij rfl
   ·simp only at hb
    rcases hA with e | e | ⟨g,e,hg⟩
    ·rw[e] at hb;exact h.dj i j o r hk hr' hij b hb hb2
    ·rw[e] at hb;cases hb
    ·rw[e] at hb;injection hb with hb;have:=old j r hr' b hb2;omega
  ·rcases hget j r hr with⟨rfl,rfl⟩ | ⟨hj',hr'⟩
   ·simp only at hb2
    rcases hA with e | e | ⟨g,e,hg⟩
    ·rw[e] at hb2;exact h.dj i j q o hq' hk hij b hb hb2
    ·rw[e] at hb2;cases hb2
    ·rw[e] at hb2;injection hb2 with hb2;have:=old i q hq' b hb;omega
   ·exact h.dj i j q r hq' hr' hij b hb hb2
 ·exact Mod.set (p:=⟨go,k,none⟩) (hm.mono fun b _ hb=>.inl hb) (.inl (.inr rfl)) _
end
structure PAct where
 wk:Nat
 give:Bool
 slot:Int
 ph:Int
 top:Int
 nx:Int
def PAct.cells (a:PAct)(gp:Nat) : Array Value:=#[.pointer (some ⟨gp,0,none⟩),.int .i64 (a.wk:Int),.bool a.give,.int .i64 a.slot,.int .i64 a.ph,.int .i64 a.top,.int .i64 a.nx]
def Xe (w:World)(ga gp:Nat)(a:PAct) : Prop:=Blk w ga 284 (a.cells gp)
theorem UH {l:List OwL}{k:Nat}{o:OwL}(h:l[k]?=some o) : (List.toArray (l.map OwL.v))[k]?=some (.slice o.A o.xs.length o.c):=by simp[h,OwL.v]
theorem ZbC (bs gm gc gp gn go ga:Nat)(P:PoolS)(a:PAct)(o:OwL)(w:World)(H:PoolR w bs gm gc gp gn go P)(HA:Xe w ga gp a)(ho:P.ows[a.wk]?=some o)(hno:(a.give=true/\2<=o.xs.length)\/(a.give=false/\o.xs=[]))(hW:P.ows.length<=100)(hl:o.xs.length<=1000) :
  Calls Tryz.prog 330 #[.pointer (some ⟨ga,0,none⟩)] w fun e w'=>e=.returned (.bool false)/\Ext w w':=by
 obtain⟨wk,give,slot,ph,top,nx⟩:=a;simp only at ho hno;unfold Xe at HA;have a0:w.cell? ⟨ga,0,none⟩=some (.pointer (some ⟨gp,0,none⟩)):=(HA.cell 0);have a1:w.cell? ⟨ga,1,none⟩=some (.int .i64 (wk:Int)):=(HA.cell 1);have a2:w.cell? ⟨ga,2,none⟩=some (.bool give):=(HA.cell 2);have p3:w.cell? ⟨gp,3,none⟩=some (.slice (some ⟨go,0,none⟩) P.ows.length P.ows.length):=(H.p.cell 3);have hlt:wk<P.ows.length:=(List.getElem?_eq_some_iff.1 ho).1;have o0:w.cell? ⟨go,wk,none⟩=some (.slice o.A o.xs.length o.c):=(H.ow.cell wk).trans (UH ho);have i0:(0:Int)<=(wk:Int):=by omega
 have i1:(wk:Int)<(P.ows.length:Int):=by omega
 have za:=HA.lt;have zo:=H.ow.lt;obtain⟨A,c,xs⟩:=o;simp only at o0 hno hl;clear HA H ho;rcases hno with⟨rfl,h2⟩ | ⟨rfl,rfl⟩
 ·have e1:¬((xs.length:Int)<2):=by omega
  go_enter Tryz.func330,Tryz.ntmps330;go_wp2_with (go_quiet (fail));go_ret;exact⟨rfl,XI⟩
 ·go_enter Tryz.func330,Tryz.ntmps330
  go_wp2_with (go_quiet (fail));go_ret;exact⟨rfl,XI⟩
def PS (ga go:Nat)(o:OwL)(b:Nat) : Prop:=b=ga\/bl o.A=some b\/b=go
theorem JI (bs gm gc gp gn go ga:Nat)(P:PoolS)(a:PAct)(o:OwL)(w:World)(H:PoolR w bs gm gc gp gn go P)(hgc:gc<w.heap.size)(hbs:bs<=w.heap.size)(HA:Xe w ga gp a)(ho:P.ows[a.wk]?=some o)(hg:a.give=true)(hx:o.xs.length<2)(hW:P.ows.length<=100) :
  Calls Tryz.prog 330 #[.pointer (some ⟨ga,0,none⟩)] w fun e w'=>e=.returned (.bool true)/\(∃ A' c',PoolR w' bs gm gc gp gn go { P with ows:=P.ows.set a.wk ⟨A',c',o.xs++[a.slot]⟩ }/\(bl A'=bl o.A\/∃ g,bl A'=some g/\w.heap.size<=g))/\Xe w' ga gp a/\Mod (PS ga go o) w w':=by
 obtain⟨wk,give,slot,ph,top,nx⟩:=a;obtain⟨A,c,xs⟩:=o;simp only at ho hx hg ⊢;subst hg;unfold Xe at HA ⊢;have a0:w.cell? ⟨ga,0,none⟩=some (.pointer (some ⟨gp,0,none⟩)):=(HA.cell 0);have a1:w.cell? ⟨ga,1,none⟩=some (.int .i64 (wk:Int)):=(HA.cell 1);have a2:w.cell? ⟨ga,2,none⟩=some (.bool true):=(HA.cell 2);have a3:w.cell? ⟨ga,3,none⟩=some (.int .i64 slot):=(HA.cell 3);have p3:w.cell? ⟨gp,3,none⟩=some (.slice (some ⟨go,0,none⟩) P.ows.length P.ows.length):=(H.p.cell 3);have hlt:wk<P.ows.length:=(List.getElem?_eq_some_iff.1 ho).1;have o0:w.cell? ⟨go,wk,none⟩=some (.slice A xs.length c):=(H.ow.cell wk).trans (UH ho);have i0:(0:Int)<=(wk:Int):=by omega
 have i1:(wk:Int)<(P.ows.length:Int):=by omega
 have e1:(xs.length:Int)<2:=by omega
 have za:=HA.lt;have zo:=H.ow.lt;have ngo:go≠ga:=H.ow.ne HA (by decide);have ngo2:ga≠go:=fun h=>ngo h.symm
 have oi:=Hd (H.oi wk _ ho).1;have FIN:Hid (∀ (W w4:World) (A':Option Addr) (c':Nat),Ext w W->OwI w4 bs A' c' (xs++[slot])->W.grownBy w4 (bl A)->(bl A'=bl A\/∃ g,bl A'=some g/\W.heap.size<=g) ->
   w4.cell? ⟨go,wk,none⟩=some (.slice A xs.length c)/\w4.frozen? ⟨go,wk,none⟩=false /\
   Hid (PoolR (w4.setCell ⟨go,wk,none⟩ (.slice A' (xs.length+1) c')) bs gm gc gp gn go { P with ows:=P.ows.set wk ⟨A',c',xs++[slot]⟩ }/\(bl A'=bl A\/∃ g,bl A'=some g/\w.heap.size<=g) /\
   Blk (w4.setCell ⟨go,wk,none⟩ (.slice A' (xs.length+1) c')) ga 284 (PAct.cells ⟨wk,true,slot,ph,top,nx⟩ gp)/\Mod (PS ga go ⟨A,c,xs⟩) w (w4.setCell ⟨go,wk,none⟩ (.slice A' (xs.length+1) c')))):=Hd fun W w4 A' c' X h1 h2 h3=>by
  have HW:=H.ext X;have hm:Mod (fun b=>bl A=some b) W w4:=Mod.grown h2 fun g hg=>hg
  have no:¬bl A=some go:=fun e=>(HW.oi wk _ ho).1.ne HW.ow (by decide) go e rfl
  have na:¬bl A=some ga:=fun e=>(HW.oi wk _ ho).1.ne (HA.ext X) (by decide) ga e rfl
  have W4:=HW.ow.mod hm no;obtain⟨q1,q2⟩:=HW.own (by have:=X.size;omega) ho hm h1 (h3.imp id .inr);have hlen:(xs++[slot]).length=xs.length+1:=by simp
  rw[hlen] at q1 q2;refine⟨(W4.cell wk).trans (UH ho),W4.free wk,Hd ⟨q1,?_,?_,?_⟩⟩
  ·rcases h3 with h | ⟨g,h,hg⟩
   ·exact .inl h
   ·exact .inr ⟨g,h,by have:=X.size;omega⟩
  ·exact((HA.ext X).mod hm na).far (p:=⟨go,wk,none⟩) ngo2 _
  ·exact(Mod.of_ext X).tr (q2.mono fun b _ hb=>by
    rcases hb with h | h
    ·exact .inr (.inl h)
    ·exact .inr (.inr h))
 clear HA H ho;go_enter Tryz.func330,Tryz.ntmps330;go_upto_region 4 with(go_quiet (fail));have zo1:go<(w.drewN nq).heap.size:=zo;have za1:ga<(w.drewN nq).heap.size:=za;have X0:Ext w (w.drewN nq):=(Ext.rf w).drewN nq;have o1:=Zb X0 zo o0;have b3:=Zb X0 za a3;generalize hw1:w.drewN nq=w1 at *;refine wp_region_any (by kernel_rfl) ?_
 change wpAny _ _ _ _ _ _ _ (World.drew _)
 refine Za 0 (.move (.tmp 3)) 407 (some 29) rfl (by kernel_rfl) Hq (by intro _;go_simp;try rfl) ?_;simp only[lay];refine Za 1 (.move (.tmp 3)) 407 (some 30) rfl (by kernel_rfl) Hq (by intro _;go_simp;try rfl) ?_;simp only[lay];refine Za 2 (.nilCheck (.tmp 30)) 0 (some 31) rfl (by kernel_rfl) Hq (by intro _;go_simp;try rfl) ?_;simp only[lay];refine Za 4 (.move (.tmp 0)) 198 (some 33) rfl (by kernel_rfl) Hq (by intro _;go_simp;try rfl) ?_;simp only[lay];refine Za 5 (.nilCheck (.tmp 33)) 0 (some 34) rfl (by kernel_rfl) Hq (by intro _;go_simp;try rfl) ?_;simp only[lay];refine Za 6 (.fieldAddr 284 (.tmp 34) 3) 0 (some 35) rfl (by kernel_rfl) Hq (by intro _;go_simp;try rfl) ?_;simp only[lay];refine Zh (n:=3) [(3,some 32),(7,some 36),(8,some 37)] (Ext w1) (VF (fun | 3=>some (.slice A xs.length c) | 7=>some (.int .i64 slot) | _=>none) (fun i v W=>(i=8->∃ z,v=.slice (some ⟨z,0,none⟩) 1 1/\Blk W z 3 #[.int .i64 slot]))) Ext #[true,true,true,true,true,true,true,true,true,false,false,false] (by decide +kernel) (VF.stab ?_) ?_ ?_ (by first | exact(Ext.rf _).drew | exact Ext.rf _)
 ·intro j v W W' _ gz hx
  have g0:=gz;exact fun h=>(g0 h).imp fun z hz=>⟨hz.1,hz.2.ext hx⟩
 ·intro pS hpm uS wS hRW hD K hK
  simp only[List.mem_cons,List.not_mem_nil,or_false] at hpm;rcases hpm with rfl | rfl | rfl
  ·( have rX:=Zb hRW zo1 o1;exact Ze (T:=22) (x:=Operand.tmp 31) (t:=22) (d:=some 32) rfl (.pointer (some ⟨go,wk,none⟩)) (by kernel_rfl) (.slice A xs.length c) (by go_simp) (hK _ _ (VF.mk rfl) hRW (Ext.rf _)))
  ·( have rX:=Zb hRW za1 b3;exact Ze (T:=3) (x:=Operand.tmp 35) (t:=3) (d:=some 36) rfl (.pointer (some ⟨ga,3,none⟩)) (by kernel_rfl) (.int .i64 slot) (by go_simp) (hK _ _ (VF.mk rfl) hRW (Ext.rf _)))
  ·(have e7:uS 7=.int .i64 slot:=(hD 7 (Zg (by kernel_rfl))).k rfl;exact Zl (op:=Op.buildSlice 22 1 #[(0,Operand.tmp 36)]) (t:=22) (d:=some 37) rfl _ (by simp only[Zc,Act.put,List.setIfInBounds_toArray,List.set_cons_zero,List.set_cons_succ];unfold Zj;(try go_simp);(try simp only[e7]);(try go_simp);(try rfl)) (hK _ _ (VF.mg rfl (fun _=>⟨_,rfl,.new rfl⟩)) (hRW.alloc _) ((Ext.rf _).alloc _)))
 intro u w3 hR3 hV;have h3:=(hV (3,some 32) (by simp)).k rfl;have h7:=(hV (7,some 36) (by simp)).k rfl;obtain⟨qz,h8,qb⟩:=((hV (8,some 37) (by simp)).g rfl) rfl;simp only[Zc,h3,h7,h8];clear hV h3 h7 h8
 try simp only[lay]
 obtain⟨A4,c4,w4,hrun,o4,g4,h4⟩:=Q0 w3 bs 22 A xs.length c xs [slot] (some ⟨qz,0,none⟩) 1 rfl (oi.out.ext (X0.tr hR3)) (.blk qb rfl) (by simp;omega) (by have:=(X0.tr hR3).size;omega);obtain⟨c4',f4,R4⟩:=FIN.out w3 w4 A4 c4 (X0.tr hR3) o4 g4 h4;have hlen:(xs++[slot]).length=xs.length+1:=by simp
 rw[hlen] at hrun;clear qb o4 g4 h4 FIN;refine Zd 9 (by decide +kernel) (Vh rfl (.slice A xs.length c) (.slice (some ⟨qz,0,none⟩) 1 1) (by kernel_rfl) (by kernel_rfl) _ hrun ?_)
 try simp only[lay]
 refine Za 10 (.nilCheck (.tmp 29)) 0 (some 39) rfl (by kernel_rfl) Hq (by intro _;go_simp;try rfl) ?_;simp only[lay];refine Zd 11 (by decide +kernel) (ZR rfl (.pointer (some ⟨go,wk,none⟩)) (.slice A4 (xs.length+1) c4) (by kernel_rfl) (by kernel_rfl) (by go_simp;rfl) ?_);refine wpAny_done (by kernel_rfl) ?_ _;clear hrun;go_simp;go_wp2_with (fail);go_ret;obtain⟨q1,q2,q3,q4⟩:=R4.out;exact⟨rfl,⟨A4,⟨c4,q1⟩,q2⟩,q3,q4⟩
end
section
theorem Jn (bs gm gc gp gn go:Nat)(P:PoolS)(w:World)(H:PoolR w bs gm gc gp gn go P)(s:Int)(hs:-1<=s/\s<=100000)(hb:P.base<=1048576) :
  Calls Tryz.prog 154 #[.pointer (some ⟨gp,0,none⟩),.int .i64 s] w fun e w'=>e=.returned (.int .i64 ((P.base:Int)+1+s))/\Ext w w':=by
 have p1:w.cell? ⟨gp,1,none⟩=some (.int .i64 (P.base:Int)):=(H.p.cell 1);have w1:IntKind.i64.wrap ((P.base:Int)+1)=(P.base:Int)+1:=IntWalk.i64_in _ (by omega);have w2:IntKind.i64.wrap ((P.base:Int)+1+s)=(P.base:Int)+1+s:=IntWalk.i64_in _ (by omega);clear H;go_enter Tryz.func154,Tryz.ntmps154;go_wp2_with (fail);go_ret;exact⟨rfl,XI⟩
structure PW (w:World)(bs gm gc gp gn go ga:Nat)(M:List Int)(P:PoolS)(a:PAct) : Prop where
 m:MemB w gm gc M
 p:PoolR w bs gm gc gp gn go P
 a:Xe w ga gp a
section
variable {w w':World} {bs gm gc gp gn go ga:Nat} {M:List Int} {P:PoolS} {a:PAct}
theorem PW.ext (h:PW w bs gm gc gp gn go ga M P a)(x:Ext w w') : PW w' bs gm gc gp gn go ga M P a:=⟨h.m.ext x,h.p.ext x,Blk.ext h.a x⟩
theorem PW.cell (h:PW w bs gm gc gp gn go ga M P a){M':List Int}(hm:MemB w' gm gc M')(hd:Mod (CS gm gc) w w') : PW w' bs gm gc gp gn go ga M' P a:=by
 obtain⟨⟨st,k,c,o,n,d,m1⟩,m2⟩:=h.m;have q:∀ {b:Nat} {t:TypeId} {cs:Array Value},Blk w b t cs->t≠268->t≠3->¬CS gm gc b:=fun hb h1 h2 h=>by
  rcases h with rfl | rfl
  ·exact hb.ne m1 h1 rfl
  ·exact hb.ne m2 h2 rfl
 refine⟨hm,h.p.mod hd (q h.p.p (by decide) (by decide)) (q h.p.nd (by decide) (by decide)) (q h.p.ow (by decide) (by decide)) (fun k o ho b hb hS=>?_),Blk.mod h.a hd (q h.a (by decide) (by decide))⟩;rcases hS with rfl | rfl
 ·exact(h.p.oi k o ho).1.ne m1 (by decide) b hb rfl
 ·exact(h.p.oi k o ho).2 hb
theorem PW.field (h:PW w bs gm gc gp gn go ga M P a)(i:Nat)(v:Value){a':PAct}(ha:(a.cells gp).setIfInBounds i v=a'.cells gp) : PW (w.setCell ⟨ga,i,none⟩ v) bs gm gc gp gn go ga M P a'/\Mod (fun b=>b=ga) w (w.setCell ⟨ga,i,none⟩ v):=by
 have M1:Mod (fun b=>b=ga) w (w.setCell ⟨ga,i,none⟩ v):=Mod.set (S:=fun b=>b=ga) (p:=⟨ga,i,none⟩) (Mod.rf w) (.inl rfl) _;obtain⟨⟨st,k,c,o,n,d,m1⟩,m2⟩:=h.m;refine⟨⟨h.m.mod M1 (m1.ne h.a (by decide)) (m2.ne h.a (by decide)),h.p.mod M1 (h.p.p.ne h.a (by decide)) (h.p.nd.ne h.a (by decide)) (h.p.ow.ne h.a (by decide)) (fun k q hq b hb e=>(h.p.oi k q hq).1.ne h.a (by decide) b hb e),?_⟩,M1⟩;have:=Blk.set h.a i v;rw[ha] at this;exact this
end
def PT (ga gm gc:Nat)(b:Nat) : Prop:=b=ga\/b=gm\/b=gc
theorem Zaw (bs gm gc gp gn go ga:Nat)(M:List Int)(P:PoolS)(a:PAct)(w:World)(H:PW w bs gm gc gp gn go ga M P a)(hb:P.base<=1048576)(hg:a.give=false)(ht:Zt a.top)(s:Nat)(hs:pla a.top=(s:Int))(hs2:s<=100000)(y:Int)(hy:M[P.base+1+s]?=some y) :
  Calls Tryz.prog 303 #[.pointer (some ⟨ga,0,none⟩)] w fun e w'=>e=.returned (.tuple #[])/\PW w' bs gm gc gp gn go ga M P { a with ph:=2,nx:=y }/\Mod (PT ga gm gc) w w':=by
 have a0:w.cell? ⟨ga,0,none⟩=some (.pointer (some ⟨gp,0,none⟩)):=(Blk.cell H.a 0);have a2:w.cell? ⟨ga,2,none⟩=some (.bool a.give):=(Blk.cell H.a 2);have a3:w.cell? ⟨ga,3,none⟩=some (.int .i64 a.slot):=(Blk.cell H.a 3);have a4:w.cell? ⟨ga,4,none⟩=some (.int .i64 a.ph):=(Blk.cell H.a 4);have a5:w.cell? ⟨ga,5,none⟩=some (.int .i64 a.top):=(Blk.cell H.a 5);have a6:w.cell? ⟨ga,6,none⟩=some (.int .i64 a.nx):=(Blk.cell H.a 6);have p0:w.cell? ⟨gp,0,none⟩=some (.pointer (some ⟨gm,0,none⟩)):=(H.p.p.cell 0);have p1:w.cell? ⟨gp,1,none⟩=some (.int .i64 (P.base:Int)):=(H.p.p.cell 1);have za:=Blk.lt H.a;have zp:=H.p.p.lt;have UN:=Hd (fun(W:World)=>Zz a.top W ht);rw[hg] at a2;go_enter Tryz.func303,Tryz.ntmps303;go_wp2_with (fail);refine(UN.out _).mono ?_;rintro e w1 ⟨rfl,x1⟩;have X1:=Hd (Ext.tr (a:=w) XI x1);have H1:=Hd (H.ext X1.out);have zp1:gp<w1.heap.size:=by have:=X1.out.size;omega
 have za1:ga<w1.heap.size:=by have:=X1.out.size;omega
 have a0:=Zb X1.out za a0;have a2:=Zb X1.out za a2;have a3:=Zb X1.out za a3;have p0:=Zb X1.out zp p0;have p1:=Zb X1.out zp p1;have a4:w1.cell? ⟨ga,4,none⟩=some (.int .i64 a.ph):=(Blk.cell H1.out.a 4);have fa4:w1.frozen? ⟨ga,4,none⟩=false:=Blk.free H1.out.a 4;have fa6:w1.frozen? ⟨ga,6,none⟩=false:=Blk.free H1.out.a 6;clear x1 UN;have ST:=VG gm gc M (P.base+1+s) y;rw[show ((P.base+1+s:Nat):Int)=(P.base:Int)+1+(s:Int) by omega] at ST;replace ST:=Hd ST;rw[hs];go_upto_region 3 with(fail);refine wp_region_any (by kernel_rfl) ?_
 change wpAny _ _ _ _ _ _ _ (World.drew _)
 refine Za 0 (.move (.tmp 0)) 198 (some 35) rfl (by kernel_rfl) Hq (by intro _;go_simp;try rfl) ?_;simp only[lay];refine Za 1 (.move (.tmp 0)) 198 (some 36) rfl (by kernel_rfl) Hq (by intro _;go_simp;try rfl) ?_;simp only[lay];refine Za 2 (.nilCheck (.tmp 36)) 0 (some 37) rfl (by kernel_rfl) Hq (by intro _;go_simp;try rfl) ?_;simp only[lay];refine Za 3 (.fieldAddr 284 (.tmp 37) 0) 0 (some 38) rfl (by kernel_rfl) Hq (by intro _;go_simp;try rfl) ?_;simp only[lay];refine Za 8 (.move (.tmp 0)) 198 (some 43) rfl (by kernel_rfl) Hq (by intro _;go_simp;try rfl) ?_;simp only[lay];refine Za 9 (.nilCheck (.tmp 43)) 0 (some 44) rfl (by kernel_rfl) Hq (by intro _;go_simp;try rfl) ?_;simp only[lay];refine Za 10 (.fieldAddr 284 (.tmp 44) 0) 0 (some 45) rfl (by kernel_rfl) Hq (by intro _;go_simp;try rfl) ?_;simp only[lay];refine Za 12 (.move (.tmp 3)) 3 (some 47) rfl (by kernel_rfl) Hq (by intro _;go_simp;try rfl) ?_;simp only[lay];refine Zh (n:=7) [(4,some 39),(5,some 40),(6,some 41),(7,some 42),(11,some 46),(13,some 48)] (Ext w1) (VF (fun | 4=>some (.pointer (some ⟨gp,0,none⟩)) | 5=>some (.pointer (some ⟨gp,0,none⟩)) | 6=>some (.pointer (some ⟨gp,0,none⟩)) | 7=>some (.pointer (some ⟨gm,0,none⟩)) | 11=>some (.pointer (some ⟨gp,0,none⟩)) | 13=>some (.int .i64 ((P.base:Int)+1+(s:Int))) | _=>none) (fun i v W=>True)) Ext #[true,true,true,true,true,true,true,true,true,true,true,true,true,true,false,false,false,false,false,false,false] (by decide +kernel) (VF.stab ?_) ?_ ?_ (by first | exact(Ext.rf _).drew | exact Ext.rf _)
 ·intro j v W W' _ _ _;trivial
 ·intro pS hpm uS wS hRW hD K hK
  simp only[List.mem_cons,List.not_mem_nil,or_false] at hpm;rcases hpm with rfl | rfl | rfl | rfl | rfl | rfl
  ·( have rX:=Zb hRW za1 a0;exact Ze (T:=112) (x:=Operand.tmp 38) (t:=112) (d:=some 39) rfl (.pointer (some ⟨ga,0,none⟩)) (by kernel_rfl) (.pointer (some ⟨gp,0,none⟩)) (by go_simp) (hK _ _ (VF.mk rfl) hRW (Ext.rf _)))
  ·(have e4:uS 4=.pointer (some ⟨gp,0,none⟩):=(hD 4 (Zg (by kernel_rfl))).k rfl;exact Zl (op:=Op.nilCheck (Operand.tmp 39)) (t:=0) (d:=some 40) rfl (.pointer (some ⟨gp,0,none⟩)) (by simp only[Zc,Act.put,List.setIfInBounds_toArray,List.set_cons_zero,List.set_cons_succ];unfold Zj;(try go_simp);(try simp only[e4]);(try go_simp);(try rfl);(try (exact IntWalk.i64_in _ (by omega)))) (hK _ _ (VF.mk rfl) hRW (Ext.rf _)))
  ·(have e5:uS 5=.pointer (some ⟨gp,0,none⟩):=(hD 5 (Zg (by kernel_rfl))).k rfl;exact Zl (op:=Op.fieldAddr 271 (Operand.tmp 40) 0) (t:=0) (d:=some 41) rfl (.pointer (some ⟨gp,0,none⟩)) (by simp only[Zc,Act.put,List.setIfInBounds_toArray,List.set_cons_zero,List.set_cons_succ];unfold Zj;(try go_simp);(try simp only[e5]);(try go_simp);(try rfl);(try (exact IntWalk.i64_in _ (by omega)))) (hK _ _ (VF.mk rfl) hRW (Ext.rf _)))
  ·(have e6:uS 6=.pointer (some ⟨gp,0,none⟩):=(hD 6 (Zg (by kernel_rfl))).k rfl;have rX:=Zb hRW zp1 p0;exact Ze (T:=111) (x:=Operand.tmp 41) (t:=111) (d:=some 42) rfl (.pointer (some ⟨gp,0,none⟩)) (Eq.trans (b:=uS 6) (by kernel_rfl) e6) (.pointer (some ⟨gm,0,none⟩)) (by go_simp) (hK _ _ (VF.mk rfl) hRW (Ext.rf _)))
  ·( have rX:=Zb hRW za1 a0;exact Ze (T:=112) (x:=Operand.tmp 45) (t:=112) (d:=some 46) rfl (.pointer (some ⟨ga,0,none⟩)) (by kernel_rfl) (.pointer (some ⟨gp,0,none⟩)) (by go_simp) (hK _ _ (VF.mk rfl) hRW (Ext.rf _)))
  ·(have e11:uS 11=.pointer (some ⟨gp,0,none⟩):=(hD 11 (Zg (by kernel_rfl))).k rfl;exact Zi (f:=154) (xs:=#[Operand.tmp 46,Operand.tmp 47]) (ts:=#[112,3]) (t:=3) (d:=some 48) rfl #[.pointer (some ⟨gp,0,none⟩),.int .i64 (s:Int)] (by go_simp) (Eq.trans (b:=#[uS 11,.int .i64 (s:Int)]) (by kernel_rfl) (by rw[e11])) _ (Jn bs gm gc gp gn go P _ (H1.out.p.ext hRW) (s:Int) (by omega) hb) (by rintro e w9 ⟨rfl,xx⟩;exact⟨_,rfl,hK _ _ (VF.mk rfl) (hRW.tr xx) xx⟩))
 intro u w3 hR3 hV;have h4:=(hV (4,some 39) (by simp)).k rfl;have h5:=(hV (5,some 40) (by simp)).k rfl;have h6:=(hV (6,some 41) (by simp)).k rfl;have h7:=(hV (7,some 42) (by simp)).k rfl;have h11:=(hV (11,some 46) (by simp)).k rfl;have h13:=(hV (13,some 48) (by simp)).k rfl;simp only[Zc,h4,h5,h6,h7,h11,h13];clear hV h4 h5 h6 h7 h11 h13
 try simp only[lay]
 refine Zd 14 (by decide +kernel) (Zi (f:=295) (xs:=#[Operand.tmp 42,Operand.tmp 48]) (ts:=#[111,3]) (t:=166) (d:=some 49) rfl #[.pointer (some ⟨gm,0,none⟩),.int .i64 ((P.base:Int)+1+(s:Int))] (by go_simp) (by kernel_rfl) _ (ST.out _ (H1.out.m.ext hR3) hy) ?_);rintro e w4 ⟨rfl,m4,d4⟩;have H4:=Hd ((H1.out.ext hR3).cell m4 d4);have D4:=Hd ((Mod.of_ext (X1.out.tr hR3):Mod (CS gm gc) w w3).tr d4);clear m4 d4 hR3;refine⟨_,rfl,?_⟩
 try simp only[lay]
 refine Za 15 (.move (.tmp 49)) 166 (some 34) rfl (by kernel_rfl) Hq (by intro _;go_simp;try rfl) ?_;simp only[lay];refine Za 16 (.extract (.tmp 34) 0) 3 (some 50) rfl (by kernel_rfl) Hq (by intro _;go_simp;try rfl) ?_;simp only[lay];refine Za 17 (.extract (.tmp 34) 1) 27 (some 51) rfl (by kernel_rfl) Hq (by intro _;go_simp;try rfl) ?_;simp only[lay];refine Za 18 (.nilCheck (.tmp 35)) 0 (some 52) rfl (by kernel_rfl) Hq (by intro _;go_simp;try rfl) ?_;simp only[lay];refine Za 19 (.fieldAddr 284 (.tmp 52) 6) 0 (some 53) rfl (by kernel_rfl) Hq (by intro _;go_simp;try rfl) ?_;simp only[lay];clear a0 a2 a3 a4 a5 a6 p0 p1 fa4 fa6 ST;have a6:w4.cell? ⟨ga,6,none⟩=some (.int .i64 a.nx):=(Blk.cell H4.out.a 6);have fa6:w4.frozen? ⟨ga,6,none⟩=false:=Blk.free H4.out.a 6;obtain⟨q1,q2⟩:=H4.out.field 6 (.int .i64 y) (a':={ a with nx:=y }) rfl;have Q1:=Hd q1;have Q2:=Hd ((D4.out.mono fun b _ h=>(.inr h:PT ga gm gc b)).tr (q2.mono fun b _ h=>(.inl h:PT ga gm gc b)));clear q1 q2 H4 D4;refine Zd 20 (by decide +kernel) (ZR rfl (.pointer (some ⟨ga,6,none⟩)) (.int .i64 y) (by kernel_rfl) (by kernel_rfl) (by go_simp;rfl) ?_);refine wpAny_done (by kernel_rfl) ?_ _;go_simp;clear a6 fa6;generalize w4.setCell ⟨ga,6,none⟩ (.int .i64 y)=w5 at *;have a4:w5.cell? ⟨ga,4,none⟩=some (.int .i64 a.ph):=(Blk.cell Q1.out.a 4);have fa4:w5.frozen? ⟨ga,4,none⟩=false:=Blk.free Q1.out.a 4;obtain⟨q1,q2⟩:=Q1.out.field 4 (.int .i64 2) (a':={ a with ph:=2,nx:=y }) rfl;have R1:=Hd q1;have R2:=Hd (Q2.out.tr (q2.mono fun b _ h=>(.inl h:PT ga gm gc b)));clear q1 q2 Q1 Q2;go_wp2_with (fail);go_end0;exact⟨rfl,R1.out,R2.out⟩
theorem ZbD (bs gm gc gp gn go ga:Nat)(M:List Int)(P:PoolS)(a:PAct)(w:World)(H:PW w bs gm gc gp gn go ga M P a)(hb:P.base<=1048576)(hg:a.give=false)(ht:Zt a.top)(x:Int)(hx:M[P.base]?=some x)(ho:x=a.top) :
  Calls Tryz.prog 304 #[.pointer (some ⟨ga,0,none⟩)] w fun e w'=>e=.returned (.tuple #[])/\PW w' bs gm gc gp gn go ga (M.set P.base (upP a.top a.nx)) P { a with slot:=pla a.top,ph:=3 }/\Mod (PT ga gm gc) w w':=by
 have a0:w.cell? ⟨ga,0,none⟩=some (.pointer (some ⟨gp,0,none⟩)):=(Blk.cell H.a 0);have a2:w.cell? ⟨ga,2,none⟩=some (.bool a.give):=(Blk.cell H.a 2);have a3:w.cell? ⟨ga,3,none⟩=some (.int .i64 a.slot):=(Blk.cell H.a 3);have a4:w.cell? ⟨ga,4,none⟩=some (.int .i64 a.ph):=(Blk.cell H.a 4);have a5:w.cell? ⟨ga,5,none⟩=some (.int .i64 a.top):=(Blk.cell H.a 5);have a6:w.cell? ⟨ga,6,none⟩=some (.int .i64 a.nx):=(Blk.cell H.a 6);have p0:w.cell? ⟨gp,0,none⟩=some (.pointer (some ⟨gm,0,none⟩)):=(H.p.p.cell 0);have p1:w.cell? ⟨gp,1,none⟩=some (.int .i64 (P.base:Int)):=(H.p.p.cell 1);have za:=Blk.lt H.a;have zp:=H.p.p.lt;rw[hg] at a2;have CA:=fun(W:World) (h:MemB W gm gc M)=>Zcu gm gc M P.base x a.top (upP a.top a.nx) W h hx
 have UP:=Hd (fun(W:World)=>Zcz a.top a.nx W ht);have UN:=Hd (fun(W:World)=>Zz a.top W ht);have HH:=Hd H;simp only[if_pos ho,decide_eq_true ho,Yc] at CA;generalize upP a.top a.nx=up at *;replace CA:=Hd CA;clear H;go_enter Tryz.func304,Tryz.ntmps304;go_upto_region 3 with(fail);refine wp_region_any (by kernel_rfl) ?_
 change wpAny _ _ _ _ _ _ _ (World.drew _)
 refine Za 0 (.move (.tmp 0)) 198 (some 18) rfl (by kernel_rfl) Hq (by intro _;go_simp;try rfl) ?_;simp only[lay];refine Za 1 (.nilCheck (.tmp 18)) 0 (some 19) rfl (by kernel_rfl) Hq (by intro _;go_simp;try rfl) ?_;simp only[lay];refine Za 2 (.fieldAddr 284 (.tmp 19) 0) 0 (some 20) rfl (by kernel_rfl) Hq (by intro _;go_simp;try rfl) ?_;simp only[lay];refine Za 7 (.move (.tmp 0)) 198 (some 25) rfl (by kernel_rfl) Hq (by intro _;go_simp;try rfl) ?_;simp only[lay];refine Za 8 (.nilCheck (.tmp 25)) 0 (some 26) rfl (by kernel_rfl) Hq (by intro _;go_simp;try rfl) ?_;simp only[lay];refine Za 9 (.fieldAddr 284 (.tmp 26) 0) 0 (some 27) rfl (by kernel_rfl) Hq (by intro _;go_simp;try rfl) ?_;simp only[lay];refine Za 14 (.move (.tmp 0)) 198 (some 32) rfl (by kernel_rfl) Hq (by intro _;go_simp;try rfl) ?_;simp only[lay];refine Za 15 (.nilCheck (.tmp 32)) 0 (some 33) rfl (by kernel_rfl) Hq (by intro _;go_simp;try rfl) ?_;simp only[lay];refine Za 16 (.fieldAddr 284 (.tmp 33) 5) 0 (some 34) rfl (by kernel_rfl) Hq (by intro _;go_simp;try rfl) ?_;simp only[lay];refine Za 18 (.move (.tmp 0)) 198 (some 36) rfl (by kernel_rfl) Hq (by intro _;go_simp;try rfl) ?_;simp only[lay];refine Za 19 (.nilCheck (.tmp 36)) 0 (some 37) rfl (by kernel_rfl) Hq (by intro _;go_simp;try rfl) ?_;simp only[lay];refine Za 20 (.fieldAddr 284 (.tmp 37) 5) 0 (some 38) rfl (by kernel_rfl) Hq (by intro _;go_simp;try rfl) ?_;simp only[lay];refine Za 22 (.move (.tmp 2)) 3 (some 40) rfl (by kernel_rfl) Hq (by intro _;go_simp;try rfl) ?_;simp only[lay];refine Zh (n:=6) [(3,some 21),(4,some 22),(5,some 23),(6,some 24),(10,some 28),(11,some 29),(12,some 30),(13,some 31),(17,some 35),(21,some 39),(23,some 41)] (Ext w) (VF (fun | 3=>some (.pointer (some ⟨gp,0,none⟩)) | 4=>some (.pointer (some ⟨gp,0,none⟩)) | 5=>some (.pointer (some ⟨gp,0,none⟩)) | 6=>some (.pointer (some ⟨gm,0,none⟩)) | 10=>some (.pointer (some ⟨gp,0,none⟩)) | 11=>some (.pointer (some ⟨gp,0,none⟩)) | 12=>some (.pointer (some ⟨gp,1,none⟩)) | 13=>some (.int .i64 (P.base:Int)) | 17=>some (.int .i64 a.top) | 21=>some (.int .i64 a.top) | 23=>some (.int .i64 up) | _=>none) (fun i v W=>True)) Ext #[true,true,true,true,true,true,true,true,true,true,true,true,true,true,true,true,true,true,true,true,true,true,true,true,false,false,false,false,false,false] (by decide +kernel) (VF.stab ?_) ?_ ?_ (by first | exact(Ext.rf _).drew | exact Ext.rf _)
 ·intro j v W W' _ _ _;trivial
 ·intro pS hpm uS wS hRW hD K hK
  simp only[List.mem_cons,List.not_mem_nil,or_false] at hpm;rcases hpm with rfl | rfl | rfl | rfl | rfl | rfl | rfl | rfl | rfl | rfl | rfl
  ·( have rX:=Zb hRW za a0;exact Ze (T:=112) (x:=Operand.tmp 20) (t:=112) (d:=some 21) rfl (.pointer (some ⟨ga,0,none⟩)) (by kernel_rfl) (.pointer (some ⟨gp,0,none⟩)) (by go_simp) (hK _ _ (VF.mk rfl) hRW (Ext.rf _)))
  ·(have e3:uS 3=.pointer (some ⟨gp,0,none⟩):=(hD 3 (Zg (by kernel_rfl))).k rfl;exact Zl (op:=Op.nilCheck (Operand.tmp 21)) (t:=0) (d:=some 22) rfl (.pointer (some ⟨gp,0,none⟩)) (by simp only[Zc,Act.put,List.setIfInBounds_toArray,List.set_cons_zero,List.set_cons_succ];unfold Zj;(try go_simp);(try simp only[e3]);(try go_simp);(try rfl);(try (exact IntWalk.i64_in _ (by omega)))) (hK _ _ (VF.mk rfl) hRW (Ext.rf _)))
  ·(have e4:uS 4=.pointer (some ⟨gp,0,none⟩):=(hD 4 (Zg (by kernel_rfl))).k rfl;exact Zl (op:=Op.fieldAddr 271 (Operand.tmp 22) 0) (t:=0) (d:=some 23) rfl (.pointer (some ⟨gp,0,none⟩)) (by simp only[Zc,Act.put,List.setIfInBounds_toArray,List.set_cons_zero,List.set_cons_succ];unfold Zj;(try go_simp);(try simp only[e4]);(try go_simp);(try rfl);(try (exact IntWalk.i64_in _ (by omega)))) (hK _ _ (VF.mk rfl) hRW (Ext.rf _)))
  ·(have e5:uS 5=.pointer (some ⟨gp,0,none⟩):=(hD 5 (Zg (by kernel_rfl))).k rfl;have rX:=Zb hRW zp p0;exact Ze (T:=111) (x:=Operand.tmp 23) (t:=111) (d:=some 24) rfl (.pointer (some ⟨gp,0,none⟩)) (Eq.trans (b:=uS 5) (by kernel_rfl) e5) (.pointer (some ⟨gm,0,none⟩)) (by go_simp) (hK _ _ (VF.mk rfl) hRW (Ext.rf _)))
  ·( have rX:=Zb hRW za a0;exact Ze (T:=112) (x:=Operand.tmp 27) (t:=112) (d:=some 28) rfl (.pointer (some ⟨ga,0,none⟩)) (by kernel_rfl) (.pointer (some ⟨gp,0,none⟩)) (by go_simp) (hK _ _ (VF.mk rfl) hRW (Ext.rf _)))
  ·(have e10:uS 10=.pointer (some ⟨gp,0,none⟩):=(hD 10 (Zg (by kernel_rfl))).k rfl;exact Zl (op:=Op.nilCheck (Operand.tmp 28)) (t:=0) (d:=some 29) rfl (.pointer (some ⟨gp,0,none⟩)) (by simp only[Zc,Act.put,List.setIfInBounds_toArray,List.set_cons_zero,List.set_cons_succ];unfold Zj;(try go_simp);(try simp only[e10]);(try go_simp);(try rfl);(try (exact IntWalk.i64_in _ (by omega)))) (hK _ _ (VF.mk rfl) hRW (Ext.rf _)))
  ·(have e11:uS 11=.pointer (some ⟨gp,0,none⟩):=(hD 11 (Zg (by kernel_rfl))).k rfl;exact Zl (op:=Op.fieldAddr 271 (Operand.tmp 29) 1) (t:=0) (d:=some 30) rfl (.pointer (some ⟨gp,1,none⟩)) (by simp only[Zc,Act.put,List.setIfInBounds_toArray,List.set_cons_zero,List.set_cons_succ];unfold Zj;(try go_simp);(try simp only[e11]);(try go_simp);(try rfl);(try (exact IntWalk.i64_in _ (by omega)))) (hK _ _ (VF.mk rfl) hRW (Ext.rf _)))
  ·(have e12:uS 12=.pointer (some ⟨gp,1,none⟩):=(hD 12 (Zg (by kernel_rfl))).k rfl;have rX:=Zb hRW zp p1;exact Ze (T:=3) (x:=Operand.tmp 30) (t:=3) (d:=some 31) rfl (.pointer (some ⟨gp,1,none⟩)) (Eq.trans (b:=uS 12) (by kernel_rfl) e12) (.int .i64 (P.base:Int)) (by go_simp) (hK _ _ (VF.mk rfl) hRW (Ext.rf _)))
  ·( have rX:=Zb hRW za a5;exact Ze (T:=3) (x:=Operand.tmp 34) (t:=3) (d:=some 35) rfl (.pointer (some ⟨ga,5,none⟩)) (by kernel_rfl) (.int .i64 a.top) (by go_simp) (hK _ _ (VF.mk rfl) hRW (Ext.rf _)))
  ·( have rX:=Zb hRW za a5;exact Ze (T:=3) (x:=Operand.tmp 38) (t:=3) (d:=some 39) rfl (.pointer (some ⟨ga,5,none⟩)) (by kernel_rfl) (.int .i64 a.top) (by go_simp) (hK _ _ (VF.mk rfl) hRW (Ext.rf _)))
  ·(have e21:uS 21=.int .i64 a.top:=(hD 21 (Zg (by kernel_rfl))).k rfl;exact Zi (f:=328) (xs:=#[Operand.tmp 39,Operand.tmp 40]) (ts:=#[3,3]) (t:=3) (d:=some 41) rfl #[.int .i64 a.top,.int .i64 a.nx] (by go_simp) (Eq.trans (b:=#[uS 21,.int .i64 a.nx]) (by kernel_rfl) (by rw[e21])) _ (UP.out _) (by rintro e w9 ⟨rfl,xx⟩;exact⟨_,rfl,hK _ _ (VF.mk rfl) (hRW.tr xx) xx⟩))
 intro u w3 hR3 hV;have h3:=(hV (3,some 21) (by simp)).k rfl;have h4:=(hV (4,some 22) (by simp)).k rfl;have h5:=(hV (5,some 23) (by simp)).k rfl;have h6:=(hV (6,some 24) (by simp)).k rfl;have h10:=(hV (10,some 28) (by simp)).k rfl;have h11:=(hV (11,some 29) (by simp)).k rfl;have h12:=(hV (12,some 30) (by simp)).k rfl;have h13:=(hV (13,some 31) (by simp)).k rfl;have h17:=(hV (17,some 35) (by simp)).k rfl;have h21:=(hV (21,some 39) (by simp)).k rfl;have h23:=(hV (23,some 41) (by simp)).k rfl;simp only[Zc,h3,h4,h5,h6,h10,h11,h12,h13,h17,h21,h23];clear hV h3 h4 h5 h6 h10 h11 h12 h13 h17 h21 h23
 try simp only[lay]
 refine Zd 24 (by decide +kernel) (Zi (f:=296) (xs:=#[Operand.tmp 24,Operand.tmp 31,Operand.tmp 35,Operand.tmp 41]) (ts:=#[111,3,3,3]) (t:=380) (d:=some 42) rfl #[.pointer (some ⟨gm,0,none⟩),.int .i64 (P.base:Int),.int .i64 a.top,.int .i64 up] (by go_simp) (by kernel_rfl) _ (CA.out _ (HH.out.m.ext hR3)) ?_);rintro e w4 ⟨rfl,m4,d4⟩;have H4:=Hd ((HH.out.ext hR3).cell m4 d4);have D4:=Hd ((Mod.of_ext hR3:Mod (CS gm gc) w w3).tr d4);have D4':=Hd (D4.out.mono fun b _ h=>(.inr h:PT ga gm gc b));clear m4 d4 hR3;refine⟨_,rfl,?_⟩
 try simp only[lay]
 refine Za 25 (.move (.tmp 42)) 380 (some 17) rfl (by kernel_rfl) Hq (by intro _;go_simp;try rfl) ?_;simp only[lay];refine Za 26 (.extract (.tmp 17) 0) 4 (some 43) rfl (by kernel_rfl) Hq (by intro _;go_simp;try rfl) ?_;simp only[lay];refine Za 27 (.extract (.tmp 17) 1) 27 (some 44) rfl (by kernel_rfl) Hq (by intro _;go_simp;try rfl) ?_;simp only[lay];refine Za 28 (.assign (.tmp 43)) 4 (some 3) rfl (by kernel_rfl) Hq (by intro _;go_simp;try rfl) ?_;simp only[lay];refine Za 29 (.assign (.tmp 44)) 27 (some 4) rfl (by kernel_rfl) Hq (by intro _;go_simp;try rfl) ?_;simp only[lay];refine wpAny_done (by kernel_rfl) ?_ _;go_simp;clear a0 a2 a3 a4 a5 a6 p0 p1 CA UP;have a2:w4.cell? ⟨ga,2,none⟩=some (.bool false):=(Blk.cell H4.out.a 2).trans (by simp[PAct.cells,hg]);have a4:w4.cell? ⟨ga,4,none⟩=some (.int .i64 a.ph):=(Blk.cell H4.out.a 4);have a5:w4.cell? ⟨ga,5,none⟩=some (.int .i64 a.top):=(Blk.cell H4.out.a 5);have fa4:w4.frozen? ⟨ga,4,none⟩=false:=Blk.free H4.out.a 4;have z4:=Blk.lt H4.out.a;obtain⟨r1,r2⟩:=H4.out.field 4 (.int .i64 0) (a':={ a with ph:=0 }) rfl;obtain⟨s1,s2⟩:=r1.field 4 (.int .i64 3) (a':={ a with ph:=3 }) rfl;have S1:=Hd s1;have S2:=Hd ((D4'.out.tr (r2.mono fun b _ h=>(.inl h:PT ga gm gc b))).tr (s2.mono fun b _ h=>(.inl h:PT ga gm gc b)));clear r1 r2 s1 s2;have z5:ga<((w4.setCell ⟨ga,4,none⟩ (.int .i64 0)).setCell ⟨ga,4,none⟩ (.int .i64 3)).heap.size:=by simpa using z4
 go_wp2_with (fail);refine(UN.out _).mono ?_;rintro e w6 ⟨rfl,x6⟩;have T1:=Hd (S1.out.ext x6);have T2:=Hd (S2.out.ext x6);clear x6 UN;have a3:w6.cell? ⟨ga,3,none⟩=some (.int .i64 a.slot):=(Blk.cell T1.out.a 3);have fa3:w6.frozen? ⟨ga,3,none⟩=false:=Blk.free T1.out.a 3;obtain⟨q1,q2⟩:=T1.out.field 3 (.int .i64 (pla a.top)) (a':={ a with slot:=pla a.top,ph:=3 }) rfl;have Q1:=Hd q1;have Q2:=Hd (T2.out.tr (q2.mono fun b _ h=>(.inl h:PT ga gm gc b)));clear q1 q2;go_wp2_with (fail);go_end0;exact⟨rfl,Q1.out,Q2.out⟩
end
section
theorem QD (n:Nat)(w:World)(h1:1<=n)(h2:n<=4096) :
  Calls Tryz.prog 86 #[.int .i64 (n:Int)] w fun e w'=>e=.returned (.int .i64 ((n:Int)+1))/\Ext w w':=by
 have e1:¬(n:Int)<1:=by omega
 have e2:¬(n:Int)>4096:=by omega
 have wr1:IntKind.i64.wrap ((n:Int)+1)=(n:Int)+1:=IntWalk.i64_in _ (by omega);go_enter Tryz.func86,Tryz.ntmps86;go_wp2_with (go_quiet (fail));go_ret;exact⟨rfl,XI⟩
theorem Zc0 : (Tryz.prog.info? 204).map (fun i=>(i.zero,i.size,i.bytes))=some (some (.agg #[.slice none 0 0,.int .i64 0]),2,32):=by kernel_rfl
theorem Zc1 : (Tryz.prog.info? 22).map (fun i=>(i.zero,i.size,i.bytes))=some (some (.slice none 0 0),1,24):=by kernel_rfl
def ZH (n:Nat) : List Value:=(List.replicate n [Value.slice none 0 0,Value.int .i64 0]).flatten
theorem Wp (n:Nat) : (ZH n).length=n*2:=by
 induction n with
 | zero=>rfl
 | succ n ih =>
  unfold ZH at ih ⊢;rw[List.replicate_succ,List.flatten_cons,List.length_append,ih];simp;omega
theorem QE (n k:Nat)(hk:k<n) : (ZH n)[k*2]?=some (.slice none 0 0)/\(ZH n)[k*2+1]?=some (.int .i64 0):=by
 induction n generalizing k with
 | zero=>omega
 | succ n ih =>
  have e:ZH (n+1)=Value.slice none 0 0::Value.int .i64 0::ZH n:=by unfold ZH;rw[List.replicate_succ,List.flatten_cons];rfl
  rw[e]
  cases k with
  | zero=>exact⟨rfl,rfl⟩
  | succ k =>
   have:=ih k (by omega);rw[show (k+1)*2=k*2+1+1 by omega];exact⟨by simpa using this.1,by simpa using this.2⟩
theorem ZbE (n:Nat) : madeCells #[Value.slice none 0 0,Value.int .i64 0] (n*2)=List.toArray (ZH n):=by
 apply Array.ext
 ·simp[madeCells,Wp]
 ·intro i h1 h2
  have hi:i<n*2:=by simpa [madeCells] using h1
  have g:=QE n (i / 2) (by omega);have g0:(ZH n)[i]?=some (if i%2=0 then .slice none 0 0 else .int .i64 0):=by
   by_cases h:i%2=0
   ·rw[if_pos h];have:=g.1;rwa [show i / 2*2=i by omega] at this
   ·rw[if_neg h];have:=g.2;rwa [show i / 2*2+1=i by omega] at this
  have g1:(ZH n)[i]'(by rw[Wp];exact hi)=if i%2=0 then .slice none 0 0 else .int .i64 0:=by
   have:=List.getElem?_eq_some_iff.1 g0;exact this.2
  simp only[List.getElem_toArray,g1];rcases Nat.mod_two_eq_zero_or_one i with h | h<;>simp[madeCells,h]
theorem Zes (n:Nat)(hn:n<=4096)(u:World) : (Instr.makeSlice 269 (.int .i64 (n:Int)) (.int .i64 (n:Int))).run Tryz.prog u=.ok (.slice (some ⟨u.heap.size,0,none⟩) n n) (u.alloc (.cells (List.toArray (ZH n)) 204)):=by
 obtain⟨i0,hi,hz0,hz1,hz2⟩:=info_parts Zc0;have h:=run_make (P:=Tryz.prog) u 269 204 i0 _ Tryz.underlying269 hi hz0 .i64 .i64 (n:Int) (n:Int) (by omega) (Int.le_refl _) (by rw[hz2];omega) (by omega);rw[<-ZbE]
 simpa [hz1,Value.cells] using h
theorem PoolR.cell {w w':World}{bs gm gc gp gn go:Nat}{P:PoolS}{M:List Int}(h:PoolR w bs gm gc gp gn go P)(m:MemB w gm gc M)(hd:Mod (CS gm gc) w w') : PoolR w' bs gm gc gp gn go P:=by
 obtain⟨⟨st,k,c,o,n,d,m1⟩,m2⟩:=m;have q:∀ {b:Nat} {t:TypeId} {cs:Array Value},Blk w b t cs->t≠268->t≠3->¬CS gm gc b:=fun hb h1 h2 h=>by
  rcases h with rfl | rfl
  ·exact hb.ne m1 h1 rfl
  ·exact hb.ne m2 h2 rfl
 refine h.mod hd (q h.p (by decide) (by decide)) (q h.nd (by decide) (by decide)) (q h.ow (by decide) (by decide)) (fun k o ho b hb hS=>?_);rcases hS with rfl | rfl
 ·exact(h.oi k o ho).1.ne m1 (by decide) b hb rfl
 ·exact(h.oi k o ho).2 hb
def Zet (M:List Int)(n:Nat)(k:Nat) : Prop:=M[0]?=some 1/\∀ s,s<k->M[1+s]?=some (if s+1=n then -1 else((s+1:Nat):Int))
theorem Zax (a b:Nat)(ha:a<9223372036854775808)(hb:b<9223372036854775808) : bits .or .i64 (a:Int) (b:Int)=((a ||| b:Nat):Int):=by
 have h1:BitVec.ofInt 64 (a:Int)=BitVec.ofNat 64 a:=BitVec.ofInt_natCast ..;have h2:BitVec.ofInt 64 (b:Int)=BitVec.ofNat 64 b:=BitVec.ofInt_natCast ..;show IntKind.i64.wrap ((BitVec.ofInt 64 (a:Int) ||| BitVec.ofInt 64 (b:Int)).toNat:Int)=_;rw[h1,h2,BitVec.toNat_or,BitVec.toNat_ofNat,BitVec.toNat_ofNat,Nat.mod_eq_of_lt (by omega),Nat.mod_eq_of_lt (by omega)];have:a ||| b<2^63:=Nat.or_lt_two_pow (by omega) (by omega)
 exact IntWalk.i64_in _ (by omega)
theorem Zeu {c p:Int}(h0:0<=c)(h1:c<=1125899906842624)(h2:0<=p)(h3:p<64) : bits .or .i64 (c*64) p=c*64+p:=by
 obtain⟨n,rfl⟩:=Int.eq_ofNat_of_zero_le h0;obtain⟨k,rfl⟩:=Int.eq_ofNat_of_zero_le h2;have:=Zax (n*64) k (by omega) (by omega);rw[show ((n*64:Nat):Int)=(n:Int)*64 by omega] at this;rw[this,show n*64=n <<< 6 by rw[Nat.shiftLeft_eq],<-Nat.shiftLeft_add_eq_or_of_lt (by omega),Nat.shiftLeft_eq];omega
theorem Zc2 {x:Int}(h0:0<=x)(h1:x<9223372036854775808) : bits .and .i64 x 63=x%64:=by
 obtain⟨n,rfl⟩:=Int.eq_ofNat_of_zero_le h0;have:=Wo n 63 (by omega) (by omega);rw[show ((63:Nat):Int)=63 from rfl] at this;rw[this,show (63:Nat)=2^6-1 from rfl,Nat.and_two_pow_sub_one_eq_mod];omega
theorem Zc3 (c p:Int)(w:World)(h0:0<=c)(h1:c<=1125899906842624)(h2:0<=p)(h3:p<64) :
  Calls Tryz.prog 161 #[.int .i64 c,.int .i64 p] w fun e w'=>e=.returned (.int .i64 (c*64+p))/\w=w':=by
 have e1:=Zeu h0 h1 h2 h3;have e2:IntKind.i64.wrap (c*64)=c*64:=IntWalk.i64_in _ (by omega);have e3:wrap64 (c*64)=c*64:=IntWalk.wrap64_in _ ⟨by omega,by omega⟩;go_enter Tryz.func161,Tryz.ntmps161;go_wp2_with (fail);go_ret;exact⟨rfl,rfl⟩
structure IncS where
 pos:Nat
 wk:Nat
 rows:List OwL
structure IncR (w:World)(bs gm gc gi gl:Nat)(I:IncS) : Prop where
 b:Blk w gi 279 #[.pointer (some ⟨gm,0,none⟩),.int .i64 (I.pos:Int),.int .i64 (I.wk:Int),.slice (some ⟨gl,0,none⟩) I.rows.length I.rows.length]
 r:Blk w gl 22 (List.toArray (I.rows.map OwL.v))
 x:∀ (k:Nat) (o:OwL),I.rows[k]?=some o->OwI w bs o.A o.c o.xs/\bl o.A≠some gc
theorem IncR.ext {w w':World}{bs gm gc gi gl:Nat}{I:IncS}(h:IncR w bs gm gc gi gl I)(x:Ext w w') : IncR w' bs gm gc gi gl I:=⟨h.b.ext x,h.r.ext x,fun k o ho=>⟨(h.x k o ho).1.ext x,(h.x k o ho).2⟩⟩
theorem IncR.cell {w w':World}{bs gm gc gi gl:Nat}{I:IncS}{M:List Int}(h:IncR w bs gm gc gi gl I)(m:MemB w gm gc M)(hd:Mod (CS gm gc) w w') : IncR w' bs gm gc gi gl I:=by
 obtain⟨⟨st,k,c,o,n,d,m1⟩,m2⟩:=m;have q:∀ {b:Nat} {t:TypeId} {cs:Array Value},Blk w b t cs->t≠268->t≠3->¬CS gm gc b:=fun hb h1 h2 h=>by
  rcases h with rfl | rfl
  ·exact hb.ne m1 h1 rfl
  ·exact hb.ne m2 h2 rfl
 refine⟨h.b.mod hd (q h.b (by decide) (by decide)),h.r.mod hd (q h.r (by decide) (by decide)),fun k o ho=>⟨(h.x k o ho).1.mod hd (fun b hb hS=>?_),(h.x k o ho).2⟩⟩;rcases hS with rfl | rfl
 ·exact(h.x k o ho).1.ne m1 (by decide) b hb rfl
 ·exact(h.x k o ho).2 hb
theorem Zc4 (bs gm gc gi gl:Nat)(I:IncS)(M:List Int)(w:World)(H:IncR w bs gm gc gi gl I)(HM:MemB w gm gc M)(x:Int)(hx:M[I.pos]?=some x) :
  Calls Tryz.prog 240 #[.pointer (some ⟨gi,0,none⟩)] w (Yc gm gc M (.int .i64 (x / 64)) w):=by
 have GE:=Hd (fun(W:World) (X:Ext w W)=>VG gm gc M I.pos x W (HM.ext X) hx);have k0:w.drew.cell? ⟨gi,0,none⟩=some (.pointer (some ⟨gm,0,none⟩)):=(H.b.cell 0);have k1:w.drew.cell? ⟨gi,1,none⟩=some (.int .i64 (I.pos:Int)):=(H.b.cell 1);clear H HM hx;generalize (I.pos:Int)=pos at *;go_enter Tryz.func240,Tryz.ntmps240;go_upto_region 3 with(fail);refine wp_region_any (by kernel_rfl) ?_
 change wpAny _ _ _ _ _ _ _ (World.drew _)
 refine Za 0 (.move (.tmp 0)) 114 (some 8) rfl (by kernel_rfl) Hq (by intro _;go_simp;try rfl) ?_;simp only[lay];refine Za 1 (.nilCheck (.tmp 8)) 0 (some 9) rfl (by kernel_rfl) Hq (by intro _;go_simp;try rfl) ?_;simp only[lay];refine Za 2 (.fieldAddr 279 (.tmp 9) 0) 0 (some 10) rfl (by kernel_rfl) Hq (by intro _;go_simp;try rfl) ?_;simp only[lay];refine Za 4 (.move (.tmp 0)) 114 (some 12) rfl (by kernel_rfl) Hq (by intro _;go_simp;try rfl) ?_;simp only[lay];refine Za 5 (.nilCheck (.tmp 12)) 0 (some 13) rfl (by kernel_rfl) Hq (by intro _;go_simp;try rfl) ?_;simp only[lay];refine Za 6 (.fieldAddr 279 (.tmp 13) 1) 0 (some 14) rfl (by kernel_rfl) Hq (by intro _;go_simp;try rfl) ?_;simp only[lay];refine Zm (n:=6) [(3,some 11),(7,some 15)] (fun | 3=>.pointer (some ⟨gm,0,none⟩) | 7=>.int .i64 pos | _=>undef) #[true,true,true,true,true,true,true,true,false,false,false,false,false,false] (by decide +kernel) ?_ ?_
 ·intro pS hpm uS hD K hK
  simp only[List.mem_cons,List.not_mem_nil,or_false] at hpm;rcases hpm with rfl | rfl
  ·exact Ze (T:=111) (x:=Operand.tmp 10) (t:=111) (d:=some 11) rfl (.pointer (some ⟨gi,0,none⟩)) (by kernel_rfl) (.pointer (some ⟨gm,0,none⟩)) (by go_simp) hK
  ·exact Ze (T:=3) (x:=Operand.tmp 14) (t:=3) (d:=some 15) rfl (.pointer (some ⟨gi,1,none⟩)) (by kernel_rfl) (.int .i64 pos) (by go_simp) hK
 simp only[Zc,Act.put,List.setIfInBounds_toArray,List.set_cons_zero,List.set_cons_succ];refine Zd 8 (by decide +kernel) (Zi (f:=295) (xs:=#[Operand.tmp 11,Operand.tmp 15]) (ts:=#[111,3]) (t:=166) (d:=some 16) rfl #[.pointer (some ⟨gm,0,none⟩),.int .i64 pos] (by go_simp) (by kernel_rfl) _ (GE.out _ (Ext.rf _).drew) ?_);rintro e w4 ⟨rfl,m4,d4⟩;have M4:=Hd m4;have D4:=Hd ((Mod.of_ext (show Ext w w.drew from(Ext.rf _).drew):Mod (CS gm gc) w w.drew).tr d4);clear m4 d4 GE k0 k1;refine⟨_,rfl,?_⟩
 try simp only[lay]
 refine Za 9 (.move (.tmp 16)) 166 (some 7) rfl (by kernel_rfl) Hq (by intro _;go_simp;try rfl) ?_;simp only[lay];refine Za 10 (.extract (.tmp 7) 0) 3 (some 17) rfl (by kernel_rfl) Hq (by intro _;go_simp;try rfl) ?_;simp only[lay];refine Za 11 (.extract (.tmp 7) 1) 27 (some 18) rfl (by kernel_rfl) Hq (by intro _;go_simp;try rfl) ?_;simp only[lay];refine Za 12 (.assign (.tmp 17)) 3 (some 3) rfl (by kernel_rfl) Hq (by intro _;go_simp;try rfl) ?_;simp only[lay];refine Za 13 (.assign (.tmp 18)) 27 (some 4) rfl (by kernel_rfl) Hq (by intro _;go_simp;try rfl) ?_;simp only[lay];refine wpAny_done (by kernel_rfl) ?_ _;go_simp;go_wp2_with (fail);go_ret;exact⟨rfl,M4.out,D4.out⟩
def Zay (xs:List Int)(c:Int)(w:World)(e:Ending)(w':World) : Prop:=∃ (A:Option Addr) (k:Nat),e=.returned (.tuple #[.slice A xs.length k,.int .i64 c])/\OwI w' w.heap.size A k xs/\Ext w w'
theorem Zc5 (bs gm gc gi gl:Nat)(I:IncS)(M:List Int)(w:World)(H:IncR w bs gm gc gi gl I)(HM:MemB w gm gc M)(c:Int)(k:Nat)(hx:M[I.pos]?=some (c*64+(k:Int)))(h0:0<=c)(h1:c<=1125899906842624)(hk:k<64)(o:OwL)(ho:I.rows[k]?=some o)(hl:o.xs.length<=2^44)(hr:I.rows.length<=64) :
  Calls Tryz.prog 106 #[.pointer (some ⟨gi,0,none⟩)] w (Zay o.xs c w):=by
 have PE:=Hd (fun(W:World) (X:Ext w W)=>Qt gm gc M I.pos _ W (HM.ext X) hx);have CL:=Hd (fun(W:World) (X:Ext w W)=>ZO o.A o.c o.xs W ((H.x k o ho).1.read.ext X) hl);have k0:w.drew.cell? ⟨gi,0,none⟩=some (.pointer (some ⟨gm,0,none⟩)):=(H.b.cell 0);have k1:w.drew.cell? ⟨gi,1,none⟩=some (.int .i64 (I.pos:Int)):=(H.b.cell 1);have k3:w.drew.cell? ⟨gi,3,none⟩=some (.slice (some ⟨gl,0,none⟩) I.rows.length I.rows.length):=(H.b.cell 3);have kr:w.drew.cell? ⟨gl,k,none⟩=some (.slice o.A o.xs.length o.c):=(H.r.cell k).trans (UH ho);have hkl:k<I.rows.length:=(List.getElem?_eq_some_iff.1 ho).1;have e1:bits .and .i64 (c*64+(k:Int)) 63=(k:Int):=by rw[Zc2 (by omega) (by omega)];omega
 have e2:(c*64+(k:Int)) / 64=c:=by omega
 have e3:(0:Int)<=(k:Int):=by omega
 have e4:(k:Int)<(I.rows.length:Int):=by omega
 clear H HM hx ho;generalize (I.pos:Int)=pos at *;generalize I.rows.length=n at *;generalize c*64+(k:Int)=x at *;obtain⟨A,cc,xs⟩:=o;simp only at *;go_enter Tryz.func106,Tryz.ntmps106;go_upto_region 3 with(fail);refine wp_region_any (by kernel_rfl) ?_
 change wpAny _ _ _ _ _ _ _ (World.drew _)
 refine Za 0 (.move (.tmp 0)) 114 (some 7) rfl (by kernel_rfl) Hq (by intro _;go_simp;try rfl) ?_;simp only[lay];refine Za 1 (.nilCheck (.tmp 7)) 0 (some 8) rfl (by kernel_rfl) Hq (by intro _;go_simp;try rfl) ?_;simp only[lay];refine Za 2 (.fieldAddr 279 (.tmp 8) 0) 0 (some 9) rfl (by kernel_rfl) Hq (by intro _;go_simp;try rfl) ?_;simp only[lay];refine Za 4 (.move (.tmp 0)) 114 (some 11) rfl (by kernel_rfl) Hq (by intro _;go_simp;try rfl) ?_;simp only[lay];refine Za 5 (.nilCheck (.tmp 11)) 0 (some 12) rfl (by kernel_rfl) Hq (by intro _;go_simp;try rfl) ?_;simp only[lay];refine Za 6 (.fieldAddr 279 (.tmp 12) 1) 0 (some 13) rfl (by kernel_rfl) Hq (by intro _;go_simp;try rfl) ?_;simp only[lay];refine Zm (n:=2) [(3,some 10),(7,some 14)] (fun | 3=>.pointer (some ⟨gm,0,none⟩) | 7=>.int .i64 pos | _=>undef) #[true,true,true,true,true,true,true,true,false,false] (by decide +kernel) ?_ ?_
 ·intro pS hpm uS hD K hK
  simp only[List.mem_cons,List.not_mem_nil,or_false] at hpm;rcases hpm with rfl | rfl
  ·exact Ze (T:=111) (x:=Operand.tmp 9) (t:=111) (d:=some 10) rfl (.pointer (some ⟨gi,0,none⟩)) (by kernel_rfl) (.pointer (some ⟨gm,0,none⟩)) (by go_simp) hK
  ·exact Ze (T:=3) (x:=Operand.tmp 13) (t:=3) (d:=some 14) rfl (.pointer (some ⟨gi,1,none⟩)) (by kernel_rfl) (.int .i64 pos) (by go_simp) hK
 simp only[Zc,Act.put,List.setIfInBounds_toArray,List.set_cons_zero,List.set_cons_succ];refine Zd 8 (by decide +kernel) (Zi (f:=184) (xs:=#[Operand.tmp 10,Operand.tmp 14]) (ts:=#[111,3]) (t:=3) (d:=some 15) rfl #[.pointer (some ⟨gm,0,none⟩),.int .i64 pos] (by go_simp) (by kernel_rfl) _ (PE.out _ (Ext.rf _).drew) ?_);rintro e w4 ⟨rfl,rfl⟩;refine⟨_,rfl,?_⟩
 try simp only[lay]
 refine Za 9 (.assign (.tmp 15)) 3 (some 4) rfl (by kernel_rfl) Hq (by intro _;go_simp;try rfl) ?_;simp only[lay];refine wpAny_done (by kernel_rfl) ?_ _;go_simp;have X4:Hid (Ext w w.drew):=Hd (Ext.rf _).drew;generalize w.drew=w4 at *;clear k0 k1 PE;go_wp2_with (fail);refine(CL.out _ (X4.out.tr (by(repeat (first | assumption | exact Ext.rf _ | apply Ext.drew | apply Ext.drewN | apply Ext.alloc))))).mono ?_;rintro e w5 ⟨A5,c5,rfl,o5,x5⟩;have y5:Ext w4 w5:=Ext.tr (a:=w4) XI x5;have X5:=Hd (X4.out.tr y5);have O5:=Hd (OwI.more (base':=w.heap.size) o5 (by have:=X4.out.size;first | omega | (simp;omega)));clear o5 x5 y5 CL;go_wp2_with (fail);exact bodyPost_ret (v:=.tuple #[.slice A5 xs.length c5,.int .i64 c]) (by simp[results,Tryz.results106,go_sem]) rfl ⟨A5,c5,rfl,O5.out,X5.out⟩
theorem VJ {a b:Int}(ha:-2147483648<=a/\a<=2147483647)(hb:-2147483648<=b/\b<=2147483647) : IntKind.i64.wrap (IntKind.u64.wrap (IntKind.u64.wrap a+IntKind.u64.wrap b))=a+b:=by
 simp only[IntKind.wrap,IntKind.signed,IntKind.bits];simp;omega
theorem Zgs (a b:Int)(ha:-2147483648<=a/\a<=2147483647)(hb:-2147483648<=b/\b<=2147483647)(sa:0<=a)(sb:0<=b)(w:World) : Calls Tryz.prog 331 #[.int .i64 a,.int .i64 b] w fun e w'=>e=.returned (.tuple #[.int .i64 (a+b),.bool true])/\Ext w w':=by
 have hs:=VJ ha hb;have e1:decide (a<0)=false:=by simp;omega
 have e2:decide (b<0)=false:=by simp;omega
 have e3:decide (a+b<0)=false:=by simp;omega
 generalize hc:a+b=c at *;clear hc ha hb sa sb;go_enter Tryz.func331,Tryz.ntmps331;go_wp2;go_ret2;exact⟨rfl,XI⟩
theorem Zgt (a b:Int)(ha:-2147483648<=a/\a<=2147483647)(hb:-2147483648<=b/\b<=2147483647)(sa:0<=a)(sb:b<0)(w:World) : Calls Tryz.prog 331 #[.int .i64 a,.int .i64 b] w fun e w'=>e=.returned (.tuple #[.int .i64 (a+b),.bool true])/\Ext w w':=by
 have hs:=VJ ha hb;have e1:decide (a<0)=false:=by simp;omega
 have e2:decide (b<0)=true:=by simp;omega
 generalize hc:a+b=c at *;clear hc ha hb sa sb;go_enter Tryz.func331,Tryz.ntmps331;go_wp2;go_ret2;exact⟨rfl,XI⟩
theorem Zgu (a b:Int)(ha:-2147483648<=a/\a<=2147483647)(hb:-2147483648<=b/\b<=2147483647)(sa:a<0)(sb:0<=b)(w:World) : Calls Tryz.prog 331 #[.int .i64 a,.int .i64 b] w fun e w'=>e=.returned (.tuple #[.int .i64 (a+b),.bool true])/\Ext w w':=by
 have hs:=VJ ha hb;have e1:decide (a<0)=true:=by simp;omega
 have e2:decide (b<0)=false:=by simp;omega
 generalize hc:a+b=c at *;clear hc ha hb sa sb;go_enter Tryz.func331,Tryz.ntmps331;go_wp2;go_ret2;exact⟨rfl,XI⟩
theorem Zgv (a b:Int)(ha:-2147483648<=a/\a<=2147483647)(hb:-2147483648<=b/\b<=2147483647)(sa:a<0)(sb:b<0)(w:World) : Calls Tryz.prog 331 #[.int .i64 a,.int .i64 b] w fun e w'=>e=.returned (.tuple #[.int .i64 (a+b),.bool true])/\Ext w w':=by
 have hs:=VJ ha hb;have e1:decide (a<0)=true:=by simp;omega
 have e2:decide (b<0)=true:=by simp;omega
 have e3:decide (a+b<0)=true:=by simp;omega
 generalize hc:a+b=c at *;clear hc ha hb sa sb;go_enter Tryz.func331,Tryz.ntmps331;go_wp2;go_ret2;exact⟨rfl,XI⟩
theorem Zc6 (a b:Int)(ha:-2147483648<=a/\a<=2147483647)(hb:-2147483648<=b/\b<=2147483647)(w:World) : Calls Tryz.prog 331 #[.int .i64 a,.int .i64 b] w fun e w'=>e=.returned (.tuple #[.int .i64 (a+b),.bool true])/\Ext w w':=by
 by_cases sa:0<=a<;>by_cases sb:0<=b
 ·exact Zgs a b ha hb sa sb w
 ·exact Zgt a b ha hb sa (by omega) w
 ·exact Zgu a b ha hb (by omega) sb w
 ·exact Zgv a b ha hb (by omega) (by omega) w
theorem Zev (gm gc:Nat)(M:List Int)(i:Nat)(x y:Int)(w:World)(HM:MemB w gm gc M)(hx:M[i]?=some x)(bx:-1073741824<=x/\x<=1073741823)(by_:-1073741824<=y/\y<=1073741823) :
  Calls Tryz.prog 306 #[.pointer (some ⟨gm,0,none⟩),.int .i64 (i:Int),.int .i64 y] w (Yc gm gc (M.set i (x+y)) (.tuple #[.int .i64 x,.int .i64 0]) w):=by
 have hi:i<M.length:=(List.getElem?_eq_some_iff.1 hx).1;have FI:=Hd (Wf gm gc M i w HM hi);have ST:=Hd (fun(W:World) (X:Ext w W)=>W8 gm gc M i x 4 (x+y) true W (HM.ext X) hx);have AD:=Hd (fun(W:World)=>Zc6 x y (by omega) (by omega) W);obtain⟨⟨st,k,c,o,n0,d,h1⟩,h2⟩:=id HM;have c0:=(h1.cell 0);have d0:w.cell? ⟨gc,i,none⟩=some (.int .i64 x):=(h2.cell i).trans (Xc hx);have hi0:(0:Int)<=(i:Int):=by omega
 have hi1:(i:Int)<(M.length:Int):=by omega
 clear h1 h2 hx HM bx by_;unfold Yc;generalize x+y=z at *;go_enter Tryz.func306,Tryz.ntmps306;go_wp2_with (fail);refine FI.out.mono ?_;rintro e w1 ⟨rfl,rfl⟩;go_wp2_with (fail);refine(AD.out _).mono ?_;rintro e w2 ⟨rfl,x2⟩;have X2:=Hd (Ext.tr (a:=w) XI x2);clear x2 AD;go_wp2_with (fail);refine(ST.out _ (X2.out.tr XI)).mono ?_;rintro e w3 ⟨rfl,m3,d3⟩;have D3:=Hd ((Mod.of_ext (X2.out.tr XI):Mod (CS gm gc) w _).tr d3);have M3:=Hd m3;clear m3 d3 ST;go_wp2_with (fail);exact bodyPost_ret (v:=.tuple #[.int .i64 x,.int .i64 0]) (by simp[results,Tryz.results306,go_sem]) rfl ⟨rfl,M3.out,D3.out⟩
def Xo (w:World)(gk gm b:Nat) : Prop:=Blk w gk 281 #[.pointer (some ⟨gm,0,none⟩),.int .i64 (b:Int)]
theorem V8 (gk gm b:Nat)(w:World)(H:Xo w gk gm b)(hb:b<=1048576) :
  Calls Tryz.prog 162 #[.pointer (some ⟨gk,0,none⟩)] w fun e w'=>e=.returned (.int .i64 ((b+0:Nat):Int))/\Ext w w':=by
 have c1:w.cell? ⟨gk,1,none⟩=some (.int .i64 (b:Int)):=(Blk.cell H 1);have e1:IntKind.i64.wrap ((b:Int)+1)=((b+1:Nat):Int):=by rw[show (b:Int)+1=((b+1:Nat):Int) by omega];exact IntWalk.i64_in _ (by omega)
 clear H;go_enter Tryz.func162,Tryz.ntmps162;go_wp2_with (go_quiet (fail));go_ret;exact⟨rfl,XI⟩
theorem VK (gk gm b:Nat)(w:World)(H:Xo w gk gm b)(hb:b<=1048576) :
  Calls Tryz.prog 163 #[.pointer (some ⟨gk,0,none⟩)] w fun e w'=>e=.returned (.int .i64 ((b+1:Nat):Int))/\Ext w w':=by
 have c1:w.cell? ⟨gk,1,none⟩=some (.int .i64 (b:Int)):=(Blk.cell H 1);have e1:IntKind.i64.wrap ((b:Int)+1)=((b+1:Nat):Int):=by rw[show (b:Int)+1=((b+1:Nat):Int) by omega];exact IntWalk.i64_in _ (by omega)
 clear H;go_enter Tryz.func163,Tryz.ntmps163;go_wp2_with (go_quiet (fail));go_ret;exact⟨rfl,XI⟩
theorem Zew (gk gm gc b:Nat)(M:List Int)(w:World)(H:Xo w gk gm b)(HM:MemB w gm gc M)(hb:b<=1048576)(x y:Int)(hx:M[b]?=some x)(bx:-1073741824<=x/\x<=1073741823)(by_:-1073741824<=y/\y<=1073741823) :
  Calls Tryz.prog 250 #[.pointer (some ⟨gk,0,none⟩),.int .i64 y] w fun e w'=>e=.returned (.tuple #[])/\MemB w' gm gc (M.set b (x+y))/\Mod (CS gm gc) w w':=by
 have BU:=Hd (fun(W:World) (X:Ext w W)=>Zev gm gc M b x y W (HM.ext X) hx bx by_);have OP:=Hd (fun(W:World) (X:Ext w W)=>V8 gk gm b W (Blk.ext H X) hb);have k0:w.cell? ⟨gk,0,none⟩=some (.pointer (some ⟨gm,0,none⟩)):=(Blk.cell H 0);have zk:=Blk.lt H;rw[Nat.add_zero] at OP;clear H HM hx;generalize (b:Int)=bb at *;go_enter Tryz.func250,Tryz.ntmps250;go_upto_region 1 with(fail);refine wp_region_any (by kernel_rfl) ?_
 change wpAny _ _ _ _ _ _ _ (World.drew _)
 refine Za 0 (.move (.tmp 0)) 115 (some 6) rfl (by kernel_rfl) Hq (by intro _;go_simp;try rfl) ?_;simp only[lay];refine Za 1 (.nilCheck (.tmp 6)) 0 (some 7) rfl (by kernel_rfl) Hq (by intro _;go_simp;try rfl) ?_;simp only[lay];refine Za 2 (.fieldAddr 281 (.tmp 7) 0) 0 (some 8) rfl (by kernel_rfl) Hq (by intro _;go_simp;try rfl) ?_;simp only[lay];refine Za 4 (.move (.tmp 0)) 115 (some 10) rfl (by kernel_rfl) Hq (by intro _;go_simp;try rfl) ?_;simp only[lay];refine Za 6 (.move (.tmp 1)) 3 (some 12) rfl (by kernel_rfl) Hq (by intro _;go_simp;try rfl) ?_;simp only[lay];refine Zh (n:=1) [(3,some 9),(5,some 11)] (Ext w) (VF (fun | 3=>some (.pointer (some ⟨gm,0,none⟩)) | 5=>some (.int .i64 bb) | _=>none) (fun i v W=>True)) Ext #[true,true,true,true,true,true,true,false] (by decide +kernel) (VF.stab ?_) ?_ ?_ (by first | exact(Ext.rf _).drew | exact Ext.rf _)
 ·intro j v W W' _ _ _;trivial
 ·intro pS hpm uS wS hRW hD K hK
  simp only[List.mem_cons,List.not_mem_nil,or_false] at hpm;rcases hpm with rfl | rfl
  ·( have rX:=Zb hRW zk k0;exact Ze (T:=111) (x:=Operand.tmp 8) (t:=111) (d:=some 9) rfl (.pointer (some ⟨gk,0,none⟩)) (by kernel_rfl) (.pointer (some ⟨gm,0,none⟩)) (by go_simp) (hK _ _ (VF.mk rfl) hRW (Ext.rf _)))
  ·( exact Zi (f:=162) (xs:=#[Operand.tmp 10]) (ts:=#[115]) (t:=3) (d:=some 11) rfl #[.pointer (some ⟨gk,0,none⟩)] (by go_simp) (by kernel_rfl) _ (OP.out _ hRW) (by rintro e w9 ⟨rfl,xx⟩;exact⟨_,rfl,hK _ _ (VF.mk rfl) (hRW.tr xx) xx⟩))
 intro u w3 hR3 hV;have h3:=(hV (3,some 9) (by simp)).k rfl;have h5:=(hV (5,some 11) (by simp)).k rfl;simp only[Zc,h3,h5];clear hV h3 h5
 try simp only[lay]
 refine Zd 7 (by decide +kernel) (Zi (f:=306) (xs:=#[Operand.tmp 9,Operand.tmp 11,Operand.tmp 12]) (ts:=#[111,3,3]) (t:=166) (d:=some 13) rfl #[.pointer (some ⟨gm,0,none⟩),.int .i64 bb,.int .i64 y] (by go_simp) (by kernel_rfl) _ (BU.out _ hR3) ?_);rintro e w4 ⟨rfl,m4,d4⟩;have M4:=Hd m4;have D4:=Hd ((Mod.of_ext hR3:Mod (CS gm gc) w w3).tr d4);clear m4 d4 BU OP hR3;refine⟨_,rfl,?_⟩
 try simp only[lay]
 refine wpAny_done (by kernel_rfl) ?_ _;go_simp;go_wp2_with (fail);go_end0;exact⟨rfl,M4.out,D4.out⟩
theorem ZfB (gk gm gc b:Nat)(M:List Int)(w:World)(H:Xo w gk gm b)(HM:MemB w gm gc M)(hb:b<=1048576)(x y:Int)(hx:M[b]?=some x)(hy:M[b+1]?=some y) :
  Calls Tryz.prog 253 #[.pointer (some ⟨gk,0,none⟩)] w fun e w'=>e=.returned (.tuple #[.int .i64 x,.int .i64 y])/\Ext w w':=by
 have P1:=Hd (fun(W:World) (X:Ext w W)=>(Qt gm gc M b x W (HM.ext X) hx).mono fun e w' h=>(⟨h.1,by rw[<-h.2];exact Ext.rf _⟩:e=.returned (.int .i64 x)/\Ext W w'));have P2:=Hd (fun(W:World) (X:Ext w W)=>(Qt gm gc M (b+1) y W (HM.ext X) hy).mono fun e w' h=>(⟨h.1,by rw[<-h.2];exact Ext.rf _⟩:e=.returned (.int .i64 y)/\Ext W w'));have OP:=Hd (fun(W:World) (X:Ext w W)=>V8 gk gm b W (Blk.ext H X) hb);have WO:=Hd (fun(W:World) (X:Ext w W)=>VK gk gm b W (Blk.ext H X) hb);have k0:w.cell? ⟨gk,0,none⟩=some (.pointer (some ⟨gm,0,none⟩)):=(Blk.cell H 0);have zk:=Blk.lt H;rw[Nat.add_zero] at OP;clear H HM hx hy;generalize ((b+1:Nat):Int)=b1 at *;generalize (b:Int)=bb at *;go_enter Tryz.func253,Tryz.ntmps253;go_upto_region 3 with(fail);refine wp_region_any (by kernel_rfl) ?_
 change wpAny _ _ _ _ _ _ _ (World.drew _)
 refine Za 0 (.move (.tmp 0)) 115 (some 6) rfl (by kernel_rfl) Hq (by intro _;go_simp;try rfl) ?_;simp only[lay];refine Za 1 (.nilCheck (.tmp 6)) 0 (some 7) rfl (by kernel_rfl) Hq (by intro _;go_simp;try rfl) ?_;simp only[lay];refine Za 2 (.fieldAddr 281 (.tmp 7) 0) 0 (some 8) rfl (by kernel_rfl) Hq (by intro _;go_simp;try rfl) ?_;simp only[lay];refine Za 4 (.move (.tmp 0)) 115 (some 10) rfl (by kernel_rfl) Hq (by intro _;go_simp;try rfl) ?_;simp only[lay];refine Za 7 (.move (.tmp 0)) 115 (some 13) rfl (by kernel_rfl) Hq (by intro _;go_simp;try rfl) ?_;simp only[lay];refine Za 8 (.nilCheck (.tmp 13)) 0 (some 14) rfl (by kernel_rfl) Hq (by intro _;go_simp;try rfl) ?_;simp only[lay];refine Za 9 (.fieldAddr 281 (.tmp 14) 0) 0 (some 15) rfl (by kernel_rfl) Hq (by intro _;go_simp;try rfl) ?_;simp only[lay];refine Za 11 (.move (.tmp 0)) 115 (some 17) rfl (by kernel_rfl) Hq (by intro _;go_simp;try rfl) ?_;simp only[lay];refine Zh (n:=2) [(3,some 9),(5,some 11),(6,some 12),(10,some 16),(12,some 18),(13,some 19)] (Ext w) (VF (fun | 3=>some (.pointer (some ⟨gm,0,none⟩)) | 5=>some (.int .i64 bb) | 6=>some (.int .i64 x) | 10=>some (.pointer (some ⟨gm,0,none⟩)) | 12=>some (.int .i64 b1) | 13=>some (.int .i64 y) | _=>none) (fun i v W=>True)) Ext #[true,true,true,true,true,true,true,true,true,true,true,true,true,true,false,false] (by decide +kernel) (VF.stab ?_) ?_ ?_ (by first | exact(Ext.rf _).drew | exact Ext.rf _)
 ·intro j v W W' _ _ _;trivial
 ·intro pS hpm uS wS hRW hD K hK
  simp only[List.mem_cons,List.not_mem_nil,or_false] at hpm;rcases hpm with rfl | rfl | rfl | rfl | rfl | rfl
  ·( have rX:=Zb hRW zk k0;exact Ze (T:=111) (x:=Operand.tmp 8) (t:=111) (d:=some 9) rfl (.pointer (some ⟨gk,0,none⟩)) (by kernel_rfl) (.pointer (some ⟨gm,0,none⟩)) (by go_simp) (hK _ _ (VF.mk rfl) hRW (Ext.rf _)))
  ·( exact Zi (f:=162) (xs:=#[Operand.tmp 10]) (ts:=#[115]) (t:=3) (d:=some 11) rfl #[.pointer (some ⟨gk,0,none⟩)] (by go_simp) (by kernel_rfl) _ (OP.out _ hRW) (by rintro e w9 ⟨rfl,xx⟩;exact⟨_,rfl,hK _ _ (VF.mk rfl) (hRW.tr xx) xx⟩))
  ·(have e3:uS 3=.pointer (some ⟨gm,0,none⟩):=(hD 3 (Zg (by kernel_rfl))).k rfl;have e5:uS 5=.int .i64 bb:=(hD 5 (Zg (by kernel_rfl))).k rfl;exact Zi (f:=184) (xs:=#[Operand.tmp 9,Operand.tmp 11]) (ts:=#[111,3]) (t:=3) (d:=some 12) rfl #[.pointer (some ⟨gm,0,none⟩),.int .i64 bb] (by go_simp) (Eq.trans (b:=#[uS 3,uS 5]) (by kernel_rfl) (by rw[e3,e5])) _ (P1.out _ hRW) (by rintro e w9 ⟨rfl,xx⟩;exact⟨_,rfl,hK _ _ (VF.mk rfl) (hRW.tr xx) xx⟩))
  ·( have rX:=Zb hRW zk k0;exact Ze (T:=111) (x:=Operand.tmp 15) (t:=111) (d:=some 16) rfl (.pointer (some ⟨gk,0,none⟩)) (by kernel_rfl) (.pointer (some ⟨gm,0,none⟩)) (by go_simp) (hK _ _ (VF.mk rfl) hRW (Ext.rf _)))
  ·( exact Zi (f:=163) (xs:=#[Operand.tmp 17]) (ts:=#[115]) (t:=3) (d:=some 18) rfl #[.pointer (some ⟨gk,0,none⟩)] (by go_simp) (by kernel_rfl) _ (WO.out _ hRW) (by rintro e w9 ⟨rfl,xx⟩;exact⟨_,rfl,hK _ _ (VF.mk rfl) (hRW.tr xx) xx⟩))
  ·(have e10:uS 10=.pointer (some ⟨gm,0,none⟩):=(hD 10 (Zg (by kernel_rfl))).k rfl;have e12:uS 12=.int .i64 b1:=(hD 12 (Zg (by kernel_rfl))).k rfl;exact Zi (f:=184) (xs:=#[Operand.tmp 16,Operand.tmp 18]) (ts:=#[111,3]) (t:=3) (d:=some 19) rfl #[.pointer (some ⟨gm,0,none⟩),.int .i64 b1] (by go_simp) (Eq.trans (b:=#[uS 10,uS 12]) (by kernel_rfl) (by rw[e10,e12])) _ (P2.out _ hRW) (by rintro e w9 ⟨rfl,xx⟩;exact⟨_,rfl,hK _ _ (VF.mk rfl) (hRW.tr xx) xx⟩))
 intro u w3 hR3 hV;have h3:=(hV (3,some 9) (by simp)).k rfl;have h5:=(hV (5,some 11) (by simp)).k rfl;have h6:=(hV (6,some 12) (by simp)).k rfl;have h10:=(hV (10,some 16) (by simp)).k rfl;have h12:=(hV (12,some 18) (by simp)).k rfl;have h13:=(hV (13,some 19) (by simp)).k rfl;simp only[Zc,h3,h5,h6,h10,h12,h13];clear hV h3 h5 h6 h10 h12 h13
 try simp only[lay]
 refine Za 14 (.assign (.tmp 12)) 3 (some 2) rfl (by kernel_rfl) Hq (by intro _;go_simp;try rfl) ?_;simp only[lay];refine Za 15 (.assign (.tmp 19)) 3 (some 3) rfl (by kernel_rfl) Hq (by intro _;go_simp;try rfl) ?_;simp only[lay];refine wpAny_done (by kernel_rfl) ?_ _;go_simp;go_wp2_with (fail);exact bodyPost_ret (v:=.tuple #[.int .i64 x,.int .i64 y]) (by simp[results,Tryz.results253,go_sem]) rfl ⟨rfl,hR3⟩
end
end Go.Proofs.YtocfmioihaefoaaGreatDoor
