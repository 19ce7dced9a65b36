/- parts, packed by a program -/
import Derived.Test.YtocfmioihaefoaaGreatDoorShellWritesP8
set_option maxRecDepth 100000
set_option maxHeartbeats 16000000
set_option linter.all false
namespace Go.Proofs.YtocfmioihaefoaaGreatDoor
open Go.ChangeAt Go.ChangeShapes Go.Deep Go.RowKit Go.WideShapes
section
def CopW (j:InstP)(v:Value)(w:World) : Prop:=∃ (A:Option Addr) (a:Nat) (B:Option Addr) (b:Nat) (C:Option Addr) (c:Nat),v=.agg #[.int .i64 j.kind,.int .i64 j.n,.int .i64 j.cap,.slice A j.weight.length a,.slice B j.value.length b,.slice C j.cost.length c]/\RInst w [.int .i64 j.kind,.int .i64 j.n,.int .i64 j.cap,.slice A j.weight.length a,.slice B j.value.length b,.slice C j.cost.length c] j
theorem CopW.ext (j:InstP) : ∀ v W W',CopW j v W->Ext W W'->CopW j v W':=fun v W W' h x=>by
 obtain⟨A,a,B,b,C,c,rfl,h⟩:=h;exact⟨A,a,B,b,C,c,rfl,h.ext x⟩
theorem ZfM (j:InstP)(vs:List Value)(w:World)(H:RInst w vs j)(hc:ZQ j=0)(hk:j.kind=2) :
  Calls Tryz.prog 48 #[.agg (List.toArray vs)] w fun e w'=>(∃ v,e=.returned v/\CopW j v w')/\Ext w w':=by
 have ok:=XD hc (by omega);refine(Zb1 j vs w H (by rw[ok.w];simp) (by rw[ok.v];simp) (by have:=ok.len;have:=ok.n2;omega) (fun r hr=>by have:=ok.row r hr;have:=ok.n2;omega)).mono ?_;rintro e w' ⟨A3,c3,B3,d3,C,cc,us,rfl,oa,ob,-,oc,ro,-,x⟩;exact⟨⟨_,rfl,A3,c3,B3,d3,C,cc,rfl,InstO.rinst (base:=w.heap.size) ⟨A3,c3,B3,d3,C,cc,us,rfl,oa,ob,oc,ro⟩ H.ints⟩,x⟩
theorem ZeL : (Tryz.prog.info? 123).map (fun i=>(i.zero,i.size,i.bytes))=some (some (.pointer none),1,8):=by kernel_rfl
structure Car (E:Env)(w:World)(M:List Int)(P:PoolS)(gM gP:Nat)(mc:Array Value)(zo:Nat)(A:Option Addr)(k:Nat)(h:ShS)(wl:List (Nat×Nat)) : Prop where
 s:St E w M P
 b:Blk w gM 120 mc
 p:Blk w gP 3 #[.int .i64 0,.int .i64 0]
 o:OwI w zo A k []
 ws:∀ x∈wl,WkB w x.1 h (wk0 x.2)
section
variable {E:Env} {w w':World} {M:List Int} {P:PoolS} {gM gP zo k:Nat} {mc:Array Value} {A:Option Addr} {h:ShS} {wl:List (Nat×Nat)}
theorem Car.ext (c:Car E w M P gM gP mc zo A k h wl)(x:Ext w w') : Car E w' M P gM gP mc zo A k h wl:=⟨c.s.ext x,c.b.ext x,c.p.ext x,c.o.ext x,fun y hy=>Blk.ext (c.ws y hy) x⟩
theorem Car.app (c:Car E w M P gM gP mc zo A k h wl){base:Nat}(m:ModT base [123] w w') : Car E w' M P gM gP mc zo A k h wl :=
 ⟨c.s.modT m (by decide) (by decide) (by decide) (by decide) (by decide) (by decide) (by decide) (by decide) (by decide),c.b.modT m (by decide),c.p.modT m (by decide),c.o.modT m (by decide),fun y hy=>Blk.modT (c.ws y hy) m (by decide)⟩
theorem Car.set (c:Car E w M P gM gP mc zo A k h wl)(i:Nat)(v:Value){mc':Array Value}(hv:mc.setIfInBounds i v=mc') : Car E (w.setCell ⟨gM,i,none⟩ v) M P gM gP mc' zo A k h wl:=by
 have m:ModT 0 [120] w (w.setCell ⟨gM,i,none⟩ v):=ModT.set w c.b (by simp) (Nat.zero_le _) i v;exact⟨c.s.modT m (by decide) (by decide) (by decide) (by decide) (by decide) (by decide) (by decide) (by decide) (by decide),hv ▸ c.b.set i v,c.p.modT m (by decide),c.o.modT m (by decide),fun y hy=>Blk.modT (c.ws y hy) m (by decide)⟩
theorem Car.more (c:Car E w M P gM gP mc zo A k h wl){x:Nat×Nat}(hx:WkB w x.1 h (wk0 x.2)) : Car E w M P gM gP mc zo A k h (wl++[x]) :=
 ⟨c.s,c.b,c.p,c.o,fun y hy=>(List.mem_append.1 hy).elim (c.ws y) (fun h=>by rw[List.mem_singleton.1 h];exact hx)⟩
end
def mas (n cap:Int)(wv vv cv:Value)(E:Env)(gk gt gW cW gP:Nat) : MaS:=⟨2,n,cap,wv,vv,cv,E.gm,⟨gk,E.gp,E.gH,2,E.cH,E.gi,E.gu,gt⟩,gW,2,cW,gP⟩
structure NewS (j:InstP)(gt:Nat)(c bb:Int)(w w1 w':World)(E:Env)(M:List Int)(A:Option Addr)(k gM gk gW cW gP gw0 gw1 ga bas zo:Nat)(wv vv cv:Value)(cw:Array Value) : Prop where
 s:St E w' (QJ M) (Yd (Xm A k bb))
 ma:MaB w' gM (mas j.n j.cap wv vv cv E gk gt gW cW gP)
 p:Blk w' gP 3 #[.int .i64 0,.int .i64 0]
 o:OwI w' zo A k []
 k0:WkB w' gw0 ⟨gk,E.gp,E.gH,2,E.cH,E.gi,E.gu,gt⟩ (wk0 0)
 k1:WkB w' gw1 ⟨gk,E.gp,E.gH,2,E.cH,E.gi,E.gu,gt⟩ (wk0 1)
 wl:Blk w' gW 123 cw/\cw[0]?=some (ptr gw0)/\cw[1]?=some (ptr gw1)
 kn:FaceB w1 gk 176 ga/\KernA w1 bas ga j.cost
 kx:Ext w1 w'
 x:Ext w w1
 L:Lay0 M c
 z:w1.heap.size<=E.gm/\w1.heap.size<=E.gc/\w1.heap.size<=E.go/\w1.heap.size<=gP/\w1.heap.size<=gw0/\w1.heap.size<=gw1
 y:E.gc<zo/\gP<E.gc/\zo<=gw0/\gw0<gw1
 v:gP<E.bs/\E.go<E.gl/\E.bs<=E.gm
def Zhp (j:InstP)(gt:Nat)(xs:List Int)(c bb:Int)(w:World)(e:Ending)(w':World) : Prop:=∃ (gM:Nat) (w1:World) (E:Env) (M:List Int) (A:Option Addr) (k gk gW cW gP gw0 gw1 ga bas zo:Nat) (wv vv cv:Value) (cw:Array Value),e=.returned (.tuple #[.pointer (some ⟨gM,0,none⟩),.int .i64 0])/\E.xs=xs/\NewS j gt c bb w w1 w' E M A k gM gk gW cW gP gw0 gw1 ga bas zo wv vv cv cw
theorem ZeM (j:InstP)(vs:List Value)(gt:Nat)(xs:List Int)(c bb:Int)(w:World)(H:RInst w vs j)(hc:ZQ j=0)(hk:j.kind=2)(hT:Tab w)(hb:XO j.cost []=(bb,0))(hcr:0<=c/\c<=1125899906842624)(hxl:xs.length<=64)
  (HG:∀ W vs',RInst W vs' j->Tab W->Calls Tryz.prog 91 #[.agg (List.toArray vs')] W fun e w'=>(∃ A k,e=.returned (.tuple #[.slice A xs.length k,.int .i64 c,.int .i64 0])/\RdI w' A xs)/\Ext W w') :
  Calls Tryz.prog 31 #[.agg (List.toArray vs),.agg #[.int .i64 2,.int .i64 64,.int .i64 3],.pointer (some ⟨gt,0,none⟩)] w (Zhp j gt xs c bb w):=by
 have ok:=JL (XD hc (by omega));have OF:=Hd (fun(W:World) (X:Ext w W)=>Zg2 j vs W (H.ext X) hc hk);have CP:=Hd (fun(W:World) (X:Ext w W)=>ZfM j vs W (H.ext X) hc hk);obtain⟨kind,nn,cap,xw,xv,co⟩:=j;obtain⟨A,a,B,b,D,d,rfl,-,-,-⟩:=H;simp only at hk hb ok HG OF CP;subst hk;have mk2:∀ u:World,(Instr.makeSlice 22 (.int .i64 2) (.int .i64 2)).run Tryz.prog u=.ok (.slice (some ⟨u.heap.size,0,none⟩) 2 2) (u.alloc (.cells #[.int .i64 0,.int .i64 0] 3)):=fun u=>by kernel_rfl
 have et:∀ W,(binOp .eql 81 (.pointer (some ⟨gt,0,none⟩)) (.pointer none)).run Tryz.prog W=.ok (.bool false) W:=fun W=>by kernel_rfl
 have FN:=Hd (fun(W:World)=>Zdi 2 64 3 W (by decide) (by decide) (by decide));have B0:Hid (Blk ((w.alloc (.cells #[.int .i64 2,.int .i64 nn,.int .i64 cap,.slice A xw.length a,.slice B xv.length b,.slice D co.length d] 74)).alloc (.cells #[.int .i64 2,.int .i64 64,.int .i64 3] 31)) w.heap.size 74 #[.int .i64 2,.int .i64 nn,.int .i64 cap,.slice A xw.length a,.slice B xv.length b,.slice D co.length d]):=Hd (.alloc (.new rfl) _);have C0:Hid (Blk ((w.alloc (.cells #[.int .i64 2,.int .i64 nn,.int .i64 cap,.slice A xw.length a,.slice B xv.length b,.slice D co.length d] 74)).alloc (.cells #[.int .i64 2,.int .i64 64,.int .i64 3] 31)) (w.heap.size+1) 31 #[.int .i64 2,.int .i64 64,.int .i64 3]):=Hd (.new (by simp));have X0:Hid (Ext w ((w.alloc (.cells #[.int .i64 2,.int .i64 nn,.int .i64 cap,.slice A xw.length a,.slice B xv.length b,.slice D co.length d] 74)).alloc (.cells #[.int .i64 2,.int .i64 64,.int .i64 3] 31))):=Hd (((Ext.rf w).alloc _).alloc _);replace hc:=Hd hc;replace hb:=Hd hb;replace hT:=Hd hT;replace HG:=Hd HG;replace ok:=Hd ok;go_enter Tryz.func31,Tryz.ntmps31;go_upto_region 1 with(fail);generalize (w.alloc (.cells #[.int .i64 2,.int .i64 nn,.int .i64 cap,.slice A xw.length a,.slice B xv.length b,.slice D co.length d] 74)).alloc (.cells #[.int .i64 2,.int .i64 64,.int .i64 3] 31)=w0 at *;obtain⟨gI,hgI⟩:∃ gI,gI=w.heap.size:=⟨_,rfl⟩;obtain⟨gf,hgf⟩:∃ gf,gf=w.heap.size+1:=⟨_,rfl⟩;rw[<-hgI] at B0;rw[<-hgf] at C0;rw[<-hgf,<-hgI];have zI:=B0.out.lt;have zf:=C0.out.lt;replace hgI:=Hd hgI;replace hgf:=Hd hgf;have i0:w0.cell? ⟨gI,0,none⟩=some (.int .i64 2):=(B0.out.cell 0);have i1:w0.cell? ⟨gI,1,none⟩=some (.int .i64 nn):=(B0.out.cell 1);have i2:w0.cell? ⟨gI,2,none⟩=some (.int .i64 cap):=(B0.out.cell 2);have i3:w0.cell? ⟨gI,3,none⟩=some (.slice A xw.length a):=(B0.out.cell 3);have i4:w0.cell? ⟨gI,4,none⟩=some (.slice B xv.length b):=(B0.out.cell 4);have i5:w0.cell? ⟨gI,5,none⟩=some (.slice D co.length d):=(B0.out.cell 5);go_wp2_with (go_quiet (fail));refine(OF.out _ (X0.out.tr XI)).mono ?_;rintro e w1 ⟨⟨gk,ga,bas,rfl,fb,ka⟩,x1⟩;have X1:=Hd (Ext.tr (a:=w0) XI x1);have X01:=X1;replace fb:=Hd fb;replace ka:=Hd ka;clear x1 OF i0 i1 i2 i3 i4 i5;have c0:w1.cell? ⟨gf,0,none⟩=some (.int .i64 2):=Zb X1.out zf (C0.out.cell 0);have c1:w1.cell? ⟨gf,1,none⟩=some (.int .i64 64):=Zb X1.out zf (C0.out.cell 1);have c2:w1.cell? ⟨gf,2,none⟩=some (.int .i64 3):=Zb X1.out zf (C0.out.cell 2);go_upto_region 4 with(go_quiet (fail));go_wp2_with (go_quiet (fail));refine(FN.out _).mono ?_;rintro e w2 ⟨rfl,x2⟩;have X2:=Hd (X1.out.tr (Ext.tr (a:=w1) XI x2));have K2:=Hd (Ext.tr (a:=w1) XI x2);clear x2 FN c0 c1 c2 X1;go_upto_region 6 with(go_quiet (fail));refine wp_region_any (by kernel_rfl) ?_
 change wpAny _ _ _ _ _ _ _ (World.drew _)
 refine Za 2 (.fieldAddr 31 (.tmp 4) 0) 0 (some 35) rfl (by kernel_rfl) Hq (by intro _;go_simp;try rfl) ?_;simp only[lay];have BI:=B0.out.ext X2.out;have i0:=(BI.cell 0);have i1:=(BI.cell 1);have i2:=(BI.cell 2);have i3:=(BI.cell 3);have i4:=(BI.cell 4);have i5:=(BI.cell 5);have zI2:=BI.lt;have c0:w2.cell? ⟨gf,0,none⟩=some (.int .i64 2):=Zb X2.out zf (C0.out.cell 0);have zf2:gf<w2.heap.size:=by have:=X2.out.size;omega
 have rI:Hid (∀ W,Ext w2 W->W.cell? ⟨gI,0,none⟩=some (.int .i64 2)/\W.cell? ⟨gI,1,none⟩=some (.int .i64 nn)/\W.cell? ⟨gI,2,none⟩=some (.int .i64 cap)/\W.cell? ⟨gI,3,none⟩=some (.slice A xw.length a)/\W.cell? ⟨gI,4,none⟩=some (.slice B xv.length b)/\W.cell? ⟨gI,5,none⟩=some (.slice D co.length d)):=Hd fun W X=>⟨Zb X zI2 i0,Zb X zI2 i1,Zb X zI2 i2,Zb X zI2 i3,Zb X zI2 i4,Zb X zI2 i5⟩
 clear i0 i1 i2 i3 i4 i5;refine Zh (n:=3) [(0,some 33),(1,some 34),(3,some 36),(4,some 37)] (Ext w2) (VF (fun | 0=>some (.agg #[.int .i64 2,.int .i64 nn,.int .i64 cap,.slice A xw.length a,.slice B xv.length b,.slice D co.length d]) | 3=>some (.int .i64 2) | _=>none) (fun i v W=>(i=1->(CopW ⟨2,nn,cap,xw,xv,co⟩) v W)/\(i=4->∃ z,v=.slice (some ⟨z,0,none⟩) 2 2/\Blk W z 3 #[.int .i64 0,.int .i64 0]/\w2.heap.size<=z))) Ext #[true,true,true,true,true,false,false,false] (by decide +kernel) (VF.stab ?_) ?_ ?_ (by first | exact(Ext.rf _).drew | exact Ext.rf _)
 ·intro j v W W' _ gz hx
  obtain⟨g0,g1⟩:=gz;exact⟨fun h=>(CopW.ext _) _ _ _ (g0 h) hx,fun h=>(g1 h).imp fun z hz=>⟨hz.1,hz.2.1.ext hx,hz.2.2⟩⟩
 ·intro pS hpm uS wS hRW hD K hK
  simp only[List.mem_cons,List.not_mem_nil,or_false] at hpm;rcases hpm with rfl | rfl | rfl | rfl
  ·( have rX:=rI.out _ hRW;exact Ze (T:=74) (x:=Operand.tmp 3) (t:=74) (d:=some 33) rfl (.pointer (some ⟨gI,0,none⟩)) (by kernel_rfl) (.agg #[.int .i64 2,.int .i64 nn,.int .i64 cap,.slice A xw.length a,.slice B xv.length b,.slice D co.length d]) (by go_simp) (hK _ _ (VF.mk rfl) hRW (Ext.rf _)))
  ·(have e0:uS 0=.agg #[.int .i64 2,.int .i64 nn,.int .i64 cap,.slice A xw.length a,.slice B xv.length b,.slice D co.length d]:=(hD 0 (Zg (by kernel_rfl))).k rfl;exact Zi (f:=48) (xs:=#[Operand.tmp 33]) (ts:=#[74]) (t:=74) (d:=some 34) rfl #[.agg #[.int .i64 2,.int .i64 nn,.int .i64 cap,.slice A xw.length a,.slice B xv.length b,.slice D co.length d]] (by go_simp) (Eq.trans (b:=#[uS 0]) (by kernel_rfl) (by rw[e0])) _ (CP.out _ (X0.out.tr (X2.out.tr hRW))) (by rintro e w9 ⟨⟨v9,rfl,pv⟩,xx⟩;exact⟨_,rfl,hK _ _ (VF.mg rfl ⟨(fun _=>pv),(fun h=>absurd h (by decide))⟩) (hRW.tr xx) xx⟩))
  ·( have rX:=Zb hRW zf2 c0;exact Ze (T:=3) (x:=Operand.tmp 35) (t:=3) (d:=some 36) rfl (.pointer (some ⟨gf,0,none⟩)) (by kernel_rfl) (.int .i64 2) (by go_simp) (hK _ _ (VF.mk rfl) hRW (Ext.rf _)))
  ·(have e3:uS 3=.int .i64 2:=(hD 3 (Zg (by kernel_rfl))).k rfl;exact Zl (op:=Op.makeSlice 22 (Operand.tmp 36) (Operand.tmp 36)) (t:=22) (d:=some 37) rfl _ (by simp only[Zc,Act.put,List.setIfInBounds_toArray,List.set_cons_zero,List.set_cons_succ];unfold Zj;(try go_simp);(try rfl)) (hK _ _ (VF.mg rfl ⟨(fun h=>absurd h (by decide)),(fun _=>⟨_,rfl,.new rfl,hRW.size⟩)⟩) (hRW.alloc _) ((Ext.rf _).alloc _)))
 intro u w3 hR3 hV;have h0:=(hV (0,some 33) (by simp)).k rfl;have h3:=(hV (3,some 36) (by simp)).k rfl;obtain⟨pkz,h4,pkb,pkl⟩:=((hV (4,some 37) (by simp)).g rfl).2 rfl;obtain⟨A3,a3,B3,b3,C3,c3,h1,rc⟩:=((hV (1,some 34) (by simp)).g rfl).1 rfl;simp only[Zc,h0,h1,h3,h4];clear hV h0 h1 h3 h4
 try simp only[lay]
 replace rc:=Hd rc;replace pkb:=Hd pkb;have K3:=Hd (K2.out.tr hR3);have X3:=Hd (X2.out.tr hR3);have z13:Hid (w1.heap.size<=w3.heap.size):=Hd K3.out.size;have K2s:Hid (w2.heap.size<=w3.heap.size):=Hd hR3.size;have K12:Hid (w1.heap.size<=pkz):=Hd (Nat.le_trans K2.out.size pkl);have zpk:Hid (pkz<w3.heap.size):=Hd pkb.out.lt;clear rI zI2 c0 BI K2 CP hR3 mk2;refine Za 5 (.build 120 #[(0,.tmp 34),(4,.tmp 37)]) 120 (some 38) rfl (by kernel_rfl) Hq (by intro _;go_simp;try rfl) ?_;simp only[lay];refine Zd 6 (by decide +kernel) (Zl (op:=Op.box 120 (Operand.tmp 38)) (t:=78) (d:=some 39) rfl _ (by unfold Zj;go_simp;first | rfl | exact⟨rfl,rfl⟩) ?_)
 try simp only[lay]
 refine Za 7 (.assign (.tmp 39)) 78 (some 10) rfl (by kernel_rfl) Hq (by intro _;go_simp;try rfl) ?_;simp only[lay];refine wpAny_done (by kernel_rfl) ?_ _;go_simp;have BM:=Hd (Blk.new (w:=w3) (g:=w3.heap.size) (cs:=mcv (⟨2,nn,cap,.slice A3 xw.length a3,.slice B3 xv.length b3,.slice C3 co.length c3⟩:MIn) (.pointer none) (.pointer none) (.pointer none) (.slice none 0 0) (.pointer none) (.pointer none) (.pointer none) (.slice none 0 0) (.slice (some ⟨pkz,0,none⟩) 2 2)) (t:=120) rfl);have XA:=(Ext.rf w3).alloc (.cells (mcv (⟨2,nn,cap,.slice A3 xw.length a3,.slice B3 xv.length b3,.slice C3 co.length c3⟩:MIn) (.pointer none) (.pointer none) (.pointer none) (.slice none 0 0) (.pointer none) (.pointer none) (.pointer none) (.slice none 0 0) (.slice (some ⟨pkz,0,none⟩) 2 2)) 120);have K4:=Hd (K3.out.tr XA);have X4:=Hd (X3.out.tr XA);have Y4:=Hd XA;clear XA K3 X3;unfold mcv at BM X4 K4 Y4;simp only at BM X4 K4 Y4;generalize hw4:w3.alloc _=w4 at *;obtain⟨gM,hgM⟩:∃ gM,gM=w3.heap.size:=⟨_,rfl⟩;rw[<-hgM] at BM;rw[<-hgM];replace hgM:=Hd hgM;replace hw4:=Hd hw4;have k7:w4.cell? ⟨gM,7,none⟩=some (.pointer none):=(BM.out.cell 7);have f7:=BM.out.free 7;have B5:=BM.out.set 7 (.pointer (some ⟨gk,0,none⟩));have k12:(w4.setCell ⟨gM,7,none⟩ (.pointer (some ⟨gk,0,none⟩))).cell? ⟨gM,12,none⟩=some (.pointer none):=(B5.cell 12);have f12:=B5.free 12;have B6:Hid (Blk ((w4.setCell ⟨gM,7,none⟩ (.pointer (some ⟨gk,0,none⟩))).setCell ⟨gM,12,none⟩ (.pointer (some ⟨gt,0,none⟩))) gM 120 (mcv (⟨2,nn,cap,.slice A3 xw.length a3,.slice B3 xv.length b3,.slice C3 co.length c3⟩:MIn) (.pointer none) (.pointer (some ⟨gk,0,none⟩)) (.pointer none) (.slice none 0 0) (.pointer none) (.pointer none) (.pointer (some ⟨gt,0,none⟩)) (.slice none 0 0) (.slice (some ⟨pkz,0,none⟩) 2 2))):=Hd (B5.set 12 (.pointer (some ⟨gt,0,none⟩)));have D6:Mod (fun b=>b=gM) w4 ((w4.setCell ⟨gM,7,none⟩ (.pointer (some ⟨gk,0,none⟩))).setCell ⟨gM,12,none⟩ (.pointer (some ⟨gt,0,none⟩))):=Mod.set (S:=fun b=>b=gM) (p:=⟨gM,12,none⟩) (Mod.set (S:=fun b=>b=gM) (p:=⟨gM,7,none⟩) (Mod.rf w4) (.inl rfl) _) (.inl rfl) _;have hgM':∀ k,k<w3.heap.size->¬k=gM:=fun k hk e=>by have:=hgM.out;omega
 have Y6:=Hd (Ext.mod Y4.out D6 hgM');have K6:=Hd (Ext.mod K4.out D6 (fun k hk e=>by have:=hgM.out;have:=K4.out.size;have:=Y4.out.size;have:=z13.out;omega));have X6:=Hd (Ext.mod X4.out D6 (fun k hk e=>by have:=hgM.out;have:=X2.out.size;have:=K2s.out;omega));go_upto_region 8 with(go_quiet (fail));clear k7 f7 k12 f12 B5 D6 K4 X4 Y4 BM;generalize (w4.setCell ⟨gM,7,none⟩ (.pointer (some ⟨gk,0,none⟩))).setCell ⟨gM,12,none⟩ (.pointer (some ⟨gt,0,none⟩))=w6 at *;have c0:w6.cell? ⟨gf,0,none⟩=some (.int .i64 2):=Zb X6.out zf (C0.out.cell 0);have c1:w6.cell? ⟨gf,1,none⟩=some (.int .i64 64):=Zb X6.out zf (C0.out.cell 1);have c2:w6.cell? ⟨gf,2,none⟩=some (.int .i64 3):=Zb X6.out zf (C0.out.cell 2);have z03:w0.heap.size<=w3.heap.size:=by have:=X2.out.size;have:=K2s.out;omega
 have hg0:Hid (∀ k,k<w0.heap.size->¬k=gM):=Hd fun k hk=>hgM' k (by omega)
 have hg1:Hid (∀ k,k<w1.heap.size->¬k=gM):=Hd fun k hk=>hgM' k (by have:=z13.out;omega)
 have hg3:=Hd hgM';clear hgM';have MC:=Hd (fun(W:World) (X:Ext w6 W)=>ZbK w6.heap.size gM (⟨2,nn,cap,.slice A3 xw.length a3,.slice B3 xv.length b3,.slice C3 co.length c3⟩:MIn) gk gt pkz 2 xs c W X.size hcr hxl (B6.out.ext X) (fun U d=>HG.out U _ (rc.out.ext (Ext.mod (Y6.out.tr X) d hg3.out)) (hT.out.ext (X0.out.tr (Ext.mod (X6.out.tr X) d hg0.out)))));go_wp2_with (go_quiet (fail));refine(MC.out _ XI).mono ?_;rintro e w7 ⟨rfl,gm,gc,gp,gn,go,gH,cH,gh0,gh1,gi,gl,gu,ch,A9,k9,M,B7,⟨hc7,e0,e1⟩,m7,L7,p7,h07,h17,i7,u7,⟨⟨zm,zc⟩,⟨zo,zn⟩,zgl⟩,d7⟩;have K7:=Hd (Ext.mod (K6.out.tr XI) d7 hg1.out);have X7:=Hd (Ext.mod (X6.out.tr XI) d7 hg0.out);have Y7:=Hd (Ext.mod (Y6.out.tr XI) d7 hg3.out);have zm':w6.heap.size<=gm:=zm;have zc':w6.heap.size<=gc:=zc;have zo':w6.heap.size<=go:=zo;have zn':w6.heap.size<=gn:=zn;have S7:Hid (St ⟨w6.heap.size,gm,gc,gp,gn,go,gH,cH,gh0,gh1,gi,gl,gu,ch,A9,k9,xs⟩ w7 M (Yd (ZH 64))):=Hd ⟨hc7,e0,e1,m7,p7,h07,h17,i7,u7⟩;replace B7:=Hd B7;replace L7:=Hd L7;clear d7 MC B6 c0 c1 c2 rc hc7 e0 e1 m7 p7 h07 h17 i7 u7 zm zc zo zn HG;have RO:=Hd (fun(W:World) (X:Ext w7 W)=>Zdo w6.heap.size gM gm gc gp gn go gH cH gh0 gk _ ch M c bb W (B7.out.ext X) rfl rfl rfl (S7.out.hc.ext X) S7.out.c0 (S7.out.m.ext X) L7.out (S7.out.p.ext X) (Blk.ext S7.out.h0 X) (fun U Y=>ZaT (fb.out.ext (K7.out.tr (X.tr Y))) (ka.out.ext (K7.out.tr (X.tr Y))) ok.out (hT.out.ext (X0.out.tr (X7.out.tr (X.tr Y)))) hb.out));go_upto_region 11 with(go_quiet (fail));go_wp2_with (go_quiet (fail));refine(RO.out _ XI).mono ?_;rintro e w8 ⟨rfl,A8,k8,p8,o8,m8,d8⟩;have d8size:w7.heap.size<=w8.heap.size:=d8.size;have K8:=Hd (Ext.mod (K7.out.tr XI) d8 (fun k hk h=>by have:=K6.out.size;rcases h with h | h | h<;>omega));have X8:=Hd (Ext.mod (X7.out.tr XI) d8 (fun k hk h=>by have:=X6.out.size;rcases h with h | h | h<;>omega));have Y8:=Hd (Ext.mod (Y7.out.tr XI) d8 (fun k hk h=>by have:=Y6.out.size;rcases h with h | h | h<;>omega));have B8:=Hd (Blk.mod (B7.out.ext (w':=_) XI) d8 (R3.no (S7.out.m.ext (by(repeat (first | assumption | exact Ext.rf _ | apply Ext.drew | apply Ext.drewN | apply Ext.alloc)))) (S7.out.p.ext XI) (B7.out.ext (w':=_) XI) (by decide) (by decide) (by decide)));have S8:=Hd (St.root (S7.out.ext (w':=_) XI) m8 p8 d8);have P8:=Hd (pkb.out.ext Y8.out);have o8':Hid (OwI w8 w7.heap.size A8 k8 []):=Hd o8;have hy:Hid (gc<w7.heap.size/\pkz<gc/\w7.heap.size<=w8.heap.size):=Hd ⟨S7.out.m.lt.2,by have:=zpk.out;have:=Y6.out.size;omega,d8size⟩;have Q8:Hid (Car ⟨w6.heap.size,gm,gc,gp,gn,go,gH,cH,gh0,gh1,gi,gl,gu,ch,A9,k9,xs⟩ w8 (QJ M) (Yd (Xm A8 k8 bb)) gM pkz (mcv (⟨2,nn,cap,.slice A3 xw.length a3,.slice B3 xv.length b3,.slice C3 co.length c3⟩:MIn) (.pointer (some ⟨gm,0,none⟩)) (.pointer (some ⟨gk,0,none⟩)) (.pointer (some ⟨gp,0,none⟩)) (.slice (some ⟨gH,0,none⟩) 2 cH) (.pointer (some ⟨gi,0,none⟩)) (.pointer (some ⟨gu,0,none⟩)) (.pointer (some ⟨gt,0,none⟩)) (.slice none 0 0) (.slice (some ⟨pkz,0,none⟩) 2 2)) w7.heap.size A8 k8 ⟨gk,gp,gH,2,cH,gi,gu,gt⟩ []):=Hd ⟨S8.out,B8.out,P8.out,o8,by simp⟩;clear d8 m8 p8 o8 o8' RO B7 S7 K7 X7 Y7 B8 S8 P8;have c0:w8.cell? ⟨gf,0,none⟩=some (.int .i64 2):=Zb X8.out zf (C0.out.cell 0);obtain⟨i0,hi,hz0,hz1,hz2⟩:=info_parts ZeL;replace hi:=Hd hi;replace hz0:=Hd hz0;replace hz1:=Hd hz1;replace hz2:=Hd hz2;have Zz8:w8.heap.size<=w8.heap.size:=Nat.le_refl _;have K8z:Hid (w1.heap.size<=w8.heap.size):=Hd K8.out.size;have X8z:Hid (w0.heap.size<=w8.heap.size):=Hd X8.out.size;have WW8:=Hd (OwV.nil w8 w8.heap.size 123 1);go_upto_region 14 with(go_quiet (fail));go_wp2_with (go_quiet (fail));clear c0;refine wp_loop_rounds 3 ?_;rw[rounds_succ];have k7:w8.cell? ⟨gM,7,none⟩=some (.pointer (some ⟨gk,0,none⟩)):=(Q8.out.b.cell 7);have k8:w8.cell? ⟨gM,8,none⟩=some (.pointer (some ⟨gp,0,none⟩)):=(Q8.out.b.cell 8);have k9:w8.cell? ⟨gM,9,none⟩=some (.slice (some ⟨gH,0,none⟩) 2 cH):=(Q8.out.b.cell 9);have k10:w8.cell? ⟨gM,10,none⟩=some (.pointer (some ⟨gi,0,none⟩)):=(Q8.out.b.cell 10);have k11:w8.cell? ⟨gM,11,none⟩=some (.pointer (some ⟨gu,0,none⟩)):=(Q8.out.b.cell 11);have k12:w8.cell? ⟨gM,12,none⟩=some (.pointer (some ⟨gt,0,none⟩)):=(Q8.out.b.cell 12);have WN:=Hd (fun(W:World) (X:Ext w8 W)=>ZaM ⟨gk,gp,gH,2,cH,gi,gu,gt⟩ 0 W ((Q8.out.s.ext X).nonil) (show (2:Nat)<=64 by decide) (show 0<2 by decide));go_wp2_with (go_quiet (fail));refine(WN.out _ XI).mono ?_;rintro e w9 ⟨gw0,rfl,wb0,zw0,xk0⟩;have zw0':w8.heap.size<=gw0:=by have h4:w8.heap.size<=gw0:=zw0;have:=Zz8;omega
 have xj0:=Ext.tr (a:=w8) XI xk0;have Q9:=Hd ((Q8.out.ext xj0).more (x:=(gw0,0)) wb0);have WW9:=Hd (WW8.out.ext xj0);have K9:=Hd (K8.out.tr xj0);have X9:=Hd (X8.out.tr xj0);have Zz9:w8.heap.size<=w9.heap.size:=by have:=Zz8;have:=xj0.size;omega
 have zl:Hid (gw0<w9.heap.size):=Hd (Blk.lt wb0);clear WN k7 k8 k9 k10 k11 k12 xk0 xj0 wb0 zw0 Q8 WW8 K8 X8;have k13:w9.cell? ⟨gM,13,none⟩=some (.slice none 0 0):=(Q9.out.b.cell 13);go_upto_region 21 with(at_builtin;(refine Zw _ (e:=123) Tryz.underlying118 hi.out hz0.out hz1.out hz2.out (by simp[Value.cells]) (by omega) rfl _ _ rfl w8.heap.size none 0 0 [] (some ⟨w9.heap.size,0,none⟩) 1 1 [.pointer (some ⟨gw0,0,none⟩)] rfl rfl (OwV.ext WW9.out ((Ext.rf _).alloc _)) (RdV.blk (.new (by simp))).rdC (by simp) (by simp[Value.oneCell']) (by simp[maxLen]) (by decide) (by have:=Zz9;simp;omega) ?_;rintro AW0 cW0 w10 sW0 gW0 oW0;have mW0:=(OwV.ext WW9.out ((Ext.rf w9).alloc (.cells #[.pointer (some ⟨gw0,0,none⟩)] 123))).grownT gW0;have Q10:=Hd ((Q9.out.ext ((Ext.rf _).alloc _)).app mW0);have K10:=Hd (Ext.modT (K9.out.tr ((Ext.rf _).alloc _)) mW0 (by have:=K8z.out;omega));have X10:=Hd (Ext.modT (X9.out.tr ((Ext.rf _).alloc _)) mW0 (by have:=X8z.out;omega));have Zz10:w8.heap.size<=w10.heap.size:=(Nat.le_trans Zz9 (Nat.le_trans (by simp) mW0.size));have zlD:w9.heap.size<=w10.heap.size:=(Nat.le_trans (by simp) mW0.size);replace sW0:=Hd sW0;clear mW0 gW0 Q9 K9 X9 WW9 k13;have k13:w10.cell? ⟨gM,13,none⟩=some (.slice none 0 0):=Q10.out.b.cell 13;have f13:=Q10.out.b.free 13));have mS0:=ModT.set w10 (ts:=[120]) Q10.out.b (by simp) (Nat.zero_le _) 13 (.slice AW0 1 cW0);have Q11:=Hd (Q10.out.set 13 (.slice AW0 1 cW0) (mc':=mcv (⟨2,nn,cap,.slice A3 xw.length a3,.slice B3 xv.length b3,.slice C3 co.length c3⟩:MIn) (.pointer (some ⟨gm,0,none⟩)) (.pointer (some ⟨gk,0,none⟩)) (.pointer (some ⟨gp,0,none⟩)) (.slice (some ⟨gH,0,none⟩) 2 cH) (.pointer (some ⟨gi,0,none⟩)) (.pointer (some ⟨gu,0,none⟩)) (.pointer (some ⟨gt,0,none⟩)) (.slice AW0 1 cW0) (.slice (some ⟨pkz,0,none⟩) 2 2)) rfl);have WW11:=Hd (sW0.out.modT mS0 (by decide));have dS0:Mod (fun b=>b=gM) w10 (w10.setCell ⟨gM,13,none⟩ (.slice AW0 1 cW0)):=Mod.set (S:=fun b=>b=gM) (p:=⟨gM,13,none⟩) (Mod.rf _) (.inl rfl) _;have K11:=Hd (Ext.mod K10.out dS0 hg1.out);have X11:=Hd (Ext.mod X10.out dS0 hg0.out);have Zz11:w8.heap.size<=(w10.setCell ⟨gM,13,none⟩ (.slice AW0 1 cW0)).heap.size:=by have:=Zz10;have:=dS0.size;omega
 clear k13 f13 Q10 K10 X10 mS0 dS0 sW0;have zl2:gw0<(w10.setCell ⟨gM,13,none⟩ (.slice AW0 1 cW0)).heap.size:=Nat.lt_of_lt_of_le zl.out (Nat.le_trans zlD (by simp[World.setCell]));generalize w10.setCell ⟨gM,13,none⟩ (.slice AW0 1 cW0)=w11 at *;go_wp2_with (fail);rw[rounds_succ];have k7:w11.cell? ⟨gM,7,none⟩=some (.pointer (some ⟨gk,0,none⟩)):=(Q11.out.b.cell 7);have k8:w11.cell? ⟨gM,8,none⟩=some (.pointer (some ⟨gp,0,none⟩)):=(Q11.out.b.cell 8);have k9:w11.cell? ⟨gM,9,none⟩=some (.slice (some ⟨gH,0,none⟩) 2 cH):=(Q11.out.b.cell 9);have k10:w11.cell? ⟨gM,10,none⟩=some (.pointer (some ⟨gi,0,none⟩)):=(Q11.out.b.cell 10);have k11:w11.cell? ⟨gM,11,none⟩=some (.pointer (some ⟨gu,0,none⟩)):=(Q11.out.b.cell 11);have k12:w11.cell? ⟨gM,12,none⟩=some (.pointer (some ⟨gt,0,none⟩)):=(Q11.out.b.cell 12);have WN:=Hd (fun(W:World) (X:Ext w11 W)=>ZaM ⟨gk,gp,gH,2,cH,gi,gu,gt⟩ 1 W ((Q11.out.s.ext X).nonil) (show (2:Nat)<=64 by decide) (show 1<2 by decide));go_wp2_with (go_quiet (fail));refine(WN.out _ XI).mono ?_;rintro e w12 ⟨gw1,rfl,wb1,zw1,xk1⟩;have zw1':w8.heap.size<=gw1:=by have h4:w11.heap.size<=gw1:=zw1;have:=Zz11;omega
 have xj1:=Ext.tr (a:=w11) XI xk1;have Q12:=Hd ((Q11.out.ext xj1).more (x:=(gw1,1)) wb1);have WW12:=Hd (WW11.out.ext xj1);have K12:=Hd (K11.out.tr xj1);have X12:=Hd (X11.out.tr xj1);have Zz12:w8.heap.size<=w12.heap.size:=by have:=Zz11;have:=xj1.size;omega
 have zx:Hid (gw0<gw1):=Hd (by have h4:w11.heap.size<=gw1:=zw1;have:=zl2;omega);clear WN k7 k8 k9 k10 k11 k12 xk1 xj1 wb1 zw1 Q11 WW11 K11 X11;have k13:w12.cell? ⟨gM,13,none⟩=some (.slice AW0 1 cW0):=(Q12.out.b.cell 13);go_upto_region 21 with(at_builtin;(refine Zw _ (e:=123) Tryz.underlying118 hi.out hz0.out hz1.out hz2.out (by simp[Value.cells]) (by omega) rfl _ _ rfl w8.heap.size AW0 1 cW0 [.pointer (some ⟨gw0,0,none⟩)] (some ⟨w12.heap.size,0,none⟩) 1 1 [.pointer (some ⟨gw1,0,none⟩)] rfl rfl (OwV.ext WW12.out ((Ext.rf _).alloc _)) (RdV.blk (.new (by simp))).rdC (by simp) (by simp[Value.oneCell']) (by simp[maxLen]) (by decide) (by have:=Zz12;simp;omega) ?_;rintro AW1 cW1 w13 sW1 gW1 oW1;have mW1:=(OwV.ext WW12.out ((Ext.rf w12).alloc (.cells #[.pointer (some ⟨gw1,0,none⟩)] 123))).grownT gW1;have Q13:=Hd ((Q12.out.ext ((Ext.rf _).alloc _)).app mW1);have K13:=Hd (Ext.modT (K12.out.tr ((Ext.rf _).alloc _)) mW1 (by have:=K8z.out;omega));have X13:=Hd (Ext.modT (X12.out.tr ((Ext.rf _).alloc _)) mW1 (by have:=X8z.out;omega));have Zz13:w8.heap.size<=w13.heap.size:=(Nat.le_trans Zz12 (Nat.le_trans (by simp) mW1.size));replace sW1:=Hd sW1;clear mW1 gW1 Q12 K12 X12 WW12 k13;have k13:w13.cell? ⟨gM,13,none⟩=some (.slice AW0 1 cW0):=Q13.out.b.cell 13;have f13:=Q13.out.b.free 13));have mS1:=ModT.set w13 (ts:=[120]) Q13.out.b (by simp) (Nat.zero_le _) 13 (.slice AW1 2 cW1);have Q14:=Hd (Q13.out.set 13 (.slice AW1 2 cW1) (mc':=mcv (⟨2,nn,cap,.slice A3 xw.length a3,.slice B3 xv.length b3,.slice C3 co.length c3⟩:MIn) (.pointer (some ⟨gm,0,none⟩)) (.pointer (some ⟨gk,0,none⟩)) (.pointer (some ⟨gp,0,none⟩)) (.slice (some ⟨gH,0,none⟩) 2 cH) (.pointer (some ⟨gi,0,none⟩)) (.pointer (some ⟨gu,0,none⟩)) (.pointer (some ⟨gt,0,none⟩)) (.slice AW1 2 cW1) (.slice (some ⟨pkz,0,none⟩) 2 2)) rfl);have WW14:=Hd (sW1.out.modT mS1 (by decide));have dS1:Mod (fun b=>b=gM) w13 (w13.setCell ⟨gM,13,none⟩ (.slice AW1 2 cW1)):=Mod.set (S:=fun b=>b=gM) (p:=⟨gM,13,none⟩) (Mod.rf _) (.inl rfl) _;have K14:=Hd (Ext.mod K13.out dS1 hg1.out);have X14:=Hd (Ext.mod X13.out dS1 hg0.out);have Zz14:w8.heap.size<=(w13.setCell ⟨gM,13,none⟩ (.slice AW1 2 cW1)).heap.size:=by have:=Zz13;have:=dS1.size;omega
 clear k13 f13 Q13 K13 X13 mS1 dS1 sW1;generalize w13.setCell ⟨gM,13,none⟩ (.slice AW1 2 cW1)=w14 at *;go_wp2_with (fail);rw[rounds_succ];go_wp2_with (go_quiet (fail));obtain⟨gW,cw,hA,hcw,e0,e1,zW⟩:=OwV.two (u:=ptr gw0) (v:=ptr gw1) WW14.out;subst hA;have V1:Hid (Ext w w1):=Hd (X0.out.tr X01.out);have hz6:=K6.out.size;refine bodyPost_ret (v:=.tuple #[.pointer (some ⟨gM,0,none⟩),.int .i64 0]) (by simp[results,Tryz.results31,go_sem]) rfl ⟨gM,w1,⟨w6.heap.size,gm,gc,gp,gn,go,gH,cH,gh0,gh1,gi,gl,gu,ch,A9,k9,xs⟩,M,A8,k8,gk,gW,cW1,pkz,gw0,gw1,ga,bas,w7.heap.size,.slice A3 xw.length a3,.slice B3 xv.length b3,.slice C3 co.length c3,cw,rfl,rfl,⟨Q14.out.s,Q14.out.b,Q14.out.p,Q14.out.o,Q14.out.ws (gw0,0) (by simp),Q14.out.ws (gw1,1) (by simp),⟨hcw,e0,e1⟩,⟨fb.out,ka.out⟩,K14.out,V1.out,L7.out,?_,?_,⟨by show pkz<w6.heap.size;have:=zpk.out;have:=Y6.out.size;omega,zgl,zm'⟩⟩⟩
 ·have:=z13.out
  have:=K8z.out;have h12:=K12.out;exact⟨by show _<=gm;omega,by show _<=gc;omega,by show _<=go;omega,by omega,by omega,by omega⟩
 ·exact⟨hy.out.1,hy.out.2.1,by have:=hy.out.2.2;omega,zx.out⟩
end
section
def Zdv (g io base:Nat)(t:TypeId)(cs:Array Value)(L:Option Addr)(rs:List Rec)(r:Rec)(vs:List Value)(w:World)(e:Ending)(w':World) : Prop:=∃ A c L' c',e=.returned (.tuple #[])/\(Blk w' g t (cs.setIfInBounds io (.slice L' (rs.length+1) c'))/\OwV w' base 223 2 L' (rs.length+1) c' (vs++[.int .i64 r.kind,.slice A r.path.length c])/\RecsO w' base (vs++[.int .i64 r.kind,.slice A r.path.length c]) (rs++[r]))/\ModT base [t,223] w w'/\Mod (fun b=>b=g\/bl L=some b) w w'
theorem Zdw (g io base:Nat)(t:TypeId)(cs:Array Value)(rs:List Rec)(r:Rec)(vs:List Value)(L:Option Addr)(cL:Nat)(A:Option Addr)(c:Nat)(w:World)(hb:Blk w g t cs)(hcs:cs[io]?=some (.slice L rs.length cL))(ht:t≠223)(ht2:t≠3)(hbg:base<=g)(ho:OwV w base 223 2 L rs.length cL vs)(hR:RecsO w base vs rs)(hbw:base<=w.heap.size)(hA:RdI w A r.path)(hl:r.path.length<=2^40)(hrs:rs.length<=2^40) :
  Calls Tryz.prog 241 #[.pointer (some ⟨g,io,none⟩),.int .i64 r.kind,.slice A r.path.length c] w (Zdv g io base t cs L rs r vs w):=by
 have c0:w.cell? ⟨g,io,none⟩=some (.slice L rs.length cL):=(hb.cell io).trans hcs;have f0:=hb.free io;have zg:=hb.lt;obtain⟨i0,hi,hz0,hz1,hz2⟩:=info_parts WK;have hbs:∀ (u:World) (A':Option Addr) (c':Nat),(Instr.buildSlice 136 1 #[(0,.agg #[.int .i64 r.kind,.slice A' r.path.length c'])]).run Tryz.prog u=.ok (.slice (some ⟨u.heap.size,0,none⟩) 1 1) (u.alloc (.cells #[.int .i64 r.kind,.slice A' r.path.length c'] 223)):=fun u A' c'=>by go_simp
 replace hbs:=Hd hbs;replace hb:=Hd hb;replace ho:=Hd ho;replace hR:=Hd hR;replace hA:=Hd hA;replace hi:=Hd hi;replace hz0:=Hd hz0;replace hz1:=Hd hz1;replace hz2:=Hd hz2;go_enter Tryz.func241,Tryz.ntmps241;go_wp2_with (fail);refine wp_region_any (by kernel_rfl) ?_
 change wpAny _ _ _ _ _ _ _ (World.drew _)
 refine Za 0 (.move (.tmp 0)) 233 (some 8) rfl (by kernel_rfl) Hq (by intro _;go_simp;try rfl) ?_;simp only[lay];refine Za 1 (.move (.tmp 0)) 233 (some 9) rfl (by kernel_rfl) Hq (by intro _;go_simp;try rfl) ?_;simp only[lay];refine Za 2 (.nilCheck (.tmp 9)) 0 (some 10) rfl (by kernel_rfl) Hq (by intro _;go_simp;try rfl) ?_;simp only[lay];refine Za 3 (.fieldAddr 209 (.tmp 10) 0) 0 (some 11) rfl (by kernel_rfl) Hq (by intro _;go_simp;try rfl) ?_;simp only[lay];refine Za 5 (.move (.tmp 1)) 3 (some 13) rfl (by kernel_rfl) Hq (by intro _;go_simp;try rfl) ?_;simp only[lay];refine Za 6 (.move (.tmp 2)) 22 (some 14) rfl (by kernel_rfl) Hq (by intro _;go_simp;try rfl) ?_;simp only[lay];refine Za 7 (.build 223 #[(0,.tmp 13),(1,.tmp 14)]) 223 (some 15) rfl (by kernel_rfl) Hq (by intro _;go_simp;try rfl) ?_;simp only[lay];refine Wj (n:=4) [(4,some 12),(8,some 16),(9,some 17)] (Ext w)
  (VF (fun | 4=>some (.slice L rs.length cL) | _=>none)
   (fun i v W=>(i=8->∃ A' c',v=.agg #[.int .i64 r.kind,.slice A' r.path.length c']/\OwI W w.heap.size A' c' r.path)/\(i=9->∃ q A' c',v=.slice (some ⟨q,0,none⟩) 1 1/\Blk W q 223 #[.int .i64 r.kind,.slice A' r.path.length c']/\OwI W w.heap.size A' c' r.path)))
  Ext #[true,true,true,true,true,true,true,true,true,true,false,false,false,false] (by kernel_rfl) (VF.stab ?_) ?_ ?_ ((Ext.rf _).drew)
 ·intro j v W W' _ ⟨g6,g14⟩ hx
  refine⟨fun h=>?_,fun h=>?_⟩
  ·obtain⟨A',c',q1,q2⟩:=g6 h
   exact⟨A',c',q1,q2.ext hx⟩
  ·obtain⟨q,A',c',q1,q2,q3⟩:=g14 h
   exact⟨q,A',c',q1,q2.ext hx,q3.ext hx⟩
 ·intro pq hpm u w2 hRW hD K hK
  have r0:=(hRW.cells.1 _ io zg).trans c0;have z2:=hRW.size;simp only[List.mem_cons,List.not_mem_nil,or_false] at hpm;rcases hpm with rfl | rfl | rfl
  ·exact Ze (T:=136) rfl (.pointer (some ⟨g,io,none⟩)) (by kernel_rfl) (.slice L rs.length cL) (by go_simp) (hK _ _ (VF.mk rfl) hRW (Ext.rf _))
  ·refine Zi rfl #[.agg #[.int .i64 r.kind,.slice A r.path.length c]] (by go_simp) (by kernel_rfl) _ (Qs r A c w2 (hA.out.ext hRW) (by omega)) ?_
   rintro e w3 ⟨A3,c3,rfl,o3,x3⟩;exact⟨_,rfl,hK _ _ (VF.mg rfl ⟨fun _=>⟨A3,c3,rfl,o3.more z2⟩,(fun h=>by cases h)⟩) (hRW.tr x3) x3⟩
  ·obtain⟨A3,c3,h8,o3⟩:=((hD 8 (Zg (by kernel_rfl))).g rfl).1 rfl
   exact ZdV rfl _ (Eq.trans (b:=u 8) (by kernel_rfl) h8) _ (hbs.out _ _ _) (hK _ _ (VF.mg rfl ⟨(fun h=>by cases h),fun _=>⟨_,A3,c3,rfl,.new rfl,o3.ext ((Ext.rf _).alloc _)⟩⟩) (hRW.alloc _) ((Ext.rf _).alloc _))
 ·intro u w3 hRW hV
  have h4:=(hV (4,some 12) (by simp)).k rfl;obtain⟨_,_,h8,_⟩:=((hV (8,some 16) (by simp)).g rfl).1 rfl;obtain⟨q,A3,c3,h9,b9,o9⟩:=((hV (9,some 17) (by simp)).g rfl).2 rfl;simp only[Zc,h4,h8,h9];have o3:=ho.out.ext hRW;obtain⟨A4,c4,w4,hrun,o4,g4,_⟩:=Wa w3 (e:=223) Tryz.underlying136 hi.out hz0.out hz1.out hz2.out (by simp[Value.cells]) (by omega) base 136 L rs.length cL vs (some ⟨q,0,none⟩) 1 1 [.int .i64 r.kind,.slice A3 r.path.length c3] o3 ((RdV.blk b9).rdC) (by simp) (by simp[Value.oneCell']) (by simp only[maxLen];omega) (by omega) (by have:=hRW.size;omega);have M4:=o3.grownT g4;have hb4:=(hb.out.ext hRW).modT M4 (by simpa using ht);have f4:=hb4.free io;have c4':w4.cell? ⟨g,io,none⟩=some (.slice L rs.length cL):=(hb4.cell io).trans hcs;have hR4:=((hR.out.ext hRW).modT M4 (by decide)).snoc ((o9.more hbw).modT M4 (by decide));have M5:ModT base [t] w4 (w4.setCell ⟨g,io,none⟩ (.slice A4 (rs.length+1) c4)):=ModT.set w4 hb4 (by simp) hbg io _;have hlen:(rs++[r]).length=rs.length+1:=by simp
  have FIN:Blk (w4.setCell ⟨g,io,none⟩ (.slice A4 (rs.length+1) c4)) g t (cs.setIfInBounds io (.slice A4 (rs.length+1) c4))/\OwV (w4.setCell ⟨g,io,none⟩ (.slice A4 (rs.length+1) c4)) base 223 2 A4 (rs.length+1) c4 (vs++[.int .i64 r.kind,.slice A3 r.path.length c3])/\RecsO (w4.setCell ⟨g,io,none⟩ (.slice A4 (rs.length+1) c4)) base (vs++[.int .i64 r.kind,.slice A3 r.path.length c3]) (rs++[r]) :=
   ⟨hb4.set io _,o4.modT M5 (by simpa using fun e=>ht e.symm),hR4.modT M5 (by simpa using fun e=>ht2 e.symm)⟩
  have MM:ModT base [t,223] w (w4.setCell ⟨g,io,none⟩ (.slice A4 (rs.length+1) c4)):=((ModT.of_ext hRW).tr (M4.more (Nat.le_refl _) (by simp))).tr (M5.more (Nat.le_refl _) (by simp));have MN:Mod (fun b=>b=g\/bl L=some b) w (w4.setCell ⟨g,io,none⟩ (.slice A4 (rs.length+1) c4)):=((Mod.of_ext hRW).tr (Mod.grown g4 fun q hq=>.inr hq)).tr (Mod.set (S:=fun b=>b=g\/bl L=some b) (p:=⟨g,io,none⟩) (Mod.rf _) (.inl (.inl rfl)) _);replace MN:=Hd MN;have _O5:=Hd ((o9.modT M4 (by decide)).modT M5 (by simpa using fun e=>ht2 e.symm));replace FIN:=Hd FIN;replace MM:=Hd MM;clear h4 h8 h9 hV o3 g4 M4 hR4 M5 o4 b9 o9 hb4;refine Zd 10 (by kernel_rfl) (Vh rfl (.slice L rs.length cL) (.slice (some ⟨q,0,none⟩) 1 1) (by kernel_rfl) (by kernel_rfl) _ hrun ?_)
  try simp only[lay]
  refine Za 11 (.nilCheck (.tmp 8)) 0 (some 19) rfl (by kernel_rfl) Hq (by intro _;go_simp;try rfl) ?_;simp only[lay];refine Za 12 (.fieldAddr 209 (.tmp 19) 0) 0 (some 20) rfl (by kernel_rfl) Hq (by intro _;go_simp;try rfl) ?_;simp only[lay];refine Zd 13 (by kernel_rfl) (ZR rfl (.pointer (some ⟨g,io,none⟩)) (.slice A4 (rs.length+1) c4) (by kernel_rfl) (by kernel_rfl) (by go_simp;rfl) ?_);refine wpAny_done (by kernel_rfl) ?_ _;clear hrun;go_simp;go_wp2_with fail;go_end0;exact⟨A3,c3,A4,c4,rfl,FIN.out,MM.out,MN.out⟩
def Zx {α:Type}(f:Nat->α)(k:Nat)(v:α) : Nat->α:=fun i=>if i=k then v else f i
theorem Zf {α:Type}(f:Nat->α)(k:Nat)(v:α) : Zx f k v k=v:=if_pos rfl
theorem Zr {α:Type}(f:Nat->α){k i:Nat}(v:α)(h:i≠k) : Zx f k v i=f i:=if_neg h
theorem ZD {α:Type}(f:Nat->α)(k:Nat)(u v:α) : Zx (Zx f k u) k v=Zx f k v:=by funext i;unfold Zx;by_cases h:i=k<;>simp[h]
structure Fix where
 E:Env
 w1:World
 n:Int
 cap:Int
 wv:Value
 vv:Value
 cv:Value
 gM:Nat
 gk:Nat
 gt:Nat
 gW:Nat
 cW:Nat
 gP:Nat
 gw:Nat->Nat
 ga:Nat
 bas:Nat
 zo:Nat
 cw:Array Value
 A:Option Addr
 k:Nat
 bb:Int
 c:Int
 cost:List (List Int)
 ta:Value
 tb:Value
 kb:Nat
 kc:Array Value
def Fix.ma (F:Fix) : MaS:=mas F.n F.cap F.wv F.vv F.cv F.E F.gk F.gt F.gW F.cW F.gP
def Fix.h (F:Fix) : ShS:=⟨F.gk,F.E.gp,F.E.gH,2,F.E.cH,F.E.gi,F.E.gu,F.gt⟩
def Fix.gh (F:Fix)(k:Nat) : Nat:=if k=0 then F.E.gh0 else F.E.gh1
def hb (k:Nat) : Nat:=if k=0 then 65 else 136
structure FixOk (F:Fix) : Prop where
 kn:FaceB F.w1 F.gk 176 F.ga/\KernA F.w1 F.bas F.ga F.cost
 ok:RowsOk F.cost
 tb:Tab F.w1
 bo:XO F.cost []=(F.bb,0)
 z:F.w1.heap.size<=F.E.gm/\F.w1.heap.size<=F.E.gc/\F.w1.heap.size<=F.E.go/\F.w1.heap.size<=F.gP/\F.w1.heap.size<=F.gw 0/\F.w1.heap.size<=F.gw 1
 y:F.E.gc<F.zo/\F.gP<F.E.gc/\F.zo<=F.gw 0/\F.gw 0<F.gw 1
 v:F.gP<F.E.bs/\F.E.go<F.E.gl/\F.E.bs<=F.E.gm
 tt:∃ (t1 t2:Option Addr) (n1 n2:Nat) (t3 t4:Int),Blk F.w1 F.gt 128 #[.slice t1 0 n1,.slice t2 0 n2,.int .i64 t3,.int .i64 t4]
 ts:(∃ A c,F.ta=.slice A 0 c)/\∃ A c,F.tb=.slice A 0 c
 w0:F.cw[0]?=some (ptr (F.gw 0))
 w1:F.cw[1]?=some (ptr (F.gw 1))
structure RS (F:Fix)(w:World)(M:List Int)(P:PoolS)(p:Nat->Int)(s:Nat->WkS)(o:Nat->Option (Nat×HAct))(L:Option Addr)(cL:Nat)(vs:List Value)(rs:List Rec)(dq:Nat) : Prop where
 st:St F.E w M P
 ma:MaB w F.gM F.ma
 pk:Blk w F.gP 3 #[.int .i64 (p 0),.int .i64 (p 1)]
 wl:Blk w F.gW 123 F.cw
 wk:∀ k,k<2->WkB w (F.gw k) F.h (s k)
 ac:∀ k g a,k<2->o k=some (g,a)->ZF w g (F.gh k) a
 nd:∀ g a g' a',o 0=some (g,a)->o 1=some (g',a')->g≠g'
 pa:OwI w F.zo F.A F.k []
 pb:∀ k,k<2->OwI w F.zo (s k).path.A (s k).path.c (s k).path.xs
 lo:OwV w F.zo 223 2 L rs.length cL vs
 lr:RecsO w F.zo vs rs
 tp:Blk w F.gt 128 #[F.ta,F.tb,.int .i64 0,.int .i64 (dq:Int)]
 bx:Blk w F.kb 46 F.kc
 kx:Mod (fun b=>b=F.gt) F.w1 w
theorem RecsO.modI {w w':World}{base:Nat}{vs:List Value}{rs:List Rec}{S:Nat->Prop}(h:RecsO w base vs rs)(hm:Mod S w w')(hn:∀ {A:Option Addr} {c:Nat} {xs:List Int},OwI w base A c xs->∀ q,bl A=some q->¬S q) : RecsO w' base vs rs :=
 ⟨h.1,fun i r hr=>by
  obtain⟨A,c,h1,h2,h3⟩:=h.2 i r hr;exact⟨A,c,h1,h2,h3.mod hm (hn h3)⟩⟩
def S4 (g0:Nat)(E:Env)(b:Nat) : Prop:=b=g0\/b=E.gm\/b=E.gc\/b=E.go
theorem MemB.ty {w:World}{gm gc:Nat}{M:List Int}(m:MemB w gm gc M) : (∃ cs,Blk w gm 268 cs)/\∃ cs,Blk w gc 3 cs:=by
 obtain⟨⟨st,k,c,o,n,d,m1⟩,m2⟩:=m;exact⟨⟨_,m1⟩,⟨_,m2⟩⟩
section
variable {F:Fix} {w w':World} {M M':List Int} {P P':PoolS} {p:Nat->Int} {s:Nat->WkS} {o:Nat->Option (Nat×HAct)} {L:Option Addr} {cL:Nat} {vs:List Value} {rs:List Rec} {dq:Nat}
theorem RS.ext (R:RS F w M P p s o L cL vs rs dq)(x:Ext w w') : RS F w' M P p s o L cL vs rs dq :=
 ⟨R.st.ext x,Blk.ext R.ma x,R.pk.ext x,R.wl.ext x,fun k hk=>Blk.ext (R.wk k hk) x,fun k g a hk h=>Blk.ext (R.ac k g a hk h) x,R.nd,R.pa.ext x,fun k hk=>(R.pb k hk).ext x,R.lo.ext x,R.lr.ext x,R.tp.ext x,R.bx.ext x,R.kx.ext x⟩
theorem RS.turn (R:RS F w M P p s o L cL vs rs dq)(O:FixOk F){g0:Nat}{t0:TypeId}{c0:Array Value}(b0:Blk w g0 t0 c0)(ht:t0=293\/t0=284)(z0:F.w1.heap.size<=g0)(m:MemB w' F.E.gm F.E.gc M')(pp:PoolR w' F.E.bs F.E.gm F.E.gc F.E.gp F.E.gn F.E.go P')(d:Mod (S4 g0 F.E) w w')(o':Nat->Option (Nat×HAct))
  (ac:∀ k g a,k<2->o' k=some (g,a)->(o k=some (g,a)/\g≠g0)\/ZF w' g (F.gh k) a) (nd:∀ g a g' a',o' 0=some (g,a)->o' 1=some (g',a')->g≠g'):RS F w' M' P' p s o' L cL vs rs dq:=by
 obtain⟨⟨cm,hm⟩,⟨cc,hcc⟩⟩:=R.st.m.ty;have hgo:=R.st.p.ow;have no:∀ {b t cs},Blk w b t cs->t≠268->t≠3->t≠22->t≠293->t≠284->¬S4 g0 F.E b:=by
  intro b t cs h h1 h2 h3 h4 h5 hS;rcases hS with e | e | e | e
  ·subst e
   rcases ht with rfl | rfl
   ·exact h.ne b0 h4 rfl
   ·exact h.ne b0 h5 rfl
  ·exact h.ne hm h1 e
  ·exact h.ne hcc h2 e
  ·exact h.ne hgo h3 e
 have noI:∀ {base:Nat} {A:Option Addr} {c:Nat} {xs:List Int},OwI w base A c xs->bl A≠some F.E.gc->∀ q,bl A=some q->¬S4 g0 F.E q:=by
  intro base A c xs h hc q hq hS;rcases hS with e | e | e | e
  ·subst e
   rcases ht with rfl | rfl
   ·exact h.ne b0 (by decide) _ hq rfl
   ·exact h.ne b0 (by decide) _ hq rfl
  ·exact h.ne hm (by decide) q hq e
  ·exact hc (by rw[hq,e])
  ·exact h.ne hgo (by decide) q hq e
 have noZ:∀ {A:Option Addr} {c:Nat} {xs:List Int},OwI w F.zo A c xs->bl A≠some F.E.gc:=fun h e=>by
  have:=(h.lt _ e).1;have:=O.y.1;omega
 refine⟨⟨R.st.hc.mod d (no R.st.hc (by decide) (by decide) (by decide) (by decide) (by decide)),R.st.c0,R.st.c1,m,pp,Blk.mod R.st.h0 d (no R.st.h0 (by decide) (by decide) (by decide) (by decide) (by decide)),Blk.mod R.st.h1 d (no R.st.h1 (by decide) (by decide) (by decide) (by decide) (by decide)),⟨R.st.i.b.mod d (no R.st.i.b (by decide) (by decide) (by decide) (by decide) (by decide)),R.st.i.r.mod d ?_,fun k q hq=>⟨(R.st.i.x k q hq).1.mod d (noI (R.st.i.x k q hq).1 (R.st.i.x k q hq).2),(R.st.i.x k q hq).2⟩⟩,Blk.mod R.st.u d (no R.st.u (by decide) (by decide) (by decide) (by decide) (by decide))⟩,Blk.mod R.ma d (no R.ma (by decide) (by decide) (by decide) (by decide) (by decide)),R.pk.mod d ?_,R.wl.mod d (no R.wl (by decide) (by decide) (by decide) (by decide) (by decide)),fun k hk=>Blk.mod (R.wk k hk) d (no (R.wk k hk) (by decide) (by decide) (by decide) (by decide) (by decide)),?_,nd,R.pa.mod d (noI R.pa (noZ R.pa)),fun k hk=>(R.pb k hk).mod d (noI (R.pb k hk) (noZ (R.pb k hk))),?_,?_,R.tp.mod d (no R.tp (by decide) (by decide) (by decide) (by decide) (by decide)),R.bx.mod d (no R.bx (by decide) (by decide) (by decide) (by decide) (by decide)),R.kx.tr' d ?_⟩
 ·rintro (e | e | e | e)
  ·have:=R.st.i.r
   rcases ht with rfl | rfl
   ·exact this.ne b0 (by decide) e
   ·exact this.ne b0 (by decide) e
  ·exact R.st.i.r.ne hm (by decide) e
  ·exact R.st.i.r.ne hcc (by decide) e
  ·have:=O.v.2;omega
 ·rintro (e | e | e | e)
  ·rcases ht with rfl | rfl
   ·exact R.pk.ne b0 (by decide) e
   ·exact R.pk.ne b0 (by decide) e
  ·exact R.pk.ne hm (by decide) e
  ·have:=O.y.2.1;omega
  ·exact R.pk.ne hgo (by decide) e
 ·intro k g a hk h
  rcases ac k g a hk h with⟨h1,h2⟩ | h1
  ·refine Blk.mod (R.ac k g a hk h1) d ?_
   rintro (e | e | e | e)
   ·exact h2 e
   ·exact Blk.ne (R.ac k g a hk h1) hm (by decide) e
   ·exact Blk.ne (R.ac k g a hk h1) hcc (by decide) e
   ·exact Blk.ne (R.ac k g a hk h1) hgo (by decide) e
  ·exact h1
 ·refine R.lo.mod d fun q hq hS=>?_
  rcases hS with e | e | e | e
  ·subst e
   rcases ht with rfl | rfl
   ·exact R.lo.ne b0 (by decide) _ hq rfl
   ·exact R.lo.ne b0 (by decide) _ hq rfl
  ·exact R.lo.ne hm (by decide) q hq e
  ·exact R.lo.ne hcc (by decide) q hq e
  ·exact R.lo.ne hgo (by decide) q hq e
 ·exact R.lr.modI d fun h=>noI h (noZ h)
 ·intro q hq hS
  have:=O.z;rcases hS with e | e | e | e<;>omega
theorem RS.bound (R:RS F w M P p s o L cL vs rs dq)(O:FixOk F)(A:Option Addr)(c:Nat)(hA:RdI w A []) : Calls Tryz.prog 94 #[.pointer (some ⟨F.gk,0,none⟩),.slice A 0 c] w fun e w'=>e=.returned (.tuple #[.int .i64 F.bb,.int .i64 0])/\Ext w w':=by
 obtain⟨t1,t2,n1,n2,t3,t4,ht⟩:=O.tt;have m:ModT 0 [128] F.w1 w:=R.kx.mono fun i _ e=>by subst e;exact⟨Nat.zero_le _,_,_,ht,by simp⟩
 have fb:FaceB w F.gk 176 F.ga:=Blk.modT O.kn.1 m (by decide);have ka:KernA w F.bas F.ga F.cost:=by
  obtain⟨C,c,us,h1,h2,h3,h4⟩:=O.kn.2;exact⟨C,c,us,h1.modT m (by decide),h2,h3.modT m (by decide),h4.modT m (by decide)⟩
 have tb:Tab w:=fun j hj=>by
  have h1:=O.tb j hj;have h2:=World.block_lt_of_cell? F.w1 _ h1;rw[<-h1];exact World.cell?_of_block (R.kx.block _ h2 fun e=>by
   have h3:=ht.cell j;rw[<-e,h1] at h3;rcases j with _ | _ | _ | _ | j
   all_goals simp at h3)
 have D:=QP A c [] w tb ka O.ok hA (by simp);rw[O.bo] at D;exact VQ fb D
end
end
section
theorem UJ (gw:Nat)(h:ShS)(s:WkS)(w:World)(A:WkB w gw h s)(hp:s.ph=0)(Q:World->Prop)(HC:∀ W,Ext w W->Calls Tryz.prog 169 #[.pointer (some ⟨gw,0,none⟩)] W fun e w'=>e=.returned (.tuple #[])/\Q w')(XQ:∀ w w',Q w->Ext w w'->Q w') :
  Calls Tryz.prog 105 #[.pointer (some ⟨gw,0,none⟩)] w fun e w'=>e=.returned (.tuple #[])/\Q w':=by
 have k7:w.cell? ⟨gw,7,none⟩=some (.int .i64 0):=(Blk.cell A 7).trans (by simp[WkS.cells,hp]);replace HC:=Hd HC;replace XQ:=Hd XQ;clear A hp;go_enter Tryz.func105,Tryz.ntmps105;go_wp2_with (go_quiet (fail));refine(HC.out _ XI).mono ?_;rintro e w1 ⟨rfl,q1⟩;replace q1:=Hd q1;clear k7 HC;go_wp2_with (go_quiet (fail));go_end0;exact⟨rfl,XQ.out _ _ q1.out XI⟩
theorem ZfN (gw:Nat)(h:ShS)(s:WkS)(w:World)(A:WkB w gw h s)(hp:s.ph=1)(Q:World->Prop)(HC:∀ W,Ext w W->Calls Tryz.prog 170 #[.pointer (some ⟨gw,0,none⟩)] W fun e w'=>e=.returned (.tuple #[])/\Q w')(XQ:∀ w w',Q w->Ext w w'->Q w') :
  Calls Tryz.prog 105 #[.pointer (some ⟨gw,0,none⟩)] w fun e w'=>e=.returned (.tuple #[])/\Q w':=by
 have k7:w.cell? ⟨gw,7,none⟩=some (.int .i64 1):=(Blk.cell A 7).trans (by simp[WkS.cells,hp]);replace HC:=Hd HC;replace XQ:=Hd XQ;clear A hp;go_enter Tryz.func105,Tryz.ntmps105;go_wp2_with (go_quiet (fail));refine(HC.out _ XI).mono ?_;rintro e w1 ⟨rfl,q1⟩;replace q1:=Hd q1;clear k7 HC;go_wp2_with (go_quiet (fail));go_end0;exact⟨rfl,XQ.out _ _ q1.out XI⟩
theorem ZfO (gw:Nat)(h:ShS)(s:WkS)(w:World)(A:WkB w gw h s)(hp:s.ph=4)(Q:World->Prop)(HC:∀ W,Ext w W->Calls Tryz.prog 173 #[.pointer (some ⟨gw,0,none⟩)] W fun e w'=>e=.returned (.tuple #[])/\Q w')(XQ:∀ w w',Q w->Ext w w'->Q w') :
  Calls Tryz.prog 105 #[.pointer (some ⟨gw,0,none⟩)] w fun e w'=>e=.returned (.tuple #[])/\Q w':=by
 have k7:w.cell? ⟨gw,7,none⟩=some (.int .i64 4):=(Blk.cell A 7).trans (by simp[WkS.cells,hp]);replace HC:=Hd HC;replace XQ:=Hd XQ;clear A hp;go_enter Tryz.func105,Tryz.ntmps105;go_wp2_with (go_quiet (fail));refine(HC.out _ XI).mono ?_;rintro e w1 ⟨rfl,q1⟩;replace q1:=Hd q1;clear k7 HC;go_wp2_with (go_quiet (fail));go_end0;exact⟨rfl,XQ.out _ _ q1.out XI⟩
theorem ZeN (gw:Nat)(h:ShS)(s:WkS)(w:World)(A:WkB w gw h s)(hp:s.ph=13)(Q:World->Prop)(HC:∀ W,Ext w W->Calls Tryz.prog 182 #[.pointer (some ⟨gw,0,none⟩)] W fun e w'=>e=.returned (.tuple #[])/\Q w')(XQ:∀ w w',Q w->Ext w w'->Q w') :
  Calls Tryz.prog 105 #[.pointer (some ⟨gw,0,none⟩)] w fun e w'=>e=.returned (.tuple #[])/\Q w':=by
 have k7:w.cell? ⟨gw,7,none⟩=some (.int .i64 13):=(Blk.cell A 7).trans (by simp[WkS.cells,hp]);replace HC:=Hd HC;replace XQ:=Hd XQ;clear A hp;go_enter Tryz.func105,Tryz.ntmps105;go_wp2_with (go_quiet (fail));refine(HC.out _ XI).mono ?_;rintro e w1 ⟨rfl,q1⟩;replace q1:=Hd q1;clear k7 HC;go_wp2_with (go_quiet (fail));go_end0;exact⟨rfl,XQ.out _ _ q1.out XI⟩
theorem ZeO (gw:Nat)(h:ShS)(s:WkS)(w:World)(A:WkB w gw h s)(hp:s.ph=14)(Q:World->Prop)(HC:∀ W,Ext w W->Calls Tryz.prog 183 #[.pointer (some ⟨gw,0,none⟩)] W fun e w'=>e=.returned (.tuple #[])/\Q w')(XQ:∀ w w',Q w->Ext w w'->Q w') :
  Calls Tryz.prog 105 #[.pointer (some ⟨gw,0,none⟩)] w fun e w'=>e=.returned (.tuple #[])/\Q w':=by
 have k7:w.cell? ⟨gw,7,none⟩=some (.int .i64 14):=(Blk.cell A 7).trans (by simp[WkS.cells,hp]);replace HC:=Hd HC;replace XQ:=Hd XQ;clear A hp;go_enter Tryz.func105,Tryz.ntmps105;go_wp2_with (go_quiet (fail));refine(HC.out _ XI).mono ?_;rintro e w1 ⟨rfl,q1⟩;replace q1:=Hd q1;clear k7 HC;go_wp2_with (go_quiet (fail));go_end0;exact⟨rfl,XQ.out _ _ q1.out XI⟩
section
variable {F:Fix} {w w':World} {M M':List Int} {P P':PoolS} {p:Nat->Int} {s:Nat->WkS} {o:Nat->Option (Nat×HAct)} {L:Option Addr} {cL:Nat} {vs:List Value} {rs:List Rec} {dq:Nat}
theorem ZT {k:Nat}(h:k<2) : k=0\/k=1:=by omega
theorem FixOk.ne (O:FixOk F){i k:Nat}(hi:i<2)(hk:k<2)(h:i≠k) : F.gw i≠F.gw k:=by
 have:=O.y.2.2.2;rcases ZT hi with rfl | rfl<;>rcases ZT hk with rfl | rfl<;>omega
theorem FixOk.gz (O:FixOk F){k:Nat}(hk:k<2) : F.w1.heap.size<=F.gw k/\F.zo<=F.gw k:=by
 have:=O.z;have:=O.y;rcases ZT hk with rfl | rfl<;>omega
theorem RS.wkr (R:RS F w M P p s o L cL vs rs dq)(O:FixOk F)(k:Nat)(hk:k<2){s':WkS}(d:Mod (fun b=>b=F.gw k) w w')(B:WkB w' (F.gw k) F.h s')(hp:OwI w' F.zo s'.path.A s'.path.c s'.path.xs) : RS F w' M P p (Zx s k s') o L cL vs rs dq:=by
 have b0:=R.wk k hk;have m:ModT 0 [214] w w':=d.mono fun i _ e=>by subst e;exact⟨Nat.zero_le _,_,_,b0,by simp⟩
 refine⟨R.st.modT m (by decide) (by decide) (by decide) (by decide) (by decide) (by decide) (by decide) (by decide) (by decide),Blk.modT R.ma m (by decide),R.pk.modT m (by decide),R.wl.modT m (by decide),fun i hi=>?_,fun i g a hi h=>Blk.modT (R.ac i g a hi h) m (by decide),R.nd,R.pa.modT m (by decide),fun i hi=>?_,R.lo.modT m (by decide),R.lr.modT m (by decide),R.tp.modT m (by decide),R.bx.modT m (by decide),R.kx.tr' d fun q hq e=>by have:=(O.gz hk).1;omega⟩
 ·by_cases h:i=k
  ·subst h;rw[Zf];exact B
  ·rw[Zr _ _ h];exact Blk.mod (R.wk i hi) d (O.ne hi hk h)
 ·by_cases h:i=k
  ·subst h;rw[Zf];exact hp
  ·rw[Zr _ _ h];exact(R.pb i hi).modT m (by decide)
theorem RS.fld (R:RS F w M P p s o L cL vs rs dq)(O:FixOk F)(k:Nat)(hk:k<2)(i:Nat)(v:Value)(s':WkS)(hs:((s k).cells F.h).setIfInBounds i v=s'.cells F.h)(hp:OwI w F.zo s'.path.A s'.path.c s'.path.xs) : RS F (w.setCell ⟨F.gw k,i,none⟩ v) M P p (Zx s k s') o L cL vs rs dq:=by
 have d:Mod (fun b=>b=F.gw k) w (w.setCell ⟨F.gw k,i,none⟩ v):=Mod.set (S:=fun b=>b=F.gw k) (p:=⟨F.gw k,i,none⟩) (Mod.rf w) (.inl rfl) v;exact R.wkr O k hk d (WkB.field (R.wk k hk) i v hs) (hp.mod d fun q hq e=>hp.ne (R.wk k hk) (by decide) q hq e)
theorem RS.put (R:RS F w M P p s o L cL vs rs dq)(O:FixOk F)(k:Nat)(hk:k<2)(x:Int) : RS F (w.setCell ⟨F.gP,k,none⟩ (.int .i64 x)) M P (Zx p k x) s o L cL vs rs dq:=by
 have d:Mod (fun b=>b=F.gP) w (w.setCell ⟨F.gP,k,none⟩ (.int .i64 x)):=Mod.set (S:=fun b=>b=F.gP) (p:=⟨F.gP,k,none⟩) (Mod.rf w) (.inl rfl) _;have no:∀ {b t cs},Blk w b t cs->t≠3->¬b=F.gP:=fun h h1 e=>h.ne R.pk h1 e
 have hy:=O.y;have hv:=O.v;have noI:∀ {base:Nat} {A:Option Addr} {c:Nat} {xs:List Int},OwI w base A c xs->F.gP<base->∀ q,bl A=some q->¬q=F.gP:=fun h hz q hq e=>by have:=(h.lt q hq).1;omega
 have hz:F.gP<F.zo:=by omega
 obtain⟨⟨cm,hm⟩,⟨cc,hcc⟩⟩:=R.st.m.ty;refine⟨⟨R.st.hc.mod d (no R.st.hc (by decide)),R.st.c0,R.st.c1,R.st.m.mod d (no hm (by decide)) (by omega),R.st.p.mod d (no R.st.p.p (by decide)) (no R.st.p.nd (by decide)) (no R.st.p.ow (by decide)) (fun i q hq b hb=>noI (R.st.p.oi i q hq).1 (by omega) b hb),Blk.mod R.st.h0 d (no R.st.h0 (by decide)),Blk.mod R.st.h1 d (no R.st.h1 (by decide)),⟨R.st.i.b.mod d (no R.st.i.b (by decide)),R.st.i.r.mod d (no R.st.i.r (by decide)),fun i q hq=>⟨(R.st.i.x i q hq).1.mod d (noI (R.st.i.x i q hq).1 (by omega)),(R.st.i.x i q hq).2⟩⟩,Blk.mod R.st.u d (no R.st.u (by decide))⟩,Blk.mod R.ma d (no R.ma (by decide)),?_,R.wl.mod d (no R.wl (by decide)),fun i hi=>Blk.mod (R.wk i hi) d (no (R.wk i hi) (by decide)),fun i g a hi h=>Blk.mod (R.ac i g a hi h) d (no (R.ac i g a hi h) (by decide)),R.nd,R.pa.mod d (noI R.pa hz),fun i hi=>(R.pb i hi).mod d (noI (R.pb i hi) hz),R.lo.mod d (fun q hq e=>R.lo.ne R.pk (by decide) q hq e),R.lr.modI d fun h=>noI h hz,R.tp.mod d (no R.tp (by decide)),R.bx.mod d (no R.bx (by decide)),R.kx.tr' d fun q hq e=>by have:=O.z;omega⟩;have:=R.pk.set k (.int .i64 x);rcases ZT hk with rfl | rfl
 ·simpa [Zx] using this
 ·simpa [Zx] using this
theorem RS.hh (R:RS F w M P p s o L cL vs rs dq)(k:Nat) : ZN w (F.gh k) F.E.gm F.E.gp (hb k) 3:=by
 unfold Fix.gh hb
 by_cases h:k=0
 ·rw[if_pos h,if_pos h];exact R.st.h0
 ·rw[if_neg h,if_neg h];exact R.st.h1
theorem RS.hcell (R:RS F w M P p s o L cL vs rs dq)(k:Nat)(hk:k<2) : w.cell? ⟨F.h.gH,k,none⟩=some (.pointer (some ⟨F.gh k,0,none⟩)):=by
 rcases ZT hk with rfl | rfl
 ·exact(R.st.hc.cell 0).trans R.st.c0
 ·exact(R.st.hc.cell 1).trans R.st.c1
theorem RS.hw (R:RS F w M P p s o L cL vs rs dq)(k:Nat){g:Nat}{a:HAct}(h:ZF w g (F.gh k) a) : HW w F.E.bs F.E.gm F.E.gc F.E.gp F.E.gn F.E.go (F.gh k) (hb k) 3 g M P a:=⟨R.st.m,R.st.p,R.hh k,h⟩
theorem RS.pick (R:RS F w M P p s o L cL vs rs dq)(O:FixOk F)(k:Nat)(hk:k<2)(bp:0<=p k/\p k<=1000000000)(Q:World->Prop)(XQ:∀ u u',Q u->Ext u u'->Q u')(HS:∀ W,RS F W M P (Zx p k (p k+1)) s o L cL vs rs dq->Calls Tryz.prog 105 #[.pointer (some ⟨F.gw k,0,none⟩)] W fun e w'=>e=.returned (.tuple #[])/\Q w') :
  Calls Tryz.prog 54 #[.pointer (some ⟨F.gM,0,none⟩),.int .i64 (k:Int)] w fun e w'=>e=.returned (.int .i64 0)/\Q w':=by
 refine Zc7 F.gM k (F.gw k) F.ma (p k) w R.ma hk (show (2:Nat)<=64 by decide) ?_ ?_ (R.pk.free k) bp ?_ ?_ Q (fun W X=>HS W ((R.put O k hk (p k+1)).ext X)) XQ
 ·rcases ZT hk with rfl | rfl
  ·exact(R.wl.cell 0).trans O.w0
  ·exact(R.wl.cell 1).trans O.w1
 ·rcases ZT hk with rfl | rfl
  ·exact R.pk.cell 0
  ·exact R.pk.cell 1
 ·exact R.pk.ne R.ma (by decide)
 ·exact R.pk.ne R.wl (by decide)
end
end
section
theorem Uf (gw gh:Nat)(h:ShS)(s:WkS)(w:World)(A:WkB w gw h s)(hc:w.cell? ⟨h.gH,s.me,none⟩=some (.pointer (some ⟨gh,0,none⟩)))(zH:h.gH<w.heap.size)(hm:s.me<h.nH)(hn:h.nH<=64) :
  Calls Tryz.prog 228 #[.pointer (some ⟨gw,0,none⟩)] w fun e w'=>e=.returned (.pointer (some ⟨gh,0,none⟩))/\Ext w w':=by
 have k2:w.drew.cell? ⟨gw,2,none⟩=some (.slice (some ⟨h.gH,0,none⟩) h.nH h.cH):=(Blk.cell A 2);have k6:w.drew.cell? ⟨gw,6,none⟩=some (.int .i64 (s.me:Int)):=(Blk.cell A 6);replace hc:w.drew.cell? ⟨h.gH,s.me,none⟩=_:=hc;have e1:(0:Int)<=(s.me:Int):=by omega
 have e2:(s.me:Int)<(h.nH:Int):=by omega
 clear A;obtain⟨gk,gp,gH,nH,cH,gi,gu,gt⟩:=h;simp only at *;generalize s.me=me at *;go_enter Tryz.func228,Tryz.ntmps228;go_upto_region 1 with(fail);refine wp_region_any (by kernel_rfl) ?_
 change wpAny _ _ _ _ _ _ _ (World.drew _)
 refine Za 0 (.move (.tmp 0)) 123 (some 3) rfl (by kernel_rfl) Hq (by intro _;go_simp;try rfl) ?_;simp only[lay];refine Za 1 (.nilCheck (.tmp 3)) 0 (some 4) rfl (by kernel_rfl) Hq (by intro _;go_simp;try rfl) ?_;simp only[lay];refine Za 2 (.fieldAddr 214 (.tmp 4) 0) 0 (some 5) rfl (by kernel_rfl) Hq (by intro _;go_simp;try rfl) ?_;simp only[lay];refine Za 3 (.fieldAddr 117 (.tmp 5) 2) 0 (some 6) rfl (by kernel_rfl) Hq (by intro _;go_simp;try rfl) ?_;simp only[lay];refine Za 5 (.move (.tmp 0)) 123 (some 8) rfl (by kernel_rfl) Hq (by intro _;go_simp;try rfl) ?_;simp only[lay];refine Za 6 (.nilCheck (.tmp 8)) 0 (some 9) rfl (by kernel_rfl) Hq (by intro _;go_simp;try rfl) ?_;simp only[lay];refine Za 7 (.fieldAddr 214 (.tmp 9) 1) 0 (some 10) rfl (by kernel_rfl) Hq (by intro _;go_simp;try rfl) ?_;simp only[lay];refine Zm (n:=1) [(4,some 7),(8,some 11),(9,some 12),(10,some 13)] (fun | 4=>.slice (some ⟨gH,0,none⟩) nH cH | 8=>.int .i64 (me:Int) | 9=>.pointer (some ⟨gH,me,none⟩) | 10=>.pointer (some ⟨gh,0,none⟩) | _=>undef) #[true,true,true,true,true,true,true,true,true,true,true,false] (by decide +kernel) ?_ ?_
 ·intro pS hpm uS hD K hK
  simp only[List.mem_cons,List.not_mem_nil,or_false] at hpm;rcases hpm with rfl | rfl | rfl | rfl
  ·exact Ze (T:=113) (x:=Operand.tmp 6) (t:=113) (d:=some 7) rfl (.pointer (some ⟨gw,2,none⟩)) (by kernel_rfl) (.slice (some ⟨gH,0,none⟩) nH cH) (by go_simp) hK
  ·exact Ze (T:=3) (x:=Operand.tmp 10) (t:=3) (d:=some 11) rfl (.pointer (some ⟨gw,6,none⟩)) (by kernel_rfl) (.int .i64 (me:Int)) (by go_simp) hK
  ·exact Vb (T:=113) (x:=Operand.tmp 7) (y:=Operand.tmp 11) (t:=0) (d:=some 12) rfl (.slice (some ⟨gH,0,none⟩) nH cH) (.int .i64 (me:Int)) (Eq.trans (b:=uS 4) (by kernel_rfl) (hD 4 (Zg (by kernel_rfl)))) (Eq.trans (b:=uS 8) (by kernel_rfl) (hD 8 (Zg (by kernel_rfl)))) (.pointer (some ⟨gH,me,none⟩)) (by go_simp) hK
  ·exact Ze (T:=188) (x:=Operand.tmp 12) (t:=188) (d:=some 13) rfl (.pointer (some ⟨gH,me,none⟩)) (Eq.trans (b:=uS 9) (by kernel_rfl) (hD 9 (Zg (by kernel_rfl)))) (.pointer (some ⟨gh,0,none⟩)) (by go_simp) hK
 simp only[Zc,Act.put,List.setIfInBounds_toArray,List.set_cons_zero,List.set_cons_succ];refine Za 11 (.assign (.tmp 13)) 188 (some 2) rfl (by kernel_rfl) Hq (by intro _;go_simp;try rfl) ?_;simp only[lay];refine wpAny_done (by kernel_rfl) ?_ _;go_simp;go_wp2_with (fail);go_ret;exact⟨rfl,(Ext.rf _).drew⟩
theorem Uz (gw gh gm b lv:Nat)(h:ShS)(s:WkS)(w:World)(A:WkB w gw h s)(HB:ZN w gh gm h.gp b lv)(hl:lv<=6)(hc:w.cell? ⟨h.gH,s.me,none⟩=some (.pointer (some ⟨gh,0,none⟩)))(zH:h.gH<w.heap.size)(hm:s.me<h.nH)(hn:h.nH<=64) :
  Calls Tryz.prog 234 #[.pointer (some ⟨gw,0,none⟩)] w fun e w'=>e=.returned (.int .i64 ((h.nH:Int)*((2^lv-1:Nat):Int)))/\Ext w w':=by
 have HE:=Hd (fun(W:World) (X:Ext w W)=>Uf gw gh h s W (Blk.ext A X) (Zb X zH hc) (by have:=X.size;omega) hm hn);have PL:=Hd (fun(W:World) (X:Ext w W)=>YO gh gm h.gp b lv W (Blk.ext HB X) (by omega));have k2:w.cell? ⟨gw,2,none⟩=some (.slice (some ⟨h.gH,0,none⟩) h.nH h.cH):=(Blk.cell A 2);have za:=Blk.lt A;have hp6:2^lv<=2^6:=Nat.pow_le_pow_right (by omega) hl;have w1:IntKind.i64.wrap ((h.nH:Int)*((2^lv-1:Nat):Int))=(h.nH:Int)*((2^lv-1:Nat):Int):=by
  have h1:h.nH*(2^lv-1)<=64*63:=Nat.mul_le_mul hn (by omega);have h2:(h.nH:Int)*((2^lv-1:Nat):Int)=((h.nH*(2^lv-1):Nat):Int):=by simp
  rw[h2];exact IntWalk.i64_in _ (by omega)
 clear A HB hc;generalize ((2^lv-1:Nat):Int)=n at *;obtain⟨gk,gp,gH,nH,cH,gi,gu,gt⟩:=h;simp only at *;go_enter Tryz.func234,Tryz.ntmps234;go_upto_region 1 with(fail);refine wp_region_any (by kernel_rfl) ?_
 change wpAny _ _ _ _ _ _ _ (World.drew _)
 refine Za 0 (.move (.tmp 0)) 123 (some 3) rfl (by kernel_rfl) Hq (by intro _;go_simp;try rfl) ?_;simp only[lay];refine Za 1 (.nilCheck (.tmp 3)) 0 (some 4) rfl (by kernel_rfl) Hq (by intro _;go_simp;try rfl) ?_;simp only[lay];refine Za 2 (.fieldAddr 214 (.tmp 4) 0) 0 (some 5) rfl (by kernel_rfl) Hq (by intro _;go_simp;try rfl) ?_;simp only[lay];refine Za 3 (.fieldAddr 117 (.tmp 5) 2) 0 (some 6) rfl (by kernel_rfl) Hq (by intro _;go_simp;try rfl) ?_;simp only[lay];refine Za 6 (.move (.tmp 0)) 123 (some 9) rfl (by kernel_rfl) Hq (by intro _;go_simp;try rfl) ?_;simp only[lay];refine Zh (n:=2) [(4,some 7),(5,some 8),(7,some 10),(8,some 11)] (Ext w) (VF (fun | 4=>some (.slice (some ⟨gH,0,none⟩) nH cH) | 5=>some (.int .i64 (nH:Int)) | 7=>some (.pointer (some ⟨gh,0,none⟩)) | 8=>some (.int .i64 n) | _=>none) (fun i v W=>True)) Ext #[true,true,true,true,true,true,true,true,true,false,false] (by decide +kernel) (VF.stab ?_) ?_ ?_ (by first | exact(Ext.rf _).drew | exact Ext.rf _)
 ·intro j v W W' _ _ _;trivial
 ·intro pS hpm uS wS hRW hD K hK
  simp only[List.mem_cons,List.not_mem_nil,or_false] at hpm;rcases hpm with rfl | rfl | rfl | rfl
  ·( have rX:=Zb hRW za k2;exact Ze (T:=113) (x:=Operand.tmp 6) (t:=113) (d:=some 7) rfl (.pointer (some ⟨gw,2,none⟩)) (by kernel_rfl) (.slice (some ⟨gH,0,none⟩) nH cH) (by go_simp) (hK _ _ (VF.mk rfl) hRW (Ext.rf _)))
  ·(have e4:uS 4=.slice (some ⟨gH,0,none⟩) nH cH:=(hD 4 (Zg (by kernel_rfl))).k rfl;exact Zl (op:=Op.call { callee:=Callee.builtin Builtin.len,args:=#[Operand.tmp 7],argTypes:=#[113] }) (t:=3) (d:=some 8) rfl (.int .i64 (nH:Int)) (by simp only[Zc,Act.put,List.setIfInBounds_toArray,List.set_cons_zero,List.set_cons_succ];unfold Zj;(try go_simp);(try simp only[e4]);(try go_simp);(try rfl);(try (exact IntWalk.i64_in _ (by omega)))) (hK _ _ (VF.mk rfl) hRW (Ext.rf _)))
  ·( exact Zi (f:=228) (xs:=#[Operand.tmp 9]) (ts:=#[123]) (t:=188) (d:=some 10) rfl #[.pointer (some ⟨gw,0,none⟩)] (by go_simp) (by kernel_rfl) _ (HE.out _ hRW) (by rintro e w9 ⟨rfl,xx⟩;exact⟨_,rfl,hK _ _ (VF.mk rfl) (hRW.tr xx) xx⟩))
  ·(have e7:uS 7=.pointer (some ⟨gh,0,none⟩):=(hD 7 (Zg (by kernel_rfl))).k rfl;exact Zi (f:=156) (xs:=#[Operand.tmp 10]) (ts:=#[188]) (t:=3) (d:=some 11) rfl #[.pointer (some ⟨gh,0,none⟩)] (by go_simp) (Eq.trans (b:=#[uS 7]) (by kernel_rfl) (by rw[e7])) _ (PL.out _ hRW) (by rintro e w9 ⟨rfl,xx⟩;exact⟨_,rfl,hK _ _ (VF.mk rfl) (hRW.tr xx) xx⟩))
 intro u w3 hR3 hV;have h4:=(hV (4,some 7) (by simp)).k rfl;have h5:=(hV (5,some 8) (by simp)).k rfl;have h7:=(hV (7,some 10) (by simp)).k rfl;have h8:=(hV (8,some 11) (by simp)).k rfl;simp only[Zc,h4,h5,h7,h8];clear hV h4 h5 h7 h8
 try simp only[lay]
 refine Zu (i:=9) (op:=Op.binOp BinOp.mul 3 (Operand.tmp 8) (Operand.tmp 11) 3) (t:=3) (d:=some 12) (v:=.int .i64 ((nH:Int)*n)) rfl (by decide +kernel) (by decide +kernel) (by decide +kernel) Hq ?_ ?_
 ·(intro _;unfold Zj;go_simp;skip)
 try simp only[lay]
 refine Za 10 (.assign (.tmp 12)) 3 (some 2) rfl (by kernel_rfl) Hq (by intro _;go_simp;try rfl) ?_;simp only[lay];refine wpAny_done (by kernel_rfl) ?_ _;go_simp;go_wp2_with (fail);go_ret;exact⟨rfl,hR3⟩
theorem ZaV (gw gh:Nat)(h:ShS)(s:WkS)(w:World)(A:WkB w gw h s)(hs:s.own=none)(hc:w.cell? ⟨h.gH,s.me,none⟩=some (.pointer (some ⟨gh,0,none⟩)))(zH:h.gH<w.heap.size)(hm:s.me<h.nH)(hn:h.nH<=64)(R1 R2:Nat->World->Prop)(Q:World->Prop)
  (HP:∀ W,Ext w W->Calls Tryz.prog 229 #[.pointer (some ⟨gh,0,none⟩)] W fun e w'=>∃ ga,e=.returned (.pointer (some ⟨ga,0,none⟩))/\R1 ga w') (h1:∀ ga w',R1 ga w'->WkB w' gw h s)
  (HS:∀ ga w1,R1 ga w1->∀ W,Ext (w1.setCell ⟨gw,18,none⟩ (.pointer (some ⟨ga,0,none⟩))) W->Calls Tryz.prog 230 #[.pointer (some ⟨ga,0,none⟩)] W fun e w'=>e=.returned (.bool false)/\R2 ga w') (hQ:∀ ga w',R2 ga w'->Q w') (XQ:∀ w w',Q w->Ext w w'->Q w') :
  Calls Tryz.prog 169 #[.pointer (some ⟨gw,0,none⟩)] w fun e w'=>e=.returned (.tuple #[])/\Q w':=by
 have HE:=Hd (fun(W:World) (X:Ext w W)=>Uf gw gh h s W (Blk.ext A X) (Zb X zH hc) (by have:=X.size;omega) hm hn);have k18:w.cell? ⟨gw,18,none⟩=some (.pointer none):=(Blk.cell A 18).trans (by simp[WkS.cells,Wr,hs]);replace HP:=Hd HP;replace HS:=Hd HS;replace hQ:=Hd hQ;replace XQ:=Hd XQ;clear A hc;go_enter Tryz.func169,Tryz.ntmps169;go_wp2_with (fail);refine(HE.out _ XI).mono ?_;rintro e w1 ⟨rfl,x1⟩;have X1:=Hd (Ext.tr (a:=w) XI x1);clear x1 HE k18;go_wp2_with (fail);refine(HP.out _ (X1.out.tr XI)).mono ?_;rintro e w2 ⟨ga,rfl,r2⟩;have c18:w2.cell? ⟨gw,18,none⟩=some (.pointer none):=(Blk.cell (h1 ga w2 r2) 18).trans (by simp[WkS.cells,Wr,hs]);have f18:w2.frozen? ⟨gw,18,none⟩=false:=Blk.free (h1 ga w2 r2) 18;have ST:=Hd (HS.out ga w2 r2);have B3:=Hd (WkB.field (h1 ga w2 r2) 18 (.pointer (some ⟨ga,0,none⟩)) (s':={ s with own:=some ga }) rfl);clear HP HS X1;go_upto_region 2 with(fail);clear c18 f18;generalize w2.setCell ⟨gw,18,none⟩ (.pointer (some ⟨ga,0,none⟩))=w3 at *;have k18:w3.cell? ⟨gw,18,none⟩=some (.pointer (some ⟨ga,0,none⟩)):=(Blk.cell B3.out 18);go_wp2_with (fail);refine(ST.out _ XI).mono ?_;rintro e w4 ⟨rfl,r4⟩;have q4:=Hd (hQ.out ga w4 r4);clear ST B3 k18 hQ;go_wp2_with (fail);exact bodyPost_ret (results_none rfl _ _ _) rfl ⟨rfl,XQ.out _ _ q4.out XI⟩
theorem Zb2 (gw ga:Nat)(h:ShS)(s:WkS)(w:World)(A:WkB w gw h s)(hs:s.own=some ga)(Q:World->Prop)
  (HS:∀ W,Ext w W->Calls Tryz.prog 230 #[.pointer (some ⟨ga,0,none⟩)] W fun e w'=>e=.returned (.bool false)/\Q w') (XQ:∀ w w',Q w->Ext w w'->Q w') :
  Calls Tryz.prog 169 #[.pointer (some ⟨gw,0,none⟩)] w fun e w'=>e=.returned (.tuple #[])/\Q w':=by
 have k18:w.cell? ⟨gw,18,none⟩=some (.pointer (some ⟨ga,0,none⟩)):=(Blk.cell A 18).trans (by simp[WkS.cells,Wr,hs]);replace HS:=Hd HS;replace XQ:=Hd XQ;clear A;go_enter Tryz.func169,Tryz.ntmps169;go_wp2_with (fail);refine(HS.out _ XI).mono ?_;rintro e w4 ⟨rfl,r4⟩;replace r4:=Hd r4;clear HS k18;go_wp2_with (fail);exact bodyPost_ret (results_none rfl _ _ _) rfl ⟨rfl,XQ.out _ _ r4.out XI⟩
theorem Zdx (bs gm gc gp gn go:Nat)(P:PoolS)(w:World)(H:PoolR w bs gm gc gp gn go P)(s:Nat)(hs:s<P.n)(hn:P.n<=100000)(A:Option Addr)(c:Nat)(xs:List Int)(b:Int)(h0:P.nv[s*2]?=some (.slice A xs.length c))(h1:P.nv[s*2+1]?=some (.int .i64 b))(hA:RdI w A xs)(hl:xs.length<=2^44) :
  Calls Tryz.prog 293 #[.pointer (some ⟨gp,0,none⟩),.int .i64 (s:Int)] w (Zez xs b w):=by
 have HA:=Hd (fun(W:World) (X:Ext w W)=>VL bs gm gc gp gn go P W (H.ext X) s hs hn);have NC:=Hd (fun(W:World) (X:Ext w W)=>Uw xs b A c W (hA.ext X) hl);have p2:w.cell? ⟨gp,2,none⟩=some (.slice (some ⟨gn,0,none⟩) P.n P.n):=(H.p.cell 2);have n0:w.cell? ⟨gn,s*2,none⟩=some (.slice A xs.length c):=(H.nd.cell (s*2)).trans (by simpa using h0);have n1:w.cell? ⟨gn,s*2+1,none⟩=some (.int .i64 b):=(H.nd.cell (s*2+1)).trans (by simpa using h1);have zp:=H.p.lt;have zn:=H.nd.lt;have e1:(0:Int)<=(s:Int):=by omega
 have e2:(s:Int)<(P.n:Int):=by omega
 have B0:Hid (Blk (w.alloc (.cells #[.slice none 0 0,.int .i64 0] 204)) w.heap.size 204 #[.slice none 0 0,.int .i64 0]):=Hd (.new rfl);clear H h0 h1 hA hl;generalize P.n=n at *;go_enter Tryz.func293,Tryz.ntmps293;go_wp2_with (fail);refine(HA.out _ XI).mono ?_;rintro e w1 ⟨rfl,x1⟩;have B1:=Hd (B0.out.ext x1);have X1:=Hd (Ext.tr (a:=w) XI x1);have p2:=Zb X1.out zp p2;have n0:=Zb X1.out zn n0;have n1:=Zb X1.out zn n1;clear x1 HA B0;go_wp2_with (fail);refine(NC.out _ (X1.out.tr XI)).mono ?_;rintro e w2 ⟨A2,c2,rfl,o2,x2⟩;have y2:Ext w1 w2:=Ext.tr (a:=w1) XI x2;have O2:=Hd (OwI.more (base':=w.heap.size) o2 (by have:=X1.out.size;first | exact this | (simp;omega)));have B2:=Hd (B1.out.ext y2);have X2:=Hd (X1.out.tr y2);clear o2 x2 y2 NC p2 n0 n1;have t0:w2.cell? ⟨w.heap.size,0,none⟩=some (.slice none 0 0):=(B2.out.cell 0);have t1:w2.cell? ⟨w.heap.size,1,none⟩=some (.int .i64 0):=(B2.out.cell 1);have f0:=B2.out.free 0;have f1:=B2.out.free 1;have hz:=X2.out.size;have M:=Hd ((ModT.set w2 B2.out (ts:=[204]) (base:=w.heap.size) (by simp) (by omega) 0 (.slice A2 xs.length c2)).tr (ModT.set _ (B2.out.set 0 (.slice A2 xs.length c2)) (by simp) (by omega) 1 (.int .i64 b)));go_wp2_with (fail);exact bodyPost_ret (v:=.agg #[.slice A2 xs.length c2,.int .i64 b]) (by simp[results,Tryz.results293,go_sem, *]) rfl ⟨A2,c2,rfl,O2.out.modT M.out (by decide),X2.out.modT M.out (Nat.le_refl _)⟩
theorem ZeP (gw:Nat)(h:ShS)(s:WkS)(sl:Int)(w:World)(A:WkB w gw h s)(xs:List Int)(R:Option Addr->Nat->World->Prop)(Q:World->Prop)
  (HN:∀ W,Ext (w.setCell ⟨gw,10,none⟩ (.int .i64 sl)) W->Calls Tryz.prog 293 #[.pointer (some ⟨h.gp,0,none⟩),.int .i64 sl] W fun e w'=>∃ A c b,e=.returned (.agg #[.slice A xs.length c,.int .i64 b])/\R A c w') (h1:∀ A c w',R A c w'->WkB w' gw h { s with node:=sl })
  (hQ:∀ A c w',R A c w'->Q ((w'.setCell ⟨gw,11,none⟩ (.slice A xs.length c)).setCell ⟨gw,7,none⟩ (.int .i64 4))) :
  Calls Tryz.prog 232 #[.pointer (some ⟨gw,0,none⟩),.int .i64 sl] w fun e w'=>e=.returned (.tuple #[])/\Q w':=by
 have k10:w.cell? ⟨gw,10,none⟩=some (.int .i64 s.node):=(Blk.cell A 10);have f10:w.frozen? ⟨gw,10,none⟩=false:=Blk.free A 10;have B1:=WkB.field A 10 (.int .i64 sl) (s':={ s with node:=sl }) rfl;have k1:(w.setCell ⟨gw,10,none⟩ (.int .i64 sl)).cell? ⟨gw,1,none⟩=some (.pointer (some ⟨h.gp,0,none⟩)):=(Blk.cell B1 1);replace HN:=Hd HN;replace hQ:=Hd hQ;clear A B1;go_enter Tryz.func232,Tryz.ntmps232;go_wp2_with (fail);refine(HN.out _ XI).mono ?_;rintro e w1 ⟨A1,c1,b1,rfl,r1⟩;have fld:∀ W,(Instr.field 204 (.agg #[.slice A1 xs.length c1,.int .i64 b1]) 0).run Tryz.prog W=.ok (.slice A1 xs.length c1) W:=fun _=>by kernel_rfl
 have B2:=h1 A1 c1 w1 r1;have q:=Hd (hQ.out A1 c1 w1 r1);have c11:w1.cell? ⟨gw,11,none⟩=some s.path.v:=(Blk.cell B2 11);have f11:w1.frozen? ⟨gw,11,none⟩=false:=Blk.free B2 11;have B3:=WkB.field B2 11 (.slice A1 xs.length c1) (s':={ s with node:=sl,path:=⟨A1,c1,xs⟩ }) rfl;have c7:(w1.setCell ⟨gw,11,none⟩ (.slice A1 xs.length c1)).cell? ⟨gw,7,none⟩=some (.int .i64 s.ph):=(Blk.cell B3 7);have f7:(w1.setCell ⟨gw,11,none⟩ (.slice A1 xs.length c1)).frozen? ⟨gw,7,none⟩=false:=Blk.free B3 7;clear B2 B3 HN hQ k10 f10 k1;go_wp2_with (fail);go_end0;exact⟨rfl,q.out⟩
theorem Zdy (gw ga:Nat)(h:ShS)(s:WkS)(sl:Nat)(w:World)(A:WkB w gw h s)(hs:s.own=some ga)(R1 R2 Q:World->Prop)
  (HS:∀ W,Ext w W->Calls Tryz.prog 230 #[.pointer (some ⟨ga,0,none⟩)] W fun e w'=>e=.returned (.bool true)/\R1 w')
  (HL:∀ w1,R1 w1->∀ W,Ext w1 W->Calls Tryz.prog 231 #[.pointer (some ⟨ga,0,none⟩)] W fun e w'=>e=.returned (.int .i64 (sl:Int))/\R2 w') (h1:∀ w',R1 w'->WkB w' gw h s) (h2:∀ w',R2 w'->WkB w' gw h s)
  (HG:∀ w2,R2 w2->∀ W,Ext (w2.setCell ⟨gw,18,none⟩ (.pointer none)) W->Calls Tryz.prog 232 #[.pointer (some ⟨gw,0,none⟩),.int .i64 (sl:Int)] W fun e w'=>e=.returned (.tuple #[])/\Q w') (XQ:∀ w w',Q w->Ext w w'->Q w') :
  Calls Tryz.prog 169 #[.pointer (some ⟨gw,0,none⟩)] w fun e w'=>e=.returned (.tuple #[])/\Q w':=by
 have k18:w.cell? ⟨gw,18,none⟩=some (.pointer (some ⟨ga,0,none⟩)):=(Blk.cell A 18).trans (by simp[WkS.cells,Wr,hs]);have e1:(sl:Int)>=0:=by omega
 replace HS:=Hd HS;replace HL:=Hd HL;replace HG:=Hd HG;replace XQ:=Hd XQ;clear A;go_enter Tryz.func169,Tryz.ntmps169;go_wp2_with (fail);refine(HS.out _ XI).mono ?_;rintro e w1 ⟨rfl,r1⟩;have k18:w1.cell? ⟨gw,18,none⟩=some (.pointer (some ⟨ga,0,none⟩)):=(Blk.cell (h1 w1 r1) 18).trans (by simp[WkS.cells,Wr,hs]);have SL:=Hd (HL.out w1 r1);clear HS HL r1;go_wp2_with (fail);refine(SL.out _ XI).mono ?_;rintro e w2 ⟨rfl,r2⟩;have c18:w2.cell? ⟨gw,18,none⟩=some (.pointer (some ⟨ga,0,none⟩)):=(Blk.cell (h2 w2 r2) 18).trans (by simp[WkS.cells,Wr,hs]);have f18:w2.frozen? ⟨gw,18,none⟩=false:=Blk.free (h2 w2 r2) 18;have GO:=Hd (HG.out w2 r2);clear SL HG r2;go_wp2_with (fail);refine(GO.out _ XI).mono ?_;rintro e w3 ⟨rfl,q3⟩;replace q3:=Hd q3;clear GO c18 f18;go_wp2_with (fail);exact bodyPost_ret (results_none rfl _ _ _) rfl ⟨rfl,XQ.out _ _ q3.out XI⟩
theorem Zdz (gw ga gh gm b lv:Nat)(h:ShS)(s:WkS)(dr:Int)(w:World)(A:WkB w gw h s)(hs:s.own=some ga)(R1 R2 R3 Q:World->Prop)(hl:lv<=6)(hm:s.me<h.nH)(hn:h.nH<=64)
  (HS:∀ W,Ext w W->Calls Tryz.prog 230 #[.pointer (some ⟨ga,0,none⟩)] W fun e w'=>e=.returned (.bool true)/\R1 w')
  (HL:∀ w1,R1 w1->∀ W,Ext w1 W->Calls Tryz.prog 231 #[.pointer (some ⟨ga,0,none⟩)] W fun e w'=>e=.returned (.int .i64 (-1))/\R2 w') (h1:∀ w',R1 w'->WkB w' gw h s) (h2:∀ w',R2 w'->WkB w' gw h s/\ZN w' gh gm h.gp b lv/\w'.cell? ⟨h.gH,s.me,none⟩=some (.pointer (some ⟨gh,0,none⟩))/\h.gH<w'.heap.size/\h.gH≠gw)
  (HD:∀ w2,R2 w2->∀ W,Ext (w2.setCell ⟨gw,18,none⟩ (.pointer none)) W->Calls Tryz.prog 233 #[.pointer (some ⟨h.gt,0,none⟩),.int .i64 ((h.nH:Int)*((2^lv-1:Nat):Int))] W fun e w'=>e=.returned (.int .i64 dr)/\R3 w') (h3:∀ w',R3 w'->WkB w' gw h { s with own:=none })
  (hQ:∀ w',R3 w'->Q (((w'.setCell ⟨gw,16,none⟩ (.int .i64 dr)).setCell ⟨gw,17,none⟩ (.int .i64 0)).setCell ⟨gw,7,none⟩ (.int .i64 1))) :
  Calls Tryz.prog 169 #[.pointer (some ⟨gw,0,none⟩)] w fun e w'=>e=.returned (.tuple #[])/\Q w':=by
 have k18:w.cell? ⟨gw,18,none⟩=some (.pointer (some ⟨ga,0,none⟩)):=(Blk.cell A 18).trans (by simp[WkS.cells,Wr,hs]);replace HS:=Hd HS;replace HL:=Hd HL;replace HD:=Hd HD;replace hQ:=Hd hQ;clear A;go_enter Tryz.func169,Tryz.ntmps169;go_wp2_with (fail);refine(HS.out _ XI).mono ?_;rintro e w1 ⟨rfl,r1⟩;have k18:w1.cell? ⟨gw,18,none⟩=some (.pointer (some ⟨ga,0,none⟩)):=(Blk.cell (h1 w1 r1) 18).trans (by simp[WkS.cells,Wr,hs]);have SL:=Hd (HL.out w1 r1);clear HS HL r1;go_wp2_with (fail);refine(SL.out _ XI).mono ?_;rintro e w2 ⟨rfl,r2⟩;obtain⟨g1,g2,g3,g4,g5⟩:=h2 w2 r2;have c18:w2.cell? ⟨gw,18,none⟩=some (.pointer (some ⟨ga,0,none⟩)):=(Blk.cell g1 18).trans (by simp[WkS.cells,Wr,hs]);have f18:w2.frozen? ⟨gw,18,none⟩=false:=Blk.free g1 18;have DR:=Hd (HD.out w2 r2);have B3:=WkB.field g1 18 (.pointer none) (s':={ s with own:=none }) rfl;have HB3:ZN (w2.setCell ⟨gw,18,none⟩ (.pointer none)) gh gm h.gp b lv:=by unfold ZN at g2 ⊢;exact g2.far (p:=⟨gw,18,none⟩) (Blk.ne g2 g1 (by decide)) _
 have hc3:(w2.setCell ⟨gw,18,none⟩ (.pointer none)).cell? ⟨h.gH,s.me,none⟩=some (.pointer (some ⟨gh,0,none⟩)):=by rw[<-g3];exact World.cell?_of_block (Below.heap_setCell w2 ⟨gw,18,none⟩ _ h.gH g5)
 have z3:h.gH<(w2.setCell ⟨gw,18,none⟩ (.pointer none)).heap.size:=by simpa [World.setCell] using g4
 have PL:=Hd (fun(W:World) (X:Ext (w2.setCell ⟨gw,18,none⟩ (.pointer none)) W)=>Uz gw gh gm b lv h { s with own:=none } W (Blk.ext B3 X) (Blk.ext HB3 X) hl (Zb X z3 hc3) (by have:=X.size;omega) hm hn);have k5:(w2.setCell ⟨gw,18,none⟩ (.pointer none)).cell? ⟨gw,5,none⟩=some (.pointer (some ⟨h.gt,0,none⟩)):=(Blk.cell B3 5);have za:=Blk.lt B3;clear SL HD r2 g1 g2 g3 g4 g5 B3 HB3 hc3 z3 k18;generalize (h.nH:Int)*((2^lv-1:Nat):Int)=n at *;go_upto_region 7 with(fail);clear c18 f18;generalize w2.setCell ⟨gw,18,none⟩ (.pointer none)=w3 at *;refine wp_region_any (by kernel_rfl) ?_
 change wpAny _ _ _ _ _ _ _ (World.drew _)
 refine Za 0 (.move (.tmp 0)) 123 (some 33) rfl (by kernel_rfl) Hq (by intro _;go_simp;try rfl) ?_;simp only[lay];refine Za 1 (.move (.tmp 0)) 123 (some 34) rfl (by kernel_rfl) Hq (by intro _;go_simp;try rfl) ?_;simp only[lay];refine Za 2 (.move (.tmp 0)) 123 (some 35) rfl (by kernel_rfl) Hq (by intro _;go_simp;try rfl) ?_;simp only[lay];refine Za 3 (.nilCheck (.tmp 35)) 0 (some 36) rfl (by kernel_rfl) Hq (by intro _;go_simp;try rfl) ?_;simp only[lay];refine Za 4 (.fieldAddr 214 (.tmp 36) 0) 0 (some 37) rfl (by kernel_rfl) Hq (by intro _;go_simp;try rfl) ?_;simp only[lay];refine Za 5 (.fieldAddr 117 (.tmp 37) 5) 0 (some 38) rfl (by kernel_rfl) Hq (by intro _;go_simp;try rfl) ?_;simp only[lay];refine Za 7 (.move (.tmp 0)) 123 (some 40) rfl (by kernel_rfl) Hq (by intro _;go_simp;try rfl) ?_;simp only[lay];refine Zh (n:=7) [(6,some 39),(8,some 41)] (Ext w3) (VF (fun | 6=>some (.pointer (some ⟨h.gt,0,none⟩)) | 8=>some (.int .i64 n) | _=>none) (fun i v W=>True)) Ext #[true,true,true,true,true,true,true,true,true,false,false,false,false,false,false,false] (by decide +kernel) (VF.stab ?_) ?_ ?_ (by first | exact(Ext.rf _).drew | exact Ext.rf _)
 ·intro j v W W' _ _ _;trivial
 ·intro pS hpm uS wS hRW hD K hK
  simp only[List.mem_cons,List.not_mem_nil,or_false] at hpm;rcases hpm with rfl | rfl
  ·( have rX:=Zb hRW za k5;exact Ze (T:=81) (x:=Operand.tmp 38) (t:=81) (d:=some 39) rfl (.pointer (some ⟨gw,5,none⟩)) (by kernel_rfl) (.pointer (some ⟨h.gt,0,none⟩)) (by go_simp) (hK _ _ (VF.mk rfl) hRW (Ext.rf _)))
  ·( exact Zi (f:=234) (xs:=#[Operand.tmp 40]) (ts:=#[123]) (t:=3) (d:=some 41) rfl #[.pointer (some ⟨gw,0,none⟩)] (by go_simp) (by kernel_rfl) _ (PL.out _ hRW) (by rintro e w9 ⟨rfl,xx⟩;exact⟨_,rfl,hK _ _ (VF.mk rfl) (hRW.tr xx) xx⟩))
 intro u w4 hR4 hV;have h6:=(hV (6,some 39) (by simp)).k rfl;have h8:=(hV (8,some 41) (by simp)).k rfl;simp only[Zc,h6,h8];clear hV h6 h8
 try simp only[lay]
 refine Zd 9 (by decide +kernel) (Zi (f:=233) (xs:=#[Operand.tmp 39,Operand.tmp 41]) (ts:=#[81,3]) (t:=3) (d:=some 42) rfl #[.pointer (some ⟨h.gt,0,none⟩),.int .i64 n] (by go_simp) (by kernel_rfl) _ (DR.out _ hR4) ?_);rintro e w5 ⟨rfl,r5⟩;have B5:=h3 w5 r5;have q:=Hd (hQ.out w5 r5);have c16:w5.cell? ⟨gw,16,none⟩=some (.int .i64 s.cursor):=(Blk.cell B5 16);have f16:w5.frozen? ⟨gw,16,none⟩=false:=Blk.free B5 16;have B6:=WkB.field B5 16 (.int .i64 dr) (s':={ s with own:=none,cursor:=dr }) rfl;have c17:(w5.setCell ⟨gw,16,none⟩ (.int .i64 dr)).cell? ⟨gw,17,none⟩=some (.int .i64 s.tried):=(Blk.cell B6 17);have f17:(w5.setCell ⟨gw,16,none⟩ (.int .i64 dr)).frozen? ⟨gw,17,none⟩=false:=Blk.free B6 17;have B7:=WkB.field B6 17 (.int .i64 0) (s':={ s with own:=none,cursor:=dr,tried:=0 }) rfl;have c7:((w5.setCell ⟨gw,16,none⟩ (.int .i64 dr)).setCell ⟨gw,17,none⟩ (.int .i64 0)).cell? ⟨gw,7,none⟩=some (.int .i64 s.ph):=(Blk.cell B7 7);have f7:((w5.setCell ⟨gw,16,none⟩ (.int .i64 dr)).setCell ⟨gw,17,none⟩ (.int .i64 0)).frozen? ⟨gw,7,none⟩=false:=Blk.free B7 7;clear DR PL hR4 B5 B6 B7 hQ k5 za r5;refine⟨_,rfl,?_⟩
 try simp only[lay]
 refine Za 10 (.nilCheck (.tmp 33)) 0 (some 43) rfl (by kernel_rfl) Hq (by intro _;go_simp;try rfl) ?_;simp only[lay];refine Za 11 (.fieldAddr 214 (.tmp 43) 11) 0 (some 44) rfl (by kernel_rfl) Hq (by intro _;go_simp;try rfl) ?_;simp only[lay];refine Zd 12 (by decide +kernel) (ZR rfl (.pointer (some ⟨gw,16,none⟩)) (.int .i64 dr) (by kernel_rfl) (by kernel_rfl) (by go_simp;rfl) ?_)
 try simp only[lay]
 refine Za 13 (.nilCheck (.tmp 34)) 0 (some 45) rfl (by kernel_rfl) Hq (by intro _;go_simp;try rfl) ?_;simp only[lay];refine Za 14 (.fieldAddr 214 (.tmp 45) 12) 0 (some 46) rfl (by kernel_rfl) Hq (by intro _;go_simp;try rfl) ?_;simp only[lay];refine Zd 15 (by decide +kernel) (ZR rfl (.pointer (some ⟨gw,17,none⟩)) (.int .i64 0) (by kernel_rfl) (by kernel_rfl) (by go_simp;rfl) ?_);refine wpAny_done (by kernel_rfl) ?_ _;go_simp;go_wp2_with (fail);go_end0;exact⟨rfl,q.out⟩
section
variable {F:Fix} {w w':World} {M M':List Int} {P P':PoolS} {p:Nat->Int} {s:Nat->WkS} {o:Nat->Option (Nat×HAct)} {L:Option Addr} {cL:Nat} {vs:List Value} {rs:List Rec} {dq:Nat}
def HStep (F:Fix)(j:Nat)(g:Nat)(M:List Int)(P:PoolS)(a:HAct)(M':List Int)(a':HAct)(b:Bool) : Prop :=
 ∀ W,HW W F.E.bs F.E.gm F.E.gc F.E.gp F.E.gn F.E.go (F.gh j) (hb j) 3 g M P a->Calls Tryz.prog 230 #[.pointer (some ⟨g,0,none⟩)] W fun e w'=>e=.returned (.bool b)/\HW w' F.E.bs F.E.gm F.E.gc F.E.gp F.E.gn F.E.go (F.gh j) (hb j) 3 g M' P a'/\Mod (PT g F.E.gm F.E.gc) W w'
theorem S4.pt {g:Nat}{E:Env}{u v:World}(h:Mod (PT g E.gm E.gc) u v) : Mod (S4 g E) u v:=h.mono fun _ _ e=>e.elim .inl fun e=>e.elim (fun e=>.inr (.inl e)) (fun e=>.inr (.inr (.inl e)))
theorem RS.stepped (R:RS F w M P p s o L cL vs rs dq)(O:FixOk F)(k:Nat)(hk:k<2){g:Nat}{a a':HAct}(ho:o k=some (g,a))(z0:F.w1.heap.size<=g)(H:HW w' F.E.bs F.E.gm F.E.gc F.E.gp F.E.gn F.E.go (F.gh k) (hb k) 3 g M' P a')(d:Mod (PT g F.E.gm F.E.gc) w w') : RS F w' M' P p s (Zx o k (some (g,a'))) L cL vs rs dq:=by
 refine R.turn O (R.ac k g a hk ho) (.inl rfl) z0 H.m H.p (S4.pt d) _ (fun i q b hi h=>?_) (fun q b q' b' h0 h1=>?_)
 ·by_cases e:i=k
  ·subst e
   rw[Zf] at h
   injection h with h
   injection h with h1 h2
   subst h1;subst h2;exact .inr H.a
  ·rw[Zr _ _ e] at h
   refine .inl ⟨h,?_⟩;rcases ZT hk with rfl | rfl<;>rcases ZT hi with rfl | rfl
   ·exact absurd rfl e
   ·exact fun eq=>R.nd g a q b ho h eq.symm
   ·exact fun eq=>R.nd q b g a h ho eq
   ·exact absurd rfl e
 ·rcases ZT hk with rfl | rfl
  ·rw[Zf] at h0
   rw[Zr _ _ (by decide)] at h1
   injection h0 with h0
   injection h0 with e1 e2
   subst e1;exact R.nd _ a _ b' ho h1
  ·rw[Zf] at h1
   rw[Zr _ _ (by decide)] at h0
   injection h1 with h1
   injection h1 with e1 e2
   subst e1;exact R.nd _ b _ a h0 ho
theorem Wt (R:RS F w M P p s o L cL vs rs dq)(O:FixOk F)(k:Nat)(hk:k<2)(bp:0<=p k/\p k<=1000000000)(hph:(s k).ph=0){g:Nat}{a a':HAct}(hs:(s k).own=some g)(ho:o k=some (g,a))(z0:F.w1.heap.size<=g)(ST:HStep F k g M P a M' a' false) :
  Calls Tryz.prog 54 #[.pointer (some ⟨F.gM,0,none⟩),.int .i64 (k:Int)] w fun e w'=>e=.returned (.int .i64 0)/\RS F w' M' P (Zx p k (p k+1)) s (Zx o k (some (g,a'))) L cL vs rs dq:=by
 refine R.pick O k hk bp _ (fun u u' h x=>h.ext x) (fun W R1=>?_);refine UJ _ F.h (s k) W (R1.wk k hk) hph _ (fun W1 X1=>?_) (fun u u' h x=>h.ext x);have R2:=R1.ext X1;refine Zb2 _ g F.h (s k) W1 (R2.wk k hk) hs _ (fun W2 X2=>?_) (fun u u' h x=>h.ext x);have R3:=R2.ext X2;exact(ST W2 (R3.hw k (R3.ac k g a hk ho))).mono fun e w' h=>⟨h.1,R3.stepped O k hk ho z0 h.2.1 h.2.2⟩
theorem ZaW (R:RS F w M P p s o L cL vs rs dq)(O:FixOk F)(k:Nat)(hk:k<2)(bp:0<=p k/\p k<=1000000000)(hph:(s k).ph=0)(hme:(s k).me=k)(hs:(s k).own=none){a':HAct}(ST:∀ g,HStep F k g M P (Xl 4 (-1) false ⟨none,0,[]⟩ 1) M' a' false) :
  Calls Tryz.prog 54 #[.pointer (some ⟨F.gM,0,none⟩),.int .i64 (k:Int)] w fun e w'=>e=.returned (.int .i64 0)/\∃ g,F.w1.heap.size<=g/\RS F w' M' P (Zx p k (p k+1)) (Zx s k { s k with own:=some g }) (Zx o k (some (g,a'))) L cL vs rs dq:=by
 refine R.pick O k hk bp _ (fun u u' h x=>h.imp fun g h=>⟨h.1,h.2.ext x⟩) (fun W R1=>?_);refine UJ _ F.h (s k) W (R1.wk k hk) hph _ (fun W1 X1=>?_) (fun u u' h x=>h.imp fun g h=>⟨h.1,h.2.ext x⟩);have R2:=R1.ext X1;refine ZaV _ (F.gh k) F.h (s k) W1 (R2.wk k hk) hs (by rw[hme];exact R2.hcell k hk) R2.st.hc.lt (by rw[hme];exact hk) (show (2:Nat)<=64 by decide)
  (fun g V=>F.w1.heap.size<=g/\RS F V M P (Zx p k (p k+1)) s (Zx o k (some (g,Xl 4 (-1) false ⟨none,0,[]⟩ 1))) L cL vs rs dq)
  (fun g V=>F.w1.heap.size<=g/\RS F V M' P (Zx p k (p k+1)) (Zx s k { s k with own:=some g }) (Zx o k (some (g,a'))) L cL vs rs dq) _ (fun W2 X2=>?_) (fun g V h=>h.2.wk k hk) (fun g V h W3 X3=>?_) (fun g V h=>⟨g,h⟩) (fun u u' h x=>h.imp fun g h=>⟨h.1,h.2.ext x⟩)
 ·have R3:=R2.ext X2
  refine(ZeA F.E.gm F.E.gp (F.gh k) (hb k) 3 W2 (R3.hh k)).mono ?_;rintro e w' ⟨rfl,HA,x⟩;have R4:=R3.ext x;have hz:F.w1.heap.size<=W2.heap.size:=R3.kx.size;refine⟨_,rfl,hz,⟨R4.st,R4.ma,R4.pk,R4.wl,R4.wk,fun i q b hi h=>?_,fun q b q' b' h0 h1=>?_,R4.pa,R4.pb,R4.lo,R4.lr,R4.tp,R4.bx,R4.kx⟩⟩
  ·by_cases e:i=k
   ·subst e
    rw[Zf] at h
    injection h with h
    injection h with h1 h2
    subst h1;subst h2;exact HA
   ·rw[Zr _ _ e] at h
    exact R4.ac i q b hi h
  ·rcases ZT hk with rfl | rfl
   ·rw[Zf] at h0
    rw[Zr _ _ (by decide)] at h1
    injection h0 with h0
    injection h0 with e1 e2
    have:=(R3.ac 1 q' b' (by decide) h1).lt;omega
   ·rw[Zf] at h1
    rw[Zr _ _ (by decide)] at h0
    injection h1 with h1
    injection h1 with e1 e2
    have:=(R3.ac 0 q b (by decide) h0).lt;omega
 ·have R3:=(h.2.fld O k hk 18 (.pointer (some ⟨g,0,none⟩)) { s k with own:=some g } rfl (h.2.pb k hk)).ext X3
  have ho:Zx o k (some (g,Xl 4 (-1) false ⟨none,0,[]⟩ 1)) k=some (g,Xl 4 (-1) false ⟨none,0,[]⟩ 1):=Zf _ _ _;refine(ST g W3 (R3.hw k (R3.ac k g _ hk ho))).mono fun e w' q=>⟨q.1,h.1,?_⟩
  have R5:=R3.stepped O k hk ho h.1 q.2.1 q.2.2
  rwa [ZD] at R5
end
end
section
theorem JP (gw:Nat)(h:ShS)(s:WkS)(lea bnd:Int)(w:World)(A:WkB w gw h s)(R1 R2 R3 Q:World->Prop)(hb:lea<=bnd)
  (HK:∀ W,Ext w W->Calls Tryz.prog 240 #[.pointer (some ⟨h.gi,0,none⟩)] W fun e w'=>e=.returned (.int .i64 lea)/\R1 w') (h1:∀ w',R1 w'->WkB w' gw h s)
  (HB:∀ w1,R1 w1->∀ W,Ext (w1.setCell ⟨gw,9,none⟩ (.int .i64 lea)) W->Calls Tryz.prog 94 #[.pointer (some ⟨h.gk,0,none⟩),s.path.v] W fun e w'=>(∃ er,e=.returned (.tuple #[.int .i64 bnd,.int .i64 er]))/\R2 w') (h2:∀ w',R2 w'->WkB w' gw h { s with least:=lea })
  (HA:∀ w2,R2 w2->∀ W,Ext w2 W->Calls Tryz.prog 241 #[.pointer (some ⟨gw,8,none⟩),.int .i64 1,s.path.v] W fun e w'=>e=.returned (.tuple #[])/\R3 w') (h3:∀ w',R3 w'->∃ lv2,WkB w' gw h { s with least:=lea,logv:=lv2 })
  (hQ:∀ w',R3 w'->Q (w'.setCell ⟨gw,7,none⟩ (.int .i64 13))) :
  Calls Tryz.prog 173 #[.pointer (some ⟨gw,0,none⟩)] w fun e w'=>e=.returned (.tuple #[])/\Q w':=by
 have k3:w.cell? ⟨gw,3,none⟩=some (.pointer (some ⟨h.gi,0,none⟩)):=(Blk.cell A 3);have e1:decide (bnd>=lea)=true:=decide_eq_true hb;have e2:bnd>=lea:=hb;replace HK:=Hd HK;replace HB:=Hd HB;replace HA:=Hd HA;replace hQ:=Hd hQ;clear A;obtain⟨pv,hpv⟩:∃ pv,s.path.v=pv:=⟨_,rfl⟩;rw[hpv] at HB HA;replace hpv:=Hd hpv;go_enter Tryz.func173,Tryz.ntmps173;go_wp2_with (fail);refine(HK.out _ XI).mono ?_;rintro e w1 ⟨rfl,r1⟩;have c9:w1.cell? ⟨gw,9,none⟩=some (.int .i64 s.least):=Blk.cell (h1 w1 r1) 9;have f9:w1.frozen? ⟨gw,9,none⟩=false:=Blk.free (h1 w1 r1) 9;have B2:=Hd (WkB.field (h1 w1 r1) 9 (.int .i64 lea) (s':={ s with least:=lea }) rfl);have BO:=Hd (HB.out w1 r1);clear HK HB k3 r1;go_upto_region 1 with(fail);clear c9 f9;generalize w1.setCell ⟨gw,9,none⟩ (.int .i64 lea)=w2 at *;refine wp_region_any (by kernel_rfl) ?_
 change wpAny _ _ _ _ _ _ _ (World.drew _)
 have k0:w2.drew.cell? ⟨gw,0,none⟩=some (.pointer (some ⟨h.gk,0,none⟩)):=(Blk.cell B2.out 0);have k11:w2.drew.cell? ⟨gw,11,none⟩=some pv:=(Blk.cell B2.out 11).trans (by simp[WkS.cells,hpv.out]);refine Za 0 (.move (.tmp 0)) 123 (some 14) rfl (by kernel_rfl) Hq (by intro _;go_simp;try rfl) ?_;simp only[lay];refine Za 1 (.nilCheck (.tmp 14)) 0 (some 15) rfl (by kernel_rfl) Hq (by intro _;go_simp;try rfl) ?_;simp only[lay];refine Za 2 (.fieldAddr 214 (.tmp 15) 0) 0 (some 16) rfl (by kernel_rfl) Hq (by intro _;go_simp;try rfl) ?_;simp only[lay];refine Za 3 (.fieldAddr 117 (.tmp 16) 0) 0 (some 17) rfl (by kernel_rfl) Hq (by intro _;go_simp;try rfl) ?_;simp only[lay];refine Za 5 (.move (.tmp 0)) 123 (some 19) rfl (by kernel_rfl) Hq (by intro _;go_simp;try rfl) ?_;simp only[lay];refine Za 6 (.nilCheck (.tmp 19)) 0 (some 20) rfl (by kernel_rfl) Hq (by intro _;go_simp;try rfl) ?_;simp only[lay];refine Za 7 (.fieldAddr 214 (.tmp 20) 6) 0 (some 21) rfl (by kernel_rfl) Hq (by intro _;go_simp;try rfl) ?_;simp only[lay];refine Zm (n:=6) [(4,some 18),(8,some 22)] (fun | 4=>.pointer (some ⟨h.gk,0,none⟩) | 8=>pv | _=>undef) #[true,true,true,true,true,true,true,true,true,false,false,false,false,false,false] (by decide +kernel) ?_ ?_
 ·intro pS hpm uS hD K hK
  simp only[List.mem_cons,List.not_mem_nil,or_false] at hpm;rcases hpm with rfl | rfl
  ·exact Ze (T:=107) (x:=Operand.tmp 17) (t:=107) (d:=some 18) rfl (.pointer (some ⟨gw,0,none⟩)) (by kernel_rfl) (.pointer (some ⟨h.gk,0,none⟩)) (by go_simp) hK
  ·exact Ze (T:=22) (x:=Operand.tmp 21) (t:=22) (d:=some 22) rfl (.pointer (some ⟨gw,11,none⟩)) (by kernel_rfl) (pv) (by go_simp) hK
 simp only[Zc,Act.put,List.setIfInBounds_toArray,List.set_cons_zero,List.set_cons_succ];refine Zd 9 (by decide +kernel) (Zi (f:=94) (xs:=#[Operand.tmp 18,Operand.tmp 22]) (ts:=#[107,22]) (t:=166) (d:=some 23) rfl #[.pointer (some ⟨h.gk,0,none⟩),pv] (by go_simp) (by kernel_rfl) _ (BO.out _ (Ext.rf _).drew) ?_);rintro e w3 ⟨⟨er,rfl⟩,r3⟩;have B3:=Hd (h2 w3 r3);have AD:=Hd (HA.out w3 r3);clear BO HA B2 k0 k11 r3;refine⟨_,rfl,?_⟩
 try simp only[lay]
 refine Za 10 (.move (.tmp 23)) 166 (some 13) rfl (by kernel_rfl) Hq (by intro _;go_simp;try rfl) ?_;simp only[lay];refine Za 11 (.extract (.tmp 13) 0) 3 (some 24) rfl (by kernel_rfl) Hq (by intro _;go_simp;try rfl) ?_;simp only[lay];refine Za 12 (.extract (.tmp 13) 1) 27 (some 25) rfl (by kernel_rfl) Hq (by intro _;go_simp;try rfl) ?_;simp only[lay];refine Za 13 (.assign (.tmp 24)) 3 (some 2) rfl (by kernel_rfl) Hq (by intro _;go_simp;try rfl) ?_;simp only[lay];refine Za 14 (.assign (.tmp 25)) 27 (some 3) rfl (by kernel_rfl) Hq (by intro _;go_simp;try rfl) ?_;simp only[lay];refine wpAny_done (by kernel_rfl) ?_ _;go_simp;have k9:w3.cell? ⟨gw,9,none⟩=some (.int .i64 lea):=(Blk.cell B3.out 9);go_upto_region 7 with(fail);refine wp_region_any (by kernel_rfl) ?_
 change wpAny _ _ _ _ _ _ _ (World.drew _)
 have k11:w3.drew.cell? ⟨gw,11,none⟩=some pv:=(Blk.cell B3.out 11).trans (by simp[WkS.cells,hpv.out]);refine Za 0 (.move (.tmp 0)) 123 (some 62) rfl (by kernel_rfl) Hq (by intro _;go_simp;try rfl) ?_;simp only[lay];refine Za 1 (.nilCheck (.tmp 62)) 0 (some 63) rfl (by kernel_rfl) Hq (by intro _;go_simp;try rfl) ?_;simp only[lay];refine Za 2 (.fieldAddr 214 (.tmp 63) 3) 0 (some 64) rfl (by kernel_rfl) Hq (by intro _;go_simp;try rfl) ?_;simp only[lay];refine Za 3 (.move (.tmp 0)) 123 (some 65) rfl (by kernel_rfl) Hq (by intro _;go_simp;try rfl) ?_;simp only[lay];refine Za 4 (.nilCheck (.tmp 65)) 0 (some 66) rfl (by kernel_rfl) Hq (by intro _;go_simp;try rfl) ?_;simp only[lay];refine Za 5 (.fieldAddr 214 (.tmp 66) 6) 0 (some 67) rfl (by kernel_rfl) Hq (by intro _;go_simp;try rfl) ?_;simp only[lay];refine Zm (n:=1) [(6,some 68)] (fun | 6=>pv | _=>undef) #[true,true,true,true,true,true,true,false] (by decide +kernel) ?_ ?_
 ·intro pS hpm uS hD K hK
  simp only[List.mem_cons,List.not_mem_nil,or_false] at hpm;rcases hpm with rfl
  ·exact Ze (T:=22) (x:=Operand.tmp 67) (t:=22) (d:=some 68) rfl (.pointer (some ⟨gw,11,none⟩)) (by kernel_rfl) (pv) (by go_simp) hK
 simp only[Zc,Act.put,List.setIfInBounds_toArray,List.set_cons_zero,List.set_cons_succ];refine Zd 7 (by decide +kernel) (Zi (f:=241) (xs:=#[Operand.tmp 64,Operand.const (Value.int IntKind.i64 1),Operand.tmp 68]) (ts:=#[209,3,22]) (t:=0) (d:=some 69) rfl #[.pointer (some ⟨gw,8,none⟩),.int .i64 1,pv] (by go_simp) (by kernel_rfl) _ (AD.out _ (Ext.rf _).drew) ?_);rintro e w4 ⟨rfl,r4⟩;obtain⟨lv2,B4⟩:=h3 w4 r4;have c7:w4.cell? ⟨gw,7,none⟩=some (.int .i64 s.ph):=(Blk.cell B4 7);have f7:w4.frozen? ⟨gw,7,none⟩=false:=Blk.free B4 7;have q4:=Hd (hQ.out w4 r4);clear AD k11 k9 B3 hQ r4 B4;refine⟨_,rfl,?_⟩
 try simp only[lay]
 refine wpAny_done (by kernel_rfl) ?_ _;go_simp;go_wp2_with (fail);go_end0;exact⟨rfl,q4.out⟩
section
variable {F:Fix} {w w':World} {M M':List Int} {P P':PoolS} {p:Nat->Int} {s:Nat->WkS} {o:Nat->Option (Nat×HAct)} {L:Option Addr} {cL:Nat} {vs:List Value} {rs:List Rec} {dq:Nat}
theorem RS.mem (R:RS F w M P p s o L cL vs rs dq)(O:FixOk F)(m:MemB w' F.E.gm F.E.gc M')(d:Mod (CS F.E.gm F.E.gc) w w') : RS F w' M' P p s o L cL vs rs dq:=by
 have no:∀ {b t cs},Blk w b t cs->t≠268->t≠3->¬CS F.E.gm F.E.gc b:=fun h h1 h2=>R.st.m.no h h1 h2
 obtain⟨⟨cm,hm⟩,⟨cc,hcc⟩⟩:=R.st.m.ty;have noZ:∀ {A:Option Addr} {c:Nat} {xs:List Int},OwI w F.zo A c xs->∀ q,bl A=some q->¬CS F.E.gm F.E.gc q:=fun h q hq hS=>by
  rcases hS with e | e
  ·exact h.ne hm (by decide) q hq e
  ·have:=(h.lt q hq).1
   have:=O.y.1;omega
 refine⟨R.st.cell m d,Blk.mod R.ma d (no R.ma (by decide) (by decide)),R.pk.mod d ?_,R.wl.mod d (no R.wl (by decide) (by decide)),fun k hk=>Blk.mod (R.wk k hk) d (no (R.wk k hk) (by decide) (by decide)),fun k g a hk h=>Blk.mod (R.ac k g a hk h) d (no (R.ac k g a hk h) (by decide) (by decide)),R.nd,R.pa.mod d (noZ R.pa),fun k hk=>(R.pb k hk).mod d (noZ (R.pb k hk)),R.lo.mod d (R.lo.noCS R.st.m (by decide) (by decide)),R.lr.modI d fun h=>noZ h,R.tp.mod d (no R.tp (by decide) (by decide)),R.bx.mod d (no R.bx (by decide) (by decide)),R.kx.tr' d fun q hq e=>?_⟩
 ·rintro (e | e)
  ·exact R.pk.ne hm (by decide) e
  ·have:=O.y.2.1;omega
 ·have:=O.z
  rcases e with e | e<;>omega
theorem RS.un (R:RS F w M P p s o L cL vs rs dq)(k:Nat)(hk:k<2) : RS F w M P p s (Zx o k none) L cL vs rs dq :=
 by
 refine⟨R.st,R.ma,R.pk,R.wl,R.wk,fun i g a hi h=>?_,fun g a g' a' h0 h1=>?_,R.pa,R.pb,R.lo,R.lr,R.tp,R.bx,R.kx⟩
 ·by_cases e:i=k
  ·subst e;rw[Zf] at h;cases h
  ·rw[Zr _ _ e] at h;exact R.ac i g a hi h
 ·rcases ZT hk with rfl | rfl
  ·rw[Zf] at h0;cases h0
  ·rw[Zf] at h1;cases h1
theorem ZgD (R:RS F w M P p s o L cL vs rs dq)(O:FixOk F)(k:Nat)(hk:k<2)(bp:0<=p k/\p k<=1000000000)(hph:(s k).ph=0){g:Nat}{a a':HAct}(hs:(s k).own=some g)(ho:o k=some (g,a))(z0:F.w1.heap.size<=g)(ST:HStep F k g M P a M' a' true)(hov:a'.ph=15)(hpu:a'.push=false)(hsl:a'.slot=((0:Nat):Int))(hP:0<P.n/\P.n<=100000)(hn0:P.nv[0]?=some (.slice F.A 0 F.k))(hn1:P.nv[1]?=some (.int .i64 F.bb)) :
  Calls Tryz.prog 54 #[.pointer (some ⟨F.gM,0,none⟩),.int .i64 (k:Int)] w fun e w'=>e=.returned (.int .i64 0)/\∃ A c,RS F w' M' P (Zx p k (p k+1)) (Zx s k { s k with own:=none,node:=0,path:=⟨A,c,[]⟩,ph:=4 }) (Zx o k none) L cL vs rs dq:=by
 refine R.pick O k hk bp _ (fun u u' h x=>by obtain⟨A,c,h⟩:=h;exact⟨A,c,h.ext x⟩) (fun W R1=>?_);refine UJ _ F.h (s k) W (R1.wk k hk) hph _ (fun W1 X1=>?_) (fun u u' h x=>by obtain⟨A,c,h⟩:=h;exact⟨A,c,h.ext x⟩);have R2:=R1.ext X1;refine Zdy _ g F.h (s k) 0 W1 (R2.wk k hk) hs (fun V=>RS F V M' P (Zx p k (p k+1)) s (Zx o k (some (g,a'))) L cL vs rs dq) (fun V=>RS F V M' P (Zx p k (p k+1)) s (Zx o k (some (g,a'))) L cL vs rs dq) _ (fun W2 X2=>?_) (fun w1 r W2 X2=>?_) (fun V h=>h.wk k hk) (fun V h=>h.wk k hk) (fun w2 r W2 X2=>?_) (fun u u' h x=>by obtain⟨A,c,h⟩:=h;exact⟨A,c,h.ext x⟩)
 ·have R3:=R2.ext X2
  exact(ST W2 (R3.hw k (R3.ac k g a hk ho))).mono fun e w' h=>⟨h.1,R3.stepped O k hk ho z0 h.2.1 h.2.2⟩
 ·have R3:=r.ext X2
  exact(hsl ▸ Uc g (F.gh k) a' W2 (R3.ac k g a' hk (Zf _ _ _)) hov hpu).mono fun e w' h=>⟨h.1,R3.ext h.2⟩
 ·have R3:=((r.fld O k hk 18 (.pointer none) { s k with own:=none } rfl (r.pb k hk)).ext X2).un k hk
  rw[ZD] at R3;refine ZeP _ F.h { s k with own:=none } ((0:Nat):Int) W2 ?_ [] (fun A c V=>OwI V F.zo A c []/\RS F V M' P (Zx p k (p k+1)) (Zx s k { s k with own:=none,node:=0 }) (Zx o k none) L cL vs rs dq) _ (fun W3 X3=>?_) (fun A c V h=>?_) (fun A c V h=>?_)
  ·have:=R3.wk k hk
   rwa [Zf] at this
  ·have R4:=(R3.fld O k hk 10 (.int .i64 ((0:Nat):Int)) { s k with own:=none,node:=0 } (by rw[Zf];rfl) (by have:=R3.pb k hk;rw[Zf] at this;exact this)).ext X3
   rw[ZD] at R4;refine(Zdx F.E.bs F.E.gm F.E.gc F.E.gp F.E.gn F.E.go P W3 R4.st.p 0 hP.1 hP.2 F.A F.k [] F.bb hn0 hn1 R4.pa.read (by simp)).mono ?_;rintro e w' ⟨A,c,rfl,h1,x⟩;have hz:F.zo<=W3.heap.size:=by have:=O.gz (show 0<2 by decide);have:=(R4.wk 0 (by decide)).lt;omega
   exact⟨A,c,F.bb,rfl,h1.more hz,R4.ext x⟩
  ·have:=h.2.wk k hk
   rwa [Zf] at this
  ·have R5:=h.2.fld O k hk 11 (.slice A 0 c) { s k with own:=none,node:=0,path:=⟨A,c,[]⟩ } (by rw[Zf];rfl) h.1
   rw[ZD] at R5;have R6:=R5.fld O k hk 7 (.int .i64 4) { s k with own:=none,node:=0,path:=⟨A,c,[]⟩,ph:=4 } (by rw[Zf];rfl) (by have:=R5.pb k hk;rw[Zf] at this;exact this);rw[ZD] at R6;exact⟨A,c,R6⟩
theorem ZfP (R:RS F w M P p s o none 0 [] [] dq)(O:FixOk F)(k:Nat)(hk:k<2)(bp:0<=p k/\p k<=1000000000)(hph:(s k).ph=4)(hpx:(s k).path.xs=[])(hlg:(s k).logv=.slice none 0 0)(hc:F.c<=F.bb)(hM:M[207]?=some (F.c*64+4)) :
  Calls Tryz.prog 54 #[.pointer (some ⟨F.gM,0,none⟩),.int .i64 (k:Int)] w fun e w'=>e=.returned (.int .i64 0)/\∃ (L:Option Addr) (cL:Nat) (vs:List Value),RS F w' M P (Zx p k (p k+1)) (Zx s k { s k with least:=F.c,logv:=.slice L 1 cL,ph:=13 }) o L cL vs [⟨1,[]⟩] dq:=by
 have XX:∀ u u',(∃ (L:Option Addr) (cL:Nat) (vs:List Value),RS F u M P (Zx p k (p k+1)) (Zx s k { s k with least:=F.c,logv:=.slice L 1 cL,ph:=13 }) o L cL vs [⟨1,[]⟩] dq)->Ext u u'->∃ (L:Option Addr) (cL:Nat) (vs:List Value),RS F u' M P (Zx p k (p k+1)) (Zx s k { s k with least:=F.c,logv:=.slice L 1 cL,ph:=13 }) o L cL vs [⟨1,[]⟩] dq:=fun u u' h x=>by
  obtain⟨L,c,vs,h⟩:=h;exact⟨L,c,vs,h.ext x⟩
 refine R.pick O k hk bp _ XX (fun W R1=>?_);refine ZfO _ F.h (s k) W (R1.wk k hk) hph _ (fun W1 X1=>?_) XX;have R2:=R1.ext X1;obtain⟨A,c,hpa,hA⟩:∃ A c,(s k).path=⟨A,c,[]⟩/\OwI W1 F.zo A c []:=by
  have:=R2.pb k hk
  cases h:(s k).path with
  | mk A c xs =>
   rw[h] at this hpx;subst hpx;exact⟨A,c,rfl,this⟩
 have hz:=O.gz hk;refine JP _ F.h (s k) F.c F.bb W1 (R2.wk k hk) (fun V=>RS F V M P (Zx p k (p k+1)) s o none 0 [] [] dq) (fun V=>RS F V M P (Zx p k (p k+1)) (Zx s k { s k with least:=F.c }) o none 0 [] [] dq) (fun V=>∃ (L:Option Addr) (cL:Nat) (vs:List Value),RS F V M P (Zx p k (p k+1)) (Zx s k { s k with least:=F.c,logv:=.slice L 1 cL }) o L cL vs [⟨1,[]⟩] dq) _ hc (fun W2 X2=>?_) (fun V h=>h.wk k hk) (fun w1 r W2 X2=>?_) (fun V h=>?_) (fun w2 r W2 X2=>?_) (fun V h=>?_) (fun V h=>?_)
 ·have R3:=R2.ext X2
  refine(Zc4 F.E.bs F.E.gm F.E.gc F.E.gi F.E.gl _ M W2 R3.st.i R3.st.m (F.c*64+4) hM).mono ?_;rintro e w' ⟨rfl,m,d⟩;exact⟨by rw[show (F.c*64+4) / 64=F.c by omega],R3.mem O m d⟩
 ·have R3:=(r.fld O k hk 9 (.int .i64 F.c) { s k with least:=F.c } rfl (r.pb k hk)).ext X2
  rw[hpa];have hA2:RdI W2 A []:=by
   have:=R3.pb k hk;rw[Zf] at this;have h2:OwI W2 F.zo (s k).path.A (s k).path.c (s k).path.xs:=this;rw[hpa] at h2;exact h2.read
  exact(R3.bound O A c hA2).mono fun e w' h=>⟨⟨_,h.1⟩,R3.ext h.2⟩
 ·have:=h.wk k hk
  rwa [Zf] at this
 ·have R3:=r.ext X2
  rw[hpa];have B:=R3.wk k hk;rw[Zf] at B;have hA2:OwI W2 F.zo A c []:=by
   have:=R3.pb k hk;rw[Zf] at this;have h2:OwI W2 F.zo (s k).path.A (s k).path.c (s k).path.xs:=this;rw[hpa] at h2;exact h2
  have hzw:F.zo<=W2.heap.size:=by have:=Blk.lt B;omega
  refine(Zdw (F.gw k) 8 F.zo 214 _ [] ⟨1,[]⟩ [] none 0 A c W2 B (by show (({ s k with least:=F.c }:WkS).cells F.h)[8]?=_;show some (s k).logv=_;rw[hlg];rfl) (by decide) (by decide) hz.2 R3.lo R3.lr hzw hA2.read (by simp) (by simp)).mono ?_;rintro e w' ⟨A',c',L,cL,rfl,⟨b1,b2,b3⟩,-,d⟩;have d':Mod (fun b=>b=F.gw k) W2 w':=d.mono fun i _ h=>h.elim id fun h=>by cases h
  have B':WkB w' (F.gw k) F.h { s k with least:=F.c,logv:=.slice L 1 cL }:=b1;have R4:=R3.wkr O k hk d' B' (by have h5:=hA2.mod d' fun q hq e=>hA2.ne B (by decide) q hq e;show OwI w' F.zo (s k).path.A (s k).path.c (s k).path.xs;rw[hpa];exact h5);rw[ZD] at R4;exact⟨rfl,L,cL,_,{ R4 with lo:=b2,lr:=b3 }⟩
 ·obtain⟨L,cL,vs,h⟩:=h
  have:=h.wk k hk;rw[Zf] at this;exact⟨_,this⟩
 ·obtain⟨L,cL,vs,h⟩:=h
  have R5:=h.fld O k hk 7 (.int .i64 13) { s k with least:=F.c,logv:=.slice L 1 cL,ph:=13 } (by rw[Zf];rfl) (by have:=h.pb k hk;rw[Zf] at this;exact this);rw[ZD] at R5;exact⟨L,cL,vs,R5⟩
theorem ZfQ (R:RS F w M P p s o L cL vs rs dq)(O:FixOk F)(k:Nat)(hk:k<2)(bp:0<=p k/\p k<=1000000000)(hph:(s k).ph=13)(hme:(s k).me=k)(hsl:(s k).slot=none)(hnd:(s k).node=((0:Nat):Int))(hP:0<P.n/\P.n<=100000/\P.ows.length=2)(hrow:P.ows[k]?=some ⟨none,0,[]⟩) :
  Calls Tryz.prog 54 #[.pointer (some ⟨F.gM,0,none⟩),.int .i64 (k:Int)] w fun e w'=>e=.returned (.int .i64 0)/\∃ (A:Option Addr) (c:Nat),RS F w' M { P with ows:=P.ows.set k ⟨A,c,[0]⟩ } (Zx p k (p k+1)) (Zx s k { s k with slot:=none,node:=-1,path:=⟨none,0,[]⟩,ph:=14 }) o L cL vs rs dq:=by
 have XX:∀ u u',(∃ (A:Option Addr) (c:Nat),RS F u M { P with ows:=P.ows.set k ⟨A,c,[0]⟩ } (Zx p k (p k+1)) (Zx s k { s k with slot:=none,node:=-1,path:=⟨none,0,[]⟩,ph:=14 }) o L cL vs rs dq)->Ext u u'->∃ (A:Option Addr) (c:Nat),RS F u' M { P with ows:=P.ows.set k ⟨A,c,[0]⟩ } (Zx p k (p k+1)) (Zx s k { s k with slot:=none,node:=-1,path:=⟨none,0,[]⟩,ph:=14 }) o L cL vs rs dq:=fun u u' h x=>by
  obtain⟨A,c,h⟩:=h;exact⟨A,c,h.ext x⟩
 refine R.pick O k hk bp _ XX (fun W R1=>?_);refine ZeN _ F.h (s k) W (R1.wk k hk) hph _ (fun W1 X1=>?_) XX;have R2:=R1.ext X1;refine ZbI _ F.h (s k) W1 (R2.wk k hk) hsl (fun g V=>F.w1.heap.size<=g/\Xe V g F.E.gp ⟨k,true,((0:Nat):Int),0,0,0⟩/\RS F V M P (Zx p k (p k+1)) s o L cL vs rs dq) (fun g V=>∃ (A:Option Addr) (c:Nat),RS F V M { P with ows:=P.ows.set k ⟨A,c,[0]⟩ } (Zx p k (p k+1)) (Zx s k { s k with slot:=some g }) o L cL vs rs dq) _ (fun W2 X2=>?_) (fun g V h=>h.2.2.wk k hk) (fun g w1 r W2 X2=>?_) (fun g V h=>?_) (fun g V h=>?_)
 ·have R3:=R2.ext X2
  rw[hme,hnd];refine(Zdd F.E.bs F.E.gm F.E.gc F.E.gp F.E.gn F.E.go P W2 R3.st.p k 0 (by omega) (by omega) hP.1 hP.2.1).mono ?_;rintro e w' ⟨g,rfl,HA,z,x⟩;exact⟨g,rfl,by have:=R3.kx.size;omega,HA,R3.ext x⟩
 ·obtain⟨z,HA,r⟩:=r
  have R3:=(r.fld O k hk 20 (.pointer (some ⟨g,0,none⟩)) { s k with slot:=some g } rfl (r.pb k hk)).ext X2;have m:ModT 0 [214] w1 (w1.setCell ⟨F.gw k,20,none⟩ (.pointer (some ⟨g,0,none⟩))):=ModT.set w1 (r.wk k hk) (by simp) (Nat.zero_le _) 20 _;have HA2:Xe W2 g F.E.gp ⟨k,true,((0:Nat):Int),0,0,0⟩:=Blk.ext (Blk.modT HA m (by decide)) X2;have H:PW W2 F.E.bs F.E.gm F.E.gc F.E.gp F.E.gn F.E.go g M P ⟨k,true,((0:Nat):Int),0,0,0⟩:=⟨R3.st.m,R3.st.p,HA2⟩;have hbs:F.E.bs<=W2.heap.size:=by have:=O.v;have:=R3.st.m.lt;omega
  refine(Uv g F.E.gp _ W2 HA2 rfl (fun V b=>b=⟨k,true,((0:Nat):Int),3,0,0⟩/\(∃ A' c',PW V F.E.bs F.E.gm F.E.gc F.E.gp F.E.gn F.E.go g M { P with ows:=P.ows.set k ⟨A',c',[0]⟩ } b)/\Mod (PF g F.E.gm F.E.gc F.E.go ⟨none,0,[]⟩) W2 V) (fun V b h=>by obtain⟨-,⟨A',c',h⟩,-⟩:=h;exact h.a) ((ZbJ F.E.bs F.E.gm F.E.gc F.E.gp F.E.gn F.E.go g M P _ ⟨none,0,[]⟩ W2 H hrow (by omega) rfl hbs (by simp)).mono fun e w' h=>?_)).mono ?_
  ·obtain⟨h1,⟨A',c',h2,-⟩,h3⟩:=h
   exact⟨h1,_,rfl,⟨A',c',h2⟩,h3⟩
  ·rintro e w' ⟨b,rfl,rfl,⟨A',c',h2⟩,d⟩
   refine⟨rfl,A',c',?_⟩;refine R3.turn O HA2 (.inr rfl) z h2.m h2.p (d.mono fun i _ h=>?_) _ (fun i q b hi h=>.inl ⟨h,fun e=>?_⟩) R3.nd
   ·rcases h with(h | h | h) | (h | h | h)
    ·exact .inl h
    ·cases h
    ·exact .inr (.inr (.inr h))
    ·exact .inl h
    ·exact .inr (.inl h)
    ·exact .inr (.inr (.inl h))
   ·subst e
    exact Blk.ne (R3.ac i _ b hi h) HA2 (by decide) rfl
 ·obtain⟨A',c',h⟩:=h
  have:=h.wk k hk
  rwa [Zf] at this
 ·obtain⟨A',c',h⟩:=h
  have R5:=h.fld O k hk 20 (.pointer none) { s k with slot:=none } (by rw[Zf];rfl) (by have:=h.pb k hk;rw[Zf] at this;exact this);rw[ZD] at R5;have R6:=R5.fld O k hk 10 (.int .i64 (-1)) { s k with slot:=none,node:=-1 } (by rw[Zf];rfl) (by have:=R5.pb k hk;rw[Zf] at this;exact this);rw[ZD] at R6;have R7:=R6.fld O k hk 11 (.slice none 0 0) { s k with slot:=none,node:=-1,path:=⟨none,0,[]⟩ } (by rw[Zf];rfl) (OwI.nil _ _);rw[ZD] at R7;have R8:=R7.fld O k hk 7 (.int .i64 14) { s k with slot:=none,node:=-1,path:=⟨none,0,[]⟩,ph:=14 } (by rw[Zf];rfl) (OwI.nil _ _);rw[ZD] at R8;exact⟨A',c',R8⟩
theorem ZdA (R:RS F w M P p s o L cL vs rs dq)(O:FixOk F)(k:Nat)(hk:k<2)(bp:0<=p k/\p k<=1000000000)(hph:(s k).ph=14)(hM:M[208]?=some 1) :
  Calls Tryz.prog 54 #[.pointer (some ⟨F.gM,0,none⟩),.int .i64 (k:Int)] w fun e w'=>e=.returned (.int .i64 0)/\RS F w' (M.set 208 0) P (Zx p k (p k+1)) (Zx s k { s k with ph:=0 }) o L cL vs rs dq:=by
 refine R.pick O k hk bp _ (fun u u' h x=>h.ext x) (fun W R1=>?_);refine ZeO _ F.h (s k) W (R1.wk k hk) hph _ (fun W1 X1=>?_) (fun u u' h x=>h.ext x);have R2:=R1.ext X1;refine ZaA _ F.h (s k) W1 (R2.wk k hk) (fun V=>RS F V (M.set 208 0) P (Zx p k (p k+1)) s o L cL vs rs dq) _ (fun W2 X2=>?_) (fun V h=>h.wk k hk) (fun V h=>h.fld O k hk 7 (.int .i64 0) { s k with ph:=0 } rfl (h.pb k hk));have R3:=R2.ext X2;refine(Zew F.E.gu F.E.gm F.E.gc 208 M W2 R3.st.u R3.st.m (by decide) 1 (-1) hM (by decide) (by decide)).mono ?_;rintro e w' ⟨rfl,m,d⟩;exact⟨rfl,R3.mem O m d⟩
end
end
section
structure WkH (w:World)(gw gh gm b lv:Nat)(h:ShS)(s:WkS) : Prop where
 wk:WkB w gw h s
 hp:ZN w gh gm h.gp b lv
 ce:w.cell? ⟨h.gH,s.me,none⟩=some (.pointer (some ⟨gh,0,none⟩))
 si:h.gH<w.heap.size
 ne:h.gH≠gw
theorem WkH.ext {w w':World}{gw gh gm b lv:Nat}{h:ShS}{s:WkS}(A:WkH w gw gh gm b lv h s)(x:Ext w w') : WkH w' gw gh gm b lv h s:=⟨Blk.ext A.wk x,Blk.ext A.hp x,Zb x A.si A.ce,by have:=A.si;have:=x.size;omega,A.ne⟩
theorem WkH.field {w:World}{gw gh gm b lv:Nat}{h:ShS}{s:WkS}(A:WkH w gw gh gm b lv h s)(i:Nat)(v:Value){s':WkS}(hs:(s.cells h).setIfInBounds i v=s'.cells h)(hm:s'.me=s.me) : WkH (w.setCell ⟨gw,i,none⟩ v) gw gh gm b lv h s' :=
 ⟨WkB.field A.wk i v hs,by have:=A.hp;unfold ZN at this ⊢;exact this.far (p:=⟨gw,i,none⟩) (Blk.ne this A.wk (by decide)) _,by rw[hm,<-A.ce];exact World.cell?_of_block (Below.heap_setCell w ⟨gw,i,none⟩ _ h.gH A.ne),by simpa [World.setCell] using A.si,A.ne⟩
theorem ZdB (gw gh gm b lv:Nat)(h:ShS)(s:WkS)(c t gv:Nat)(w:World)(A:WkH w gw gh gm b lv h s)(hs:s.theft=none)(hcur:s.cursor=(c:Int))(htr:s.tried=(t:Int))(hl:1<=lv/\lv<=6)(hm:s.me<h.nH)(hn:h.nH<=64)(hc:c<h.nH*(2^lv-1))(ht:t+1<h.nH*(2^lv-1))(hv:w.cell? ⟨h.gH,c / (2^lv-1),none⟩=some (.pointer (some ⟨gv,0,none⟩)))(R1 R2:Nat->World->Prop)(R3 Q:World->Prop)
  (HT:∀ W,Ext w W->Calls Tryz.prog 235 #[.pointer (some ⟨gv,0,none⟩),.int .i64 ((1+c%(2^lv-1):Nat):Int)] W fun e w'=>∃ ga,e=.returned (.pointer (some ⟨ga,0,none⟩))/\R1 ga w') (h1:∀ ga w',R1 ga w'->WkB w' gw h s)
  (HS:∀ ga w1,R1 ga w1->∀ W,Ext (w1.setCell ⟨gw,19,none⟩ (.pointer (some ⟨ga,0,none⟩))) W->Calls Tryz.prog 230 #[.pointer (some ⟨ga,0,none⟩)] W fun e w'=>e=.returned (.bool true)/\R2 ga w') (h2:∀ ga w',R2 ga w'->WkB w' gw h { s with theft:=some ga })
  (HL:∀ ga w1,R2 ga w1->∀ W,Ext w1 W->Calls Tryz.prog 231 #[.pointer (some ⟨ga,0,none⟩)] W fun e w'=>e=.returned (.int .i64 (-1))/\R3 w') (h3:∀ w',R3 w'->∃ ga,WkH w' gw gh gm b lv h { s with theft:=some ga })
  (hQ:∀ w1 w',R3 w1->Ext (w1.setCell ⟨gw,19,none⟩ (.pointer none)) w'->Q ((w'.setCell ⟨gw,16,none⟩ (.int .i64 (((c+1)%(h.nH*(2^lv-1)):Nat):Int))).setCell ⟨gw,17,none⟩ (.int .i64 ((t:Int)+1)))) (XQ:∀ w w',Q w->Ext w w'->Q w') :
  Calls Tryz.prog 170 #[.pointer (some ⟨gw,0,none⟩)] w fun e w'=>e=.returned (.tuple #[])/\Q w':=by
 have hp6:2^lv<=2^6:=Nat.pow_le_pow_right (by omega) hl.2;have hp1:2^1<=2^lv:=Nat.pow_le_pow_right (by omega) hl.1;have HE:=Hd (fun(W:World) (X:Ext w W)=>Uf gw gh h s W (Blk.ext A.wk X) (Zb X A.si A.ce) (by have:=X.size;have:=A.si;omega) hm hn);have PL:=Hd (fun(W:World) (X:Ext w W)=>YO gh gm h.gp b lv W (Blk.ext A.hp X) (by omega));have PA:=fun(W:World) (s':WkS) (A':WkH W gw gh gm b lv h s') (e:s'.me=s.me)=>Uz gw gh gm b lv h s' W A'.wk A'.hp hl.2 A'.ce A'.si (by rw[e];exact hm) hn
 obtain⟨n,hn_⟩:∃ n,2^lv-1=n:=⟨_,rfl⟩;rw[hn_] at hc ht hv HT hQ;simp only[hn_] at PL PA;have hnb:1<=n/\n<=63:=by omega
 have hpl:h.nH*n<=64*63:=Nat.mul_le_mul hn hnb.2;have hpe:(h.nH:Int)*(n:Int)=((h.nH*n:Nat):Int):=by simp
 simp only[hpe] at PA;obtain⟨pl,hpl_⟩:∃ pl,h.nH*n=pl:=⟨_,rfl⟩;rw[hpl_] at hc ht hpl hQ;simp only[hpl_] at PA;obtain⟨q,hq_⟩:∃ q,c / n=q:=⟨_,rfl⟩;obtain⟨r,hr_⟩:∃ r,c%n=r:=⟨_,rfl⟩;have hqb:q<h.nH:=by rw[<-hq_];exact(Nat.div_lt_iff_lt_mul (by omega)).2 (by rw[hpl_];exact hc)
 have hq:(c:Int).tdiv (n:Int)=(q:Int):=by rw[Int.tdiv_eq_ediv_of_nonneg (by omega),<-hq_];simp
 have hr:(c:Int).tmod (n:Int)=(r:Int):=by rw[Int.tmod_eq_emod_of_nonneg (by omega),<-hr_];simp
 have hrb:r<n:=by rw[<-hr_];exact Nat.mod_lt _ (by omega)
 rw[hq_] at hv;rw[hr_] at HT;obtain⟨c2,hc2⟩:∃ c2,(c+1)%pl=c2:=⟨_,rfl⟩;rw[hc2] at hQ;have hr2:((c:Int)+1).tmod (pl:Int)=(c2:Int):=by rw[Int.tmod_eq_emod_of_nonneg (by omega),<-hc2];simp
 have hc2b:c2<pl:=by rw[<-hc2];exact Nat.mod_lt _ (by omega)
 have n0:¬((n:Int)=0):=by omega
 have n1:¬((pl:Int)=0):=by omega
 have nn0:¬n=0:=by omega
 have np0:¬pl=0:=by omega
 have n0':((n:Int)==0)=false:=by simp;omega
 have n1':((pl:Int)==0)=false:=by simp;omega
 have wq:IntKind.i64.wrap (q:Int)=(q:Int):=IntWalk.i64_in _ (by omega);have wr:IntKind.i64.wrap (r:Int)=(r:Int):=IntWalk.i64_in _ (by omega);have wr1:IntKind.i64.wrap (1+(r:Int))=((1+r:Nat):Int):=by rw[show 1+(r:Int)=((1+r:Nat):Int) by omega];exact IntWalk.i64_in _ (by omega)
 have wc:IntKind.i64.wrap ((c:Int)+1)=(c:Int)+1:=IntWalk.i64_in _ (by omega);have wc2:IntKind.i64.wrap (c2:Int)=(c2:Int):=IntWalk.i64_in _ (by omega);have wt:IntKind.i64.wrap ((t:Int)+1)=(t:Int)+1:=IntWalk.i64_in _ (by omega);have q0:(0:Int)<=(q:Int):=by omega
 have q1:(q:Int)<(h.nH:Int):=by omega
 have et:((t:Int)+1==(pl:Int))=false:=by simp;omega
 have et2:decide ((t:Int)+1=(pl:Int))=false:=decide_eq_false (by omega);have k19:w.cell? ⟨gw,19,none⟩=some (.pointer none):=(Blk.cell A.wk 19).trans (by simp[WkS.cells,Wr,hs]);have AA:=Hd A;have zH:=A.si;replace hpe:=Hd hpe;clear A hq_ hr_ hc2 hpl_ hn_ hc ht hqb hrb hc2b hpl hnb hp6 hp1;replace HT:=Hd HT;replace HS:=Hd HS;replace HL:=Hd HL;replace hQ:=Hd hQ;replace XQ:=Hd XQ;replace PL:=Hd PL;replace PA:=Hd PA;generalize ((1+r:Nat):Int)=pr at *;go_enter Tryz.func170,Tryz.ntmps170;go_wp2_with (fail);refine(HE.out _ XI).mono ?_;rintro e w1 ⟨rfl,x1⟩;have X1:=Hd (Ext.tr (a:=w) XI x1);clear x1 HE k19;go_wp2_with (fail);refine(PL.out _ (X1.out.tr XI)).mono ?_;rintro e w2 ⟨rfl,x2⟩;have X2:=Hd (X1.out.tr (Ext.tr (a:=w1) XI x2));clear x2 PL X1;go_upto_region 2 with(fail);refine wp_region_any (by kernel_rfl) ?_
 change wpAny _ _ _ _ _ _ _ (World.drew _)
 have X3:=Hd (X2.out.tr (show Ext w2 w2.drew from(Ext.rf _).drew));generalize w2.drew=w3 at *;have A3:=Hd (AA.out.ext X3.out);have k2:w3.cell? ⟨gw,2,none⟩=some (.slice (some ⟨h.gH,0,none⟩) h.nH h.cH):=(Blk.cell A3.out.wk 2);have k16:w3.cell? ⟨gw,16,none⟩=some (.int .i64 (c:Int)):=(Blk.cell A3.out.wk 16).trans (by simp[WkS.cells,hcur]);have kv:=Zb X3.out zH hv;refine Za 0 (.move (.tmp 0)) 123 (some 12) rfl (by kernel_rfl) Hq (by intro _;go_simp;try rfl) ?_;simp only[lay];refine Za 1 (.move (.tmp 0)) 123 (some 13) rfl (by kernel_rfl) Hq (by intro _;go_simp;try rfl) ?_;simp only[lay];refine Za 2 (.nilCheck (.tmp 13)) 0 (some 14) rfl (by kernel_rfl) Hq (by intro _;go_simp;try rfl) ?_;simp only[lay];refine Za 3 (.fieldAddr 214 (.tmp 14) 0) 0 (some 15) rfl (by kernel_rfl) Hq (by intro _;go_simp;try rfl) ?_;simp only[lay];refine Za 4 (.fieldAddr 117 (.tmp 15) 2) 0 (some 16) rfl (by kernel_rfl) Hq (by intro _;go_simp;try rfl) ?_;simp only[lay];refine Za 6 (.move (.tmp 0)) 123 (some 18) rfl (by kernel_rfl) Hq (by intro _;go_simp;try rfl) ?_;simp only[lay];refine Za 7 (.nilCheck (.tmp 18)) 0 (some 19) rfl (by kernel_rfl) Hq (by intro _;go_simp;try rfl) ?_;simp only[lay];refine Za 8 (.fieldAddr 214 (.tmp 19) 11) 0 (some 20) rfl (by kernel_rfl) Hq (by intro _;go_simp;try rfl) ?_;simp only[lay];refine Za 10 (.move (.tmp 2)) 3 (some 22) rfl (by kernel_rfl) Hq (by intro _;go_simp;try rfl) ?_;simp only[lay];refine Za 14 (.move (.tmp 0)) 123 (some 26) rfl (by kernel_rfl) Hq (by intro _;go_simp;try rfl) ?_;simp only[lay];refine Za 15 (.nilCheck (.tmp 26)) 0 (some 27) rfl (by kernel_rfl) Hq (by intro _;go_simp;try rfl) ?_;simp only[lay];refine Za 16 (.fieldAddr 214 (.tmp 27) 11) 0 (some 28) rfl (by kernel_rfl) Hq (by intro _;go_simp;try rfl) ?_;simp only[lay];refine Za 18 (.move (.tmp 2)) 3 (some 30) rfl (by kernel_rfl) Hq (by intro _;go_simp;try rfl) ?_;simp only[lay];refine Zm (n:=4) [(5,some 17),(9,some 21),(11,some 23),(12,some 24),(13,some 25),(17,some 29),(19,some 31),(20,some 32)] (fun | 5=>.slice (some ⟨h.gH,0,none⟩) h.nH h.cH | 9=>.int .i64 (c:Int) | 11=>.int .i64 (q:Int) | 12=>.pointer (some ⟨h.gH,q,none⟩) | 13=>.pointer (some ⟨gv,0,none⟩) | 17=>.int .i64 (c:Int) | 19=>.int .i64 (r:Int) | 20=>.int .i64 pr | _=>undef) #[true,true,true,true,true,true,true,true,true,true,true,true,true,true,true,true,true,true,true,true,true,false,false,false,false] (by decide +kernel) ?_ ?_
 ·intro pS hpm uS hD K hK
  simp only[List.mem_cons,List.not_mem_nil,or_false] at hpm;rcases hpm with rfl | rfl | rfl | rfl | rfl | rfl | rfl | rfl
  ·exact Ze (T:=113) (x:=Operand.tmp 16) (t:=113) (d:=some 17) rfl (.pointer (some ⟨gw,2,none⟩)) (by kernel_rfl) (.slice (some ⟨h.gH,0,none⟩) h.nH h.cH) (by go_simp) hK
  ·exact Ze (T:=3) (x:=Operand.tmp 20) (t:=3) (d:=some 21) rfl (.pointer (some ⟨gw,16,none⟩)) (by kernel_rfl) (.int .i64 (c:Int)) (by go_simp) hK
  ·(have e9:uS 9=.int .i64 (c:Int):=hD 9 (Zg (by kernel_rfl));exact Zl (op:=Op.binOp BinOp.quo 3 (Operand.tmp 21) (Operand.tmp 22) 3) (t:=3) (d:=some 23) rfl (.int .i64 (q:Int)) (by simp only[Zc,Act.put,List.setIfInBounds_toArray,List.set_cons_zero,List.set_cons_succ];unfold Zj;go_simp;try simp only[e9];try go_simp) hK)
  ·exact Vb (T:=113) (x:=Operand.tmp 17) (y:=Operand.tmp 23) (t:=0) (d:=some 24) rfl (.slice (some ⟨h.gH,0,none⟩) h.nH h.cH) (.int .i64 (q:Int)) (Eq.trans (b:=uS 5) (by kernel_rfl) (hD 5 (Zg (by kernel_rfl)))) (Eq.trans (b:=uS 11) (by kernel_rfl) (hD 11 (Zg (by kernel_rfl)))) (.pointer (some ⟨h.gH,q,none⟩)) (by go_simp) hK
  ·exact Ze (T:=188) (x:=Operand.tmp 24) (t:=188) (d:=some 25) rfl (.pointer (some ⟨h.gH,q,none⟩)) (Eq.trans (b:=uS 12) (by kernel_rfl) (hD 12 (Zg (by kernel_rfl)))) (.pointer (some ⟨gv,0,none⟩)) (by go_simp) hK
  ·exact Ze (T:=3) (x:=Operand.tmp 28) (t:=3) (d:=some 29) rfl (.pointer (some ⟨gw,16,none⟩)) (by kernel_rfl) (.int .i64 (c:Int)) (by go_simp) hK
  ·(have e17:uS 17=.int .i64 (c:Int):=hD 17 (Zg (by kernel_rfl));exact Zl (op:=Op.binOp BinOp.rem 3 (Operand.tmp 29) (Operand.tmp 30) 3) (t:=3) (d:=some 31) rfl (.int .i64 (r:Int)) (by simp only[Zc,Act.put,List.setIfInBounds_toArray,List.set_cons_zero,List.set_cons_succ];unfold Zj;go_simp;try simp only[e17];try go_simp) hK)
  ·(have e19:uS 19=.int .i64 (r:Int):=hD 19 (Zg (by kernel_rfl));exact Zl (op:=Op.binOp BinOp.add 3 (Operand.const (Value.int IntKind.i64 1)) (Operand.tmp 31) 3) (t:=3) (d:=some 32) rfl (.int .i64 pr) (by simp only[Zc,Act.put,List.setIfInBounds_toArray,List.set_cons_zero,List.set_cons_succ];unfold Zj;go_simp;try simp only[e19];try go_simp) hK)
 simp only[Zc,Act.put,List.setIfInBounds_toArray,List.set_cons_zero,List.set_cons_succ];refine Zd 21 (by decide +kernel) (Zi (f:=235) (xs:=#[Operand.tmp 25,Operand.tmp 32]) (ts:=#[188,3]) (t:=205) (d:=some 33) rfl #[.pointer (some ⟨gv,0,none⟩),.int .i64 pr] (by go_simp) (by kernel_rfl) _ (HT.out _ X3.out) ?_);rintro e w4 ⟨ga,rfl,r4⟩;have B4:=h1 ga w4 r4;have c19:w4.cell? ⟨gw,19,none⟩=some (.pointer none):=(Blk.cell B4 19).trans (by simp[WkS.cells,Wr,hs]);have f19:w4.frozen? ⟨gw,19,none⟩=false:=Blk.free B4 19;have B5:=Hd (WkB.field B4 19 (.pointer (some ⟨ga,0,none⟩)) (s':={ s with theft:=some ga }) rfl);have ST:=Hd (HS.out ga w4 r4);clear HT HS X2 X3 A3 AA k2 k16 kv B4;refine⟨_,rfl,?_⟩
 try simp only[lay]
 refine Za 22 (.nilCheck (.tmp 12)) 0 (some 34) rfl (by kernel_rfl) Hq (by intro _;go_simp;try rfl) ?_;simp only[lay];refine Za 23 (.fieldAddr 214 (.tmp 34) 14) 0 (some 35) rfl (by kernel_rfl) Hq (by intro _;go_simp;try rfl) ?_;simp only[lay];refine Zd 24 (by decide +kernel) (ZR rfl (.pointer (some ⟨gw,19,none⟩)) (.pointer (some ⟨ga,0,none⟩)) (by kernel_rfl) (by kernel_rfl) (by go_simp;rfl) ?_);refine wpAny_done (by kernel_rfl) ?_ _;go_simp;clear c19 f19;generalize w4.setCell ⟨gw,19,none⟩ (.pointer (some ⟨ga,0,none⟩))=w5 at *;have k19:w5.cell? ⟨gw,19,none⟩=some (.pointer (some ⟨ga,0,none⟩)):=(Blk.cell B5.out 19);go_wp2_with (fail);refine(ST.out _ XI).mono ?_;rintro e w6 ⟨rfl,r6⟩;have k19:w6.cell? ⟨gw,19,none⟩=some (.pointer (some ⟨ga,0,none⟩)):=Blk.cell (h2 ga w6 r6) 19;have SL:=Hd (HL.out ga w6 r6);clear ST HL B5;go_wp2_with (fail);refine(SL.out _ XI).mono ?_;rintro e w7 ⟨rfl,r7⟩;obtain⟨ga',A7⟩:=h3 w7 r7;have c19:w7.cell? ⟨gw,19,none⟩=some (.pointer (some ⟨ga',0,none⟩)):=(Blk.cell A7.wk 19);have f19:w7.frozen? ⟨gw,19,none⟩=false:=Blk.free A7.wk 19;have A8:=Hd (A7.field 19 (.pointer none) (s':={ s with theft:=none }) rfl rfl);have QQ:=Hd (fun w'=>hQ.out w7 w' r7);clear SL A7 hQ k19;go_upto_region 8 with(fail);clear c19 f19;generalize w7.setCell ⟨gw,19,none⟩ (.pointer none)=w8 at *;have c16:w8.cell? ⟨gw,16,none⟩=some (.int .i64 (c:Int)):=(Blk.cell A8.out.wk 16).trans (by simp[WkS.cells,hcur]);have za:=Blk.lt A8.out.wk;have P8:=Hd (fun(W:World) (X:Ext w8 W)=>PA.out W _ (A8.out.ext X) rfl);refine wp_region_any (by kernel_rfl) ?_
 change wpAny _ _ _ _ _ _ _ (World.drew _)
 refine Za 0 (.move (.tmp 0)) 123 (some 55) rfl (by kernel_rfl) Hq (by intro _;go_simp;try rfl) ?_;simp only[lay];refine Za 1 (.move (.tmp 0)) 123 (some 56) rfl (by kernel_rfl) Hq (by intro _;go_simp;try rfl) ?_;simp only[lay];refine Za 2 (.nilCheck (.tmp 56)) 0 (some 57) rfl (by kernel_rfl) Hq (by intro _;go_simp;try rfl) ?_;simp only[lay];refine Za 3 (.fieldAddr 214 (.tmp 57) 11) 0 (some 58) rfl (by kernel_rfl) Hq (by intro _;go_simp;try rfl) ?_;simp only[lay];refine Za 6 (.move (.tmp 0)) 123 (some 61) rfl (by kernel_rfl) Hq (by intro _;go_simp;try rfl) ?_;simp only[lay];refine Zh (n:=4) [(4,some 59),(5,some 60),(7,some 62)] (Ext w8) (VF (fun | 4=>some (.int .i64 (c:Int)) | 5=>some (.int .i64 ((c:Int)+1)) | 7=>some (.int .i64 (pl:Int)) | _=>none) (fun i v W=>True)) Ext #[true,true,true,true,true,true,true,true,false,false,false,false] (by decide +kernel) (VF.stab ?_) ?_ ?_ (by first | exact(Ext.rf _).drew | exact Ext.rf _)
 ·intro j v W W' _ _ _;trivial
 ·intro pS hpm uS wS hRW hD K hK
  simp only[List.mem_cons,List.not_mem_nil,or_false] at hpm;rcases hpm with rfl | rfl | rfl
  ·( have rX:=Zb hRW za c16;exact Ze (T:=3) (x:=Operand.tmp 58) (t:=3) (d:=some 59) rfl (.pointer (some ⟨gw,16,none⟩)) (by kernel_rfl) (.int .i64 (c:Int)) (by go_simp) (hK _ _ (VF.mk rfl) hRW (Ext.rf _)))
  ·(have e4:uS 4=.int .i64 (c:Int):=(hD 4 (Zg (by kernel_rfl))).k rfl;exact Zl (op:=Op.binOp BinOp.add 3 (Operand.tmp 59) (Operand.const (Value.int IntKind.i64 1)) 3) (t:=3) (d:=some 60) rfl (.int .i64 ((c:Int)+1)) (by simp only[Zc,Act.put,List.setIfInBounds_toArray,List.set_cons_zero,List.set_cons_succ];unfold Zj;(try go_simp);(try simp only[e4]);(try go_simp);(try rfl);(try (exact IntWalk.i64_in _ (by omega)))) (hK _ _ (VF.mk rfl) hRW (Ext.rf _)))
  ·( exact Zi (f:=234) (xs:=#[Operand.tmp 61]) (ts:=#[123]) (t:=3) (d:=some 62) rfl #[.pointer (some ⟨gw,0,none⟩)] (by go_simp) (by kernel_rfl) _ (P8.out _ hRW) (by rintro e w9 ⟨rfl,xx⟩;exact⟨_,rfl,hK _ _ (VF.mk rfl) (hRW.tr xx) xx⟩))
 intro u w9 hR9 hV;have h4:=(hV (4,some 59) (by simp)).k rfl;have h5:=(hV (5,some 60) (by simp)).k rfl;have h7:=(hV (7,some 62) (by simp)).k rfl;simp only[Zc,h4,h5,h7];clear hV h4 h5 h7
 try simp only[lay]
 refine Zu (i:=8) (op:=Op.binOp BinOp.rem 3 (Operand.tmp 60) (Operand.tmp 62) 3) (t:=3) (d:=some 63) (v:=.int .i64 (c2:Int)) rfl (by decide +kernel) (by decide +kernel) (by decide +kernel) Hq ?_ ?_
 ·(intro _;unfold Zj;go_simp;skip)
 try simp only[lay]
 refine Za 9 (.nilCheck (.tmp 55)) 0 (some 64) rfl (by kernel_rfl) Hq (by intro _;go_simp;try rfl) ?_;simp only[lay];refine Za 10 (.fieldAddr 214 (.tmp 64) 11) 0 (some 65) rfl (by kernel_rfl) Hq (by intro _;go_simp;try rfl) ?_;simp only[lay];have A9:=Hd (A8.out.ext hR9);have Q9:=Hd (QQ.out w9 hR9);have c9:w9.cell? ⟨gw,16,none⟩=some (.int .i64 (c:Int)):=(Blk.cell A9.out.wk 16).trans (by simp[WkS.cells,hcur]);have f9:w9.frozen? ⟨gw,16,none⟩=false:=Blk.free A9.out.wk 16;have Aa:=A9.out.field 16 (.int .i64 (c2:Int)) (s':={ s with theft:=none,cursor:=(c2:Int) }) rfl rfl;have c17:(w9.setCell ⟨gw,16,none⟩ (.int .i64 (c2:Int))).cell? ⟨gw,17,none⟩=some (.int .i64 (t:Int)):=(Blk.cell Aa.wk 17).trans (by simp[WkS.cells,htr]);have f17:(w9.setCell ⟨gw,16,none⟩ (.int .i64 (c2:Int))).frozen? ⟨gw,17,none⟩=false:=Blk.free Aa.wk 17;have Ab:=Hd (Aa.field 17 (.int .i64 ((t:Int)+1)) (s':={ s with theft:=none,cursor:=(c2:Int),tried:=(t:Int)+1 }) rfl rfl);clear A8 P8 c16 za Aa A9 QQ hR9;refine Zd 11 (by decide +kernel) (ZR rfl (.pointer (some ⟨gw,16,none⟩)) (.int .i64 (c2:Int)) (by kernel_rfl) (by kernel_rfl) (by go_simp;rfl) ?_);refine wpAny_done (by kernel_rfl) ?_ _;go_simp;go_upto_region 10 with(fail);clear c9 f9 c17 f17;generalize (w9.setCell ⟨gw,16,none⟩ (.int .i64 (c2:Int))).setCell ⟨gw,17,none⟩ (.int .i64 ((t:Int)+1))=wb at *;have c17:wb.cell? ⟨gw,17,none⟩=some (.int .i64 ((t:Int)+1)):=(Blk.cell Ab.out.wk 17);have za:=Blk.lt Ab.out.wk;have Pb:=Hd (fun(W:World) (X:Ext wb W)=>PA.out W _ (Ab.out.ext X) rfl);refine wp_region_any (by kernel_rfl) ?_
 change wpAny _ _ _ _ _ _ _ (World.drew _)
 refine Za 0 (.move (.tmp 0)) 123 (some 73) rfl (by kernel_rfl) Hq (by intro _;go_simp;try rfl) ?_;simp only[lay];refine Za 1 (.nilCheck (.tmp 73)) 0 (some 74) rfl (by kernel_rfl) Hq (by intro _;go_simp;try rfl) ?_;simp only[lay];refine Za 2 (.fieldAddr 214 (.tmp 74) 12) 0 (some 75) rfl (by kernel_rfl) Hq (by intro _;go_simp;try rfl) ?_;simp only[lay];refine Za 4 (.move (.tmp 0)) 123 (some 77) rfl (by kernel_rfl) Hq (by intro _;go_simp;try rfl) ?_;simp only[lay];refine Zh (n:=1) [(3,some 76),(5,some 78)] (Ext wb) (VF (fun | 3=>some (.int .i64 ((t:Int)+1)) | 5=>some (.int .i64 (pl:Int)) | _=>none) (fun i v W=>True)) Ext #[true,true,true,true,true,true,false] (by decide +kernel) (VF.stab ?_) ?_ ?_ (by first | exact(Ext.rf _).drew | exact Ext.rf _)
 ·intro j v W W' _ _ _;trivial
 ·intro pS hpm uS wS hRW hD K hK
  simp only[List.mem_cons,List.not_mem_nil,or_false] at hpm;rcases hpm with rfl | rfl
  ·( have rX:=Zb hRW za c17;exact Ze (T:=3) (x:=Operand.tmp 75) (t:=3) (d:=some 76) rfl (.pointer (some ⟨gw,17,none⟩)) (by kernel_rfl) (.int .i64 ((t:Int)+1)) (by go_simp) (hK _ _ (VF.mk rfl) hRW (Ext.rf _)))
  ·( exact Zi (f:=234) (xs:=#[Operand.tmp 77]) (ts:=#[123]) (t:=3) (d:=some 78) rfl #[.pointer (some ⟨gw,0,none⟩)] (by go_simp) (by kernel_rfl) _ (Pb.out _ hRW) (by rintro e w9 ⟨rfl,xx⟩;exact⟨_,rfl,hK _ _ (VF.mk rfl) (hRW.tr xx) xx⟩))
 intro u wd hRd hV;have h3:=(hV (3,some 76) (by simp)).k rfl;have h5:=(hV (5,some 78) (by simp)).k rfl;simp only[Zc,h3,h5];clear hV h3 h5
 try simp only[lay]
 refine Zu (i:=6) (op:=Op.binOp BinOp.eql 3 (Operand.tmp 76) (Operand.tmp 78) 3) (t:=4) (d:=some 79) (v:=.bool false) rfl (by decide +kernel) (by decide +kernel) (by decide +kernel) Hq ?_ ?_
 ·(intro _;unfold Zj;go_simp;skip)
 try simp only[lay]
 refine wpAny_done (by kernel_rfl) ?_ _;go_simp;go_wp2_with (fail);go_end0;exact⟨rfl,XQ.out _ _ Q9.out hRd⟩
theorem UC (bs gm gc gp gn go gh b lv ga:Nat)(M:List Int)(P:PoolS)(bd:Nat->Int)(a:HAct)(w:World)(H:HW w bs gm gc gp gn go gh b lv ga M P a)(hbd:PB P bd)(hn:P.n<=100000)(hb:b<=1048576)(i:Nat)(hi:a.pos=(i:Int))(h1:1<=i)(h2:i<=1048575)(y:Int)(hx:M[b+((2*i+1)-1)]?=some y)(hd:Zt a.hd)(hdl:pla a.hd<(P.n:Int))(hl:Zt a.lh)(hll:pla a.lh<(P.n:Int))(hy:Zt y)(hyl:pla y<(P.n:Int))(hs:a.slot<0)(hq:Ux bd y a.lh=false)(hr:Ux bd a.lh a.hd=false) :
  Calls Tryz.prog 287 #[.pointer (some ⟨ga,0,none⟩)] w fun e w'=>e=.returned (.tuple #[])/\HW w' bs gm gc gp gn go gh b lv ga M P { a with rh:=y,ch:=2*(i:Int),chh:=a.lh,pos:=1,ph:=4 }/\Mod (PT ga gm gc) w w':=by
 have RE:=fun(W:World) (X:Ext w W)=>Yz gm gc gh b lv ga gp M W (H.ext X).h (H.ext X).m _ _ (H.ext X).a rfl hb (2*i+1) (by omega) (by omega) y hx
 rw[show ((2*i+1:Nat):Int)=2*(i:Int)+1 by omega] at RE;have wr1:IntKind.i64.wrap (2*(i:Int))=2*(i:Int):=IntWalk.i64_in _ (by omega);have wr2:IntKind.i64.wrap (2*(i:Int)+1)=2*(i:Int)+1:=IntWalk.i64_in _ (by omega);have L1:=Hd (fun(W:World) (a':HAct) (h:HW W bs gm gc gp gn go gh b lv ga M P a')=>W9 bs gm gc gp gn go gh b lv P bd W h.h h.p hbd hn y a.lh hy hl hyl hll);have L2:=Hd (fun(W:World) (a':HAct) (h:HW W bs gm gc gp gn go gh b lv ga M P a')=>W9 bs gm gc gp gn go gh b lv P bd W h.h h.p hbd hn a.lh a.hd hl hd hll hdl);rw[hq] at L1;rw[hr] at L2;replace RE:=Hd RE;have HH:=Hd H;have a12:w.cell? ⟨ga,12,none⟩=some (.int .i64 (i:Int)):=(Blk.cell H.a 12).trans (by simp[HAct.cells,hi]);clear H hx hq hr hy hl hyl hll hd hdl hbd hn;go_enter Tryz.func287,Tryz.ntmps287;go_wp2_with (fail);refine(RE.out _ XI).mono ?_;rintro e w1 ⟨rfl,m1,d1⟩;have H1:=Hd (HH.out.cell m1 d1);have D1:=Hd (d1.mono fun b _ h=>(.inr h:PT ga gm gc b));clear m1 d1 RE a12 HH;have c0:w1.cell? ⟨ga,16,none⟩=some (.int .i64 a.rh):=(Blk.cell H1.out.a 16);have f0:w1.frozen? ⟨ga,16,none⟩=false:=Blk.free H1.out.a 16;obtain⟨q1,q2⟩:=H1.out.field 16 (.int .i64 y) (a':={ a with rh:=y }) rfl;have H2:=Hd q1;have D2:=Hd (D1.out.tr (q2.mono fun b _ h=>(.inl h:PT ga gm gc b)));clear q1 q2 D1 H1;go_upto_region 1 with(fail);clear c0 f0;generalize w1.setCell ⟨ga,16,none⟩ (.int .i64 y)=w2 at *;refine wp_region_any (by kernel_rfl) ?_
 change wpAny _ _ _ _ _ _ _ (World.drew _)
 have HH:=Hd (H2.out.ext (show Ext w2 w2.drew from(Ext.rf _).drew));have DD:=Hd (D2.out.tr (Mod.of_ext (show Ext w2 w2.drew from(Ext.rf _).drew)));clear H2 D2;generalize w2.drew=w3 at *;have k12:w3.cell? ⟨ga,12,none⟩=some (.int .i64 (i:Int)):=(Blk.cell HH.out.a 12).trans (by simp[HAct.cells,hi]);have k15:w3.cell? ⟨ga,15,none⟩=some (.int .i64 a.lh):=(Blk.cell HH.out.a 15);refine Za 0 (.move (.tmp 0)) 205 (some 14) rfl (by kernel_rfl) Hq (by intro _;go_simp;try rfl) ?_;simp only[lay];refine Za 1 (.move (.tmp 0)) 205 (some 15) rfl (by kernel_rfl) Hq (by intro _;go_simp;try rfl) ?_;simp only[lay];refine Za 2 (.move (.tmp 0)) 205 (some 16) rfl (by kernel_rfl) Hq (by intro _;go_simp;try rfl) ?_;simp only[lay];refine Za 3 (.nilCheck (.tmp 16)) 0 (some 17) rfl (by kernel_rfl) Hq (by intro _;go_simp;try rfl) ?_;simp only[lay];refine Za 4 (.fieldAddr 293 (.tmp 17) 12) 0 (some 18) rfl (by kernel_rfl) Hq (by intro _;go_simp;try rfl) ?_;simp only[lay];refine Za 7 (.move (.tmp 0)) 205 (some 21) rfl (by kernel_rfl) Hq (by intro _;go_simp;try rfl) ?_;simp only[lay];refine Za 8 (.nilCheck (.tmp 21)) 0 (some 22) rfl (by kernel_rfl) Hq (by intro _;go_simp;try rfl) ?_;simp only[lay];refine Za 9 (.fieldAddr 293 (.tmp 22) 15) 0 (some 23) rfl (by kernel_rfl) Hq (by intro _;go_simp;try rfl) ?_;simp only[lay];refine Za 10 (.fieldAddr 291 (.tmp 23) 0) 0 (some 24) rfl (by kernel_rfl) Hq (by intro _;go_simp;try rfl) ?_;simp only[lay];refine Zm (n:=8) [(5,some 19),(6,some 20),(11,some 25)] (fun | 5=>.int .i64 (i:Int) | 6=>.int .i64 (2*(i:Int)) | 11=>.int .i64 a.lh | _=>undef) #[true,true,true,true,true,true,true,true,true,true,true,true,false,false,false,false,false,false,false,false] (by decide +kernel) ?_ ?_
 ·intro pS hpm uS hD K hK
  simp only[List.mem_cons,List.not_mem_nil,or_false] at hpm;rcases hpm with rfl | rfl | rfl
  ·exact Ze (T:=3) (x:=Operand.tmp 18) (t:=3) (d:=some 19) rfl (.pointer (some ⟨ga,12,none⟩)) (by kernel_rfl) (.int .i64 (i:Int)) (by go_simp) hK
  ·(have e5:uS 5=.int .i64 (i:Int):=hD 5 (Zg (by kernel_rfl));exact Zl (op:=Op.binOp BinOp.mul 3 (Operand.const (Value.int IntKind.i64 2)) (Operand.tmp 19) 3) (t:=3) (d:=some 20) rfl (.int .i64 (2*(i:Int))) (by simp only[Zc,Act.put,List.setIfInBounds_toArray,List.set_cons_zero,List.set_cons_succ];unfold Zj;go_simp;try simp only[e5];try go_simp) hK)
  ·exact Ze (T:=3) (x:=Operand.tmp 24) (t:=3) (d:=some 25) rfl (.pointer (some ⟨ga,15,none⟩)) (by kernel_rfl) (.int .i64 a.lh) (by go_simp) hK
 simp only[Zc,Act.put,List.setIfInBounds_toArray,List.set_cons_zero,List.set_cons_succ];refine Za 12 (.nilCheck (.tmp 14)) 0 (some 26) rfl (by kernel_rfl) Hq (by intro _;go_simp;try rfl) ?_;simp only[lay];refine Za 13 (.fieldAddr 293 (.tmp 26) 15) 0 (some 27) rfl (by kernel_rfl) Hq (by intro _;go_simp;try rfl) ?_;simp only[lay];refine Za 14 (.fieldAddr 291 (.tmp 27) 2) 0 (some 28) rfl (by kernel_rfl) Hq (by intro _;go_simp;try rfl) ?_;simp only[lay];have c7:w3.cell? ⟨ga,17,none⟩=some (.int .i64 (a.ch)):=(Blk.cell HH.out.a 17);have f7:w3.frozen? ⟨ga,17,none⟩=false:=Blk.free HH.out.a 17;obtain⟨q1,q2⟩:=HW.field HH.out 17 (.int .i64 (2*(i:Int))) (a':={ a with rh:=y,ch:=2*(i:Int) }) rfl;have c8:(w3.setCell ⟨ga,17,none⟩ (.int .i64 (2*(i:Int)))).cell? ⟨ga,18,none⟩=some (.int .i64 (a.chh)):=(Blk.cell q1.a 18);have f8:(w3.setCell ⟨ga,17,none⟩ (.int .i64 (2*(i:Int)))).frozen? ⟨ga,18,none⟩=false:=Blk.free q1.a 18;obtain⟨r1,r2⟩:=HW.field q1 18 (.int .i64 (a.lh)) (a':={ a with rh:=y,ch:=2*(i:Int),chh:=a.lh }) rfl;have H4:=Hd r1;have D4:=Hd (DD.out.tr ((q2.tr r2).mono fun b _ h=>(.inl h:PT ga gm gc b)));clear q1 q2 r1 r2 DD;refine Zd 15 (by decide +kernel) (ZR rfl (.pointer (some ⟨ga,17,none⟩)) (.int .i64 (2*(i:Int))) (by kernel_rfl) (by kernel_rfl) (by go_simp;rfl) ?_)
 try simp only[lay]
 refine Za 16 (.nilCheck (.tmp 15)) 0 (some 29) rfl (by kernel_rfl) Hq (by intro _;go_simp;try rfl) ?_;simp only[lay];refine Za 17 (.fieldAddr 293 (.tmp 29) 15) 0 (some 30) rfl (by kernel_rfl) Hq (by intro _;go_simp;try rfl) ?_;simp only[lay];refine Za 18 (.fieldAddr 291 (.tmp 30) 3) 0 (some 31) rfl (by kernel_rfl) Hq (by intro _;go_simp;try rfl) ?_;simp only[lay];refine Zd 19 (by decide +kernel) (ZR rfl (.pointer (some ⟨ga,18,none⟩)) (.int .i64 a.lh) (by kernel_rfl) (by kernel_rfl) (by go_simp;rfl) ?_);refine wpAny_done (by kernel_rfl) ?_ _;go_simp;clear c7 f7 c8 f8 HH k12 k15;generalize (w3.setCell ⟨ga,17,none⟩ (.int .i64 (2*(i:Int)))).setCell ⟨ga,18,none⟩ (.int .i64 a.lh)=w4 at *;go_upto_region 2 with(fail);refine wp_region_any (by kernel_rfl) ?_
 change wpAny _ _ _ _ _ _ _ (World.drew _)
 have k0:w4.drew.cell? ⟨ga,0,none⟩=some (.pointer (some ⟨gh,0,none⟩)):=(Blk.cell H4.out.a 0);have k16:w4.drew.cell? ⟨ga,16,none⟩=some (.int .i64 y):=(Blk.cell H4.out.a 16);have k15:w4.drew.cell? ⟨ga,15,none⟩=some (.int .i64 a.lh):=(Blk.cell H4.out.a 15);refine Za 0 (.move (.tmp 0)) 205 (some 32) rfl (by kernel_rfl) Hq (by intro _;go_simp;try rfl) ?_;simp only[lay];refine Za 1 (.nilCheck (.tmp 32)) 0 (some 33) rfl (by kernel_rfl) Hq (by intro _;go_simp;try rfl) ?_;simp only[lay];refine Za 2 (.fieldAddr 293 (.tmp 33) 0) 0 (some 34) rfl (by kernel_rfl) Hq (by intro _;go_simp;try rfl) ?_;simp only[lay];refine Za 4 (.move (.tmp 0)) 205 (some 36) rfl (by kernel_rfl) Hq (by intro _;go_simp;try rfl) ?_;simp only[lay];refine Za 5 (.nilCheck (.tmp 36)) 0 (some 37) rfl (by kernel_rfl) Hq (by intro _;go_simp;try rfl) ?_;simp only[lay];refine Za 6 (.fieldAddr 293 (.tmp 37) 15) 0 (some 38) rfl (by kernel_rfl) Hq (by intro _;go_simp;try rfl) ?_;simp only[lay];refine Za 7 (.fieldAddr 291 (.tmp 38) 1) 0 (some 39) rfl (by kernel_rfl) Hq (by intro _;go_simp;try rfl) ?_;simp only[lay];refine Za 9 (.move (.tmp 0)) 205 (some 41) rfl (by kernel_rfl) Hq (by intro _;go_simp;try rfl) ?_;simp only[lay];refine Za 10 (.nilCheck (.tmp 41)) 0 (some 42) rfl (by kernel_rfl) Hq (by intro _;go_simp;try rfl) ?_;simp only[lay];refine Za 11 (.fieldAddr 293 (.tmp 42) 15) 0 (some 43) rfl (by kernel_rfl) Hq (by intro _;go_simp;try rfl) ?_;simp only[lay];refine Za 12 (.fieldAddr 291 (.tmp 43) 0) 0 (some 44) rfl (by kernel_rfl) Hq (by intro _;go_simp;try rfl) ?_;simp only[lay];refine Zm (n:=1) [(3,some 35),(8,some 40),(13,some 45)] (fun | 3=>.pointer (some ⟨gh,0,none⟩) | 8=>.int .i64 y | 13=>.int .i64 a.lh | _=>undef) #[true,true,true,true,true,true,true,true,true,true,true,true,true,true,false] (by decide +kernel) ?_ ?_
 ·intro pS hpm uS hD K hK
  simp only[List.mem_cons,List.not_mem_nil,or_false] at hpm;rcases hpm with rfl | rfl | rfl
  ·exact Ze (T:=188) (x:=Operand.tmp 34) (t:=188) (d:=some 35) rfl (.pointer (some ⟨ga,0,none⟩)) (by kernel_rfl) (.pointer (some ⟨gh,0,none⟩)) (by go_simp) hK
  ·exact Ze (T:=3) (x:=Operand.tmp 39) (t:=3) (d:=some 40) rfl (.pointer (some ⟨ga,16,none⟩)) (by kernel_rfl) (.int .i64 y) (by go_simp) hK
  ·exact Ze (T:=3) (x:=Operand.tmp 44) (t:=3) (d:=some 45) rfl (.pointer (some ⟨ga,15,none⟩)) (by kernel_rfl) (.int .i64 a.lh) (by go_simp) hK
 simp only[Zc,Act.put,List.setIfInBounds_toArray,List.set_cons_zero,List.set_cons_succ];refine Zd 14 (by decide +kernel) (Zi (f:=327) (xs:=#[Operand.tmp 35,Operand.tmp 40,Operand.tmp 45]) (ts:=#[188,3,3]) (t:=4) (d:=some 46) rfl #[.pointer (some ⟨gh,0,none⟩),.int .i64 y,.int .i64 a.lh] (by go_simp) (by kernel_rfl) _ (L1.out _ _ (H4.out.ext (Ext.rf _).drew)) ?_);rintro e w5 ⟨rfl,x5⟩;have H5:=Hd ((H4.out.ext (Ext.rf _).drew).ext x5);have D5:=Hd (D4.out.tr (Mod.of_ext (Ext.tr (Ext.rf w4).drew x5)));clear x5 L1 H4 D4 k0 k15 k16;refine⟨_,rfl,?_⟩
 try simp only[lay]
 refine wpAny_done (by kernel_rfl) ?_ _;go_simp;have H7:=H5;have D7:=D5;clear H5 D5;obtain⟨w7,rfl⟩:=Wq w5;go_upto_region 4 with(fail);refine wp_region_any (by kernel_rfl) ?_
 change wpAny _ _ _ _ _ _ _ (World.drew _)
 have k0:w7.drew.cell? ⟨ga,0,none⟩=some (.pointer (some ⟨gh,0,none⟩)):=(Blk.cell H7.out.a 0);have k18:w7.drew.cell? ⟨ga,18,none⟩=some (.int .i64 a.lh):=(Blk.cell H7.out.a 18);have k13:w7.drew.cell? ⟨ga,13,none⟩=some (.int .i64 a.hd):=(Blk.cell H7.out.a 13);refine Za 0 (.move (.tmp 0)) 205 (some 66) rfl (by kernel_rfl) Hq (by intro _;go_simp;try rfl) ?_;simp only[lay];refine Za 1 (.nilCheck (.tmp 66)) 0 (some 67) rfl (by kernel_rfl) Hq (by intro _;go_simp;try rfl) ?_;simp only[lay];refine Za 2 (.fieldAddr 293 (.tmp 67) 0) 0 (some 68) rfl (by kernel_rfl) Hq (by intro _;go_simp;try rfl) ?_;simp only[lay];refine Za 4 (.move (.tmp 0)) 205 (some 70) rfl (by kernel_rfl) Hq (by intro _;go_simp;try rfl) ?_;simp only[lay];refine Za 5 (.nilCheck (.tmp 70)) 0 (some 71) rfl (by kernel_rfl) Hq (by intro _;go_simp;try rfl) ?_;simp only[lay];refine Za 6 (.fieldAddr 293 (.tmp 71) 15) 0 (some 72) rfl (by kernel_rfl) Hq (by intro _;go_simp;try rfl) ?_;simp only[lay];refine Za 7 (.fieldAddr 291 (.tmp 72) 3) 0 (some 73) rfl (by kernel_rfl) Hq (by intro _;go_simp;try rfl) ?_;simp only[lay];refine Za 9 (.move (.tmp 0)) 205 (some 75) rfl (by kernel_rfl) Hq (by intro _;go_simp;try rfl) ?_;simp only[lay];refine Za 10 (.nilCheck (.tmp 75)) 0 (some 76) rfl (by kernel_rfl) Hq (by intro _;go_simp;try rfl) ?_;simp only[lay];refine Za 11 (.fieldAddr 293 (.tmp 76) 13) 0 (some 77) rfl (by kernel_rfl) Hq (by intro _;go_simp;try rfl) ?_;simp only[lay];refine Zm (n:=2) [(3,some 69),(8,some 74),(12,some 78)] (fun | 3=>.pointer (some ⟨gh,0,none⟩) | 8=>.int .i64 a.lh | 12=>.int .i64 a.hd | _=>undef) #[true,true,true,true,true,true,true,true,true,true,true,true,true,false,false] (by decide +kernel) ?_ ?_
 ·intro pS hpm uS hD K hK
  simp only[List.mem_cons,List.not_mem_nil,or_false] at hpm;rcases hpm with rfl | rfl | rfl
  ·exact Ze (T:=188) (x:=Operand.tmp 68) (t:=188) (d:=some 69) rfl (.pointer (some ⟨ga,0,none⟩)) (by kernel_rfl) (.pointer (some ⟨gh,0,none⟩)) (by go_simp) hK
  ·exact Ze (T:=3) (x:=Operand.tmp 73) (t:=3) (d:=some 74) rfl (.pointer (some ⟨ga,18,none⟩)) (by kernel_rfl) (.int .i64 a.lh) (by go_simp) hK
  ·exact Ze (T:=3) (x:=Operand.tmp 77) (t:=3) (d:=some 78) rfl (.pointer (some ⟨ga,13,none⟩)) (by kernel_rfl) (.int .i64 a.hd) (by go_simp) hK
 simp only[Zc,Act.put,List.setIfInBounds_toArray,List.set_cons_zero,List.set_cons_succ];refine Zd 13 (by decide +kernel) (Zi (f:=327) (xs:=#[Operand.tmp 69,Operand.tmp 74,Operand.tmp 78]) (ts:=#[188,3,3]) (t:=4) (d:=some 79) rfl #[.pointer (some ⟨gh,0,none⟩),.int .i64 a.lh,.int .i64 a.hd] (by go_simp) (by kernel_rfl) _ (L2.out _ _ (H7.out.ext (Ext.rf _).drew)) ?_);rintro e w8 ⟨rfl,x8⟩;have H8:=Hd ((H7.out.ext (Ext.rf _).drew).ext x8);have D8:=Hd (D7.out.tr (Mod.of_ext (Ext.tr (Ext.rf w7).drew x8)));clear x8 L2 H7 D7 k0 k13 k18;refine⟨_,rfl,?_⟩
 try simp only[lay]
 refine Za 14 (.unOp .not 4 (.tmp 79)) 4 (some 80) rfl (by kernel_rfl) Hq (by intro _;go_simp;try rfl) ?_;simp only[lay];refine wpAny_done (by kernel_rfl) ?_ _;go_simp;have TI:=Hd (fun(W:World) (X:Ext w8 W)=>ZaI bs gm gc gp gn go gh b lv ga M P { a with rh:=y,ch:=2*(i:Int),chh:=a.lh } W (H8.out.ext X) hs);go_wp2_with (fail);refine(TI.out _ XI).mono ?_;rintro e w9 ⟨rfl,h9,d9⟩;have H9:=Hd h9;have D9:=Hd (D8.out.tr (Mod.tr (Mod.of_ext (S:=PT ga gm gc) (show Ext w8 _ from XI)) (d9.mono fun b _ h=>(.inl h:PT ga gm gc b))));clear h9 d9 TI;go_wp2_with (fail);exact bodyPost_ret (results_none rfl _ _ _) rfl ⟨rfl,H9.out,D9.out⟩
theorem Zb3 (gm gp gh b lv:Nat)(w:World)(HH:ZN w gh gm gp b lv)(hl:lv<=20)(i:Nat)(h1:1<=i)(h2:i<=2^lv-1) :
  Calls Tryz.prog 235 #[.pointer (some ⟨gh,0,none⟩),.int .i64 (i:Int)] w fun e w'=>∃ ga:Nat,e=.returned (.pointer (some ⟨ga,0,none⟩))/\ZF w' ga gh { Xl 4 (-1) false ⟨none,0,[]⟩ (i:Int) with owner:=false }/\w.heap.size<=ga/\Ext w w':=by
 have PL:=Hd (fun(W:World) (X:Ext w W)=>YO gh gm gp b lv W (Blk.ext HH X) hl);have e1:¬(i:Int)<1:=by omega
 have e2:¬(i:Int)>((2^lv-1:Nat):Int):=by omega
 generalize ((2^lv-1:Nat):Int)=n at *;clear HH h1 h2;go_enter Tryz.func235,Tryz.ntmps235;go_wp2_with (fail);refine(PL.out _ XI).mono ?_;rintro e w1 ⟨rfl,x1⟩;have X1:=Hd (Ext.tr (a:=w) XI x1);have z1:=X1.out.size;clear x1 PL;go_wp2_with (fail);go_ret;exact⟨w1.heap.size,rfl,by unfold ZF HAct.cells Xl;exact Blk.new rfl,z1,X1.out.tr XI⟩
theorem ZdC (g q:Nat)(A B:Option Addr)(c d:Nat)(n:Int)(w:World)(hb:Blk w g 128 #[.slice A 0 c,.slice B 0 d,.int .i64 0,.int .i64 (q:Int)])(hn:1<=n/\n<=9223372036854775807)(hq:q<=2^60) :
  Calls Tryz.prog 233 #[.pointer (some ⟨g,0,none⟩),.int .i64 n] w fun e w'=>e=.returned (.int .i64 0)/\Blk w' g 128 #[.slice A 0 c,.slice B 0 d,.int .i64 0,.int .i64 ((q+1:Nat):Int)]/\Mod (fun k=>k=g) w w':=by
 have c1:=(hb.cell 1);have c3:=(hb.cell 3);have f3:=hb.free 3;simp at c1 c3;have hmod:=Hd (fun nq u=>Mod.set (S:=fun k=>k=g) (p:=⟨g,3,none⟩) ((Mod.rf w).drewN nq) (.inl rfl) u);have hfin:∀ nq,Blk ((w.drewN nq).setCell ⟨g,3,none⟩ (.int .i64 ((q:Int)+1))) g 128 #[.slice A 0 c,.slice B 0 d,.int .i64 0,.int .i64 ((q+1:Nat):Int)]:=fun nq=>(hb.drewN nq).set 3 _
 have e1:¬((q:Int)<0):=by omega
 replace hfin:=Hd hfin;clear hb;go_enter Tryz.func233,Tryz.ntmps233;go_wp2_with (first | (go_at_call 294;refine(ZbM _ _ _ hn).mono ?_;rintro e w' ⟨rfl,rfl⟩) | go_quiet (fail));go_ret;exact⟨by show Ending.returned (Value.int .i64 (VM 0 n))=_;rw[show VM 0 n=0 from by show (IntKind.u64.wrap 0).tmod n=0;rw[show IntKind.u64.wrap 0=0 from rfl];exact Int.zero_tmod n],by first | exact hfin.out _ | (simp only[World.drewN_drewN];exact hfin.out _),by first | exact hmod.out _ _ | (simp only[World.drewN_drewN];exact hmod.out _ _)⟩
section
variable {F:Fix} {w w':World} {M M':List Int} {P P':PoolS} {p:Nat->Int} {s:Nat->WkS} {o:Nat->Option (Nat×HAct)} {L:Option Addr} {cL:Nat} {vs:List Value} {rs:List Rec} {dq:Nat}
theorem RS.draw (R:RS F w M P p s o L cL vs rs dq)(O:FixOk F){dq':Nat}(B:Blk w' F.gt 128 #[F.ta,F.tb,.int .i64 0,.int .i64 (dq':Int)])(d:Mod (fun b=>b=F.gt) w w') : RS F w' M P p s o L cL vs rs dq':=by
 have b0:=R.tp;have m:ModT 0 [128] w w':=d.mono fun i _ e=>by subst e;exact⟨Nat.zero_le _,_,_,b0,by simp⟩
 exact⟨R.st.modT m (by decide) (by decide) (by decide) (by decide) (by decide) (by decide) (by decide) (by decide) (by decide),Blk.modT R.ma m (by decide),R.pk.modT m (by decide),R.wl.modT m (by decide),fun i hi=>Blk.modT (R.wk i hi) m (by decide),fun i g a hi h=>Blk.modT (R.ac i g a hi h) m (by decide),R.nd,R.pa.modT m (by decide),fun i hi=>(R.pb i hi).modT m (by decide),R.lo.modT m (by decide),R.lr.modT m (by decide),B,R.bx.modT m (by decide),R.kx.tr' d fun q hq e=>e⟩
theorem RS.wkh (R:RS F w M P p s o L cL vs rs dq)(k:Nat)(hk:k<2)(hme:(s k).me=k) : WkH w (F.gw k) (F.gh k) F.E.gm (hb k) 3 F.h (s k) :=
 ⟨R.wk k hk,R.hh k,by rw[hme];exact R.hcell k hk,R.st.hc.lt,R.st.hc.ne (R.wk k hk) (by decide)⟩
theorem ZfR (R:RS F w M P p s o L cL vs rs dq)(O:FixOk F)(k:Nat)(hk:k<2)(bp:0<=p k/\p k<=1000000000)(hph:(s k).ph=0)(hme:(s k).me=k){g:Nat}{a a':HAct}(hs:(s k).own=some g)(ho:o k=some (g,a))(z0:F.w1.heap.size<=g)(ST:HStep F k g M P a M' a' true)(hov:a'.ph=15)(hpu:a'.push=false)(hsl:a'.slot=-1)(hdq:dq<=1000) :
  Calls Tryz.prog 54 #[.pointer (some ⟨F.gM,0,none⟩),.int .i64 (k:Int)] w fun e w'=>e=.returned (.int .i64 0)/\RS F w' M' P (Zx p k (p k+1)) (Zx s k { s k with own:=none,cursor:=0,tried:=0,ph:=1 }) (Zx o k none) L cL vs rs (dq+1):=by
 refine R.pick O k hk bp _ (fun u u' h x=>h.ext x) (fun W R1=>?_);refine UJ _ F.h (s k) W (R1.wk k hk) hph _ (fun W1 X1=>?_) (fun u u' h x=>h.ext x);have R2:=R1.ext X1;obtain⟨⟨tA,tc,hta⟩,⟨tB,td,htb⟩⟩:=O.ts;refine Zdz _ g (F.gh k) F.E.gm (hb k) 3 F.h (s k) 0 W1 (R2.wk k hk) hs (fun V=>RS F V M' P (Zx p k (p k+1)) s (Zx o k (some (g,a'))) L cL vs rs dq) (fun V=>RS F V M' P (Zx p k (p k+1)) s (Zx o k (some (g,a'))) L cL vs rs dq) (fun V=>RS F V M' P (Zx p k (p k+1)) (Zx s k { s k with own:=none }) (Zx o k none) L cL vs rs (dq+1)) _ (by decide) (by rw[hme];exact hk) (show (2:Nat)<=64 by decide) (fun W2 X2=>?_) (fun w1 r W2 X2=>?_) (fun V h=>h.wk k hk) (fun V h=>⟨h.wk k hk,h.hh k,by rw[hme];exact h.hcell k hk,h.st.hc.lt,h.st.hc.ne (h.wk k hk) (by decide)⟩) (fun w2 r W2 X2=>?_) (fun V h=>?_) (fun V h=>?_)
 ·have R3:=R2.ext X2
  exact(ST W2 (R3.hw k (R3.ac k g a hk ho))).mono fun e w' h=>⟨h.1,R3.stepped O k hk ho z0 h.2.1 h.2.2⟩
 ·have R3:=r.ext X2
  exact(hsl ▸ Uc g (F.gh k) a' W2 (R3.ac k g a' hk (Zf _ _ _)) hov hpu).mono fun e w' h=>⟨h.1,R3.ext h.2⟩
 ·have R3:=((r.fld O k hk 18 (.pointer none) { s k with own:=none } rfl (r.pb k hk)).ext X2).un k hk
  rw[ZD] at R3;have tp:=R3.tp;rw[hta,htb] at tp;refine(ZdC F.gt dq tA tB tc td _ W2 tp ⟨by show (1:Int)<=((2:Nat):Int)*((2^3-1:Nat):Int);decide,by show ((2:Nat):Int)*((2^3-1:Nat):Int)<=_;decide⟩ (by omega)).mono ?_;rintro e w' ⟨rfl,B,d⟩;exact⟨rfl,R3.draw O (by rw[hta,htb];exact B) d⟩
 ·have:=h.wk k hk
  rwa [Zf] at this
 ·have R5:=h.fld O k hk 16 (.int .i64 0) { s k with own:=none,cursor:=0 } (by rw[Zf];rfl) (by have:=h.pb k hk;rw[Zf] at this;exact this)
  rw[ZD] at R5;have R6:=R5.fld O k hk 17 (.int .i64 0) { s k with own:=none,cursor:=0,tried:=0 } (by rw[Zf];rfl) (by have:=R5.pb k hk;rw[Zf] at this;exact this);rw[ZD] at R6;have R7:=R6.fld O k hk 7 (.int .i64 1) { s k with own:=none,cursor:=0,tried:=0,ph:=1 } (by rw[Zf];rfl) (by have:=R6.pb k hk;rw[Zf] at this;exact this);rw[ZD] at R7;exact R7
theorem Zb4 (R:RS F w M P p s o L cL vs rs dq)(O:FixOk F)(k:Nat)(hk:k<2)(bp:0<=p k/\p k<=1000000000)(hph:(s k).ph=1)(hme:(s k).me=k)(hth:(s k).theft=none)(c:Nat)(hcu:(s k).cursor=(c:Int))(htr:(s k).tried=(c:Int))(hc7:c<6)(x:Int)(hx:M[65+c]?=some x)(px:Zt x)(lx:pla x<0) :
  Calls Tryz.prog 54 #[.pointer (some ⟨F.gM,0,none⟩),.int .i64 (k:Int)] w fun e w'=>e=.returned (.int .i64 0)/\RS F w' M P (Zx p k (p k+1)) (Zx s k { s k with theft:=none,cursor:=((c+1:Nat):Int),tried:=(c:Int)+1 }) o L cL vs rs dq:=by
 refine R.pick O k hk bp _ (fun u u' h x=>h.ext x) (fun W R1=>?_);refine ZfN _ F.h (s k) W (R1.wk k hk) hph _ (fun W1 X1=>?_) (fun u u' h x=>h.ext x);have R2:=R1.ext X1;have hnH:F.h.nH=2:=rfl;have hcell:W1.cell? ⟨F.h.gH,c / (2^3-1),none⟩=some (.pointer (some ⟨F.E.gh0,0,none⟩)):=by
  rw[show c / (2^3-1)=0 by omega];exact R2.hcell 0 (by decide)
 have hmod:1+c%(2^3-1)=c+1:=by omega
 refine ZdB _ (F.gh k) F.E.gm (hb k) 3 F.h (s k) c c F.E.gh0 W1 (R2.wkh k hk hme) hth hcu htr (by decide) (by rw[hme];exact hk) (show (2:Nat)<=64 by decide) (by rw[hnH];omega) (by rw[hnH];omega) hcell
  (fun g V=>F.w1.heap.size<=g/\ZF V g F.E.gh0 { Xl 4 (-1) false ⟨none,0,[]⟩ ((c+1:Nat):Int) with owner:=false }/\(∀ i q b,i<2->o i=some (q,b)->q≠g)/\RS F V M P (Zx p k (p k+1)) s o L cL vs rs dq)
  (fun g V=>(∃ b:HAct,ZF V g F.E.gh0 b/\b.ph=15/\b.push=false/\b.slot=-1)/\RS F V M P (Zx p k (p k+1)) (Zx s k { s k with theft:=some g }) o L cL vs rs dq)
  (fun V=>∃ g,RS F V M P (Zx p k (p k+1)) (Zx s k { s k with theft:=some g }) o L cL vs rs dq) _ (fun W2 X2=>?_) (fun g V h=>h.2.2.2.wk k hk) (fun g w1 r W2 X2=>?_) (fun g V h=>?_) (fun g w1 r W2 X2=>?_) (fun V h=>?_) (fun w1 V r X=>?_) (fun u u' h x=>h.ext x)
 ·have R3:=R2.ext X2
  rw[hmod];refine(Zb3 F.E.gm F.E.gp F.E.gh0 65 3 W2 R3.st.h0 (by decide) (c+1) (by omega) (by omega)).mono ?_;rintro e w' ⟨g,rfl,HA,z,x⟩;exact⟨g,rfl,by have:=R3.kx.size;omega,HA,fun i q b hi h e=>by have:=(R3.ac i q b hi h).lt;omega,R3.ext x⟩
 ·obtain⟨z,HA,hn,r⟩:=r
  have R3:=(r.fld O k hk 19 (.pointer (some ⟨g,0,none⟩)) { s k with theft:=some g } rfl (r.pb k hk)).ext X2;have m:ModT 0 [214] w1 (w1.setCell ⟨F.gw k,19,none⟩ (.pointer (some ⟨g,0,none⟩))):=ModT.set w1 (r.wk k hk) (by simp) (Nat.zero_le _) 19 _;have HA2:ZF W2 g F.E.gh0 { Xl 4 (-1) false ⟨none,0,[]⟩ ((c+1:Nat):Int) with owner:=false }:=Blk.ext (Blk.modT HA m (by decide)) X2;have H:HW W2 F.E.bs F.E.gm F.E.gc F.E.gp F.E.gn F.E.go F.E.gh0 65 3 g M P { Xl 4 (-1) false ⟨none,0,[]⟩ ((c+1:Nat):Int) with owner:=false }:=⟨R3.st.m,R3.st.p,R3.st.h0,HA2⟩;refine(ZcA g F.E.gh0 _ W2 HA2 rfl (fun V b=>(b.ph=15/\b.push=false/\b.slot=-1)/\HW V F.E.bs F.E.gm F.E.gc F.E.gp F.E.gn F.E.go F.E.gh0 65 3 g M P b/\Mod (PT g F.E.gm F.E.gc) W2 V) (fun V b h=>h.2.1.a) ((Uy F.E.bs F.E.gm F.E.gc F.E.gp F.E.gn F.E.go F.E.gh0 65 3 g M P _ W2 H (by decide) (c+1) rfl (by omega) (by omega) x (by rw[show 65+(c+1-1)=65+c by omega];exact hx) px lx rfl).mono fun e w' h=>⟨h.1,_,⟨rfl,rfl,rfl⟩,h.2.1,h.2.2⟩)).mono ?_;rintro e w' ⟨b,rfl,⟨h1,h2,h3⟩,h4,d⟩;refine⟨by rw[h1];rfl,⟨b,h4.a,h1,h2,h3⟩,?_⟩;exact R3.turn O HA2 (.inl rfl) z h4.m h4.p (S4.pt d) _ (fun i q b hi h=>.inl ⟨h,hn i q b hi h⟩) R3.nd
 ·have:=h.2.wk k hk
  rwa [Zf] at this
 ·obtain⟨⟨b,h1,h2,h3,h4⟩,r⟩:=r
  have R3:=r.ext X2;exact(h4 ▸ Uc g F.E.gh0 b W2 (Blk.ext h1 X2) h2 h3).mono fun e w' h=>⟨h.1,g,R3.ext h.2⟩
 ·obtain⟨g,h⟩:=h
  refine⟨g,?_⟩;have:=h.wkh k hk (by rw[Zf];exact hme)
  rwa [Zf] at this
 ·obtain⟨g,r⟩:=r
  have R3:=(r.fld O k hk 19 (.pointer none) { s k with theft:=none } (by rw[Zf];rfl) (by have:=r.pb k hk;rw[Zf] at this;exact this)).ext X;rw[ZD] at R3;have hmo:((c+1)%(F.h.nH*(2^3-1)):Nat)=c+1:=by rw[hnH];omega
  rw[hmo];have R4:=R3.fld O k hk 16 (.int .i64 ((c+1:Nat):Int)) { s k with theft:=none,cursor:=((c+1:Nat):Int) } (by rw[Zf];rfl) (by have:=R3.pb k hk;rw[Zf] at this;exact this);rw[ZD] at R4;have R5:=R4.fld O k hk 17 (.int .i64 ((c:Int)+1)) { s k with theft:=none,cursor:=((c+1:Nat):Int),tried:=(c:Int)+1 } (by rw[Zf];rfl) (by have:=R4.pb k hk;rw[Zf] at this;exact this);rw[ZD] at R5;exact R5
end
end
end Go.Proofs.YtocfmioihaefoaaGreatDoor
