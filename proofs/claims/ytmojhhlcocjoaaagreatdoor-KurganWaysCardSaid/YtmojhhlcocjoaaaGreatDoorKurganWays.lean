/- packed and squeezed by programs (see wip/) -/
import Derived.Test.YtmojhhlcocjoaaaGreatDoorKurganWaysP9
import Derived.Test.YtmojhhlcocjoaaaGreatDoorRows
import Derived.Test.YtmojhhlcocjoaaaGreatDoorCards
import Derived.Test.YtmojhhlcocjoaaaGreatDoorTie
import Derived.Test.YtmojhhlcocjoaaaGreatDoorChecked
set_option maxRecDepth 100000
set_option maxHeartbeats 16000000
set_option linter.unusedVariables false
set_option linter.unusedSimpArgs false
namespace Go.Proofs.YtmojhhlcocjoaaaGreatDoor.kurganWays
open Go.RowKit Go.ChangeShapes Go.WideShapes Go.ChangeAt Go.Deep
structure StI (w:World)(vs:List Value)(j:InstP)(wr:World) : Prop where
 x:Ext w wr
 b:Blk wr w.heap.size 25 (List.toArray vs)
 r:RInst wr vs j
theorem StI.ext {w:World}{vs:List Value}{j:InstP}{wr wr':World}(h:StI w vs j wr)(x:Ext wr wr') : StI w vs j wr':=⟨h.x.tr x,h.b.ext x,h.r.ext x⟩
theorem ZfP (i:InstP)(vs:List Value)(w:World)(H:RInst w vs i)(lw:i.weight.length<=maxLen)(lv:i.value.length<=maxLen)(lwv:i.weight.length+i.value.length<=maxLen)(hf:Jo i=false) :
  Calls Tryz.prog 3 #[.agg (List.toArray vs)] w fun e w'=>e=.returned (.bool true)/\Ext w w':=by
 have FE:=fun(W:World) (x:Ext w W)=>ZcY i vs W (H.ext x) lw lv lwv
 rw[hf] at FE;obtain⟨A,a,B,b,C,c,rfl,-,-,-⟩:=H;have B1:Hid (Blk (w.alloc (.cells #[.int .i64 i.kind,.int .i64 i.n,.int .i64 i.cap,.slice A i.weight.length a,.slice B i.value.length b,.slice C i.cost.length c] 25)) w.heap.size 25 #[.int .i64 i.kind,.int .i64 i.n,.int .i64 i.cap,.slice A i.weight.length a,.slice B i.value.length b,.slice C i.cost.length c]):=.new rfl;replace FE:=Hd FE;clear lw lv lwv hf;go_enter Tryz.func3,Tryz.ntmps3;go_wp2_with (fail);refine(V9 _).mono ?_;rintro e w1 ⟨rfl,x1⟩;have X1:=Hd (Ext.tr (a:=w) (by(repeat (first | assumption | exact Ext.rf _ | apply Ext.drew | apply Ext.drewN | apply Ext.alloc))) x1);have b1:=Hd (B1.out.ext x1);have t0:=b1.out.c0;have t1:=b1.out.c1;have t2:=b1.out.c2;have t3:=b1.out.c3;have t4:=b1.out.c4;have t5:=b1.out.c5;clear x1 B1;go_wp2_with (fail);refine(FE.out _ X1.out).mono ?_;rintro e w2 ⟨rfl,x2⟩;have X2:=Hd (X1.out.tr x2);clear x2 X1 t0 t1 t2 t3 t4 t5;go_wp2_with (fail);refine(V9 _).mono ?_;rintro e w3 ⟨rfl,x3⟩;go_wp2_with (fail);go_ret;exact⟨rfl,X2.out.tr x3⟩
theorem Zfg (i:InstP)(vs:List Value)(w:World)(hT:Tab w)(H:RInst w vs i)(hf:Jo i=true) :
  Calls Tryz.prog 3 #[.agg (List.toArray vs)] w fun e w'=>e=.returned (.bool true)/\Ext w w':=by
 obtain⟨hc,ht0,h8⟩:=Zd2 hf;have SZ:i.weight.length<=64/\i.value.length<=64/\i.cost.length<=24/\(∀ r∈i.cost,r.length<=24):=by
  rcases ZX hc with h | h | h
  ·have ok:=ZD hc h
   have:=ok.w;have:=ok.v;have:=ok.n2;rw[ok.cost];refine⟨by omega,by omega,by simp,by simp⟩
  all_goals
   have sq:=Zo hc (by omega);have rok:=ZF sq;have e1:=sq.w;have e2:=sq.v;have:=rok.n2;refine⟨by rw[e1];simp,by rw[e2];simp,rok.n2,fun r hr=>by have:=rok.row r hr;omega⟩
 obtain⟨lw,lv,lc,lr⟩:=SZ;have FE:=fun(W:World) (x:Ext w W)=>ZcY i vs W (H.ext x) (by simp only[maxLen];omega) (by simp only[maxLen];omega) (by simp only[maxLen];omega)
 rw[hf] at FE;have hI:=H.ints;have CP:=fun(us:List Value) (W:World) (h:RInst W us i)=>Zcx i us W h (by omega) (by omega) (by omega) (fun r hr=>by have:=lr r hr;omega)
 have BX:=fun(us:List Value) (W:World) (h:RInst W us i) (x:Ext w W)=>ZfL i us W h (by omega) (by omega) (hT.ext x)
 rw[ht0] at BX;have hfew:i.n<=if i.kind=1 then 8 else 5:=by
  have h:=hf;unfold Jo at h;simp only[Bool.and_eq_true,decide_eq_true_eq] at h;exact h.2
 have KO:=fun(us:List Value) (W:World) (h:RInst W us i)=>Zfr i us W h (by omega) (by omega)
 have GS:=fun(us:List Value) (W:World) (h:RInst W us i)=>Zcu i us W h (by simp only[maxLen];omega) (by simp only[maxLen];omega) (by simp only[maxLen];omega) hc
 have BT:=fun(g:Nat) (cost:Int) (W:World) (K:KernI W g i) (x:Ext w W)=>ZbB i g cost 1048576 W K (hT.ext x) (by omega)
 have BN:=fun(g:Nat) (W:World) (K:KernI W g i) (x:Ext w W)=>Q7 none 0 [] K (hT.ext x) (.inl rfl) (by simp)
 rw[Zck hc] at BN;have DP:=fun(g:Nat) (W:World) (K:KernI W g i)=>Q6 K
 have WS:=fun(start:Int)=>Zbw hc hfew start
 have LOW:Hid ((Yv i []).1<=XB i/\(∀ x,(ZA i x).2=0->XB i<=(ZA i x).1)/\(∀ x v,J5 i x v->v=XB i)/\bxI i []=XB i/\∀ x,(ZA i x).2=0->0<=(ZA i x).1/\(ZA i x).1<=4611686018427387904):=Hd ⟨by
  rw[<-ZcU hc];exact(Zgb hc).low [] (Qt hc),fun x h=>ZeW hc h,fun x v h=>(Zfa hc h).2,ZcU hc,fun x h=>Zcl h⟩
 have HR:=H;obtain⟨A,a,B,b,C,c,rfl,-,-,-⟩:=H;have B1:Hid (Blk (w.alloc (.cells #[.int .i64 i.kind,.int .i64 i.n,.int .i64 i.cap,.slice A i.weight.length a,.slice B i.value.length b,.slice C i.cost.length c] 25)) w.heap.size 25 #[.int .i64 i.kind,.int .i64 i.n,.int .i64 i.cap,.slice A i.weight.length a,.slice B i.value.length b,.slice C i.cost.length c]):=.new rfl;replace FE:=Hd FE;replace CP:=Hd CP;replace BX:=Hd BX;replace HR:=Hd HR;replace hc:=Hd hc;replace lr:=Hd lr;replace KO:=Hd KO;replace GS:=Hd GS;replace BT:=Hd BT;replace BN:=Hd BN;replace DP:=Hd DP;replace WS:=Hd WS;clear hf ht0;go_enter Tryz.func3,Tryz.ntmps3;go_wp2_with (fail);refine(V9 _).mono ?_;rintro e w1 ⟨rfl,x1⟩;have X1:=Hd (Ext.tr (a:=w) (by(repeat (first | assumption | exact Ext.rf _ | apply Ext.drew | apply Ext.drewN | apply Ext.alloc))) x1);have b1:=Hd (B1.out.ext x1);have t0:=b1.out.c0;have t1:=b1.out.c1;have t2:=b1.out.c2;have t3:=b1.out.c3;have t4:=b1.out.c4;have t5:=b1.out.c5;clear x1 B1;go_wp2_with (fail);refine(FE.out _ X1.out).mono ?_;rintro e w2 ⟨rfl,x2⟩;have X2:=Hd (X1.out.tr x2);have b2:=Hd (b1.out.ext x2);clear x2 X1 b1 t0 t1 t2 t3 t4 t5 FE;have t0:=b2.out.c0;have t1:=b2.out.c1;have t2:=b2.out.c2;have t3:=b2.out.c3;have t4:=b2.out.c4;have t5:=b2.out.c5;go_wp2_with (fail);refine(CP.out _ _ (HR.out.ext X2.out)).mono ?_;rintro e w3 ⟨A3,c3,B3,d3,C3,e3,us3,rfl,oA,oB,dj,oC,rO,rD,x3⟩;have X3:=X2.out.tr x3;have b3:=b2.out.ext x3;have O3:InstO w3 w2.heap.size [.int .i64 i.kind,.int .i64 i.n,.int .i64 i.cap,.slice A3 i.weight.length c3,.slice B3 i.value.length d3,.slice C3 i.cost.length e3] i:=⟨A3,c3,B3,d3,C3,e3,us3,rfl,oA,oB,oC,rO⟩;clear t0 t1 t2 t3 t4 t5;have t0:=b3.c0;have t1:=b3.c1;have t2:=b3.c2;have t3:=b3.c3;have t4:=b3.c4;have t5:=b3.c5;have f0:=b3.free 0;have f1:=b3.free 1;have f2:=b3.free 2;have f3:=b3.free 3;have f4:=b3.free 4;have f5:=b3.free 5;obtain⟨X4,b4,O4⟩:=Zeq b3 X3 O3;have S4:=Hd (StI.mk X4 b4 (O4.rinst hI));clear oA oB dj oC rO rD x3 X3 b3 X2 b2 O3 X4 b4 O4 CP HR;go_upto_region 4 with(fail);generalize ((((((w3.setCell ⟨w.heap.size,0,none⟩ (.int .i64 i.kind)).setCell ⟨w.heap.size,1,none⟩ (.int .i64 i.n)).setCell ⟨w.heap.size,2,none⟩ (.int .i64 i.cap)).setCell ⟨w.heap.size,3,none⟩ (.slice A3 i.weight.length c3)).setCell ⟨w.heap.size,4,none⟩ (.slice B3 i.value.length d3)).setCell ⟨w.heap.size,5,none⟩ (.slice C3 i.cost.length e3))=w4 at *;clear t0 t1 t2 t3 t4 t5 f0 f1 f2 f3 f4 f5;have t0:=S4.out.b.c0;have t1:=S4.out.b.c1;have t2:=S4.out.b.c2;have t3:=S4.out.b.c3;have t4:=S4.out.b.c4;have t5:=S4.out.b.c5;go_wp2_with (fail);refine(KO.out _ _ S4.out.r).mono ?_;rintro e w5 ⟨hk,x5⟩;rcases hk with⟨hc9,-⟩ | ⟨-,g,rfl,K5⟩
 ·exact absurd hc.out hc9
 have S5:=Hd (S4.out.ext x5);replace K5:=Hd K5;clear x5 S4 KO t0 t1 t2 t3 t4 t5;have t0:=S5.out.b.c0;have t1:=S5.out.b.c1;have t2:=S5.out.b.c2;have t3:=S5.out.b.c3;have t4:=S5.out.b.c4;have t5:=S5.out.b.c5;go_wp2_with (fail);refine(GS.out _ _ (S5.out.r.ext (by(repeat (first | assumption | exact Ext.rf _ | apply Ext.drew | apply Ext.drewN | apply Ext.alloc))))).mono ?_;rintro e w6 ⟨A6,c6,x6,rfl,h6,y6⟩;have z6:=Ext.tr (a:=w5) (by(repeat (first | assumption | exact Ext.rf _ | apply Ext.drew | apply Ext.drewN | apply Ext.alloc))) y6;have S6:=Hd (S5.out.ext z6);have K6:=Hd (K5.out.ext z6);have L6:=LOW.out.2.1 x6 h6;have M6:=LOW.out.2.2.2.2 x6 h6;obtain⟨st,hst⟩:∃ st,(ZA i x6).1=st:=⟨_,rfl⟩;rw[hst] at L6 M6 ⊢;replace hst:=Hd hst;replace h6:=Hd h6;obtain⟨n6,hn6⟩:∃ n6,n6=x6.length:=⟨_,rfl⟩;rw[<-hn6];replace hn6:=Hd hn6;clear y6 z6 S5 K5 GS t0 t1 t2 t3 t4 t5;have t0:=S6.out.b.c0;have t1:=S6.out.b.c1;have t2:=S6.out.b.c2;have t3:=S6.out.b.c3;have t4:=S6.out.b.c4;have t5:=S6.out.b.c5;go_wp2_with (fail);refine(BX.out _ _ (S6.out.r.ext (by(repeat (first | assumption | exact Ext.rf _ | apply Ext.drew | apply Ext.drewN | apply Ext.alloc)))) (S6.out.x.tr (by(repeat (first | assumption | exact Ext.rf _ | apply Ext.drew | apply Ext.drewN | apply Ext.alloc))))).mono ?_;intro e w7 hp;rcases hp with⟨hne,-⟩ | ⟨-,A7,x7,c7,v7,rfl,r7,a7,hl7,hm7,y7⟩
 ·exact absurd rfl hne
 have z7:=Ext.tr (a:=w6) (by(repeat (first | assumption | exact Ext.rf _ | apply Ext.drew | apply Ext.drewN | apply Ext.alloc))) y7;have X7:=Hd (S6.out.x.tr z7);have K7:=Hd (K6.out.ext z7);have hv:=LOW.out.2.2.1 x7 v7 a7;have hb:=LOW.out.2.2.2.1;have hr:=LOW.out.1;obtain⟨b8,f8,s8,e8,m8,l8⟩:=WS.out (st+1);obtain⟨b9,f9,s9,e9,m9,-⟩:=WS.out st;have q8:b8=v7:=by omega
 have q9:b9=v7:=by omega
 have l8':f8.length=ZB i:=l8 (by omega);have BT8:=Hd (fun(W:World) (y:Ext w7 W)=>BT.out g (st+1) W (K7.out.ext y) (X7.out.tr y));have BT9:=Hd (fun(W:World) (y:Ext w7 W)=>BT.out g st W (K7.out.ext y) (X7.out.tr y));have BN9:=Hd (fun(W:World) (y:Ext w7 W)=>BN.out g W (K7.out.ext y) (X7.out.tr y));have DP9:=Hd (fun(W:World) (y:Ext w7 W)=>DP.out g W (K7.out.ext y));unfold Ub at BT8 BT9;rw[e8] at BT8;rw[e9] at BT9;simp only at BT8 BT9;rw[q8,l8'] at BT8;rw[q9] at BT9;obtain⟨dp,hdp⟩:∃ dp,ZB i=dp:=⟨_,rfl⟩;rw[hdp] at BT8 DP9;obtain⟨rt,hrt⟩:∃ rt,(Yv i []).1=rt:=⟨_,rfl⟩;rw[hrt] at BN9 hr;have w9:IntKind.i64.wrap (st+1)=st+1:=IntWalk.i64_in _ (by omega);have g1:rt<=v7:=by omega
 have g2:v7<=st:=by omega
 have g3:(v7==v7)=true:=by simp
 have g4:((dp:Int)==(dp:Int))=true:=by simp
 generalize x7.length=n7 at *;generalize f9.length=n9 at *;clear z7 y7 r7 a7 hl7 hm7 S6 K6 L6 M6 hv hb hr e8 e9 m8 m9 l8 q8 q9 l8' BT BN DP WS LOW BX t0 t1 t2 t3 t4 t5 hdp hrt;simp only[List.length_nil] at BN9;go_wp2_with (fail);refine(BT8.out _ (by(repeat (first | assumption | exact Ext.rf _ | apply Ext.drew | apply Ext.drewN | apply Ext.alloc)))).mono ?_;rintro e wa ⟨Fa,ca,rfl,ya⟩;have Ya:=Hd (Ext.tr (a:=w7) (by(repeat (first | assumption | exact Ext.rf _ | apply Ext.drew | apply Ext.drewN | apply Ext.alloc))) ya);clear ya BT8;go_wp2_with (fail);refine(BT9.out _ (Ya.out.tr (by(repeat (first | assumption | exact Ext.rf _ | apply Ext.drew | apply Ext.drewN | apply Ext.alloc))))).mono ?_;rintro e wb ⟨Fb,cb,rfl,yb⟩;have Yb:=Hd (Ya.out.tr (Ext.tr (by(repeat (first | assumption | exact Ext.rf _ | apply Ext.drew | apply Ext.drewN | apply Ext.alloc))) yb));clear yb BT9;go_wp2_with (fail);refine(BN9.out _ (Yb.out.tr (by(repeat (first | assumption | exact Ext.rf _ | apply Ext.drew | apply Ext.drewN | apply Ext.alloc))))).mono ?_;rintro e wd ⟨rfl,yd⟩;have Yd:=Hd (Yb.out.tr (Ext.tr (by(repeat (first | assumption | exact Ext.rf _ | apply Ext.drew | apply Ext.drewN | apply Ext.alloc))) yd));clear yd BN9;go_wp2_with (fail);refine(DP9.out _ (Yd.out.tr (by(repeat (first | assumption | exact Ext.rf _ | apply Ext.drew | apply Ext.drewN | apply Ext.alloc))))).mono ?_;rintro e we ⟨rfl,ye⟩;have Ye:=Hd (X7.out.tr (Yd.out.tr (Ext.tr (by(repeat (first | assumption | exact Ext.rf _ | apply Ext.drew | apply Ext.drewN | apply Ext.alloc))) ye)));clear ye DP9;go_wp2_with (fail);go_ret;exact⟨rfl,Ye.out.tr (by(repeat (first | assumption | exact Ext.rf _ | apply Ext.drew | apply Ext.drewN | apply Ext.alloc)))⟩
theorem Zgl (vs:List Value)(i:InstP)(w:World)(hT:Tab w)(H:RInst w vs i)(_:Zeg i)(hR:i.weight.length*8<=reachBytes/\i.value.length*8<=reachBytes) :
  Calls Tryz.prog 3 #[.agg (List.toArray vs)] w fun e w'=>e=.returned (.bool true)/\Ext w w':=by
 have h47:=reachBytes_lt
 by_cases hf:Jo i=true
 ·exact Zfg i vs w hT H hf
 ·exact ZfP i vs w H (by simp only[maxLen];omega) (by simp only[maxLen];omega) (by simp only[maxLen];omega) (by simpa using hf)
theorem lifted (os:Os)(started:os.Started)(H:Type)(enc:TypeId×Value->H) :
  ReturnsInHanded {} Tryz.checked os 3 .any (fun w args=>(Rows.kurganWaysSpec.pre enc Tryz.prog Tryz.f3 Rows.kurganWaysRow.domain false w args/\laidMetH Tryz.prog Zff w)/\sizedMet enc Tryz.prog Tryz.f3 (OpenSpec.ofChange Rows.kurganWaysSpec) false w args) (Rows.kurganWaysSpec.post enc Tryz.prog Tryz.f3 false true false false):=by
 refine returnsInHanded_of_change_and (C:=Tryz.checked) (X:=fun w _=>laidMetH Tryz.prog Zff w) (fun _ _ _ hh h=>h.of_heap hh) own started (by kernel_rfl) Tryz.func3
  (ChangeSpec.witness_shaped (enc:=enc) (C:=Tryz.checked) (os:=os) (X:=fun w _=>laidMetH Tryz.prog Zff w) false (World.laidAll Tryz.prog os Zff) #[.agg #[.int .i64 0,.int .i64 0,.int .i64 0,.slice none 0 0,.slice none 0 0,.slice none 0 0]] 8 (World.laidAll_os _ _ _)
   (World.shaped_of_ZipB (by kernel_rfl) (by kernel_rfl)) (by kernel_rfl) (by kernel_rfl) (by kernel_rfl)
   (by rw[MakeChecks.laidMetH_plain _ _ _ (by kernel_rfl)];exact laidMet_laidAll _ (by kernel_rfl) (by kernel_rfl))) ?_
 intro W base args ds gs before hval0 hW _ hsz hL _;have hval:∀ (j:Nat) t v,Tryz.f3.params[j]?=some t->args[j]?=some v->Value.okWide Tryz.prog W .any base t v:=hval0;have hW':=hW;obtain⟨p,q,hA0,hV,rfl,hfz,hnd⟩:=hW;have hA:DataW.TrodAll enc Tryz.prog W 0 (fun _=>true) true Tryz.f3.params.toList args.toList ds p:=hA0;rw[Tryz.params3] at hA hval hsz;obtain⟨v0,vs0,d0,ds0,p0,q0,hargs,rfl,rfl,h0,r0⟩:=trodAll_cons hA;obtain⟨rfl,rfl,rfl⟩:=trodAll_nil r0;obtain rfl:args=#[v0]:=by cases args;simp_all
 obtain⟨rfl,rfl⟩:=trodVars_none hV;obtain⟨y0,x0,rfl,hx0,ix0,sz0⟩:=Zcv h0 (hval 0 _ v0 rfl rfl);have hR:=sz0 reachBytes fun n hn=>by
  have h:=List.all_eq_true.1 hsz n (DataW.weights_mem_each (j:=0) (t:=25) (d:=d0) rfl rfl n hn)
  simpa using h
 refine(Zgl y0 x0 W (ZbC hL) hx0 ix0 hR).mono fun e W' ⟨he,hg⟩=>?_
 subst he;exact⟨_,rfl,Zd9 hW' rfl rfl rfl rfl rfl (Zay (by kernel_rfl)) hg⟩
theorem row : Rows.KurganWaysSaid :=
 OpenClaim.holds_of_wide 3 Tryz.f3 rfl rfl rfl rfl rfl rfl rfl ⟨rfl,rfl,rfl,rfl,rfl⟩ rfl rfl rfl rfl rfl (by kernel_rfl) Tryz.func3 (by kernel_rfl)
  (of_decide_eq_true (by kernel_rfl)) (by unfold Func.isWrapper;first | (rw[if_pos (by decide +kernel)];kernel_rfl) | (rw[if_neg (by decide +kernel)];exact⟨rfl,rfl⟩))
  (fun os started H enc _=>lifted os started H enc)
theorem proved : Rows.KurganWaysCardSaid :=
 Claim7.holds_tied_plain_at .later [] [.data] true Rows.kurganWaysCard.stood.harness false row (fun _ h=>by cases h) (by kernel_rfl) (fun _ h=>by cases h) kurganWays_row_tie rfl ⟨rfl,rfl⟩ (by kernel_rfl) rfl
  (fun f fn hf hfn=>by
   obtain rfl:f=3:=Option.some.inj ((show Tryz.prog.funcNamed "kurgan/kurgantop.KurganWays" = some 3 by kernel_rfl).symm.trans hf) |>.symm
   obtain rfl:fn=Tryz.f3:=(Option.some.inj (Tryz.func3.symm.trans hfn)).symm;exact⟨by kernel_rfl,fun j t ht=>by
    rw[Tryz.params3] at ht;have hm:t∈[25]:=by simpa using Array.mem_of_getElem? ht
    have hall:([25].all fun u => !Tryz.prog.wantsStandIn u)=true:=by kernel_rfl
    exact(show Tryz.prog.wantsStandIn t=false by simpa using List.all_eq_true.1 hall t hm)⟩)
  (by kernel_rfl)
end Go.Proofs.YtmojhhlcocjoaaaGreatDoor.kurganWays
