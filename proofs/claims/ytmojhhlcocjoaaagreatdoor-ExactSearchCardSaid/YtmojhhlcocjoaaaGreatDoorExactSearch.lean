/- packed and squeezed by programs (see wip/) -/
import Derived.Test.YtmojhhlcocjoaaaGreatDoorExactSearchP8
import Derived.Test.YtmojhhlcocjoaaaGreatDoorRows
import Derived.Test.YtmojhhlcocjoaaaGreatDoorCards
import Derived.Test.YtmojhhlcocjoaaaGreatDoorTie
import Derived.Test.YtmojhhlcocjoaaaGreatDoorChecked
set_option maxRecDepth 100000
set_option maxHeartbeats 16000000
set_option linter.unusedVariables false
set_option linter.unusedSimpArgs false
namespace Go.Proofs.YtmojhhlcocjoaaaGreatDoor.exactSearch
open Go.RowKit Go.ChangeShapes Go.WideShapes Go.ChangeAt Go.Deep
structure StI (w:World)(vs:List Value)(j:InstP)(wr:World) : Prop where
 x:Ext w wr
 b:Blk wr w.heap.size 25 (List.toArray vs)
 r:RInst wr vs j
theorem StI.ext {w:World}{vs:List Value}{j:InstP}{wr wr':World}(h:StI w vs j wr)(x:Ext wr wr') : StI w vs j wr':=⟨h.x.tr x,h.b.ext x,h.r.ext x⟩
theorem Zek (i j:InstP)(hj:j=XG i)(vs:List Value)(w:World)(hT:Tab w)(H:RInst w vs i) :
  Calls Tryz.prog 5 #[.agg (List.toArray vs)] w fun e w'=>e=.returned (.bool true)/\Ext w w':=by
 have CP:=fun(W:World) (x:Ext w W)=>Zet hj vs W (H.ext x)
 have hI:InstInts j:=hj ▸ H.ints.copy;have LW:j.weight.length<=1000000000:=by have:=(Qi i).1;rw[<-hj] at this;omega
 have LV:j.value.length<=1000000000:=by have:=(Qi i).2.1;rw[<-hj] at this;omega
 have KO:=fun(us:List Value) (W:World) (h:RInst W us j)=>ZeB j us W h (by omega) (by omega)
 replace KO:=Hd KO;clear hj;obtain⟨A,a,B,b,C,c,rfl,-,-,-⟩:=H;have B1:Hid (Blk (w.alloc (.cells #[.int .i64 i.kind,.int .i64 i.n,.int .i64 i.cap,.slice A i.weight.length a,.slice B i.value.length b,.slice C i.cost.length c] 25)) w.heap.size 25 #[.int .i64 i.kind,.int .i64 i.n,.int .i64 i.cap,.slice A i.weight.length a,.slice B i.value.length b,.slice C i.cost.length c]):=.new rfl;replace CP:=Hd CP;replace LW:=Hd LW;replace LV:=Hd LV;go_enter Tryz.func5,Tryz.ntmps5;go_wp2_with (fail);refine(CP.out _ (by(repeat (first | assumption | exact Ext.rf _ | apply Ext.drew | apply Ext.drewN | apply Ext.alloc)))).mono ?_;rintro e w2 ⟨us,rfl,O2,x2⟩;obtain⟨A3,l3,d3,A4,l4,d4,A5,l5,d5,rfl⟩:=O2.six;have X2:=Ext.tr (a:=w) (by(repeat (first | assumption | exact Ext.rf _ | apply Ext.drew | apply Ext.drewN | apply Ext.alloc))) x2;have B2:=B1.out.ext x2;obtain⟨X3,B3,O3⟩:=ZdE B2 X2 O2;have S3:=Hd (StI.mk X3 B3 (O3.rinst hI));have t0:=B2.c0;have t1:=B2.c1;have t2:=B2.c2;have t3:=B2.c3;have t4:=B2.c4;have t5:=B2.c5;have f0:=B2.free 0;have f1:=B2.free 1;have f2:=B2.free 2;have f3:=B2.free 3;have f4:=B2.free 4;have f5:=B2.free 5;clear O2 x2 X2 B2 X3 B3 O3;go_upto_region 2 with(fail);generalize ((((((w2.setCell ⟨w.heap.size,0,none⟩ (.int .i64 j.kind)).setCell ⟨w.heap.size,1,none⟩ (.int .i64 j.n)).setCell ⟨w.heap.size,2,none⟩ (.int .i64 j.cap)).setCell ⟨w.heap.size,3,none⟩ (.slice A3 l3 d3)).setCell ⟨w.heap.size,4,none⟩ (.slice A4 l4 d4)).setCell ⟨w.heap.size,5,none⟩ (.slice A5 l5 d5))=w3 at *;clear t0 t1 t2 t3 t4 t5 f0 f1 f2 f3 f4 f5;have t0:=S3.out.b.c0;have t1:=S3.out.b.c1;have t2:=S3.out.b.c2;have t3:=S3.out.b.c3;have t4:=S3.out.b.c4;have t5:=S3.out.b.c5;go_wp2_with (fail);refine(KO.out _ _ S3.out.r).mono ?_;rintro e w4 ⟨hk,x4⟩;have S4:=Hd (S3.out.ext x4);clear x4 S3 KO t0 t1 t2 t3 t4 t5;rcases hk with⟨hc,rfl⟩ | ⟨hc,g,rfl,K⟩
 ·have e1:(Zl j != 0)=true:=by simpa using hc
  clear hc;generalize Zl j=er at *;go_wp2_with (fail);refine(Wz _).mono ?_;rintro e w5 ⟨rfl,x5⟩;have S5:=Hd (S4.out.ext (Ext.tr (by(repeat (first | assumption | exact Ext.rf _ | apply Ext.drew | apply Ext.drewN | apply Ext.alloc))) x5));clear x5 S4;go_wp2_with (fail);refine(Wz _).mono ?_;rintro e w6 ⟨rfl,x6⟩;have X6:=Hd (S5.out.x.tr (Ext.tr (by(repeat (first | assumption | exact Ext.rf _ | apply Ext.drew | apply Ext.drewN | apply Ext.alloc))) x6));clear x6;go_wp2_with (fail);go_ret;exact⟨rfl,X6.out.tr (by(repeat (first | assumption | exact Ext.rf _ | apply Ext.drew | apply Ext.drewN | apply Ext.alloc)))⟩
 ·go_wp2_with (fail)
  refine(Wz _).mono ?_;rintro e w5 ⟨rfl,x5⟩;have S5:=Hd (S4.out.ext (Ext.tr (by(repeat (first | assumption | exact Ext.rf _ | apply Ext.drew | apply Ext.drewN | apply Ext.alloc))) x5));have K5:=Hd (K.ext (Ext.tr (by(repeat (first | assumption | exact Ext.rf _ | apply Ext.drew | apply Ext.drewN | apply Ext.alloc))) x5));clear x5 S4 K;have t1:=S5.out.b.c1
  by_cases hn:10<j.n
  ·have g1:decide (10<j.n)=true:=decide_eq_true hn
   go_wp2_with (fail);refine(Wz _).mono ?_;rintro e w6 ⟨rfl,x6⟩;have X6:=Hd (S5.out.x.tr (Ext.tr (by(repeat (first | assumption | exact Ext.rf _ | apply Ext.drew | apply Ext.drewN | apply Ext.alloc))) x6));clear x6;go_wp2_with (fail);go_ret;exact⟨rfl,X6.out.tr (by(repeat (first | assumption | exact Ext.rf _ | apply Ext.drew | apply Ext.drewN | apply Ext.alloc)))⟩
  ·have g1:decide (10<j.n)=false:=decide_eq_false hn
   have ht0:Vq j 0=0:=by
    unfold Vq;rw[if_neg (fun h=>h hc),if_neg (fun h=>h.1 rfl),if_neg (by omega)]
   have BT:=Hd (fun(W:World) (x:Ext w5 W)=>ZaT j g 4611686018427387904 3000 W (K5.out.ext x) ((hT.ext S5.out.x).ext x) (by omega));have BL:=ZbL hc 3000;unfold VN at BT;generalize XQ j 4611686018427387904 3000=R at *;obtain⟨⟨b1,f1,s1⟩,ok1⟩:=R;simp only at BT BL;have EX:=Hd (fun(W:World) (h:RInst W [.int .i64 j.kind,.int .i64 j.n,.int .i64 j.cap,.slice A3 l3 d3,.slice A4 l4 d4,.slice A5 l5 d5] j) (x:Ext w W)=>ZeR j _ W h LW.out LV.out (hT.ext x));rw[ht0] at EX;replace hc:=Hd hc;replace BL:=Hd BL;clear ht0 hn K5;go_wp2_with (fail);refine(BT.out _ (by(repeat (first | assumption | exact Ext.rf _ | apply Ext.drew | apply Ext.drewN | apply Ext.alloc)))).mono ?_;rintro e w6 ⟨F6,l6,c6,rfl,x6⟩;have S6:=Hd (S5.out.ext (Ext.tr (by(repeat (first | assumption | exact Ext.rf _ | apply Ext.drew | apply Ext.drewN | apply Ext.alloc))) x6));clear x6 S5 BT t1 g1;have t0:=S6.out.b.c0;have t1:=S6.out.b.c1;have t2:=S6.out.b.c2;have t3:=S6.out.b.c3;have t4:=S6.out.b.c4;have t5:=S6.out.b.c5;go_wp2_with (fail);refine(EX.out _ (S6.out.r.ext (by(repeat (first | assumption | exact Ext.rf _ | apply Ext.drew | apply Ext.drewN | apply Ext.alloc)))) (S6.out.x.tr (by(repeat (first | assumption | exact Ext.rf _ | apply Ext.drew | apply Ext.drewN | apply Ext.alloc))))).mono ?_;intro e w7 hp;rcases hp with⟨hne,-⟩ | ⟨-,A9,x9,c9,v9,rfl,r9,a9,hl9,hm9,x7⟩
   ·exact absurd rfl hne
   have X7:=Hd (S6.out.x.tr (Ext.tr (by(repeat (first | assumption | exact Ext.rf _ | apply Ext.drew | apply Ext.drewN | apply Ext.alloc))) x7));have hv:=(Zeg hc.out a9).2;have hb:=ZeF hc.out;have q1:v9<=b1:=by have:=BL.out.1;omega
   have q2:ok1=true->b1=v9:=fun h=>by have:=BL.out.2 h;omega
   clear x7 r9 a9 hl9 hm9 S6 EX BL hv hb t0 t1 t2 t3 t4 t5;have g2:decide (v9<=b1)=true:=decide_eq_true q1;generalize x9.length=n9 at *
   cases ok1 with
   | true =>
    obtain rfl:=q2 rfl;have e9:(b1==b1)=true:=by simp
    clear q1 q2;go_wp2_with (fail);go_ret;exact⟨rfl,X7.out.tr (by(repeat (first | assumption | exact Ext.rf _ | apply Ext.drew | apply Ext.drewN | apply Ext.alloc)))⟩
   | false =>
    clear q2;go_wp2_with (fail);go_ret;exact⟨rfl,X7.out.tr (by(repeat (first | assumption | exact Ext.rf _ | apply Ext.drew | apply Ext.drewN | apply Ext.alloc)))⟩
theorem Zfm (vs:List Value)(i:InstP)(w:World)(hT:Tab w)(H:RInst w vs i)(_:Zdo i) :
  Calls Tryz.prog 5 #[.agg (List.toArray vs)] w fun e w'=>e=.returned (.bool true)/\Ext w w':=Zek i (XG i) rfl vs w hT H
theorem lifted (os:Os)(started:os.Started)(H:Type)(enc:TypeId×Value->H) :
  ReturnsInHanded {} Tryz.checked os 5 .any (fun w args=>(Rows.exactSearchSpec.pre enc Tryz.prog Tryz.f5 Rows.exactSearchRow.domain false w args/\laidMetH Tryz.prog Zej w)/\sizedMet enc Tryz.prog Tryz.f5 (OpenSpec.ofChange Rows.exactSearchSpec) false w args) (Rows.exactSearchSpec.post enc Tryz.prog Tryz.f5 false true false false):=by
 refine returnsInHanded_of_change_and (C:=Tryz.checked) (X:=fun w _=>laidMetH Tryz.prog Zej w) (fun _ _ _ hh h=>h.of_heap hh) own started (by kernel_rfl) Tryz.func5
  (ChangeSpec.witness_shaped (enc:=enc) (C:=Tryz.checked) (os:=os) (X:=fun w _=>laidMetH Tryz.prog Zej w) false (World.laidAll Tryz.prog os Zej) #[.agg #[.int .i64 0,.int .i64 0,.int .i64 0,.slice none 0 0,.slice none 0 0,.slice none 0 0]] 8 (World.laidAll_os _ _ _)
   (World.shaped_of_ZipB (by kernel_rfl) (by kernel_rfl)) (by kernel_rfl) (by kernel_rfl) (by kernel_rfl)
   (by rw[MakeChecks.laidMetH_plain _ _ _ (by kernel_rfl)];exact laidMet_laidAll _ (by kernel_rfl) (by kernel_rfl))) ?_
 intro W base args ds gs before hval0 hW _ _ hL _;have hval:∀ (j:Nat) t v,Tryz.f5.params[j]?=some t->args[j]?=some v->Value.okWide Tryz.prog W .any base t v:=hval0;have hW':=hW;obtain⟨p,q,hA0,hV,rfl,hfz,hnd⟩:=hW;have hA:DataW.TrodAll enc Tryz.prog W 0 (fun _=>true) true Tryz.f5.params.toList args.toList ds p:=hA0;rw[Tryz.params5] at hA hval;obtain⟨v0,vs0,d0,ds0,p0,q0,hargs,rfl,rfl,h0,r0⟩:=trodAll_cons hA;obtain⟨rfl,rfl,rfl⟩:=trodAll_nil r0;obtain rfl:args=#[v0]:=by cases args;simp_all
 obtain⟨rfl,rfl⟩:=trodVars_none hV;obtain⟨y0,x0,rfl,hx0,ix0⟩:=Zcc h0 (hval 0 _ v0 rfl rfl);refine(Zfm y0 x0 W (ZaU hL) hx0 ix0).mono fun e W' ⟨he,hg⟩=>?_
 subst he;exact⟨_,rfl,Zdh hW' rfl rfl rfl rfl rfl (JT (by kernel_rfl)) hg⟩
theorem row : Rows.ExactSearchSaid :=
 OpenClaim.holds_of_wide 5 Tryz.f5 rfl rfl rfl rfl rfl rfl rfl ⟨rfl,rfl,rfl,rfl,rfl⟩ rfl rfl rfl rfl rfl (by kernel_rfl) Tryz.func5 (by kernel_rfl)
  (of_decide_eq_true (by kernel_rfl)) (by unfold Func.isWrapper;first | (rw[if_pos (by decide +kernel)];kernel_rfl) | (rw[if_neg (by decide +kernel)];exact⟨rfl,rfl⟩))
  (fun os started H enc _=>lifted os started H enc)
theorem proved : Rows.ExactSearchCardSaid :=
 Claim7.holds_tied_plain_at .later [] [.data] true Rows.exactSearchCard.stood.harness false row (fun _ h=>by cases h) (by kernel_rfl) (fun _ h=>by cases h) exactSearch_row_tie rfl ⟨rfl,rfl⟩ (by kernel_rfl) rfl
  (fun f fn hf hfn=>by
   obtain rfl:f=5:=Option.some.inj ((show Tryz.prog.funcNamed "kurgan/kurganlaw15.ExactSearch" = some 5 by kernel_rfl).symm.trans hf) |>.symm
   obtain rfl:fn=Tryz.f5:=(Option.some.inj (Tryz.func5.symm.trans hfn)).symm;exact⟨by kernel_rfl,fun j t ht=>by
    rw[Tryz.params5] at ht;have hm:t∈[25]:=by simpa using Array.mem_of_getElem? ht
    have hall:([25].all fun u => !Tryz.prog.wantsStandIn u)=true:=by kernel_rfl
    exact(show Tryz.prog.wantsStandIn t=false by simpa using List.all_eq_true.1 hall t hm)⟩)
  (by kernel_rfl)
end Go.Proofs.YtmojhhlcocjoaaaGreatDoor.exactSearch
