/- packed and squeezed by programs (see wip/) -/
import Derived.Test.YtmojhhlcocjoaaaGreatDoorShowLinesP7
import Derived.Test.YtmojhhlcocjoaaaGreatDoorRows
import Derived.Test.YtmojhhlcocjoaaaGreatDoorCards
import Derived.Test.YtmojhhlcocjoaaaGreatDoorTie
import Derived.Test.YtmojhhlcocjoaaaGreatDoorChecked
set_option maxRecDepth 100000
set_option maxHeartbeats 16000000
namespace Go.Proofs.YtmojhhlcocjoaaaGreatDoor.showLines
open Go.RowKit Go.ChangeShapes Go.WideShapes Go.ChangeAt Go.Deep
structure StL (w:World)(vs:List Value)(j:InstP)(n:Int)(A:Option Addr)(c:Nat)(ps:List Int)(wr:World) : Prop where
 x:Ext w wr
 b:Blk wr w.heap.size 25 (List.toArray vs)
 r:RInst wr vs j
 d:Blk wr (w.heap.size+1) 41 #[.int .i64 n,.slice A ps.length c]
 l:RdI wr A ps
theorem StL.ext {w:World}{vs:List Value}{j:InstP}{n:Int}{A:Option Addr}{c:Nat}{ps:List Int}{wr wr':World}(h:StL w vs j n A c ps wr)(x:Ext wr wr') : StL w vs j n A c ps wr':=⟨h.x.tr x,h.b.ext x,h.r.ext x,h.d.ext x,h.l.ext x⟩
theorem ZcX (i j:InstP)(hj:j=XD i)(vs cs:List Value)(r:RecP)(w:World)(hT:Tab w/\Ten w)(H:RInst w vs i)(HR:ZcV w cs r) :
  Calls Tryz.prog 4 #[.agg (List.toArray vs),.agg (List.toArray cs)] w fun e w'=>e=.returned (.bool true)/\Ext w w':=by
 obtain⟨n,xs⟩:=r;obtain⟨P,pc,rfl,hP,ix,lx,lc⟩:=HR;simp only at hP ix lx lc;have CP:=fun(W:World) (x:Ext w W)=>Zc9 hj vs W (H.ext x)
 have hI:InstInts j:=hj ▸ H.ints.copy;have LW:j.weight.length<=70:=by have:=(U3 i).1;rw[<-hj] at this;omega
 have LV:j.value.length<=70:=by have:=(U3 i).2.1;rw[<-hj] at this;omega
 obtain⟨ps,hp,ip,lp,lp',kp,ep⟩:=Za2 70 hP ix;simp only[Int.cast_ofNat_Int] at ep;unfold maxLen at lc;have lpd:ps.length<=pc:=by omega
 have ep2:min (xs.length:Int) 70=(ps.length:Int):=by split at ep<;>omega
 have KO:=fun(us:List Value) (W:World) (h:RInst W us j)=>Zdu j us W h (by omega) (by omega)
 have LN:=fun(g:Nat) (A:Option Addr) (c:Nat) (W:World) (x:Ext w W) (K:KernI W g j) (hA:RdI W A ps)=>ZaZ j g n A c ps W K (hT.1.ext x) (hT.2.ext x) hA ip (by omega)
 have DL:=fun(hc:Zm j=0) (us:List Value) (A:Option Addr) (c:Nat) (W:World) (h:RInst W us j) (hA:RdI W A ps)=>Zab j us n A c ps W h hc hA ip (by omega)
 have SH:=fun(W:World) (x:Ext w W)=>ZbT W (hT.2.ext x)
 obtain⟨sa,hsa⟩:∃ sa,(XY j n ps).1=sa:=⟨_,rfl⟩;obtain⟨ea,hea⟩:∃ ea,(XY j n ps).2=ea:=⟨_,rfl⟩;rw[hsa,hea] at LN DL;unfold txS at LN DL;clear hj hsa hea;replace hp:=Hd hp;obtain⟨A,a,B,b,C,cc,rfl,-,-,-⟩:=H;have B1:Hid (Blk ((w.alloc (.cells #[.int .i64 i.kind,.int .i64 i.n,.int .i64 i.cap,.slice A i.weight.length a,.slice B i.value.length b,.slice C i.cost.length cc] 25)).alloc (.cells #[.int .i64 n,.slice P xs.length pc] 41)) w.heap.size 25 #[.int .i64 i.kind,.int .i64 i.n,.int .i64 i.cap,.slice A i.weight.length a,.slice B i.value.length b,.slice C i.cost.length cc]):=.alloc (.new rfl) _;have BC:Hid (Blk ((w.alloc (.cells #[.int .i64 i.kind,.int .i64 i.n,.int .i64 i.cap,.slice A i.weight.length a,.slice B i.value.length b,.slice C i.cost.length cc] 25)).alloc (.cells #[.int .i64 n,.slice P xs.length pc] 41)) (w.heap.size+1) 41 #[.int .i64 n,.slice P xs.length pc]):=.new (by simp);replace CP:=Hd CP;replace KO:=Hd KO;replace LN:=Hd LN;replace DL:=Hd DL;replace SH:=Hd SH;replace kp:=Hd kp;clear LW LV hP ix;go_enter Tryz.func4,Tryz.ntmps4;go_wp2_with (fail);refine(CP.out _ Ext.au).mono ?_;rintro e w2 ⟨us,rfl,O2,x2⟩;obtain⟨A3,l3,d3,A4,l4,d4,A5,l5,d5,rfl⟩:=O2.six;have X2:=Ext.tr (a:=w) Ext.au x2;have B2:=B1.out.ext x2;have BC2:=BC.out.ext x2;obtain⟨X3,B3,O3⟩:=Zcg B2 X2 O2;have hne:w.heap.size+1≠w.heap.size:=by omega
 have BC3:=Hd ((((((BC2.far (p:=⟨w.heap.size,0,none⟩) hne (.int .i64 j.kind)).far (p:=⟨w.heap.size,1,none⟩) hne (.int .i64 j.n)).far (p:=⟨w.heap.size,2,none⟩) hne (.int .i64 j.cap)).far (p:=⟨w.heap.size,3,none⟩) hne (.slice A3 l3 d3)).far (p:=⟨w.heap.size,4,none⟩) hne (.slice A4 l4 d4)).far (p:=⟨w.heap.size,5,none⟩) hne (.slice A5 l5 d5));have t0:=B2.c0;have t1:=B2.c1;have t2:=B2.c2;have t3:=B2.c3;have t4:=B2.c4;have t5:=B2.c5;have f0:=B2.free 0;have f1:=B2.free 1;have f2:=B2.free 2;have f3:=B2.free 3;have f4:=B2.free 4;have f5:=B2.free 5;replace X3:=Hd X3;replace B3:=Hd B3;replace O3:=Hd O3;clear O2 x2 X2 B2 BC2 hne;go_upto_region 2 with(fail);generalize ((((((w2.setCell ⟨w.heap.size,0,none⟩ (.int .i64 j.kind)).setCell ⟨w.heap.size,1,none⟩ (.int .i64 j.n)).setCell ⟨w.heap.size,2,none⟩ (.int .i64 j.cap)).setCell ⟨w.heap.size,3,none⟩ (.slice A3 l3 d3)).setCell ⟨w.heap.size,4,none⟩ (.slice A4 l4 d4)).setCell ⟨w.heap.size,5,none⟩ (.slice A5 l5 d5))=w3 at *;clear t0 t1 t2 t3 t4 t5 f0 f1 f2 f3 f4 f5;have k0:=BC3.out.c0;have k1:=BC3.out.c1;have zw:=X3.out.size;have zB3:=BC3.out.lt;go_upto_region 3 with(at_builtin;refine UN _ rfl _ _ rfl w3.heap.size _ ps P pc rfl rfl ?_ ?_ ?_ ?_ ?_;(first | exact .new (by simp) | exact .drew (.new (by simp)) | exact .alloc (.new (by simp)) _ | exact .drew (.alloc (.new (by simp)) _) | exact .alloc (.alloc (.new (by simp)) _) _ | exact .drew (.alloc (.alloc (.new (by simp)) _) _) | (repeat (first | assumption | (refine Blk.new ?_;(focus (simp;done))) | apply Blk.drew | apply Blk.drewN | apply Blk.alloc)));(first | exact Nat.le_refl _ | omega | (focus (simp;try omega)));(refine(hp.out.ext X3.out).ext ?_;exact Ext.au);omega;rintro A7 c7 w7 o7 x7;have y7:=Ext.tr (a:=w3) Ext.au x7;have X7:=Hd (X3.out.tr y7);have BC7:=Hd (BC3.out.ext y7);have O7:=Hd (O3.out.ext y7);have B7:=Hd (B3.out.ext y7);have OR:=Hd o7;clear o7 x7 y7 X3 B3 O3 k0 k1;have k0:w7.cell? ⟨w.heap.size+1,0,none⟩=some (.int .i64 n):=BC7.out.cell 0;have k1:w7.cell? ⟨w.heap.size+1,1,none⟩=some (.slice P xs.length pc):=BC7.out.cell 1;have g1:=BC7.out.free 1);have MT:=ModT.set (ts:=[41]) (base:=w.heap.size) w7 BC7.out (by simp) (by omega) 1 (.slice A7 ps.length c7);have S8:Hid (StL w [.int .i64 j.kind,.int .i64 j.n,.int .i64 j.cap,.slice A3 l3 d3,.slice A4 l4 d4,.slice A5 l5 d5] j n A7 c7 ps (w7.setCell ⟨w.heap.size+1,1,none⟩ (.slice A7 ps.length c7))) :=
  ⟨X7.out.modT MT (Nat.le_refl _),B7.out.modT MT (by decide),(O7.out.modT MT (by decide) (by decide)).rinst hI,BC7.out.set 1 _,(OR.out.modT MT (by decide)).read⟩
 clear MT k0 k1 g1 X7 B7 O7 OR BC7 BC3 B1 BC CP;generalize (w7.setCell ⟨w.heap.size+1,1,none⟩ (.slice A7 ps.length c7))=w8 at *;go_wp2_with (fail);refine(ZaY 1 (.slice none 0 0) _).mono ?_;rintro e w9 ⟨rfl,x9⟩;have S9:=Hd (S8.out.ext (Ext.tr Ext.au x9));clear x9 S8;go_wp2_with (fail);refine(SH.out _ (S9.out.x.tr Ext.au)).mono ?_;rintro e wa ⟨rfl,xa⟩;have Sa:=Hd (S9.out.ext (Ext.tr Ext.au xa));clear xa S9;have t0:=Sa.out.b.c0;have t1:=Sa.out.b.c1;have t2:=Sa.out.b.c2;have t3:=Sa.out.b.c3;have t4:=Sa.out.b.c4;have t5:=Sa.out.b.c5;go_wp2_with (fail);refine(KO.out _ _ (Sa.out.r.ext Ext.au)).mono ?_;rintro e wb ⟨hk,xb⟩;have Sb:=Hd (Sa.out.ext (Ext.tr Ext.au xb));clear xb Sa t0 t1 t2 t3 t4 t5 KO;rcases hk with⟨hc,rfl⟩ | ⟨hc,g,rfl,K⟩
 ·have e1:(Zm j != 0)=true:=by simpa using hc
  clear hc DL LN;generalize Zm j=er at *;go_wp2_with (fail);go_ret;exact⟨rfl,Sb.out.x.tr Ext.au⟩
 ·have LN2:=Hd (fun(W:World) (x:Ext wb W)=>LN.out g A7 c7 W (Sb.out.x.tr x) (K.ext x) (Sb.out.l.ext x))
  have DL2:=Hd (DL.out hc [.int .i64 j.kind,.int .i64 j.n,.int .i64 j.cap,.slice A3 l3 d3,.slice A4 l4 d4,.slice A5 l5 d5] A7 c7);clear LN DL K hc;have k0:=Sb.out.d.c0;have k1:=Sb.out.d.c1;go_wp2_with (fail);refine(LN2.out _ Ext.au).mono ?_;rintro e wd ⟨rfl,xd⟩;have Sd:=Hd (Sb.out.ext (Ext.tr Ext.au xd));clear xd k0 k1 Sb LN2;have k0:=Sd.out.d.c0;have k1:=Sd.out.d.c1;have t0:=Sd.out.b.c0;have t1:=Sd.out.b.c1;have t2:=Sd.out.b.c2;have t3:=Sd.out.b.c3;have t4:=Sd.out.b.c4;have t5:=Sd.out.b.c5;have e2:(ea==ea)=true:=by simp
  go_wp2_with (fail);refine(DL2.out _ (Sd.out.r.ext Ext.au) (Sd.out.l.ext Ext.au)).mono ?_;rintro e we ⟨rfl,xe⟩;have Se:=Hd (Sd.out.x.tr (Ext.tr Ext.au xe));clear xe k0 k1 t0 t1 t2 t3 t4 t5 Sd DL2;go_wp2_with (fail);go_ret;exact⟨rfl,Se.out.tr Ext.au⟩
theorem Zd1 (vs:List Value)(i:InstP)(cs:List Value)(r:RecP)(w:World)(hT:Tab w/\Ten w)(H:RInst w vs i)(_:Zca i)(HR:ZcV w cs r)(_:ZdA r) :
  Calls Tryz.prog 4 #[.agg (List.toArray vs),.agg (List.toArray cs)] w fun e w'=>e=.returned (.bool true)/\Ext w w':=ZcX i (XD i) rfl vs cs r w hT H HR
theorem lifted (os:Os)(started:os.Started)(H:Type)(enc:TypeId×Value->H) :
  ReturnsInHanded {} Tryz.checked os 4 .any (fun w args=>(Rows.showLinesSpec.pre enc Tryz.prog Tryz.f4 Rows.showLinesRow.domain false w args/\laidMetH Tryz.prog ZbY w)/\sizedMet enc Tryz.prog Tryz.f4 (OpenSpec.ofChange Rows.showLinesSpec) false w args) (Rows.showLinesSpec.post enc Tryz.prog Tryz.f4 false true false false):=by
 refine returnsInHanded_of_change_and (C:=Tryz.checked) (X:=fun w _=>laidMetH Tryz.prog ZbY w) (fun _ _ _ hh h=>h.of_heap hh) own started (by kernel_rfl) Tryz.func4
  (ChangeSpec.witness_shaped (enc:=enc) (C:=Tryz.checked) (os:=os) (X:=fun w _=>laidMetH Tryz.prog ZbY w) false (World.laidAll Tryz.prog os ZbY) #[.agg #[.int .i64 0,.int .i64 0,.int .i64 0,.slice none 0 0,.slice none 0 0,.slice none 0 0],.agg #[.int .i64 0,.slice none 0 0]] 8 (World.laidAll_os _ _ _)
   (World.shaped_of_ZipB (by kernel_rfl) (by kernel_rfl)) (by kernel_rfl) (by kernel_rfl) (by kernel_rfl)
   (by rw[MakeChecks.laidMetH_plain _ _ _ (by kernel_rfl)];exact laidMet_laidAll _ (by kernel_rfl) (by kernel_rfl))) ?_
 intro W base args ds gs before hval0 hW _ _ hL _;have hval:∀ (j:Nat) t v,Tryz.f4.params[j]?=some t->args[j]?=some v->Value.okWide Tryz.prog W .any base t v:=hval0;have hW':=hW;obtain⟨p,q,hA0,hV,rfl,hfz,hnd⟩:=hW;have hA:DataW.TrodAll enc Tryz.prog W 0 (fun _=>true) true Tryz.f4.params.toList args.toList ds p:=hA0;rw[Tryz.params4] at hA hval;obtain⟨v0,vs0,d0,ds0,p0,q0,hargs,rfl,rfl,h0,r0⟩:=trodAll_cons hA;obtain⟨v1,vs1,d1,ds1,p1,q1,rfl,rfl,rfl,h1,r1⟩:=trodAll_cons r0;obtain⟨rfl,rfl,rfl⟩:=trodAll_nil r1;obtain rfl:args=#[v0,v1]:=by cases args;simp_all
 obtain⟨rfl,rfl⟩:=trodVars_none hV;obtain⟨y0,x0,rfl,hx0,ix0⟩:=Zbf h0 (hval 0 _ v0 rfl rfl);obtain⟨y1,x1,rfl,hx1,ix1⟩:=ZbX h1 (hval 1 _ v1 rfl rfl);refine(Zd1 y0 x0 y1 x1 W (Jf hL) hx0 ix0 hx1 ix1).mono fun e W' ⟨he,hg⟩=>?_
 subst he;exact⟨_,rfl,ZbZ hW' rfl rfl rfl rfl rfl (Jg (by kernel_rfl)) hg⟩
theorem row : Rows.ShowLinesSaid :=
 OpenClaim.holds_of_wide 4 Tryz.f4 rfl rfl rfl rfl rfl rfl rfl ⟨rfl,rfl,rfl,rfl,rfl⟩ rfl rfl rfl rfl rfl (by kernel_rfl) Tryz.func4 (by kernel_rfl)
  (of_decide_eq_true (by kernel_rfl)) (by unfold Func.isWrapper;first | (rw[if_pos (by decide +kernel)];kernel_rfl) | (rw[if_neg (by decide +kernel)];exact⟨rfl,rfl⟩))
  (fun os started H enc _=>lifted os started H enc)
theorem proved : Rows.ShowLinesCardSaid :=
 Claim7.holds_tied_plain_at .later [] [.data,.data,.data] true Rows.showLinesCard.stood.harness false row (fun _ h=>by cases h) (by kernel_rfl) (fun _ h=>by cases h) showLines_row_tie rfl ⟨rfl,rfl⟩ (by kernel_rfl) rfl
  (fun f fn hf hfn=>by
   obtain rfl:f=4:=Option.some.inj ((show Tryz.prog.funcNamed "kurgan/kurganlaw34.ShowLines" = some 4 by kernel_rfl).symm.trans hf) |>.symm
   obtain rfl:fn=Tryz.f4:=(Option.some.inj (Tryz.func4.symm.trans hfn)).symm;exact⟨by kernel_rfl,fun j t ht=>by
    rw[Tryz.params4] at ht;have hm:t∈[25,41]:=by simpa using Array.mem_of_getElem? ht
    have hall:([25,41].all fun u => !Tryz.prog.wantsStandIn u)=true:=by kernel_rfl
    exact(show Tryz.prog.wantsStandIn t=false by simpa using List.all_eq_true.1 hall t hm)⟩)
  (by kernel_rfl)
end Go.Proofs.YtmojhhlcocjoaaaGreatDoor.showLines
