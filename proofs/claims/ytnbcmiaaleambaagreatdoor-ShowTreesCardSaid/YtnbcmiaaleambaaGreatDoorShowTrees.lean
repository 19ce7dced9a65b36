/- ShowTrees: of all problems, records and depths the lines are told, or why there are none. -/
import Derived.Test.YtnbcmiaaleambaaGreatDoorShowTreesP10
import Derived.Test.YtnbcmiaaleambaaGreatDoorRows
import Derived.Test.YtnbcmiaaleambaaGreatDoorCards
import Derived.Test.YtnbcmiaaleambaaGreatDoorTie
import Derived.Test.YtnbcmiaaleambaaGreatDoorChecked
set_option maxRecDepth 100000
set_option maxHeartbeats 16000000
set_option linter.all false
namespace Go.Proofs.YtnbcmiaaleambaaGreatDoor.showTrees
section
open Go.RowKit Go.ChangeShapes Go.WideShapes Go.ChangeAt Go.Deep
structure StT (w:World)(vs:List Value)(j:InstP)(wr:World) : Prop where
 x:Ext w wr
 b:Blk wr w.heap.size 25 (List.toArray vs)
 r:RInst wr vs j
theorem StT.ext {w:World}{vs:List Value}{j:InstP}{wr wr':World}(h:StT w vs j wr)(x:Ext wr wr') : StT w vs j wr':=⟨h.x.tr x,h.b.ext x,h.r.ext x⟩
theorem ZiT {wb w9:World}(h:w9=wb.alloc (.cells #[.int .i64 2,.slice none 0 0,.int .i64 1,.slice none 0 0] 38)) : RdR w9 38 (some ⟨wb.heap.size,0,none⟩) [⟨2,[]⟩,⟨1,[]⟩]:=by
 subst h;refine⟨[.int .i64 2,.slice none 0 0,.int .i64 1,.slice none 0 0],.blk (.new rfl),rfl,fun i r hr=>?_⟩
 match i,hr with
 | 0,hr =>
  obtain rfl:(⟨2,[]⟩:Rec)=r:=by simpa using hr
  exact⟨none,0,rfl,rfl,OwI.nil _ _⟩
 | 1,hr =>
  obtain rfl:(⟨1,[]⟩:Rec)=r:=by simpa using hr
  exact⟨none,0,rfl,rfl,OwI.nil _ _⟩
 | i+2,hr=>simp at hr
theorem ZiU (i j:InstP)(hj:j=Vr i)(vs:List Value)(s:List UInt8)(d:Int)(w:World)(hT:Tab w/\Ten w)(H:RInst w vs i)(ls:s.length<=maxLen) :
  Calls Tryz.prog 3 #[.agg (List.toArray vs),.string ⟨s.toArray⟩,.int .i64 d] w fun e w'=>e=.returned (.bool true)/\Ext w w':=by
 have CP:=fun(W:World) (x:Ext w W)=>Zi9 hj vs W (H.ext x)
 have hI:InstInts j:=hj ▸ H.ints.copy;have LW:j.weight.length<=70:=by have:=(ZaK i).1;rw[<-hj] at this;omega
 have LV:j.value.length<=70:=by have:=(ZaK i).2.1;rw[<-hj] at this;omega
 unfold maxLen at ls;have slen:(⟨s.toArray⟩:ByteArray).size=s.length:=by simp[ByteArray.size]
 have KO:=fun(us:List Value) (W:World) (h:RInst W us j)=>Zjy j us W h (by omega) (by omega)
 have RD:=fun(hc:Zk j=0) (hs:s.length<=1000) (us:List Value) (W:World) (h:RInst W us j)=>QJ j us s W h hc hs
 have TREE:=fun(W0:World) (x0:Ext w W0) (W:World) (x:Ext W0 W) (g:Nat) (K:KernI W0 g j) (A:Option Addr) (c:Nat) (rs:List Rec) (H:RecSl W W0.heap.size 51 A c rs) (hl:rs.length<=1000) (hp:∀ r∈rs,r.path.length<=1000)=>ZiG j g A c rs d W0 W x K (hT.1.ext x0) (hT.2.ext x0) H hl hp
 have DTREE:=fun(us:List Value) (W:World) (h:RInst W us j) (hc:Zk j=0) (A:Option Addr) (c:Nat) (rs:List Rec) (hx:RdR W 38 A rs) (hl:rs.length<=1000) (hp:∀ r∈rs,r.path.length<=1000)=>ZeF j us A c rs d W h hc hx hl hp
 have OKL:Hid (Zk j=0->∀ l:List Rec,YF (Zo j) (ZB j) s=some l->(∀ r∈l,r.path.length<=1000)/\l.length=s.length):=Hd fun hc l h=>by
  obtain⟨h1,h2⟩:=Zbw hc h;exact⟨fun r hr=>by have:=(XT hc).len _ (h1 r hr).1.1;have:=Wo hc;omega,h2⟩
 have SH:=fun(W:World) (x:Ext w W)=>Zg8 W (hT.2.ext x)
 clear hj;obtain⟨A,a,B,b,C,cc,rfl,-,-,-⟩:=H;have B1:Hid (Blk (w.alloc (.cells #[.int .i64 i.kind,.int .i64 i.n,.int .i64 i.cap,.slice A i.weight.length a,.slice B i.value.length b,.slice C i.cost.length cc] 25)) w.heap.size 25 #[.int .i64 i.kind,.int .i64 i.n,.int .i64 i.cap,.slice A i.weight.length a,.slice B i.value.length b,.slice C i.cost.length cc]):=.new rfl;replace CP:=Hd CP;replace KO:=Hd KO;replace RD:=Hd RD;replace TREE:=Hd TREE;replace DTREE:=Hd DTREE;replace SH:=Hd SH;clear LW LV;go_enter Tryz.func3,Tryz.ntmps3;go_wp2_with (fail);refine(CP.out _ XI).mono ?_;rintro e w2 ⟨us,rfl,O2,x2⟩;obtain⟨A3,l3,d3,A4,l4,d4,A5,l5,d5,rfl⟩:=O2.six;have X2:=Ext.tr (a:=w) XI x2;have B2:=B1.out.ext x2;obtain⟨X3,B3,O3⟩:=ZhH B2 X2 O2;have t0:=B2.c0;have t1:=B2.c1;have t2:=B2.c2;have t3:=B2.c3;have t4:=B2.c4;have t5:=B2.c5;have f0:=B2.free 0;have f1:=B2.free 1;have f2:=B2.free 2;have f3:=B2.free 3;have f4:=B2.free 4;have f5:=B2.free 5;have S3:Hid (StT w [.int .i64 j.kind,.int .i64 j.n,.int .i64 j.cap,.slice A3 l3 d3,.slice A4 l4 d4,.slice A5 l5 d5] j ((((((w2.setCell ⟨w.heap.size,0,none⟩ (.int .i64 j.kind)).setCell ⟨w.heap.size,1,none⟩ (.int .i64 j.n)).setCell ⟨w.heap.size,2,none⟩ (.int .i64 j.cap)).setCell ⟨w.heap.size,3,none⟩ (.slice A3 l3 d3)).setCell ⟨w.heap.size,4,none⟩ (.slice A4 l4 d4)).setCell ⟨w.heap.size,5,none⟩ (.slice A5 l5 d5))):=Hd ⟨X3,B3,O3.rinst hI⟩;clear O2 x2 X2 B2 B1 CP X3 B3 O3;go_upto_region 2 with(fail);generalize ((((((w2.setCell ⟨w.heap.size,0,none⟩ (.int .i64 j.kind)).setCell ⟨w.heap.size,1,none⟩ (.int .i64 j.n)).setCell ⟨w.heap.size,2,none⟩ (.int .i64 j.cap)).setCell ⟨w.heap.size,3,none⟩ (.slice A3 l3 d3)).setCell ⟨w.heap.size,4,none⟩ (.slice A4 l4 d4)).setCell ⟨w.heap.size,5,none⟩ (.slice A5 l5 d5))=w3 at *;clear t0 t1 t2 t3 t4 t5 f0 f1 f2 f3 f4 f5;go_wp2_with (fail);refine(ZiF none 0 0 0 _).mono ?_;rintro e w9 ⟨rfl,x9⟩;have S9:=Hd (S3.out.ext (Ext.tr XI x9));clear x9 S3
 by_cases hs:s.length<=200
 ·have e1:¬(s.length:Int)>200:=by omega
  have hs1:Hid (s.length<=200):=hs;go_wp2_with (fail);refine(SH.out _ (S9.out.x.tr XI)).mono ?_;rintro e wa ⟨rfl,xa⟩;have Sa:=Hd (S9.out.ext (Ext.tr XI xa));clear xa S9;have t0:=Sa.out.b.c0;have t1:=Sa.out.b.c1;have t2:=Sa.out.b.c2;have t3:=Sa.out.b.c3;have t4:=Sa.out.b.c4;have t5:=Sa.out.b.c5;go_wp2_with (fail);refine(KO.out _ _ (Sa.out.r.ext XI)).mono ?_;rintro e wb ⟨hk,xb⟩;have Sb:=Hd (Sa.out.ext (Ext.tr XI xb));clear xb Sa t0 t1 t2 t3 t4 t5 KO;rcases hk with⟨hc,rfl⟩ | ⟨hc,g,rfl,K⟩
  ·have e2:(Zk j != 0)=true:=by simpa using hc
   clear hc RD TREE DTREE OKL;generalize Zk j=er at *;go_wp2_with (fail);go_ret;exact⟨rfl,Sb.out.x.tr XI⟩
  ·have RD2:=Hd (RD.out hc (by omega) [.int .i64 j.kind,.int .i64 j.n,.int .i64 j.cap,.slice A3 l3 d3,.slice A4 l4 d4,.slice A5 l5 d5])
   have OK2:=Hd (OKL.out hc);replace hc:=Hd hc;replace K:=Hd K;clear RD OKL;have t0:=Sb.out.b.c0;have t1:=Sb.out.b.c1;have t2:=Sb.out.b.c2;have t3:=Sb.out.b.c3;have t4:=Sb.out.b.c4;have t5:=Sb.out.b.c5;go_wp2_with (fail);refine(RD2.out _ (Sb.out.r.ext XI)).mono ?_;intro e wc hpost;clear t0 t1 t2 t3 t4 t5
   cases hm:YF (Zo j) (ZB j) s with
   | none =>
    rw[hm] at hpost;obtain⟨pl,er,rfl,hne,xc⟩:=hpost;have e2:(er != 0)=true:=by simpa using hne
    have yc:=Hd (Ext.tr (a:=wb) XI xc);have Sc0:=Hd (Sb.out.ext yc.out);have K0:=K.out.ext yc.out;clear xc hne hm RD2 OK2 K Sb yc;go_upto_region 11 with(fail);have K:=K0.ext (Ext.alloc (Ext.rf wc) (.cells #[.int .i64 2,.slice none 0 0,.int .i64 1,.slice none 0 0] 38));have Sc:=Hd (Sc0.out.ext (Ext.alloc (Ext.rf wc) (.cells #[.int .i64 2,.slice none 0 0,.int .i64 1,.slice none 0 0] 38)));obtain⟨RA,hRA⟩:∃ RA:Option Addr,some ⟨wc.heap.size,0,none⟩=RA:=⟨_,rfl⟩;have hx:=ZiT (wb:=wc) rfl;rw[hRA] at hx ⊢;replace hx:=Hd hx;generalize (wc.alloc (.cells #[.int .i64 2,.slice none 0 0,.int .i64 1,.slice none 0 0] 38))=we0 at *;clear K0 Sc0 hRA;obtain⟨wc,rfl⟩:∃ wq:World,we0=wq:=⟨_,rfl⟩;obtain⟨rc,hrc⟩:∃ rc:Nat,rc=2:=⟨_,rfl⟩;obtain⟨rs,hrs⟩:∃ rs:List Rec,rs=[⟨2,[]⟩,⟨1,[]⟩]:=⟨_,rfl⟩;have hl:rs.length<=200:=by rw[hrs];simp
    have hp:Hid (∀ r∈rs,r.path.length<=1000):=Hd (by rw[hrs];intro r hr;simp at hr;rcases hr with rfl | rfl<;>simp);have TO:Hid (∀ W,Ext we0 W->Calls Tryz.prog 9 #[.slice RA 2 2] W (Jm rs W)):=Hd fun W x=>by
     have:=ZeG RA 2 rs W (by rw[hrs];exact hx.out.ext x) hl hp.out;rw[hrs] at this ⊢;exact this
    replace K:=Hd K;go_wp2_with (fail);refine(TO.out _ XI).mono ?_;rintro e wd ⟨TA,tc,rfl,rT,xd⟩;have yd:=Hd (Ext.tr (a:=we0) XI xd);have TR:=Hd (TREE.out we0 Sc.out.x _ yd.out _ K.out TA tc rs (rT.more (by first | exact Nat.le_refl _ | simp)) (by omega) hp.out);have DR:=Hd (fun(W:World) (x:Ext we0 W)=>DTREE.out _ W (Sc.out.r.ext x) hc.out RA rc rs (by rw[hrs];exact hx.out.ext x) (by omega) hp.out);unfold YQ at TR DR;rw[show rs.length=2 by rw[hrs];rfl,hrc] at DR;rw[show rs.length=2 by rw[hrs];rfl] at TR;rw[show rs.length=2 by rw[hrs];rfl];generalize UV j rs d=TT at *;obtain⟨TX,TE⟩:=TT;clear rT xd TREE DTREE hx;go_wp2_with (fail);refine TR.out.mono ?_;rintro e we ⟨rfl,xe⟩;have Se:=Hd (Sc.out.ext xe);have ye:=Hd xe;clear xe TR yd;have t0:=Se.out.b.c0;have t1:=Se.out.b.c1;have t2:=Se.out.b.c2;have t3:=Se.out.b.c3;have t4:=Se.out.b.c4;have t5:=Se.out.b.c5;go_wp2_with (fail);refine(DR.out _ (ye.out.tr XI)).mono ?_;rintro e wf ⟨rfl,xf⟩;have Xf:=Hd (Se.out.x.tr (Ext.tr XI xf));clear xf t0 t1 t2 t3 t4 t5 DR;have e5:(TE==TE)=true:=by simp
    go_wp2_with (fail);go_ret;exact⟨by simp,Xf.out.tr XI⟩
   | some rs =>
    rw[hm] at hpost;obtain⟨RA,rc,rfl,r5,xc⟩:=hpost;obtain⟨pm,lm⟩:=OK2.out rs hm;have hl:rs.length<=200:=by have:=hs1.out;omega
    have yc:=Hd (Ext.tr (a:=wb) XI xc);have Sc:=Hd (Sb.out.ext yc.out);have hx:Hid (RdR wc 38 RA rs):=Hd (by
     obtain⟨vs,h1,h2⟩:=r5;exact⟨vs,h1.read,h2.more (Nat.zero_le _)⟩)
    have hp:Hid (∀ r∈rs,r.path.length<=1000):=Hd pm;have K:=K.out.ext yc.out;have TO:Hid (∀ W,Ext wc W->Calls Tryz.prog 9 #[.slice RA rs.length rc] W (Jm rs W)):=Hd fun W x=>ZeG RA rc rs W (hx.out.ext x) hl hp.out
    obtain⟨rn,hrn⟩:∃ rn,rs.length=rn:=⟨_,rfl⟩;rw[hrn] at hl TO ⊢;clear xc hm RD2 OK2 Sb yc r5 pm lm;replace K:=Hd K;go_wp2_with (fail);refine(TO.out _ XI).mono ?_;rintro e wd ⟨TA,tc,rfl,rT,xd⟩;have yd:=Hd (Ext.tr (a:=wc) XI xd);have TR:=Hd (TREE.out wc Sc.out.x _ yd.out _ K.out TA tc rs (rT.more (by first | exact Nat.le_refl _ | simp)) (by omega) hp.out);have DR:=Hd (fun(W:World) (x:Ext wc W)=>DTREE.out _ W (Sc.out.r.ext x) hc.out RA rc rs (hx.out.ext x) (by omega) hp.out);unfold YQ at TR DR;rw[hrn] at TR DR;rw[hrn];generalize UV j rs d=TT at *;obtain⟨TX,TE⟩:=TT;clear rT xd TREE DTREE hx;go_wp2_with (fail);refine TR.out.mono ?_;rintro e we ⟨rfl,xe⟩;have Se:=Hd (Sc.out.ext xe);have ye:=Hd xe;clear xe TR yd;have t0:=Se.out.b.c0;have t1:=Se.out.b.c1;have t2:=Se.out.b.c2;have t3:=Se.out.b.c3;have t4:=Se.out.b.c4;have t5:=Se.out.b.c5;go_wp2_with (fail);refine(DR.out _ (ye.out.tr XI)).mono ?_;rintro e wf ⟨rfl,xf⟩;have Xf:=Hd (Se.out.x.tr (Ext.tr XI xf));clear xf t0 t1 t2 t3 t4 t5 DR;have e5:(TE==TE)=true:=by simp
    go_wp2_with (fail);go_ret;exact⟨by simp,Xf.out.tr XI⟩
 ·have e1:(s.length:Int)>200:=by omega
  clear hs TREE DTREE OKL RD KO;go_wp2_with (fail);refine(SH.out _ (S9.out.x.tr XI)).mono ?_;rintro e wa ⟨rfl,xa⟩;have Sa:=Hd (S9.out.ext (Ext.tr XI xa));clear xa S9;go_wp2_with (fail);refine(SH.out _ (Sa.out.x.tr XI)).mono ?_;rintro e wb ⟨rfl,xb⟩;have Xb:=Hd (Sa.out.x.tr (Ext.tr XI xb));clear xb Sa;go_wp2_with (fail);go_ret;exact⟨rfl,Xb.out.tr XI⟩
theorem Zkk (vs:List Value)(i:InstP)(s:List UInt8)(d:Int)(w:World)(hT:Tab w/\Ten w)(H:RInst w vs i)(_:ZhB i)(ls:s.length<=maxLen)(_:-9223372036854775808<=d/\d<=9223372036854775807) :
  Calls Tryz.prog 3 #[.agg (List.toArray vs),.string ⟨s.toArray⟩,.int .i64 d] w fun e w'=>e=.returned (.bool true)/\Ext w w':=ZiU i (Vr i) rfl vs s d w hT H ls
theorem lifted (os:Os)(started:os.Started)(H:Type)(enc:TypeId×Value->H) :
  ReturnsInHanded {} Tryz.checked os 3 .any (fun w args=>(Rows.showTreesSpec.pre enc Tryz.prog Tryz.f3 Rows.showTreesRow.domain false w args/\laidMetH Tryz.prog Zhs w)/\sizedMet enc Tryz.prog Tryz.f3 (OpenSpec.ofChange Rows.showTreesSpec) false w args) (Rows.showTreesSpec.post enc Tryz.prog Tryz.f3 false true false false):=by
 refine returnsInHanded_of_change_and (C:=Tryz.checked) (X:=fun w _=>laidMetH Tryz.prog Zhs w) (fun _ _ _ hh h=>h.of_heap hh) own started (by kernel_rfl) Tryz.func3
  (ChangeSpec.witness_shaped (enc:=enc) (C:=Tryz.checked) (os:=os) (X:=fun w _=>laidMetH Tryz.prog Zhs w) false (World.laidAll Tryz.prog os Zhs) #[.agg #[.int .i64 0,.int .i64 0,.int .i64 0,.slice none 0 0,.slice none 0 0,.slice none 0 0],.string ⟨#[]⟩,.int .i64 0] 8 (World.laidAll_os _ _ _)
   (World.shaped_of_ZipB (by kernel_rfl) (by kernel_rfl)) (by kernel_rfl) (by kernel_rfl) (by kernel_rfl)
   (by rw[MakeChecks.laidMetH_plain _ _ _ (by kernel_rfl)];exact laidMet_laidAll _ (by kernel_rfl) (by kernel_rfl))) ?_
 intro W base args ds gs before hval0 hW _ _ hL _;have hval:∀ (j:Nat) t v,Tryz.f3.params[j]?=some t->args[j]?=some v->Value.okWide Tryz.prog W .any base t v:=hval0;have hW':=hW;obtain⟨p,q,hA0,hV,rfl,hfz,hnd⟩:=hW;have hA:DataW.TrodAll enc Tryz.prog W 0 (fun _=>true) true Tryz.f3.params.toList args.toList ds p:=hA0;rw[Tryz.params3] at hA hval;obtain⟨v0,vs0,d0,ds0,p0,q0,hargs,rfl,rfl,h0,r0⟩:=trodAll_cons hA;obtain⟨v1,vs1,d1,ds1,p1,q1,rfl,rfl,rfl,h1,r1⟩:=trodAll_cons r0;obtain⟨v2,vs2,d2,ds2,p2,q2,rfl,rfl,rfl,h2,r2⟩:=trodAll_cons r1;obtain⟨rfl,rfl,rfl⟩:=trodAll_nil r2;obtain rfl:args=#[v0,v1,v2]:=by cases args;simp_all
 obtain⟨rfl,rfl⟩:=trodVars_none hV;obtain⟨y0,x0,rfl,hx0,ix0⟩:=Zgr h0 (hval 0 _ v0 rfl rfl);obtain⟨x1,rfl,lx1⟩:=ZiR h1 (hval 1 _ v1 rfl rfl);obtain⟨x2,rfl,rfl,rfl,w2⟩:=open_int Tryz.underlying3 (hval 2 _ v2 rfl rfl) h2;refine(Zkk y0 x0 x1 x2 W (Zc8 hL) hx0 ix0 lx1 (Zht w2)).mono fun e W' ⟨he,hg⟩=>?_
 subst he;exact⟨_,rfl,Zhu hW' rfl rfl rfl rfl rfl (Zc9 (by kernel_rfl)) hg⟩
theorem row : Rows.ShowTreesSaid :=
 OpenClaim.holds_of_wide 3 Tryz.f3 rfl rfl rfl rfl rfl rfl rfl ⟨rfl,rfl,rfl,rfl,rfl⟩ rfl rfl rfl rfl rfl (by kernel_rfl) Tryz.func3 (by kernel_rfl)
  (of_decide_eq_true (by kernel_rfl)) (by unfold Func.isWrapper;first | (rw[if_pos (by decide +kernel)];kernel_rfl) | (rw[if_neg (by decide +kernel)];exact⟨rfl,rfl⟩))
  (fun os started H enc _=>lifted os started H enc)
theorem proved : Rows.ShowTreesCardSaid :=
 Claim7.holds_tied_plain_at .later [] [.data,.data,.data] true Rows.showTreesCard.stood.harness false row (fun _ h=>by cases h) (by kernel_rfl) (fun _ h=>by cases h) showTrees_row_tie rfl ⟨rfl,rfl⟩ (by kernel_rfl) rfl
  (fun f fn hf hfn=>by
   obtain rfl:f=3:=Option.some.inj ((show Tryz.prog.funcNamed "kurgan/kurganlaw34.ShowTrees" = some 3 by kernel_rfl).symm.trans hf) |>.symm
   obtain rfl:fn=Tryz.f3:=(Option.some.inj (Tryz.func3.symm.trans hfn)).symm;exact⟨by kernel_rfl,fun j t ht=>by
    rw[Tryz.params3] at ht;have hm:t∈[25,9,3]:=by simpa using Array.mem_of_getElem? ht
    have hall:([25,9,3].all fun u => !Tryz.prog.wantsStandIn u)=true:=by kernel_rfl
    exact(show Tryz.prog.wantsStandIn t=false by simpa using List.all_eq_true.1 hall t hm)⟩)
  (by kernel_rfl)
end
end Go.Proofs.YtnbcmiaaleambaaGreatDoor.showTrees
