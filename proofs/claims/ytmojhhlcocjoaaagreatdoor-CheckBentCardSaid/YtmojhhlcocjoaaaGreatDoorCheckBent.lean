/- packed and squeezed by programs (see wip/) -/
import Derived.Test.YtmojhhlcocjoaaaGreatDoorCheckBentP10
import Derived.Test.YtmojhhlcocjoaaaGreatDoorRows
import Derived.Test.YtmojhhlcocjoaaaGreatDoorCards
import Derived.Test.YtmojhhlcocjoaaaGreatDoorTie
import Derived.Test.YtmojhhlcocjoaaaGreatDoorChecked
set_option maxRecDepth 100000
set_option maxHeartbeats 16000000
set_option linter.unusedVariables false
set_option linter.unusedSimpArgs false
namespace Go.Proofs.YtmojhhlcocjoaaaGreatDoor.checkBent
open Go.RowKit Go.ChangeShapes Go.WideShapes Go.ChangeAt Go.Deep
structure StB (w:World)(vs:List Value)(j:InstP)(wr:World) : Prop where
 x:Ext w wr
 b:Blk wr w.heap.size 25 (List.toArray vs)
 r:RInst wr vs j
theorem StB.ext {w:World}{vs:List Value}{j:InstP}{wr wr':World}(h:StB w vs j wr)(x:Ext wr wr') : StB w vs j wr':=⟨h.x.tr x,h.b.ext x,h.r.ext x⟩
theorem Zfi {i:InstP}(h:ZcQ i=true) : Zh i=0/\Uy i 0=0:=by
 obtain⟨h1,h2⟩:=ZfK h;refine⟨h1,?_⟩;unfold Uy;rw[if_neg (by simpa using h1),if_neg (by simp),if_neg];rintro (⟨h3,h4⟩ | ⟨h3,h4⟩)<;>omega
theorem ZhV {D:Nat}{kids:List Int->List Int}{bound:List Int->Int}{cost:Int}{f:Nat}{p:List Int} : Z6 D kids bound cost (f+1) p≠[]:=by
 unfold Z6;split
 ·simp
 split<;>simp
theorem ZhW (i j:InstP)(hj:j=VH i)(vs:List Value)(at_ by_:Int)(w:World)(hT:Tab w)(H:RInst w vs i)(ha:-9223372036854775808<=at_/\at_<=9223372036854775807)(hby:0<=by_/\by_<=255) :
  Calls Tryz.prog 6 #[.agg (List.toArray vs),.int .i64 at_,.int .u8 by_] w fun e w'=>e=.returned (.bool true)/\Ext w w':=by
 have CP:=fun(W:World) (x:Ext w W)=>Zia hj vs W (H.ext x)
 have hI:InstInts j:=hj ▸ H.ints.copy;have LW:j.weight.length<=1000000000:=by have:=(Qz i).1;rw[<-hj] at this;omega
 have LV:j.value.length<=1000000000:=by have:=(Qz i).2.1;rw[<-hj] at this;omega
 have LV2:j.value.length<=70:=by have:=(Qz i).2.1;rw[<-hj] at this;omega
 have CK:Hid (∀ (ps:List Int) (v:Int) (tr:Wd) (_:tr.length<=1000) (us:List Value) (A:Option Addr) (a:Nat) (W:World),RInst W us j->RdI W A ps->ps.length<=a->a<=maxLen->Calls Tryz.prog 25 #[.agg (List.toArray us),.agg #[.int .i64 v,.slice A ps.length a,.string ⟨tr.toArray⟩]] W fun e w'=>e=.returned (.int .i64 (Xm j ps v tr))/\Ext W w'):=fun ps v tr ht us A a W h1 h2 h3 h4=>QM j us v A a ps tr W h1 LW LV h2 h3 h4 ht
 have CO:Hid (∀ (ps:List Int) (us:List Value) (A:Option Addr) (a:Nat) (W:World),RInst W us j->RdI W A ps->Calls Tryz.prog 27 #[.agg (List.toArray us),.slice A ps.length a] W fun e w'=>e=.returned (.tuple #[.int .i64 (ZJ j ps).1,.int .i64 (ZJ j ps).2])/\Ext W w'):=fun ps us A a W h1 h2=>Zgh j us A a ps W h1 h2
 have OF:Hid (∀ (ps:List Int) (_:(ZJ j ps).2=0) (us:List Value) (W:World),RInst W us j->Calls Tryz.prog 26 #[.agg (List.toArray us),.int .i64 (ZJ j ps).1] W fun e w'=>e=.returned (.int .i64 (ofG j (ZJ j ps).1))/\Ext W w'):=fun ps h us W h1=>Zio j us W (ZJ j ps).1 h1 (Zd6 h) (fun hk=>ZhE h hk)
 have BE:Hid (∀ (_:Zh j=0) (us:List Value) (W:World),RInst W us j->Calls Tryz.prog 28 #[.agg (List.toArray us),.slice none 0 0] W fun e w'=>e=.returned (.int .i64 (Xx j))/\Ext W w'):=fun h us W h1=>Ze5 j us W h1 h
 have WO:Hid (∀ (_:Zh j=0) (_:j.kind=1/\j.n<=7\/j.kind≠1/\j.n<=4) (v:Int) (us:List Value) (W:World),RInst W us j->Calls Tryz.prog 24 #[.agg (List.toArray us),.int .i64 v] W fun e w'=>e=.returned (.string ⟨(Z6 (Zi j) (Zo j) (Zk j) v (Zi j+1) []).toArray⟩)/\Ext W w'):=fun h h2 v us W h1=>ZgA j us v W h1 h h2
 have WL:Hid (∀ (_:Zh j=0) (_:j.kind=1/\j.n<=7\/j.kind≠1/\j.n<=4) (v:Int),(Z6 (Zi j) (Zo j) (Zk j) v (Zi j+1) []).length<=1000):=fun h h2 v=>by
  have:=(ZdG h h2 v).1;omega
 have EX:=Hd (fun(us:List Value) (W:World) (h:RInst W us j) (x:Ext w W)=>ZiM j us W h LW LV (hT.ext x));have FE:Hid (∀ (us:List Value) (W:World),RInst W us j->Calls Tryz.prog 23 #[.agg (List.toArray us)] W fun e w'=>e=.returned (.bool (ZcQ j))/\Ext W w'):=fun us W h1=>ZhS j us W h1
 have FY:Hid (ZcQ j=true->(Zh j=0/\(j.kind=1/\j.n<=7\/j.kind≠1/\j.n<=4))/\Uy j 0=0):=fun h=>⟨ZfK h,(Zfi h).2⟩
 obtain⟨fb,hfb⟩:∃ fb,Hid (ZcQ j=fb):=⟨_,rfl⟩;rw[hfb.out] at FE FY;clear hj LW LV hfb hT;obtain⟨A,a,B,b,C,c,rfl,-,-,-⟩:=H;have B1:Hid (Blk (w.alloc (.cells #[.int .i64 i.kind,.int .i64 i.n,.int .i64 i.cap,.slice A i.weight.length a,.slice B i.value.length b,.slice C i.cost.length c] 25)) w.heap.size 25 #[.int .i64 i.kind,.int .i64 i.n,.int .i64 i.cap,.slice A i.weight.length a,.slice B i.value.length b,.slice C i.cost.length c]):=.new rfl;replace CP:=Hd CP;go_enter Tryz.func6,Tryz.ntmps6;go_wp2_with (fail);refine(CP.out _ (by(repeat (first | assumption | exact Ext.rf _ | apply Ext.drew | apply Ext.drewN | apply Ext.alloc)))).mono ?_;rintro e w2 ⟨us,rfl,O2,x2⟩;obtain⟨A3,l3,d3,A4,l4,d4,A5,l5,d5,rfl⟩:=O2.six;have X2:=Ext.tr (a:=w) (by(repeat (first | assumption | exact Ext.rf _ | apply Ext.drew | apply Ext.drewN | apply Ext.alloc))) x2;have B2:=B1.out.ext x2;obtain⟨X3,B3,O3⟩:=Zha B2 X2 O2;have R3:=Hd (O3.rinst hI);have t0:=B2.c0;have t1:=B2.c1;have t2:=B2.c2;have t3:=B2.c3;have t4:=B2.c4;have t5:=B2.c5;have f0:=B2.free 0;have f1:=B2.free 1;have f2:=B2.free 2;have f3:=B2.free 3;have f4:=B2.free 4;have f5:=B2.free 5;replace X3:=Hd X3;replace B3:=Hd B3;clear O2 x2 X2 B2 O3;go_upto_region 2 with(fail);generalize ((((((w2.setCell ⟨w.heap.size,0,none⟩ (.int .i64 j.kind)).setCell ⟨w.heap.size,1,none⟩ (.int .i64 j.n)).setCell ⟨w.heap.size,2,none⟩ (.int .i64 j.cap)).setCell ⟨w.heap.size,3,none⟩ (.slice A3 l3 d3)).setCell ⟨w.heap.size,4,none⟩ (.slice A4 l4 d4)).setCell ⟨w.heap.size,5,none⟩ (.slice A5 l5 d5))=w3 at *;clear t0 t1 t2 t3 t4 t5 f0 f1 f2 f3 f4 f5;have S7:Hid (StB w [.int .i64 j.kind,.int .i64 j.n,.int .i64 j.cap,.slice A3 l3 d3,.slice A4 l4 d4,.slice A5 l5 d5] j w3):=⟨X3.out,B3.out,R3.out⟩;clear B3 R3 X3;go_wp2_with (fail);refine(Za7 _).mono ?_;rintro e w8 ⟨rfl,x8⟩;have S8:=Hd (S7.out.ext (Ext.tr (by(repeat (first | assumption | exact Ext.rf _ | apply Ext.drew | apply Ext.drewN | apply Ext.alloc))) x8));clear x8 S7;have t0:=S8.out.b.c0;have t1:=S8.out.b.c1;have t2:=S8.out.b.c2;have t3:=S8.out.b.c3;have t4:=S8.out.b.c4;have t5:=S8.out.b.c5;go_wp2_with (fail);refine(FE.out _ _ (S8.out.r.ext (by(repeat (first | assumption | exact Ext.rf _ | apply Ext.drew | apply Ext.drewN | apply Ext.alloc))))).mono ?_;rintro e w9 ⟨rfl,x9⟩;have S9:=Hd (S8.out.ext (Ext.tr (by(repeat (first | assumption | exact Ext.rf _ | apply Ext.drew | apply Ext.drewN | apply Ext.alloc))) x9));clear x9 S8 FE t0 t1 t2 t3 t4 t5
 cases fb with
 | false =>
  go_wp2_with (fail);refine(Za7 _).mono ?_;rintro e wz ⟨rfl,xz⟩;have Xz:=Hd (S9.out.x.tr (Ext.tr (by(repeat (first | assumption | exact Ext.rf _ | apply Ext.drew | apply Ext.drewN | apply Ext.alloc))) xz));clear xz;go_wp2_with (fail);go_ret;exact⟨rfl,Xz.out.tr (by(repeat (first | assumption | exact Ext.rf _ | apply Ext.drew | apply Ext.drewN | apply Ext.alloc)))⟩
 | true =>
  obtain⟨⟨hc,hf⟩,htk⟩:=FY.out rfl;rw[htk] at EX;replace BE:=Hd (BE.out hc);replace WO:=Hd (WO.out hc hf);replace WL:=Hd (WL.out hc hf);have HC:=Hd hc;clear FY hc hf htk;have t0:=S9.out.b.c0;have t1:=S9.out.b.c1;have t2:=S9.out.b.c2;have t3:=S9.out.b.c3;have t4:=S9.out.b.c4;have t5:=S9.out.b.c5;go_wp2_with (fail);refine(EX.out _ _ (S9.out.r.ext (by(repeat (first | assumption | exact Ext.rf _ | apply Ext.drew | apply Ext.drewN | apply Ext.alloc)))) (S9.out.x.tr (by(repeat (first | assumption | exact Ext.rf _ | apply Ext.drew | apply Ext.drewN | apply Ext.alloc))))).mono ?_;intro e wa hp;rcases hp with⟨hne,-⟩ | ⟨-,XA,x9,xc,v9,rfl,rX,aX,lX,mX,xa⟩
  ·exact absurd rfl hne
  have Sa:=Hd (S9.out.ext (Ext.tr (by(repeat (first | assumption | exact Ext.rf _ | apply Ext.drew | apply Ext.drewN | apply Ext.alloc))) xa));obtain⟨hcost,hbest⟩:=ZhT HC.out aX;have hlen:=ZiN HC.out aX;have RX:=Hd rX;clear xa S9 EX t0 t1 t2 t3 t4 t5 aX rX;have OF1:=Hd (OF.out x9 (by rw[hcost]));rw[hcost] at OF1;obtain⟨tr,htr⟩:∃ tr,Hid (Z6 (Zi j) (Zo j) (Zk j) v9 (Zi j+1) []=tr):=⟨_,rfl⟩;obtain⟨vf,hvf⟩:∃ vf,Hid (ofG j v9=vf):=⟨_,rfl⟩;have WT:Xm j x9 vf tr=0:=by
   have h:=Zfg HC.out (x:=x9) (by rw[hcost]);rw[hcost] at h;rw[<-hvf.out,<-htr.out];exact h.2 hbest
  have WL1:=WL.out v9;have WNE:tr≠[]:=by rw[<-htr.out];exact ZhV
  have WO1:=Hd (WO.out v9);rw[htr.out] at WO1 WL1;rw[hvf.out] at OF1;have CK1:=Hd (CK.out x9 vf tr WL1);rw[WT] at CK1;have WNE2:tr.isEmpty=false:=by cases tr<;>simp_all
  have WLP:0<tr.length:=List.length_pos_iff.2 WNE;clear WL WO hcost hbest htr hvf WT WNE;have t0:=Sa.out.b.c0;have t1:=Sa.out.b.c1;have t2:=Sa.out.b.c2;have t3:=Sa.out.b.c3;have t4:=Sa.out.b.c4;have t5:=Sa.out.b.c5;go_wp2_with (fail);refine(WO1.out _ _ (Sa.out.r.ext (by(repeat (first | assumption | exact Ext.rf _ | apply Ext.drew | apply Ext.drewN | apply Ext.alloc))))).mono ?_;rintro e wb ⟨rfl,xb⟩;have Sb:=Hd (Sa.out.ext (Ext.tr (by(repeat (first | assumption | exact Ext.rf _ | apply Ext.drew | apply Ext.drewN | apply Ext.alloc))) xb));have RXb:=Hd (RX.out.ext (Ext.tr (by(repeat (first | assumption | exact Ext.rf _ | apply Ext.drew | apply Ext.drewN | apply Ext.alloc))) xb));clear xb Sa RX WO1 t0 t1 t2 t3 t4 t5;have t0:=Sb.out.b.c0;have t1:=Sb.out.b.c1;have t2:=Sb.out.b.c2;have t3:=Sb.out.b.c3;have t4:=Sb.out.b.c4;have t5:=Sb.out.b.c5;have zb:=Sb.out.b.lt;go_wp2_with (fail);have WSZ:((tr.length:Int)==0)=false:=by rw[beq_eq_false_iff_ne];omega
  go_region_held3 (fun w'=>w'.cell? ⟨w.heap.size,0,none⟩=some (.int .i64 j.kind)/\w'.cell? ⟨w.heap.size,1,none⟩=some (.int .i64 j.n)/\w'.cell? ⟨w.heap.size,2,none⟩=some (.int .i64 j.cap)/\w'.cell? ⟨w.heap.size,3,none⟩=some (.slice A3 l3 d3)/\w'.cell? ⟨w.heap.size,4,none⟩=some (.slice A4 l4 d4)/\w'.cell? ⟨w.heap.size,5,none⟩=some (.slice A5 l5 d5)) (go_keep)
   (first
    | (go_at_call 26;refine(OF1.out _ _ (Sb.out.r.ext (by(repeat (first | assumption | exact Ext.rf _ | apply Ext.drew | apply Ext.drewN | apply Ext.alloc))))).mono ?_;rintro e wx ⟨rfl,xx⟩;have Yx:=Ext.tr (a:=wb) (by(repeat (first | assumption | exact Ext.rf _ | apply Ext.drew | apply Ext.drewN | apply Ext.alloc))) xx;have s0:=Zc Yx zb t0;have s1:=Zc Yx zb t1;have s2:=Zc Yx zb t2;have s3:=Zc Yx zb t3;have s4:=Zc Yx zb t4;have s5:=Zc Yx zb t5)
    | (go_at_call 25;refine(CK1.out _ XA xc _ (Sb.out.r.ext (Ext.tr Yx (by(repeat (first | assumption | exact Ext.rf _ | apply Ext.drew | apply Ext.drewN | apply Ext.alloc))))) (RXb.out.ext (Ext.tr Yx (by(repeat (first | assumption | exact Ext.rf _ | apply Ext.drew | apply Ext.drewN | apply Ext.alloc))))) lX mX).mono ?_;rintro e wy ⟨rfl,xy⟩;have Yy:=Ext.tr (a:=wb) (Ext.tr Yx (by(repeat (first | assumption | exact Ext.rf _ | apply Ext.drew | apply Ext.drewN | apply Ext.alloc)))) xy;have s0:=Zc Yy zb t0;have s1:=Zc Yy zb t1;have s2:=Zc Yy zb t2;have s3:=Zc Yy zb t3;have s4:=Zc Yy zb t4;have s5:=Zc Yy zb t5))
  have Sc:=Hd (Sb.out.ext Yy);have RXc:=Hd (RXb.out.ext Yy);clear Sb RXb CK1 Yx Yy xx xy s0 s1 s2 s3 s4 s5 t0 t1 t2 t3 t4 t5 zb WSZ;go_simp;go_upto_region 9 with(at_builtin;refine Vn _ rfl _ _ rfl wy.heap.size _ x9 XA xc rfl rfl ?_ ?_ ?_ ?_ ?_;(first | exact .new (by simp) | exact .drew (.new (by simp)) | exact .alloc (.new (by simp)) _ | exact .drew (.alloc (.new (by simp)) _) | exact .alloc (.alloc (.new (by simp)) _) _ | exact .drew (.alloc (.alloc (.new (by simp)) _) _) | (repeat (first | assumption | (refine Blk.new ?_;(focus (simp;done))) | apply Blk.drew | apply Blk.drewN | apply Blk.alloc)));(first | exact Nat.le_refl _ | omega | (focus (simp;try omega)));(refine RXc.out.ext ?_;(repeat (first | assumption | exact Ext.rf _ | apply Ext.drew | apply Ext.drewN | apply Ext.alloc)));omega;rintro A7 c7 w7 o7 x7);have y7:=Ext.tr (a:=wy) (by(repeat (first | assumption | exact Ext.rf _ | apply Ext.drew | apply Ext.drewN | apply Ext.alloc))) x7;have Sd:=Hd (Sc.out.ext y7);replace o7:=Hd o7;have y7:=Hd y7;clear x7 RXc;have t0:=Sd.out.b.c0;have t1:=Sd.out.b.c1;have t2:=Sd.out.b.c2;have t3:=Sd.out.b.c3;have t4:=Sd.out.b.c4;have t5:=Sd.out.b.c5;go_wp2_with (fail);refine(OF1.out _ _ (Sd.out.r.ext (by(repeat (first | assumption | exact Ext.rf _ | apply Ext.drew | apply Ext.drewN | apply Ext.alloc))))).mono ?_;rintro e wd ⟨rfl,xd⟩;have Se:=Hd (Sd.out.ext (Ext.tr (by(repeat (first | assumption | exact Ext.rf _ | apply Ext.drew | apply Ext.drewN | apply Ext.alloc))) xd));have Oe:=Hd (o7.out.ext (Ext.tr (by(repeat (first | assumption | exact Ext.rf _ | apply Ext.drew | apply Ext.drewN | apply Ext.alloc))) xd));have Ye:=Hd (y7.out.tr (Ext.tr (by(repeat (first | assumption | exact Ext.rf _ | apply Ext.drew | apply Ext.drewN | apply Ext.alloc))) xd));clear xd Sd o7 y7 t0 t1 t2 t3 t4 t5 OF1;go_upto_region 10 with(fail);have hsz:ByteArray.size ⟨tr.toArray⟩=tr.length:=by simp[ByteArray.size]
  have CV1:=run_bytes_of_string (P:=Tryz.prog) wd 9 52 5 ⟨tr.toArray⟩ Tryz.underlying9 Tryz.underlying52 Tryz.underlying5;rw[hsz] at CV1;obtain⟨cb,hcb⟩:∃ cb,Hid (grownCap wd tr.length 0 5=cb):=⟨_,rfl⟩;rw[hcb.out] at CV1;obtain⟨we,hwe⟩:∃ we,Hid (we=wd.drew.alloc (.cells (bytesRow ⟨tr.toArray⟩ cb) 5 ((bytesRow ⟨tr.toArray⟩ cb).size,(bytesRow ⟨tr.toArray⟩ cb).size+1))):=⟨_,rfl⟩;have BA:BytesAt we wd.heap.size tr:=by rw[hwe.out];exact BytesAt.new wd tr cb _
  have XB:Ext wd we:=by rw[hwe.out];exact((Ext.rf wd).drew).alloc _
  rw[<-hwe.out] at CV1;obtain⟨gb,hgb⟩:∃ gb,Hid (gb=wd.heap.size):=⟨_,rfl⟩;rw[<-hgb.out] at CV1 BA;replace BA:=Hd BA;replace XB:=Hd XB;clear hcb hwe hsz;go_upto_block 0 with(fail);clear CV1;go_cut [12] from 61 (fun t12 wx=>∃ v' y' tr',t12=.int .i64 v'/\Ext wy wx/\OwI wx wy.heap.size A7 c7 y'/\BytesAt wx gb tr'/\y'.length=x9.length/\tr'.length=tr.length)
  case first =>
   have hn1:tr.length<=1000:=WL1;obtain⟨s3,hs3⟩:∃ s3,by_%3=s3:=⟨_,rfl⟩;obtain⟨q,hq⟩:∃ q,by_ / 3=q:=⟨_,rfl⟩;have f1:by_.tmod 3=s3:=by rw[Int.tmod_eq_emod_of_nonneg hby.1,hs3]
   have g1:by_.tdiv 3=q:=by rw[Int.tdiv_eq_ediv_of_nonneg hby.1,hq]
   have hs:s3=0\/s3=1\/s3=2:=by omega
   have q0:0<=q/\q<=85:=by omega
   have g2:IntKind.u8.wrap q=q:=Zbc q0.1 (by omega);have w0:IntKind.u8.wrap 0=0:=by decide
   have w1:IntKind.u8.wrap 1=1:=by decide
   have w2':IntKind.u8.wrap 2=2:=by decide
   obtain⟨ua,h1⟩:∃ ua,IntKind.u64.wrap at_=ua:=⟨_,rfl⟩;have ub:=Zeh at_;rw[h1] at ub;rcases hs with rfl | rfl | rfl
   ·obtain⟨k,hk⟩:∃ k:Nat,ua%(tr.length:Int)=k:=⟨(ua%(tr.length:Int)).toNat,by have:=Int.emod_nonneg ua (show (tr.length:Int)≠0 by omega);omega⟩
    have kn:k<tr.length:=by have:=Int.emod_lt_of_pos ua (show (0:Int)<tr.length by omega);omega
    have h2:IntKind.u64.wrap (tr.length:Int)=tr.length:=VN (by omega) (by omega);have h3:ua.tmod (tr.length:Int)=k:=by rw[Int.tmod_eq_emod_of_nonneg ub.1,hk]
    have h4:IntKind.u64.wrap (k:Int)=k:=VN (by omega) (by omega);have h5:IntKind.i64.wrap (k:Int)=k:=IntWalk.i64_in _ (by omega);have nz:((tr.length:Int)==0)=false:=by rw[beq_eq_false_iff_ne];omega
    have nz2:¬(tr.length:Int)=0:=by omega
    have tne:¬tr=[]:=fun e=>by rw[e] at kn;cases kn
    have kl:(k:Int)<(tr.length:Int):=by omega
    have kcell:=BA.out.2 k _ (List.getElem?_eq_getElem kn);have kc:=kcell.1;have kf:=kcell.2;obtain⟨r,hr⟩:∃ r,q%3=r:=⟨_,rfl⟩;have g3:q.tmod 3=r:=by rw[Int.tmod_eq_emod_of_nonneg q0.1,hr]
    have hr3:r=0\/r=1\/r=2:=by omega
    clear hk kcell;generalize tr[k].toNat=oldb at *;rcases hr3 with rfl | rfl | rfl
    ·go_wp2_with (fail)
     refine wp_region_any (by kernel_rfl) ?_
     change wpAny _ _ _ _ _ _ _ (World.drew _)
     refine Zb (i:=0) (op:=Op.move (Operand.tmp 13)) (t:=52) (d:=some 65) (v:=?_) rfl (by decide +kernel) (by decide +kernel) (by decide +kernel) (fun _ _ _ h=>h) ?_ ?_
     case refine_2=>(intro _;unfold Ze;go_simp;try with_reducible rfl)
     try simp only[lay]
     refine Zb (i:=1) (op:=Op.move (Operand.tmp 1)) (t:=3) (d:=some 66) (v:=?_) rfl (by decide +kernel) (by decide +kernel) (by decide +kernel) (fun _ _ _ h=>h) ?_ ?_
     case refine_2=>(intro _;unfold Ze;go_simp;try with_reducible rfl)
     try simp only[lay]
     refine Zb (i:=2) (op:=Op.convert 3 53 (Operand.tmp 66)) (t:=53) (d:=some 67) (v:=?_) rfl (by decide +kernel) (by decide +kernel) (by decide +kernel) (fun _ _ _ h=>h) ?_ ?_
     case refine_2=>(intro _;unfold Ze;go_simp;try with_reducible rfl)
     try simp only[lay]
     refine Zb (i:=3) (op:=Op.move (Operand.tmp 13)) (t:=52) (d:=some 68) (v:=?_) rfl (by decide +kernel) (by decide +kernel) (by decide +kernel) (fun _ _ _ h=>h) ?_ ?_
     case refine_2=>(intro _;unfold Ze;go_simp;try with_reducible rfl)
     try simp only[lay]
     refine Zb (i:=4) (op:=Op.call { callee:=Callee.builtin Builtin.len,args:=#[Operand.tmp 68],argTypes:=#[52] }) (t:=3) (d:=some 69) (v:=?_) rfl (by decide +kernel) (by decide +kernel) (by decide +kernel) (fun _ _ _ h=>h) ?_ ?_
     case refine_2=>(intro _;unfold Ze;go_simp;try with_reducible rfl)
     try simp only[lay]
     refine Zb (i:=5) (op:=Op.convert 3 53 (Operand.tmp 69)) (t:=53) (d:=some 70) (v:=?_) rfl (by decide +kernel) (by decide +kernel) (by decide +kernel) (fun _ _ _ h=>h) ?_ ?_
     case refine_2=>(intro _;unfold Ze;go_simp;try with_reducible rfl)
     try simp only[lay]
     refine Zb (i:=6) (op:=Op.binOp BinOp.rem 53 (Operand.tmp 67) (Operand.tmp 70) 53) (t:=53) (d:=some 71) (v:=?_) rfl (by decide +kernel) (by decide +kernel) (by decide +kernel) (fun _ _ _ h=>h) ?_ ?_
     case refine_2=>(intro _;unfold Ze;go_simp;try with_reducible rfl)
     try simp only[lay]
     refine Zb (i:=7) (op:=Op.convert 53 3 (Operand.tmp 71)) (t:=3) (d:=some 72) (v:=?_) rfl (by decide +kernel) (by decide +kernel) (by decide +kernel) (fun _ _ _ h=>h) ?_ ?_
     case refine_2=>(intro _;unfold Ze;go_simp;try with_reducible rfl)
     try simp only[lay]
     refine Zb (i:=8) (op:=Op.move (Operand.tmp 2)) (t:=5) (d:=some 73) (v:=?_) rfl (by decide +kernel) (by decide +kernel) (by decide +kernel) (fun _ _ _ h=>h) ?_ ?_
     case refine_2=>(intro _;unfold Ze;go_simp;try with_reducible rfl)
     try simp only[lay]
     refine Zb (i:=9) (op:=Op.binOp BinOp.quo 5 (Operand.tmp 73) (Operand.const (Value.int IntKind.u8 3)) 5) (t:=5) (d:=some 74) (v:=?_) rfl (by decide +kernel) (by decide +kernel) (by decide +kernel) (fun _ _ _ h=>h) ?_ ?_
     case refine_2=>(intro _;unfold Ze;go_simp;try with_reducible rfl)
     try simp only[lay]
     refine Zb (i:=10) (op:=Op.binOp BinOp.rem 5 (Operand.tmp 74) (Operand.const (Value.int IntKind.u8 3)) 5) (t:=5) (d:=some 75) (v:=?_) rfl (by decide +kernel) (by decide +kernel) (by decide +kernel) (fun _ _ _ h=>h) ?_ ?_
     case refine_2=>(intro _;unfold Ze;go_simp;try with_reducible rfl)
     try simp only[lay]
     refine Zb (i:=11) (op:=Op.index 9 (Operand.const (Value.string { data:=#[112,98,108] })) (Operand.tmp 75)) (t:=5) (d:=some 76) (v:=.int .u8 112) rfl (by decide +kernel) (by decide +kernel) (by decide +kernel) (fun _ _ _ h=>h) ?_ ?_
     ·(intro _;unfold Ze;go_simp;rfl)
     try simp only[lay]
     refine Zb (i:=12) (op:=Op.indexAddr 52 (Operand.tmp 65) (Operand.tmp 72)) (t:=0) (d:=some 77) (v:=?_) rfl (by decide +kernel) (by decide +kernel) (by decide +kernel) (fun _ _ _ h=>h) ?_ ?_
     case refine_2=>(intro _;unfold Ze;go_simp;try with_reducible rfl)
     try simp only[lay]
     refine Zm 13 (by decide +kernel) (Wk rfl (.pointer (some ⟨gb,k,none⟩)) (.int .u8 112) (by kernel_rfl) (by kernel_rfl) (by go_simp;rfl) ?_);refine wpAny_done (by kernel_rfl) ?_ _;have BN:=BA.out.set kn (112:UInt8);have XN:Ext wd (we.setCell ⟨gb,k,none⟩ (.int .u8 112)).drew:=(XB.out.setNew (p:=⟨gb,k,none⟩) (Nat.le_of_eq hgb.out.symm) _).drew;go_simp;go_wp2_with (fail);go_meet;exact⟨vf,x9,_,rfl,Ye.out.tr XN,Oe.out.ext XN,BN,rfl,by simp⟩
    ·go_wp2_with (fail)
     refine wp_region_any (by kernel_rfl) ?_
     change wpAny _ _ _ _ _ _ _ (World.drew _)
     refine Zb (i:=0) (op:=Op.move (Operand.tmp 13)) (t:=52) (d:=some 65) (v:=?_) rfl (by decide +kernel) (by decide +kernel) (by decide +kernel) (fun _ _ _ h=>h) ?_ ?_
     case refine_2=>(intro _;unfold Ze;go_simp;try with_reducible rfl)
     try simp only[lay]
     refine Zb (i:=1) (op:=Op.move (Operand.tmp 1)) (t:=3) (d:=some 66) (v:=?_) rfl (by decide +kernel) (by decide +kernel) (by decide +kernel) (fun _ _ _ h=>h) ?_ ?_
     case refine_2=>(intro _;unfold Ze;go_simp;try with_reducible rfl)
     try simp only[lay]
     refine Zb (i:=2) (op:=Op.convert 3 53 (Operand.tmp 66)) (t:=53) (d:=some 67) (v:=?_) rfl (by decide +kernel) (by decide +kernel) (by decide +kernel) (fun _ _ _ h=>h) ?_ ?_
     case refine_2=>(intro _;unfold Ze;go_simp;try with_reducible rfl)
     try simp only[lay]
     refine Zb (i:=3) (op:=Op.move (Operand.tmp 13)) (t:=52) (d:=some 68) (v:=?_) rfl (by decide +kernel) (by decide +kernel) (by decide +kernel) (fun _ _ _ h=>h) ?_ ?_
     case refine_2=>(intro _;unfold Ze;go_simp;try with_reducible rfl)
     try simp only[lay]
     refine Zb (i:=4) (op:=Op.call { callee:=Callee.builtin Builtin.len,args:=#[Operand.tmp 68],argTypes:=#[52] }) (t:=3) (d:=some 69) (v:=?_) rfl (by decide +kernel) (by decide +kernel) (by decide +kernel) (fun _ _ _ h=>h) ?_ ?_
     case refine_2=>(intro _;unfold Ze;go_simp;try with_reducible rfl)
     try simp only[lay]
     refine Zb (i:=5) (op:=Op.convert 3 53 (Operand.tmp 69)) (t:=53) (d:=some 70) (v:=?_) rfl (by decide +kernel) (by decide +kernel) (by decide +kernel) (fun _ _ _ h=>h) ?_ ?_
     case refine_2=>(intro _;unfold Ze;go_simp;try with_reducible rfl)
     try simp only[lay]
     refine Zb (i:=6) (op:=Op.binOp BinOp.rem 53 (Operand.tmp 67) (Operand.tmp 70) 53) (t:=53) (d:=some 71) (v:=?_) rfl (by decide +kernel) (by decide +kernel) (by decide +kernel) (fun _ _ _ h=>h) ?_ ?_
     case refine_2=>(intro _;unfold Ze;go_simp;try with_reducible rfl)
     try simp only[lay]
     refine Zb (i:=7) (op:=Op.convert 53 3 (Operand.tmp 71)) (t:=3) (d:=some 72) (v:=?_) rfl (by decide +kernel) (by decide +kernel) (by decide +kernel) (fun _ _ _ h=>h) ?_ ?_
     case refine_2=>(intro _;unfold Ze;go_simp;try with_reducible rfl)
     try simp only[lay]
     refine Zb (i:=8) (op:=Op.move (Operand.tmp 2)) (t:=5) (d:=some 73) (v:=?_) rfl (by decide +kernel) (by decide +kernel) (by decide +kernel) (fun _ _ _ h=>h) ?_ ?_
     case refine_2=>(intro _;unfold Ze;go_simp;try with_reducible rfl)
     try simp only[lay]
     refine Zb (i:=9) (op:=Op.binOp BinOp.quo 5 (Operand.tmp 73) (Operand.const (Value.int IntKind.u8 3)) 5) (t:=5) (d:=some 74) (v:=?_) rfl (by decide +kernel) (by decide +kernel) (by decide +kernel) (fun _ _ _ h=>h) ?_ ?_
     case refine_2=>(intro _;unfold Ze;go_simp;try with_reducible rfl)
     try simp only[lay]
     refine Zb (i:=10) (op:=Op.binOp BinOp.rem 5 (Operand.tmp 74) (Operand.const (Value.int IntKind.u8 3)) 5) (t:=5) (d:=some 75) (v:=?_) rfl (by decide +kernel) (by decide +kernel) (by decide +kernel) (fun _ _ _ h=>h) ?_ ?_
     case refine_2=>(intro _;unfold Ze;go_simp;try with_reducible rfl)
     try simp only[lay]
     refine Zb (i:=11) (op:=Op.index 9 (Operand.const (Value.string { data:=#[112,98,108] })) (Operand.tmp 75)) (t:=5) (d:=some 76) (v:=.int .u8 98) rfl (by decide +kernel) (by decide +kernel) (by decide +kernel) (fun _ _ _ h=>h) ?_ ?_
     ·(intro _;unfold Ze;go_simp;rfl)
     try simp only[lay]
     refine Zb (i:=12) (op:=Op.indexAddr 52 (Operand.tmp 65) (Operand.tmp 72)) (t:=0) (d:=some 77) (v:=?_) rfl (by decide +kernel) (by decide +kernel) (by decide +kernel) (fun _ _ _ h=>h) ?_ ?_
     case refine_2=>(intro _;unfold Ze;go_simp;try with_reducible rfl)
     try simp only[lay]
     refine Zm 13 (by decide +kernel) (Wk rfl (.pointer (some ⟨gb,k,none⟩)) (.int .u8 98) (by kernel_rfl) (by kernel_rfl) (by go_simp;rfl) ?_);refine wpAny_done (by kernel_rfl) ?_ _;have BN:=BA.out.set kn (98:UInt8);have XN:Ext wd (we.setCell ⟨gb,k,none⟩ (.int .u8 98)).drew:=(XB.out.setNew (p:=⟨gb,k,none⟩) (Nat.le_of_eq hgb.out.symm) _).drew;go_simp;go_wp2_with (fail);go_meet;exact⟨vf,x9,_,rfl,Ye.out.tr XN,Oe.out.ext XN,BN,rfl,by simp⟩
    ·go_wp2_with (fail)
     refine wp_region_any (by kernel_rfl) ?_
     change wpAny _ _ _ _ _ _ _ (World.drew _)
     refine Zb (i:=0) (op:=Op.move (Operand.tmp 13)) (t:=52) (d:=some 65) (v:=?_) rfl (by decide +kernel) (by decide +kernel) (by decide +kernel) (fun _ _ _ h=>h) ?_ ?_
     case refine_2=>(intro _;unfold Ze;go_simp;try with_reducible rfl)
     try simp only[lay]
     refine Zb (i:=1) (op:=Op.move (Operand.tmp 1)) (t:=3) (d:=some 66) (v:=?_) rfl (by decide +kernel) (by decide +kernel) (by decide +kernel) (fun _ _ _ h=>h) ?_ ?_
     case refine_2=>(intro _;unfold Ze;go_simp;try with_reducible rfl)
     try simp only[lay]
     refine Zb (i:=2) (op:=Op.convert 3 53 (Operand.tmp 66)) (t:=53) (d:=some 67) (v:=?_) rfl (by decide +kernel) (by decide +kernel) (by decide +kernel) (fun _ _ _ h=>h) ?_ ?_
     case refine_2=>(intro _;unfold Ze;go_simp;try with_reducible rfl)
     try simp only[lay]
     refine Zb (i:=3) (op:=Op.move (Operand.tmp 13)) (t:=52) (d:=some 68) (v:=?_) rfl (by decide +kernel) (by decide +kernel) (by decide +kernel) (fun _ _ _ h=>h) ?_ ?_
     case refine_2=>(intro _;unfold Ze;go_simp;try with_reducible rfl)
     try simp only[lay]
     refine Zb (i:=4) (op:=Op.call { callee:=Callee.builtin Builtin.len,args:=#[Operand.tmp 68],argTypes:=#[52] }) (t:=3) (d:=some 69) (v:=?_) rfl (by decide +kernel) (by decide +kernel) (by decide +kernel) (fun _ _ _ h=>h) ?_ ?_
     case refine_2=>(intro _;unfold Ze;go_simp;try with_reducible rfl)
     try simp only[lay]
     refine Zb (i:=5) (op:=Op.convert 3 53 (Operand.tmp 69)) (t:=53) (d:=some 70) (v:=?_) rfl (by decide +kernel) (by decide +kernel) (by decide +kernel) (fun _ _ _ h=>h) ?_ ?_
     case refine_2=>(intro _;unfold Ze;go_simp;try with_reducible rfl)
     try simp only[lay]
     refine Zb (i:=6) (op:=Op.binOp BinOp.rem 53 (Operand.tmp 67) (Operand.tmp 70) 53) (t:=53) (d:=some 71) (v:=?_) rfl (by decide +kernel) (by decide +kernel) (by decide +kernel) (fun _ _ _ h=>h) ?_ ?_
     case refine_2=>(intro _;unfold Ze;go_simp;try with_reducible rfl)
     try simp only[lay]
     refine Zb (i:=7) (op:=Op.convert 53 3 (Operand.tmp 71)) (t:=3) (d:=some 72) (v:=?_) rfl (by decide +kernel) (by decide +kernel) (by decide +kernel) (fun _ _ _ h=>h) ?_ ?_
     case refine_2=>(intro _;unfold Ze;go_simp;try with_reducible rfl)
     try simp only[lay]
     refine Zb (i:=8) (op:=Op.move (Operand.tmp 2)) (t:=5) (d:=some 73) (v:=?_) rfl (by decide +kernel) (by decide +kernel) (by decide +kernel) (fun _ _ _ h=>h) ?_ ?_
     case refine_2=>(intro _;unfold Ze;go_simp;try with_reducible rfl)
     try simp only[lay]
     refine Zb (i:=9) (op:=Op.binOp BinOp.quo 5 (Operand.tmp 73) (Operand.const (Value.int IntKind.u8 3)) 5) (t:=5) (d:=some 74) (v:=?_) rfl (by decide +kernel) (by decide +kernel) (by decide +kernel) (fun _ _ _ h=>h) ?_ ?_
     case refine_2=>(intro _;unfold Ze;go_simp;try with_reducible rfl)
     try simp only[lay]
     refine Zb (i:=10) (op:=Op.binOp BinOp.rem 5 (Operand.tmp 74) (Operand.const (Value.int IntKind.u8 3)) 5) (t:=5) (d:=some 75) (v:=?_) rfl (by decide +kernel) (by decide +kernel) (by decide +kernel) (fun _ _ _ h=>h) ?_ ?_
     case refine_2=>(intro _;unfold Ze;go_simp;try with_reducible rfl)
     try simp only[lay]
     refine Zb (i:=11) (op:=Op.index 9 (Operand.const (Value.string { data:=#[112,98,108] })) (Operand.tmp 75)) (t:=5) (d:=some 76) (v:=.int .u8 108) rfl (by decide +kernel) (by decide +kernel) (by decide +kernel) (fun _ _ _ h=>h) ?_ ?_
     ·(intro _;unfold Ze;go_simp;rfl)
     try simp only[lay]
     refine Zb (i:=12) (op:=Op.indexAddr 52 (Operand.tmp 65) (Operand.tmp 72)) (t:=0) (d:=some 77) (v:=?_) rfl (by decide +kernel) (by decide +kernel) (by decide +kernel) (fun _ _ _ h=>h) ?_ ?_
     case refine_2=>(intro _;unfold Ze;go_simp;try with_reducible rfl)
     try simp only[lay]
     refine Zm 13 (by decide +kernel) (Wk rfl (.pointer (some ⟨gb,k,none⟩)) (.int .u8 108) (by kernel_rfl) (by kernel_rfl) (by go_simp;rfl) ?_);refine wpAny_done (by kernel_rfl) ?_ _;have BN:=BA.out.set kn (108:UInt8);have XN:Ext wd (we.setCell ⟨gb,k,none⟩ (.int .u8 108)).drew:=(XB.out.setNew (p:=⟨gb,k,none⟩) (Nat.le_of_eq hgb.out.symm) _).drew;go_simp;go_wp2_with (fail);go_meet;exact⟨vf,x9,_,rfl,Ye.out.tr XN,Oe.out.ext XN,BN,rfl,by simp⟩
   ·obtain⟨k,hk⟩:∃ k:Nat,ua%(x9.length:Int)=k:=⟨(ua%(x9.length:Int)).toNat,by have:=Int.emod_nonneg ua (show (x9.length:Int)≠0 by omega);omega⟩
    have kn:k<x9.length:=by have:=Int.emod_lt_of_pos ua (show (0:Int)<x9.length by omega);omega
    have h2:IntKind.u64.wrap (x9.length:Int)=x9.length:=VN (by omega) (by omega);have h3:ua.tmod (x9.length:Int)=k:=by rw[Int.tmod_eq_emod_of_nonneg ub.1,hk]
    have h4:IntKind.u64.wrap (k:Int)=k:=VN (by omega) (by omega);have h5:IntKind.i64.wrap (k:Int)=k:=IntWalk.i64_in _ (by omega);have nz:((x9.length:Int)==0)=false:=by rw[beq_eq_false_iff_ne];omega
    have nz2:¬(x9.length:Int)=0:=by omega
    have tne:¬x9=[]:=fun e=>by rw[e] at kn;cases kn
    have kl:(k:Int)<(x9.length:Int):=by omega
    obtain⟨g7,z,rfl,zg,zl,kc,kf,_,HS⟩:=(Oe.out.ext XB.out).at kn;have gne:g7≠gb:=by have:=(Oe.out.lt g7 rfl).2;have:=hgb.out;omega
    obtain⟨r,hr⟩:∃ r,q%5=r:=⟨_,rfl⟩;have g3:q.tmod 5=r:=by rw[Int.tmod_eq_emod_of_nonneg q0.1,hr]
    have r0:0<=r/\r<5:=by omega
    have g4:IntKind.u8.wrap r=r:=Zbc r0.1 (by omega);have g5:IntKind.i64.wrap r=r:=IntWalk.i64_in _ (by omega);have HS1:=Hd (HS.out r);have BN:=Hd (BA.out.other (k:=k) gne (.int .i64 r));have XN:Hid (Ext wy (we.setCell ⟨g7,k,none⟩ (.int .i64 r))):=(Ye.out.tr XB.out).setNew (p:=⟨g7,k,none⟩) zg _;clear hk HS;go_wp2_with (fail);go_meet;exact⟨vf,_,tr,rfl,XN.out,HS1.out,BN.out,by simp,rfl⟩
   ·have g5:IntKind.i64.wrap q=q:=IntWalk.i64_in _ (by omega)
    go_wp2_with (fail);go_meet;exact⟨_,x9,tr,rfl,Ye.out.tr XB.out,Oe.out.ext XB.out,BA.out,rfl,rfl⟩
  case rest =>
  obtain⟨v2,y2,tr2,rfl,xc2,oc2,bc2,ly2,lt2⟩:=hcut;have Sg:=Hd (Sc.out.ext xc2);have Yg:=Hd oc2;have ly:=OwI.le oc2;obtain⟨wf,rfl⟩:∃ wf:World,wf=wc:=⟨_,rfl⟩;have CV:=bc2.back 52 9 5 cb Tryz.underlying52 Tryz.underlying5 Tryz.underlying9;rw[lt2] at CV;have CK2:=Hd (CK.out y2 v2 tr2 (by omega));have CO2:=Hd (CO.out y2);obtain⟨rr,hrr⟩:∃ rr,Hid (Xm j y2 v2 tr2=rr):=⟨_,rfl⟩;rw[hrr.out] at CK2;clear CK CO xc2 oc2 bc2 BA XB Se Oe Ye hgb Sc;have t0:=Sg.out.b.c0;have t1:=Sg.out.b.c1;have t2:=Sg.out.b.c2;have t3:=Sg.out.b.c3;have t4:=Sg.out.b.c4;have t5:=Sg.out.b.c5;rw[<-ly2] at *;go_wp2_with (fail);refine(CK2.out _ A7 c7 _ Sg.out.r Yg.out.read ly.1 ly.2).mono ?_;rintro e wg ⟨rfl,xg⟩;have Sh:=Hd (Sg.out.ext xg);have Yh:=Hd (Yg.out.ext xg);clear xg Sg Yg t0 t1 t2 t3 t4 t5 CK2 CV
  by_cases hr0:rr=0
  ·obtain⟨hc2,he2,ho2,hb2⟩:=Zfh (hrr.out.trans hr0)
   have OF2:=Hd (OF.out y2 he2);rw[ho2] at OF2;rw[<-hb2] at BE;obtain⟨cc,hcc⟩:∃ cc,Hid ((ZJ j y2).1=cc):=⟨_,rfl⟩;rw[hcc.out] at OF2 BE CO2;rw[he2] at CO2;subst hr0;clear hc2 he2 ho2 hb2 OF hcc hrr;have t0:=Sh.out.b.c0;have t1:=Sh.out.b.c1;have t2:=Sh.out.b.c2;have t3:=Sh.out.b.c3;have t4:=Sh.out.b.c4;have t5:=Sh.out.b.c5;go_wp2_with (fail);refine(CO2.out _ A7 c7 _ Sh.out.r Yh.out.read).mono ?_;rintro e wh ⟨rfl,xh⟩;have Si:=Hd (Sh.out.ext xh);clear xh Sh Yh CO2 t0 t1 t2 t3 t4 t5;have t0:=Si.out.b.c0;have t1:=Si.out.b.c1;have t2:=Si.out.b.c2;have t3:=Si.out.b.c3;have t4:=Si.out.b.c4;have t5:=Si.out.b.c5;go_wp2_with (fail);refine(OF2.out _ _ (Si.out.r.ext (by(repeat (first | assumption | exact Ext.rf _ | apply Ext.drew | apply Ext.drewN | apply Ext.alloc))))).mono ?_;rintro e wi ⟨rfl,xi⟩;have Sj:=Hd (Si.out.ext (Ext.tr (by(repeat (first | assumption | exact Ext.rf _ | apply Ext.drew | apply Ext.drewN | apply Ext.alloc))) xi));clear xi Si OF2 t0 t1 t2 t3 t4 t5;have t0:=Sj.out.b.c0;have t1:=Sj.out.b.c1;have t2:=Sj.out.b.c2;have t3:=Sj.out.b.c3;have t4:=Sj.out.b.c4;have t5:=Sj.out.b.c5;go_wp2_with (fail);refine(BE.out _ _ (Sj.out.r.ext (by(repeat (first | assumption | exact Ext.rf _ | apply Ext.drew | apply Ext.drewN | apply Ext.alloc))))).mono ?_;rintro e wk ⟨rfl,xk⟩;have Sk:=Hd (Sj.out.ext (Ext.tr (by(repeat (first | assumption | exact Ext.rf _ | apply Ext.drew | apply Ext.drewN | apply Ext.alloc))) xk));clear xk Sj BE t0 t1 t2 t3 t4 t5;go_wp2_with (fail);go_ret;exact⟨by simp,Sk.out.x.tr (by(repeat (first | assumption | exact Ext.rf _ | apply Ext.drew | apply Ext.drewN | apply Ext.alloc)))⟩
  ·have hr1:(rr != 0)=true:=by simpa using hr0
   go_wp2_with (fail);go_ret;exact⟨rfl,Sh.out.x.tr (by(repeat (first | assumption | exact Ext.rf _ | apply Ext.drew | apply Ext.drewN | apply Ext.alloc)))⟩
theorem Zjf (vs:List Value)(i:InstP)(at_ by_:Int)(w:World)(hT:Tab w)(H:RInst w vs i)(_:ZgV i)(ha:-9223372036854775808<=at_/\at_<=9223372036854775807)(hby:0<=by_/\by_<=255) :
  Calls Tryz.prog 6 #[.agg (List.toArray vs),.int .i64 at_,.int .u8 by_] w fun e w'=>e=.returned (.bool true)/\Ext w w':=ZhW i (VH i) rfl vs at_ by_ w hT H ha hby
theorem lifted (os:Os)(started:os.Started)(H:Type)(enc:TypeId×Value->H) :
  ReturnsInHanded {} Tryz.checked os 6 .any (fun w args=>(Rows.checkBentSpec.pre enc Tryz.prog Tryz.f6 Rows.checkBentRow.domain false w args/\laidMetH Tryz.prog ZhU w)/\sizedMet enc Tryz.prog Tryz.f6 (OpenSpec.ofChange Rows.checkBentSpec) false w args) (Rows.checkBentSpec.post enc Tryz.prog Tryz.f6 false true false false):=by
 refine returnsInHanded_of_change_and (C:=Tryz.checked) (X:=fun w _=>laidMetH Tryz.prog ZhU w) (fun _ _ _ hh h=>h.of_heap hh) own started (by kernel_rfl) Tryz.func6
  (ChangeSpec.witness_shaped (enc:=enc) (C:=Tryz.checked) (os:=os) (X:=fun w _=>laidMetH Tryz.prog ZhU w) false (World.laidAll Tryz.prog os ZhU) #[.agg #[.int .i64 0,.int .i64 0,.int .i64 0,.slice none 0 0,.slice none 0 0,.slice none 0 0],.int .i64 0,.int .u8 0] 8 (World.laidAll_os _ _ _)
   (World.shaped_of_ZipB (by kernel_rfl) (by kernel_rfl)) (by kernel_rfl) (by kernel_rfl) (by kernel_rfl)
   (by rw[MakeChecks.laidMetH_plain _ _ _ (by kernel_rfl)];exact laidMet_laidAll _ (by kernel_rfl) (by kernel_rfl))) ?_
 intro W base args ds gs before hval0 hW _ _ hL _;have hval:∀ (j:Nat) t v,Tryz.f6.params[j]?=some t->args[j]?=some v->Value.okWide Tryz.prog W .any base t v:=hval0;have hW':=hW;obtain⟨p,q,hA0,hV,rfl,hfz,hnd⟩:=hW;have hA:DataW.TrodAll enc Tryz.prog W 0 (fun _=>true) true Tryz.f6.params.toList args.toList ds p:=hA0;rw[Tryz.params6] at hA hval;obtain⟨v0,vs0,d0,ds0,p0,q0,hargs,rfl,rfl,h0,r0⟩:=trodAll_cons hA;obtain⟨v1,vs1,d1,ds1,p1,q1,rfl,rfl,rfl,h1,r1⟩:=trodAll_cons r0;obtain⟨v2,vs2,d2,ds2,p2,q2,rfl,rfl,rfl,h2,r2⟩:=trodAll_cons r1;obtain⟨rfl,rfl,rfl⟩:=trodAll_nil r2;obtain rfl:args=#[v0,v1,v2]:=by cases args;simp_all
 obtain⟨rfl,rfl⟩:=trodVars_none hV;obtain⟨y0,x0,rfl,hx0,ix0⟩:=ZfM h0 (hval 0 _ v0 rfl rfl);obtain⟨x1,rfl,rfl,rfl,w1⟩:=open_int Tryz.underlying3 (hval 1 _ v1 rfl rfl) h1;obtain⟨x2,rfl,rfl,rfl,w2⟩:=open_int Tryz.underlying5 (hval 2 _ v2 rfl rfl) h2;refine(Zjf y0 x0 x1 x2 W (Zeg hL) hx0 ix0 (ZgO w1) (Zja w2)).mono fun e W' ⟨he,hg⟩=>?_
 subst he;exact⟨_,rfl,ZgP hW' rfl rfl rfl rfl rfl (ZcR (by kernel_rfl)) hg⟩
theorem row : Rows.CheckBentSaid :=
 OpenClaim.holds_of_wide 6 Tryz.f6 rfl rfl rfl rfl rfl rfl rfl ⟨rfl,rfl,rfl,rfl,rfl⟩ rfl rfl rfl rfl rfl (by kernel_rfl) Tryz.func6 (by kernel_rfl)
  (of_decide_eq_true (by kernel_rfl)) (by unfold Func.isWrapper;first | (rw[if_pos (by decide +kernel)];kernel_rfl) | (rw[if_neg (by decide +kernel)];exact⟨rfl,rfl⟩))
  (fun os started H enc _=>lifted os started H enc)
theorem proved : Rows.CheckBentCardSaid :=
 Claim7.holds_tied_plain_at .later [] [.data] true Rows.checkBentCard.stood.harness false row (fun _ h=>by cases h) (by kernel_rfl) (fun _ h=>by cases h) checkBent_row_tie rfl ⟨rfl,rfl⟩ (by kernel_rfl) rfl
  (fun f fn hf hfn=>by
   obtain rfl:f=6:=Option.some.inj ((show Tryz.prog.funcNamed "kurgan/kurganlaw31.CheckBent" = some 6 by kernel_rfl).symm.trans hf) |>.symm
   obtain rfl:fn=Tryz.f6:=(Option.some.inj (Tryz.func6.symm.trans hfn)).symm;exact⟨by kernel_rfl,fun j t ht=>by
    rw[Tryz.params6] at ht;have hm:t∈[25,3,5]:=by simpa using Array.mem_of_getElem? ht
    have hall:([25,3,5].all fun u => !Tryz.prog.wantsStandIn u)=true:=by kernel_rfl
    exact(show Tryz.prog.wantsStandIn t=false by simpa using List.all_eq_true.1 hall t hm)⟩)
  (by kernel_rfl)
end Go.Proofs.YtmojhhlcocjoaaaGreatDoor.checkBent
