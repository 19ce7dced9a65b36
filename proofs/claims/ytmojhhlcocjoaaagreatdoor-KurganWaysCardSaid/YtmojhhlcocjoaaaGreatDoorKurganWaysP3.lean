/- packed and squeezed by programs (see wip/) -/
import Derived.Test.YtmojhhlcocjoaaaGreatDoorKurganWaysP2
import Derived.Sort.BigQuietIn
import Derived.Deep.QuietTactic
import Derived.BigQuiet
set_option maxRecDepth 100000
set_option maxHeartbeats 16000000
set_option linter.unusedVariables false
set_option linter.unusedSimpArgs false
namespace Go.Proofs.YtmojhhlcocjoaaaGreatDoor
open Go.RowKit Go.ChangeShapes Go.WideShapes Go.ChangeAt Go.Deep
theorem Xs (m i:Nat)(hm:m<18446744073709551616)(hi:i<64)(w:World) : Calls Tryz.prog 268 #[setV m,.int .i64 i] w fun e w'=>e=.returned (setV (Zx m i))/\Ext w w':=by
 unfold setV Zx;have K:=WU m (2^i) hm (Nat.pow_lt_pow_right (by omega) hi);have sh:=Uk i hi;generalize 2^i=b2 at *;generalize ZR m b2=z at *;replace K:=Hd K;replace sh:=Hd sh;have B1':Blk ((w.alloc (.cells #[.int .u64 m,.int .u64 0] 141)).alloc (.cells #[.int .u64 0,.int .u64 0] 141)) w.heap.size 141 #[.int .u64 m,.int .u64 0]:=.alloc (.new rfl) _;have B2:Blk ((w.alloc (.cells #[.int .u64 m,.int .u64 0] 141)).alloc (.cells #[.int .u64 0,.int .u64 0] 141)) (w.heap.size+1) 141 #[.int .u64 0,.int .u64 0]:=.new (by simp);have B1:Blk (w.alloc (.cells #[.int .u64 m,.int .u64 0] 141)) w.heap.size 141 #[.int .u64 m,.int .u64 0]:=.new rfl;go_enter Tryz.func268,Tryz.ntmps268;go_wp2_with (fail);refine(Yq _ _).mono ?_;rintro e w1 ⟨rfl,x1⟩;have e1:(decide (0<=(i:Int))&&decide ((i:Int)<128))=true:=by simp;omega
 rw[e1];have c0:w1.cell? ⟨w.heap.size,0,none⟩=some (.int .u64 m):=(B1'.ext x1).cell 0;have c1:w1.cell? ⟨w.heap.size,1,none⟩=some (.int .u64 0):=(B1'.ext x1).cell 1;have f0:=(B1'.ext x1).free 0;have r0:w1.cell? ⟨w.heap.size+1,0,none⟩=some (.int .u64 0):=(B2.ext x1).cell 0;have r1:w1.cell? ⟨w.heap.size+1,1,none⟩=some (.int .u64 0):=(B2.ext x1).cell 1;have g0:=(B2.ext x1).free 0;have g1:=(B2.ext x1).free 1;have X1:=Hd (Ext.tr (a:=w) (by(repeat (first | assumption | exact Ext.rf _ | apply Ext.drew | apply Ext.drewN | apply Ext.alloc))) x1);replace K:=K.out;replace sh:=sh.out;have wz:IntKind.i64.wrap 0=0:=by decide
 have q1:(i:Int) / 64=0:=by omega
 have q2:(i:Int).tmod 64=(i:Int):=by rw[Int.tmod_eq_emod_of_nonneg (by omega)];omega
 have bA:=B1'.ext x1;have bR:=B2.ext x1;clear x1 B1' B2 e1 c1 f0 r0 r1 g0 g1;have bA2:=Hd (bA.set 0 (.int .u64 z));have bR2:=Hd (bR.far (p:=⟨w.heap.size,0,none⟩) (by simp) (.int .u64 z));have X2:=Hd (X1.out.setNew (p:=⟨w.heap.size,0,none⟩) (Nat.le_refl _) (.int .u64 z));have fA:w1.frozen? ⟨w.heap.size,0,none⟩=false:=bA.free 0;go_upto_region 2 with(fail);refine wp_region_any (by kernel_rfl) ?_
 change wpAny _ _ _ _ _ _ _ (World.drew _)
 refine Za (i:=0) (op:=Op.move (Operand.tmp 1)) (t:=3) (d:=some 7) (v:=?_) rfl (by decide +kernel) (by decide +kernel) (by decide +kernel) (fun _ _ _ h=>h) ?_ ?_
 case refine_2=>(intro _;unfold Zd;go_simp;try with_reducible rfl)
 try simp only[lay]
 refine Za (i:=1) (op:=Op.binOp BinOp.quo 3 (Operand.tmp 7) (Operand.const (Value.int IntKind.i64 64)) 3) (t:=3) (d:=some 8) (v:=?_) rfl (by decide +kernel) (by decide +kernel) (by decide +kernel) (fun _ _ _ h=>h) ?_ ?_
 case refine_2=>(intro _;unfold Zd;go_simp;try with_reducible rfl)
 try simp only[lay]
 refine Za (i:=2) (op:=Op.indexAddr 141 (Operand.tmp 2) (Operand.tmp 8)) (t:=0) (d:=some 9) (v:=?_) rfl (by decide +kernel) (by decide +kernel) (by decide +kernel) (fun _ _ _ h=>h) ?_ ?_
 case refine_2=>(intro _;unfold Zd;go_simp;try with_reducible rfl)
 try simp only[lay]
 refine Za (i:=4) (op:=Op.move (Operand.tmp 1)) (t:=3) (d:=some 11) (v:=?_) rfl (by decide +kernel) (by decide +kernel) (by decide +kernel) (fun _ _ _ h=>h) ?_ ?_
 case refine_2=>(intro _;unfold Zd;go_simp;try with_reducible rfl)
 try simp only[lay]
 refine Za (i:=5) (op:=Op.binOp BinOp.rem 3 (Operand.tmp 11) (Operand.const (Value.int IntKind.i64 64)) 3) (t:=3) (d:=some 12) (v:=?_) rfl (by decide +kernel) (by decide +kernel) (by decide +kernel) (fun _ _ _ h=>h) ?_ ?_
 case refine_2=>(intro _;unfold Zd;go_simp;try with_reducible rfl)
 try simp only[lay]
 refine Za (i:=6) (op:=Op.binOp BinOp.shl 53 (Operand.const (Value.int IntKind.u64 1)) (Operand.tmp 12) 3) (t:=53) (d:=some 13) (v:=?_) rfl (by decide +kernel) (by decide +kernel) (by decide +kernel) (fun _ _ _ h=>h) ?_ ?_
 case refine_2=>(intro _;unfold Zd;go_simp;try with_reducible rfl)
 try simp only[lay]
 refine Zi 3 (by decide +kernel) (Zp (T:=53) (x:=Operand.tmp 9) (t:=53) (d:=some 10) rfl (.pointer (some ⟨w.heap.size,0,none⟩)) (by kernel_rfl) (.int .u64 m) (by go_simp) ?_)
 try simp only[lay]
 refine Za (i:=7) (op:=Op.binOp BinOp.andNot 53 (Operand.tmp 10) (Operand.tmp 13) 53) (t:=53) (d:=some 14) (v:=?_) rfl (by decide +kernel) (by decide +kernel) (by decide +kernel) (fun _ _ _ h=>h) ?_ ?_
 case refine_2=>(intro _;unfold Zd;go_simp;try with_reducible rfl)
 try simp only[lay]
 refine Za (i:=8) (op:=Op.indexAddr 141 (Operand.tmp 2) (Operand.tmp 8)) (t:=0) (d:=some 15) (v:=?_) rfl (by decide +kernel) (by decide +kernel) (by decide +kernel) (fun _ _ _ h=>h) ?_ ?_
 case refine_2=>(intro _;unfold Zd;go_simp;try with_reducible rfl)
 try simp only[lay]
 refine Zi 9 (by decide +kernel) (Yl rfl (.pointer (some ⟨w.heap.size,0,none⟩)) (.int .u64 z) (by kernel_rfl) (by kernel_rfl) (by go_simp;rfl) ?_);refine wpAny_done (by kernel_rfl) ?_ _;clear c0 fA bA bR X1 hm K sh;generalize w1.setCell ⟨w.heap.size,0,none⟩ (.int .u64 z)=w2 at *;clear w1;have c0:=bA2.out.c0;have c1:=bA2.out.c1;have r0:=bR2.out.c0;have r1:=bR2.out.c1;have g0:=bR2.out.free 0;have g1:=bR2.out.free 1;go_simp;go_wp2_with (fail);refine bodyPost_ret (v:=.agg #[.int .u64 z,.int .u64 0]) (by simp[results,Tryz.results268,go_sem, *]) rfl ⟨rfl,?_⟩;exact((X2.out.setNew (p:=⟨w.heap.size+1,0,none⟩) (by simp) _).setNew (p:=⟨w.heap.size+1,1,none⟩) (by simp) _).drew
open Go.RowKit Go.ChangeShapes Go.WideShapes Go.ChangeAt Go.Deep Go.Shelf
attribute [local go_sem] Oper.semAt_some
theorem ZQ {β:Type}{k B:Nat}(hk:k<B)(t:TypeId)(cs:β->Array Value) : OwnFrom B (fun s W=>Blk W k t (cs s)):=fun s W W' row hs hg hr =>
 (hg.block k hs.lt (fun e=>by obtain⟨h1,_⟩:=hr _ e.symm;omega)).trans hs
def Held (w0:World)(sb:Nat)(w:World) : Prop:=w0.heap.size<=w.heap.size/\∀ b,b<w0.heap.size->b≠sb->w.heap[b]?=w0.heap[b]?
theorem Held.blk {w0 w:World}{sb g:Nat}{t:TypeId}{cs:Array Value}(h:Held w0 sb w)(hb:Blk w0 g t cs)(hne:g≠sb) : Blk w g t cs:=(h.2 g hb.lt hne).trans hb
theorem Held.set {w0 w:World}{sb:Nat}(h:Held w0 sb w)(u:Value) : Held w0 sb (w.setCell ⟨sb,0,none⟩ u):=⟨by simp;exact h.1,fun b h1 h2=>(Below.heap_setCell w ⟨sb,0,none⟩ u b h2).trans (h.2 b h1 h2)⟩
theorem Held.ext {w0 w w':World}{sb:Nat}(h:Held w0 sb w)(x:Ext w w') : Held w0 sb w':=⟨Nat.le_trans h.1 x.size,fun b h1 h2=>(x.block b (Nat.lt_of_lt_of_le h1 h.1)).trans (h.2 b h1 h2)⟩
theorem YU {β:Type}{w0:World}{B sb:Nat}(hB:w0.heap.size<=B) : OwnFrom B (fun(_:β) W=>Held w0 sb W):=fun _ W W' row hs hg hr =>
 ⟨Nat.le_trans hs.1 hg.size,fun b h1 h2=>(hg.block b (Nat.lt_of_lt_of_le h1 hs.1) (fun e=>by have:=(hr b e.symm).1;omega)).trans (hs.2 b h1 h2)⟩
theorem KeepsFrom.of_ext {B:Nat}{W W':World}(x:Ext W W') : KeepsFrom B W W':=⟨x.size,fun k _ _ hk _=>(x.block k (Array.getElem?_eq_some_iff.1 hk).1).trans hk⟩
theorem Zak {F:Fence}{nn:Nat}{w:World}{ops:Array Oper}{rest:List Oper}{o:Oper}{a:Act}{Q:Exit->Act->World->Prop}(hg:o.guard=none)(l c:Operand)(hop:o.op=Op.makeSlice 22 l c)
  (base:Nat) (n:Nat) (hl:a.eval l=.int .i64 (n:Int)) (hc:a.eval c=.int .i64 (n:Int)) (hn:n<=2^44) (hbase:base<=w.heap.size)
  (hK:∀ w',OwI w' base (some ⟨w.heap.size,0,none⟩) n (List.replicate n 0)->w.grownBy w' none->wpListIn F nn Tryz.prog ops Q rest (a.put o.dst (.slice (some ⟨w.heap.size,0,none⟩) n n)) w') :
  wpListIn F nn Tryz.prog ops Q (o::rest) a w:=by
 obtain⟨i0,hi,hz0,hz1,hz2⟩:=info_parts YQ;refine wpListIn_plain hg fun K hK'=>?_
 obtain⟨w',hrun,r1,r2⟩:=run_make_full (P:=Tryz.prog) w base 22 3 i0 _ 1 Tryz.underlying22 hi hz0 hz1 .i64 .i64 n (by rw[hz2];omega) (by simp only[maxLen];omega) hbase;have e:(madeCells (Value.int .i64 0).cells (n*1)).toList=(List.replicate n (0:Int)).map (Value.int .i64):=by
  simp[madeCells,Value.cells,List.map_const',Nat.mod_one]
 rw[e] at r1;unfold Oper.wpIn;refine⟨?_,?_⟩
 ·simp[Oper.about,hop]
 ·rw[Oper.semAt_plain F _ _ (by rw[hop];intro c hc';cases hc')]
  simp[execOp,hop,hl,hc,hrun,Result.andThen];exact hK' _ _ (hK w' (by simpa [OwI] using r1) r2)
end Go.Proofs.YtmojhhlcocjoaaaGreatDoor
namespace Go.Proofs.YtmojhhlcocjoaaaGreatDoor
open Go.RowKit Go.ChangeShapes Go.WideShapes Go.ChangeAt Go.Deep
def JD : Option Nat->Value
 | none=>.tuple #[setV 0,.bool false]
 | some m=>.tuple #[setV m,.bool true]
theorem ZbR (m:Nat)(c:Int)(p:List Int) : ZV m (c::p)=if 0<=c/\c<64/\m.testBit c.toNat=true then ZV (Zx m c.toNat) p else none:=rfl
theorem ZaX {base g:Nat}{rows:List (List Int)}(P:Option Addr)(pc:Nat)(p:List Int)(w:World)(H:KernA w base g rows)(h1:1<=rows.length)(h24:rows.length<=24)(hP:RdI w P p)(lp:p.length<=1000000000) :
  Calls Tryz.prog 262 #[.pointer (some ⟨g,0,none⟩),.slice P p.length pc] w fun e w'=>e=.returned (JD (ZW rows.length p))/\Ext w w':=by
 have DE:=Hd (fun(W:World) (x:Ext w W)=>QP W (H.ext x));have FU:=Hd (fun(W:World)=>W6 rows.length (by omega) W);have UF:=Yy h24;obtain⟨r,hr⟩:∃ r,Hid (ZW rows.length p=r):=⟨_,rfl⟩;rw[hr.out];generalize rows.length=n at *;clear H;unfold ZW at hr;replace hP:=Hd hP;have B1:Hid (Blk (w.alloc (.cells #[.int .u64 0,.int .u64 0] 141)) w.heap.size 141 #[.int .u64 0,.int .u64 0]):=.new rfl;have hn0:((n:Int)==0)=false:=by rw[beq_eq_false_iff_ne];omega
 by_cases hlen:n<p.length
 ·have hr2:Hid (r=none):=by
   have h:=hr.out;rw[if_pos hlen] at h;exact h.symm
  have hlb:decide ((n:Int)<(p.length:Int))=true:=decide_eq_true (by omega);rw[hr2.out];unfold JD setV;go_enter Tryz.func262,Tryz.ntmps262;go_wp2_with (fail);refine(DE.out _ (by(repeat (first | assumption | exact Ext.rf _ | apply Ext.drew | apply Ext.drewN | apply Ext.alloc)))).mono ?_;rintro e w1 ⟨rfl,x1⟩;have X1:=Hd (Ext.tr (a:=w) (by(repeat (first | assumption | exact Ext.rf _ | apply Ext.drew | apply Ext.drewN | apply Ext.alloc))) x1);have b1:=B1.out.ext x1;have c0:=b1.c0;have c1:=b1.c1;have f0:=b1.free 0;have f1:=b1.free 1;clear x1 b1;go_wp2_with (fail);refine bodyPost_ret (v:=.tuple #[.agg #[.int .u64 0,.int .u64 0],.bool false]) (by simp[results,Tryz.results262,go_sem, *]) rfl ⟨rfl,?_⟩;exact(X1.out.setNew (p:=⟨w.heap.size,0,none⟩) (Nat.le_refl _) _).setNew (p:=⟨w.heap.size,1,none⟩) (Nat.le_refl _) _
 ·have hr2:Hid (ZV (2^n-1) p=r):=by
   have h:=hr.out;rw[if_neg hlen] at h;exact h
  have hlb:decide ((n:Int)<(p.length:Int))=false:=decide_eq_false (by omega);generalize 2^n-1=m0 at *;unfold setV at FU;clear hr;go_enter Tryz.func262,Tryz.ntmps262;go_wp2_with (fail);refine(DE.out _ (by(repeat (first | assumption | exact Ext.rf _ | apply Ext.drew | apply Ext.drewN | apply Ext.alloc)))).mono ?_;rintro e w1 ⟨rfl,x1⟩;have X1:=Hd (Ext.tr (a:=w) (by(repeat (first | assumption | exact Ext.rf _ | apply Ext.drew | apply Ext.drewN | apply Ext.alloc))) x1);have b1:=Hd (B1.out.ext x1);clear x1;go_wp2_with (fail);refine(FU.out _).mono ?_;rintro e w2 ⟨rfl,x2⟩;have z12:=x2.size;have zw1:=b1.out.lt;have X3:Ext w (w2.alloc (.cells #[.int .u64 m0,.int .u64 0] 141)):=(X1.out.tr x2).alloc _;have b3:Blk (w2.alloc (.cells #[.int .u64 m0,.int .u64 0] 141)) w.heap.size 141 #[.int .u64 0,.int .u64 0]:=(b1.out.ext x2).alloc _;have s3:Blk (w2.alloc (.cells #[.int .u64 m0,.int .u64 0] 141)) w2.heap.size 141 #[.int .u64 m0,.int .u64 0]:=.new rfl;have START:=Hd (And.intro X3 (And.intro b3 s3));obtain⟨sb,hsb⟩:∃ sb,Hid (sb=w2.heap.size):=⟨_,rfl⟩;have zsb:w.heap.size<sb:=by rw[hsb.out];omega
  clear X3 b3 s3 x2 b1;go_wp2_with (fail);rw[<-hsb.out] at START ⊢;go_loopw [25] (fun v wr=>∃ (k m:Nat),v=.int .i64 k/\k<=p.length/\Hid (ZV m (p.drop k)=r)/\Hid (SubN n m)/\Hid (Ext w wr/\Blk wr w.heap.size 141 #[.int .u64 0,.int .u64 0]/\Blk wr sb 141 #[.int .u64 m,.int .u64 0])) (fun v _=>p.length-(intOf v).toNat)
  case atStart=>exact⟨0,m0,rfl,by omega,hr2,UF,START⟩
  case round =>
   obtain⟨wo,rfl⟩:∃ wo:World,wo=wr:=⟨_,rfl⟩;clear START;obtain⟨k,m,rfl,hk,HF,HU,HH⟩:=hrel;obtain⟨Y,b1,bs⟩:=HH.out;have c0:=bs.c0;have c1:=bs.c1;replace Y:=Hd Y;replace b1:=Hd b1;replace bs:=Hd bs;clear HH
   by_cases hlt:k<p.length
   ·obtain⟨pb,po,c,rfl,zp,cp,ep,dp⟩:=(hP.out.ext Y.out).at hlt
    have HF2:Hid (r=if 0<=c/\c<64/\m.testBit c.toNat=true then ZV (Zx m c.toNat) (p.drop (k+1)) else none):=by
     have h:=HF.out;rw[dp.out,ZbR] at h;exact h.symm
    have HA:=Hd (fun(W:World)=>Zaj m c HU.out.1 W);unfold setV at HA;clear HF ep dp;go_wp2_with (fail);refine(HA.out _).mono ?_;rintro e w3 ⟨rfl,x3⟩;have Y3:=Hd (Y.out.tr x3);have b13:=Hd (b1.out.ext x3);have bs3:=Hd (bs.out.ext x3);clear x3 c0 c1 cp
    by_cases hin:0<=c/\c<64/\m.testBit c.toNat=true
    ·have e1:(decide (0<=c/\c<64)&&m.testBit c.toNat)=true:=by rw[decide_eq_true ⟨hin.1,hin.2.1⟩,hin.2.2];rfl
     rw[e1];have HF3:Hid (ZV (Zx m c.toNat) (p.drop (k+1))=r):=by
      have h:=HF2.out;rw[if_pos hin] at h;exact h.symm
     obtain⟨i,rfl⟩:∃ i:Nat,c=(i:Int):=⟨c.toNat,by omega⟩;rw[Int.toNat_natCast] at HF3;have WO:=Hd (fun(W:World)=>Xs m i HU.out.1 (by omega) W);have HU2:=Hd (HU.out.clr i);generalize Zx m i=m2 at *;unfold setV at WO;have c0:=bs3.out.c0;have c1:=bs3.out.c1;clear hin e1 HF2 HA;go_wp2_with (fail);refine(WO.out _).mono ?_;rintro e w4 ⟨rfl,x4⟩;have bs4:=bs3.out.ext x4;have b14:=b13.out.ext x4;have d0:=bs4.c0;have d1:=bs4.c1;have f0:=bs4.free 0;have f1:=bs4.free 1;have NEW:Hid (Ext w ((w4.setCell ⟨sb,0,none⟩ (.int .u64 m2)).setCell ⟨sb,1,none⟩ (.int .u64 0))/\Blk ((w4.setCell ⟨sb,0,none⟩ (.int .u64 m2)).setCell ⟨sb,1,none⟩ (.int .u64 0)) w.heap.size 141 #[.int .u64 0,.int .u64 0]/\Blk ((w4.setCell ⟨sb,0,none⟩ (.int .u64 m2)).setCell ⟨sb,1,none⟩ (.int .u64 0)) sb 141 #[.int .u64 m2,.int .u64 0]) :=
      ⟨((Y3.out.tr x4).setNew (p:=⟨sb,0,none⟩) (Nat.le_of_lt zsb) _).setNew (p:=⟨sb,1,none⟩) (Nat.le_of_lt zsb) _,(b14.far (p:=⟨sb,0,none⟩) (Nat.ne_of_lt zsb) _).far (p:=⟨sb,1,none⟩) (Nat.ne_of_lt zsb) _,(bs4.set 0 (.int .u64 m2)).set 1 (.int .u64 0)⟩
     clear bs4 b14 x4 c0 c1;go_wp2_with (fail);go_roundw
     case rel=>exact⟨k+1,m2,by go_num,by omega,HF3,HU2,NEW⟩
     case measure=>simp[intOf];omega
    ·have e1:(decide (0<=c/\c<64)&&m.testBit c.toNat)=false:=by
      by_cases h2:0<=c/\c<64
      ·cases h3:m.testBit c.toNat with
       | false=>simp
       | true=>exact absurd ⟨h2.1,h2.2,h3⟩ hin
      ·rw[decide_eq_false h2];rfl
     rw[e1];have HF3:Hid (r=none):=by
      have h:=HF2.out;rw[if_neg hin] at h;exact h
     have d0:=b13.out.c0;have d1:=b13.out.c1;have f0:=b13.out.free 0;have f1:=b13.out.free 1;clear hin e1 HF2 HA;go_wp2_with (fail);refine bodyPost_ret (v:=.tuple #[.agg #[.int .u64 0,.int .u64 0],.bool false]) (by simp[results,Tryz.results262,go_sem, *]) rfl ⟨by rw[HF3.out];rfl,?_⟩;exact(Y3.out.setNew (p:=⟨w.heap.size,0,none⟩) (Nat.le_refl _) _).setNew (p:=⟨w.heap.size,1,none⟩) (Nat.le_refl _) _
   ·obtain rfl:k=p.length:=by omega
    have HF3:Hid (r=some m):=by
     have h:=HF.out;rw[List.drop_length] at h;exact h.symm
    have d0:=b1.out.c0;have d1:=b1.out.c1;have f0:=b1.out.free 0;have f1:=b1.out.free 1;go_wp2_with (fail);refine bodyPost_ret (v:=.tuple #[.agg #[.int .u64 m,.int .u64 0],.bool true]) (by simp[results,Tryz.results262,go_sem, *]) rfl ⟨by rw[HF3.out];rfl,?_⟩;exact(Y.out.setNew (p:=⟨w.heap.size,0,none⟩) (Nat.le_refl _) _).setNew (p:=⟨w.heap.size,1,none⟩) (Nat.le_refl _) _
open Go.RowKit Go.ChangeShapes Go.WideShapes Go.ChangeAt Go.Deep Go.Shelf
attribute [local go_sem] Oper.semAt_some
def Zt (f:Nat->Int)(b:Int)(l:List Nat) : Int:=l.foldl (fun b x=>if b<0 then f x else if f x<b then f x else b) b
theorem Wk (f:Nat->Int)(b:Int)(l:List Nat)(x:Nat) : Zt f b (l++[x])=if Zt f b l<0 then f x else if f x<Zt f b l then f x else Zt f b l:=by
 unfold Zt;rw[List.foldl_append]
 rfl
theorem Zew (A:Option Addr)(rc:Nat)(row:List Int)(m:Nat)(hm:m<18446744073709551616)(h63:∀ x∈Zc m,x<63)(hrow:∀ x∈Zc m,x<row.length)(w:World)(hT:Tab w)(hA:RdI w A row) :
  CallsIn Fence.wide 3 Tryz.prog 269 #[.slice A row.length rc,setV m] w fun e W'=>e=.returned (.int .i64 (Zt (fun c=>row.getD c 0) (-1) (Zc m)))/\Ext w W':=by
 have hg:=Vv hT;unfold setV;refine callsIn_of_wp_marks Tryz.func269 rfl trivial ?_ rfl;simp only[Tryz.ntmps269,List.size_toArray,List.length_cons,List.length_nil,Nat.reduceAdd,Nat.reduceSub,Array.replicate_succ,Array.replicate_zero,List.push_toArray,List.append_toArray,List.nil_append,List.cons_append]
 gi_wp2
 refine⟨trivial,?_⟩;refine(callsIn_wide.2 (Wi m _)).mono ?_;rintro e w' ⟨rfl,rfl⟩
 gi_wp2
 have bR:Blk ((((w.alloc (.cells #[.slice A row.length rc] 22)).alloc (.cells #[.int .u64 m,.int .u64 0] 141)).alloc (.cells #[.int .i64 (-1)] 3)).alloc (.cells #[.int .u64 m,.int .u64 0] 141)) w.heap.size 22 #[.slice A row.length rc]:=.alloc (.alloc (.alloc (.new rfl) _) _) _;have bO:Blk ((((w.alloc (.cells #[.slice A row.length rc] 22)).alloc (.cells #[.int .u64 m,.int .u64 0] 141)).alloc (.cells #[.int .i64 (-1)] 3)).alloc (.cells #[.int .u64 m,.int .u64 0] 141)) (w.heap.size+1+1) 3 #[.int .i64 (-1)]:=.alloc (.new (by simp)) _;have bB:Blk ((((w.alloc (.cells #[.slice A row.length rc] 22)).alloc (.cells #[.int .u64 m,.int .u64 0] 141)).alloc (.cells #[.int .i64 (-1)] 3)).alloc (.cells #[.int .u64 m,.int .u64 0] 141)) (w.heap.size+1+1+1) 141 #[.int .u64 m,.int .u64 0]:=.new (by simp);have hB0:Ext w ((((w.alloc (.cells #[.slice A row.length rc] 22)).alloc (.cells #[.int .u64 m,.int .u64 0] 141)).alloc (.cells #[.int .i64 (-1)] 3)).alloc (.cells #[.int .u64 m,.int .u64 0] 141)):=((((Ext.rf w).alloc _).alloc _).alloc _).alloc _;refine wpIn_rangeFunc_ownG rfl (by omega) (gf:=140) (lb:=#[.pointer (some ⟨w.heap.size+1+1+1,0,none⟩)]) rfl trivial (enters_of Tryz.func140 (by kernel_rfl) rfl)
  (YM 2 m hm h63 (w.heap.size+1+1+1) w.heap.size _ bB (hT.ext hB0) hB0.size hg) SetKp.tr (Wj (cs:=#[.int .u64 m,.int .u64 0]) hB0.size bB) (Below.refl _ _) (fun _=>rfl)
  (fun pre W=>Blk W (w.heap.size+1+1) 3 #[.int .i64 (Zt (fun c=>row.getD c 0) (-1) (inL pre))]/\Blk W w.heap.size 22 #[.slice A row.length rc]/\Blk W (w.heap.size+1+1+1) 141 #[.int .u64 m,.int .u64 0]/\Below w.heap.size w W)
  (fun _ _ _=>False)
  (OwnFrom.and (ZQ (by simp<;>omega) _ _) (OwnFrom.and (ZQ (by simp<;>omega) _ _) (OwnFrom.and (ZQ (by simp<;>omega) _ _) (ownFrom_below (Nat.le_refl _) (by simp<;>omega)))))
  (fun _ _ _ _ _ hs _ _=>hs)
  ⟨bO,bR,bB,hB0⟩
  (fun x=>{ tmps:=#[.slice A row.length rc,.agg #[.int .u64 m,.int .u64 0],.pointer (some ⟨w.heap.size,0,none⟩),.pointer (some ⟨w.heap.size+1,0,none⟩),.int .i64 0,.pointer (some ⟨w.heap.size+1+1,0,none⟩),.int .i64 ((x.1:Nat):Int),.agg #[.int .u64 m,.int .u64 0],.func (.func 140) #[] #[.pointer (some ⟨w.heap.size+1+1+1,0,none⟩)],.int .i64 ((x.1:Nat):Int),undef,undef,undef,undef,undef,undef,undef,undef,undef,undef,undef,undef,undef,undef,undef],defers:=[] }) ?assign ?body ?done ?stop
 case assign =>
  intro l x W K hK
  gi_wp2
  exact hK
 case body =>
  rintro l pre x W ⟨hO,hR,hBn,hB⟩ hlt;obtain⟨bb,hbb⟩:∃ bb,Hid (bb=Zt (fun c=>row.getD c 0) (-1) (inL pre)):=⟨_,rfl⟩;rw[<-hbb.out] at hO;have cO:=hO.c0;have fO:=hO.free 0;have cR:=hR.c0;have hxr:=hrow x.1 x.2;obtain⟨ab,ao,y,rfl,zy,cy,ey,_⟩:=(RdI.ext hA hB).at hxr;have eN:Hid (Zt (fun c=>row.getD c 0) (-1) (inL (pre++[x]))=if bb<0 then y else if y<bb then y else bb):=Hd (by
   rw[Xr,Wk,<-hbb.out,getD_some ey.out])
  have qx:((x.1:Nat):Int)<(row.length:Int):=by omega
  have N0:Hid (Blk (W.setCell ⟨w.heap.size+1+1,0,none⟩ (.int .i64 y)) (w.heap.size+1+1) 3 #[.int .i64 y]):=hO.set 0 (.int .i64 y);have hmx:Tryz.prog.follows .mixedOrders=true:=by kernel_rfl
  replace hR:=Hd hR;replace hBn:=Hd hBn;replace hB:=Hd hB;replace hO:=Hd hO;clear ey;have N1:=Hd (hR.out.far (p:=⟨w.heap.size+1+1,0,none⟩) (by simp<;>omega) (.int .i64 y));have N2:=Hd (hBn.out.far (p:=⟨w.heap.size+1+1,0,none⟩) (by simp) (.int .i64 y));have N3:=Hd ((Below.refl w.heap.size W).setCell (p:=⟨w.heap.size+1+1,0,none⟩) (by simp<;>omega) (.int .i64 y))
  by_cases hneg:bb<0
  ·rw[if_pos hneg] at eN
   gi_wp2
   gi_region_o
   all_goals gi_wp2
   all_goals exact⟨((KeepsOthers.setCell _ _ _).trans (KeepsOthers.drew _)).from _,⟨N3.out.drew,N2.out.drew.trans hBn.out.symm⟩,by rw[eN.out];exact N0.out.drew,N1.out.drew,N2.out.drew,(hB.out.trans N3.out).drew⟩
  ·rw[if_neg hneg] at eN
   by_cases hy:y<bb
   ·rw[if_pos hy] at eN
    gi_wp2
    gi_region_o
    all_goals gi_wp2
    all_goals exact⟨((KeepsOthers.setCell _ _ _).trans (KeepsOthers.drew _)).from _,⟨N3.out.drew,N2.out.drew.trans hBn.out.symm⟩,by rw[eN.out];exact N0.out.drew,N1.out.drew,N2.out.drew,(hB.out.trans N3.out).drew⟩
   ·rw[if_neg hy] at eN
    gi_wp2
    gi_region_o
    all_goals gi_wp2
    all_goals exact⟨(KeepsOthers.drew _).from _,⟨(Below.refl _ W).drew,rfl⟩,by rw[eN.out];exact hO.out.drew,hR.out.drew,hBn.out.drew,hB.out.drew⟩
 case done =>
  rintro D ys W hD rfl ⟨hO,_,_,hB⟩ hK;rw[Yr] at hO;have cO:=hO.cell 0
  gi_wp2
  refine⟨by simp,.inl ⟨_,_,rfl,run_takeDeferred hK,?_⟩⟩;exact⟨_,results_tmp rfl _ _ _,rfl,hB.trans (belowK_b (w:=w) (Nat.le_refl _) W D _ _ (by simp at hD;omega) hK rfl rfl)⟩
 case stop =>
  rintro D c pre W _ _ h _;exact h.elim
end Go.Proofs.YtmojhhlcocjoaaaGreatDoor
namespace Go.Proofs.YtmojhhlcocjoaaaGreatDoor
open Go.RowKit Go.ChangeShapes Go.WideShapes Go.ChangeAt Go.Deep Go.Shelf
attribute [local go_sem] Oper.semAt_some
def Wr (rows:List (List Int))(l:List Nat) : List Int:=rows.map fun row=>Zt (fun c=>row.getD c 0) (-1) l
def XE (c:Nat)(b:Int) : List (List Int)->List Int->Int
 | row::rows,o::off=>XE c (if b<0 then row.getD c 0-o else if row.getD c 0-o<b then row.getD c 0-o else b) rows off
 | _,_=>b
def Yn (rows:List (List Int))(l:List Nat) : Int:=Zj (Wr rows l)+Zj (l.map fun c=>XE c (-1) rows (Wr rows l))
theorem Yz {f:Nat->Int}{B:Int} : ∀ {l:List Nat} {b:Int},(∀ c∈l,-B<=f c/\f c<=B)->-B<=b->b<=B->-B<=Zt f b l/\Zt f b l<=B
 | [],b,_,h1,h2=>⟨h1,h2⟩
 | c::l,b,h,h1,h2=>by
  have hc:=h c (by simp);have e:Zt f b (c::l)=Zt f (if b<0 then f c else if f c<b then f c else b) l:=rfl;rw[e];refine Yz (fun x hx=>h x (by simp[hx])) ?_ ?_<;>split<;>(try split)<;>omega
theorem Qr {c:Nat}{B:Int} : ∀ {rows:List (List Int)} {off:List Int} {b:Int},(∀ row∈rows,0<=row.getD c 0/\row.getD c 0<=B)->(∀ o∈off,-B<=o/\o<=B)->0<=B->-(2*B)<=b->b<=2*B->-(2*B)<=XE c b rows off/\XE c b rows off<=2*B
 | [],off,b,_,_,_,h1,h2=>by cases off<;>exact⟨h1,h2⟩
 | _::_,[],b,_,_,_,h1,h2=>⟨h1,h2⟩
 | row::rows,o::off,b,hr,ho,h0,h1,h2=>by
  have a1:=hr row (by simp);have a2:=ho o (by simp);unfold XE;refine Qr (fun x hx=>hr x (by simp[hx])) (fun x hx=>ho x (by simp[hx])) h0 ?_ ?_<;>split<;>(try split)<;>omega
theorem Zdi (A:Option Addr)(rc:Nat)(row:List Int)(m:Nat)(hm:m<18446744073709551616)(h63:∀ x∈Zc m,x<63)(hrow:∀ x∈Zc m,x<row.length)(w:World)(hT:Tab w)(hA:RdI w A row) :
  Calls Tryz.prog 269 #[.slice A row.length rc,setV m] w fun e W'=>e=.returned (.int .i64 (Zt (fun c=>row.getD c 0) (-1) (Zc m)))/\Ext w W' :=
 callsIn_wide.1 (Zew A rc row m hm h63 hrow w hT hA)
theorem XI (a:List Int)(x:Int) : Zj (a++[x])=Zj a+x:=by rw[Zem];simp[Zj]
theorem Um {B:Int} : ∀ {l:List Int},(∀ x∈l,-B<=x/\x<=B)->-(B*l.length)<=Zj l/\Zj l<=B*l.length
 | [],_=>by simp[Zj]
 | x::l,h=>by
  have h1:=h x (by simp);have h2:=Um (l:=l) fun y hy=>h y (by simp[hy])
  simp only[Zj,List.length_cons,Int.natCast_add,Int.natCast_one,Int.mul_add,Int.mul_one];omega
end Go.Proofs.YtmojhhlcocjoaaaGreatDoor
namespace Go.Proofs.YtmojhhlcocjoaaaGreatDoor
open Go
section
variable {F:Fence} {n:Nat} {P:Program} {ops:Array Oper} {md:Region.Mode} {C:World->Prop}
theorem Qn {o:Oper}{a:Act}{K:Act->Prop}{K':Act->World->Prop}{Q':Exit->Act->World->Prop}{w:World}(hd:∀ c,o.op≠.defer c)(hw:C w)(h:∀ a w',C w'->K a->K' a w')
  (ha:o.askedIn F P a C) (hh:o.quietIn F n P a C K):o.wpIn F n P a w K' Q':=by
 obtain⟨v,h1,h2⟩:=hh;have h3:=h1 w hw;unfold Oper.quietAtIn at h3;unfold Oper.wpIn;refine⟨ha w hw,?_⟩;rw[Oper.semAt_plain F _ _ hd];generalize (execOp a.eval o).run P w=r at *
 cases r with
 | ok x w' =>
  cases x<;>simp only[Oper.quietUponIn] at h3<;>simp only[Oper.uponIn]
  case value u =>
   obtain⟨e1,e2⟩:=h3;rw[e1,e2];exact h _ _ hw h2
  case skip =>
   obtain⟨e1,e2⟩:=h3;rw[e1,<-e2];exact h _ _ hw h2
  case enter f args =>
   obtain⟨e1,hd,hc⟩:=h3;rw[e1];exact⟨hd,hc.mono fun e w'' ⟨he,hw''⟩=>by subst he;exact h _ _ hw'' h2⟩
 | halt x w'=>simp only[Oper.quietUponIn] at h3
theorem Jk (hd:∀ (i:Nat) (o:Oper),ops[i]?=some o->∀ c,o.op≠.defer c){i:Nat}{a:Act}{K:Act->Prop}{K':Act->World->Prop}{Q':Exit->Act->World->Prop}{w:World}(hC:C w)(h:∀ a w',C w'->K a->K' a w')
  (hh:qOpIn F n P ops C i K a):wpOpIn F n P ops Q' i K' a w:=by
 unfold qOpIn at hh;unfold wpOpIn;split
 ·rename_i ho;simp only[ho] at hh;exact h _ _ hC hh
 ·rename_i o ho
  simp only[ho] at hh;obtain⟨ha,hh⟩:=hh;split
  ·rename_i hw;simp only[hw,if_true] at hh;exact Qn (hd i o ho) hC h ha hh
  ·rename_i hw;simp only[hw] at hh;exact⟨ha w hC,h _ _ hC hh⟩
theorem W7 {Q:Act->Prop}{Q':Exit->Act->World->Prop}(hd:∀ (i:Nat) (o:Oper),ops[i]?=some o->∀ c,o.op≠.defer c)(hQ:∀ a w,C w->Q a->Q' .normal a w) : ∀ (fuel:Nat) (listed:Array Bool) (a:Act) (w:World),C w ->
  wpAnyQIn F n P md ops C Q fuel listed a->wpAnyIn F n P md ops Q' fuel listed a w
 | 0,_,_,_,hw,h=>⟨h.1,hQ _ _ hw h.2⟩
 | fuel+1,_,_,_,hw,h=>⟨fun h0=>hQ _ _ hw (h.1 h0),fun i hi=>Jk hd hw (fun a' w' hw'=>W7 hd hQ fuel _ a' w' hw') (h.2 i hi)⟩
def Qs : Oper->Bool
 | { op:=.defer _,.. }=>true
 | _=>false
theorem Zg {id:Nat}{Q:Exit->Act->World->Prop}{a:Act}{w:World}{l:List Oper}(hm:P.follows .mixedOrders=true)(hB:Region.lexB .any l.toArray=true)(hd:l.all (fun o => !Qs o)=true)
  (h:wpQuietIn F n P l.toArray (fun w'=>∃ n,w'=w.drewN n) (fun a'=>∀ w',(∃ n,w'=w.drewN n)->Q .normal a' w') l a):(Code.region id l.toArray true).wpIn F n P Q a w:=by
 simp only[Region.lexB,Bool.and_eq_true] at hB;have hd':∀ (i:Nat) (o:Oper),l.toArray[i]?=some o->∀ c,o.op≠.defer c:=by
  intro i o ho c hc;have h1:o∈l:=by
   have h2:l[i]?=some o:=by simpa using ho
   exact List.mem_of_getElem? h2
  have h3:=List.all_eq_true.1 hd o h1;obtain⟨dst,op,ty,pos,af,gu⟩:=o;simp only at hc;subst hc;simp[Qs] at h3
 refine wpIn_region_any hm (W7 (C:=fun w'=>∃ n,w'=w.drewN n) (Q:=fun a'=>∀ w',(∃ n,w'=w.drewN n)->Q .normal a' w') hd' (fun _ w' hw' h=>h w' hw') _ _ _ _ ⟨1,rfl⟩ ?_);have:=wpAnyQIn_lex (F:=F) (n:=n) (C:=fun w'=>∃ n,w'=w.drewN n) (md:=.any) hB.1 l 0 (Array.replicate l.length false) a (by simp) (by simpa using hB.2) h
 simpa using this
end
end Go.Proofs.YtmojhhlcocjoaaaGreatDoor
namespace Go.Proofs.YtmojhhlcocjoaaaGreatDoor
open Go.RowKit Go.ChangeShapes Go.WideShapes Go.ChangeAt Go.Deep Go.Shelf
attribute [local go_sem] Oper.semAt_some
theorem W8 {W:World}{n₀ k size:Nat}{e:TypeId}{v:Value}{xs:List Value}(hrow:W.ownsRow n₀ e size v k xs){b:Nat}(hb:b<n₀) : v.ownBlock≠some b:=by
 rcases hrow.2 with⟨rfl,_⟩ | ⟨g',cap,cur,rfl,h,_⟩
 ·simp[Value.ownBlock]
 ·intro e'
  obtain rfl:g'=b:=by simpa [Value.ownBlock] using e'
  omega
def Zf0 (w wr:World)(A:Option Addr)(n rc m:Nat)(sum:Int)(OA:Option Addr)(k oc:Nat)(offs:List Int) : Prop :=
 Ext w wr/\Blk wr w.heap.size 23 #[.slice A n rc]/\Blk wr (w.heap.size+1) 141 #[.int .u64 m,.int .u64 0]/\Blk wr (w.heap.size+1+1) 3 #[.int .i64 sum]/\Blk wr (w.heap.size+1+1+1) 22 #[.slice OA k oc]/\wr.ownsRow (w.heap.size+1+1+1+1) 3 1 (.slice OA k oc) k (offs.map (Value.int .i64))/\w.heap.size+1+1+1+1<=wr.heap.size
theorem Zdj {base:Nat}(A:Option Addr)(rc:Nat)(us:List Value)(rows:List (List Int))(m:Nat)(hm:m<18446744073709551616)(h63:∀ x∈Zc m,x<63)(hlen:∀ row∈rows,∀ x∈Zc m,x<row.length)(hbd:∀ row∈rows,∀ x∈row,0<=x/\x<=2147483647)(hr64:rows.length<=64)
  (w:World) (hT:Tab w) (hV:RdV w 22 A us) (hR:RowsO w base us rows) :
  CallsIn Fence.wide 3 Tryz.prog 263 #[.slice A rows.length rc,setV m] w fun e W'=>e=.returned (.int .i64 (Yn rows (Zc m)))/\Ext w W':=by
 obtain⟨i0,hi,hz0,hz1,hz2⟩:=info_parts YQ;have hg:=Vv hT;have lus:us.length=rows.length:=hR.1;obtain⟨offs,hoffs⟩:∃ offs,Hid (offs=Wr rows (Zc m)):=⟨_,rfl⟩;have loff:offs.length=rows.length:=by rw[hoffs.out];simp[Wr]
 have eoff:∀ (k:Nat) (row:List Int),rows[k]?=some row->offs[k]?=some (Zt (fun c=>row.getD c 0) (-1) (Zc m)):=fun k row h=>by rw[hoffs.out,Wr,List.getElem?_map,h];rfl
 have hget:∀ row∈rows,∀ c∈Zc m,0<=row.getD c 0/\row.getD c 0<=2147483647:=fun row hr c hc=>by
  have h1:=hlen row hr c hc;have h2:row.getD c 0=row[c]:=by simp[List.getD,List.getElem?_eq_getElem h1]
  rw[h2];exact hbd row hr _ (List.getElem_mem _)
 have boff:∀ o∈offs,-2147483647<=o/\o<=2147483647:=fun o ho=>by
  rw[hoffs.out] at ho;obtain⟨row,hr,rfl⟩:=List.mem_map.1 ho;exact Yz (fun c hc=>by have:=hget row hr c hc;omega) (by omega) (by omega)
 have bsum:∀ k,-(2147483647*64)<=Zj (offs.take k)/\Zj (offs.take k)<=2147483647*64:=fun k=>by
  have h1:=Um (B:=2147483647) (l:=offs.take k) fun x hx=>boff x (List.mem_of_mem_take hx)
  have h2:(offs.take k).length<=64:=by rw[List.length_take];omega
  omega
 have LE:=fun(B:Option Addr) (c:Nat) (row:List Int) (hrow:row∈rows) (W:World) (x:Ext w W) (h:RdI W B row)=>Zdi B c row m hm h63 (hlen row hrow) W (hT.ext x) h
 unfold setV at LE ⊢;replace LE:=Hd LE;replace hV:=Hd hV;replace hR:=Hd hR;replace hget:=Hd hget;replace hbd:=Hd hbd;replace hlen:=Hd hlen;replace boff:=Hd boff;replace bsum:=Hd bsum;replace eoff:=Hd eoff;replace lus:=Hd lus;replace loff:=Hd loff;refine callsIn_of_wp_marks Tryz.func263 rfl trivial ?_ rfl;simp only[Tryz.ntmps263,List.size_toArray,List.length_cons,List.length_nil,Nat.reduceAdd,Nat.reduceSub,Array.replicate_succ,Array.replicate_zero,List.push_toArray,List.append_toArray,List.nil_append,List.cons_append]
 gi_wp2
 have START:Hid (Zf0 w ((((w.alloc (.cells #[.slice A rows.length rc] 23)).alloc (.cells #[.int .u64 m,.int .u64 0] 141)).alloc (.cells #[.int .i64 0] 3)).alloc (.cells #[.slice none 0 0] 22)) A rows.length rc m (Zj (offs.take 0)) none 0 0 (offs.take 0)) :=
  ⟨((((Ext.rf w).alloc _).alloc _).alloc _).alloc _,.alloc (.alloc (.alloc (.new rfl) _) _) _,.alloc (.alloc (.new (by simp)) _) _,.alloc (.new (by simp)) _,.new (by simp),World.ownsRow_nil _ _ _ _,by simp⟩
 gi_loopw [17] (fun v wr=>∃ (k:Nat) (OA:Option Addr) (oc:Nat),v=.int .i64 k/\k<=rows.length/\Hid (Zf0 w wr A rows.length rc m (Zj (offs.take k)) OA k oc (offs.take k))) (fun v _=>rows.length-(intOf v).toNat)
 case atStart=>exact⟨0,none,0,rfl,by omega,START⟩
 case round =>
  obtain⟨wo,rfl⟩:∃ wo:World,wo=wr:=⟨_,rfl⟩;clear START;obtain⟨k,OA,oc,rfl,hk,HH⟩:=hrel;obtain⟨Y,bR,bS,bU,bO,oO,zO⟩:=HH.out
  by_cases hlt:k<rows.length
  ·have hlu:k<us.length:=by rw[lus.out];exact hlt
   have er:rows[k]?=some rows[k]:=List.getElem?_eq_getElem hlt;obtain⟨D,d,hu,oD⟩:=hR.out.2 k _ er;have hmem:rows[k]∈rows:=List.getElem_mem hlt;generalize rows[k]=row at *;obtain⟨ab,ao,vv,rfl,zv,cv,ev⟩:=(hV.out.ext Y).at hlu;obtain rfl:.slice D row.length d=vv:=by
    have h:=ev.out;rw[hu] at h;exact Option.some.inj h
   obtain⟨ob,hob⟩:∃ ob,Hid (ob=Zt (fun c=>row.getD c 0) (-1) (Zc m)):=⟨_,rfl⟩;have eo:=eoff.out k row er;rw[<-hob.out] at eo;have et:Hid (offs.take (k+1)=offs.take k++[ob]):=Hd (by rw[List.take_add_one,eo];rfl);have es:Zj (offs.take (k+1))=Zj (offs.take k)+ob:=by rw[et.out,XI]
   have b1:=bsum.out k;have b2:=bsum.out (k+1);have lk:(offs.take k).length=k:=by rw[List.length_take,loff.out];omega
   obtain⟨su,hsu⟩:∃ su,Hid (su=Zj (offs.take k)):=⟨_,rfl⟩;rw[<-hsu.out] at bU es b1;rw[es] at b2;have hw:IntKind.i64.wrap (su+ob)=su+ob:=IntWalk.i64_in _ (by omega);have L1:=Hd (LE.out D d row hmem wo Y (oD.read.ext Y));rw[<-hob.out] at L1;have cS0:=bS.c0;have cS1:=bS.c1;have q1:(k:Int)<(rows.length:Int):=by omega
   replace es:=Hd es;replace Y:=Hd Y;replace bR:=Hd bR;replace bS:=Hd bS;replace bU:=Hd bU;replace bO:=Hd bO;replace oO:=Hd oO;replace lk:=Hd lk;clear HH ev eo hu oD er b1 b2
   gi_wp2
   refine⟨trivial,?_⟩;refine(callsIn_wide.2 L1.out).mono ?_;rintro e w1 ⟨rfl,x1⟩;have U1:=bU.out.ext x1;have O1:=bO.out.ext x1;have cU:=U1.c0;have fU:=U1.free 0;have hrow:(w1.setCell ⟨w.heap.size+1+1,0,none⟩ (.int .i64 (su+ob))).ownsRow (w.heap.size+1+1+1+1) 3 1 (.slice OA k oc) k ((offs.take k).map (Value.int .i64)):=by
    have h1:w1.ownsRow (w.heap.size+1+1+1+1) 3 1 (.slice OA k oc) k ((offs.take k).map (Value.int .i64)):=OwV.ext (n:=k) oO.out x1;exact OwV.keep (n:=k) h1 (fun g hg=>by
     have:=OwV.lt (n:=k) h1 g hg;exact Below.heap_setCell w1 ⟨w.heap.size+1+1,0,none⟩ _ g (by simp;omega))
   have cO:(w1.setCell ⟨w.heap.size+1+1,0,none⟩ (.int .i64 (su+ob))).cell? ⟨w.heap.size+1+1+1,0,none⟩=some (.slice OA k oc):=(O1.far (p:=⟨w.heap.size+1+1,0,none⟩) (by simp) _).cell 0
   gi_wp2_with (gi_at_builtin;go_loud (refine wpListIn_append_own _ rfl _ _ 22 rfl (w.heap.size+1+1+1+1) 3 i0 (.int .i64 0) 1 8 Tryz.underlying22 hi hz0 hz1 hz2 rfl (by decide) _ _ _ rfl (hrow.alloc _) ⟨w1.heap.size,0,none⟩ 1 1 [.int .i64 ob] rfl rfl (by simpa using cell_one_new (w1.setCell ⟨w.heap.size+1+1,0,none⟩ (.int .i64 (su+ob))) (.int .i64 ob) 3) (by simp[Value.oneCell']) (by simp only[maxLen];omega) (by omega) (by have:=x1.size;simp;omega) ?_;intro v' w3 hown' hgrow _;obtain⟨g',cap',rfl⟩:=ownsRow_succ hown';have hO3:=((O1.far (p:=⟨w.heap.size+1+1,0,none⟩) (by simp) (.int .i64 (su+ob))).alloc _).grown hgrow (W8 hrow (by omega));have hc3:=hO3.cell 0;have hf3:=hO3.free 0))
   have Y3:Hid (Ext w w3):=(((Y.out.tr x1).setNew (by simp<;>omega) (.int .i64 (su+ob))).alloc _).grow hgrow (fun b hb=>Classical.byContradiction fun hn=>W8 hrow (b:=b) (by omega) hb);have hR3:=Hd ((((bR.out.ext x1).far (p:=⟨w.heap.size+1+1,0,none⟩) (by simp<;>omega) (.int .i64 (su+ob))).alloc _).grown hgrow (W8 hrow (by omega)));have hS3:Hid (Blk w3 (w.heap.size+1) 141 #[.int .u64 m,.int .u64 0]):=(((bS.out.ext x1).far (p:=⟨w.heap.size+1+1,0,none⟩) (by simp<;>omega) (.int .i64 (su+ob))).alloc _).grown hgrow (W8 hrow (by omega));have hU3:Hid (Blk w3 (w.heap.size+1+1) 3 #[.int .i64 (su+ob)]):=(((U1.set 0 (.int .i64 (su+ob))).alloc _).grown hgrow (W8 hrow (by omega)));have hown3:Hid (w3.ownsRow (w.heap.size+1+1+1+1) 3 1 (.slice (some ⟨g',0,none⟩) (k+1) cap') (k+1) ((offs.take (k+1)).map (Value.int .i64))):=Hd (by
    rw[et.out,List.map_append];exact hown')
   have FIN:Hid (Zf0 w (w3.setCell ⟨w.heap.size+1+1+1,0,none⟩ (.slice (some ⟨g',0,none⟩) (k+1) cap')) (some ⟨ab,ao,none⟩) rows.length rc m (Zj (offs.take (k+1))) (some ⟨g',0,none⟩) (k+1) cap' (offs.take (k+1))):=by
    refine⟨Y3.out.setNew (by simp<;>omega) _,hR3.out.far (by simp<;>omega) _,hS3.out.far (by simp<;>omega) _,?_,hO3.set 0 _,?_,?_⟩
    ·rw[es.out]
     exact hU3.out.far (by simp<;>omega) _
    ·exact OwV.keep (n:=k+1) hown3.out (fun g hg=>by
      have:=OwV.lt (n:=k+1) hown3.out g hg;exact Below.heap_setCell w3 ⟨w.heap.size+1+1+1,0,none⟩ _ g (by simp;omega))
    ·have h1:=OwV.lt (n:=k+1) hown3.out g' (by simp[bl])
     simp;omega
   go_roundw
   case rel=>exact⟨k+1,some ⟨g',0,none⟩,cap',by go_num,by omega,FIN⟩
   case measure =>
    simp only[intOf];omega
  ·obtain rfl:k=rows.length:=by omega
   have q0:¬((rows.length:Int)<(rows.length:Int)):=by omega
   have et:offs.take rows.length=offs:=List.take_of_length_le (by rw[loff.out];exact Nat.le_refl _);rw[et] at bU oO;have cS0:=bS.c0;have cS1:=bS.c1;replace Y:=Hd Y;replace bR:=Hd bR;replace bS:=Hd bS;replace bU:=Hd bU;replace bO:=Hd bO;replace oO:=Hd oO;clear HH et
   gi_wp2
   refine⟨trivial,?_⟩;refine(callsIn_wide.2 (Wi m _)).mono ?_;rintro e w' ⟨rfl,rfl⟩
   gi_wp2
   have loO:OwI wo (w.heap.size+1+1+1+1) OA oc offs:=by
    unfold OwI;rw[loff.out];exact oO.out
   have bB:Blk (wo.alloc (.cells #[.int .u64 m,.int .u64 0] 141)) wo.heap.size 141 #[.int .u64 m,.int .u64 0]:=.new rfl;have hB0:Ext w (wo.alloc (.cells #[.int .u64 m,.int .u64 0] 141)):=Y.out.alloc _;refine wpIn_rangeFunc_ownG rfl (by omega) (gf:=140) (lb:=#[.pointer (some ⟨wo.heap.size,0,none⟩)]) rfl trivial (enters_of Tryz.func140 (by kernel_rfl) rfl)
    (YM 2 m hm h63 wo.heap.size w.heap.size _ bB (hT.ext hB0) hB0.size hg) SetKp.tr (Wj (cs:=#[.int .u64 m,.int .u64 0]) hB0.size bB) (Below.refl _ _) (fun _=>rfl)
    (fun pre W=>Blk W (w.heap.size+1+1) 3 #[.int .i64 (Zj offs+Zj ((inL pre).map fun c=>XE c (-1) rows offs))]/\Held (wo.alloc (.cells #[.int .u64 m,.int .u64 0] 141)) (w.heap.size+1+1) W/\Below w.heap.size w W)
    (fun _ _ _=>False)
    (OwnFrom.and (ZQ (by simp<;>omega) _ _) (OwnFrom.and (YU (Nat.le_refl _)) (ownFrom_below (Nat.le_refl _) (by simp<;>omega))))
    (fun _ _ _ _ _ hs _ _=>hs)
    ⟨by simpa [inL,Zj] using bU.out.alloc _,⟨Nat.le_refl _,fun _ _ _=>rfl⟩,hB0⟩
    (fun x=>{ tmps:=#[.slice A rows.length rc,.agg #[.int .u64 m,.int .u64 0],.pointer (some ⟨w.heap.size,0,none⟩),.pointer (some ⟨w.heap.size+1,0,none⟩),.int .i64 0,.pointer (some ⟨w.heap.size+1+1,0,none⟩),.pointer (some ⟨w.heap.size+1+1+1,0,none⟩),undef,u8,u9,.int .i64 ((x.1:Nat):Int),undef,undef,undef,undef,.slice A rows.length rc,.int .i64 rows.length,.int .i64 rows.length,.bool false,u19,u20,u21,u22,u23,u24,u25,u26,u27,u28,u29,u30,u31,.agg #[.int .u64 m,.int .u64 0],.func (.func 140) #[] #[.pointer (some ⟨wo.heap.size,0,none⟩)],.int .i64 ((x.1:Nat):Int),undef,undef,undef,undef,undef,undef,undef,undef,undef,undef,undef,undef,undef,undef,undef,undef,undef,undef,undef,undef,undef,undef,undef,undef,undef,undef,undef,undef,undef],defers:=[] }) ?assign ?body ?done ?stop
   case assign =>
    intro l x W K hK
    gi_wp2
    exact hK
   case body =>
    rintro l pre x W ⟨hO,hH,hB⟩ hlt;obtain⟨su,hsu⟩:∃ su,Hid (su=Zj offs+Zj ((inL pre).map fun c=>XE c (-1) rows offs)):=⟨_,rfl⟩;obtain⟨cf,hcf⟩:∃ cf,Hid (cf=XE x.1 (-1) rows offs):=⟨_,rfl⟩;rw[<-hsu.out] at hO;have cO:=hO.c0;have fO:=hO.free 0;have cR:W.cell? ⟨w.heap.size,0,none⟩=some (.slice A rows.length rc):=(hH.blk (bR.out.alloc _) (by omega)).cell 0;have bF:=Hd (hH.blk (bO.out.alloc _) (by omega));have rO:Hid (RdI W OA offs):=by
     have h:OwI W (w.heap.size+1+1+1+1) OA oc offs:=OwV.keep (n:=offs.length) loO (fun g hg=>by
      have:=OwV.lt (n:=offs.length) loO g hg;exact(hH.2 g (by simp;omega) (by omega)).trans (Below.heap_alloc _ _ g (by omega)))
     exact h.read
    have eN:Hid (Zj offs+Zj ((inL (pre++[x])).map fun c=>XE c (-1) rows offs)=su+cf):=Hd (by
     rw[Xr,List.map_append,List.map_cons,List.map_nil,XI,hsu.out,hcf.out];omega)
    have bdS:Hid (-(2147483647*64)+-(2*2147483647*64)<=su/\su<=2147483647*64+2*2147483647*64):=by
     have h1:=bsum.out rows.length;rw[List.take_of_length_le (by rw[loff.out];exact Nat.le_refl _)] at h1;have h2:=Um (B:=2*2147483647) (l:=(inL pre).map fun c=>XE c (-1) rows offs) fun z hz=>by
      obtain⟨c,hc,rfl⟩:=List.mem_map.1 hz;obtain⟨c',_,rfl⟩:=List.mem_map.1 hc;exact Qr (fun row hr=>hget.out row hr c'.1 c'.2) boff.out (by omega) (by omega) (by omega)
     have h3:((inL pre).map fun c=>XE c (-1) rows offs).length<=64:=by
      have:=Xq m;simp[inL];omega
     have h:-(2147483647*64)+-(2*2147483647*64)<=su/\su<=2147483647*64+2*2147483647*64:=by
      rw[hsu.out];omega
     exact h
    have bdC:Hid (-(2*2147483647)<=cf/\cf<=2*2147483647):=by
     have h:=Qr (c:=x.1) (B:=2147483647) (rows:=rows) (off:=offs) (b:=-1) (fun row hr=>hget.out row hr x.1 x.2) boff.out (by omega) (by omega) (by omega);rw[<-hcf.out] at h;exact h
    have hmx:Tryz.prog.follows .mixedOrders=true:=by kernel_rfl
    have x63:=h63 x.1 x.2;have HH':=Hd hH;have HB':=Hd hB;have HO':=Hd hO;have START2:Hid (XE x.1 (-1) (rows.drop 0) (offs.drop 0)=cf):=hcf.out.symm;clear hsu hH hB hO loO bB hB0
    gi_wp2
    gi_loopw [11,37] (fun b v wr=>∃ (k:Nat) (bb:Int),v=.int .i64 k/\b=.int .i64 bb/\k<=rows.length/\Hid (XE x.1 bb (rows.drop k) (offs.drop k)=cf)/\Hid (Ext W wr)) (fun _ v _=>rows.length-(intOf v).toNat)
    case atStart=>exact⟨0,-1,rfl,rfl,by omega,START2,Ext.rf W⟩
    case round =>
     obtain⟨k,bb,rfl,rfl,hk',hcol,xr⟩:=hrel
     by_cases hlt':k<rows.length
     ·have er:rows[k]?=some rows[k]:=List.getElem?_eq_getElem hlt'
      obtain⟨D,d,hu,oD⟩:=hR.out.2 k _ er;have hmem:rows[k]∈rows:=List.getElem_mem hlt';have edr:rows.drop k=rows[k]::rows.drop (k+1):=List.drop_eq_getElem_cons hlt';generalize rows[k]=row at *;have xw:Hid (Ext w wr):=Below.trans HB'.out (xr.out.mono HB'.out.size);obtain⟨ab,ao,vv,rfl,zv,cv,ev⟩:=(hV.out.ext xw.out).at (j:=k) (by rw[lus.out];exact hlt');obtain rfl:.slice D row.length d=vv:=by
       have h:=ev.out;rw[hu] at h;exact Option.some.inj h
      have hxr:=hlen.out row hmem x.1 x.2;obtain⟨cb,co,y,rfl,zy,cy,ey,_⟩:=(oD.read.ext xw.out).at (k:=x.1) hxr;obtain⟨ob,oo,o,rfl,zo,co',eo,edo⟩:=(rO.out.ext xr.out).at (k:=k) (by rw[loff.out];exact hlt');have cOF:wr.cell? ⟨w.heap.size+1+1+1,0,none⟩=some (.slice (some ⟨ob,oo,none⟩) rows.length oc):=(bF.out.ext xr.out).cell 0;have yb:=hget.out row hmem x.1 x.2;have ob':=boff.out o (List.mem_of_getElem? eo.out);rw[getD_some ey.out] at yb;have hw:IntKind.i64.wrap (y-o)=y-o:=IntWalk.i64_in _ (by omega);have hcol2:=hcol.out;rw[edr,edo.out,XE,getD_some ey.out] at hcol2;replace hcol2:=Hd hcol2;have q1:(k:Int)<(rows.length:Int):=by omega
      have qx:((x.1:Nat):Int)<(row.length:Int):=by omega
      clear hcol ev hu oD edr er eo edo ey yb ob' hcf
      by_cases hneg:bb<0
      ·rw[if_pos hneg] at hcol2
       gi_wp2
       refine Zg (by kernel_rfl) (by kernel_rfl) (by kernel_rfl) ?_
       repeat (gi_big_quiet_step (fail))
       refine wpQuietIn_nil ?_;rintro _ ⟨nq,rfl⟩
       gi_wp2
       exact⟨⟨k+1,y-o,by go_num,rfl,by omega,hcol2,xr.out.drewN nq⟩,by simp only[intOf];omega⟩
      ·rw[if_neg hneg] at hcol2
       by_cases hy:y-o<bb
       ·rw[if_pos hy] at hcol2
        gi_wp2
        refine Zg (by kernel_rfl) (by kernel_rfl) (by kernel_rfl) ?_
        repeat (gi_big_quiet_step (fail))
        refine wpQuietIn_nil ?_;rintro _ ⟨nq,rfl⟩
        gi_wp2
        exact⟨⟨k+1,y-o,by go_num,rfl,by omega,hcol2,xr.out.drewN nq⟩,by simp only[intOf];omega⟩
       ·rw[if_neg hy] at hcol2
        gi_wp2
        refine Zg (by kernel_rfl) (by kernel_rfl) (by kernel_rfl) ?_
        repeat (gi_big_quiet_step (fail))
        refine wpQuietIn_nil ?_;rintro _ ⟨nq,rfl⟩
        gi_wp2
        exact⟨⟨k+1,bb,by go_num,rfl,by omega,hcol2,xr.out.drewN nq⟩,by simp only[intOf];omega⟩
     ·obtain rfl:k=rows.length:=by omega
      have e1:rows.drop rows.length=[]:=List.drop_length;have hcol2:=hcol.out;rw[e1] at hcol2;obtain rfl:bb=cf:=by
       rw[<-hcol2]
       cases offs.drop rows.length<;>rfl
      have hw2:IntKind.i64.wrap (su+bb)=su+bb:=IntWalk.i64_in _ (by have:=bdS.out;have:=bdC.out;omega);have zW:wo.heap.size+1<=W.heap.size:=by simpa using HH'.out.1
      have q0:¬((rows.length:Int)<(rows.length:Int)):=by omega
      have F1:Hid (KeepsFrom (wo.heap.size+1) W (wr.setCell ⟨w.heap.size+1+1,0,none⟩ (.int .i64 (su+bb)))):=(KeepsFrom.of_ext xr.out).trans ((KeepsOthers.setCell _ _ _).from _);have F2:Hid (SetKp w.heap.size wo.heap.size W (wr.setCell ⟨w.heap.size+1+1,0,none⟩ (.int .i64 (su+bb)))):=⟨(xr.out.mono (by omega)).setCell (by simp<;>omega) _,(Below.heap_setCell wr ⟨w.heap.size+1+1,0,none⟩ _ wo.heap.size (by simp;omega)).trans (xr.out.block wo.heap.size (by omega))⟩;have F3:Hid (Blk (wr.setCell ⟨w.heap.size+1+1,0,none⟩ (.int .i64 (su+bb))) (w.heap.size+1+1) 3 #[.int .i64 (su+bb)]):=(HO'.out.ext xr.out).set 0 _;have F4:=Hd ((HH'.out.ext xr.out).set (.int .i64 (su+bb)));have F5:Hid (Ext w (wr.setCell ⟨w.heap.size+1+1,0,none⟩ (.int .i64 (su+bb)))):=(Below.trans HB'.out (xr.out.mono HB'.out.size)).setCell (by simp<;>omega) _;have cO2:wr.cell? ⟨w.heap.size+1+1,0,none⟩=some (.int .i64 su):=(HO'.out.ext xr.out).cell 0;have fO2:=(HO'.out.ext xr.out).free 0;clear hcol hcol2 e1 hcf START2
      gi_wp2
      exact⟨F1.out,F2.out,by rw[eN.out];exact F3.out,F4.out,F5.out⟩
   case done =>
    rintro D ys W hD rfl ⟨hO,_,hB⟩ hK;rw[Yr] at hO;have cO:=hO.cell 0
    gi_wp2
    refine⟨by simp,.inl ⟨_,_,rfl,run_takeDeferred hK,?_⟩⟩;refine⟨_,results_tmp rfl _ _ _,?_,hB.trans (belowK_b (w:=w) (Nat.le_refl _) W D _ _ (by simp at hD;omega) hK rfl rfl)⟩;rw[hoffs.out]
    rfl
   case stop =>
    rintro D c pre W _ _ h _;exact h.elim
theorem ZbS {base:Nat}(A:Option Addr)(rc:Nat)(us:List Value)(rows:List (List Int))(m:Nat)(hm:m<18446744073709551616)(h63:∀ x∈Zc m,x<63)(hlen:∀ row∈rows,∀ x∈Zc m,x<row.length)(hbd:∀ row∈rows,∀ x∈row,0<=x/\x<=2147483647)(hr64:rows.length<=64)
  (w:World) (hT:Tab w) (hV:RdV w 22 A us) (hR:RowsO w base us rows) :
  Calls Tryz.prog 263 #[.slice A rows.length rc,setV m] w fun e W'=>e=.returned (.int .i64 (Yn rows (Zc m)))/\Ext w W' :=
 callsIn_wide.1 (Zdj A rc us rows m hm h63 hlen hbd hr64 w hT hV hR)
end Go.Proofs.YtmojhhlcocjoaaaGreatDoor
namespace Go.Proofs.YtmojhhlcocjoaaaGreatDoor
open Go.RowKit Go.ChangeShapes Go.WideShapes Go.ChangeAt Go.Deep Go.Shelf
def Ys (rows:List (List Int))(p:List Int) : Int×Int :=
 match ZW rows.length p with
 | none=>(0,1)
 | some m=>(Zs rows p+(if p.length<rows.length then Yn (rows.drop p.length) (Zc m) else 0),0)
theorem ZaY {n:Nat} : ∀ {p:List Int} {m q:Nat},SubN n m->ZV m p=some q->∀ c∈p,0<=c/\c<n
 | [],_,_,_,_,c,hc=>by cases hc
 | d::p,m,q,h,e,c,hc=>by
  unfold ZV at e;split at e
  ·rename_i hd
   rcases List.mem_cons.1 hc with rfl | hc
   ·have:=h.2 c.toNat (Z1.2 ⟨by omega,hd.2.2⟩)
    omega
   ·exact ZaY (h.clr _) e c hc
  ·cases e
theorem Xt {n:Nat}(h24:n<=24){p:List Int}{q:Nat}(e:ZW n p=some q) : p.length<=n/\(∀ c∈p,0<=c/\c<n)/\SubN n q:=by
 unfold ZW at e;split at e
 ·cases e
 ·exact⟨by omega,ZaY (Yy h24) e,UO (Yy h24) e⟩
theorem QS : ∀ {rows:List (List Int)} {p:List Int} {k:Nat} {row:List Int} {c:Int},rows[k]?=some row->p[k]?=some c->Zs rows (p.take (k+1))=Zs rows (p.take k)+row.getD c.toNat 0
 | r::rows,d::p,0,row,c,h1,h2=>by
  simp at h1 h2;subst h1 h2
  cases rows<;>simp[Zs]
 | r::rows,d::p,k+1,row,c,h1,h2=>by
  simp at h1 h2;simp only[List.take_succ_cons,Zs];rw[QS h1 h2];omega
 | [],_,_,_,_,h1,_=>by simp at h1
 | _::_,[],_,_,_,_,h2=>by simp at h2
theorem QT {B:Int}(hB:0<=B) : ∀ {rows:List (List Int)} {p:List Int},(∀ row∈rows,∀ c∈p,0<=row.getD c.toNat 0/\row.getD c.toNat 0<=B)->0<=Zs rows p/\Zs rows p<=B*p.length
 | [],p,_=>by
  have:0<=B*(p.length:Int):=Int.mul_nonneg hB (by omega);simp only[Zs];omega
 | _::_,[],_=>by simp[Zs]
 | r::rows,d::p,h=>by
  have h1:=h r (by simp) d (by simp);have h2:=QT hB (rows:=rows) (p:=p) fun row hr c hc=>h row (by simp[hr]) c (by simp[hc])
  simp only[Zs,List.length_cons,Int.natCast_add,Int.natCast_one,Int.mul_add,Int.mul_one];omega
theorem ZbT {rows:List (List Int)}{m:Nat}(hr:rows.length<=24)(h:∀ row∈rows,∀ c∈Zc m,0<=row.getD c 0/\row.getD c 0<=2147483647) : -(2147483647*300)<=Yn rows (Zc m)/\Yn rows (Zc m)<=2147483647*300:=by
 have h1:∀ o∈Wr rows (Zc m),-2147483647<=o/\o<=2147483647:=fun o ho=>by
  obtain⟨row,hr,rfl⟩:=List.mem_map.1 ho;exact Yz (fun c hc=>by have:=h row hr c hc;omega) (by omega) (by omega)
 have h2:=Um (B:=2147483647) h1;have h3:(Wr rows (Zc m)).length=rows.length:=by simp[Wr]
 have h4:=Um (B:=2*2147483647) (l:=(Zc m).map fun c=>XE c (-1) rows (Wr rows (Zc m))) fun z hz=>by
  obtain⟨c,hc,rfl⟩:=List.mem_map.1 hz;exact Qr (fun row hr=>h row hr c hc) h1 (by omega) (by omega) (by omega)
 have h5:=Xq m;rw[List.length_map] at h4;unfold Yn;omega
theorem RowsO.drop {w:World}{base:Nat}{us:List Value}{rows:List (List Int)}(h:RowsO w base us rows)(k:Nat) : RowsO w base (us.drop k) (rows.drop k):=by
 refine⟨by rw[List.length_drop,List.length_drop,h.1],fun i r hr=>?_⟩;rw[List.getElem?_drop] at hr;obtain⟨A,c,h1,h2⟩:=h.2 (k+i) r hr;exact⟨A,c,by rw[List.getElem?_drop];exact h1,h2⟩
theorem ZbU {base g:Nat}{rows:List (List Int)}(P:Option Addr)(pc:Nat)(p:List Int)(w:World)(hT:Tab w)(H:KernA w base g rows)(ok:RowsOk rows)(hP:RdI w P p)(lp:p.length<=1000000000) :
  Calls Tryz.prog 259 #[.pointer (some ⟨g,0,none⟩),.slice P p.length pc] w fun e w'=>e=.returned (.tuple #[.int .i64 (Ys rows p).1,.int .i64 (Ys rows p).2])/\Ext w w':=by
 have FR:=fun(W:World) (x:Ext w W)=>ZaX P pc p W (H.ext x) ok.n1 ok.n2 (hP.ext x) lp
 have l1:=ok.n1;have l2:=ok.n2;obtain⟨C,cc,us,hB,_,hV,hR⟩:=H;have lus:Hid (us.length=rows.length):=hR.1;have lcc:rows.length<=cc:=by
  rcases hV.cases with⟨_,_,h,_⟩ | ⟨_,_,_,_,_,h,_⟩<;>omega
 obtain⟨r,hr⟩:∃ r,Hid (ZW rows.length p=r):=⟨_,rfl⟩;rw[hr.out] at FR
 cases r with
 | none =>
  have e:Ys rows p=(0,1):=by unfold Ys;rw[hr.out]
  rw[e];unfold JD setV at FR;replace FR:=Hd FR;go_enter Tryz.func259,Tryz.ntmps259;go_wp2_with (fail);refine(FR.out _ (Ext.rf w)).mono ?_;rintro e w1 ⟨rfl,x1⟩;go_wp2_with (fail);go_ret2;exact⟨rfl,by(repeat (first | assumption | exact Ext.rf _ | apply Ext.drew | apply Ext.drewN | apply Ext.alloc))⟩
 | some m =>
  obtain⟨hpl,hin,hS⟩:=Xt l2 hr.out;have e:Ys rows p=(Zs rows p+(if p.length<rows.length then Yn (rows.drop p.length) (Zc m) else 0),0):=by unfold Ys;rw[hr.out]
  obtain⟨tot,ht⟩:∃ tot,Hid (tot=Zs rows p+(if p.length<rows.length then Yn (rows.drop p.length) (Zc m) else 0)):=⟨_,rfl⟩;rw[e,<-ht.out];clear e;unfold JD setV at FR;replace FR:=Hd FR;replace hS:=Hd hS;replace hin:=Hd hin;replace ok:=Hd ok;replace hP:=Hd hP;replace hV:=Hd hV;replace hR:=Hd hR;replace hT:=Hd hT;replace hB:=Hd hB;go_enter Tryz.func259,Tryz.ntmps259;go_wp2_with (fail);refine(FR.out _ (Ext.rf w)).mono ?_;rintro e w1 ⟨rfl,x1⟩;have z1:=x1.size;have START:=Hd (And.intro (x1.alloc (.cells #[.int .u64 m,.int .u64 0] 141)) (show Blk (w1.alloc (.cells #[.int .u64 m,.int .u64 0] 141)) w1.heap.size 141 #[.int .u64 m,.int .u64 0] from .new rfl));obtain⟨sb,hsb⟩:∃ sb,Hid (sb=w1.heap.size):=⟨_,rfl⟩;have zsb:w.heap.size<=sb:=by rw[hsb.out];exact z1
  clear x1;go_wp2_with (fail);rw[<-hsb.out] at START ⊢;go_loopw [8,22] (fun s v wr=>∃ (k:Nat) (su:Int),v=.int .i64 k/\s=.int .i64 su/\k<=p.length/\Hid (Zs rows (p.take k)=su)/\Hid (Ext w wr/\Blk wr sb 141 #[.int .u64 m,.int .u64 0])) (fun _ v _=>p.length-(intOf v).toNat)
  case atStart=>exact⟨0,0,rfl,rfl,by omega,(by cases rows<;>rfl:Zs rows (p.take 0)=0),START⟩
  case round =>
   obtain⟨wo,rfl⟩:∃ wo:World,wo=wr:=⟨_,rfl⟩;clear START;obtain⟨k,su,rfl,rfl,hk,HS,HH⟩:=hrel;obtain⟨Y,bS⟩:=HH.out;have bdS:Hid (0<=su/\su<=2147483647*24):=by
    have h1:=QT (B:=2147483647) (rows:=rows) (p:=p.take k) (by omega) fun row hr c hc=>by
     have:=hin.out c (List.mem_of_mem_take hc);exact ok.out.get hr (by omega)
    have h2:(p.take k).length<=24:=by rw[List.length_take];omega
    have h:0<=su/\su<=2147483647*24:=by
     rw[<-HS.out];omega
    exact h
   replace Y:=Hd Y;replace bS:=Hd bS;clear HH;have bK:Blk wo g 121 #[.slice C rows.length cc]:=hB.out.ext Y.out;have cK:=bK.c0;clear bK
   by_cases hlt:k<p.length
   ·have hkr:k<rows.length:=by omega
    have er:rows[k]?=some rows[k]:=List.getElem?_eq_getElem hkr;obtain⟨D,d,hu,oD⟩:=hR.out.2 k _ er;have hmem:rows[k]∈rows:=List.getElem_mem hkr;generalize rows[k]=row at *;obtain⟨pb,po,c,rfl,zp,cp,ep,_⟩:=(hP.out.ext Y.out).at hlt;have hc:=hin.out c (List.mem_of_getElem? ep.out);obtain⟨ab,ao,vv,rfl,zv,cv,ev⟩:=(hV.out.read.ext Y.out).at (j:=k) (by rw[lus.out];exact hkr);obtain rfl:.slice D row.length d=vv:=by
     have h:=ev.out;rw[hu] at h;exact Option.some.inj h
    obtain⟨i,rfl⟩:∃ i:Nat,c=(i:Int):=⟨c.toNat,by omega⟩;have lrow:=ok.out.row row hmem;obtain⟨cb,co,y,rfl,zy,cy,ey,_⟩:=(oD.read.ext Y.out).at (k:=i) (by omega);have yb:=ok.out.get hmem (c:=i) (by omega);rw[getD_some ey.out] at yb;have b1:=bdS.out;have hw:IntKind.i64.wrap (su+y)=su+y:=IntWalk.i64_in _ (by omega);have HS2:Hid (Zs rows (p.take (k+1))=su+y):=Hd (by
     rw[QS er ep.out,HS.out,Int.toNat_natCast,getD_some ey.out])
    have q1:(k:Int)<(rows.length:Int):=by omega
    have q2:(k:Int)<(p.length:Int):=by omega
    have q3:(i:Int)<(row.length:Int):=by omega
    have FIN:Hid (Ext w wo/\Blk wo sb 141 #[.int .u64 m,.int .u64 0]):=⟨Y.out,bS.out⟩;clear ev hu oD er ep ey lrow b1 yb HS hc;go_wp2_with (fail);go_roundw
    case rel=>exact⟨k+1,su+y,by go_num,rfl,by omega,HS2,FIN⟩
    case measure=>simp only[intOf];omega
   ·obtain rfl:k=p.length:=by omega
    have HS2:Hid (Zs rows p=su):=by
     have h:=HS.out;rw[List.take_length] at h;exact h
    clear HS;have cS0:=bS.out.c0;have cS1:=bS.out.c1
    by_cases hlr:p.length<rows.length
    ·have ht2:=ht.out
     rw[if_pos hlr,HS2.out] at ht2;replace ht2:=Hd ht2;have b1:(0:Int)<=(p.length:Int):=by omega
     have b2:(p.length:Int)<=(cc:Int):=by omega
     have b3:(p.length:Int)<=(rows.length:Int):=by omega
     have q0:¬((p.length:Int)<(p.length:Int)):=by omega
     have RE:=fun(W:World) (x:Ext w W) (A:Option Addr) (rc:Nat) (hA:RdV W 22 A (us.drop p.length)) (hRo:RowsO W base (us.drop p.length) (rows.drop p.length))=>ZbS (base:=base) A rc (us.drop p.length) (rows.drop p.length) m hS.out.1 (fun x hx=>by have:=hS.out.2 x hx;omega) (fun row hr x hx=>by rw[ok.out.row row (List.mem_of_mem_drop hr)];exact hS.out.2 x hx) (fun row hr=>ok.out.num row (List.mem_of_mem_drop hr)) (by rw[List.length_drop];omega) W (hT.out.ext x) hA hRo
     have RB:=ZbT (rows:=rows.drop p.length) (m:=m) (by rw[List.length_drop];omega) (fun row hr c hc=>ok.out.get (List.mem_of_mem_drop hr) (hS.out.2 c hc));rw[List.length_drop] at RE;unfold setV at RE;replace RE:=Hd RE;generalize Yn (rows.drop p.length) (Zc m)=rp at *;have hw2:IntKind.i64.wrap (su+rp)=su+rp:=IntWalk.i64_in _ (by have:=bdS.out;omega);clear RB;go_wp2_with (fail);refine(RE.out wo Y.out _ _ ((hV.out.read.ext Y.out).drop p.length) ((hR.out.ext Y.out).drop p.length)).mono ?_;rintro e w3 ⟨rfl,x3⟩;go_wp2_with (fail);obtain rfl:tot=su+rp:=ht2.out;go_ret2;exact⟨rfl,Y.out.tr x3⟩
    ·have ht2:=ht.out
     rw[if_neg hlr,HS2.out,Int.add_zero] at ht2;have b1:(0:Int)<=(p.length:Int):=by omega
     have b2:(p.length:Int)<=(cc:Int):=by omega
     have b3:(p.length:Int)<=(rows.length:Int):=by omega
     have q0:¬((p.length:Int)<(p.length:Int)):=by omega
     obtain rfl:tot=su:=ht2;go_wp2_with (fail)
     all_goals go_ret2
     all_goals exact⟨rfl,Y.out⟩
def YF (ks:List Int)(err:Int)(w:World)(e:Ending)(w':World) : Prop:=∃ A c,e=.returned (.tuple #[.slice A ks.length c,.int .i64 err])/\OwI w' w.heap.size A c ks/\Ext w w'
def Apart (R:Nat->Nat->Prop)(a b:List Nat) : Prop:=∀ x∈a,∀ y∈b,R x y
theorem Apart.nil_left {R:Nat->Nat->Prop}(b:List Nat) : Apart R [] b:=fun _ hx=>absurd hx List.not_mem_nil
theorem Apart.perm {R:Nat->Nat->Prop}{a b a' b':List Nat}(h:Apart R a b)(ha:a'.Perm a)(hb:b'.Perm b) : Apart R a' b':=fun x hx y hy=>h x (ha.mem_iff.1 hx) y (hb.mem_iff.1 hy)
theorem Apart.app_left {R:Nat->Nat->Prop}{a b c:List Nat} : Apart R (a++b) c↔Apart R a c/\Apart R b c:=by
 constructor
 ·exact fun h=>⟨fun x hx=>h x (by simp[hx]),fun x hx=>h x (by simp[hx])⟩
 ·rintro ⟨h1,h2⟩ x hx
  rcases List.mem_append.1 hx with hx | hx
  ·exact h1 x hx
  ·exact h2 x hx
theorem Apart.app_right {R:Nat->Nat->Prop}{a b c:List Nat} : Apart R a (b++c)↔Apart R a b/\Apart R a c:=by
 constructor
 ·exact fun h=>⟨fun x hx y hy=>h x hx y (by simp[hy]),fun x hx y hy=>h x hx y (by simp[hy])⟩
 ·rintro ⟨h1,h2⟩ x hx y hy
  rcases List.mem_append.1 hy with hy | hy
  ·exact h1 x hx y hy
  ·exact h2 x hx y hy
theorem Zq {R:Nat->Nat->Prop}{a b:List Nat} : (a++b).Pairwise R↔a.Pairwise R/\b.Pairwise R/\Apart R a b:=List.pairwise_append
abbrev Srt (lt:Nat->Nat->Bool)(l:List Nat) : Prop:=l.Pairwise (strictly lt)
def Is (lt:Nat->Nat->Bool)(l m:List Nat) : Prop:=m.Perm l/\Srt lt m
theorem Zdk {lt:Nat->Nat->Bool}(h:Weak lt){A B:List Nat}{x:Nat}(hs:Srt lt (A++B))(hlt:Apart (· < ·) (A++B) [x])(hB:∀ y∈B,lt x y=true)(hA:∀ y,A.getLast?=some y->lt x y=false) : Srt lt (A++[x]++B):=by
 have hs':=Zq.1 hs;have hAx:Apart (strictly lt) A [x]:=by
  intro y hy z hz;obtain rfl:=List.mem_singleton.1 hz
  cases hl:A.getLast? with
  | none=>simp at hl;subst hl;simp at hy
  | some q =>
   have hq:=hA q hl;have hqz:strictly lt q z:=.inr ⟨hq,hlt q (by simp[List.mem_of_getLast? hl]) z (by simp)⟩;obtain⟨A',rfl⟩:∃ A',A=A'++[q]:=by
    have hne:A≠[]:=by rintro rfl;simp at hl
    refine⟨A.dropLast,?_⟩;rw[List.getLast?_eq_some_getLast hne] at hl;rw[<-Option.some.inj hl];exact(List.dropLast_concat_getLast hne).symm
   rcases List.mem_append.1 hy with hy | hy
   ·exact h.trans ((Zq.1 hs'.1).2.2 y hy q (by simp)) hqz
   ·obtain rfl:=List.mem_singleton.1 hy
    exact hqz
 refine Zq.2 ⟨Zq.2 ⟨hs'.1,List.pairwise_singleton _ _,hAx⟩,hs'.2.1,Apart.app_left.2 ⟨hs'.2.2,?_⟩⟩;intro z hz y hy;obtain rfl:=List.mem_singleton.1 hz;exact .inl (hB y hy)
theorem Qh {lt:Nat->Nat->Bool}(h:Weak lt){x y z:Nat}(h1:lt y x=false)(h2:lt y z=true) : lt x z=true:=by
 rcases h.neg y x z h2 with h3 | h3
 ·rw[h1] at h3;cases h3
 ·exact h3
theorem Qi {lt:Nat->Nat->Bool}(h:Weak lt){x y z:Nat}(h1:lt x y=true)(h2:lt z y=false) : lt x z=true:=by
 rcases h.neg x z y h1 with h3 | h3
 ·exact h3
 ·rw[h2] at h3;cases h3
theorem strictly.le {lt:Nat->Nat->Bool}(h:Weak lt){x y:Nat}(hs:strictly lt x y) : lt y x=false:=by
 rcases hs with h1 | ⟨h1,_⟩
 ·exact h.asym _ _ h1
 ·exact h1
theorem Zex {lt:Nat->Nat->Bool}(h:Weak lt){l:List Nat}(hs:Srt lt l){i j a b:Nat}(hij:i<=j)(ha:l[i]?=some a)(hb:l[j]?=some b) : lt b a=false:=by
 rcases Nat.lt_or_eq_of_le hij with hij | rfl
 ·obtain⟨hi,rfl⟩:=List.getElem?_eq_some_iff.1 ha
  obtain⟨hj,rfl⟩:=List.getElem?_eq_some_iff.1 hb;exact(List.pairwise_iff_getElem.1 hs i j hi hj hij).le h
 ·rw[ha] at hb
  obtain rfl:=Option.some.inj hb
  cases hx:lt a a with
  | false=>rfl
  | true=>have:=h.asym _ _ hx;rw[hx] at this;cases this
theorem Ws {lt:Nat->Nat->Bool}(h:Weak lt){L1 L2 R1 R2:List Nat}(hl:Srt lt (L1++L2))(hr:Srt lt (R1++R2))(hlt:Apart (· < ·) (L1++L2) (R1++R2))
  (h1:∀ x y,L1.getLast?=some x->R2.head?=some y->lt y x=false) (h2:∀ x y,R1.getLast?=some x->L2.head?=some y->lt x y=true) :
  Apart (strictly lt) (L1++R1) (L2++R2):=by
 have hl':=Zq.1 hl;have hr':=Zq.1 hr;have last_le:∀ {l:List Nat},Srt lt l->∀ {x q:Nat},x∈l->l.getLast?=some q->lt q x=false:=by
  intro l hs x q hx hq;obtain⟨i,hi,rfl⟩:=List.mem_iff_getElem.1 hx;rw[List.getLast?_eq_getElem?] at hq;exact Zex h hs (i:=i) (j:=l.length-1) (by omega) (List.getElem?_eq_getElem hi) hq
 have head_le:∀ {l:List Nat},Srt lt l->∀ {x q:Nat},x∈l->l.head?=some q->lt x q=false:=by
  intro l hs x q hx hq;obtain⟨i,hi,rfl⟩:=List.mem_iff_getElem.1 hx;rw[List.head?_eq_getElem?] at hq;exact Zex h hs (i:=0) (j:=i) (by omega) hq (List.getElem?_eq_getElem hi)
 have ex_last:∀ {l:List Nat} {x:Nat},x∈l->∃ q,l.getLast?=some q:=by
  intro l x hx
  cases hq:l.getLast? with
  | none=>simp at hq;subst hq;simp at hx
  | some q=>exact⟨q,rfl⟩
 have ex_head:∀ {l:List Nat} {x:Nat},x∈l->∃ q,l.head?=some q:=by
  intro l x hx
  cases l with
  | nil=>simp at hx
  | cons a l=>exact⟨a,rfl⟩
 refine Apart.app_left.2 ⟨Apart.app_right.2 ⟨hl'.2.2,?_⟩,Apart.app_right.2 ⟨?_,hr'.2.2⟩⟩
 ·intro x hx y hy
  obtain⟨p,hp⟩:=ex_last hx;obtain⟨q,hq⟩:=ex_head hy;refine .inr ⟨?_,hlt x (by simp[hx]) y (by simp[hy])⟩;have a1:=last_le hl'.1 hx hp;have a2:=head_le hr'.2.1 hy hq;have a3:=h1 p q hp hq
  cases hyx:lt y x with
  | false=>rfl
  | true =>
   have b1:=Qi h hyx a1;have b2:=Qh h a2 b1;rw[a3] at b2;cases b2
 ·intro x hx y hy
  obtain⟨p,hp⟩:=ex_last hx;obtain⟨q,hq⟩:=ex_head hy;have a1:=last_le hr'.1 hx hp;have a2:=head_le hl'.2.1 hy hq;have a3:=h2 p q hp hq;exact .inl (Qi h (Qh h a1 a3) a2)
section
variable {α:Type}
theorem ZaZ (P Q:List α)(y x:α) : ((P++(y::(x::Q))).set (P.length+1) y).set P.length x=P++(x::(y::Q)):=by
 rw[List.set_append_right _ _ (by omega),show P.length+1-P.length=1 by omega,List.set_append_right _ _ (by omega),show P.length-P.length=0 by omega]
 rfl
theorem Zdl (P Q:List α)(y x:α) : ((P++(y::(x::Q))).set P.length x).set (P.length+1) y=P++(x::(y::Q)):=by
 rw[List.set_append_right _ _ (by omega),show P.length-P.length=0 by omega,List.set_append_right _ _ (by omega),show P.length+1-P.length=1 by omega]
 rfl
theorem ZcF (P Q:List α)(y x:α) : (P++(y::(x::Q)))[P.length]?=some y/\(P++(y::(x::Q)))[P.length+1]?=some x:=by
 constructor
 ·rw[List.getElem?_append_right (by omega),show P.length-P.length=0 by omega];rfl
 ·rw[List.getElem?_append_right (by omega),show P.length+1-P.length=1 by omega];rfl
def SwR (l l':List α)(a b i:Nat) : Prop:=l'.length=l.length/\∀ k,k<l.length->l'[k]?=if a<=k/\k<a+i then l[k-a+b]? else if b<=k/\k<b+i then l[k-b+a]? else l[k]?
theorem SwR.start (l:List α)(a b:Nat) : SwR l l a b 0:=⟨rfl,fun k hk=>by rw[if_neg (by omega),if_neg (by omega)]⟩
theorem SwR.step {l l':List α}{a b n i:Nat}{x y:α}(h:SwR l l' a b i)(hab:a+n<=b)(hb:b+n<=l.length)(hi:i<n)(hx:l'[a+i]?=some x)(hy:l'[b+i]?=some y) : SwR l ((l'.set (a+i) y).set (b+i) x) a b (i+1):=by
 obtain⟨h1,h2⟩:=h;have ea:=h2 (a+i) (by omega);have eb:=h2 (b+i) (by omega);rw[if_neg (by omega),if_neg (by omega),hx] at ea;rw[if_neg (by omega),if_neg (by omega),hy] at eb;refine⟨by simpa using h1,fun k hk=>?_⟩
 by_cases hkb:b+i=k
 ·subst hkb
  rw[List.getElem?_set_self (by rw[List.length_set];omega),if_neg (by omega),if_pos (by omega),show b+i-b+a=a+i by omega,<-ea]
 ·rw[List.getElem?_set_ne hkb]
  by_cases hka:a+i=k
  ·subst hka
   rw[List.getElem?_set_self (by omega),if_pos (by omega),show a+i-a+b=b+i by omega,<-eb]
  ·rw[List.getElem?_set_ne hka,h2 k hk]
   by_cases c1:a<=k/\k<a+i
   ·rw[if_pos c1,if_pos (by omega)]
   ·rw[if_neg c1,if_neg (show ¬(a<=k/\k<a+(i+1)) by omega)]
    by_cases c2:b<=k/\k<b+i
    ·rw[if_pos c2,if_pos (by omega)]
    ·rw[if_neg c2,if_neg (by omega)]
theorem SwR.done {P A M B Q l':List α}{a b n:Nat}(h:SwR (P++(A++(M++(B++Q)))) l' a b n)(ha:P.length=a)(hA:A.length=n)(hB:B.length=n)(hb:a+n+M.length=b) : l'=P++(B++(M++(A++Q))):=by
 obtain⟨h1,h2⟩:=h;subst ha hA hb;apply List.ext_getElem?;intro k
 by_cases hk:k<(P++(A++(M++(B++Q)))).length
 ·rw[h2 k hk]
  simp only[List.length_append] at hk
  by_cases c0:k<P.length
  ·rw[if_neg (by omega),if_neg (by omega),List.getElem?_append_left c0,List.getElem?_append_left c0]
  ·rw[List.getElem?_append_right (l₂:=B++(M++(A++Q))) (by omega)]
   by_cases c1:k<P.length+A.length
   ·rw[if_pos (by omega),List.getElem?_append_left (l₁:=B) (by omega),List.getElem?_append_right (by omega),List.getElem?_append_right (by omega),List.getElem?_append_right (by omega),List.getElem?_append_left (by omega)]
    congr 1;omega
   ·rw[if_neg (by omega),List.getElem?_append_right (l₁:=B) (by omega)]
    by_cases c2:k<P.length+A.length+M.length
    ·rw[if_neg (by omega),List.getElem?_append_right (by omega),List.getElem?_append_right (by omega),List.getElem?_append_left (by omega),List.getElem?_append_left (by omega)]
     congr 1;omega
    ·rw[List.getElem?_append_right (l₁:=M) (l₂:=A++Q) (by omega)]
     by_cases c3:k<P.length+A.length+M.length+A.length
     ·rw[if_pos (by omega),List.getElem?_append_right (by omega),List.getElem?_append_left (by omega),List.getElem?_append_left (by omega)]
      congr 1;omega
     ·rw[if_neg (by omega),List.getElem?_append_right (by omega),List.getElem?_append_right (by omega),List.getElem?_append_right (by omega),List.getElem?_append_right (by omega),List.getElem?_append_right (by omega)]
      congr 1;omega
 ·have hl:l'.length<=k:=by omega
  rw[List.getElem?_eq_none hl,List.getElem?_eq_none (by simp only[List.length_append] at hk ⊢;omega)]
theorem Zey (l:List α)(n:Nat)(h:n<=l.length) : ∃ a b,l=a++b/\a.length=n:=⟨l.take n,l.drop n,(List.take_append_drop n l).symm,by rw[List.length_take];omega⟩
theorem QU (l:List α)(n:Nat)(h:n<=l.length) : ∃ a b,l=a++b/\b.length=n:=⟨l.take (l.length-n),l.drop (l.length-n),(List.take_append_drop _ l).symm,by rw[List.length_drop];omega⟩
theorem Zge (P Q:List α)(k j:Nat)(h:P.length+j=k) : (P++Q)[k]?=Q[j]?:=by
 rw[List.getElem?_append_right (by omega)];congr 1;omega
end
theorem ZcG {lt:Nat->Nat->Bool}(h:Weak lt){A B:List Nat}{x:Nat}(hs:Srt lt (A++B))(hlt:Apart (· < ·) (A++B) [x])(hB:∀ y∈B,lt x y=true)(hA:∀ y,A.getLast?=some y->lt x y=false) : Srt lt (A++(x::B)):=by
 have:=Zdk h hs hlt hB hA
 rwa [List.append_assoc] at this
theorem Zez {lt:Nat->Nat->Bool}(h:Weak lt){x:Nat}{R1 R2:List Nat}(hr:Srt lt (R1++R2))(hlt:Apart (· < ·) [x] (R1++R2))(h1:∀ y,R1.getLast?=some y->lt y x=true)(h2:∀ y,R2.head?=some y->lt y x=false) : Srt lt (R1++(x::R2)):=by
 have hx:Srt lt [x]:=List.pairwise_singleton _ _;have a1:=Ws h (L1:=[]) (L2:=[x]) (R1:=R1) (R2:=R2) hx hr hlt (by simp) (by
  intro p q hp hq;simp only[List.head?_cons,Option.some.injEq] at hq;subst hq;exact h1 p hp)
 have a2:=Ws h (L1:=[x]) (L2:=[]) (R1:=[]) (R2:=R2) hx (Zq.1 hr).2.1 (Apart.app_right.1 hlt).2 (by
  intro p q hp hq;simp only[List.getLast?_singleton,Option.some.injEq] at hp;subst hp;exact h2 q hq) (by simp)
 refine Zq.2 ⟨(Zq.1 hr).1,List.pairwise_cons.2 ⟨fun y hy=>a2 x (by simp) y (by simpa using hy),(Zq.1 hr).2.1⟩,?_⟩;intro p hp q hq;exact a1 p (by simpa using hp) q (by simpa using hq)
theorem Zdm {lt:Nat->Nat->Bool}(h:Weak lt){y:Nat}{L1 L2:List Nat}(hl:Srt lt (L1++L2))(hlt:Apart (· < ·) (L1++L2) [y])(h1:∀ x,L1.getLast?=some x->lt y x=false)(h2:∀ x,L2.head?=some x->lt y x=true) : Srt lt (L1++(y::L2)):=by
 have hy:Srt lt [y]:=List.pairwise_singleton _ _;have a1:=Ws h (L1:=L1) (L2:=L2) (R1:=[y]) (R2:=[]) hl hy hlt (by simp) (by
  intro p q hp hq;simp only[List.getLast?_singleton,Option.some.injEq] at hp;subst hp;exact h2 q hq)
 have a2:=Ws h (L1:=L1) (L2:=[]) (R1:=[]) (R2:=[y]) (by simpa using (Zq.1 hl).1) hy (by simpa using (Apart.app_left.1 hlt).1) (by
  intro p q hp hq;simp only[List.head?_cons,Option.some.injEq] at hq;subst hq;exact h1 p hp) (by simp)
 refine Zq.2 ⟨(Zq.1 hl).1,List.pairwise_cons.2 ⟨fun x hx=>a1 y (by simp) x (by simpa using hx),(Zq.1 hl).2.1⟩,?_⟩;intro p hp q hq;rcases List.mem_cons.1 hq with rfl | hq
 ·exact a2 p (by simpa using hp) q (by simp)
 ·exact(Zq.1 hl).2.2 p hp q hq
theorem Is.rf {lt:Nat->Nat->Bool}{l:List Nat}(h:Srt lt l) : Is lt l l:=⟨List.Perm.refl _,h⟩
theorem Is.join {lt:Nat->Nat->Bool}{l1 l2 m1 m2:List Nat}(h1:Is lt l1 m1)(h2:Is lt l2 m2)(ha:Apart (strictly lt) l1 l2) : Is lt (l1++l2) (m1++m2) :=
 ⟨h1.1.append h2.1,Zq.2 ⟨h1.2,h2.2,ha.perm h1.1 h2.1⟩⟩
theorem Is.perm {lt:Nat->Nat->Bool}{l l' m:List Nat}(h:Is lt l m)(hp:l.Perm l') : Is lt l' m:=⟨h.1.trans hp,h.2⟩
theorem Is.len {lt:Nat->Nat->Bool}{l m:List Nat}(h:Is lt l m) : m.length=l.length:=h.1.length_eq
theorem Is.mem {lt:Nat->Nat->Bool}{l m:List Nat}(h:Is lt l m){x:Nat} : x∈m↔x∈l:=h.1.mem_iff
theorem Is.one {lt:Nat->Nat->Bool}(h:Weak lt){l m m':List Nat}(h1:Is lt l m)(h2:Is lt l m') : m=m' :=
 List.Perm.eq_of_pairwise (le:=strictly lt) (fun _ _ _ _ h3 h4=>absurd h4 (h.asymm h3)) h1.2 h2.2 (h1.1.trans h2.1.symm)
theorem Zdn (A B C D:List Nat) : ((A++C)++(B++D)).Perm ((A++B)++(C++D)):=by
 simp only[List.append_assoc];refine List.Perm.append_left A ?_;rw[<-List.append_assoc,<-List.append_assoc];exact List.Perm.append_right D List.perm_append_comm
def Bls (lt:Nat->Nat->Bool)(bs:Nat) : List (List Nat)->Prop
 | []=>True
 | m::ms=>Srt lt m/\0<m.length/\m.length<=bs/\(ms≠[]->m.length=bs)/\Apart (· < ·) m ms.flatten/\Bls lt bs ms
theorem Bls.cons {lt:Nat->Nat->Bool}{bs:Nat}{m:List Nat}{ms:List (List Nat)}(h:Bls lt bs (m::ms)) : Srt lt m/\0<m.length/\m.length<=bs/\(ms≠[]->m.length=bs)/\Apart (· < ·) m ms.flatten/\Bls lt bs ms:=h
theorem Bls.snoc {lt:Nat->Nat->Bool}{bs:Nat}{m:List Nat}(hm:Srt lt m)(h0:0<m.length)(hb:m.length<=bs) : ∀ {ms:List (List Nat)},Bls lt bs ms->(∀ x∈ms,x.length=bs)->Apart (· < ·) ms.flatten m->Bls lt bs (ms++[m])
 | [],_,_,_=>⟨hm,h0,hb,fun h=>absurd rfl h,by simp[Apart],trivial⟩
 | x::ms,h,hl,ha=>by
  obtain⟨h1,h2,h3,_,h5,h6⟩:=h.cons;have ha':=Apart.app_left.1 (by simpa using ha:Apart (· < ·) (x++ms.flatten) m);refine⟨h1,h2,h3,fun _=>hl x (by simp),?_,Bls.snoc hm h0 hb h6 (fun y hy=>hl y (by simp[hy])) ha'.2⟩;show Apart (· < ·) x (ms++[m]).flatten;rw[List.flatten_append];exact Apart.app_right.2 ⟨h5,by simpa using ha'.1⟩
theorem Bls.tail {lt:Nat->Nat->Bool}{bs:Nat}{ms:List (List Nat)}(h:Bls lt bs ms)(hl:ms.flatten.length<2*bs) : ms=[]\/(∃ L,ms=[L]/\Srt lt L/\0<L.length/\L.length<=bs)\/∃ L R,ms=[L,R]/\Srt lt L/\Srt lt R/\L.length=bs/\0<R.length/\Apart (· < ·) L R:=by
 match ms,h with
 | [],_=>exact .inl rfl
 | [L],h=>exact .inr (.inl ⟨L,rfl,h.1,h.2.1,h.2.2.1⟩)
 | [L,R],h=>exact .inr (.inr ⟨L,R,rfl,h.1,h.cons.2.2.2.2.2.1,h.cons.2.2.2.1 (by simp),h.cons.2.2.2.2.2.2.1,by simpa using h.cons.2.2.2.2.1⟩)
 | L::R::S::ms,h =>
  exfalso
  have e1:=h.cons.2.2.2.1 (by simp);have e2:=h.cons.2.2.2.2.2.2.2.2.1 (by simp);simp only[List.flatten_cons,List.length_append] at hl;omega
theorem Bls.two {lt:Nat->Nat->Bool}{bs:Nat}{ms:List (List Nat)}(h0:0<bs)(h:Bls lt bs ms)(hl:2*bs<=ms.flatten.length) : ∃ L R ms',ms=L::R::ms'/\Srt lt L/\Srt lt R/\L.length=bs/\R.length=bs/\Apart (· < ·) L R/\Apart (· < ·) (L++R) ms'.flatten/\Bls lt bs ms':=by
 match ms,h with
 | [],_=>simp at hl;omega
 | [L],h =>
  exfalso
  have:=h.cons.2.2.1;simp at hl;omega
 | L::R::ms',h =>
  obtain⟨a1,a2,a3,a4,a5,b1,b2,b3,b4,b5,b6⟩:=h;have a5':=Apart.app_right.1 (by simpa using a5:Apart (· < ·) L (R++ms'.flatten));refine⟨L,R,ms',rfl,a1,b1,a4 (by simp),?_,a5'.1,Apart.app_left.2 ⟨a5'.2,b5⟩,b6⟩
  cases ms' with
  | nil =>
   have:=a4 (by simp);simp only[List.flatten_cons,List.length_append,List.flatten_nil,List.length_nil] at hl;omega
  | cons x y=>exact b4 (by simp)
theorem Bls.one {lt:Nat->Nat->Bool}{bs:Nat}{ms:List (List Nat)}(h:Bls lt bs ms)(hl:ms.flatten.length<=bs) : Srt lt ms.flatten:=by
 match ms,h with
 | [],_=>exact List.Pairwise.nil
 | [L],h=>simpa using h.1
 | L::R::ms',h =>
  exfalso
  have e1:=h.cons.2.2.2.1 (by simp);have e2:=h.cons.2.2.2.2.2.2.1;simp only[List.flatten_cons,List.length_append] at hl;omega
theorem Zdo {α:Type}{l:List α}{t:Nat}{y:α}(h:l[t]?=some y) : (l.take (t+1)).getLast?=some y:=by
 rw[List.take_add_one,h];simp
theorem Zdp {α:Type}{l:List α}{t:Nat}{y:α}(h:l[t]?=some y) : (l.drop t).head?=some y:=by
 rw[List.head?_drop,h]
theorem Un {α:Type}{l:List α}{k:Nat}{x:α}(hk:k<=l.length)(h:(l.take k).getLast?=some x) : 0<k/\l[k-1]?=some x:=by
 rw[List.getLast?_eq_getElem?,List.length_take,Nat.min_eq_left hk,List.getElem?_take] at h;split at h
 ·exact⟨by omega,h⟩
 ·cases h
def SymR (lt:Nat->Nat->Bool)(L R:List Nat)(a mid lo hi s r:Nat) : Prop :=
 lo<=s/\s<=r/\r<=hi/\(∀ x y,lo<s->L[s-1-a]?=some x->R[mid-s]?=some y->lt y x=false)/\(∀ x y,r<hi->L[r-a]?=some x->R[mid-1-r]?=some y->lt y x=true)
theorem SymR.start (lt:Nat->Nat->Bool)(L R:List Nat)(a mid:Nat){lo hi:Nat}(h:lo<=hi) : SymR lt L R a mid lo hi lo hi :=
 ⟨Nat.le_refl _,h,Nat.le_refl _,fun _ _ h=>absurd h (Nat.lt_irrefl _),fun _ _ h=>absurd h (Nat.lt_irrefl _)⟩
theorem SymR.left {lt:Nat->Nat->Bool}{L R:List Nat}{a mid lo hi s r c x y:Nat}(h:SymR lt L R a mid lo hi s r)(h1:s<=c)(h2:c<r)(hx:L[c-a]?=some x)(hy:R[mid-1-c]?=some y)(hl:lt y x=false) : SymR lt L R a mid lo hi (c+1) r:=by
 obtain⟨g1,g2,g3,_,g5⟩:=h;refine⟨by omega,by omega,g3,fun x' y' _ hx' hy'=>?_,g5⟩;rw[show c+1-1-a=c-a by omega,hx] at hx';rw[show mid-(c+1)=mid-1-c by omega,hy] at hy';obtain rfl:=Option.some.inj hx';obtain rfl:=Option.some.inj hy';exact hl
theorem SymR.right {lt:Nat->Nat->Bool}{L R:List Nat}{a mid lo hi s r c x y:Nat}(h:SymR lt L R a mid lo hi s r)(h1:s<=c)(h2:c<r)(hx:L[c-a]?=some x)(hy:R[mid-1-c]?=some y)(hl:lt y x=true) : SymR lt L R a mid lo hi s c:=by
 obtain⟨g1,g2,g3,g4,_⟩:=h;refine⟨g1,h1,by omega,g4,fun x' y' _ hx' hy'=>?_⟩;rw[hx] at hx';rw[hy] at hy';obtain rfl:=Option.some.inj hx';obtain rfl:=Option.some.inj hy';exact hl
theorem ZcH {lt:Nat->Nat->Bool}(h:Weak lt){L R:List Nat}{a m b mid lo hi s:Nat}(hl:Srt lt L)(hr:Srt lt R)(hlt:Apart (· < ·) L R)(hL:a+L.length=m)(hR:m+R.length=b)(hs:SymR lt L R a mid lo hi s s)
  (hc:(m<=mid/\lo=a/\hi=m)\/(mid<m/\lo+b=mid+m/\hi=mid)) (hmid:2*mid<=a+b) (ha:a<=lo):Apart (strictly lt) (L.take (s-a)++R.take (mid-s)) (L.drop (s-a)++R.drop (mid-s)):=by
 obtain⟨g1,_,g3,g4,g5⟩:=hs;refine Ws h (by rwa [List.take_append_drop]) (by rwa [List.take_append_drop]) (by rwa [List.take_append_drop,List.take_append_drop]) ?_ ?_
 ·intro x y hx hy
  obtain⟨k0,hx⟩:=Un (by omega) hx;rw[List.head?_drop] at hy;have hlen:=(List.getElem?_eq_some_iff.1 hy).1;exact g4 x y (by omega) (by rw[show s-1-a=s-a-1 by omega];exact hx) hy
 ·intro x y hx hy
  obtain⟨k0,hx⟩:=Un (by omega) hx;rw[List.head?_drop] at hy;have hlen:=(List.getElem?_eq_some_iff.1 hy).1;exact g5 y x (by omega) hy (by rw[show mid-1-s=mid-s-1 by omega];exact hx)
theorem Apart.rise {l1 l2:List Nat}(h:(l1++l2).Pairwise (· < ·)) : Apart (· < ·) l1 l2:=(Zq.1 h).2.2
end Go.Proofs.YtmojhhlcocjoaaaGreatDoor
namespace Go.Proofs.YtmojhhlcocjoaaaGreatDoor
def Xz (lt:Nat->Nat->Bool)(l:List Nat) : List Nat:=ZE lt l.length l
theorem ZeA {lt:Nat->Nat->Bool}(h:Weak lt){l:List Nat}(hr:l.Pairwise (· < ·)) : Is lt l (Xz lt l):=⟨ZP _ _ _,Xk h _ _ (by omega) hr⟩
theorem ZeB {lt:Nat->Nat->Bool}(h:Weak lt){l m:List Nat}(hr:l.Pairwise (· < ·))(hm:Is lt l m) : m=Xz lt l:=hm.one h (ZeA h hr)
theorem JE (lt:Nat->Nat->Bool)(l:List Nat) : (Xz lt l).length=l.length:=(ZP _ _ _).length_eq
end Go.Proofs.YtmojhhlcocjoaaaGreatDoor
namespace Go.Proofs.YtmojhhlcocjoaaaGreatDoor
open Go.RowKit Go.ChangeShapes Go.WideShapes Go.ChangeAt Go.Deep
def OwN (w:World)(base g c:Nat)(l:List Nat) : Prop:=OwI w base (some ⟨g,0,none⟩) c (Ze l)
theorem UQ {l:List Nat}{k n:Nat}(h:l[k]?=some n) : (Ze l)[k]?=some (n:Int):=by simp[Ze,h]
theorem Zdq (l:List Nat)(k m:Nat) : (Ze l).set k (m:Int)=Ze (l.set k m):=by simp[Ze,List.map_set]
theorem OwN.cell {w:World}{base g c:Nat}{l:List Nat}(h:OwN w base g c l){k n:Nat}(hk:l[k]?=some n) :
  w.cell? ⟨g,k,none⟩=some (.int .i64 n)/\w.frozen? ⟨g,k,none⟩=false/\Hid (∀ m:Nat,OwN (w.setCell ⟨g,k,none⟩ (.int .i64 m)) base g c (l.set k m)):=by
 have hl:=(List.getElem?_eq_some_iff.1 hk).1;obtain⟨x,h1,h2,_,h3,h4⟩:=OwI.cell h (k:=k) (by rw[Zm];exact hl);have e:=h3.out;rw[UQ hk] at e;obtain rfl:=Option.some.inj e;exact⟨h1,h2,fun m=>by have:=h4.out (m:Int);rw[Zdq] at this;exact this⟩
theorem OwN.ext {w w':World}{base g c:Nat}{l:List Nat}(h:OwN w base g c l)(x:Ext w w') : OwN w' base g c l:=OwI.ext h x
def QV (base g c:Nat)(l':List Nat)(w:World)(e:Ending)(w':World) : Prop:=e=.returned (.tuple #[])/\OwN w' base g c l'/\Mod (fun k=>k=g) w w'
def Zf1 (base g c:Nat)(l l':List Nat)(a b k:Nat)(w w':World) : Prop:=SwR l l' a b k/\OwN w' base g c l'/\Mod (fun k=>k=g) w w'
def Zf2 (base g c:Nat)(l:List Nat)(a b n:Nat)(w:World)(e:Ending)(w':World) : Prop:=∃ l',e=.returned (.tuple #[])/\Zf1 base g c l l' a b n w w'
theorem Zal (base g c:Nat)(fv:Value)(a b n N:Nat)(l:List Nat)(w:World)(h:OwN w base g c l)(hN:l.length=N)(hab:a+n<=b)(hb:b+n<=N)(hl:N<=1000000000) :
  Calls Tryz.prog 274 #[.slice (some ⟨g,0,none⟩) N c,.int .i64 a,.int .i64 b,.int .i64 n,fv] w (Zf2 base g c l a b n w):=by
 replace hN:=Hd hN;replace h:=Hd h;go_enter Tryz.func274,Tryz.ntmps274;go_wp2_with (fail);go_loopw [10] (fun i wr=>∃ (k:Nat) (l':List Nat),i=.int .i64 k/\k<=n/\Hid (Zf1 base g c l l' a b k w wr)) (fun i _=>n-(intOf i).toNat)
 case atStart=>exact⟨0,l,rfl,by omega,SwR.start _ _ _,h.out,Mod.rf _⟩
 case round =>
  obtain⟨wo,rfl⟩:∃ wo:World,wo=wr:=⟨_,rfl⟩;obtain⟨k,l',rfl,hk,HH⟩:=hrel
  by_cases hlt:k<n
  ·obtain⟨HR,HO,HM⟩:=HH.out
   clear HH;have hll:l'.length=N:=HR.1.trans hN.out;obtain⟨i1,hi1⟩:∃ i1,Hid (i1=a+k):=⟨_,rfl⟩;obtain⟨i2,hi2⟩:∃ i2,Hid (i2=b+k):=⟨_,rfl⟩;have h12:i1<i2:=by rw[hi1.out,hi2.out];omega
   have h2N:i2<N:=by rw[hi2.out];omega
   have hx:l'[i1]?=some (l'[i1]'(by omega)):=List.getElem?_eq_getElem _;have hy:l'[i2]?=some (l'[i2]'(by omega)):=List.getElem?_eq_getElem _;generalize l'[i1]'(by omega)=x at hx;generalize l'[i2]'(by omega)=y at hy;obtain⟨c1,f1,s1⟩:=HO.cell hx;obtain⟨c2,f2,s2⟩:=HO.cell hy;have t1:OwN ((wo.setCell ⟨g,i1,none⟩ (.int .i64 y)).setCell ⟨g,i2,none⟩ (.int .i64 x)) base g c ((l'.set i1 y).set i2 x):=((s1.out y).cell (n:=y) (by rw[List.getElem?_set_ne (by omega)];exact hy)).2.2.out x;have FIN:Hid (Zf1 base g c l ((l'.set i1 y).set i2 x) a b (k+1) w ((wo.setCell ⟨g,i1,none⟩ (.int .i64 y)).setCell ⟨g,i2,none⟩ (.int .i64 x)).drew):=by
    refine⟨?_,t1.ext ((Ext.rf _).drew),((HM.set (p:=⟨g,i1,none⟩) (.inl rfl) _).set (p:=⟨g,i2,none⟩) (.inl rfl) _).drew⟩;rw[hi1.out,hi2.out] at *;exact HR.step hab (by rw[hN.out];omega) hlt hx hy
   have e1:(a:Int)+(k:Int)=(i1:Int):=by rw[hi1.out];omega
   have e2:(b:Int)+(k:Int)=(i2:Int):=by rw[hi2.out];omega
   have w1:IntKind.i64.wrap ((a:Int)+(k:Int))=(i1:Int):=by rw[e1];exact IntWalk.i64_in _ (by omega)
   have w2:IntKind.i64.wrap ((b:Int)+(k:Int))=(i2:Int):=by rw[e2];exact IntWalk.i64_in _ (by omega)
   clear s1 s2 t1 HR HO HM hx hy hll;go_wp2_with (go_region);go_roundw
   case rel=>exact⟨k+1,_,by go_num,by omega,FIN⟩
   case measure=>simp[intOf];omega
  ·obtain rfl:k=n:=by omega
   go_wp2;go_end0;exact⟨_,rfl,HH.out⟩
theorem Wm (base g c:Nat)(fv:Value)(a b n N:Nat)(P A M B Q:List Nat)(w:World)(h:OwN w base g c (P++(A++(M++(B++Q)))))(hN:(P++(A++(M++(B++Q)))).length=N)(ha:P.length=a)(hA:A.length=n)(hB:B.length=n)(hb:a+n+M.length=b)(hl:N<=1000000000) :
  Calls Tryz.prog 274 #[.slice (some ⟨g,0,none⟩) N c,.int .i64 a,.int .i64 b,.int .i64 n,fv] w (QV base g c (P++(B++(M++(A++Q)))) w):=by
 refine(Zal base g c fv a b n N _ w h hN (by omega) (by simp only[List.length_append] at hN;omega) hl).mono ?_;rintro e w' ⟨l',rfl,h1,h2,h3⟩;obtain rfl:=h1.done ha hA hB hb;exact⟨rfl,h2,h3⟩
def Zfn (base g c:Nat)(m i j:Nat)(goal:List Nat)(w w':World) : Prop:=∃ P U V Q,P.length+i=m/\U.length=i/\V.length=j/\goal=P++(V++(U++Q))/\OwN w' base g c (P++(U++(V++Q)))/\Mod (fun k=>k=g) w w'
theorem ZbV (base g c:Nat)(fv:Value)(a m b N:Nat)(P U V Q:List Nat)(w:World)(h:OwN w base g c (P++(U++(V++Q))))(hN:(P++(U++(V++Q))).length=N)(ha:P.length=a)(hU:a+U.length=m)(hV:m+V.length=b)(h1:0<U.length)(h2:0<V.length)(hl:N<=1000000000) :
  Calls Tryz.prog 273 #[.slice (some ⟨g,0,none⟩) N c,.int .i64 a,.int .i64 m,.int .i64 b,fv] w (QV base g c (P++(V++(U++Q))) w):=by
 have HS:Hid (Zfn base g c m U.length V.length (P++(V++(U++Q))) w w):=⟨P,U,V,Q,by omega,rfl,rfl,rfl,h,Mod.rf _⟩;have hG:Hid ((P++(V++(U++Q))).length=N):=by
  have:(P++(V++(U++Q))).length=N:=by simp only[List.length_append] at hN ⊢;omega
  exact this
 have ei:(m:Int)-(a:Int)=(U.length:Int):=by omega
 have ej:(b:Int)-(m:Int)=(V.length:Int):=by omega
 have hmN:m+V.length<=N:=by simp only[List.length_append] at hN;omega
 generalize U.length=u0 at *;generalize V.length=v0 at *;generalize P++(V++(U++Q))=goal at *;have ei':IntKind.i64.wrap ((m:Int)-(a:Int))=(u0:Int):=by rw[ei];exact IntWalk.i64_in _ (by omega)
 have ej':IntKind.i64.wrap ((b:Int)-(m:Int))=(v0:Int):=by rw[ej];exact IntWalk.i64_in _ (by omega)
 clear h hN ha hU;go_enter Tryz.func273,Tryz.ntmps273;go_wp2_with (fail);go_loopw [10,11] (fun iv jv wr=>∃ (i j:Nat),iv=.int .i64 i/\jv=.int .i64 j/\0<i/\0<j/\i<=m/\m+j<=N/\Hid (Zfn base g c m i j goal w wr)) (fun iv jv _=>(intOf iv).toNat+(intOf jv).toNat)
 case atStart=>exact⟨u0,v0,rfl,rfl,by omega,by omega,by omega,by omega,HS⟩
 case round =>
  obtain⟨wo,rfl⟩:∃ wo:World,wo=wr:=⟨_,rfl⟩;obtain⟨i,j,rfl,rfl,hi,hj,him,hjN,HH⟩:=hrel;clear HS ei ej ei' ej';obtain⟨P',U',V',Q',q1,q2,q3,q4,hO,hM⟩:=HH.out;have gl:(P'++(U'++(V'++Q'))).length=N:=by
   have:=hG.out;rw[q4] at this;simp only[List.length_append] at this ⊢;omega
  clear HH;rcases Nat.lt_trichotomy j i with hc | hc | hc
  ·
   obtain⟨U1,U2,rfl,hu⟩:=Zey U' j (by omega);have hu2:U2.length=i-j:=by simp only[List.length_append] at q2;omega
   rw[List.append_assoc] at hO gl;have CC:=Hd (Wm base g c fv (m-i) m j N P' U1 U2 V' Q' wo hO gl (by omega) hu q3 (by omega) hl);have FIN:∀ w',OwN w' base g c (P'++(V'++(U2++(U1++Q'))))->Mod (fun k=>k=g) wo w'->Zfn base g c m (i-j) j goal w w':=fun w' h1 h2=>⟨P'++V',U2,U1,Q',by rw[List.length_append];omega,hu2,hu,by rw[q4];simp only[List.append_assoc],by simpa only [List.append_assoc] using h1,hM.tr h2⟩
   replace FIN:=Hd FIN;have e1:(m:Int)-(i:Int)=((m-i:Nat):Int):=by omega
   have e2:(i:Int)-(j:Int)=((i-j:Nat):Int):=by omega
   have d1:((i:Int) != (j:Int))=true:=by rw[bne_iff_ne];omega
   clear hO gl q1 q2 q3 q4 hu hu2 hM;go_wp2_with (fail);refine CC.out.mono ?_;rintro e w' ⟨rfl,h1,h2⟩;have FIN2:=Hd (FIN.out w' h1 h2);clear h1 h2;go_wp2_with (fail);go_roundw
   case rel=>exact⟨i-j,j,by first | rfl | go_num | (congr 1),rfl,by omega,hj,by omega,hjN,FIN2⟩
   case measure=>simp[intOf];omega
  ·
   subst hc;have CC:=Hd (Wm base g c fv (m-j) m j N P' U' [] V' Q' wo (by simpa using hO) (by simpa using gl) (by omega) q2 q3 (by simp;omega) hl);have e1:(m:Int)-(j:Int)=((m-j:Nat):Int):=by omega
   have d1:((j:Int) != (j:Int))=false:=by simp
   have hg:Hid (goal=P'++(V'++([]++(U'++Q')))):=by rw[q4];rfl
   clear hO gl q1 q2 q3 q4;replace hM:=Hd hM;go_wp2_with (fail);refine CC.out.mono ?_;rintro e w' ⟨rfl,h1,h2⟩;rw[<-hg.out] at h1;have FIN2:Hid (QV base g c goal w (.returned (.tuple #[])) w'):=⟨rfl,h1,hM.out.tr h2⟩;clear h1 h2;go_wp2_with (fail);go_end0;exact FIN2.out
  ·
   obtain⟨V1,V2,rfl,hv⟩:=QU V' i (by omega);have hv1:V1.length=j-i:=by simp only[List.length_append] at q3;omega
   rw[List.append_assoc] at hO gl;have CC:=Hd (Wm base g c fv (m-i) (m+j-i) i N P' U' V1 V2 Q' wo hO gl (by omega) q2 hv (by omega) hl);have FIN:∀ w',OwN w' base g c (P'++(V2++(V1++(U'++Q'))))->Mod (fun k=>k=g) wo w'->Zfn base g c m i (j-i) goal w w':=fun w' h1 h2=>⟨P',V2,V1,U'++Q',q1,hv,hv1,by rw[q4];simp only[List.append_assoc],h1,hM.tr h2⟩
   replace FIN:=Hd FIN;have e1:(m:Int)-(i:Int)=((m-i:Nat):Int):=by omega
   have e2:(j:Int)-(i:Int)=((j-i:Nat):Int):=by omega
   have e3:(m:Int)+(j:Int)-(i:Int)=((m+j-i:Nat):Int):=by omega
   have d1:((i:Int) != (j:Int))=true:=by rw[bne_iff_ne];omega
   clear hO gl q1 q2 q3 q4 hv hv1 hM;go_wp2_with (fail);refine CC.out.mono ?_;rintro e w' ⟨rfl,h1,h2⟩;have FIN2:=Hd (FIN.out w' h1 h2);clear h1 h2;go_wp2_with (fail);go_roundw
   case rel=>exact⟨i,j-i,rfl,by first | rfl | go_num | (congr 1),hi,by omega,him,by omega,FIN2⟩
   case measure=>simp[intOf];omega
def CmpOk (f:Nat)(lb:Array Value)(cf:Nat->Nat->Int)(nn g:Nat)(w:World) : Prop :=
 ∀ (W:World) (x y:Nat),x<nn->y<nn->Mod (fun k=>k=g) w W->Calls Tryz.prog f (#[.int .i64 x,.int .i64 y]++lb) W fun e W'=>e=.returned (.int .i64 (cf x y))/\∃ q,W'=W.drewN q
theorem CmpOk.mod {f:Nat}{lb:Array Value}{cf:Nat->Nat->Int}{nn g:Nat}{w w':World}(h:CmpOk f lb cf nn g w)(hm:Mod (fun k=>k=g) w w') : CmpOk f lb cf nn g w':=fun W x y hx hy hW=>h W x y hx hy (hm.tr hW)
def ltC (cf:Nat->Nat->Int)(x y:Nat) : Bool:=decide (cf x y<0)
def Zv (base g c:Nat)(lt:Nat->Nat->Bool)(P S Q:List Nat)(w:World)(e:Ending)(w':World) : Prop:=∃ M,Is lt S M/\e=.returned (.tuple #[])/\OwN w' base g c (P++(M++Q))/\Mod (fun k=>k=g) w w'
def InsS (base g c:Nat)(lt:Nat->Nat->Bool)(P S Q:List Nat)(k:Nat)(w w':World) : Prop:=∃ M,Is lt (S.take k) M/\OwN w' base g c (P++(M++(S.drop k++Q)))/\Mod (fun k=>k=g) w w'
def SinkS (base g c:Nat)(lt:Nat->Nat->Bool)(P M:List Nat)(x:Nat)(T:List Nat)(p:Nat)(w w':World) : Prop:=∃ B1 B2,M=B1++B2/\B1.length=p/\(∀ y∈B2,lt x y=true)/\OwN w' base g c (P++(B1++(x::(B2++T))))/\Mod (fun k=>k=g) w w'
theorem SinkS.two {base g c:Nat}{lt:Nat->Nat->Bool}{P M:List Nat}{x:Nat}{T:List Nat}{p a:Nat}{w w':World}(h:SinkS base g c lt P M x T (p+1) w w')(ha:P.length=a) :
  ∃ y,y∈M/\w'.cell? ⟨g,a+p,none⟩=some (.int .i64 y)/\w'.frozen? ⟨g,a+p,none⟩=false/\w'.cell? ⟨g,a+p+1,none⟩=some (.int .i64 x)/\w'.frozen? ⟨g,a+p+1,none⟩=false /\
   Hid (lt x y=true->∀ w2,Ext w' w2->SinkS base g c lt P M x T p w ((w2.setCell ⟨g,a+p+1,none⟩ (.int .i64 y)).setCell ⟨g,a+p,none⟩ (.int .i64 x)))/\Hid (Weak lt->lt x y=false->(∀ z∈M,z<x)->Srt lt M->∀ w2,Ext w' w2->∃ M',M'.Perm (M++[x])/\Srt lt M'/\OwN w2 base g c (P++(M'++T))):=by
 obtain⟨B1,B2,rfl,hp,hB,hO,hM⟩:=h;obtain⟨B,B',rfl,hb⟩:=QU B1 1 (by omega);obtain⟨y,rfl⟩:∃ y,B'=[y]:=by
  match B',hb with
  | [y],_=>exact⟨y,rfl⟩
 have hBp:B.length=p:=by simp only[List.length_append] at hp;simp at hp;exact hp
 have e:P++(B++[y]++(x::(B2++T)))=(P++B)++(y::(x::(B2++T))):=by simp
 rw[e] at hO;have hl:(P++B).length=a+p:=by rw[List.length_append];omega
 obtain⟨g1,g2⟩:=ZcF (P++B) (B2++T) y x;obtain⟨c1,f1,_⟩:=hO.cell g1;obtain⟨c2,f2,_⟩:=hO.cell g2;have t:∀ w2,Ext w' w2->OwN ((w2.setCell ⟨g,(P++B).length+1,none⟩ (.int .i64 y)).setCell ⟨g,(P++B).length,none⟩ (.int .i64 x)) base g c ((P++B)++(x::(y::(B2++T)))):=fun w2 x2=>by
  have:=((((hO.ext x2).cell g2).2.2.out y).cell (k:=(P++B).length) (n:=y) (by rw[List.getElem?_set_ne (by omega)];exact g1)).2.2.out x
  rwa [ZaZ] at this
 rw[hl] at c1 f1 c2 f2 t;refine⟨y,by simp,c1,f1,c2,f2,fun hlt w2 x2=>⟨B,y::B2,by simp,hBp,?_,by simpa using t w2 x2,((hM.ext x2).set (p:=⟨g,a+p+1,none⟩) (.inl rfl) _).set (p:=⟨g,a+p,none⟩) (.inl rfl) _⟩,fun hw hlt hz hs w2 x2=>?_⟩
 ·intro z hz
  rcases List.mem_cons.1 hz with rfl | hz
  ·exact hlt
  ·exact hB z hz
 ·refine⟨B++[y]++(x::B2),?_,?_,by simpa using hO.ext x2⟩
  ·simp only[List.append_assoc]
   refine List.Perm.append_left B (List.Perm.append_left [y] ?_);exact(List.perm_append_comm (l₁:=[x]) (l₂:=B2))
  ·refine ZcG hw hs ?_ hB ?_
   ·intro z h1 z' h2
    obtain rfl:=List.mem_singleton.1 h2;exact hz z h1
   ·intro z h
    simp at h;subst h;exact hlt
theorem SinkS.bottom {base g c:Nat}{lt:Nat->Nat->Bool}{P M:List Nat}{x:Nat}{T:List Nat}{w w':World}(h:SinkS base g c lt P M x T 0 w w')(hw:Weak lt)(hz:∀ z∈M,z<x)(hs:Srt lt M) : ∀ w2,Ext w' w2->∃ M',M'.Perm (M++[x])/\Srt lt M'/\OwN w2 base g c (P++(M'++T)):=by
 obtain⟨B1,B2,rfl,hp,hB,hO,_⟩:=h;intro w2 x2;obtain rfl:=List.eq_nil_of_length_eq_zero hp;refine⟨x::B2,List.perm_append_comm (l₁:=[x]) (l₂:=B2),?_,by simpa using hO.ext x2⟩;refine ZcG hw (A:=[]) hs ?_ hB (by simp);intro z h1 z' h2;obtain rfl:=List.mem_singleton.1 h2;exact hz z h1
theorem SinkS.ext {base g c:Nat}{lt:Nat->Nat->Bool}{P M:List Nat}{x:Nat}{T:List Nat}{p:Nat}{w w' w2:World}(h:SinkS base g c lt P M x T p w w')(x2:Ext w' w2) : SinkS base g c lt P M x T p w w2:=by
 obtain⟨B1,B2,h1,h2,h3,h4,h5⟩:=h;exact⟨B1,B2,h1,h2,h3,h4.ext x2,h5.ext x2⟩
theorem SinkS.mod {base g c:Nat}{lt:Nat->Nat->Bool}{P M:List Nat}{x:Nat}{T:List Nat}{p:Nat}{w w':World}(h:SinkS base g c lt P M x T p w w') : Mod (fun k=>k=g) w w':=by
 obtain⟨B1,B2,h1,h2,h3,h4,h5⟩:=h;exact h5
theorem InsS.next {base g c:Nat}{lt:Nat->Nat->Bool}{P S Q:List Nat}{k:Nat}{w w':World}(h:InsS base g c lt P S Q k w w')(hk:k<S.length)(hr:S.Pairwise (· < ·)) :
  ∃ M x,x∈S/\(∀ z∈M,z∈S)/\M.length=k/\(∀ z∈M,z<x)/\Srt lt M/\SinkS base g c lt P M x (S.drop (k+1)++Q) k w w' /\
   Hid (∀ w2,Mod (fun k=>k=g) w w2->(∃ M',M'.Perm (M++[x])/\Srt lt M'/\OwN w2 base g c (P++(M'++(S.drop (k+1)++Q))))->InsS base g c lt P S Q (k+1) w w2):=by
 obtain⟨M,⟨hp,hs⟩,hO,hM⟩:=h;have hx:S[k]?=some S[k]:=List.getElem?_eq_getElem hk;have hd:S.drop k=S[k]::S.drop (k+1):=List.drop_eq_getElem_cons hk;have hms:∀ z∈M,z∈S.take k:=fun z hz=>hp.mem_iff.1 hz
 refine⟨M,S[k],List.getElem_mem hk,fun z hz=>List.mem_of_mem_take (hms z hz),by rw[hp.length_eq,List.length_take];omega,?_,hs,⟨M,[],by simp,by rw[hp.length_eq,List.length_take];omega,by simp,by rw[hd] at hO;exact hO,hM⟩,?_⟩
 ·intro z hz
  obtain⟨i,hi,rfl⟩:=List.mem_iff_getElem.1 (hms z hz);rw[List.getElem_take];rw[List.length_take] at hi;exact List.pairwise_iff_getElem.1 hr i k (by omega) hk (by omega)
 ·rintro w2 hm2 ⟨M',hp',hs',hO'⟩
  refine⟨M',⟨hp'.trans ?_,hs'⟩,hO',hm2⟩;rw[List.take_add_one,hx];exact hp.append (List.Perm.refl _)
theorem Jl (base g c:Nat)(f:Nat)(lb:Array Value)(cf:Nat->Nat->Int)(nn a b N:Nat)(P S Q:List Nat)(w:World)(hw:Weak (ltC cf))(eg:∀ args w,(callFunc f args).run Tryz.prog w=.ok (.enter f args) w)(hcmp:CmpOk f lb cf nn g w)
  (h:OwN w base g c (P++(S++Q))) (hN:(P++(S++Q)).length=N) (ha:P.length=a) (hS:a+S.length=b) (hr:S.Pairwise (· < ·)) (hn:∀ x∈S,x<nn) (hl:N<=1000000000) :
  Calls Tryz.prog 271 #[.slice (some ⟨g,0,none⟩) N c,.int .i64 a,.int .i64 b,.func (.func f) #[] lb] w (Zv base g c (ltC cf) P S Q w):=by
 have HS:Hid (InsS base g c (ltC cf) P S Q 1 w w):=by
  refine⟨S.take 1,⟨List.Perm.refl _,?_⟩,?_,Mod.rf _⟩
  ·match S with
   | []=>exact List.Pairwise.nil
   | [x]=>exact List.pairwise_singleton _ _
   | x::y::z=>exact List.pairwise_singleton _ _
  ·rw[<-List.append_assoc (S.take 1),List.take_append_drop];exact h
 have hbN:b<=N:=by simp only[List.length_append] at hN;omega
 replace hN:=Hd hN;replace hcmp:=Hd hcmp;replace hw:=Hd hw;replace ha:=Hd ha;replace hn:=Hd hn;replace hr:=Hd hr;clear h;go_enter Tryz.func271,Tryz.ntmps271;go_wp2_with (fail);go_loopw [8] (fun iv wr=>∃ (i k:Nat),iv=.int .i64 i/\Hid (i=a+k)/\0<k/\k<=S.length+1/\Hid (InsS base g c (ltC cf) P S Q k w wr)) (fun iv _=>b+1-(intOf iv).toNat)
 case atStart=>exact⟨a+1,1,by first | rfl | go_num,rfl,by omega,by omega,HS⟩
 case round =>
  obtain⟨wo,rfl⟩:∃ wo:World,wo=wr:=⟨_,rfl⟩;obtain⟨i,k,rfl,hi,hk0,hk,HH⟩:=hrel;clear HS
  by_cases hlt:k<S.length
  ·obtain⟨M,x,hxS,hMS,hMl,hz,hs,hsink,hout⟩:=HH.out.next hlt hr.out
   have hxn:=hn.out x hxS;have hMn:Hid (∀ z∈M,z<nn):=fun z hz=>hn.out z (hMS z hz)
   replace hMl:=Hd hMl;replace hz:=Hd hz;replace hs:=Hd hs;replace hsink:=Hd hsink;clear HH hMS hxS;have hltz:(i:Int)<(b:Int):=by rw[hi.out];omega
   have hiN:i<N:=by rw[hi.out];omega
   go_wp2_with (fail);go_loopw [9] (fun jv wr=>∃ (j p:Nat),jv=.int .i64 j/\Hid (j=a+p)/\p<=k/\Hid (SinkS base g c (ltC cf) P M x (S.drop (k+1)++Q) p w wr)) (fun jv _=>(intOf jv).toNat)
   case atStart=>exact⟨i,k,rfl,hi,by omega,hsink⟩
   case round =>
    obtain⟨wi,rfl⟩:∃ wi:World,wi=wr:=⟨_,rfl⟩;obtain⟨j,p,rfl,hj,hp,HI⟩:=hrel;clear hsink
    cases p with
    | zero =>
     have hbot:=Hd (HI.out.bottom hw.out hz.out hs.out);have hM:=Hd HI.out.mod;obtain rfl:j=a:=hj.out;go_wp2_with (fail);go_quiet (fail);go_wp2_with (fail);go_roundw
     case rel=>exact⟨i+1,k+1,by go_num,by have:=hi.out;show i+1=_+(k+1);omega,by omega,by omega,hout.out _ (hM.out.drewN _) (hbot.out _ ((Ext.rf _).drewN _))⟩
     case measure=>simp[intOf];omega
    | succ p =>
     obtain⟨y,hyM,cy,fy,cx,fx,hstep,hstop⟩:=HI.out.two ha.out;have hM:=Hd HI.out.mod;have hyn:=hMn.out y hyM;obtain⟨jp,hjp⟩:∃ jp,Hid (jp=a+p):=⟨_,rfl⟩;rw[<-hjp.out] at cy fy cx fx hstep;obtain rfl:j=jp+1:=by rw[hj.out,hjp.out];omega
     have hc:∀ n,Calls Tryz.prog f (#[.int .i64 x,.int .i64 y]++lb) (wi.drewN n) fun e W'=>e=.returned (.int .i64 (cf x y))/\∃ q,W'=(wi.drewN n).drewN q:=fun n=>hcmp.out _ x y hxn hyn (hM.out.drewN n)
     have hwp:IntKind.i64.wrap (jp:Int)=(jp:Int):=IntWalk.i64_in _ (by rw[hjp.out];omega);have jz:(jp:Int)+1<(N:Int):=by rw[hjp.out];omega
     have jz1:(jp:Int)<(N:Int):=by omega
     have hjaz:(a:Int)<(jp:Int)+1:=by rw[hjp.out];omega
     have p0:(0:Int)<=(jp:Int)+1:=by omega
     have e0:((jp:Int)+1).toNat=jp+1:=by omega
     clear hyM
     by_cases hlv:cf x y<0
     ·replace hstep:=Hd (hstep.out (decide_eq_true hlv))
      clear hstop;go_wp2_with (fail);go_quiet (first | (go_at_fn f;refine Calls.quiet_of (hc _)));go_wp2_with (fail);have x2:Ext wi (wi.drewN nq):=(Ext.rf _).drewN _;have cy2:(wi.drewN nq).cell? ⟨g,jp,none⟩=some (.int .i64 y):=cy;have cx2:(wi.drewN nq).cell? ⟨g,jp+1,none⟩=some (.int .i64 x):=cx;have fy2:(wi.drewN nq).frozen? ⟨g,jp,none⟩=false:=fy;have fx2:(wi.drewN nq).frozen? ⟨g,jp+1,none⟩=false:=fx;have NX:=Hd (hstep.out _ x2);clear cy cx fy fx hc x2 hstep;generalize wi.drewN nq=wq at cy2 cx2 fy2 fx2 NX ⊢;go_region
      all_goals go_wp2
      go_roundw
      case rel=>exact⟨jp,p,by first | rfl | go_num,hjp,by omega,NX.out.ext ((Ext.rf _).drew)⟩
      case measure=>simp[intOf]<;>omega
     ·replace hstop:=Hd (hstop.out hw.out (decide_eq_false hlv) hz.out hs.out)
      clear hstep;go_wp2_with (fail);go_quiet (first | (go_at_fn f;refine Calls.quiet_of (hc _)));go_wp2_with (fail);go_roundw
      case rel=>exact⟨i+1,k+1,by go_num,by have:=hi.out;show i+1=_+(k+1);omega,by omega,by omega,hout.out _ (hM.out.drewN _) (hstop.out _ ((Ext.rf _).drewN _))⟩
      case measure=>simp[intOf]<;>omega
  ·have hltz:¬(i:Int)<(b:Int):=by rw[hi.out];omega
   obtain⟨M,hM1,hM2,hM3⟩:=HH.out;have FIN:Hid (Zv base g c (ltC cf) P S Q w (.returned (.tuple #[])) wo):=by
    refine⟨M,?_,rfl,?_,hM3⟩
    ·rwa [List.take_of_length_le (by omega)] at hM1
    ·rwa [List.drop_of_length_le (by omega),List.nil_append] at hM2
   clear hM1 hM2 hM3 HH;go_wp2_with (fail);go_end0;exact FIN.out
theorem OwN.pair {w:World}{base g c k:Nat}{P Q:List Nat}{y x:Nat}(h:OwN w base g c (P++(y::(x::Q))))(hk:P.length=k) :
  w.cell? ⟨g,k,none⟩=some (.int .i64 y)/\w.frozen? ⟨g,k,none⟩=false/\w.cell? ⟨g,k+1,none⟩=some (.int .i64 x)/\w.frozen? ⟨g,k+1,none⟩=false /\
   Hid (∀ w2,Ext w w2->OwN ((w2.setCell ⟨g,k,none⟩ (.int .i64 x)).setCell ⟨g,k+1,none⟩ (.int .i64 y)) base g c (P++(x::(y::Q)))) /\
   Hid (∀ w2,Ext w w2->OwN ((w2.setCell ⟨g,k+1,none⟩ (.int .i64 y)).setCell ⟨g,k,none⟩ (.int .i64 x)) base g c (P++(x::(y::Q)))):=by
 subst hk;obtain⟨g1,g2⟩:=ZcF P Q y x;obtain⟨c1,f1,_⟩:=h.cell g1;obtain⟨c2,f2,_⟩:=h.cell g2;refine⟨c1,f1,c2,f2,fun w2 x2=>?_,fun w2 x2=>?_⟩
 ·have:=((((h.ext x2).cell g1).2.2.out x).cell (k:=P.length+1) (n:=x) (by rw[List.getElem?_set_ne (by omega)];exact g2)).2.2.out y
  rwa [Zdl] at this
 ·have:=((((h.ext x2).cell g2).2.2.out y).cell (k:=P.length) (n:=y) (by rw[List.getElem?_set_ne (by omega)];exact g1)).2.2.out x
  rwa [ZaZ] at this
theorem OwN.at {w:World}{base g c k:Nat}{P Q:List Nat}{j y:Nat}(h:OwN w base g c (P++Q))(hj:Q[j]?=some y)(hk:P.length+j=k) : w.cell? ⟨g,k,none⟩=some (.int .i64 y):=(h.cell (by rw[Zge P Q k j hk];exact hj)).1
def BsR (good:Nat->Bool)(R:List Nat)(p q:Nat) : Prop:=p<=q/\q<=R.length/\(∀ y,(R.take p).getLast?=some y->good y=true)/\(∀ y,(R.drop q).head?=some y->good y=false)
theorem BsR.start (good:Nat->Bool)(R:List Nat) : BsR good R 0 R.length:=⟨by omega,by omega,by simp,by simp⟩
theorem BsR.mid {good:Nat->Bool}{R:List Nat}{p q:Nat}(h:BsR good R p q)(hlt:p<q) : ∃ y,R[(p+q) / 2]?=some y/\y∈R/\p<=(p+q) / 2/\(p+q) / 2<q/\Hid (good y=true->BsR good R ((p+q) / 2+1) q)/\Hid (good y=false->BsR good R p ((p+q) / 2)):=by
 obtain⟨h1,h2,h3,h4⟩:=h;have ht:(p+q) / 2<R.length:=by omega
 have e:R[(p+q) / 2]?=some R[(p+q) / 2]:=List.getElem?_eq_getElem ht;refine⟨_,e,List.getElem_mem _,by omega,by omega,fun hg=>⟨by omega,h2,fun y hy=>?_,h4⟩,fun hg=>⟨by omega,by omega,h3,fun y hy=>?_⟩⟩
 ·rw[Zdo e] at hy
  obtain rfl:=Option.some.inj hy;exact hg
 ·rw[Zdp e] at hy
  obtain rfl:=Option.some.inj hy;exact hg
def UpS (base g c:Nat)(P B:List Nat)(x:Nat)(T:List Nat)(s:Nat)(w w':World) : Prop:=OwN w' base g c (P++(B.take s++(x::(B.drop s++T))))/\Mod (fun k=>k=g) w w'
theorem UpS.ext {base g c:Nat}{P B:List Nat}{x:Nat}{T:List Nat}{s:Nat}{w w' w2:World}(h:UpS base g c P B x T s w w')(x2:Ext w' w2) : UpS base g c P B x T s w w2:=⟨h.1.ext x2,h.2.ext x2⟩
theorem UpS.up {base g c a:Nat}{P B:List Nat}{x:Nat}{T:List Nat}{s:Nat}{w w':World}(h:UpS base g c P B x T s w w')(hs:s<B.length)(ha:P.length=a) :
  ∃ y,w'.cell? ⟨g,a+s,none⟩=some (.int .i64 x)/\w'.frozen? ⟨g,a+s,none⟩=false/\w'.cell? ⟨g,a+s+1,none⟩=some (.int .i64 y)/\w'.frozen? ⟨g,a+s+1,none⟩=false /\
   Hid (UpS base g c P B x T (s+1) w ((w'.setCell ⟨g,a+s,none⟩ (.int .i64 y)).setCell ⟨g,a+s+1,none⟩ (.int .i64 x))):=by
 obtain⟨hO,hM⟩:=h;have e:B[s]?=some B[s]:=List.getElem?_eq_getElem hs;have hd:B.drop s=B[s]::B.drop (s+1):=List.drop_eq_getElem_cons hs;have ht:B.take (s+1)=B.take s++[B[s]]:=by rw[List.take_add_one,e];rfl
 have e2:P++(B.take s++(x::(B.drop s++T)))=(P++B.take s)++(x::(B[s]::(B.drop (s+1)++T))):=by rw[hd];simp only[List.append_assoc,List.cons_append]
 have e3:P++(B.take (s+1)++(x::(B.drop (s+1)++T)))=(P++B.take s)++(B[s]::(x::(B.drop (s+1)++T))):=by rw[ht];simp only[List.append_assoc,List.singleton_append]
 rw[e2] at hO;obtain⟨c1,f1,c2,f2,u1,_⟩:=hO.pair (k:=a+s) (by rw[List.length_append,List.length_take];omega);refine⟨_,c1,f1,c2,f2,?_,(hM.set (p:=⟨g,a+s,none⟩) (.inl rfl) _).set (p:=⟨g,a+s+1,none⟩) (.inl rfl) _⟩;have:=u1.out _ (Ext.rf _);rw[<-e3] at this;exact this
theorem UpS.down {base g c a:Nat}{P B:List Nat}{x:Nat}{T:List Nat}{s:Nat}{w w':World}(h:UpS base g c P B x T (s+1) w w')(hs:s<B.length)(ha:P.length=a) :
  ∃ y,w'.cell? ⟨g,a+s,none⟩=some (.int .i64 y)/\w'.frozen? ⟨g,a+s,none⟩=false/\w'.cell? ⟨g,a+s+1,none⟩=some (.int .i64 x)/\w'.frozen? ⟨g,a+s+1,none⟩=false /\
   Hid (UpS base g c P B x T s w ((w'.setCell ⟨g,a+s+1,none⟩ (.int .i64 y)).setCell ⟨g,a+s,none⟩ (.int .i64 x))):=by
 obtain⟨hO,hM⟩:=h;have e:B[s]?=some B[s]:=List.getElem?_eq_getElem hs;have hd:B.drop s=B[s]::B.drop (s+1):=List.drop_eq_getElem_cons hs;have ht:B.take (s+1)=B.take s++[B[s]]:=by rw[List.take_add_one,e];rfl
 have e2:P++(B.take (s+1)++(x::(B.drop (s+1)++T)))=(P++B.take s)++(B[s]::(x::(B.drop (s+1)++T))):=by rw[ht];simp only[List.append_assoc,List.singleton_append]
 have e3:P++(B.take s++(x::(B.drop s++T)))=(P++B.take s)++(x::(B[s]::(B.drop (s+1)++T))):=by rw[hd];simp only[List.append_assoc,List.cons_append]
 rw[e2] at hO;obtain⟨c1,f1,c2,f2,_,u2⟩:=hO.pair (k:=a+s) (by rw[List.length_append,List.length_take];omega);refine⟨_,c1,f1,c2,f2,?_,(hM.set (p:=⟨g,a+s+1,none⟩) (.inl rfl) _).set (p:=⟨g,a+s,none⟩) (.inl rfl) _⟩;have:=u2.out _ (Ext.rf _);rw[<-e3] at this;exact this
theorem ZeC (base g c:Nat)(f:Nat)(lb:Array Value)(cf:Nat->Nat->Int)(nn a m b N x:Nat)(P R Q:List Nat)(w:World)(hw:Weak (ltC cf))(eg:∀ args w,(callFunc f args).run Tryz.prog w=.ok (.enter f args) w)(hcmp:CmpOk f lb cf nn g w)
  (h:OwN w base g c (P++(x::(R++Q)))) (hN:(P++(x::(R++Q))).length=N) (ha:P.length=a) (hL:a+1=m) (hR:m+R.length=b) (sr:Srt (ltC cf) R) (hlt:Apart (· < ·) [x] R) (hx:x<nn) (hn:∀ y∈R,y<nn) (hl:N<=1000000000) :
  Calls Tryz.prog 272 #[.slice (some ⟨g,0,none⟩) N c,.int .i64 a,.int .i64 m,.int .i64 b,.func (.func f) #[] lb] w (Zv base g c (ltC cf) P (x::R) Q w):=by
 have hbN:b<=N:=by simp only[List.length_append,List.length_cons] at hN;omega
 have hm1:Hid (m=a+1):=hL.symm;have d1:((m:Int)-(a:Int)==1)=true:=by rw[beq_iff_eq];omega
 have hmb:m<=b:=by omega
 replace hN:=Hd hN;replace hcmp:=Hd hcmp;replace hw:=Hd hw;replace ha:=Hd ha;replace hn:=Hd hn;replace h:=Hd h;replace hR:=Hd hR;replace sr:=Hd sr;have hax:a<N:=by have:=hm1.out;omega
 clear hL;go_enter Tryz.func272,Tryz.ntmps272;go_wp2_with (fail);go_loopw [10,11] (fun iv jv wr=>∃ (i j p q:Nat),iv=.int .i64 i/\jv=.int .i64 j/\Hid (i=m+p)/\Hid (j=m+q)/\Hid (BsR (fun y=>ltC cf y x) R p q)/\Hid (Ext w wr)) (fun iv jv _=>(intOf jv).toNat-(intOf iv).toNat)
 case atStart=>exact⟨m,b,0,R.length,rfl,rfl,rfl,hR.out.symm,BsR.start _ _,Ext.rf _⟩
 case round =>
  obtain⟨wo,rfl⟩:∃ wo:World,wo=wr:=⟨_,rfl⟩;obtain⟨i,j,p,q,rfl,rfl,hi,hj,HB,Y⟩:=hrel
  by_cases hpq:p<q
  ·obtain⟨y,ey,hyR,t1,t2,st1,st2⟩:=HB.out.mid hpq
   have hq:=HB.out.2.1;have hij:i<j:=by rw[hi.out,hj.out];omega
   have hjb:j<=b:=by rw[hj.out,<-hR.out];omega
   have hyn:=hn.out y hyR;obtain⟨t,ht⟩:∃ t,Hid (t=(p+q) / 2):=⟨_,rfl⟩;obtain⟨hh,hhh⟩:∃ hh,Hid (hh=(i+j) / 2):=⟨_,rfl⟩;rw[<-ht.out] at ey t1 t2 st1 st2;have eh:hh=m+t:=by rw[hhh.out,hi.out,hj.out,ht.out];omega
   have h1:i<=hh:=by rw[hhh.out];omega
   have h2:hh<j:=by rw[hhh.out];omega
   have mv:((i:Int)+(j:Int)) / 2=(hh:Int):=by rw[hhh.out];omega
   have ch:wo.cell? ⟨g,hh,none⟩=some (.int .i64 y):=(h.out.ext Y.out).at (P:=P) (j:=t+1) (by rw[List.getElem?_cons_succ,List.getElem?_append_left (by have:=(List.getElem?_eq_some_iff.1 ey).1;omega)];exact ey) (by have:=ha.out;have:=hm1.out;omega);have ca:wo.cell? ⟨g,a,none⟩=some (.int .i64 x):=(h.out.ext Y.out).at (P:=P) (j:=0) rfl (by have:=ha.out;omega);have hM:=Hd (Mod.of_ext (S:=fun k=>k=g) Y.out);have hc:∀ n,Calls Tryz.prog f (#[.int .i64 y,.int .i64 x]++lb) (wo.drewN n) fun e W'=>e=.returned (.int .i64 (cf y x))/\∃ q,W'=(wo.drewN n).drewN q:=fun n=>hcmp.out _ y x hyn hx (hM.out.drewN n)
   replace eh:=Hd eh;replace ht:=Hd ht;clear ey hyR
   by_cases hlv:cf y x<0
   ·replace st1:=Hd (st1.out (decide_eq_true hlv))
    clear st2;go_wp2_with (fail);go_quiet (first | (go_at_fn f;refine Calls.quiet_of (hc _)));go_wp2_with (fail);go_roundw
    case rel=>exact⟨hh+1,j,t+1,q,by go_num,rfl,by have:=eh.out;show hh+1=_+(t+1);omega,hj,st1.out,Y.out.drewN _⟩
    case measure=>simp[intOf]<;>omega
   ·replace st2:=Hd (st2.out (decide_eq_false hlv))
    clear st1;go_wp2_with (fail);go_quiet (first | (go_at_fn f;refine Calls.quiet_of (hc _)));go_wp2_with (fail);go_roundw
    case rel=>exact⟨i,hh,p,t,rfl,rfl,hi,eh,st2.out,Y.out.drewN _⟩
    case measure=>simp[intOf]<;>omega
  ·obtain⟨b1,b2,b3,b4⟩:=HB.out
   obtain rfl:p=q:=by omega
   obtain⟨ip,hip⟩:∃ ip,Hid (ip=a+p):=⟨_,rfl⟩;obtain rfl:i=ip+1:=by rw[hi.out,hip.out,hm1.out];omega
   obtain rfl:j=ip+1:=by rw[hj.out,hip.out,hm1.out];omega
   have ipN:ip+1<=N:=by rw[hip.out];have:=hR.out;have:=hm1.out;omega
   have START:Hid (UpS base g c P (R.take p) x (R.drop p++Q) 0 w wo):=by
    refine⟨?_,Mod.of_ext Y.out⟩;have h1:=h.out.ext Y.out;rw[List.take_zero,List.nil_append,List.drop_zero,<-List.append_assoc (R.take p),List.take_append_drop];exact h1
   have HF:Hid (Is (ltC cf) (x::R) (R.take p++(x::R.drop p))):=by
    refine⟨?_,Zez hw.out (by rw[List.take_append_drop];exact sr.out) (by rw[List.take_append_drop];exact hlt) b3 b4⟩;have:=List.take_append_drop p R;refine List.perm_middle.trans ?_;rw[this]
   have hRl:(R.take p).length=p:=by rw[List.length_take];omega
   generalize R.take p=R1 at *;generalize R.drop p=R2 at *;replace hRl:=Hd hRl;have hwp:IntKind.i64.wrap (ip:Int)=(ip:Int):=IntWalk.i64_in _ (by omega);clear HB b1 b2 b3 b4 hi hj hlt hR;go_wp2_with (fail);go_loopw [13] (fun kv wr=>∃ (k s:Nat),kv=.int .i64 k/\Hid (k=a+s)/\s<=p/\Hid (UpS base g c P R1 x (R2++Q) s w wr)) (fun kv _=>ip-(intOf kv).toNat)
   case atStart=>exact⟨a,0,rfl,rfl,by omega,START⟩
   case round =>
    obtain⟨wi,rfl⟩:∃ wi:World,wi=wr:=⟨_,rfl⟩;obtain⟨k,s,rfl,hk,hs,HU⟩:=hrel;clear START
    by_cases hsp:s<p
    ·obtain⟨y,c1,f1,c2,f2,NX⟩:=HU.out.up (by rw[hRl.out];exact hsp) ha.out
     have hk':=hk.out;rw[<-hk'] at c1 f1 c2 f2 NX;have l1:(k:Int)<(ip:Int):=by rw[hip.out];omega
     have l2:(k:Int)+1<(N:Int):=by omega
     have l3:(k:Int)<(N:Int):=by omega
     clear hk' HU;go_wp2_with (fail);go_region
     all_goals go_wp2
     go_roundw
     case rel=>exact⟨k+1,s+1,by go_num,by have:=hk.out;show k+1=_+(s+1);omega,by omega,NX.out.ext ((Ext.rf _).drew)⟩
     case measure=>simp[intOf]<;>omega
    ·obtain rfl:s=p:=by omega
     have l1:¬(k:Int)<(ip:Int):=by rw[hip.out,hk.out];omega
     have FIN:Hid (Zv base g c (ltC cf) P (x::R) Q w (.returned (.tuple #[])) wi):=by
      refine⟨_,HF.out,rfl,?_,HU.out.2⟩;have:=HU.out.1;rw[<-hRl.out,List.take_length,List.drop_length] at this
      simpa only [List.append_assoc,List.cons_append,List.nil_append] using this
     clear HU;go_wp2_with (fail);go_end0;exact FIN.out
theorem Zdr (base g c:Nat)(f:Nat)(lb:Array Value)(cf:Nat->Nat->Int)(nn a m b N y:Nat)(P L Q:List Nat)(w:World)(hw:Weak (ltC cf))(eg:∀ args w,(callFunc f args).run Tryz.prog w=.ok (.enter f args) w)(hcmp:CmpOk f lb cf nn g w)
  (h:OwN w base g c (P++(L++(y::Q)))) (hN:(P++(L++(y::Q))).length=N) (ha:P.length=a) (hL:a+L.length=m) (hR:m+1=b) (h2:2<=L.length) (sl:Srt (ltC cf) L) (hlt:Apart (· < ·) L [y]) (hy:y<nn) (hn:∀ x∈L,x<nn) (hl:N<=1000000000) :
  Calls Tryz.prog 272 #[.slice (some ⟨g,0,none⟩) N c,.int .i64 a,.int .i64 m,.int .i64 b,.func (.func f) #[] lb] w (Zv base g c (ltC cf) P (L++[y]) Q w):=by
 have hbN:b<=N:=by simp only[List.length_append,List.length_cons] at hN;omega
 have d0:((m:Int)-(a:Int)==1)=false:=by rw[beq_eq_false_iff_ne];omega
 have d1:((b:Int)-(m:Int)==1)=true:=by rw[beq_iff_eq];omega
 have hmN:m<N:=by omega
 have ham:a<=m:=by omega
 replace hN:=Hd hN;replace hcmp:=Hd hcmp;replace hw:=Hd hw;replace ha:=Hd ha;replace hn:=Hd hn;replace h:=Hd h;replace hL:=Hd hL;replace sl:=Hd sl;clear hR h2;go_enter Tryz.func272,Tryz.ntmps272;go_wp2_with (fail);go_loopw [14,15] (fun iv jv wr=>∃ (i j p q:Nat),iv=.int .i64 i/\jv=.int .i64 j/\Hid (i=a+p)/\Hid (j=a+q)/\Hid (BsR (fun z => !ltC cf y z) L p q)/\Hid (Ext w wr)) (fun iv jv _=>(intOf jv).toNat-(intOf iv).toNat)
 case atStart=>exact⟨a,m,0,L.length,rfl,rfl,rfl,hL.out.symm,BsR.start _ _,Ext.rf _⟩
 case round =>
  obtain⟨wo,rfl⟩:∃ wo:World,wo=wr:=⟨_,rfl⟩;obtain⟨i,j,p,q,rfl,rfl,hi,hj,HB,Y⟩:=hrel
  by_cases hpq:p<q
  ·obtain⟨z,ez,hzL,t1,t2,st1,st2⟩:=HB.out.mid hpq
   have hq:=HB.out.2.1;have hij:i<j:=by rw[hi.out,hj.out];omega
   have hjm:j<=m:=by rw[hj.out,<-hL.out];omega
   have hzn:=hn.out z hzL;obtain⟨t,ht⟩:∃ t,Hid (t=(p+q) / 2):=⟨_,rfl⟩;obtain⟨hh,hhh⟩:∃ hh,Hid (hh=(i+j) / 2):=⟨_,rfl⟩;rw[<-ht.out] at ez t1 t2 st1 st2;have eh:hh=a+t:=by rw[hhh.out,hi.out,hj.out,ht.out];omega
   have h1:i<=hh:=by rw[hhh.out];omega
   have h2:hh<j:=by rw[hhh.out];omega
   have mv:((i:Int)+(j:Int)) / 2=(hh:Int):=by rw[hhh.out];omega
   have ch:wo.cell? ⟨g,hh,none⟩=some (.int .i64 z):=(h.out.ext Y.out).at (P:=P) (j:=t) (by rw[List.getElem?_append_left (by have:=(List.getElem?_eq_some_iff.1 ez).1;omega)];exact ez) (by have:=ha.out;omega);have cm:wo.cell? ⟨g,m,none⟩=some (.int .i64 y):=(h.out.ext Y.out).at (P:=P) (j:=L.length) (by rw[List.getElem?_append_right (by omega),Nat.sub_self];rfl) (by have:=ha.out;have:=hL.out;omega);have hM:=Hd (Mod.of_ext (S:=fun k=>k=g) Y.out);have hc:∀ n,Calls Tryz.prog f (#[.int .i64 y,.int .i64 z]++lb) (wo.drewN n) fun e W'=>e=.returned (.int .i64 (cf y z))/\∃ q,W'=(wo.drewN n).drewN q:=fun n=>hcmp.out _ y z hy hzn (hM.out.drewN n)
   replace eh:=Hd eh;replace ht:=Hd ht;clear ez hzL
   by_cases hlv:cf y z<0
   ·replace st2:=Hd (st2.out (by show (!decide (cf y z<0))=false;rw[decide_eq_true hlv];rfl))
    have hlb:decide (cf y z<0)=true:=decide_eq_true hlv;clear st1;go_wp2_with (fail);go_quiet (first | (go_at_fn f;refine Calls.quiet_of (hc _)));go_wp2_with (fail);go_roundw
    case rel=>exact⟨i,hh,p,t,rfl,rfl,hi,eh,st2.out,Y.out.drewN _⟩
    case measure=>simp[intOf]<;>omega
   ·replace st1:=Hd (st1.out (by show (!decide (cf y z<0))=true;rw[decide_eq_false hlv];rfl))
    have hlb:decide (cf y z<0)=false:=decide_eq_false hlv;clear st2;go_wp2_with (fail);go_quiet (first | (go_at_fn f;refine Calls.quiet_of (hc _)));go_wp2_with (fail);go_roundw
    case rel=>exact⟨hh+1,j,t+1,q,by go_num,rfl,by have:=eh.out;show hh+1=_+(t+1);omega,hj,st1.out,Y.out.drewN _⟩
    case measure=>simp[intOf]<;>omega
  ·obtain⟨b1,b2,b3,b4⟩:=HB.out
   obtain rfl:p=q:=by omega
   obtain rfl:i=j:=by rw[hi.out,hj.out]
   have iN:i<=m:=by rw[hi.out,<-hL.out];omega
   have b3':∀ z,(L.take p).getLast?=some z->ltC cf y z=false:=fun z hz=>by simpa using b3 z hz
   have b4':∀ z,(L.drop p).head?=some z->ltC cf y z=true:=fun z hz=>by simpa using b4 z hz
   have START:Hid (UpS base g c (P++L.take p) (L.drop p) y Q (L.drop p).length w wo):=by
    refine⟨?_,Mod.of_ext Y.out⟩;have h1:=h.out.ext Y.out;rw[List.take_length,List.drop_length,List.append_assoc,<-List.append_assoc (L.take p),List.take_append_drop];exact h1
   have HF:Hid (Is (ltC cf) (L++[y]) (L.take p++(y::L.drop p))):=by
    refine⟨?_,Zdm hw.out (by rw[List.take_append_drop];exact sl.out) (by rw[List.take_append_drop];exact hlt) b3' b4'⟩;have:=List.take_append_drop p L;refine List.perm_middle.trans ?_;rw[this];exact List.perm_append_comm (l₁:=[y]) (l₂:=L)
   have hi2:Hid ((P++L.take p).length=i):=by
    have:(P++L.take p).length=i:=by rw[List.length_append,List.length_take,ha.out,hi.out];omega
    exact this
   have hLm:Hid (m=i+(L.drop p).length):=by
    have:m=i+(L.drop p).length:=by rw[List.length_drop,hi.out];have:=hL.out;omega
    exact this
   generalize L.take p=L1 at *;generalize L.drop p=L2 at *;clear HB b1 b2 b3 b4 b3' b4' hj hlt hL;go_wp2_with (fail);go_loopw [17] (fun kv wr=>∃ (k s:Nat),kv=.int .i64 k/\Hid (k=i+s)/\s<=L2.length/\Hid (UpS base g c (P++L1) L2 y Q s w wr)) (fun kv _=>(intOf kv).toNat)
   case atStart=>exact⟨m,L2.length,rfl,hLm,by omega,START⟩
   case round =>
    obtain⟨wi,rfl⟩:∃ wi:World,wi=wr:=⟨_,rfl⟩;obtain⟨k,s,rfl,hk,hs,HU⟩:=hrel;clear START
    cases s with
    | succ s =>
     obtain⟨z,c1,f1,c2,f2,NX⟩:=HU.out.down (by omega) hi2.out;obtain⟨kp,hkp⟩:∃ kp,Hid (kp=i+s):=⟨_,rfl⟩;rw[<-hkp.out] at c1 f1 c2 f2 NX;obtain rfl:k=kp+1:=by rw[hk.out,hkp.out];omega
     have kpm:kp<m:=by rw[hkp.out,hLm.out];omega
     have hwp:IntKind.i64.wrap (kp:Int)=(kp:Int):=IntWalk.i64_in _ (by omega);have jz:(kp:Int)+1<(N:Int):=by omega
     have jz1:(kp:Int)<(N:Int):=by omega
     have hjaz:(i:Int)<(kp:Int)+1:=by rw[hkp.out];omega
     have p0:(0:Int)<=(kp:Int)+1:=by omega
     have e0:((kp:Int)+1).toNat=kp+1:=by omega
     clear HU;go_wp2_with (fail);go_region
     all_goals go_wp2
     go_roundw
     case rel=>exact⟨kp,s,by first | rfl | go_num,hkp,by omega,NX.out.ext ((Ext.rf _).drew)⟩
     case measure=>simp[intOf]<;>omega
    | zero =>
     obtain rfl:k=i:=hk.out;have FIN:Hid (Zv base g c (ltC cf) P (L++[y]) Q w (.returned (.tuple #[])) wi):=by
      refine⟨_,HF.out,rfl,?_,HU.out.2⟩;have:=HU.out.1;rw[List.take_zero,List.drop_zero] at this
      simpa only [List.append_assoc,List.cons_append,List.nil_append] using this
     clear HU;go_wp2_with (fail);go_end0;exact FIN.out
def ZcI (base g c:Nat)(P L1 R1 L2 R2 Q:List Nat)(w W:World) : Prop:=OwN W base g c (P++(L1++(R1++(L2++(R2++Q)))))/\Mod (fun k=>k=g) w W
def ZcJ (base g c:Nat)(lt:Nat->Nat->Bool)(P L1 R1 L2 R2 Q:List Nat)(w W:World) : Prop:=∃ M1,Is lt (L1++R1) M1/\OwN W base g c (P++(M1++(L2++(R2++Q))))/\Mod (fun k=>k=g) w W
def Za0 (T:World->Prop)(e:Ending)(w':World) : Prop:=e=.returned (.tuple #[])/\T w'
def SymIH (base g c f:Nat)(lb:Array Value)(cf:Nat->Nat->Int)(nn N d:Nat)(w:World) : Prop :=
 ∀ (a m b:Nat) (P L R Q:List Nat) (W:World),b-a<d->Mod (fun k=>k=g) w W->OwN W base g c (P++(L++(R++Q)))->(P++(L++(R++Q))).length=N->P.length=a->a+L.length=m->m+R.length=b->0<L.length->0<R.length ->
  Srt (ltC cf) L->Srt (ltC cf) R->Apart (· < ·) L R->(∀ x∈L++R,x<nn)->Calls Tryz.prog 272 #[.slice (some ⟨g,0,none⟩) N c,.int .i64 a,.int .i64 m,.int .i64 b,.func (.func f) #[] lb] W (Zv base g c (ltC cf) P (L++R) Q W)
def Uo (a m b mid lo hi:Nat) : Prop:=(m<=mid/\lo=a/\hi=m)\/(mid<m/\lo+b=mid+m/\hi=mid)
theorem QW {lt:Nat->Nat->Bool}{A B:List Nat}(ha:Srt lt A)(hb:Srt lt B)(h:A.length=0\/B.length=0) : Srt lt (A++B):=by
 rcases h with h | h
 ·rw[List.eq_nil_of_length_eq_zero h];exact hb
 ·rw[List.eq_nil_of_length_eq_zero h,List.append_nil];exact ha
theorem Za1 {A B T:List Nat}(h:A.length=0\/B.length=0) : A++(B++T)=B++(A++T):=by
 rcases h with h | h
 ·rw[List.eq_nil_of_length_eq_zero h];rfl
 ·rw[List.eq_nil_of_length_eq_zero h];rfl
section
variable {base g c f N nn a m b s mid en d:Nat} {lb:Array Value} {cf:Nat->Nat->Int} {P L1 L2 R1 R2 Q:List Nat} {w:World}
theorem SymIH.first (IH:SymIH base g c f lb cf nn N d w)(hd:mid-a<d)(hN:(P++(L1++(L2++(R1++(R2++Q))))).length=N)(ha:P.length=a)(h1:a+L1.length=s)(h2:s+R1.length=mid)(sl:Srt (ltC cf) L1)(sr:Srt (ltC cf) R1)(hlt:Apart (· < ·) L1 R1)(hn:∀ x∈L1++R1,x<nn) :
  (∀ W,ZcI base g c P L1 R1 L2 R2 Q w W->0<L1.length->0<R1.length->Calls Tryz.prog 272 #[.slice (some ⟨g,0,none⟩) N c,.int .i64 a,.int .i64 s,.int .i64 mid,.func (.func f) #[] lb] W (Za0 (ZcJ base g c (ltC cf) P L1 R1 L2 R2 Q w))) /\
  (∀ W,ZcI base g c P L1 R1 L2 R2 Q w W->(L1.length=0\/R1.length=0)->ZcJ base g c (ltC cf) P L1 R1 L2 R2 Q w W):=by
 refine⟨fun W hT h3 h4=>?_,fun W hT h3=>⟨_,Is.rf (QW sl sr h3),by simpa only [List.append_assoc] using hT.1,hT.2⟩⟩;refine(IH a s mid P L1 R1 (L2++(R2++Q)) W hd hT.2 hT.1 (by simp only[List.length_append] at hN ⊢;omega) ha h1 h2 h3 h4 sl sr hlt hn).mono ?_;rintro e w' ⟨M,h5,rfl,h6,h7⟩;exact⟨rfl,M,h5,h6,hT.2.tr h7⟩
theorem SymIH.second (IH:SymIH base g c f lb cf nn N d w)(hd:b-mid<d)(hN:(P++(L1++(L2++(R1++(R2++Q))))).length=N)(ha:P.length=a)(h1:a+L1.length+R1.length=mid)(h2:mid+L2.length=en)(h3:en+R2.length=b)(sl:Srt (ltC cf) L2)(sr:Srt (ltC cf) R2)(hlt:Apart (· < ·) L2 R2)(hn:∀ x∈L2++R2,x<nn)
  (hA:Apart (strictly (ltC cf)) (L1++R1) (L2++R2)) {L R:List Nat} (hL:L=L1++L2) (hR:R=R1++R2) :
  (∀ W,ZcJ base g c (ltC cf) P L1 R1 L2 R2 Q w W->0<L2.length->0<R2.length->Calls Tryz.prog 272 #[.slice (some ⟨g,0,none⟩) N c,.int .i64 mid,.int .i64 en,.int .i64 b,.func (.func f) #[] lb] W (Zv base g c (ltC cf) P (L++R) Q w)) /\
  (∀ W,ZcJ base g c (ltC cf) P L1 R1 L2 R2 Q w W->(L2.length=0\/R2.length=0)->Zv base g c (ltC cf) P (L++R) Q w (.returned (.tuple #[])) W):=by
 subst hL hR;have hp:=Zdn L1 L2 R1 R2;refine⟨?_,?_⟩
 ·rintro W ⟨M1,i1,hO,hM⟩ h4 h5
  have hl1:=i1.len;rw[List.length_append] at hl1;refine(IH mid en b (P++M1) L2 R2 Q W hd hM (by rw[List.append_assoc];exact hO) (by simp only[List.length_append] at hN ⊢;omega) (by rw[List.length_append];omega) h2 h3 h4 h5 sl sr hlt hn).mono ?_;rintro e w' ⟨M,h6,rfl,h7,h8⟩;exact⟨M1++M,(i1.join h6 hA).perm hp,rfl,by simpa only [List.append_assoc] using h7,hM.tr h8⟩
 ·rintro W ⟨M1,i1,hO,hM⟩ h4
  exact⟨M1++(L2++R2),(i1.join (Is.rf (QW sl sr h4)) hA).perm hp,rfl,by simpa only [List.append_assoc] using hO,hM⟩
end
theorem JF {base g c N a m en s:Nat}(fv:Value){P L1 L2 R1 R2 Q:List Nat}{w wo:World}(hO:OwN wo base g c (P++(L1++(L2++(R1++(R2++Q))))))(hM:Mod (fun k=>k=g) w wo)(hN:(P++(L1++(L2++(R1++(R2++Q))))).length=N)(ha:P.length=a)(h1:a+L1.length=s)(h2:s+L2.length=m)(h3:m+R1.length=en)(hl:N<=1000000000) :
  (0<L2.length->0<R1.length->Calls Tryz.prog 273 #[.slice (some ⟨g,0,none⟩) N c,.int .i64 s,.int .i64 m,.int .i64 en,fv] wo (Za0 (ZcI base g c P L1 R1 L2 R2 Q w))) /\
  ((L2.length=0\/R1.length=0)->ZcI base g c P L1 R1 L2 R2 Q w wo):=by
 constructor
 ·intro h4 h5
  refine(ZbV base g c fv s m en N (P++L1) L2 R1 (R2++Q) wo (by simpa only [List.append_assoc] using hO) (by simpa only [List.append_assoc] using hN) (by rw[List.length_append];omega) h2 h3 h4 h5 hl).mono ?_;rintro e w' ⟨rfl,h6,h7⟩;exact⟨rfl,by simpa only [List.append_assoc] using h6,hM.tr h7⟩
 ·intro h4
  refine⟨?_,hM⟩;rw[Za1 (T:=R2++Q) h4] at hO;exact hO
theorem ZcK (base g c:Nat)(f:Nat)(lb:Array Value)(cf:Nat->Nat->Int)(nn a m b N mid lo hi:Nat)(P L R Q:List Nat)(w:World)(hw:Weak (ltC cf))(eg:∀ args w,(callFunc f args).run Tryz.prog w=.ok (.enter f args) w)(hcmp:CmpOk f lb cf nn g w)(IH:SymIH base g c f lb cf nn N (b-a) w)
  (h:OwN w base g c (P++(L++(R++Q)))) (hN:(P++(L++(R++Q))).length=N) (ha:P.length=a) (hL:a+L.length=m) (hR:m+R.length=b) (h1:2<=L.length) (h2:2<=R.length) (sl:Srt (ltC cf) L) (sr:Srt (ltC cf) R) (hlt:Apart (· < ·) L R) (hn:∀ x∈L++R,x<nn) (hl:N<=1000000000)
  (hmid:mid=(a+b) / 2) (hcase:(m<=mid/\lo=a/\hi=m)\/(mid<m/\lo+b=mid+m/\hi=mid)) :
  Calls Tryz.prog 272 #[.slice (some ⟨g,0,none⟩) N c,.int .i64 a,.int .i64 m,.int .i64 b,.func (.func f) #[] lb] w (Zv base g c (ltC cf) P (L++R) Q w):=by
 have hbN:b<=N:=by simp only[List.length_append] at hN;omega
 have d0:((m:Int)-(a:Int)==1)=false:=by rw[beq_eq_false_iff_ne];omega
 have d1:((b:Int)-(m:Int)==1)=false:=by rw[beq_eq_false_iff_ne];omega
 have k1:a+2<=m:=by omega
 have k2:m+2<=b:=by omega
 have k3:a<mid/\mid<b/\2*mid<=a+b/\a+b<=2*mid+1:=by omega
 have k4:a<=lo/\lo<=hi/\hi<=m/\hi<=mid:=by omega
 have HLR:Hid (a+L.length=m/\m+R.length=b):=⟨hL,hR⟩;have HC:Uo a m b mid lo hi:=hcase;have HS0:Hid (SymR (ltC cf) L R a mid lo hi lo hi):=SymR.start _ _ _ _ _ k4.2.1;have mvm:((a:Int)+(b:Int)) / 2=(mid:Int):=by rw[hmid];omega
 obtain⟨p1,hp1⟩:∃ p1,Hid (p1+1=mid+m):=⟨mid+m-1,by show mid+m-1+1=mid+m;omega⟩;have hp1':=hp1.out;have env:(mid:Int)+(m:Int)=(p1:Int)+1:=by omega
 have hwp1:IntKind.i64.wrap (p1:Int)=(p1:Int):=IntWalk.i64_in _ (by omega);clear hL hR h1 h2 hmid;replace hN:=Hd hN;replace hcmp:=Hd hcmp;replace hw:=Hd hw;replace ha:=Hd ha;replace hn:=Hd hn;replace h:=Hd h;replace sl:=Hd sl;replace sr:=Hd sr;replace hlt:=Hd hlt;replace IH:=Hd IH;rcases hcase with⟨q1,q2,q3⟩ | ⟨q1,q2,q3⟩
 ·have t0:¬(mid:Int)<(m:Int):=by omega
  have q2':=q2.symm;have q3':=q3.symm;clear q2 q3;subst q2' q3';clear q1 hp1';go_enter Tryz.func272,Tryz.ntmps272;go_wp2_with (fail);clear t0;go_loopw [20,21] (fun iv jv wr=>∃ (s r:Nat),iv=.int .i64 s/\jv=.int .i64 r/\Hid (SymR (ltC cf) L R a mid a m s r)/\Hid (Ext w wr)) (fun iv jv _=>(intOf jv).toNat-(intOf iv).toNat)
  case atStart=>exact⟨_,_,rfl,rfl,HS0,Ext.rf _⟩
  case round =>
   obtain⟨wo,rfl⟩:∃ wo:World,wo=wr:=⟨_,rfl⟩;obtain⟨s,r,rfl,rfl,HB,Y⟩:=hrel;clear HS0 mvm env;obtain⟨g1,g2,g3,_,_⟩:=HB.out
   by_cases hsr:s<r
   ·obtain⟨cc,hcc⟩:∃ cc,Hid (cc=(s+r) / 2):=⟨_,rfl⟩
    have c1:s<=cc:=by rw[hcc.out];omega
    have c2:cc<r:=by rw[hcc.out];omega
    have mvc:((s:Int)+(r:Int)) / 2=(cc:Int):=by rw[hcc.out];omega
    obtain⟨hL,hR⟩:=HLR.out;obtain⟨pc,hpc⟩:∃ pc,Hid (pc=m+(mid-1-cc)):=⟨_,rfl⟩;have hpc':=hpc.out;have hp1':=hp1.out;have hcs:=HC;unfold Uo at hcs;have epc:(p1:Int)-(cc:Int)=(pc:Int):=by omega
    have pcb:pc<N:=by omega
    have ccN:cc<N:=by omega
    have ex:L[cc-a]?=some (L[cc-a]'(by omega)):=List.getElem?_eq_getElem _;have ey:R[mid-1-cc]?=some (R[mid-1-cc]'(by omega)):=List.getElem?_eq_getElem _;generalize L[cc-a]'(by omega)=x at ex;generalize R[mid-1-cc]'(by omega)=y at ey;have hxn:=hn.out x (List.mem_append_left _ (List.mem_of_getElem? ex));have hyn:=hn.out y (List.mem_append_right _ (List.mem_of_getElem? ey));have cx:wo.cell? ⟨g,cc,none⟩=some (.int .i64 x):=(h.out.ext Y.out).at (P:=P) (j:=cc-a) (by rw[List.getElem?_append_left (by omega)];exact ex) (by have:=ha.out;omega);have cy:wo.cell? ⟨g,pc,none⟩=some (.int .i64 y):=(h.out.ext Y.out).at (P:=P) (j:=L.length+(mid-1-cc)) (by rw[List.getElem?_append_right (by omega),Nat.add_sub_cancel_left,List.getElem?_append_left (by omega)];exact ey) (by have:=ha.out;omega);have st1:=Hd (HB.out.left c1 c2 ex ey);have st2:=Hd (HB.out.right c1 c2 ex ey);have hM:=Hd (Mod.of_ext (S:=fun k=>k=g) Y.out);have hc:∀ n,Calls Tryz.prog f (#[.int .i64 y,.int .i64 x]++lb) (wo.drewN n) fun e W'=>e=.returned (.int .i64 (cf y x))/\∃ q,W'=(wo.drewN n).drewN q:=fun n=>hcmp.out _ y x hyn hxn (hM.out.drewN n)
    clear ex ey hpc' hp1' hL hR hcs
    by_cases hlv:cf y x<0
    ·replace st2:=Hd (st2.out (decide_eq_true hlv))
     have hlb:decide (cf y x<0)=true:=decide_eq_true hlv;clear st1;go_wp2_with (fail);go_quiet (first | (go_at_fn f;refine Calls.quiet_of (hc _)));go_wp2_with (fail);go_roundw
     case rel=>exact⟨s,cc,rfl,rfl,st2.out,Y.out.drewN _⟩
     case measure=>simp[intOf]<;>omega
    ·replace st1:=Hd (st1.out (decide_eq_false hlv))
     have hlb:decide (cf y x<0)=false:=decide_eq_false hlv;clear st2;go_wp2_with (fail);go_quiet (first | (go_at_fn f;refine Calls.quiet_of (hc _)));go_wp2_with (fail);go_roundw
     case rel=>exact⟨cc+1,r,by go_num,rfl,st1.out,Y.out.drewN _⟩
     case measure=>simp[intOf]<;>omega
   ·obtain rfl:s=r:=by omega
    obtain⟨hL,hR⟩:=HLR.out;have hN':=hN.out;have hA:=ZcH hw.out sl.out sr.out hlt.out hL hR HB.out HC k3.2.2.1 k4.1;obtain⟨en,hen⟩:∃ en,Hid (en=m+(mid-s)):=⟨_,rfl⟩;have hen':=hen.out;have hp1':=hp1.out;have een:(p1:Int)+1-(s:Int)=(en:Int):=by omega
    have eL:L=L.take (s-a)++L.drop (s-a):=(List.take_append_drop _ _).symm;have hcs:=HC;unfold Uo at hcs;have hmr:mid-s<=R.length:=by omega
    have eR:R=R.take (mid-s)++R.drop (mid-s):=(List.take_append_drop _ _).symm;have l1:(L.take (s-a)).length=s-a:=by rw[List.length_take];omega
    have l2:(L.drop (s-a)).length=m-s:=by rw[List.length_drop];omega
    have l3:(R.take (mid-s)).length=mid-s:=by rw[List.length_take];omega
    have l4:(R.drop (mid-s)).length=b-en:=by rw[List.length_drop];omega
    generalize L.take (s-a)=L1 at *;generalize L.drop (s-a)=L2 at *;generalize R.take (mid-s)=R1 at *;generalize R.drop (mid-s)=R2 at *;have hO:=h.out.ext Y.out;have sl':=sl.out;have sr':=sr.out;have hlt':=hlt.out;have hn':=hn.out;rw[eL] at sl' hlt' hO hN' hn';rw[eR] at sr' hlt' hO hN' hn';simp only[List.append_assoc] at hO hN';have sl1:=Zq.1 sl';have sr1:=Zq.1 sr';have ap1:=Apart.app_left.1 hlt';have ROT:=JF (m:=m) (en:=en) (s:=s) (.func (.func f) #[] lb) hO (Mod.of_ext Y.out) hN' ha.out (by omega) (by omega) (by omega) hl;have FI:=IH.out.first (s:=s) (mid:=mid) (by omega) hN' ha.out (by omega) (by omega) sl1.1 sr1.1 (Apart.app_right.1 ap1.1).1 (fun x hx=>hn' x (by rcases List.mem_append.1 hx with h9 | h9<;>simp[h9]));have SE:=IH.out.second (b:=b) (mid:=mid) (en:=en) (by omega) hN' ha.out (by omega) (by omega) (by omega) sl1.2.1 sr1.2.1 (Apart.app_right.1 ap1.2).2 (fun x hx=>hn' x (by rcases List.mem_append.1 hx with h9 | h9<;>simp[h9])) hA eL eR;replace ROT:=Hd ROT;replace FI:=Hd FI;replace SE:=Hd SE;have f1:s<=m:=by omega
    have f2:s<=mid:=by omega
    have f3:a<=s:=by omega
    have f4:en<=b:=by omega
    have e1:L1.length=s-a:=l1;clear hO hN' sl' sr' hlt' hn' sl1 sr1 ap1 hA eL eR hL hR hp1' hcs hmr HB e1;have hen2:en+s=m+mid:=by omega
    clear hen' hsr;replace l1:=Hd l1;replace l2:=Hd l2;replace l3:=Hd l3;replace l4:=Hd l4
    by_cases cA:s<m<;>by_cases cB:s<mid<;>by_cases cC:a<s<;>by_cases cD:en<b
    ·
     first
     | (exfalso;clear ROT FI SE;omega)
     | (have y1:(s:Int)<(m:Int):=by omega
        have y2:(m:Int)<(en:Int):=by omega
        have y3:(a:Int)<(s:Int):=by omega
        have y4:(s:Int)<(mid:Int):=by omega
        have y5:(mid:Int)<(en:Int):=by omega
        have y6:(en:Int)<(b:Int):=by omega
        clear cA cB cC cD hen2 hen;replace ROT:=Hd (ROT.out.1 (by rw[l2.out];omega) (by rw[l3.out];omega));replace FI:=Hd (fun(W:World) hT=>FI.out.1 W hT (by rw[l1.out];omega) (by rw[l3.out];omega));replace SE:=Hd (fun(W:World) hT=>SE.out.1 W hT (by rw[l2.out];omega) (by rw[l4.out];omega));go_wp2_with (fail);refine ROT.out.mono ?_;rintro e w1 ⟨rfl,T1⟩;replace T1:=Hd T1;go_wp2_with (fail);refine(FI.out w1 T1.out).mono ?_;rintro e w2 ⟨rfl,T2⟩;replace T2:=Hd T2;go_wp2_with (fail);refine(SE.out w2 T2.out).mono ?_;rintro e w3 HS3;obtain⟨M3,i3,rfl,o3,m3⟩:=HS3;have T3:Hid (Zv base g c (ltC cf) P (L++R) Q w (.returned (.tuple #[])) w3):=⟨M3,i3,rfl,o3,m3⟩;clear i3 o3 m3;go_wp2_with (fail);go_end0;exact T3.out)
    ·
     first
     | (exfalso;clear ROT FI SE;omega)
     | (have y1:(s:Int)<(m:Int):=by omega
        have y2:(m:Int)<(en:Int):=by omega
        have y3:(a:Int)<(s:Int):=by omega
        have y4:(s:Int)<(mid:Int):=by omega
        have y5:(mid:Int)<(en:Int):=by omega
        have y6:¬(en:Int)<(b:Int):=by omega
        clear cA cB cC cD hen2 hen;replace ROT:=Hd (ROT.out.1 (by rw[l2.out];omega) (by rw[l3.out];omega));replace FI:=Hd (fun(W:World) hT=>FI.out.1 W hT (by rw[l1.out];omega) (by rw[l3.out];omega));replace SE:=Hd (fun(W:World) hT=>SE.out.2 W hT (by rw[l2.out,l4.out];omega));go_wp2_with (fail);refine ROT.out.mono ?_;rintro e w1 ⟨rfl,T1⟩;replace T1:=Hd T1;go_wp2_with (fail);refine(FI.out w1 T1.out).mono ?_;rintro e w2 ⟨rfl,T2⟩;replace T2:=Hd T2;go_wp2_with (fail);have T3:=Hd (SE.out w2 T2.out);go_end0;exact T3.out)
    ·
     first
     | (exfalso;clear ROT FI SE;omega)
     | (have y1:(s:Int)<(m:Int):=by omega
        have y2:(m:Int)<(en:Int):=by omega
        have y3:¬(a:Int)<(s:Int):=by omega
        have y4:(s:Int)<(mid:Int):=by omega
        have y5:(mid:Int)<(en:Int):=by omega
        have y6:(en:Int)<(b:Int):=by omega
        clear cA cB cC cD hen2 hen;replace ROT:=Hd (ROT.out.1 (by rw[l2.out];omega) (by rw[l3.out];omega));replace FI:=Hd (fun(W:World) hT=>FI.out.2 W hT (by rw[l1.out,l3.out];omega));replace SE:=Hd (fun(W:World) hT=>SE.out.1 W hT (by rw[l2.out];omega) (by rw[l4.out];omega));go_wp2_with (fail);refine ROT.out.mono ?_;rintro e w1 ⟨rfl,T1⟩;replace T1:=Hd T1;go_wp2_with (fail);have T2:=Hd (FI.out w1 T1.out);refine(SE.out w1 T2.out).mono ?_;rintro e w3 HS3;obtain⟨M3,i3,rfl,o3,m3⟩:=HS3;have T3:Hid (Zv base g c (ltC cf) P (L++R) Q w (.returned (.tuple #[])) w3):=⟨M3,i3,rfl,o3,m3⟩;clear i3 o3 m3;go_wp2_with (fail);go_end0;exact T3.out)
    ·
     first
     | (exfalso;clear ROT FI SE;omega)
     | (have y1:(s:Int)<(m:Int):=by omega
        have y2:(m:Int)<(en:Int):=by omega
        have y3:¬(a:Int)<(s:Int):=by omega
        have y4:(s:Int)<(mid:Int):=by omega
        have y5:(mid:Int)<(en:Int):=by omega
        have y6:¬(en:Int)<(b:Int):=by omega
        clear cA cB cC cD hen2 hen;replace ROT:=Hd (ROT.out.1 (by rw[l2.out];omega) (by rw[l3.out];omega));replace FI:=Hd (fun(W:World) hT=>FI.out.2 W hT (by rw[l1.out,l3.out];omega));replace SE:=Hd (fun(W:World) hT=>SE.out.2 W hT (by rw[l2.out,l4.out];omega));go_wp2_with (fail);refine ROT.out.mono ?_;rintro e w1 ⟨rfl,T1⟩;replace T1:=Hd T1;go_wp2_with (fail);have T2:=Hd (FI.out w1 T1.out);have T3:=Hd (SE.out w1 T2.out);go_end0;exact T3.out)
    ·
     first
     | (exfalso;clear ROT FI SE;omega)
     | (have y1:(s:Int)<(m:Int):=by omega
        have y2:¬(m:Int)<(en:Int):=by omega
        have y3:(a:Int)<(s:Int):=by omega
        have y4:¬(s:Int)<(mid:Int):=by omega
        have y5:(mid:Int)<(en:Int):=by omega
        have y6:(en:Int)<(b:Int):=by omega
        clear cA cB cC cD hen2 hen;have T1:=Hd (ROT.out.2 (by rw[l2.out,l3.out];omega));replace FI:=Hd (fun(W:World) hT=>FI.out.2 W hT (by rw[l1.out,l3.out];omega));replace SE:=Hd (fun(W:World) hT=>SE.out.1 W hT (by rw[l2.out];omega) (by rw[l4.out];omega));go_wp2_with (fail);have T2:=Hd (FI.out wo T1.out);refine(SE.out wo T2.out).mono ?_;rintro e w3 HS3;obtain⟨M3,i3,rfl,o3,m3⟩:=HS3;have T3:Hid (Zv base g c (ltC cf) P (L++R) Q w (.returned (.tuple #[])) w3):=⟨M3,i3,rfl,o3,m3⟩;clear i3 o3 m3;go_wp2_with (fail);go_end0;exact T3.out)
    ·
     first
     | (exfalso;clear ROT FI SE;omega)
     | (have y1:(s:Int)<(m:Int):=by omega
        have y2:¬(m:Int)<(en:Int):=by omega
        have y3:(a:Int)<(s:Int):=by omega
        have y4:¬(s:Int)<(mid:Int):=by omega
        have y5:(mid:Int)<(en:Int):=by omega
        have y6:¬(en:Int)<(b:Int):=by omega
        clear cA cB cC cD hen2 hen;have T1:=Hd (ROT.out.2 (by rw[l2.out,l3.out];omega));replace FI:=Hd (fun(W:World) hT=>FI.out.2 W hT (by rw[l1.out,l3.out];omega));replace SE:=Hd (fun(W:World) hT=>SE.out.2 W hT (by rw[l2.out,l4.out];omega));go_wp2_with (fail);have T2:=Hd (FI.out wo T1.out);have T3:=Hd (SE.out wo T2.out);go_end0;exact T3.out)
    ·
     first
     | (exfalso;clear ROT FI SE;omega)
     | (have y1:(s:Int)<(m:Int):=by omega
        have y2:¬(m:Int)<(en:Int):=by omega
        have y3:¬(a:Int)<(s:Int):=by omega
        have y4:¬(s:Int)<(mid:Int):=by omega
        have y5:(mid:Int)<(en:Int):=by omega
        have y6:(en:Int)<(b:Int):=by omega
        clear cA cB cC cD hen2 hen;have T1:=Hd (ROT.out.2 (by rw[l2.out,l3.out];omega));replace FI:=Hd (fun(W:World) hT=>FI.out.2 W hT (by rw[l1.out,l3.out];omega));replace SE:=Hd (fun(W:World) hT=>SE.out.1 W hT (by rw[l2.out];omega) (by rw[l4.out];omega));go_wp2_with (fail);have T2:=Hd (FI.out wo T1.out);refine(SE.out wo T2.out).mono ?_;rintro e w3 HS3;obtain⟨M3,i3,rfl,o3,m3⟩:=HS3;have T3:Hid (Zv base g c (ltC cf) P (L++R) Q w (.returned (.tuple #[])) w3):=⟨M3,i3,rfl,o3,m3⟩;clear i3 o3 m3;go_wp2_with (fail);go_end0;exact T3.out)
    ·
     first
     | (exfalso;clear ROT FI SE;omega)
     | (have y1:(s:Int)<(m:Int):=by omega
        have y2:¬(m:Int)<(en:Int):=by omega
        have y3:¬(a:Int)<(s:Int):=by omega
        have y4:¬(s:Int)<(mid:Int):=by omega
        have y5:(mid:Int)<(en:Int):=by omega
        have y6:¬(en:Int)<(b:Int):=by omega
        clear cA cB cC cD hen2 hen;have T1:=Hd (ROT.out.2 (by rw[l2.out,l3.out];omega));replace FI:=Hd (fun(W:World) hT=>FI.out.2 W hT (by rw[l1.out,l3.out];omega));replace SE:=Hd (fun(W:World) hT=>SE.out.2 W hT (by rw[l2.out,l4.out];omega));go_wp2_with (fail);have T2:=Hd (FI.out wo T1.out);have T3:=Hd (SE.out wo T2.out);go_end0;exact T3.out)
    ·
     first
     | (exfalso;clear ROT FI SE;omega)
     | (have y1:¬(s:Int)<(m:Int):=by omega
        have y2:(m:Int)<(en:Int):=by omega
        have y3:(a:Int)<(s:Int):=by omega
        have y4:(s:Int)<(mid:Int):=by omega
        have y5:¬(mid:Int)<(en:Int):=by omega
        have y6:(en:Int)<(b:Int):=by omega
        clear cA cB cC cD hen2 hen;have T1:=Hd (ROT.out.2 (by rw[l2.out,l3.out];omega));replace FI:=Hd (fun(W:World) hT=>FI.out.1 W hT (by rw[l1.out];omega) (by rw[l3.out];omega));replace SE:=Hd (fun(W:World) hT=>SE.out.2 W hT (by rw[l2.out,l4.out];omega));go_wp2_with (fail);refine(FI.out wo T1.out).mono ?_;rintro e w2 ⟨rfl,T2⟩;replace T2:=Hd T2;go_wp2_with (fail);have T3:=Hd (SE.out w2 T2.out);go_end0;exact T3.out)
    ·
     first
     | (exfalso;clear ROT FI SE;omega)
     | (have y1:¬(s:Int)<(m:Int):=by omega
        have y2:(m:Int)<(en:Int):=by omega
        have y3:(a:Int)<(s:Int):=by omega
        have y4:(s:Int)<(mid:Int):=by omega
        have y5:¬(mid:Int)<(en:Int):=by omega
        have y6:¬(en:Int)<(b:Int):=by omega
        clear cA cB cC cD hen2 hen;have T1:=Hd (ROT.out.2 (by rw[l2.out,l3.out];omega));replace FI:=Hd (fun(W:World) hT=>FI.out.1 W hT (by rw[l1.out];omega) (by rw[l3.out];omega));replace SE:=Hd (fun(W:World) hT=>SE.out.2 W hT (by rw[l2.out,l4.out];omega));go_wp2_with (fail);refine(FI.out wo T1.out).mono ?_;rintro e w2 ⟨rfl,T2⟩;replace T2:=Hd T2;go_wp2_with (fail);have T3:=Hd (SE.out w2 T2.out);go_end0;exact T3.out)
    ·
     first
     | (exfalso;clear ROT FI SE;omega)
     | (have y1:¬(s:Int)<(m:Int):=by omega
        have y2:(m:Int)<(en:Int):=by omega
        have y3:¬(a:Int)<(s:Int):=by omega
        have y4:(s:Int)<(mid:Int):=by omega
        have y5:¬(mid:Int)<(en:Int):=by omega
        have y6:(en:Int)<(b:Int):=by omega
        clear cA cB cC cD hen2 hen;have T1:=Hd (ROT.out.2 (by rw[l2.out,l3.out];omega));replace FI:=Hd (fun(W:World) hT=>FI.out.2 W hT (by rw[l1.out,l3.out];omega));replace SE:=Hd (fun(W:World) hT=>SE.out.2 W hT (by rw[l2.out,l4.out];omega));go_wp2_with (fail);have T2:=Hd (FI.out wo T1.out);have T3:=Hd (SE.out wo T2.out);go_end0;exact T3.out)
    ·
     first
     | (exfalso;clear ROT FI SE;omega)
     | (have y1:¬(s:Int)<(m:Int):=by omega
        have y2:(m:Int)<(en:Int):=by omega
        have y3:¬(a:Int)<(s:Int):=by omega
        have y4:(s:Int)<(mid:Int):=by omega
        have y5:¬(mid:Int)<(en:Int):=by omega
        have y6:¬(en:Int)<(b:Int):=by omega
        clear cA cB cC cD hen2 hen;have T1:=Hd (ROT.out.2 (by rw[l2.out,l3.out];omega));replace FI:=Hd (fun(W:World) hT=>FI.out.2 W hT (by rw[l1.out,l3.out];omega));replace SE:=Hd (fun(W:World) hT=>SE.out.2 W hT (by rw[l2.out,l4.out];omega));go_wp2_with (fail);have T2:=Hd (FI.out wo T1.out);have T3:=Hd (SE.out wo T2.out);go_end0;exact T3.out)
    ·
     first
     | (exfalso;clear ROT FI SE;omega)
     | (have y1:¬(s:Int)<(m:Int):=by omega
        have y2:¬(m:Int)<(en:Int):=by omega
        have y3:(a:Int)<(s:Int):=by omega
        have y4:¬(s:Int)<(mid:Int):=by omega
        have y5:¬(mid:Int)<(en:Int):=by omega
        have y6:(en:Int)<(b:Int):=by omega
        clear cA cB cC cD hen2 hen;have T1:=Hd (ROT.out.2 (by rw[l2.out,l3.out];omega));replace FI:=Hd (fun(W:World) hT=>FI.out.2 W hT (by rw[l1.out,l3.out];omega));replace SE:=Hd (fun(W:World) hT=>SE.out.2 W hT (by rw[l2.out,l4.out];omega));go_wp2_with (fail);have T2:=Hd (FI.out wo T1.out);have T3:=Hd (SE.out wo T2.out);go_end0;exact T3.out)
    ·
     first
     | (exfalso;clear ROT FI SE;omega)
     | (have y1:¬(s:Int)<(m:Int):=by omega
        have y2:¬(m:Int)<(en:Int):=by omega
        have y3:(a:Int)<(s:Int):=by omega
        have y4:¬(s:Int)<(mid:Int):=by omega
        have y5:¬(mid:Int)<(en:Int):=by omega
        have y6:¬(en:Int)<(b:Int):=by omega
        clear cA cB cC cD hen2 hen;have T1:=Hd (ROT.out.2 (by rw[l2.out,l3.out];omega));replace FI:=Hd (fun(W:World) hT=>FI.out.2 W hT (by rw[l1.out,l3.out];omega));replace SE:=Hd (fun(W:World) hT=>SE.out.2 W hT (by rw[l2.out,l4.out];omega));go_wp2_with (fail);have T2:=Hd (FI.out wo T1.out);have T3:=Hd (SE.out wo T2.out);go_end0;exact T3.out)
    ·
     first
     | (exfalso;clear ROT FI SE;omega)
     | (have y1:¬(s:Int)<(m:Int):=by omega
        have y2:¬(m:Int)<(en:Int):=by omega
        have y3:¬(a:Int)<(s:Int):=by omega
        have y4:¬(s:Int)<(mid:Int):=by omega
        have y5:¬(mid:Int)<(en:Int):=by omega
        have y6:(en:Int)<(b:Int):=by omega
        clear cA cB cC cD hen2 hen;have T1:=Hd (ROT.out.2 (by rw[l2.out,l3.out];omega));replace FI:=Hd (fun(W:World) hT=>FI.out.2 W hT (by rw[l1.out,l3.out];omega));replace SE:=Hd (fun(W:World) hT=>SE.out.2 W hT (by rw[l2.out,l4.out];omega));go_wp2_with (fail);have T2:=Hd (FI.out wo T1.out);have T3:=Hd (SE.out wo T2.out);go_end0;exact T3.out)
    ·
     first
     | (exfalso;clear ROT FI SE;omega)
     | (have y1:¬(s:Int)<(m:Int):=by omega
        have y2:¬(m:Int)<(en:Int):=by omega
        have y3:¬(a:Int)<(s:Int):=by omega
        have y4:¬(s:Int)<(mid:Int):=by omega
        have y5:¬(mid:Int)<(en:Int):=by omega
        have y6:¬(en:Int)<(b:Int):=by omega
        clear cA cB cC cD hen2 hen;have T1:=Hd (ROT.out.2 (by rw[l2.out,l3.out];omega));replace FI:=Hd (fun(W:World) hT=>FI.out.2 W hT (by rw[l1.out,l3.out];omega));replace SE:=Hd (fun(W:World) hT=>SE.out.2 W hT (by rw[l2.out,l4.out];omega));go_wp2_with (fail);have T2:=Hd (FI.out wo T1.out);have T3:=Hd (SE.out wo T2.out);go_end0;exact T3.out)
 ·have t0:(mid:Int)<(m:Int):=by omega
  have elo:(p1:Int)+1-(b:Int)=(lo:Int):=by omega
  have q3':=q3.symm;clear q3;subst q3';clear q1 q2 hp1';go_enter Tryz.func272,Tryz.ntmps272;go_wp2_with (fail);clear t0 elo;go_loopw [20,21] (fun iv jv wr=>∃ (s r:Nat),iv=.int .i64 s/\jv=.int .i64 r/\Hid (SymR (ltC cf) L R a mid lo mid s r)/\Hid (Ext w wr)) (fun iv jv _=>(intOf jv).toNat-(intOf iv).toNat)
  case atStart=>exact⟨_,_,rfl,rfl,HS0,Ext.rf _⟩
  case round =>
   obtain⟨wo,rfl⟩:∃ wo:World,wo=wr:=⟨_,rfl⟩;obtain⟨s,r,rfl,rfl,HB,Y⟩:=hrel;clear HS0 mvm env;obtain⟨g1,g2,g3,_,_⟩:=HB.out
   by_cases hsr:s<r
   ·obtain⟨cc,hcc⟩:∃ cc,Hid (cc=(s+r) / 2):=⟨_,rfl⟩
    have c1:s<=cc:=by rw[hcc.out];omega
    have c2:cc<r:=by rw[hcc.out];omega
    have mvc:((s:Int)+(r:Int)) / 2=(cc:Int):=by rw[hcc.out];omega
    obtain⟨hL,hR⟩:=HLR.out;obtain⟨pc,hpc⟩:∃ pc,Hid (pc=m+(mid-1-cc)):=⟨_,rfl⟩;have hpc':=hpc.out;have hp1':=hp1.out;have hcs:=HC;unfold Uo at hcs;have epc:(p1:Int)-(cc:Int)=(pc:Int):=by omega
    have pcb:pc<N:=by omega
    have ccN:cc<N:=by omega
    have ex:L[cc-a]?=some (L[cc-a]'(by omega)):=List.getElem?_eq_getElem _;have ey:R[mid-1-cc]?=some (R[mid-1-cc]'(by omega)):=List.getElem?_eq_getElem _;generalize L[cc-a]'(by omega)=x at ex;generalize R[mid-1-cc]'(by omega)=y at ey;have hxn:=hn.out x (List.mem_append_left _ (List.mem_of_getElem? ex));have hyn:=hn.out y (List.mem_append_right _ (List.mem_of_getElem? ey));have cx:wo.cell? ⟨g,cc,none⟩=some (.int .i64 x):=(h.out.ext Y.out).at (P:=P) (j:=cc-a) (by rw[List.getElem?_append_left (by omega)];exact ex) (by have:=ha.out;omega);have cy:wo.cell? ⟨g,pc,none⟩=some (.int .i64 y):=(h.out.ext Y.out).at (P:=P) (j:=L.length+(mid-1-cc)) (by rw[List.getElem?_append_right (by omega),Nat.add_sub_cancel_left,List.getElem?_append_left (by omega)];exact ey) (by have:=ha.out;omega);have st1:=Hd (HB.out.left c1 c2 ex ey);have st2:=Hd (HB.out.right c1 c2 ex ey);have hM:=Hd (Mod.of_ext (S:=fun k=>k=g) Y.out);have hc:∀ n,Calls Tryz.prog f (#[.int .i64 y,.int .i64 x]++lb) (wo.drewN n) fun e W'=>e=.returned (.int .i64 (cf y x))/\∃ q,W'=(wo.drewN n).drewN q:=fun n=>hcmp.out _ y x hyn hxn (hM.out.drewN n)
    clear ex ey hpc' hp1' hL hR hcs
    by_cases hlv:cf y x<0
    ·replace st2:=Hd (st2.out (decide_eq_true hlv))
     have hlb:decide (cf y x<0)=true:=decide_eq_true hlv;clear st1;go_wp2_with (fail);go_quiet (first | (go_at_fn f;refine Calls.quiet_of (hc _)));go_wp2_with (fail);go_roundw
     case rel=>exact⟨s,cc,rfl,rfl,st2.out,Y.out.drewN _⟩
     case measure=>simp[intOf]<;>omega
    ·replace st1:=Hd (st1.out (decide_eq_false hlv))
     have hlb:decide (cf y x<0)=false:=decide_eq_false hlv;clear st2;go_wp2_with (fail);go_quiet (first | (go_at_fn f;refine Calls.quiet_of (hc _)));go_wp2_with (fail);go_roundw
     case rel=>exact⟨cc+1,r,by go_num,rfl,st1.out,Y.out.drewN _⟩
     case measure=>simp[intOf]<;>omega
   ·obtain rfl:s=r:=by omega
    obtain⟨hL,hR⟩:=HLR.out;have hN':=hN.out;have hA:=ZcH hw.out sl.out sr.out hlt.out hL hR HB.out HC k3.2.2.1 k4.1;obtain⟨en,hen⟩:∃ en,Hid (en=m+(mid-s)):=⟨_,rfl⟩;have hen':=hen.out;have hp1':=hp1.out;have een:(p1:Int)+1-(s:Int)=(en:Int):=by omega
    have eL:L=L.take (s-a)++L.drop (s-a):=(List.take_append_drop _ _).symm;have hcs:=HC;unfold Uo at hcs;have hmr:mid-s<=R.length:=by omega
    have eR:R=R.take (mid-s)++R.drop (mid-s):=(List.take_append_drop _ _).symm;have l1:(L.take (s-a)).length=s-a:=by rw[List.length_take];omega
    have l2:(L.drop (s-a)).length=m-s:=by rw[List.length_drop];omega
    have l3:(R.take (mid-s)).length=mid-s:=by rw[List.length_take];omega
    have l4:(R.drop (mid-s)).length=b-en:=by rw[List.length_drop];omega
    generalize L.take (s-a)=L1 at *;generalize L.drop (s-a)=L2 at *;generalize R.take (mid-s)=R1 at *;generalize R.drop (mid-s)=R2 at *;have hO:=h.out.ext Y.out;have sl':=sl.out;have sr':=sr.out;have hlt':=hlt.out;have hn':=hn.out;rw[eL] at sl' hlt' hO hN' hn';rw[eR] at sr' hlt' hO hN' hn';simp only[List.append_assoc] at hO hN';have sl1:=Zq.1 sl';have sr1:=Zq.1 sr';have ap1:=Apart.app_left.1 hlt';have ROT:=JF (m:=m) (en:=en) (s:=s) (.func (.func f) #[] lb) hO (Mod.of_ext Y.out) hN' ha.out (by omega) (by omega) (by omega) hl;have FI:=IH.out.first (s:=s) (mid:=mid) (by omega) hN' ha.out (by omega) (by omega) sl1.1 sr1.1 (Apart.app_right.1 ap1.1).1 (fun x hx=>hn' x (by rcases List.mem_append.1 hx with h9 | h9<;>simp[h9]));have SE:=IH.out.second (b:=b) (mid:=mid) (en:=en) (by omega) hN' ha.out (by omega) (by omega) (by omega) sl1.2.1 sr1.2.1 (Apart.app_right.1 ap1.2).2 (fun x hx=>hn' x (by rcases List.mem_append.1 hx with h9 | h9<;>simp[h9])) hA eL eR;replace ROT:=Hd ROT;replace FI:=Hd FI;replace SE:=Hd SE;have f1:s<=m:=by omega
    have f2:s<=mid:=by omega
    have f3:a<=s:=by omega
    have f4:en<=b:=by omega
    have e1:L1.length=s-a:=l1;clear hO hN' sl' sr' hlt' hn' sl1 sr1 ap1 hA eL eR hL hR hp1' hcs hmr HB e1;have hen2:en+s=m+mid:=by omega
    clear hen' hsr;replace l1:=Hd l1;replace l2:=Hd l2;replace l3:=Hd l3;replace l4:=Hd l4
    by_cases cA:s<m<;>by_cases cB:s<mid<;>by_cases cC:a<s<;>by_cases cD:en<b
    ·
     first
     | (exfalso;clear ROT FI SE;omega)
     | (have y1:(s:Int)<(m:Int):=by omega
        have y2:(m:Int)<(en:Int):=by omega
        have y3:(a:Int)<(s:Int):=by omega
        have y4:(s:Int)<(mid:Int):=by omega
        have y5:(mid:Int)<(en:Int):=by omega
        have y6:(en:Int)<(b:Int):=by omega
        clear cA cB cC cD hen2 hen;replace ROT:=Hd (ROT.out.1 (by rw[l2.out];omega) (by rw[l3.out];omega));replace FI:=Hd (fun(W:World) hT=>FI.out.1 W hT (by rw[l1.out];omega) (by rw[l3.out];omega));replace SE:=Hd (fun(W:World) hT=>SE.out.1 W hT (by rw[l2.out];omega) (by rw[l4.out];omega));go_wp2_with (fail);refine ROT.out.mono ?_;rintro e w1 ⟨rfl,T1⟩;replace T1:=Hd T1;go_wp2_with (fail);refine(FI.out w1 T1.out).mono ?_;rintro e w2 ⟨rfl,T2⟩;replace T2:=Hd T2;go_wp2_with (fail);refine(SE.out w2 T2.out).mono ?_;rintro e w3 HS3;obtain⟨M3,i3,rfl,o3,m3⟩:=HS3;have T3:Hid (Zv base g c (ltC cf) P (L++R) Q w (.returned (.tuple #[])) w3):=⟨M3,i3,rfl,o3,m3⟩;clear i3 o3 m3;go_wp2_with (fail);go_end0;exact T3.out)
    ·
     first
     | (exfalso;clear ROT FI SE;omega)
     | (have y1:(s:Int)<(m:Int):=by omega
        have y2:(m:Int)<(en:Int):=by omega
        have y3:(a:Int)<(s:Int):=by omega
        have y4:(s:Int)<(mid:Int):=by omega
        have y5:(mid:Int)<(en:Int):=by omega
        have y6:¬(en:Int)<(b:Int):=by omega
        clear cA cB cC cD hen2 hen;replace ROT:=Hd (ROT.out.1 (by rw[l2.out];omega) (by rw[l3.out];omega));replace FI:=Hd (fun(W:World) hT=>FI.out.1 W hT (by rw[l1.out];omega) (by rw[l3.out];omega));replace SE:=Hd (fun(W:World) hT=>SE.out.2 W hT (by rw[l2.out,l4.out];omega));go_wp2_with (fail);refine ROT.out.mono ?_;rintro e w1 ⟨rfl,T1⟩;replace T1:=Hd T1;go_wp2_with (fail);refine(FI.out w1 T1.out).mono ?_;rintro e w2 ⟨rfl,T2⟩;replace T2:=Hd T2;go_wp2_with (fail);have T3:=Hd (SE.out w2 T2.out);go_end0;exact T3.out)
    ·
     first
     | (exfalso;clear ROT FI SE;omega)
     | (have y1:(s:Int)<(m:Int):=by omega
        have y2:(m:Int)<(en:Int):=by omega
        have y3:¬(a:Int)<(s:Int):=by omega
        have y4:(s:Int)<(mid:Int):=by omega
        have y5:(mid:Int)<(en:Int):=by omega
        have y6:(en:Int)<(b:Int):=by omega
        clear cA cB cC cD hen2 hen;replace ROT:=Hd (ROT.out.1 (by rw[l2.out];omega) (by rw[l3.out];omega));replace FI:=Hd (fun(W:World) hT=>FI.out.2 W hT (by rw[l1.out,l3.out];omega));replace SE:=Hd (fun(W:World) hT=>SE.out.1 W hT (by rw[l2.out];omega) (by rw[l4.out];omega));go_wp2_with (fail);refine ROT.out.mono ?_;rintro e w1 ⟨rfl,T1⟩;replace T1:=Hd T1;go_wp2_with (fail);have T2:=Hd (FI.out w1 T1.out);refine(SE.out w1 T2.out).mono ?_;rintro e w3 HS3;obtain⟨M3,i3,rfl,o3,m3⟩:=HS3;have T3:Hid (Zv base g c (ltC cf) P (L++R) Q w (.returned (.tuple #[])) w3):=⟨M3,i3,rfl,o3,m3⟩;clear i3 o3 m3;go_wp2_with (fail);go_end0;exact T3.out)
    ·
     first
     | (exfalso;clear ROT FI SE;omega)
     | (have y1:(s:Int)<(m:Int):=by omega
        have y2:(m:Int)<(en:Int):=by omega
        have y3:¬(a:Int)<(s:Int):=by omega
        have y4:(s:Int)<(mid:Int):=by omega
        have y5:(mid:Int)<(en:Int):=by omega
        have y6:¬(en:Int)<(b:Int):=by omega
        clear cA cB cC cD hen2 hen;replace ROT:=Hd (ROT.out.1 (by rw[l2.out];omega) (by rw[l3.out];omega));replace FI:=Hd (fun(W:World) hT=>FI.out.2 W hT (by rw[l1.out,l3.out];omega));replace SE:=Hd (fun(W:World) hT=>SE.out.2 W hT (by rw[l2.out,l4.out];omega));go_wp2_with (fail);refine ROT.out.mono ?_;rintro e w1 ⟨rfl,T1⟩;replace T1:=Hd T1;go_wp2_with (fail);have T2:=Hd (FI.out w1 T1.out);have T3:=Hd (SE.out w1 T2.out);go_end0;exact T3.out)
    ·
     first
     | (exfalso;clear ROT FI SE;omega)
     | (have y1:(s:Int)<(m:Int):=by omega
        have y2:¬(m:Int)<(en:Int):=by omega
        have y3:(a:Int)<(s:Int):=by omega
        have y4:¬(s:Int)<(mid:Int):=by omega
        have y5:(mid:Int)<(en:Int):=by omega
        have y6:(en:Int)<(b:Int):=by omega
        clear cA cB cC cD hen2 hen;have T1:=Hd (ROT.out.2 (by rw[l2.out,l3.out];omega));replace FI:=Hd (fun(W:World) hT=>FI.out.2 W hT (by rw[l1.out,l3.out];omega));replace SE:=Hd (fun(W:World) hT=>SE.out.1 W hT (by rw[l2.out];omega) (by rw[l4.out];omega));go_wp2_with (fail);have T2:=Hd (FI.out wo T1.out);refine(SE.out wo T2.out).mono ?_;rintro e w3 HS3;obtain⟨M3,i3,rfl,o3,m3⟩:=HS3;have T3:Hid (Zv base g c (ltC cf) P (L++R) Q w (.returned (.tuple #[])) w3):=⟨M3,i3,rfl,o3,m3⟩;clear i3 o3 m3;go_wp2_with (fail);go_end0;exact T3.out)
    ·
     first
     | (exfalso;clear ROT FI SE;omega)
     | (have y1:(s:Int)<(m:Int):=by omega
        have y2:¬(m:Int)<(en:Int):=by omega
        have y3:(a:Int)<(s:Int):=by omega
        have y4:¬(s:Int)<(mid:Int):=by omega
        have y5:(mid:Int)<(en:Int):=by omega
        have y6:¬(en:Int)<(b:Int):=by omega
        clear cA cB cC cD hen2 hen;have T1:=Hd (ROT.out.2 (by rw[l2.out,l3.out];omega));replace FI:=Hd (fun(W:World) hT=>FI.out.2 W hT (by rw[l1.out,l3.out];omega));replace SE:=Hd (fun(W:World) hT=>SE.out.2 W hT (by rw[l2.out,l4.out];omega));go_wp2_with (fail);have T2:=Hd (FI.out wo T1.out);have T3:=Hd (SE.out wo T2.out);go_end0;exact T3.out)
    ·
     first
     | (exfalso;clear ROT FI SE;omega)
     | (have y1:(s:Int)<(m:Int):=by omega
        have y2:¬(m:Int)<(en:Int):=by omega
        have y3:¬(a:Int)<(s:Int):=by omega
        have y4:¬(s:Int)<(mid:Int):=by omega
        have y5:(mid:Int)<(en:Int):=by omega
        have y6:(en:Int)<(b:Int):=by omega
        clear cA cB cC cD hen2 hen;have T1:=Hd (ROT.out.2 (by rw[l2.out,l3.out];omega));replace FI:=Hd (fun(W:World) hT=>FI.out.2 W hT (by rw[l1.out,l3.out];omega));replace SE:=Hd (fun(W:World) hT=>SE.out.1 W hT (by rw[l2.out];omega) (by rw[l4.out];omega));go_wp2_with (fail);have T2:=Hd (FI.out wo T1.out);refine(SE.out wo T2.out).mono ?_;rintro e w3 HS3;obtain⟨M3,i3,rfl,o3,m3⟩:=HS3;have T3:Hid (Zv base g c (ltC cf) P (L++R) Q w (.returned (.tuple #[])) w3):=⟨M3,i3,rfl,o3,m3⟩;clear i3 o3 m3;go_wp2_with (fail);go_end0;exact T3.out)
    ·
     first
     | (exfalso;clear ROT FI SE;omega)
     | (have y1:(s:Int)<(m:Int):=by omega
        have y2:¬(m:Int)<(en:Int):=by omega
        have y3:¬(a:Int)<(s:Int):=by omega
        have y4:¬(s:Int)<(mid:Int):=by omega
        have y5:(mid:Int)<(en:Int):=by omega
        have y6:¬(en:Int)<(b:Int):=by omega
        clear cA cB cC cD hen2 hen;have T1:=Hd (ROT.out.2 (by rw[l2.out,l3.out];omega));replace FI:=Hd (fun(W:World) hT=>FI.out.2 W hT (by rw[l1.out,l3.out];omega));replace SE:=Hd (fun(W:World) hT=>SE.out.2 W hT (by rw[l2.out,l4.out];omega));go_wp2_with (fail);have T2:=Hd (FI.out wo T1.out);have T3:=Hd (SE.out wo T2.out);go_end0;exact T3.out)
    ·
     first
     | (exfalso;clear ROT FI SE;omega)
     | (have y1:¬(s:Int)<(m:Int):=by omega
        have y2:(m:Int)<(en:Int):=by omega
        have y3:(a:Int)<(s:Int):=by omega
        have y4:(s:Int)<(mid:Int):=by omega
        have y5:¬(mid:Int)<(en:Int):=by omega
        have y6:(en:Int)<(b:Int):=by omega
        clear cA cB cC cD hen2 hen;have T1:=Hd (ROT.out.2 (by rw[l2.out,l3.out];omega));replace FI:=Hd (fun(W:World) hT=>FI.out.1 W hT (by rw[l1.out];omega) (by rw[l3.out];omega));replace SE:=Hd (fun(W:World) hT=>SE.out.2 W hT (by rw[l2.out,l4.out];omega));go_wp2_with (fail);refine(FI.out wo T1.out).mono ?_;rintro e w2 ⟨rfl,T2⟩;replace T2:=Hd T2;go_wp2_with (fail);have T3:=Hd (SE.out w2 T2.out);go_end0;exact T3.out)
    ·
     first
     | (exfalso;clear ROT FI SE;omega)
     | (have y1:¬(s:Int)<(m:Int):=by omega
        have y2:(m:Int)<(en:Int):=by omega
        have y3:(a:Int)<(s:Int):=by omega
        have y4:(s:Int)<(mid:Int):=by omega
        have y5:¬(mid:Int)<(en:Int):=by omega
        have y6:¬(en:Int)<(b:Int):=by omega
        clear cA cB cC cD hen2 hen;have T1:=Hd (ROT.out.2 (by rw[l2.out,l3.out];omega));replace FI:=Hd (fun(W:World) hT=>FI.out.1 W hT (by rw[l1.out];omega) (by rw[l3.out];omega));replace SE:=Hd (fun(W:World) hT=>SE.out.2 W hT (by rw[l2.out,l4.out];omega));go_wp2_with (fail);refine(FI.out wo T1.out).mono ?_;rintro e w2 ⟨rfl,T2⟩;replace T2:=Hd T2;go_wp2_with (fail);have T3:=Hd (SE.out w2 T2.out);go_end0;exact T3.out)
    ·
     first
     | (exfalso;clear ROT FI SE;omega)
     | (have y1:¬(s:Int)<(m:Int):=by omega
        have y2:(m:Int)<(en:Int):=by omega
        have y3:¬(a:Int)<(s:Int):=by omega
        have y4:(s:Int)<(mid:Int):=by omega
        have y5:¬(mid:Int)<(en:Int):=by omega
        have y6:(en:Int)<(b:Int):=by omega
        clear cA cB cC cD hen2 hen;have T1:=Hd (ROT.out.2 (by rw[l2.out,l3.out];omega));replace FI:=Hd (fun(W:World) hT=>FI.out.2 W hT (by rw[l1.out,l3.out];omega));replace SE:=Hd (fun(W:World) hT=>SE.out.2 W hT (by rw[l2.out,l4.out];omega));go_wp2_with (fail);have T2:=Hd (FI.out wo T1.out);have T3:=Hd (SE.out wo T2.out);go_end0;exact T3.out)
    ·
     first
     | (exfalso;clear ROT FI SE;omega)
     | (have y1:¬(s:Int)<(m:Int):=by omega
        have y2:(m:Int)<(en:Int):=by omega
        have y3:¬(a:Int)<(s:Int):=by omega
        have y4:(s:Int)<(mid:Int):=by omega
        have y5:¬(mid:Int)<(en:Int):=by omega
        have y6:¬(en:Int)<(b:Int):=by omega
        clear cA cB cC cD hen2 hen;have T1:=Hd (ROT.out.2 (by rw[l2.out,l3.out];omega));replace FI:=Hd (fun(W:World) hT=>FI.out.2 W hT (by rw[l1.out,l3.out];omega));replace SE:=Hd (fun(W:World) hT=>SE.out.2 W hT (by rw[l2.out,l4.out];omega));go_wp2_with (fail);have T2:=Hd (FI.out wo T1.out);have T3:=Hd (SE.out wo T2.out);go_end0;exact T3.out)
    ·
     first
     | (exfalso;clear ROT FI SE;omega)
     | (have y1:¬(s:Int)<(m:Int):=by omega
        have y2:¬(m:Int)<(en:Int):=by omega
        have y3:(a:Int)<(s:Int):=by omega
        have y4:¬(s:Int)<(mid:Int):=by omega
        have y5:¬(mid:Int)<(en:Int):=by omega
        have y6:(en:Int)<(b:Int):=by omega
        clear cA cB cC cD hen2 hen;have T1:=Hd (ROT.out.2 (by rw[l2.out,l3.out];omega));replace FI:=Hd (fun(W:World) hT=>FI.out.2 W hT (by rw[l1.out,l3.out];omega));replace SE:=Hd (fun(W:World) hT=>SE.out.2 W hT (by rw[l2.out,l4.out];omega));go_wp2_with (fail);have T2:=Hd (FI.out wo T1.out);have T3:=Hd (SE.out wo T2.out);go_end0;exact T3.out)
    ·
     first
     | (exfalso;clear ROT FI SE;omega)
     | (have y1:¬(s:Int)<(m:Int):=by omega
        have y2:¬(m:Int)<(en:Int):=by omega
        have y3:(a:Int)<(s:Int):=by omega
        have y4:¬(s:Int)<(mid:Int):=by omega
        have y5:¬(mid:Int)<(en:Int):=by omega
        have y6:¬(en:Int)<(b:Int):=by omega
        clear cA cB cC cD hen2 hen;have T1:=Hd (ROT.out.2 (by rw[l2.out,l3.out];omega));replace FI:=Hd (fun(W:World) hT=>FI.out.2 W hT (by rw[l1.out,l3.out];omega));replace SE:=Hd (fun(W:World) hT=>SE.out.2 W hT (by rw[l2.out,l4.out];omega));go_wp2_with (fail);have T2:=Hd (FI.out wo T1.out);have T3:=Hd (SE.out wo T2.out);go_end0;exact T3.out)
    ·
     first
     | (exfalso;clear ROT FI SE;omega)
     | (have y1:¬(s:Int)<(m:Int):=by omega
        have y2:¬(m:Int)<(en:Int):=by omega
        have y3:¬(a:Int)<(s:Int):=by omega
        have y4:¬(s:Int)<(mid:Int):=by omega
        have y5:¬(mid:Int)<(en:Int):=by omega
        have y6:(en:Int)<(b:Int):=by omega
        clear cA cB cC cD hen2 hen;have T1:=Hd (ROT.out.2 (by rw[l2.out,l3.out];omega));replace FI:=Hd (fun(W:World) hT=>FI.out.2 W hT (by rw[l1.out,l3.out];omega));replace SE:=Hd (fun(W:World) hT=>SE.out.2 W hT (by rw[l2.out,l4.out];omega));go_wp2_with (fail);have T2:=Hd (FI.out wo T1.out);have T3:=Hd (SE.out wo T2.out);go_end0;exact T3.out)
    ·
     first
     | (exfalso;clear ROT FI SE;omega)
     | (have y1:¬(s:Int)<(m:Int):=by omega
        have y2:¬(m:Int)<(en:Int):=by omega
        have y3:¬(a:Int)<(s:Int):=by omega
        have y4:¬(s:Int)<(mid:Int):=by omega
        have y5:¬(mid:Int)<(en:Int):=by omega
        have y6:¬(en:Int)<(b:Int):=by omega
        clear cA cB cC cD hen2 hen;have T1:=Hd (ROT.out.2 (by rw[l2.out,l3.out];omega));replace FI:=Hd (fun(W:World) hT=>FI.out.2 W hT (by rw[l1.out,l3.out];omega));replace SE:=Hd (fun(W:World) hT=>SE.out.2 W hT (by rw[l2.out,l4.out];omega));go_wp2_with (fail);have T2:=Hd (FI.out wo T1.out);have T3:=Hd (SE.out wo T2.out);go_end0;exact T3.out)
end Go.Proofs.YtmojhhlcocjoaaaGreatDoor
