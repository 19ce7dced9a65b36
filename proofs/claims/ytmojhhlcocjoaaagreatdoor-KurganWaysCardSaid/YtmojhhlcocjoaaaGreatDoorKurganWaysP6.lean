/- packed and squeezed by programs (see wip/) -/
import Derived.Test.YtmojhhlcocjoaaaGreatDoorKurganWaysP5
set_option maxRecDepth 100000
set_option maxHeartbeats 16000000
set_option linter.unusedVariables false
set_option linter.unusedSimpArgs false
namespace Go.Proofs.YtmojhhlcocjoaaaGreatDoor
open Go.RowKit Go.ChangeShapes Go.WideShapes Go.ChangeAt Go.Deep
def Wa (x:List Int)(n:Nat) : Bool:=decide (x.length=n/\∀ k,k<n->x.count (k:Int)=1)
theorem Vj : ∀ {r x:List Int},r.Nodup->(∀ y∈r,y∈x)->r.length=x.length->r.Perm x
 | [],x,_,_,hl=>by rw[List.eq_nil_of_length_eq_zero hl.symm]
 | a::r,x,hd,hs,hl=>by
  obtain⟨h1,h2⟩:=List.nodup_cons.1 hd;have ha:a∈x:=hs a (by simp);have hp:=List.perm_cons_erase ha;have ih:=Vj (r:=r) (x:=x.erase a) h2 (fun y hy=>by
   have hne:y≠a:=fun e=>h1 (e ▸ hy)
   exact(List.mem_erase_of_ne hne).2 (hs y (by simp[hy]))) (by
   have:=hp.length_eq;simp only[List.length_cons] at this hl;omega)
  exact(ih.cons a).trans hp.symm
theorem Vk {k:Int} : ∀ {l:List Int},l.Nodup->k∈l->l.count k=1
 | [],_,h=>by cases h
 | x::l,hd,h=>by
  have hd':=List.nodup_cons.1 hd
  by_cases e:x=k
  ·subst e
   rw[List.count_cons_self,List.count_eq_zero.2 hd'.1]
  ·rw[List.count_cons_of_ne e]
   rcases List.mem_cons.1 h with h | h
   ·exact absurd h.symm e
   ·exact Vk hd'.2 h
theorem Yj {x:List Int}{n:Nat} : Wa x n=true↔∃ l:List Nat,x=Ze l/\l.Perm (List.range n):=by
 unfold Wa;rw[decide_eq_true_iff]
 constructor
 ·rintro ⟨h1,h2⟩
  have hsub:Ze (List.range n) ⊆ x:=fun y hy=>by
   obtain⟨k,hk,rfl⟩:=List.mem_map.1 hy;have:=h2 k (List.mem_range.1 hk);exact List.count_pos_iff.1 (by omega)
  have hnd:(Ze (List.range n)).Nodup:=by
   unfold Ze;refine List.pairwise_map.2 (List.nodup_range.imp ?_);intro a b hab e;exact hab (by omega)
  have hp:(Ze (List.range n)).Perm x:=Vj hnd (fun y hy=>hsub hy) (by rw[Zm,List.length_range];omega);refine⟨x.map Int.toNat,?_,?_⟩
  ·unfold Ze
   rw[List.map_map];refine(List.map_id x).symm.trans (List.map_congr_left fun y hy=>?_);obtain⟨k,_,rfl⟩:=List.mem_map.1 (hp.mem_iff.2 hy);simp
  ·have:=hp.symm.map Int.toNat
   refine this.trans ?_;unfold Ze;rw[List.map_map];have e:(List.range n).map (Int.toNat ∘ fun n:Nat=>(n:Int))=List.range n:=by
    refine(List.map_congr_left fun k _=>?_).trans (List.map_id _);simp
   rw[e]
 ·rintro ⟨l,rfl,hl⟩
  refine⟨by rw[Zm,hl.length_eq,List.length_range],fun k hk=>?_⟩;have h1:(Ze l).Perm (Ze (List.range n)):=hl.map _;rw[h1.count_eq];have hm:(k:Int)∈Ze (List.range n):=List.mem_map.2 ⟨k,List.mem_range.2 hk,rfl⟩;have hnd:(Ze (List.range n)).Nodup:=by
   unfold Ze;refine List.pairwise_map.2 (List.nodup_range.imp ?_);intro a b hab e;exact hab (by omega)
  exact Vk hnd hm
def Uw (m q:Nat) : Value:=.agg #[.int .u64 m,.int .u64 q]
theorem Zfu (m q i:Nat)(hm:m<18446744073709551616)(hi:i<64)(w:World) : Calls Tryz.prog 139 #[Uw m q,.int .i64 i] w fun e w'=>e=.returned (Uw (m ||| 2^i) q)/\Ext w w':=by
 unfold Uw;have K:=bits_or_u64_nat m (2^i) hm (Nat.pow_lt_pow_right (by omega) hi);have sh:=Uk i hi;generalize 2^i=b2 at *;generalize m ||| b2=z at *
 replace K:=Hd K;replace sh:=Hd sh;have B1':Blk ((w.alloc (.cells #[.int .u64 m,.int .u64 q] 141)).alloc (.cells #[.int .u64 0,.int .u64 0] 141)) w.heap.size 141 #[.int .u64 m,.int .u64 q]:=.alloc (.new rfl) _;have B2:Blk ((w.alloc (.cells #[.int .u64 m,.int .u64 q] 141)).alloc (.cells #[.int .u64 0,.int .u64 0] 141)) (w.heap.size+1) 141 #[.int .u64 0,.int .u64 0]:=.new (by simp);have B1:Blk (w.alloc (.cells #[.int .u64 m,.int .u64 q] 141)) w.heap.size 141 #[.int .u64 m,.int .u64 q]:=.new rfl;go_enter Tryz.func139,Tryz.ntmps139;go_wp2_with (fail);refine(Yq _ _).mono ?_;rintro e w1 ⟨rfl,x1⟩;have e1:(decide (0<=(i:Int))&&decide ((i:Int)<128))=true:=by simp;omega
 rw[e1];have c0:w1.cell? ⟨w.heap.size,0,none⟩=some (.int .u64 m):=(B1'.ext x1).cell 0;have c1:w1.cell? ⟨w.heap.size,1,none⟩=some (.int .u64 q):=(B1'.ext x1).cell 1;have f0:=(B1'.ext x1).free 0;have r0:w1.cell? ⟨w.heap.size+1,0,none⟩=some (.int .u64 0):=(B2.ext x1).cell 0;have r1:w1.cell? ⟨w.heap.size+1,1,none⟩=some (.int .u64 0):=(B2.ext x1).cell 1;have g0:=(B2.ext x1).free 0;have g1:=(B2.ext x1).free 1;have X1:=Hd (Ext.tr (a:=w) (by(repeat (first | assumption | exact Ext.rf _ | apply Ext.drew | apply Ext.drewN | apply Ext.alloc))) x1);replace K:=K.out;replace sh:=sh.out;have wz:IntKind.i64.wrap 0=0:=by decide
 have q1:(i:Int) / 64=0:=by omega
 have q2:(i:Int).tmod 64=(i:Int):=by rw[Int.tmod_eq_emod_of_nonneg (by omega)];omega
 have bA:=B1'.ext x1;have bR:=B2.ext x1;clear x1 B1' B2 e1 c1 f0 r0 r1 g0 g1;have bA2:=Hd (bA.set 0 (.int .u64 z));have bR2:=Hd (bR.far (p:=⟨w.heap.size,0,none⟩) (by simp) (.int .u64 z));have X2:=Hd (X1.out.setNew (p:=⟨w.heap.size,0,none⟩) (Nat.le_refl _) (.int .u64 z));have fA:w1.frozen? ⟨w.heap.size,0,none⟩=false:=bA.free 0;go_upto_region 2 with(fail);refine wp_region_any (by kernel_rfl) ?_
 change wpAny _ _ _ _ _ _ _ (World.drew _)
 refine Za (i:=0) (op:=Op.move (Operand.tmp 1)) (t:=3) (d:=some 7) (v:=?_) rfl (by decide +kernel) (by decide +kernel) (by decide +kernel) (fun _ _ _ h=>h) ?_ ?_
 case refine_2=>(intro _;unfold Zd;go_simp;try with_reducible rfl)
 try simp only[lay]
 refine Za (i:=1) (op:=Op.binOp BinOp.quo 3 (Operand.tmp 7) (Operand.const (Value.int IntKind.i64 64)) 3) (t:=3) (d:=some 8) (v:=?_) rfl (by decide +kernel) (by decide +kernel) (by decide +kernel) (fun _ _ _ h=>h) ?_ ?_
 case refine_2=>(intro _;unfold Zd;go_simp;try with_reducible rfl)
 try simp only[lay]
 refine Za (i:=2) (op:=Op.indexAddr 141 (Operand.tmp 2) (Operand.tmp 8)) (t:=0) (d:=some 9) (v:=?_) rfl (by decide +kernel) (by decide +kernel) (by decide +kernel) (fun _ _ _ h=>h) ?_ ?_
 case refine_2=>(intro _;unfold Zd;go_simp;try with_reducible rfl)
 try simp only[lay]
 refine Za (i:=4) (op:=Op.move (Operand.tmp 1)) (t:=3) (d:=some 11) (v:=?_) rfl (by decide +kernel) (by decide +kernel) (by decide +kernel) (fun _ _ _ h=>h) ?_ ?_
 case refine_2=>(intro _;unfold Zd;go_simp;try with_reducible rfl)
 try simp only[lay]
 refine Za (i:=5) (op:=Op.binOp BinOp.rem 3 (Operand.tmp 11) (Operand.const (Value.int IntKind.i64 64)) 3) (t:=3) (d:=some 12) (v:=?_) rfl (by decide +kernel) (by decide +kernel) (by decide +kernel) (fun _ _ _ h=>h) ?_ ?_
 case refine_2=>(intro _;unfold Zd;go_simp;try with_reducible rfl)
 try simp only[lay]
 refine Za (i:=6) (op:=Op.binOp BinOp.shl 53 (Operand.const (Value.int IntKind.u64 1)) (Operand.tmp 12) 3) (t:=53) (d:=some 13) (v:=?_) rfl (by decide +kernel) (by decide +kernel) (by decide +kernel) (fun _ _ _ h=>h) ?_ ?_
 case refine_2=>(intro _;unfold Zd;go_simp;try with_reducible rfl)
 try simp only[lay]
 refine Zi 3 (by decide +kernel) (Zp (T:=53) (x:=Operand.tmp 9) (t:=53) (d:=some 10) rfl (.pointer (some ⟨w.heap.size,0,none⟩)) (by kernel_rfl) (.int .u64 m) (by go_simp) ?_)
 try simp only[lay]
 refine Za (i:=7) (op:=Op.binOp BinOp.or 53 (Operand.tmp 10) (Operand.tmp 13) 53) (t:=53) (d:=some 14) (v:=?_) rfl (by decide +kernel) (by decide +kernel) (by decide +kernel) (fun _ _ _ h=>h) ?_ ?_
 case refine_2=>(intro _;unfold Zd;go_simp;try with_reducible rfl)
 try simp only[lay]
 refine Za (i:=8) (op:=Op.indexAddr 141 (Operand.tmp 2) (Operand.tmp 8)) (t:=0) (d:=some 15) (v:=?_) rfl (by decide +kernel) (by decide +kernel) (by decide +kernel) (fun _ _ _ h=>h) ?_ ?_
 case refine_2=>(intro _;unfold Zd;go_simp;try with_reducible rfl)
 try simp only[lay]
 refine Zi 9 (by decide +kernel) (Yl rfl (.pointer (some ⟨w.heap.size,0,none⟩)) (.int .u64 z) (by kernel_rfl) (by kernel_rfl) (by go_simp;rfl) ?_);refine wpAny_done (by kernel_rfl) ?_ _;clear c0 fA bA bR X1 hm K sh;generalize w1.setCell ⟨w.heap.size,0,none⟩ (.int .u64 z)=w2 at *;clear w1;have c0:=bA2.out.c0;have c1:=bA2.out.c1;have r0:=bR2.out.c0;have r1:=bR2.out.c1;have g0:=bR2.out.free 0;have g1:=bR2.out.free 1;go_simp;go_wp2_with (fail);refine bodyPost_ret (v:=.agg #[.int .u64 z,.int .u64 q]) (by simp[results,Tryz.results139,go_sem, *]) rfl ⟨rfl,?_⟩;exact((X2.out.setNew (p:=⟨w.heap.size+1,0,none⟩) (by simp) _).setNew (p:=⟨w.heap.size+1,1,none⟩) (by simp) _).drew
theorem Zfv (q m i:Nat)(x:Int)(hx:x=((64+i:Nat):Int))(hm:m<18446744073709551616)(hi:i<64)(w:World) : Calls Tryz.prog 139 #[Uw q m,.int .i64 x] w fun e w'=>e=.returned (Uw q (m ||| 2^i))/\Ext w w':=by
 unfold Uw;have K:=bits_or_u64_nat m (2^i) hm (Nat.pow_lt_pow_right (by omega) hi);have sh:=Uk i hi;generalize 2^i=b2 at *;generalize m ||| b2=z at *
 replace K:=Hd K;replace sh:=Hd sh;have B1':Blk ((w.alloc (.cells #[.int .u64 q,.int .u64 m] 141)).alloc (.cells #[.int .u64 0,.int .u64 0] 141)) w.heap.size 141 #[.int .u64 q,.int .u64 m]:=.alloc (.new rfl) _;have B2:Blk ((w.alloc (.cells #[.int .u64 q,.int .u64 m] 141)).alloc (.cells #[.int .u64 0,.int .u64 0] 141)) (w.heap.size+1) 141 #[.int .u64 0,.int .u64 0]:=.new (by simp);have B1:Blk (w.alloc (.cells #[.int .u64 q,.int .u64 m] 141)) w.heap.size 141 #[.int .u64 q,.int .u64 m]:=.new rfl;replace hx:=Hd hx;go_enter Tryz.func139,Tryz.ntmps139;go_wp2_with (fail);refine(Yq _ _).mono ?_;rintro e w1 ⟨rfl,x1⟩;have e1:(decide (0<=x)&&decide (x<128))=true:=by have:=hx.out;simp;omega
 rw[e1];have c0:w1.cell? ⟨w.heap.size,0,none⟩=some (.int .u64 q):=(B1'.ext x1).cell 0;have c1:w1.cell? ⟨w.heap.size,1,none⟩=some (.int .u64 m):=(B1'.ext x1).cell 1;have f0:=(B1'.ext x1).free 1;have r0:w1.cell? ⟨w.heap.size+1,0,none⟩=some (.int .u64 0):=(B2.ext x1).cell 0;have r1:w1.cell? ⟨w.heap.size+1,1,none⟩=some (.int .u64 0):=(B2.ext x1).cell 1;have g0:=(B2.ext x1).free 0;have g1:=(B2.ext x1).free 1;have X1:=Hd (Ext.tr (a:=w) (by(repeat (first | assumption | exact Ext.rf _ | apply Ext.drew | apply Ext.drewN | apply Ext.alloc))) x1);replace K:=K.out;replace sh:=sh.out;have wz:IntKind.i64.wrap 1=1:=by decide
 have q1:x.tdiv 64=1:=by have:=hx.out;rw[Int.tdiv_eq_ediv_of_nonneg (by omega)];omega
 have q2:(x).tmod 64=(i:Int):=by have:=hx.out;rw[Int.tmod_eq_emod_of_nonneg (by omega)];omega
 have bA:=B1'.ext x1;have bR:=B2.ext x1;clear x1 B1' B2 e1 c0 f0 r0 r1 g0 g1;have bA2:=Hd (bA.set 1 (.int .u64 z));have bR2:=Hd (bR.far (p:=⟨w.heap.size,1,none⟩) (by simp) (.int .u64 z));have X2:=Hd (X1.out.setNew (p:=⟨w.heap.size,1,none⟩) (Nat.le_refl _) (.int .u64 z));have fA:w1.frozen? ⟨w.heap.size,1,none⟩=false:=bA.free 1;go_upto_region 2 with(fail);refine wp_region_any (by kernel_rfl) ?_
 change wpAny _ _ _ _ _ _ _ (World.drew _)
 refine Za (i:=0) (op:=Op.move (Operand.tmp 1)) (t:=3) (d:=some 7) (v:=?_) rfl (by decide +kernel) (by decide +kernel) (by decide +kernel) (fun _ _ _ h=>h) ?_ ?_
 case refine_2=>(intro _;unfold Zd;go_simp;try with_reducible rfl)
 try simp only[lay]
 refine Za (i:=1) (op:=Op.binOp BinOp.quo 3 (Operand.tmp 7) (Operand.const (Value.int IntKind.i64 64)) 3) (t:=3) (d:=some 8) (v:=?_) rfl (by decide +kernel) (by decide +kernel) (by decide +kernel) (fun _ _ _ h=>h) ?_ ?_
 case refine_2=>(intro _;unfold Zd;go_simp;try with_reducible rfl)
 try simp only[lay]
 refine Za (i:=2) (op:=Op.indexAddr 141 (Operand.tmp 2) (Operand.tmp 8)) (t:=0) (d:=some 9) (v:=?_) rfl (by decide +kernel) (by decide +kernel) (by decide +kernel) (fun _ _ _ h=>h) ?_ ?_
 case refine_2=>(intro _;unfold Zd;go_simp;try with_reducible rfl)
 try simp only[lay]
 refine Za (i:=4) (op:=Op.move (Operand.tmp 1)) (t:=3) (d:=some 11) (v:=?_) rfl (by decide +kernel) (by decide +kernel) (by decide +kernel) (fun _ _ _ h=>h) ?_ ?_
 case refine_2=>(intro _;unfold Zd;go_simp;try with_reducible rfl)
 try simp only[lay]
 refine Za (i:=5) (op:=Op.binOp BinOp.rem 3 (Operand.tmp 11) (Operand.const (Value.int IntKind.i64 64)) 3) (t:=3) (d:=some 12) (v:=?_) rfl (by decide +kernel) (by decide +kernel) (by decide +kernel) (fun _ _ _ h=>h) ?_ ?_
 case refine_2=>(intro _;unfold Zd;go_simp;try with_reducible rfl)
 try simp only[lay]
 refine Za (i:=6) (op:=Op.binOp BinOp.shl 53 (Operand.const (Value.int IntKind.u64 1)) (Operand.tmp 12) 3) (t:=53) (d:=some 13) (v:=?_) rfl (by decide +kernel) (by decide +kernel) (by decide +kernel) (fun _ _ _ h=>h) ?_ ?_
 case refine_2=>(intro _;unfold Zd;go_simp;try with_reducible rfl)
 try simp only[lay]
 refine Zi 3 (by decide +kernel) (Zp (T:=53) (x:=Operand.tmp 9) (t:=53) (d:=some 10) rfl (.pointer (some ⟨w.heap.size,1,none⟩)) (by kernel_rfl) (.int .u64 m) (by go_simp) ?_)
 try simp only[lay]
 refine Za (i:=7) (op:=Op.binOp BinOp.or 53 (Operand.tmp 10) (Operand.tmp 13) 53) (t:=53) (d:=some 14) (v:=?_) rfl (by decide +kernel) (by decide +kernel) (by decide +kernel) (fun _ _ _ h=>h) ?_ ?_
 case refine_2=>(intro _;unfold Zd;go_simp;try with_reducible rfl)
 try simp only[lay]
 refine Za (i:=8) (op:=Op.indexAddr 141 (Operand.tmp 2) (Operand.tmp 8)) (t:=0) (d:=some 15) (v:=?_) rfl (by decide +kernel) (by decide +kernel) (by decide +kernel) (fun _ _ _ h=>h) ?_ ?_
 case refine_2=>(intro _;unfold Zd;go_simp;try with_reducible rfl)
 try simp only[lay]
 refine Zi 9 (by decide +kernel) (Yl rfl (.pointer (some ⟨w.heap.size,1,none⟩)) (.int .u64 z) (by kernel_rfl) (by kernel_rfl) (by go_simp;rfl) ?_);refine wpAny_done (by kernel_rfl) ?_ _;clear c1 fA bA bR X1 hm K sh;generalize w1.setCell ⟨w.heap.size,1,none⟩ (.int .u64 z)=w2 at *;clear w1;have c0:=bA2.out.c0;have c1:=bA2.out.c1;have r0:=bR2.out.c0;have r1:=bR2.out.c1;have g0:=bR2.out.free 0;have g1:=bR2.out.free 1;go_simp;go_wp2_with (fail);refine bodyPost_ret (v:=.agg #[.int .u64 q,.int .u64 z]) (by simp[results,Tryz.results139,go_sem, *]) rfl ⟨rfl,?_⟩;exact((X2.out.setNew (p:=⟨w.heap.size+1,0,none⟩) (by simp) _).setNew (p:=⟨w.heap.size+1,1,none⟩) (by simp) _).drew
theorem ZeQ (m q:Nat)(x:Int)(hx:¬(0<=x/\x<128))(w:World) : Calls Tryz.prog 139 #[Uw m q,.int .i64 x] w fun e w'=>e=.returned (Uw m q)/\Ext w w':=by
 unfold Uw;have B1':Blk ((w.alloc (.cells #[.int .u64 m,.int .u64 q] 141)).alloc (.cells #[.int .u64 0,.int .u64 0] 141)) w.heap.size 141 #[.int .u64 m,.int .u64 q]:=.alloc (.new rfl) _;have B2:Blk ((w.alloc (.cells #[.int .u64 m,.int .u64 q] 141)).alloc (.cells #[.int .u64 0,.int .u64 0] 141)) (w.heap.size+1) 141 #[.int .u64 0,.int .u64 0]:=.new (by simp);have e1:(decide (0<=x)&&decide (x<128))=false:=by
  rw[Bool.eq_false_iff];simp;omega
 go_enter Tryz.func139,Tryz.ntmps139;go_wp2_with (fail);refine(Yq _ _).mono ?_;rintro e w1 ⟨rfl,x1⟩;rw[e1];have c0:w1.cell? ⟨w.heap.size,0,none⟩=some (.int .u64 m):=(B1'.ext x1).cell 0;have c1:w1.cell? ⟨w.heap.size,1,none⟩=some (.int .u64 q):=(B1'.ext x1).cell 1;have r0:w1.cell? ⟨w.heap.size+1,0,none⟩=some (.int .u64 0):=(B2.ext x1).cell 0;have r1:w1.cell? ⟨w.heap.size+1,1,none⟩=some (.int .u64 0):=(B2.ext x1).cell 1;have g0:=(B2.ext x1).free 0;have g1:=(B2.ext x1).free 1;have X1:=Hd (Ext.tr (a:=w) (by(repeat (first | assumption | exact Ext.rf _ | apply Ext.drew | apply Ext.drewN | apply Ext.alloc))) x1);clear x1 B1' B2 e1;go_wp2_with (fail);refine bodyPost_ret (v:=.agg #[.int .u64 m,.int .u64 q]) (by simp[results,Tryz.results139,go_sem, *]) rfl ⟨rfl,?_⟩;exact(X1.out.setNew (p:=⟨w.heap.size+1,0,none⟩) (by simp) _).setNew (p:=⟨w.heap.size+1,1,none⟩) (by simp) _
def Vl (s:Nat×Nat)(x:Int) : Nat×Nat:=if 0<=x/\x<64 then(s.1 ||| 2^x.toNat,s.2) else if 64<=x/\x<128 then(s.1,s.2 ||| 2^(x.toNat-64)) else s
def ofP (l:List Int) : Nat×Nat:=l.foldl Vl (0,0)
theorem ZeR (l:List Int)(x:Int) : ofP (l++[x])=Vl (ofP l) x:=by
 unfold ofP;rw[List.foldl_append]
 rfl
theorem Zfw {s:Nat×Nat}(h:s.1<18446744073709551616/\s.2<18446744073709551616)(x:Int) : (Vl s x).1<18446744073709551616/\(Vl s x).2<18446744073709551616:=by
 unfold Vl;split
 ·rename_i hx
  exact⟨Nat.or_lt_two_pow (n:=64) h.1 (Nat.pow_lt_pow_right (by omega) (by omega)),h.2⟩
 ·split
  ·exact⟨h.1,Nat.or_lt_two_pow (n:=64) h.2 (Nat.pow_lt_pow_right (by omega) (by omega))⟩
  ·exact h
theorem ZcR : ∀ (l:List Int) (s:Nat×Nat),s.1<18446744073709551616/\s.2<18446744073709551616->(l.foldl Vl s).1<18446744073709551616/\(l.foldl Vl s).2<18446744073709551616
 | [],_,h=>h
 | x::l,s,h=>ZcR l _ (Zfw h x)
theorem ZeS (l:List Int) : (ofP l).1<18446744073709551616/\(ofP l).2<18446744073709551616:=ZcR l _ ⟨by decide,by decide⟩
theorem JP : ∀ (l:List Int) (s:Nat×Nat) (j:Nat),j<64->(l.foldl Vl s).1.testBit j=(s.1.testBit j || decide ((j:Int)∈l))
 | [],s,j,_=>by simp
 | x::l,s,j,hj=>by
  rw[List.foldl_cons,JP l _ j hj];have e:(Vl s x).1.testBit j=(s.1.testBit j || decide ((j:Int)=x)):=by
   unfold Vl;split
   ·rw[Nat.testBit_or,Nat.testBit_two_pow]
    congr 1
    rw[decide_eq_decide];omega
   ·have h:¬(j:Int)=x:=by omega
    split<;>simp[h]
  rw[e]
  by_cases h1:(j:Int)=x<;>simp[h1]
theorem JQ : ∀ (l:List Int) (s:Nat×Nat) (j:Nat),j<64->(l.foldl Vl s).2.testBit j=(s.2.testBit j || decide (((64+j:Nat):Int)∈l))
 | [],s,j,_=>by simp
 | x::l,s,j,hj=>by
  rw[List.foldl_cons,JQ l _ j hj];have e:(Vl s x).2.testBit j=(s.2.testBit j || decide (((64+j:Nat):Int)=x)):=by
   unfold Vl;split
   ·have h:¬((64+j:Nat):Int)=x:=by omega
    simp only[h,decide_false,Bool.or_false]
   ·split
    ·rw[Nat.testBit_or,Nat.testBit_two_pow]
     congr 1
     rw[decide_eq_decide];omega
    ·have h:¬((64+j:Nat):Int)=x:=by omega
     simp only[h,decide_false,Bool.or_false]
  rw[e]
  by_cases h1:((64+j:Nat):Int)=x
  ·rw[h1];simp
  ·have h2:decide (((64+j:Nat):Int)∈x::l)=decide (((64+j:Nat):Int)∈l):=by
    rw[decide_eq_decide,List.mem_cons];exact⟨fun h=>h.resolve_left h1,.inr⟩
   rw[h2];simp only[h1,decide_false,Bool.or_false]
theorem ZeT {x:List Int}{n:Nat}(hl:x.length=n)(hn:n<64) : (((ofP x).1:Int)==((2^n-1:Nat):Int)&&((ofP x).2:Int)==0)=Wa x n:=by
 rw[Bool.eq_iff_iff,Yj,Bool.and_eq_true,beq_iff_eq,beq_iff_eq];have b1:=JP x (0,0);have b2:=JQ x (0,0);have lt:=ZeS x
 change ∀ j,j<64->(ofP x).1.testBit j=_ at b1
 change ∀ j,j<64->(ofP x).2.testBit j=_ at b2
 constructor
 ·rintro ⟨h1,-⟩
  have h1':(ofP x).1=2^n-1:=by omega
  rw[h1'] at b1;have hmem:∀ k:Nat,k<n->(k:Int)∈x:=fun k hk=>by
   have h:=b1 k (by omega);rw[Nat.testBit_two_pow_sub_one] at h;simp only[Nat.zero_testBit,Bool.false_or,hk,decide_true] at h;exact of_decide_eq_true h.symm
  have hnd:(Ze (List.range n)).Nodup:=by
   unfold Ze;refine List.pairwise_map.2 (List.nodup_range.imp ?_);intro a b hab e;exact hab (by omega)
  have hp:(Ze (List.range n)).Perm x:=Vj hnd (fun y hy=>by
   obtain⟨k,hk,rfl⟩:=List.mem_map.1 hy;exact hmem k (List.mem_range.1 hk)) (by rw[Zm,List.length_range,hl])
  refine Yj.1 ?_;unfold Wa;rw[decide_eq_true_iff];exact⟨hl,fun k hk=>Vk (hp.nodup hnd) (hmem k hk)⟩
 ·rintro ⟨l,rfl,hp⟩
  have hm:∀ k:Nat,((k:Int)∈Ze l)↔k<n:=fun k=>by
   rw[<-List.mem_range,<-hp.mem_iff];unfold Ze;rw[List.mem_map]
   constructor
   ·rintro ⟨a,ha,e⟩
    have:a=k:=by omega
    exact this ▸ ha
   ·exact fun h=>⟨k,h,rfl⟩
  constructor
  ·have e:(ofP (Ze l)).1=2^n-1:=by
    refine Nat.eq_of_testBit_eq fun j=>?_
    rw[Nat.testBit_two_pow_sub_one]
    by_cases hj:j<64
    ·rw[b1 j hj]
     simp only[Nat.zero_testBit,Bool.false_or];rw[decide_eq_decide];exact hm j
    ·have h:¬j<n:=by omega
     rw[Nat.testBit_lt_two_pow (Nat.lt_of_lt_of_le lt.1 (Nat.pow_le_pow_right (n:=2) (by omega) (by omega:64<=j)))];simp[h]
   rw[e]
  ·have e:(ofP (Ze l)).2=0:=by
    refine Nat.eq_of_testBit_eq fun j=>?_
    rw[Nat.zero_testBit]
    by_cases hj:j<64
    ·rw[b2 j hj]
     simp only[Nat.zero_testBit,Bool.false_or];refine decide_eq_false ?_;rw[hm];omega
    ·exact Nat.testBit_lt_two_pow (Nat.lt_of_lt_of_le lt.2 (Nat.pow_le_pow_right (n:=2) (by omega) (by omega:64<=j)))
   rw[e]
   rfl
theorem ZeU (s:Nat×Nat)(h:s.1<18446744073709551616/\s.2<18446744073709551616)(x:Int)(w:World) : Calls Tryz.prog 139 #[Uw s.1 s.2,.int .i64 x] w fun e w'=>e=.returned (Uw (Vl s x).1 (Vl s x).2)/\Ext w w':=by
 unfold Vl
 by_cases h1:0<=x/\x<64
 ·rw[if_pos h1]
  obtain⟨i,rfl⟩:∃ i:Nat,x=(i:Int):=⟨x.toNat,by omega⟩;exact Zfu s.1 s.2 i h.1 (by omega) w
 ·rw[if_neg h1]
  by_cases h2:64<=x/\x<128
  ·rw[if_pos h2]
   obtain⟨i,rfl⟩:∃ i:Nat,x=((64+i:Nat):Int):=⟨x.toNat-64,by omega⟩;have e:((64+i:Nat):Int).toNat-64=i:=by omega
   rw[e];exact Zfv s.1 s.2 i _ rfl h.2 (by omega) w
  ·rw[if_neg h2]
   exact ZeQ s.1 s.2 x (by omega) w
theorem Zfx (a b x y:Int)(u:World) : (Op.equalIn 10000 141 (.agg #[.int .u64 a,.int .u64 b]) (.agg #[.int .u64 x,.int .u64 y])).run Tryz.prog u=.ok (a==x&&b==y) u:=by
 unfold Op.equalIn;simp only[Sem.run_bind,run_underlying Tryz.underlying141,Result.andThen_ok];have e9:List.range' 0 2 1=[0,1]:=rfl;simp only[Std.Legacy.Range.forIn_eq_forIn_range',Std.Legacy.Range.size,Nat.sub_zero,Nat.add_one_sub_one,Nat.div_one,e9,List.forIn_cons,List.forIn_nil]
 by_cases hx:a=x
 ·subst hx
  by_cases hy:b=y
  ·subst hy
   go_simp
  ·have hy':(b==y)=false:=by simpa using hy
   go_simp
 ·have hx':(a==x)=false:=by simpa using hx
  go_simp
theorem Zf6 (A:Option Addr)(c:Nat)(l:List Int)(hn:l.length<=1000)(w:World)(hA:RdI w A l) :
  Calls Tryz.prog 133 #[.slice A l.length c] w fun e w'=>e=.returned (Uw (ofP l).1 (ofP l).2)/\Ext w w':=by
 have B0:Hid (Blk ((w.alloc (.cells #[.int .u64 0,.int .u64 0] 141)).alloc (.cells #[.int .u64 0,.int .u64 0] 141)) w.heap.size 141 #[.int .u64 0,.int .u64 0]):=Blk.alloc (.new rfl) _;have B1:Hid (Blk ((w.alloc (.cells #[.int .u64 0,.int .u64 0] 141)).alloc (.cells #[.int .u64 0,.int .u64 0] 141)) (w.heap.size+1) 141 #[.int .u64 ((ofP (l.take 0)).1:Int),.int .u64 ((ofP (l.take 0)).2:Int)]):=.new (by simp);have X0:Hid (Ext w ((w.alloc (.cells #[.int .u64 0,.int .u64 0] 141)).alloc (.cells #[.int .u64 0,.int .u64 0] 141))):=((Ext.rf w).alloc _).alloc _;have WI:=fun(s:Nat×Nat) (h:s.1<18446744073709551616/\s.2<18446744073709551616) (x:Int) (W:World)=>ZeU s h x W
 unfold Uw at WI ⊢;replace WI:=Hd WI;replace hA:=Hd hA;go_enter Tryz.func133,Tryz.ntmps133;go_wp2_with (fail);go_loopw [8] (fun i wr=>∃ k:Nat,i=.int .i64 k/\k<=l.length/\Hid (Blk wr (w.heap.size+1) 141 #[.int .u64 ((ofP (l.take k)).1:Int),.int .u64 ((ofP (l.take k)).2:Int)])/\Hid (Blk wr w.heap.size 141 #[.int .u64 0,.int .u64 0])/\Hid (Ext w wr)) (fun i _=>l.length-(intOf i).toNat)
 case atStart=>exact⟨0,rfl,by omega,B1,B0,X0⟩
 case round =>
  clear B0 B1 X0;obtain⟨wo,rfl⟩:∃ wo:World,wo=wr:=⟨_,rfl⟩;obtain⟨k,rfl,hk,B1,B0,X0⟩:=hrel
  by_cases hlt:k<l.length
  ·obtain⟨b,off,x,rfl,zb,cx,ex,_⟩:=(hA.out.ext X0.out).at (k:=k) hlt
   have hm:=ZeS (l.take k);have HS:ofP (l.take (k+1))=Vl (ofP (l.take k)) x:=by
    rw[List.take_add_one,ex.out];exact ZeR _ _
   have HW:=Hd (WI.out (ofP (l.take k)) hm x);rw[<-HS] at HW;clear HS hm ex;obtain⟨m,hm1⟩:∃ m,Hid ((ofP (l.take k)).1=m):=⟨_,rfl⟩;obtain⟨q,hq1⟩:∃ q,Hid ((ofP (l.take k)).2=q):=⟨_,rfl⟩;obtain⟨m2,hm2⟩:∃ m2,Hid ((ofP (l.take (k+1))).1=m2):=⟨_,rfl⟩;obtain⟨p2,hp2⟩:∃ p2,Hid ((ofP (l.take (k+1))).2=p2):=⟨_,rfl⟩;rw[hm1.out,hq1.out,hm2.out,hp2.out] at HW;rw[hm1.out,hq1.out] at B1;have c0:=B1.out.c0;have c1:=B1.out.c1;have q1:(k:Int)<(l.length:Int):=by omega
   go_wp2_with (fail);refine(HW.out _).mono ?_;rintro e w1 ⟨rfl,x1⟩;have b1:=B1.out.ext x1;have d0:=b1.c0;have d1:=b1.c1;have f0:=b1.free 0;have f1:=b1.free 1;have B1':=Hd ((b1.set 0 (.int .u64 m2)).set 1 (.int .u64 p2));have B0':=Hd (((B0.out.ext x1).far (p:=⟨w.heap.size+1,0,none⟩) (by simp) (.int .u64 m2)).far (p:=⟨w.heap.size+1,1,none⟩) (by simp) (.int .u64 p2));have X1:=Hd (((X0.out.tr x1).setNew (p:=⟨w.heap.size+1,0,none⟩) (by simp) (.int .u64 m2)).setNew (p:=⟨w.heap.size+1,1,none⟩) (by simp) (.int .u64 p2));clear b1 x1 B0 B1 X0 c0 c1;go_wp2_with (fail);go_roundw
   case rel=>exact⟨k+1,by go_num,by omega,by rw[hm2.out,hp2.out];exact B1',B0',X1⟩
   case measure=>simp[intOf];omega
  ·obtain rfl:k=l.length:=by omega
   rw[List.take_length] at B1;obtain⟨m,hm⟩:∃ m,Hid ((ofP l).1=m):=⟨_,rfl⟩;obtain⟨q,hq⟩:∃ q,Hid ((ofP l).2=q):=⟨_,rfl⟩;rw[hm.out,hq.out] at B1;have c0:=B1.out.c0;have c1:=B1.out.c1;have r0:=B0.out.c0;have r1:=B0.out.c1;have g0:=B0.out.free 0;have g1:=B0.out.free 1;go_wp2_with (fail);refine bodyPost_ret (v:=.agg #[.int .u64 m,.int .u64 q]) (by simp[results,Tryz.results133,go_sem, *]) rfl ⟨by rw[hm.out,hq.out],?_⟩;exact(X0.out.setNew (p:=⟨w.heap.size,0,none⟩) (by simp) _).setNew (p:=⟨w.heap.size,1,none⟩) (by simp) _
theorem ZdE (A:Option Addr)(c n:Nat)(x:List Int)(hx:x.length<=1000)(hn:n<64)(w:World)(hA:RdI w A x) :
  Calls Tryz.prog 79 #[.slice A x.length c,.int .i64 n] w fun e w'=>e=.returned (.bool (Wa x n))/\Ext w w':=by
 by_cases hl:x.length=n
 ·have OF:=fun(W:World) (x':Ext w W)=>Zf6 A c x hx W (hA.ext x')
  have FU:=fun(W:World)=>W6 n hn W
  have EQ:=ZeT hl hn;have en:((n:Int)==(n:Int))=true:=by simp
  rw[hl] at OF ⊢;clear hl hA hx;unfold setV Uw at *;generalize 2^n-1=m at *;generalize (ofP x).1=s1 at *;generalize (ofP x).2=s2 at *;have EQ2:=fun u:World=>Zfx (s1:Int) (s2:Int) (m:Int) 0 u
  rw[EQ] at EQ2;clear EQ;generalize Wa x n=pb at *;replace OF:=Hd OF;replace FU:=Hd FU;go_enter Tryz.func79,Tryz.ntmps79;go_wp2_with (fail);refine(OF.out _ (by(repeat (first | assumption | exact Ext.rf _ | apply Ext.drew | apply Ext.drewN | apply Ext.alloc)))).mono ?_;rintro e w1 ⟨rfl,x1⟩;go_wp2_with (fail);refine(FU.out _).mono ?_;rintro e w2 ⟨rfl,x2⟩;have X2:=Hd (Ext.tr (Ext.tr (a:=w) (by(repeat (first | assumption | exact Ext.rf _ | apply Ext.drew | apply Ext.drewN | apply Ext.alloc))) x1) x2);clear x1 x2;go_wp2_with (fail);go_ret;exact⟨rfl,X2.out⟩
 ·have PB:Wa x n=false:=by
   unfold Wa;exact decide_eq_false fun h=>hl h.1
  have en:((x.length:Int)==(n:Int))=false:=by
   rw[beq_eq_false_iff_ne];omega
  rw[PB];clear PB hl;go_enter Tryz.func79,Tryz.ntmps79;go_wp2_with (fail);go_ret;exact⟨rfl,by(repeat (first | assumption | exact Ext.rf _ | apply Ext.drew | apply Ext.drewN | apply Ext.alloc))⟩
def Vm (co:List (List Int)) : List Nat->Int
 | []=>0
 | u::q=>Zy co u q
theorem Ux {rows:List (List Int)}(num:∀ a b,a<rows.length->b<rows.length->0<=Zb rows a b/\Zb rows a b<=2147483647) : ∀ (q:List Nat) (s:Nat),s<rows.length->(∀ x∈q,x<rows.length)->0<=Zy rows s q/\Zy rows s q<=2147483647*((q.length:Int)+1)
 | [],s,hs,_=>by have:=num s 0 hs (by omega);simp only[Zy,List.length_nil];omega
 | u::q,s,hs,h=>by
  have h1:=num s u hs (h u (by simp));have h2:=Ux num q u (h u (by simp)) fun x hx=>h x (by simp[hx])
  simp only[Zy,List.length_cons];omega
theorem Q9 {l:List Nat}{k y:Nat}(h:l[k]?=some y) : (Ze l)[k]?=some (y:Int):=by simp[Ze,h]
def ZA (i:InstP)(x:List Int) : Int×Int :=
 if Zf i≠0 then(0,Zf i)
 else if i.kind=1 then(if (x.length:Int)=i.n/\∀ v∈x,v=0\/v=1 then Xp i.cap i.weight i.value x else(0,1))
 else if Wa x i.cost.length=true/\(i.kind=3->x[0]?=some 0) then(if i.kind=2 then Zs i.cost x else Zy i.cost 0 (x.tail.map Int.toNat),0) else(0,1)
theorem Zbl (k n cap:Int)(A B C:Option Addr)(a b c:Nat)(xs ys:List Int)(l:List (List Int))(w:World)(hk:k≠1)(hC:RdE 1 RInts w C l)(lc:l.length<=c)(mc:c<=maxLen)(lx:xs.length<=maxLen)(ly:ys.length<=maxLen)(lxy:xs.length+ys.length<=maxLen) :
  Calls Tryz.prog 70 #[.agg #[.int .i64 k,.int .i64 n,.int .i64 cap,.slice A xs.length a,.slice B ys.length b,.slice C l.length c]] w fun e w'=>e=.returned (.bool ((((l.length:Int)==n)&&(cap==0)&&decide (xs.length+ys.length=0)) && !(l.any fun r=>(r.length:Int) != n)))/\Ext w w':=by
 have B1:Hid (Blk (w.alloc (.cells #[.int .i64 k,.int .i64 n,.int .i64 cap,.slice A xs.length a,.slice B ys.length b,.slice C l.length c] 25)) w.heap.size 25 #[.int .i64 k,.int .i64 n,.int .i64 cap,.slice A xs.length a,.slice B ys.length b,.slice C l.length c]):=.new rfl;have hk':(k==1)=false:=by simpa using hk
 have lm:l.length<=maxLen:=by omega
 replace hC:=Hd hC;replace mc:=Hd mc;replace lm:=Hd lm;clear hk
 cases h1:((l.length:Int)==n)
 ·have h1':((l.length:Int) != n)=true:=by simp only[bne,h1];rfl
  go_enter Tryz.func70,Tryz.ntmps70;go_wp2;go_ret;exact⟨rfl,by(repeat (first | assumption | exact Ext.rf _ | apply Ext.drew | apply Ext.drewN | apply Ext.alloc))⟩
 ·have h1':((l.length:Int) != n)=false:=by simp only[bne,h1];rfl
  cases h2:(cap==0)
  ·have h2':(cap != 0)=true:=by simp only[bne,h2];rfl
   go_enter Tryz.func70,Tryz.ntmps70;go_wp2;go_ret;exact⟨rfl,by(repeat (first | assumption | exact Ext.rf _ | apply Ext.drew | apply Ext.drewN | apply Ext.alloc))⟩
  ·have h2':(cap != 0)=false:=by simp only[bne,h2];rfl
   by_cases hs:xs.length+ys.length=0
   ·have hs1:decide (xs.length+ys.length=0)=true:=by simpa using hs
    rw[hs1];have l0:xs.length=0:=by omega
    have l1:ys.length=0:=by omega
    rw[l0,l1] at B1 ⊢;clear hs hs1 l0 l1 lx ly lxy;go_enter Tryz.func70,Tryz.ntmps70;go_wp2_with (fail);refine(ZaF _ _ (fun m=>(m:Int) != n) Qd C c l _ (hC.out.ext ((Ext.rf _).alloc _) fun _ _ h=>h.ext ((Ext.rf _).alloc _)) lm.out ?_).mono ?_
    ·intro W D r d _ hx
     exact ZaG D r.length d w.heap.size n _ W (B1.out.ext hx) rfl
    rintro e w' ⟨rfl,x'⟩;go_wp2;go_ret;exact⟨by simp,Ext.tr (a:=w) (by(repeat (first | assumption | exact Ext.rf _ | apply Ext.drew | apply Ext.drewN | apply Ext.alloc))) x'⟩
   ·have hs1:decide (xs.length+ys.length=0)=false:=by simpa using hs
    rw[hs1];have hs2:(0:Int)<(xs.length:Int)+(ys.length:Int):=by omega
    have hs3:IntKind.i64.wrap ((xs.length:Int)+(ys.length:Int))=(xs.length:Int)+(ys.length:Int):=IntWalk.i64_in _ (by simp only[maxLen] at lxy;omega);clear hs hs1;go_enter Tryz.func70,Tryz.ntmps70;go_wp2;go_ret;exact⟨rfl,by(repeat (first | assumption | exact Ext.rf _ | apply Ext.drew | apply Ext.drewN | apply Ext.alloc))⟩
theorem UX (i:InstP)(vs:List Value)(w:World)(H:RInst w vs i)(lw:i.weight.length<=maxLen)(lv:i.value.length<=maxLen)(lwv:i.weight.length+i.value.length<=maxLen) :
  Calls Tryz.prog 34 #[.agg (List.toArray vs)] w fun e w'=>e=.returned (.int .i64 (Zf i))/\Ext w w':=by
 obtain⟨k,n,cap,xs,ys,l⟩:=i;obtain⟨A,a,B,b,C,c,rfl,⟨rA,iA,lA,mA⟩,⟨rB,iB,lB,mB⟩,⟨rC,lC,mC⟩⟩:=H;simp only at *;have B1:Hid (Blk (w.alloc (.cells #[.int .i64 k,.int .i64 n,.int .i64 cap,.slice A xs.length a,.slice B ys.length b,.slice C l.length c] 25)) w.heap.size 25 #[.int .i64 k,.int .i64 n,.int .i64 cap,.slice A xs.length a,.slice B ys.length b,.slice C l.length c]):=.new rfl;replace rA:=Hd rA;replace rB:=Hd rB;replace rC:=Hd rC;replace iA:=Hd iA;replace iB:=Hd iB;replace mA:=Hd mA;replace mB:=Hd mB;replace mC:=Hd mC;have X1:Ext w (w.alloc (.cells #[.int .i64 k,.int .i64 n,.int .i64 cap,.slice A xs.length a,.slice B ys.length b,.slice C l.length c] 25)):=(Ext.rf _).alloc _;replace X1:=Hd X1;go_enter Tryz.func34,Tryz.ntmps34;go_wp2_with (fail);refine(ZaA k n cap _ _ _ _).mono ?_;rintro e w2 ⟨rfl,x2⟩;have X2:=Hd (Ext.tr X1.out x2);have B2:=Hd (B1.out.ext x2);have d0:=B2.out.c0;have d1:=B2.out.c1;have d2:=B2.out.c2;have d3:=B2.out.c3;have d4:=B2.out.c4;have d5:=B2.out.c5
 by_cases hs:YR k n=0
 ·have hs':(YR k n != 0)=false:=by simpa using hs
  have qHS:Zf ⟨k,n,cap,xs,ys,l⟩=(if XO ⟨k,n,cap,xs,ys,l⟩=true then(if k=1 then ZO cap xs ys xs.length else YD k 0 l) else 8):=by
   unfold Zf;simp only[if_pos hs]
  have HS:=Hd qHS;clear qHS;have kk:=VP hs;replace hs:=Hd hs;clear x2
  by_cases k1:k=1
  ·subst k1
   have qHS2:Zf ⟨1,n,cap,xs,ys,l⟩=(if (((xs.length:Int)==n)&&((ys.length:Int)==n)&&((l.length:Int)==0))=true then ZO cap xs ys xs.length else 8):=by
    have h1:=HS.out;unfold XO at h1
    simpa only [if_true] using h1
   have HS2:=Hd qHS2;clear qHS2;clear HS;go_wp2_with (fail);refine(QA n cap A B C a b c xs ys l _).mono ?_;rintro e w3 ⟨rfl,x3⟩;have X3:=Hd (Ext.tr X2.out x3);have B3:=Hd (B2.out.ext x3);have e0:=B3.out.c0;have e1:=B3.out.c1;have e2:=B3.out.c2;have e3:=B3.out.c3;have e4:=B3.out.c4;have e5:=B3.out.c5;clear d0 d1 d2 d3 d4 d5 x3 kk
   cases hh:(((xs.length:Int)==n)&&((ys.length:Int)==n)&&((l.length:Int)==0)) with
   | false =>
    have qHC:Zf ⟨1,n,cap,xs,ys,l⟩=8:=by
     have h1:=HS2.out;rw[hh,if_neg (by decide)] at h1;exact h1
    have HC:=Hd qHC;clear qHC;clear hh;go_wp2;go_ret;exact⟨Yg HC.out.symm,X3.out⟩
   | true =>
    have qHC:Zf ⟨1,n,cap,xs,ys,l⟩=ZO cap xs ys xs.length:=by
     have h1:=HS2.out;rw[hh,if_pos rfl] at h1;exact h1
    have HC:=Hd qHC;clear qHC;simp only[Bool.and_eq_true,beq_iff_eq] at hh;obtain⟨⟨rfl,hy⟩,hz⟩:=hh;clear HS2;have hyx:Hid (xs.length=ys.length):=by(have:xs.length=ys.length:=by omega);exact this
    clear hy hz;go_wp2_with (fail);refine(Jq A B a b 1 cap xs ys _ _ (rA.out.ext X3.out) (rB.out.ext X3.out) lA mA.out lB mB.out hyx.out).mono ?_;rintro e w4 ⟨rfl,x4⟩;go_wp2;go_ret;exact⟨Yg HC.out.symm,Ext.tr X3.out x4⟩
  ·have k1':(k==1)=false:=by simpa using k1
   have qHS2:Zf ⟨k,n,cap,xs,ys,l⟩=(if ((((l.length:Int)==n)&&(cap==0)&&decide (xs.length+ys.length=0)) && !(l.any fun r=>(r.length:Int) != n))=true then YD k 0 l else 8):=by
    have h1:=HS.out;unfold XO at h1
    simpa only [if_neg k1] using h1
   have HS2:=Hd qHS2;clear qHS2;clear HS;go_wp2_with (fail);refine(Zbl k n cap A B C a b c xs ys l _ k1 (rC.out.ext X2.out fun _ _ h=>h.ext X2.out) lC mC.out lw lv lwv).mono ?_;rintro e w3 ⟨rfl,x3⟩;have X3:=Hd (Ext.tr X2.out x3);have B3:=Hd (B2.out.ext x3);have e0:=B3.out.c0;have e1:=B3.out.c1;have e2:=B3.out.c2;have e3:=B3.out.c3;have e4:=B3.out.c4;have e5:=B3.out.c5;clear d0 d1 d2 d3 d4 d5 x3 kk k1;generalize ((((l.length:Int)==n)&&(cap==0)&&decide (xs.length+ys.length=0)) && !(l.any fun r=>(r.length:Int) != n))=hh at HS2 ⊢
   cases hh with
   | false =>
    have HC:Hid (Zf ⟨k,n,cap,xs,ys,l⟩=8):=HS2.out;clear HS2;go_wp2;go_ret;exact⟨Yg HC.out.symm,X3.out⟩
   | true =>
    have HC:Hid (Zf ⟨k,n,cap,xs,ys,l⟩=YD k 0 l):=HS2.out;clear HS2;go_wp2_with (fail);refine(ZaE k n cap _ _ C c l _ (rC.out.ext X3.out fun _ _ h=>h.ext X3.out) lC mC.out).mono ?_;rintro e w4 ⟨rfl,x4⟩;go_wp2;go_ret;exact⟨Yg HC.out.symm,Ext.tr X3.out x4⟩
 ·have hs':(YR k n != 0)=true:=by simpa using hs
  have qHC:Zf ⟨k,n,cap,xs,ys,l⟩=YR k n:=by
   unfold Zf;simp only[if_neg hs]
  have HC:=Hd qHC;clear qHC;clear hs;go_wp2;go_ret;exact⟨Yg HC.out.symm,X2.out⟩
theorem Ja (i:InstP)(us:List Value)(P:Option Addr)(c:Nat)(q:List Nat)(w:World)(H:RInst w us i)(hc:Zf i=0)(hk:i.kind=3)(hP:RdI w P (Ze (0::q)))(hl:(0::q).Perm (List.range i.cost.length)) :
  Calls Tryz.prog 41 #[.agg (List.toArray us),.slice P i.cost.length c] w fun e w'=>e=.returned (.tuple #[.int .i64 (Zy i.cost 0 q),.int .i64 0])/\Ext w w':=by
 have sq:=Zo hc (by omega);have rok:=ZF sq;have CH:=fun(W:World) (x:Ext w W)=>ZC i us W (H.ext x) (by rw[sq.w];simp) (by rw[sq.v];simp)
 have OY:=fun(W:World) (x:Ext w W)=>JO P c i.cost.length (0::q) hl (by have:=rok.n2;omega) W (hP.ext x)
 rw[hc] at CH;have hnn:i.n=(i.cost.length:Int):=sq.len.symm;have hlt:Hid (∀ x∈0::q,x<i.cost.length):=fun x hx=>List.mem_range.1 (hl.mem_iff.1 hx)
 have hlen:Hid ((0::q).length=i.cost.length):=Hd (by rw[hl.length_eq,List.length_range]);have n24:=rok.n2;have n1:=rok.n1;clear hl hc sq;obtain⟨kind,nn,cap,xw,xv,co⟩:=i;obtain⟨A,a,B,b,D,d,rfl,-,-,hC,-⟩:=H;simp only at *;subst hk hnn;obtain⟨cb,cof,_,_,_,rfl,_,_⟩:=WP rok hC (r:=0) (c:=0) (by omega) (by omega);have num:=Y0 rok;have CA:=Hd (fun(W:World) (x:Ext w W) (r c:Nat) (hr:r<co.length) (hc:c<co.length)=>Zfs rok (hC.ext x fun _ _ h=>h.ext x) hr hc);obtain⟨tot,htot⟩:∃ tot,Hid (Zy co 0 q=tot):=⟨_,rfl⟩;rw[htot.out];have bt:0<=tot/\tot<=2147483647*24:=by
  have h1:=Ux num q 0 (by omega) fun x hx=>hlt.out x (by simp[hx])
  have h2:=hlen.out;rw[List.length_cons] at h2;rw[htot.out] at h1;omega
 have START:Hid ((0:Int)+Vm co ((0::q).drop 0)=tot):=Hd (by rw[<-htot.out];simp[Vm]);obtain⟨l,hll⟩:∃ l,Hid (0::q=l):=⟨_,rfl⟩;have h00:Hid (l[0]?=some 0):=Hd (by rw[<-hll.out];rfl);rw[hll.out] at hP hlt hlen START;obtain⟨pb,po,x0,rfl,zp0,cp0,ep0,_⟩:=hP.at (k:=0) (by rw[Zm,hlen.out];omega);obtain rfl:x0=0:=by
  have h:=ep0.out;rw[Q9 h00.out] at h;exact(Option.some.inj h).symm
 replace cp0:w.cell? ⟨pb,po,none⟩=some (.int .i64 0):=cp0;have DR:Hid (∀ k,k<co.length->∃ u,l[k]?=some u/\u<co.length/\l.drop k=u::l.drop (k+1)):=fun k hk=>by
  have h:k<l.length:=by rw[hlen.out];exact hk
  exact⟨l[k],List.getElem?_eq_getElem h,hlt.out _ (List.getElem_mem h),List.drop_eq_getElem_cons h⟩
 replace CH:=Hd CH;replace OY:=Hd OY;replace hP:=Hd hP;replace hC:=Hd hC;replace rok:=Hd rok;replace num:=Hd num;have B1:Hid (Blk (w.alloc (.cells #[.int .i64 3,.int .i64 co.length,.int .i64 cap,.slice A xw.length a,.slice B xv.length b,.slice (some ⟨cb,cof,none⟩) co.length d] 25)) w.heap.size 25 #[.int .i64 3,.int .i64 co.length,.int .i64 cap,.slice A xw.length a,.slice B xv.length b,.slice (some ⟨cb,cof,none⟩) co.length d]):=.new rfl;have q00:(0:Int)<(co.length:Int):=by omega
 clear ep0;go_enter Tryz.func41,Tryz.ntmps41;go_wp2_with (fail);refine(CH.out _ (by(repeat (first | assumption | exact Ext.rf _ | apply Ext.drew | apply Ext.drewN | apply Ext.alloc)))).mono ?_;rintro e w1 ⟨rfl,x1⟩;have X1:=Hd (Ext.tr (a:=w) (by(repeat (first | assumption | exact Ext.rf _ | apply Ext.drew | apply Ext.drewN | apply Ext.alloc))) x1);have b1:=Hd (B1.out.ext x1);have t0:=b1.out.c0;have t1:=b1.out.c1;clear x1 B1;go_wp2_with (fail);refine(OY.out _ (X1.out.tr (by(repeat (first | assumption | exact Ext.rf _ | apply Ext.drew | apply Ext.drewN | apply Ext.alloc))))).mono ?_;rintro e w2 ⟨rfl,x2⟩;have X2:=Hd (X1.out.tr (Ext.tr (by(repeat (first | assumption | exact Ext.rf _ | apply Ext.drew | apply Ext.drewN | apply Ext.alloc))) x2));have BC:=Hd (b1.out.ext (Ext.tr (by(repeat (first | assumption | exact Ext.rf _ | apply Ext.drew | apply Ext.drewN | apply Ext.alloc))) x2));have s0:=BC.out.c0;have e2:w2.cell? ⟨pb,po,none⟩=some (.int .i64 0):=Zh X2.out zp0 cp0;clear x2 b1 X1 t0 t1;go_wp2_with (fail);go_loopw [7,44] (fun s v wr=>∃ (k:Nat) (su:Int),v=.int .i64 k/\s=.int .i64 su/\k<=co.length/\Hid (0<=su/\su+Vm co (l.drop k)=tot)/\Hid (Ext w2 wr)) (fun _ v _=>co.length-(intOf v).toNat)
 case atStart=>exact⟨0,0,rfl,rfl,by omega,by exact(show (0:Int)<=0/\(0:Int)+Vm co (l.drop 0)=tot from⟨by omega,START.out⟩),Ext.rf _⟩
 case round =>
  clear s0;obtain⟨wo,rfl⟩:∃ wo:World,wo=wr:=⟨_,rfl⟩;obtain⟨k,su,rfl,rfl,hk,HS,Y⟩:=hrel;have s0:wo.cell? ⟨w.heap.size,0,none⟩=some (.int .i64 3):=(BC.out.ext Y.out).cell 0;have d1:wo.cell? ⟨w.heap.size,1,none⟩=some (.int .i64 co.length):=(BC.out.ext Y.out).cell 1;have d5:wo.cell? ⟨w.heap.size,5,none⟩=some (.slice (some ⟨cb,cof,none⟩) co.length d):=(BC.out.ext Y.out).cell 5;have XW:=Hd (X2.out.tr Y.out);clear e2 START
  by_cases hkl:k<co.length
  ·obtain⟨u,ek,hun,edr⟩:=DR.out k hkl
   obtain⟨pb',po',xu,hPq,zpk,cpk,epk,_⟩:=(hP.out.ext XW.out).at (k:=k) (by rw[Zm,hlen.out];exact hkl);obtain⟨rfl,rfl⟩:pb=pb'/\po=po':=by simpa using hPq
   obtain rfl:xu=(u:Int):=by
    have h:=epk.out;rw[Q9 ek] at h;exact(Option.some.inj h).symm
   have HS1:=HS.out;rw[edr] at HS1;have q1:(k:Int)<(co.length:Int):=by omega
   have q2:(u:Int)<(co.length:Int):=by omega
   have hw0:IntKind.i64.wrap ((k:Int)+1)=(k:Int)+1:=IntWalk.i64_in _ (by omega);clear ek edr hPq epk HS
   by_cases hlast:k+1=co.length
   ·have e1:l.drop (k+1)=[]:=List.drop_of_length_le (by rw[hlen.out];omega)
    rw[e1] at HS1;obtain⟨rb,ro,d',c1,c2⟩:=CA.out _ XW.out u 0 hun (by omega);have nu:=num.out u 0 hun (by omega);obtain⟨y,hy⟩:∃ y,Hid (Zb co u 0=y):=⟨_,rfl⟩;simp only[Vm,Zy] at HS1;rw[hy.out] at c2 nu HS1;replace c2:wo.cell? ⟨rb,ro,none⟩=some (.int .i64 y):=c2;have hrem:((k:Int)+1).tmod (co.length:Int)=0:=by
     have h:(k:Int)+1=(co.length:Int):=by omega
     rw[h,Int.tmod_self]
    have hw1:IntKind.i64.wrap 0=0:=IntWalk.i64_in _ (by omega);have hw:IntKind.i64.wrap (su+y)=su+y:=IntWalk.i64_in _ (by omega);have p0:wo.cell? ⟨pb,po,none⟩=some (.int .i64 0):=Zh XW.out zp0 cp0;have NEW:Hid (0<=su+y/\su+y+Vm co (l.drop (k+1))=tot):=Hd (by
     rw[e1];simp only[Vm];omega)
    have hnz:((co.length:Int)==0)=false:=by rw[beq_eq_false_iff_ne];omega
    clear HS1 e1;replace hlast:=Hd hlast;go_wp2_with (fail);go_quiet (fail);go_wp2_with (fail);go_roundw
    case rel=>exact⟨k+1,su+y,by go_num,rfl,by omega,NEW,Y.out.drewN _⟩
    case measure=>simp[intOf];omega
   ·have hk1:k+1<co.length:=by omega
    obtain⟨v,ek1,hvn,edr1⟩:=DR.out (k+1) hk1;obtain⟨pb',po',xu,hPq,zpk1,cpk1,epk1,_⟩:=(hP.out.ext XW.out).at (k:=k+1) (by rw[Zm,hlen.out];exact hk1);obtain⟨rfl,rfl⟩:pb=pb'/\po=po':=by simpa using hPq
    obtain rfl:xu=(v:Int):=by
     have h:=epk1.out;rw[Q9 ek1] at h;exact(Option.some.inj h).symm
    rw[edr1] at HS1;obtain⟨rb,ro,d',c1,c2⟩:=CA.out _ XW.out u v hun hvn;have nu:=num.out u v hun hvn;obtain⟨y,hy⟩:∃ y,Hid (Zb co u v=y):=⟨_,rfl⟩;simp only[Vm,Zy] at HS1;rw[hy.out] at c2 nu HS1;have hpp:=(Ux num.out (l.drop (k+1+1)) v hvn fun x hx=>hlt.out x (List.mem_of_mem_drop hx)).1;have hrem:((k:Int)+1).tmod (co.length:Int)=((k+1:Nat):Int):=by
     rw[Int.tmod_eq_emod_of_nonneg (by omega),Int.emod_eq_of_lt (by omega) (by omega)];omega
    have hw1:IntKind.i64.wrap ((k+1:Nat):Int)=((k+1:Nat):Int):=IntWalk.i64_in _ (by omega);have hw:IntKind.i64.wrap (su+y)=su+y:=IntWalk.i64_in _ (by omega);have NEW:Hid (0<=su+y/\su+y+Vm co (l.drop (k+1))=tot):=Hd (by
     rw[edr1];simp only[Vm];omega)
    have q3:(v:Int)<(co.length:Int):=by omega
    have q4:((k+1:Nat):Int)<(co.length:Int):=by omega
    have hnz:((co.length:Int)==0)=false:=by rw[beq_eq_false_iff_ne];omega
    clear HS1 edr1 ek1 hPq epk1 hpp;replace hlast:=Hd hlast;go_wp2_with (fail);go_quiet (fail);go_wp2_with (fail);go_roundw
    case rel=>exact⟨k+1,su+y,by go_num,rfl,by omega,NEW,Y.out.drewN _⟩
    case measure=>simp[intOf];omega
  ·have q1:¬(k:Int)<(co.length:Int):=by omega
   have HS2:Hid (su=tot):=by
    have h:=HS.out.2;rw[List.drop_of_length_le (by rw[hlen.out];omega)] at h;simp only[Vm] at h;have h2:su=tot:=by omega
    exact h2
   go_wp2_with (fail);go_ret2;rw[HS2.out];exact⟨rfl,XW.out⟩
theorem Zcb (i:InstP)(us:List Value)(w:World)(H:RInst w us i)(hc:Zf i=0)(hk:i.kind=3)(h12:i.n<=12) :
  Calls Tryz.prog 80 #[.agg (List.toArray us),.int .i64 3] w fun e w'=>e=.returned (.int .i64 0)/\Ext w w':=by
 have sq:=Zo hc (by omega);have CH:=fun(W:World) (x:Ext w W)=>ZC i us W (H.ext x) (by rw[sq.w];simp) (by rw[sq.v];simp)
 rw[hc] at CH;obtain⟨kind,nn,cap,xw,xv,co⟩:=i;obtain⟨A,a,B,b,D,d,rfl,-,-,-⟩:=H;simp only at *;subst hk;have B1:Hid (Blk (w.alloc (.cells #[.int .i64 3,.int .i64 nn,.int .i64 cap,.slice A xw.length a,.slice B xv.length b,.slice D co.length d] 25)) w.heap.size 25 #[.int .i64 3,.int .i64 nn,.int .i64 cap,.slice A xw.length a,.slice B xv.length b,.slice D co.length d]):=.new rfl;replace CH:=Hd CH;clear hc sq;have hq:¬12<nn:=by omega
 go_enter Tryz.func80,Tryz.ntmps80;go_wp2_with (fail);refine(CH.out _ (by(repeat (first | assumption | exact Ext.rf _ | apply Ext.drew | apply Ext.drewN | apply Ext.alloc)))).mono ?_;rintro e w1 ⟨rfl,x1⟩;have X1:=Hd (Ext.tr (a:=w) (by(repeat (first | assumption | exact Ext.rf _ | apply Ext.drew | apply Ext.drewN | apply Ext.alloc))) x1);have b1:=Hd (B1.out.ext x1);have t0:=b1.out.c0;have t1:=b1.out.c1;clear x1 B1;go_wp2_with (fail);go_ret;exact⟨rfl,X1.out.tr (by(repeat (first | assumption | exact Ext.rf _ | apply Ext.drew | apply Ext.drewN | apply Ext.alloc)))⟩
theorem ZdF (i:InstP)(us:List Value)(P:Option Addr)(c:Nat)(q:List Nat)(w:World)(H:RInst w us i)(hc:Zf i=0)(hk:i.kind=3)(hP:RdI w P (Ze (0::q)))(hl:(0::q).Perm (List.range i.cost.length)) :
  Calls Tryz.prog 83 #[.agg (List.toArray us),.slice P i.cost.length c] w fun e w'=>e=.returned (.tuple #[.slice P i.cost.length c,.int .i64 (Zy i.cost 0 q),.int .i64 0])/\Ext w w':=by
 have VC:=fun(W:World) (x:Ext w W)=>Ja i us P c q W (H.ext x) hc hk (hP.ext x) hl
 obtain⟨kind,nn,cap,xw,xv,co⟩:=i;obtain⟨A,a,B,b,D,d,rfl,-,-,-⟩:=H;simp only at *;generalize Zy co 0 q=cc at *;replace VC:=Hd VC;clear hc hk hP hl;go_enter Tryz.func83,Tryz.ntmps83;go_wp2_with (fail);refine(VC.out _ (by(repeat (first | assumption | exact Ext.rf _ | apply Ext.drew | apply Ext.drewN | apply Ext.alloc)))).mono ?_;rintro e w1 ⟨rfl,x1⟩;have X1:=Hd (Ext.tr (a:=w) (by(repeat (first | assumption | exact Ext.rf _ | apply Ext.drew | apply Ext.drewN | apply Ext.alloc))) x1);clear x1;go_wp2_with (fail);go_ret3;exact⟨rfl,X1.out.tr (by(repeat (first | assumption | exact Ext.rf _ | apply Ext.drew | apply Ext.drewN | apply Ext.alloc)))⟩
abbrev Ld := Int×Int×Nat
def Zz : List Ld->List Value
 | []=>[]
 | d::l=>.int .i64 d.1::.int .i64 d.2.1::.int .u64 (d.2.2:Int)::.int .u64 0::Zz l
theorem YC : ∀ l:List Ld,(Zz l).length=l.length*4
 | []=>rfl
 | d::l=>by simp only[Zz,List.length_cons,YC l];omega
theorem JR : ∀ l:List Ld,∀ u∈Zz l,u.oneCell'=true
 | [],u,h=>by cases h
 | d::l,u,h=>by
  simp only[Zz,List.mem_cons] at h;rcases h with rfl | rfl | rfl | rfl | h
  ·rfl
  ·rfl
  ·rfl
  ·rfl
  ·exact JR l u h
theorem Y1 : ∀ l m:List Ld,Zz (l++m)=Zz l++Zz m
 | [],m=>rfl
 | d::l,m=>by simp only[List.cons_append,Zz,Y1 l m]
theorem Xj : ∀ {l:List Ld} {k:Nat} {d:Ld},l[k]?=some d->(Zz l)[k*4]?=some (.int .i64 d.1)/\(Zz l)[k*4+1]?=some (.int .i64 d.2.1)/\(Zz l)[k*4+2]?=some (.int .u64 (d.2.2:Int))/\(Zz l)[k*4+3]?=some (.int .u64 0)
 | [],k,d,h=>by simp at h
 | e::l,0,d,h=>by
  obtain rfl:e=d:=by simpa using h
  exact⟨rfl,rfl,rfl,rfl⟩
 | e::l,k+1,d,h=>by
  have ih:=Xj (l:=l) (k:=k) (d:=d) (by simpa using h);have e1:∀ j,(Zz (e::l))[(k+1)*4+j]?=(Zz l)[k*4+j]?:=fun j=>by
   rw[show (k+1)*4+j=k*4+j+1+1+1+1 by omega]
   rfl
  have e0:=e1 0;simp only[Nat.add_zero] at e0;rw[e0,e1 1,e1 2,e1 3];exact ih
def Z9 (l:List Ld)(k:Nat)(wt vl room:Int) : List Ld:=(l.filter fun d=>decide (d.1+wt<=room)).map fun d=>(d.1+wt,d.2.1+vl,d.2.2 ||| 2^k)
theorem Zcc (l:List Ld)(d:Ld)(k:Nat)(wt vl room:Int) : Z9 (l++[d]) k wt vl room=Z9 l k wt vl room++(if d.1+wt<=room then [(d.1+wt,d.2.1+vl,d.2.2 ||| 2^k)] else []):=by
 unfold Z9;rw[List.filter_append,List.map_append]
 congr 1
 by_cases h:d.1+wt<=room
 ·simp[h]
 ·simp[h]
theorem JS (l:List Ld)(k:Nat)(wt vl room:Int) : (Z9 l k wt vl room).length<=l.length:=by
 unfold Z9;rw[List.length_map];exact List.length_filter_le _ _
def UY (d m:Ld) : Bool:=decide (m.1<=d.1)&&decide (d.2.1<=m.2.1)
def YO : List Ld->List Ld->List Ld
 | acc,[]=>acc
 | acc,d::r=>YO (match acc.getLast? with
  | none=>[d]
  | some m=>if UY d m=true then acc else acc++[d]) r
theorem JT : ∀ {r acc:List Ld} {d:Ld},d∈YO acc r->d∈acc\/d∈r
 | [],acc,d,h=>.inl h
 | e::r,acc,d,h=>by
  unfold YO at h;rcases JT h with h | h
  ·split at h
   ·exact .inr (by simpa using .inl (List.mem_singleton.1 h))
   ·split at h
    ·exact .inl h
    ·rcases List.mem_append.1 h with h | h
     ·exact .inl h
     ·exact .inr (by simpa using .inl (List.mem_singleton.1 h))
  ·exact .inr (List.mem_cons_of_mem _ h)
def Dom (l:List Ld)(d:Ld) : Prop:=∃ m∈l,m.1<=d.1/\d.2.1<=m.2.1
theorem JU : ∀ {r acc:List Ld} {d:Ld},Dom acc d\/d∈r->Dom (YO acc r) d
 | [],acc,d,h=>by
  rcases h with h | h
  ·exact h
  ·cases h
 | e::r,acc,d,h=>by
  unfold YO;refine JU ?_;rcases h with⟨m,h1,h2⟩ | h
  ·left
   split
   ·rename_i hn
    rw[List.getLast?_eq_none_iff.1 hn] at h1
    cases h1
   ·split
    ·exact⟨m,h1,h2⟩
    ·exact⟨m,List.mem_append_left _ h1,h2⟩
  ·rcases List.mem_cons.1 h with rfl | h
   ·left
    split
    ·exact⟨d,by simp,Int.le_refl _,Int.le_refl _⟩
    ·rename_i m hm
     split
     ·rename_i hw
      simp only[UY,Bool.and_eq_true,decide_eq_true_eq] at hw;exact⟨m,List.mem_of_getLast? hm,hw.1,hw.2⟩
     ·exact⟨d,by simp,Int.le_refl _,Int.le_refl _⟩
   ·exact .inr h
theorem JV : ∀ {r acc:List Ld},(YO acc r).length<=acc.length+r.length
 | [],acc=>by simp[YO]
 | e::r,acc=>by
  unfold YO;refine Nat.le_trans JV ?_;split
  ·rename_i hn
   rw[List.getLast?_eq_none_iff.1 hn];simp;omega
  ·split<;>simp<;>omega
def ZY (f:Nat->Int)(k s:Nat) : Int:=Zj ((List.range k).map fun j=>if s.testBit j=true then f j else 0)
theorem ZT (f:Nat->Int)(k s:Nat) : ZY f (k+1) s=ZY f k s+(if s.testBit k=true then f k else 0):=by
 unfold ZY;rw[List.range_succ,List.map_append,Wh];simp[Zj]
theorem WQ {f:Nat->Int}{k s t:Nat}(h:∀ j,j<k->s.testBit j=t.testBit j) : ZY f k s=ZY f k t:=by
 unfold ZY
 congr 1
 exact List.map_congr_left fun j hj=>by rw[h j (List.mem_range.1 hj)]
structure Good (k:Nat)(wf vf:Nat->Int)(cap:Int)(l:List Ld) : Prop where
 each:∀ d∈l,d.2.2<2^k/\d.1=ZY wf k d.2.2/\d.2.1=ZY vf k d.2.2/\d.1<=cap
 dom:∀ s,s<2^k->ZY wf k s<=cap->∃ d∈l,d.1<=ZY wf k s/\ZY vf k s<=d.2.1
 len:l.length<=2^k
theorem Good.start {wf vf:Nat->Int}{cap:Int}(h:0<=cap) : Good 0 wf vf cap [(0,0,0)] where
 each:=fun d hd=>by
  obtain rfl:=List.mem_singleton.1 hd;exact⟨by simp,rfl,rfl,h⟩
 dom:=fun s hs _=>⟨(0,0,0),by simp,by simp[ZY,Zj],by simp[ZY,Zj]⟩
 len:=by simp
theorem Zfy {s k:Nat}(h:s<2^k) : s.testBit k=false:=Nat.testBit_lt_two_pow h
theorem Good.step {k:Nat}{wf vf:Nat->Int}{cap:Int}{l l2:List Ld}(h:Good k wf vf cap l)(hw:0<=wf k)(hp:l2.Perm (l++Z9 l k (wf k) (vf k) cap)) : Good (k+1) wf vf cap (YO [] l2):=by
 have e2:2^(k+1)=2^k+2^k:=by rw[Nat.pow_succ];omega
 have hl:∀ d∈l,d.2.2<2^(k+1)/\d.1=ZY wf (k+1) d.2.2/\d.2.1=ZY vf (k+1) d.2.2/\d.1<=cap:=fun d hd=>by
  obtain⟨h1,h2,h3,h4⟩:=h.each d hd;rw[ZT,ZT,Zfy h1];exact⟨by omega,by simpa using h2,by simpa using h3,h4⟩
 have hb:∀ s:Nat,s<2^k->(∀ j,j<k->(s ||| 2^k).testBit j=s.testBit j)/\(s ||| 2^k).testBit k=true:=fun s _=>by
  refine⟨fun j hj=>?_,?_⟩
  ·rw[Nat.testBit_or,Nat.testBit_two_pow_of_ne (by omega),Bool.or_false]
  ·rw[Nat.testBit_or,Nat.testBit_two_pow_self,Bool.or_true]
 have hm:∀ d∈YO [] l2,d∈l\/d∈Z9 l k (wf k) (vf k) cap:=fun d hd=>by
  rcases JT hd with h1 | h1
  ·cases h1
  ·exact List.mem_append.1 (hp.mem_iff.1 h1)
 refine⟨fun d hd=>?_,fun s hs hc=>?_,?_⟩
 ·rcases hm d hd with h1 | h1
  ·exact hl d h1
  ·obtain⟨q,hq,rfl⟩:=List.mem_map.1 h1
   obtain⟨hq,hf⟩:=List.mem_filter.1 hq;obtain⟨h1,h2,h3,_⟩:=h.each q hq;obtain⟨b1,b2⟩:=hb q.2.2 h1;have hlt:q.2.2 ||| 2^k<2^(k+1):=Nat.or_lt_two_pow (by omega) (by omega)
   refine⟨hlt,?_,?_,by simpa using hf⟩
   ·show q.1+wf k=ZY wf (k+1) (q.2.2 ||| 2^k)
    rw[ZT,b2,WQ b1,if_pos rfl,h2]
   ·show q.2.1+vf k=ZY vf (k+1) (q.2.2 ||| 2^k)
    rw[ZT,b2,WQ b1,if_pos rfl,h3]
 ·have fin:∀ d:Ld,d∈l++Z9 l k (wf k) (vf k) cap->d.1<=ZY wf (k+1) s->ZY vf (k+1) s<=d.2.1->∃ d∈YO [] l2,d.1<=ZY wf (k+1) s/\ZY vf (k+1) s<=d.2.1:=fun d hd h1 h2=>by
   obtain⟨m,m1,m2,m3⟩:=JU (acc:=[]) (.inr (hp.mem_iff.2 hd));exact⟨m,m1,by omega,by omega⟩
  rw[ZT] at hc
  by_cases hk:s.testBit k=true
  ·rw[if_pos hk] at hc
   have hs':s%2^k<2^k:=Nat.mod_lt _ (Nat.two_pow_pos k);have hbits:∀ j,j<k->(s%2^k).testBit j=s.testBit j:=fun j hj=>by rw[Nat.testBit_mod_two_pow];simp[hj]
   have e3:=WQ (f:=wf) hbits;have e4:=WQ (f:=vf) hbits;obtain⟨d,d1,d2,d3⟩:=h.dom (s%2^k) hs' (by omega);refine fin (d.1+wf k,d.2.1+vf k,d.2.2 ||| 2^k) (List.mem_append_right _ (List.mem_map.2 ⟨d,List.mem_filter.2 ⟨d1,by simp;omega⟩,rfl⟩)) ?_ ?_
   ·show d.1+wf k<=_
    rw[ZT,if_pos hk];omega
   ·show _<=d.2.1+vf k
    rw[ZT,if_pos hk];omega
  ·rw[if_neg hk] at hc
   have hs2:s<2^k:=by
    refine Nat.lt_pow_two_of_testBit (n:=k) _ fun i hi=>?_
    by_cases e:i=k
    ·rw[e];simpa using hk
    ·exact Nat.testBit_lt_two_pow (Nat.lt_of_lt_of_le hs (Nat.pow_le_pow_right (by omega) (by omega)))
   obtain⟨d,d1,d2,d3⟩:=h.dom s hs2 (by omega);refine fin d (List.mem_append_left _ d1) ?_ ?_
   ·rw[ZT,if_neg hk];omega
   ·rw[ZT,if_neg hk];omega
 ·refine Nat.le_trans JV ?_
  rw[hp.length_eq,List.length_append];have:=JS l k (wf k) (vf k) cap;have:=h.len;simp;omega
def Zap : Ld->List Ld->Ld
 | t,[]=>t
 | t,d::l=>Zap (if t.2.1<d.2.1 then d else t) l
theorem ZcS : ∀ {l:List Ld} {t:Ld},t.2.1<=(Zap t l).2.1/\(∀ d∈l,d.2.1<=(Zap t l).2.1)/\(Zap t l=t\/Zap t l∈l)
 | [],t=>⟨Int.le_refl _,(fun d h=>by cases h),Or.inl rfl⟩
 | e::l,t=>by
  have ih:=ZcS (l:=l) (t:=if t.2.1<e.2.1 then e else t);unfold Zap
  by_cases h:t.2.1<e.2.1
  ·rw[if_pos h] at ih ⊢
   refine⟨by have:=ih.1;omega,fun d hd=>?_,?_⟩
   ·rcases List.mem_cons.1 hd with rfl | hd
    ·exact ih.1
    ·exact ih.2.1 d hd
   ·rcases ih.2.2 with h2 | h2
    ·right
     rw[h2];simp
    ·exact .inr (List.mem_cons_of_mem _ h2)
  ·rw[if_neg h] at ih ⊢
   refine⟨ih.1,fun d hd=>?_,?_⟩
   ·rcases List.mem_cons.1 hd with rfl | hd
    ·have:=ih.1
     omega
    ·exact ih.2.1 d hd
   ·rcases ih.2.2 with h2 | h2
    ·exact .inl h2
    ·exact .inr (List.mem_cons_of_mem _ h2)
def xB (m n:Nat) : List Int:=(List.range n).map fun j=>if m.testBit j=true then 1 else 0
theorem WR (m n:Nat) : (xB m n).length=n:=by simp[xB]
theorem Zcd {m n j:Nat}(h:j<n) : (xB m n)[j]?=some (if m.testBit j=true then 1 else 0):=by
 rw[xB,List.getElem?_map,List.getElem?_range h]
 rfl
def Y5 (f:Nat->Int)(k s:Nat) : Int:=Zj ((List.range k).map fun j=>if s.testBit j=true then 0 else f j)
theorem UZ (f:Nat->Int)(k s:Nat) : Y5 f (k+1) s=Y5 f k s+(if s.testBit k=true then 0 else f k):=by
 unfold Y5;rw[List.range_succ,List.map_append,Wh];simp[Zj]
theorem Uy {f:Nat->Int}{n:Nat}(hf:∀ j,j<n->0<=f j/\f j<=2147483647)(s:Nat) : ∀ k,k<=n->(0<=ZY f k s/\ZY f k s<=k*2147483647)/\(0<=Y5 f k s/\Y5 f k s<=k*2147483647)
 | 0,_=>by simp[ZY,Y5,Zj]
 | k+1,h=>by
  have ih:=Uy hf s k (by omega);have h1:=hf k (by omega);rw[ZT,UZ];split<;>omega
theorem Jb (f:Nat->Int)(s:Nat) : ∀ k,ZY f k s+Y5 f k s=Zj ((List.range k).map f)
 | 0=>rfl
 | k+1=>by
  have ih:=Jb f s k;rw[ZT,UZ,List.range_succ,List.map_append,Wh];simp only[List.map_cons,List.map_nil,Zj];split<;>omega
def atF (xs:List Int)(j:Nat) : Int:=xs.getD j 0
theorem U0 {xs:List Int}(h:Small31 xs)(j:Nat) : 0<=atF xs j/\atF xs j<=2147483647:=by
 unfold atF
 cases e:xs[j]? with
 | none=>simp[List.getD,e]
 | some x =>
  rw[getD_some e];exact h.get e
theorem ZdG (i:InstP)(us:List Value)(P:Option Addr)(c m n:Nat)(w:World)(H:RInst w us i)(hc:Zf i=0)(hk:i.kind=1)(hn:i.n=n)(hP:RdI w P (xB m n))(hcap:ZY (atF i.weight) n m<=i.cap) :
  Calls Tryz.prog 78 #[.agg (List.toArray us),.slice P n c] w fun e w'=>e=.returned (.tuple #[.int .i64 (Y5 (atF i.value) n m),.int .i64 0])/\Ext w w':=by
 have ok:=ZD hc hk;have okw:=ok.w;have okv:=ok.v;have okn:=ok.n2;have okc:=ok.cap;have BW:=Uy (f:=atF i.weight) (n:=n) (fun j _=>U0 ok.sw j) m;have BV:=Uy (f:=atF i.value) (n:=n) (fun j _=>U0 ok.sv j) m;obtain⟨kind,nn,cap,xw,xv,co⟩:=i;obtain⟨A,a,B,b,D,d,rfl,⟨rA,-⟩,⟨rB,-⟩,-⟩:=H;simp only at *;subst hk hn;have lw:xw.length=n:=by omega
 have lv:xv.length=n:=by omega
 rw[lw,lv];have GW:∀ j,j<n->∃ b' o',A=some ⟨b',o',none⟩/\b'<w.heap.size/\w.cell? ⟨b',o'+j,none⟩=some (.int .i64 (atF xw j)):=fun j hj=>by
  obtain⟨b',o',x,h1,h2,h3,h4,_⟩:=rA.at (k:=j) (by omega);exact⟨b',o',h1,h2,by rw[h3];unfold atF;rw[getD_some h4.out]⟩
 have GV:∀ j,j<n->∃ b' o',B=some ⟨b',o',none⟩/\b'<w.heap.size/\w.cell? ⟨b',o'+j,none⟩=some (.int .i64 (atF xv j)):=fun j hj=>by
  obtain⟨b',o',x,h1,h2,h3,h4,_⟩:=rB.at (k:=j) (by omega);exact⟨b',o',h1,h2,by rw[h3];unfold atF;rw[getD_some h4.out]⟩
 have B1:Hid (Blk (w.alloc (.cells #[.int .i64 1,.int .i64 n,.int .i64 cap,.slice A n a,.slice B n b,.slice D co.length d] 25)) w.heap.size 25 #[.int .i64 1,.int .i64 n,.int .i64 cap,.slice A n a,.slice B n b,.slice D co.length d]):=.new rfl;have X0:Hid (Ext w (w.alloc (.cells #[.int .i64 1,.int .i64 n,.int .i64 cap,.slice A n a,.slice B n b,.slice D co.length d] 25))):=(Ext.rf _).alloc _;replace GW:=Hd GW;replace GV:=Hd GV;replace BW:=Hd BW;replace BV:=Hd BV;replace hP:=Hd hP;replace hcap:=Hd hcap;have nn0:((n:Int) != (n:Int))=false:=by simp
 clear hc ok rA rB okw okv lw lv;go_enter Tryz.func78,Tryz.ntmps78;go_wp2_with (fail);go_loopw [6,7,17] (fun v6 v7 v17 wr=>∃ k:Nat,v6=.int .i64 (ZY (atF xw) k m)/\v7=.int .i64 (Y5 (atF xv) k m)/\v17=.int .i64 k/\k<=n/\Hid (Ext (w.alloc (.cells #[.int .i64 1,.int .i64 n,.int .i64 cap,.slice A n a,.slice B n b,.slice D co.length d] 25)) wr)) (fun _ _ v17 _=>n-(intOf v17).toNat)
 case atStart=>exact⟨0,rfl,rfl,rfl,by omega,Ext.rf _⟩
 case round =>
  obtain⟨wo,rfl⟩:∃ wo:World,wo=wr:=⟨_,rfl⟩;obtain⟨k,rfl,rfl,rfl,hk,X⟩:=hrel;have XW:=X0.out.tr X.out;have b1:=B1.out.ext X.out;have bw:=BW.out k hk;have bv:=BV.out k hk
  by_cases hlt:k<n
  ·obtain⟨b1',o1,rfl,z1,c1⟩:=GW.out k hlt
   obtain⟨b2',o2,rfl,z2,c2⟩:=GV.out k hlt;have k1:=Zh XW z1 c1;have k2:=Zh XW z2 c2;obtain⟨pb,po,x,rfl,_,cp,ex,_⟩:=(hP.out.ext XW).at (k:=k) (by rw[WR];exact hlt);have t3:=b1.c3;have t4:=b1.c4;have e1:=ZT (atF xw) k m;have e2:=UZ (atF xv) k m;have ex':=ex.out;rw[Zcd hlt] at ex';have q1:(k:Int)<(n:Int):=by omega
   have b3:=BW.out (k+1) (by omega);have b4:=BV.out (k+1) (by omega)
   cases hb:m.testBit k
   ·rw[hb] at ex' e1 e2
    simp only[Bool.false_eq_true,if_false,Int.add_zero] at ex' e1 e2;obtain rfl:x=0:=(Option.some.inj ex').symm;have HB:Hid (ZY (atF xw) (k+1) m=ZY (atF xw) k m/\Y5 (atF xv) (k+1) m=Y5 (atF xv) k m+atF xv k):=⟨e1,e2⟩;rw[e2] at b4;clear e1 e2 ex ex' b1 XW b3;generalize ZY (atF xw) k m=sw at *;generalize Y5 (atF xv) k m=sv at *;generalize atF xv k=fv at *;have wv:IntKind.i64.wrap (sv+fv)=sv+fv:=IntWalk.i64_in _ (by omega);go_wp2_with (fail);go_roundw
    case rel=>exact⟨k+1,by rw[HB.out.1],by rw[HB.out.2],by go_num,by omega,X.out.tr (by(repeat (first | assumption | exact Ext.rf _ | apply Ext.drew | apply Ext.drewN | apply Ext.alloc)))⟩
    case measure=>simp[intOf];omega
   ·rw[hb] at ex' e1 e2
    simp only[if_true,Int.add_zero] at ex' e1 e2;obtain rfl:x=1:=(Option.some.inj ex').symm;have HB:Hid (ZY (atF xw) (k+1) m=ZY (atF xw) k m+atF xw k/\Y5 (atF xv) (k+1) m=Y5 (atF xv) k m):=⟨e1,e2⟩;rw[e1] at b3;clear e1 e2 ex ex' b1 XW b4;generalize ZY (atF xw) k m=sw at *;generalize Y5 (atF xv) k m=sv at *;generalize atF xw k=fv at *;have wv:IntKind.i64.wrap (sw+fv)=sw+fv:=IntWalk.i64_in _ (by omega);go_wp2_with (fail);go_roundw
    case rel=>exact⟨k+1,by rw[HB.out.1],by rw[HB.out.2],by go_num,by omega,X.out.tr (by(repeat (first | assumption | exact Ext.rf _ | apply Ext.drew | apply Ext.drewN | apply Ext.alloc)))⟩
    case measure=>simp[intOf];omega
  ·obtain rfl:n=k:=by omega
   have t2:=b1.c2;have hq:¬cap<ZY (atF xw) n m:=by have:=hcap.out;omega
   replace XW:=Hd XW;clear b1 bw bv;go_wp2_with (fail);go_ret2;exact⟨rfl,XW.out.tr (by(repeat (first | assumption | exact Ext.rf _ | apply Ext.drew | apply Ext.drewN | apply Ext.alloc)))⟩
theorem Zce (i:InstP)(us:List Value)(P:Option Addr)(c m n:Nat)(w:World)(H:RInst w us i)(hc:Zf i=0)(hk:i.kind=1)(hn:i.n=n)(hP:RdI w P (xB m n))(hcap:ZY (atF i.weight) n m<=i.cap) :
  Calls Tryz.prog 41 #[.agg (List.toArray us),.slice P n c] w fun e w'=>e=.returned (.tuple #[.int .i64 (Y5 (atF i.value) n m),.int .i64 0])/\Ext w w':=by
 have ok:=ZD hc hk;have CH:=fun(W:World) (x:Ext w W)=>ZC i us W (H.ext x) (by have:=ok.w;have:=ok.n2;omega) (by have:=ok.v;have:=ok.n2;omega)
 have VK:=fun(W:World) (x:Ext w W)=>ZdG i us P c m n W (H.ext x) hc hk hn (hP.ext x) hcap
 rw[hc] at CH;clear ok hcap hP hc;obtain⟨kind,nn,cap,xw,xv,co⟩:=i;obtain⟨A,a,B,b,D,d,rfl,-,-,-⟩:=H;simp only at *;subst hk hn;generalize Y5 (atF xv) n m=sv at *;have B1:Hid (Blk (w.alloc (.cells #[.int .i64 1,.int .i64 n,.int .i64 cap,.slice A xw.length a,.slice B xv.length b,.slice D co.length d] 25)) w.heap.size 25 #[.int .i64 1,.int .i64 n,.int .i64 cap,.slice A xw.length a,.slice B xv.length b,.slice D co.length d]):=.new rfl;replace CH:=Hd CH;replace VK:=Hd VK;go_enter Tryz.func41,Tryz.ntmps41;go_wp2_with (fail);refine(CH.out _ (by(repeat (first | assumption | exact Ext.rf _ | apply Ext.drew | apply Ext.drewN | apply Ext.alloc)))).mono ?_;rintro e w1 ⟨rfl,x1⟩;have X1:=Hd (Ext.tr (a:=w) (by(repeat (first | assumption | exact Ext.rf _ | apply Ext.drew | apply Ext.drewN | apply Ext.alloc))) x1);have b1:=B1.out.ext x1;have t0:=b1.c0;have t1:=b1.c1;have t2:=b1.c2;have t3:=b1.c3;have t4:=b1.c4;have t5:=b1.c5;clear x1 B1 b1;go_wp2_with (fail);refine(VK.out _ X1.out).mono ?_;rintro e w2 ⟨rfl,x2⟩;have X2:=Hd (X1.out.tr x2);clear x2 t0 t1 t2 t3 t4 t5;go_wp2_with (fail);go_ret2;exact⟨rfl,X2.out.tr (by(repeat (first | assumption | exact Ext.rf _ | apply Ext.drew | apply Ext.drewN | apply Ext.alloc)))⟩
theorem Zcf (i:InstP)(us:List Value)(w:World)(H:RInst w us i)(hc:Zf i=0)(hk:i.kind=1)(hn:i.n<=18) :
  Calls Tryz.prog 80 #[.agg (List.toArray us),.int .i64 1] w fun e w'=>e=.returned (.int .i64 0)/\Ext w w':=by
 have ok:=ZD hc hk;have CH:=fun(W:World) (x:Ext w W)=>ZC i us W (H.ext x) (by have:=ok.w;have:=ok.n2;omega) (by have:=ok.v;have:=ok.n2;omega)
 rw[hc] at CH;clear ok hc;obtain⟨kind,nn,cap,xw,xv,co⟩:=i;obtain⟨A,a,B,b,D,d,rfl,-,-,-⟩:=H;simp only at *;subst hk;have B1:Hid (Blk (w.alloc (.cells #[.int .i64 1,.int .i64 nn,.int .i64 cap,.slice A xw.length a,.slice B xv.length b,.slice D co.length d] 25)) w.heap.size 25 #[.int .i64 1,.int .i64 nn,.int .i64 cap,.slice A xw.length a,.slice B xv.length b,.slice D co.length d]):=.new rfl;replace CH:=Hd CH;have hq:¬18<nn:=by omega
 go_enter Tryz.func80,Tryz.ntmps80;go_wp2_with (fail);refine(CH.out _ (by(repeat (first | assumption | exact Ext.rf _ | apply Ext.drew | apply Ext.drewN | apply Ext.alloc)))).mono ?_;rintro e w1 ⟨rfl,x1⟩;have X1:=Hd (Ext.tr (a:=w) (by(repeat (first | assumption | exact Ext.rf _ | apply Ext.drew | apply Ext.drewN | apply Ext.alloc))) x1);have b1:=Hd (B1.out.ext x1);have t0:=b1.out.c0;have t1:=b1.out.c1;clear x1 B1;go_wp2_with (fail);go_ret;exact⟨rfl,X1.out.tr (by(repeat (first | assumption | exact Ext.rf _ | apply Ext.drew | apply Ext.drewN | apply Ext.alloc)))⟩
theorem ZdH (i:InstP)(us:List Value)(P:Option Addr)(c m n:Nat)(w:World)(H:RInst w us i)(hc:Zf i=0)(hk:i.kind=1)(hn:i.n=n)(hP:RdI w P (xB m n))(hcap:ZY (atF i.weight) n m<=i.cap) :
  Calls Tryz.prog 83 #[.agg (List.toArray us),.slice P n c] w fun e w'=>e=.returned (.tuple #[.slice P n c,.int .i64 (Y5 (atF i.value) n m),.int .i64 0])/\Ext w w':=by
 have VC:=fun(W:World) (x:Ext w W)=>Zce i us P c m n W (H.ext x) hc hk hn (hP.ext x) hcap
 obtain⟨kind,nn,cap,xw,xv,co⟩:=i;obtain⟨A,a,B,b,D,d,rfl,-,-,-⟩:=H;simp only at *;subst hn;generalize Y5 (atF xv) n m=cc at *;replace VC:=Hd VC;clear hc hk hP hcap;go_enter Tryz.func83,Tryz.ntmps83;go_wp2_with (fail);refine(VC.out _ (by(repeat (first | assumption | exact Ext.rf _ | apply Ext.drew | apply Ext.drewN | apply Ext.alloc)))).mono ?_;rintro e w1 ⟨rfl,x1⟩;have X1:=Hd (Ext.tr (a:=w) (by(repeat (first | assumption | exact Ext.rf _ | apply Ext.drew | apply Ext.drewN | apply Ext.alloc))) x1);clear x1;go_wp2_with (fail);go_ret3;exact⟨rfl,X1.out.tr (by(repeat (first | assumption | exact Ext.rf _ | apply Ext.drew | apply Ext.drewN | apply Ext.alloc)))⟩
theorem ZdI (i:InstP)(us:List Value)(P:Option Addr)(c:Nat)(x:List Int)(w:World)(H:RInst w us i)(hc:Zf i=0)(hk:i.kind=1)(hP:RdI w P x)(lx:(x.length:Int)=i.n) :
  Calls Tryz.prog 78 #[.agg (List.toArray us),.slice P x.length c] w fun e w'=>e=.returned (.tuple #[.int .i64 (if ∀ v∈x,v=0\/v=1 then Xp i.cap i.weight i.value x else(0,1)).1,.int .i64 (if ∀ v∈x,v=0\/v=1 then Xp i.cap i.weight i.value x else(0,1)).2])/\Ext w w':=by
 have ok:=ZD hc hk;have k1:=ok.n1;have k2:=ok.n2;have k3:=ok.w;have k4:=ok.v;have k5:=ok.cap;have k6:=Hd ok.sw;have k7:=Hd ok.sv;clear ok hc;obtain⟨kind,nn,cap,xw,xv,co⟩:=i;obtain⟨A,a,B,b,D,d,rfl,⟨rA,iA,lA,mA⟩,⟨rB,iB,lB,mB⟩,-⟩:=H;simp only at *;subst hk;obtain⟨n,rfl⟩:∃ n:Nat,nn=(n:Int):=⟨nn.toNat,by omega⟩;have lxn:x.length=n:=by omega
 have lwn:xw.length=n:=by omega
 have lvn:xv.length=n:=by omega
 have hn2:n<=64:=by omega
 replace lwn:=Hd lwn;replace lvn:=Hd lvn;replace lxn:=Hd lxn;clear lx k3 k4;have W1:∀ k v u,x[k]?=some v->xw[k]?=some u->Zw (x.take (k+1)) xw=Zw (x.take k) xw+if v=1 then u else 0:=fun k v u h1 h2=>W4 _ k x xw h1 h2
 have V1:∀ k v u,x[k]?=some v->xv[k]?=some u->ZI (x.take (k+1)) xv=ZI (x.take k) xv+if v=1 then 0 else u:=fun k v u h1 h2=>W4 _ k x xv h1 h2
 replace W1:=Hd W1;replace V1:=Hd V1;replace rA:=Hd rA;replace rB:=Hd rB;replace hP:=Hd hP;replace mA:=Hd mA;replace mB:=Hd mB;replace iA:=Hd iA;replace iB:=Hd iB;have B1:Hid (Blk (w.alloc (.cells #[.int .i64 1,.int .i64 n,.int .i64 cap,.slice A xw.length a,.slice B xv.length b,.slice D co.length d] 25)) w.heap.size 25 #[.int .i64 1,.int .i64 n,.int .i64 cap,.slice A xw.length a,.slice B xv.length b,.slice D co.length d]):=.new rfl;have lz:=List.take_length (l:=x);have bW:∀ k,k<=n->0<=Zw (x.take k) xw/\Zw (x.take k) xw<=2147483647*(k:Int):=by
  intro k
  induction k with
  | zero=>intro _;simp[Zw,Zj]
  | succ k ih =>
   intro hk;have h0:=ih (by omega);have h8:k<x.length:=by rw[lxn.out];omega
   have e1:x[k]?=some x[k]:=List.getElem?_eq_getElem h8;have h9:k<xw.length:=by rw[lwn.out];omega
   have e2:xw[k]?=some xw[k]:=List.getElem?_eq_getElem h9;have h1:=W1.out k _ _ e1 e2;have h2:=k6.out.get e2;rw[h1];split<;>omega
 have bV:∀ k,k<=n->0<=ZI (x.take k) xv/\ZI (x.take k) xv<=2147483647*(k:Int):=by
  intro k
  induction k with
  | zero=>intro _;simp[ZI,Zj]
  | succ k ih =>
   intro hk;have h0:=ih (by omega);have h8:k<x.length:=by rw[lxn.out];omega
   have e1:x[k]?=some x[k]:=List.getElem?_eq_getElem h8;have h9:k<xv.length:=by rw[lvn.out];omega
   have e2:xv[k]?=some xv[k]:=List.getElem?_eq_getElem h9;have h1:=V1.out k _ _ e1 e2;have h2:=k7.out.get e2;rw[h1];split<;>omega
 replace bW:=Hd bW;replace bV:=Hd bV;clear lz;have BAD:Hid (∀ y,y∈x->¬(y=0\/y=1)->(if ∀ v∈x,v=0\/v=1 then Xp cap xw xv x else(0,1))=(0,1)):=fun y hy h=>if_neg fun h9=>h (h9 y hy)
 have YES:Hid ((∀ v∈x,v=0\/v=1)->(if ∀ v∈x,v=0\/v=1 then Xp cap xw xv x else(0,1))=if cap<Zw x xw then(0,9) else(ZI x xv,0)):=fun h=>if_pos h
 generalize (if ∀ v∈x,v=0\/v=1 then Xp cap xw xv x else(0,1))=res at *;have exn:(x.length:Int)=(n:Int):=by rw[lxn.out]
 have ne0:((n:Int) != (n:Int))=false:=by simp
 rw[lxn.out];have X1:Hid (Ext w (w.alloc (.cells #[.int .i64 1,.int .i64 n,.int .i64 cap,.slice A xw.length a,.slice B xv.length b,.slice D co.length d] 25))):=(Ext.rf _).alloc _;go_enter Tryz.func78,Tryz.ntmps78;go_wp2_with (fail);go_loopw [6,7,17] (fun v6 v7 i wr=>∃ k:Nat,i=.int .i64 k/\v6=.int .i64 (Zw (x.take k) xw)/\v7=.int .i64 (ZI (x.take k) xv)/\k<=n/\Hid (∀ j y,j<k->x[j]?=some y->y=0\/y=1)/\Ext (w.alloc (.cells #[.int .i64 1,.int .i64 n,.int .i64 cap,.slice A xw.length a,.slice B xv.length b,.slice D co.length d] 25)) wr) (fun _ _ i _=>n-(intOf i).toNat)
 case atStart=>exact⟨0,rfl,rfl,rfl,by omega,(fun j y h=>by omega),Ext.rf _⟩
 case round =>
  obtain⟨wo,rfl⟩:∃ wo:World,wo=wr:=⟨_,rfl⟩;obtain⟨k,rfl,rfl,rfl,hk,HG,Y⟩:=hrel;have BB:=B1.out.ext Y;have t2:=BB.c2;have t3:=BB.c3;have t4:=BB.c4;clear BB;obtain⟨tw1,tw2⟩:=bW.out k hk;obtain⟨tv1,tv2⟩:=bV.out k hk
  by_cases hlt:k<n
  ·obtain⟨pb,po,y,rfl,zy,cy,ey,_⟩:=(hP.out.ext (X1.out.tr Y)).at (k:=k) (by rw[lxn.out];exact hlt)
   obtain⟨ab,ao,u,rfl,zu,cu,eu,_⟩:=(rA.out.ext (X1.out.tr Y)).at (k:=k) (by rw[lwn.out];exact hlt);obtain⟨vb,vo,v,rfl,zv,cv,ev,_⟩:=(rB.out.ext (X1.out.tr Y)).at (k:=k) (by rw[lvn.out];exact hlt);have sW:=Hd (W1.out k y u ey.out eu.out);have sV:=Hd (V1.out k y v ey.out ev.out);have bu:=k6.out.get eu.out;have bv:=k7.out.get ev.out;have q1:(k:Int)<(n:Int):=by omega
   have q2:(k:Int)<(xw.length:Int):=by rw[lwn.out];omega
   have q3:(k:Int)<(xv.length:Int):=by rw[lvn.out];omega
   have HGN:Hid ((y=0\/y=1)->∀ j y',j<k+1->x[j]?=some y'->y'=0\/y'=1):=fun hy j y' hj e=>by
    by_cases ej:j=k
    ·subst ej
     rw[ey.out] at e;obtain rfl:=Option.some.inj e;exact hy
    ·exact HG.out j y' (by omega) e
   obtain⟨tw,htw⟩:∃ tw,tw=Zw (x.take k) xw:=⟨_,rfl⟩;obtain⟨tv,htv⟩:∃ tv,tv=ZI (x.take k) xv:=⟨_,rfl⟩;rw[<-htw] at tw1 tw2 sW ⊢;rw[<-htv] at tv1 tv2 sV ⊢;have ymem:y∈x:=List.mem_of_getElem? ey.out;have BADY:=Hd (BAD.out y ymem);clear ey eu ev htw htv ymem
   by_cases y1:y=1
   ·subst y1
    have sW2:Hid (Zw (x.take (k+1)) xw=tw+u):=by
     have h:=sW.out;rw[if_pos rfl] at h;exact h
    have sV2:Hid (ZI (x.take (k+1)) xv=tv):=by
     have h:=sV.out;rw[if_pos rfl,Int.add_zero] at h;exact h
    have HN:=Hd (HGN.out (.inr rfl));clear sW sV HGN;have w1':IntKind.i64.wrap (tw+u)=tw+u:=IntWalk.i64_in _ (by omega);go_wp2_with (go_quiet (fail));go_roundw
    case rel=>exact⟨k+1,by go_num,by rw[sW2.out],by rw[sV2.out],by omega,HN.out,by repeat (first | exact Y | apply Ext.drewN)⟩
    case measure=>simp[intOf];omega
   by_cases y0:y=0
   ·subst y0
    have sW2:Hid (Zw (x.take (k+1)) xw=tw):=by
     have h:=sW.out;rw[if_neg (by decide),Int.add_zero] at h;exact h
    have sV2:Hid (ZI (x.take (k+1)) xv=tv+v):=by
     have h:=sV.out;rw[if_neg (by decide)] at h;exact h
    have HN:=Hd (HGN.out (.inl rfl));clear sW sV HGN y1;have w1':IntKind.i64.wrap (tv+v)=tv+v:=IntWalk.i64_in _ (by omega);go_wp2_with (go_quiet (fail));go_roundw
    case rel=>exact⟨k+1,by go_num,by rw[sW2.out],by rw[sV2.out],by omega,HN.out,by repeat (first | exact Y | apply Ext.drewN)⟩
    case measure=>simp[intOf];omega
   ·have e0:(y==0)=false:=by simpa using y0
    have e1:(y==1)=false:=by simpa using y1
    have hr:=Hd (BADY.out (by omega));clear sW sV HGN;go_wp2_with (fail);go_ret2;exact⟨by rw[hr.out];rfl,X1.out.tr Y⟩
  ·obtain rfl:k=n:=by omega
   have HX:=YES.out (fun y hy=>by
    obtain⟨j,hj,rfl⟩:=List.mem_iff_getElem.1 hy;exact HG.out j _ (by rw[lxn.out] at hj;omega) (List.getElem?_eq_getElem hj))
   have lz:x.take k=x:=List.take_of_length_le (by rw[lxn.out];omega);rw[lz] at tw1 tw2 tv1 tv2 ⊢;replace HX:=Hd HX;clear lz;generalize Zw x xw=tw at *;generalize ZI x xv=tv at *
   by_cases hcap:cap<tw
   ·have hr:Hid (res=(0,9)):=by
     have h:res=(0,9):=by rw[HX.out,if_pos hcap]
     exact h
    go_wp2_with (fail);go_ret2;exact⟨by rw[hr.out];rfl,X1.out.tr Y⟩
   ·have hr:Hid (res=(tv,0)):=by
     have h:res=(tv,0):=by rw[HX.out,if_neg hcap]
     exact h
    go_wp2_with (fail);go_ret2;exact⟨by rw[hr.out];rfl,X1.out.tr Y⟩
theorem ZdJ (i:InstP)(us:List Value)(P:Option Addr)(c m:Nat)(w:World)(H:RInst w us i)(hm:(m:Int)≠i.n) :
  Calls Tryz.prog 78 #[.agg (List.toArray us),.slice P m c] w fun e w'=>e=.returned (.tuple #[.int .i64 0,.int .i64 1])/\Ext w w':=by
 obtain⟨kind,nn,cap,xw,xv,co⟩:=i;obtain⟨A,a,B,b,D,d,rfl,-,-,-⟩:=H;simp only at *;have e1:((m:Int) != nn)=true:=by simpa using hm
 clear hm;go_enter Tryz.func78,Tryz.ntmps78;go_wp2_with (fail);go_ret2;exact⟨rfl,by(repeat (first | assumption | exact Ext.rf _ | apply Ext.drew | apply Ext.drewN | apply Ext.alloc))⟩
theorem Zcg (i:InstP)(us:List Value)(P:Option Addr)(c:Nat)(x:List Int)(w:World)(H:RInst w us i)(hc:Zf i=0)(hk:i.kind=1)(hP:RdI w P x) :
  Calls Tryz.prog 41 #[.agg (List.toArray us),.slice P x.length c] w fun e w'=>e=.returned (.tuple #[.int .i64 (if (x.length:Int)=i.n/\∀ v∈x,v=0\/v=1 then Xp i.cap i.weight i.value x else(0,1)).1,.int .i64 (if (x.length:Int)=i.n/\∀ v∈x,v=0\/v=1 then Xp i.cap i.weight i.value x else(0,1)).2])/\Ext w w':=by
 have ok:=ZD hc hk;have CH:=fun(W:World) (x:Ext w W)=>ZC i us W (H.ext x) (by have:=ok.w;have:=ok.n2;omega) (by have:=ok.v;have:=ok.n2;omega)
 have VK:∀ (W:World),Ext w W->Calls Tryz.prog 78 #[.agg (List.toArray us),.slice P x.length c] W fun e w'=>e=.returned (.tuple #[.int .i64 (if (x.length:Int)=i.n/\∀ v∈x,v=0\/v=1 then Xp i.cap i.weight i.value x else(0,1)).1,.int .i64 (if (x.length:Int)=i.n/\∀ v∈x,v=0\/v=1 then Xp i.cap i.weight i.value x else(0,1)).2])/\Ext W w':=fun W y=>by
  by_cases hl:(x.length:Int)=i.n
  ·have e:(if (x.length:Int)=i.n/\∀ v∈x,v=0\/v=1 then Xp i.cap i.weight i.value x else(0,1))=if ∀ v∈x,v=0\/v=1 then Xp i.cap i.weight i.value x else(0,1):=by
    simp[hl]
   rw[e];exact ZdI i us P c x W (H.ext y) hc hk (hP.ext y) hl
  ·rw[if_neg (fun h=>hl h.1)]
   exact ZdJ i us P c x.length W (H.ext y) hl
 rw[hc] at CH;clear ok hP hc;obtain⟨kind,nn,cap,xw,xv,co⟩:=i;obtain⟨A,a,B,b,D,d,rfl,-,-,-⟩:=H;simp only at *;subst hk;generalize (if (x.length:Int)=nn/\∀ v∈x,v=0\/v=1 then Xp cap xw xv x else(0,1))=res at *;have B1:Hid (Blk (w.alloc (.cells #[.int .i64 1,.int .i64 nn,.int .i64 cap,.slice A xw.length a,.slice B xv.length b,.slice D co.length d] 25)) w.heap.size 25 #[.int .i64 1,.int .i64 nn,.int .i64 cap,.slice A xw.length a,.slice B xv.length b,.slice D co.length d]):=.new rfl;replace CH:=Hd CH;replace VK:=Hd VK;go_enter Tryz.func41,Tryz.ntmps41;go_wp2_with (fail);refine(CH.out _ (by(repeat (first | assumption | exact Ext.rf _ | apply Ext.drew | apply Ext.drewN | apply Ext.alloc)))).mono ?_;rintro e w1 ⟨rfl,x1⟩;have X1:=Hd (Ext.tr (a:=w) (by(repeat (first | assumption | exact Ext.rf _ | apply Ext.drew | apply Ext.drewN | apply Ext.alloc))) x1);have b1:=B1.out.ext x1;have t0:=b1.c0;have t1:=b1.c1;have t2:=b1.c2;have t3:=b1.c3;have t4:=b1.c4;have t5:=b1.c5;clear x1 B1 b1;go_wp2_with (fail);refine(VK.out _ X1.out).mono ?_;rintro e w2 ⟨rfl,x2⟩;have X2:=Hd (X1.out.tr x2);clear x2 t0 t1 t2 t3 t4 t5;go_wp2_with (fail);go_ret2;exact⟨rfl,X2.out.tr (by(repeat (first | assumption | exact Ext.rf _ | apply Ext.drew | apply Ext.drewN | apply Ext.alloc)))⟩
theorem ZdK (i:InstP)(us:List Value)(X:Value)(w:World)(H:RInst w us i)(hc:Zf i≠0)(hlw:i.weight.length<=maxLen)(hlv:i.value.length<=maxLen)(hls:i.weight.length+i.value.length<=maxLen) :
  Calls Tryz.prog 41 #[.agg (List.toArray us),X] w fun e w'=>e=.returned (.tuple #[.int .i64 0,.int .i64 (Zf i)])/\Ext w w':=by
 have CH:=fun(W:World) (x:Ext w W)=>UX i us W (H.ext x) hlw hlv hls
 generalize Zf i=cc at *;have e1:(cc != 0)=true:=by simpa using hc
 obtain⟨kind,nn,cap,xw,xv,co⟩:=i;obtain⟨A,a,B,b,D,d,rfl,-,-,-⟩:=H;simp only at *;replace CH:=Hd CH;clear hc hlw hlv hls;go_enter Tryz.func41,Tryz.ntmps41;go_wp2_with (fail);refine(CH.out _ (by(repeat (first | assumption | exact Ext.rf _ | apply Ext.drew | apply Ext.drewN | apply Ext.alloc)))).mono ?_;rintro e w1 ⟨rfl,x1⟩;have X1:=Hd (Ext.tr (a:=w) (by(repeat (first | assumption | exact Ext.rf _ | apply Ext.drew | apply Ext.drewN | apply Ext.alloc))) x1);clear x1;go_wp2_with (fail);go_ret2;exact⟨rfl,X1.out⟩
theorem Jc (i:InstP)(us:List Value)(P:Option Addr)(c:Nat)(x:List Int)(w:World)(H:RInst w us i)(hc:Zf i=0)(hk:i.kind≠1)(hP:RdI w P x)(hx:x.length<=1000)(hno:Wa x i.cost.length=false\/Wa x i.cost.length=true/\i.kind=3/\x[0]?≠some 0) :
  Calls Tryz.prog 41 #[.agg (List.toArray us),.slice P x.length c] w fun e w'=>e=.returned (.tuple #[.int .i64 0,.int .i64 1])/\Ext w w':=by
 have sq:=Zo hc hk;have CH:=fun(W:World) (x:Ext w W)=>ZC i us W (H.ext x) (by rw[sq.w];simp) (by rw[sq.v];simp)
 rw[hc] at CH;have rok:=ZF sq;have n1:=rok.n1;have hin:i.n=(i.cost.length:Int):=sq.len.symm;have PG:=fun(W:World) (y:Ext w W)=>ZdE P c i.cost.length x hx (by have:=rok.n2;omega) W (hP.ext y)
 have LX:Wa x i.cost.length=true->x.length=i.cost.length:=fun h=>by
  obtain⟨l,rfl,hl⟩:=Yj.1 h;rw[Zm,hl.length_eq,List.length_range]
 clear sq rok;obtain⟨kind,nn,cap,xw,xv,co⟩:=i;obtain⟨A,a,B,b,D,d,rfl,-,-,-⟩:=H;simp only at *;subst hin;have e1:(kind==1)=false:=by simpa using hk
 have B1:Hid (Blk (w.alloc (.cells #[.int .i64 kind,.int .i64 co.length,.int .i64 cap,.slice A xw.length a,.slice B xv.length b,.slice D co.length d] 25)) w.heap.size 25 #[.int .i64 kind,.int .i64 co.length,.int .i64 cap,.slice A xw.length a,.slice B xv.length b,.slice D co.length d]):=.new rfl;replace CH:=Hd CH;replace PG:=Hd PG;replace hP:=Hd hP;replace LX:=Hd LX;clear hc;go_enter Tryz.func41,Tryz.ntmps41;go_wp2_with (fail);refine(CH.out _ (by(repeat (first | assumption | exact Ext.rf _ | apply Ext.drew | apply Ext.drewN | apply Ext.alloc)))).mono ?_;rintro e w1 ⟨rfl,x1⟩;have X1:=Hd (Ext.tr (a:=w) (by(repeat (first | assumption | exact Ext.rf _ | apply Ext.drew | apply Ext.drewN | apply Ext.alloc))) x1);have BB:=Hd (B1.out.ext x1);have d0:=BB.out.c0;have d1:=BB.out.c1;clear x1;rcases hno with hno | ⟨hyes,hk3,hx0⟩
 ·rw[hno] at PG
  go_wp2_with (fail);refine(PG.out _ (X1.out.tr (by(repeat (first | assumption | exact Ext.rf _ | apply Ext.drew | apply Ext.drewN | apply Ext.alloc))))).mono ?_;rintro e w2 ⟨rfl,x2⟩;have X2:=Hd (X1.out.tr (Ext.tr (by(repeat (first | assumption | exact Ext.rf _ | apply Ext.drew | apply Ext.drewN | apply Ext.alloc))) x2));clear x2;go_wp2_with (fail);go_ret2;exact⟨rfl,X2.out⟩
 ·have hl:=LX.out hyes
  obtain⟨pb,po,x0,rfl,zp0,cp0,ep0,_⟩:=hP.out.at (k:=0) (by omega);have e0:(x0 != 0)=true:=by
   rw[bne_iff_ne];rintro rfl;exact hx0 ep0.out
  replace cp0:w.cell? ⟨pb,po,none⟩=some (.int .i64 x0):=cp0;have e3:(kind==3)=true:=by simpa using hk3
  have q0:(0:Int)<(x.length:Int):=by omega
  rw[hyes] at PG;replace hk3:=Hd hk3;replace hl:=Hd hl;clear hx0 ep0;go_wp2_with (fail);refine(PG.out _ (X1.out.tr (by(repeat (first | assumption | exact Ext.rf _ | apply Ext.drew | apply Ext.drewN | apply Ext.alloc))))).mono ?_;rintro e w2 ⟨rfl,x2⟩;have X2:=Hd (X1.out.tr (Ext.tr (by(repeat (first | assumption | exact Ext.rf _ | apply Ext.drew | apply Ext.drewN | apply Ext.alloc))) x2));have u0:w2.cell? ⟨w.heap.size,0,none⟩=some (.int .i64 kind):=(BB.out.ext (Ext.tr (by(repeat (first | assumption | exact Ext.rf _ | apply Ext.drew | apply Ext.drewN | apply Ext.alloc))) x2)).cell 0;have u1:w2.cell? ⟨pb,po,none⟩=some (.int .i64 x0):=Zh X2.out zp0 cp0;clear x2 d0 d1;go_wp2_with (fail);go_ret2;exact⟨rfl,X2.out⟩
theorem JW (i:InstP)(us:List Value)(P:Option Addr)(c:Nat)(x:List Int)(w:World)(H:RInst w us i)(hP:RdI w P x)(hx:x.length<=1000)(hlw:i.weight.length<=maxLen)(hlv:i.value.length<=maxLen)(hls:i.weight.length+i.value.length<=maxLen) :
  Calls Tryz.prog 41 #[.agg (List.toArray us),.slice P x.length c] w fun e w'=>e=.returned (.tuple #[.int .i64 (ZA i x).1,.int .i64 (ZA i x).2])/\Ext w w':=by
 unfold ZA
 by_cases hc:Zf i=0
 ·rw[if_neg (by simpa using hc)]
  by_cases hk:i.kind=1
  ·rw[if_pos hk]
   exact Zcg i us P c x w H hc hk hP
  ·rw[if_neg hk]
   by_cases hp:Wa x i.cost.length=true
   ·obtain⟨l,rfl,hl⟩:=Yj.1 hp
    have hll:l.length=i.cost.length:=by rw[hl.length_eq,List.length_range]
    have hlen:(Ze l).length=i.cost.length:=by rw[Zm,hll]
    have n1:=(ZF (Zo hc hk)).n1;rcases ZX hc with h | h | h
    ·exact absurd h hk
    ·rw[if_pos ⟨hp,fun h3=>by omega⟩,if_pos h,hlen]
     exact Q8 i us P c l w H hc h hP hl
    ·by_cases h0:(Ze l)[0]?=some 0
     ·rw[if_pos ⟨hp,fun _=>h0⟩,if_neg (by omega),hlen]
      cases l with
      | nil=>simp at hll;omega
      | cons a q =>
       obtain rfl:a=0:=by
        simp[Ze] at h0;omega
       have e:(Ze (0::q)).tail.map Int.toNat=q:=by
        simp[Ze,Function.comp_def]
       rw[e];exact Ja i us P c q w H hc h hP hl
     ·rw[if_neg (fun h9=>h0 (h9.2 h))]
      exact Jc i us P c _ w H hc hk hP hx (.inr ⟨hp,h,h0⟩)
   ·rw[if_neg (fun h=>hp h.1)]
    exact Jc i us P c x w H hc hk hP hx (.inl (by simpa using hp))
 ·rw[if_pos hc]
  exact ZdK i us _ w H hc hlw hlv hls
theorem Zbm : ∀ (x vs:List Int),Small31 vs->0<=ZI x vs/\ZI x vs<=(vs.length:Int)*2147483647
 | [],vs,_=>by
  simp only[ZI,List.zipWith_nil_left,Zj];omega
 | _::_,[],_=>by simp[ZI,Zj]
 | a::x,v::vs,h=>by
  have ih:=Zbm x vs fun y hy=>h y (by simp[hy])
  have h1:=h v (by simp);simp only[ZI,List.zipWith_cons_cons,Zj,List.length_cons] at *;split<;>omega
theorem ZeV {i:InstP}{x:List Int}(hk:i.kind=1)(h:(ZA i x).2=0) : Zf i=0/\0<=(ZA i x).1/\(ZA i x).1<=(i.value.length:Int)*2147483647:=by
 unfold ZA at *
 by_cases hc:Zf i=0
 ·rw[if_neg (by simpa using hc),if_pos hk] at *
  have ok:=ZD hc hk;refine⟨hc,?_⟩;split
  ·unfold Xp
   split
   ·exact⟨Int.le_refl _,by simp only;omega⟩
   ·exact Zbm _ _ ok.sv
  ·exact⟨Int.le_refl _,by simp only;omega⟩
 ·rw[if_pos hc] at h
  exact absurd h hc
theorem ZdL {i:InstP}{x:List Int}(h:(ZA i x).2=0) : Zf i=0:=by
 unfold ZA at h;refine Classical.byContradiction fun hc=>?_
 rw[if_pos hc] at h;exact hc h
structure AnsIs (i:InstP)(x:List Int) : Prop where
 chk:Zf i=0
 len:(x.length:Int)=i.n
 n64:x.length<=64
 rng:∀ y∈x,0<=y/\y<=1000
 c0:0<=(ZA i x).1
 c1:(ZA i x).1<=137438953408
theorem Zf7 {i:InstP}{x:List Int}(h:(ZA i x).2=0) : AnsIs i x:=by
 have hc:=ZdL h
 by_cases hk:i.kind=1
 ·have b:=(ZeV hk h).2
  have ok:=ZD hc hk;have k2:=ok.n2;have k3:=ok.v;unfold ZA at h;rw[if_neg (by simpa using hc),if_pos hk] at h
  by_cases hl:(x.length:Int)=i.n/\∀ v∈x,v=0\/v=1
  ·exact⟨hc,hl.1,by omega,fun y hy=>by rcases hl.2 y hy with e | e<;>omega,b.1,by omega⟩
  ·rw[if_neg hl] at h
   exact absurd h (by decide)
 ·have sq:=Zo hc hk
  have rok:=ZF sq;have n2:=rok.n2;have n1:=rok.n1;have hin:(i.cost.length:Int)=i.n:=sq.len;have num:=Y0 rok;have h':=h;unfold ZA at h';rw[if_neg (by simpa using hc),if_neg hk] at h'
  by_cases hp:Wa x i.cost.length=true/\(i.kind=3->x[0]?=some 0)
  ·obtain⟨l,rfl,hl⟩:=Yj.1 hp.1
   have ll:l.length=i.cost.length:=by rw[hl.length_eq,List.length_range]
   have lt:∀ y∈l,y<i.cost.length:=fun y hy=>List.mem_range.1 (hl.mem_iff.1 hy)
   have hb:0<=(ZA i (Ze l)).1/\(ZA i (Ze l)).1<=137438953408:=by
    unfold ZA;rw[if_neg (by simpa using hc),if_neg hk,if_pos hp]
    by_cases h2:i.kind=2
    ·simp only[h2,if_true]
     rw[Yp ll.symm];have h1:=Xv (f:=fun k=>Zb i.cost k (l.getD k 0)) (B:=2147483647) (List.range l.length) (fun k hk=>by
      have hk:=List.mem_range.1 hk;have e:l[k]?=some l[k]:=List.getElem?_eq_getElem hk;rw[getD_some e];exact num k _ (by omega) (lt _ (List.getElem_mem hk)))
     rw[List.length_range] at h1;omega
    ·simp only[h2,if_false]
     have e:(Ze l).tail.map Int.toNat=l.tail:=by
      cases l with
      | nil=>rfl
      | cons a q=>simp[Ze,Function.comp_def]
     rw[e];have h1:=Ux num l.tail 0 (by omega) fun y hy=>lt y (List.mem_of_mem_tail hy)
     have h3:l.tail.length<=24:=by rw[List.length_tail];omega
     omega
   refine⟨hc,by rw[Zm,ll];exact hin,by rw[Zm,ll];omega,fun y hy=>?_,hb.1,hb.2⟩;obtain⟨k,hk,rfl⟩:=List.mem_map.1 hy;have:=lt k hk;omega
  ·rw[if_neg hp] at h'
   exact absurd h' (by decide)
theorem VZ {f:Int->Int} : ∀ {l:List Int} {b:Int},(∀ x∈l,0<=f x)->(∀ x∈l,ZK f b l<=f x)/\(0<=b->ZK f b l<=b)
 | [],b,_=>⟨(fun x h=>by simp at h),fun _=>Int.le_refl _⟩
 | x::l,b,h=>by
  have hx:=h x (by simp);have ih:=VZ (f:=f) (l:=l) (b:=if b<0 then f x else if f x<b then f x else b) (fun y hy=>h y (by simp[hy]));have h2:=ih.2 (by split<;>(try split)<;>omega);unfold ZK;refine⟨fun y hy=>?_,fun hb=>?_⟩
  ·rcases List.mem_cons.1 hy with rfl | hy
   ·refine Int.le_trans h2 ?_
    split<;>(try split)<;>omega
   ·exact ih.1 y hy
  ·refine Int.le_trans h2 ?_
   split<;>(try split)<;>omega
theorem JX {m c:Nat}(hm:m<18446744073709551616){q:List Nat}(h:(c::q).Perm (Zc m)) : q.Perm (Zc (Zx m c)):=by
 have hnd:(c::q).Nodup:=h.nodup_iff.2 ((Zu m).imp fun h=>Nat.ne_of_lt h);obtain⟨h1,h2⟩:=List.nodup_cons.1 hnd;refine(List.perm_ext_iff_of_nodup h2 ((Zu _).imp fun h=>Nat.ne_of_lt h)).2 fun x=>?_
 rw[YG hm,<-h.mem_iff,List.mem_cons]
 constructor
 ·intro hx
  exact⟨.inr hx,fun e=>h1 (e ▸ hx)⟩
 ·rintro ⟨rfl | hx,hne⟩
  ·exact absurd rfl hne
  ·exact hx
theorem Jd {rows:List (List Int)}(h24:rows.length<=24)(num:∀ row∈rows,∀ c,c<rows.length->0<=row.getD c 0) : ∀ (f:Nat) (p:List Int) (m:Nat),ZW rows.length p=some m->f=rows.length-p.length->∀ q:List Nat,q.Perm (Zc m)->YN rows rows.length f p<=Zs rows (p++Ze q)
 | 0,p,m,hp,hf=>fun q hq=>by
  have hlen:=Yi h24 hp;have h0:q=[]:=List.eq_nil_of_length_eq_zero (by rw[hq.length_eq];omega);subst h0;simp[YN,Ze]
 | f+1,p,m,hp,hf=>fun q hq=>by
  have hlen:=Yi h24 hp;have hsub:=(Xt h24 hp).2.2;have hpos:∀ x∈Ze (Zc m),0<=YN rows rows.length f (p++[x]):=fun x hx=>by
   obtain⟨c,hc,rfl⟩:=List.mem_map.1 hx;obtain⟨q',h1,h2⟩:=Vy h24 num f _ _ (XR h24 hp hc) (by rw[List.length_append,List.length_singleton];omega);rw[h2];have hin:=(Xt h24 hp).2.1;have:∀ (rs:List (List Int)) (l:List Int),(∀ row∈rs,row∈rows)->(∀ x∈l,0<=x/\x<rows.length)->0<=Zs rs l:=by
    intro rs
    induction rs with
    | nil=>intro l _ _;simp[Zs]
    | cons r rs ihr =>
     intro l h3 h4
     cases l with
     | nil=>simp[Zs]
     | cons d l =>
      have h5:=h4 d (by simp);have h6:=num r (h3 r (by simp)) d.toNat (by omega);have h7:=ihr l (fun y hy=>h3 y (by simp[hy])) (fun y hy=>h4 y (by simp[hy]));simp only[Zs];omega
   refine this rows _ (fun _ h=>h) fun y hy=>?_
   rcases List.mem_append.1 hy with hy | hy
   ·rcases List.mem_append.1 hy with hy | hy
    ·exact hin y hy
    ·obtain rfl:=List.mem_singleton.1 hy
     have:=hsub.2 c hc;omega
   ·obtain⟨d,hd,rfl⟩:=List.mem_map.1 hy
    have:=hsub.2 d (((YG hsub.1).1 (h1.mem_iff.1 hd)).1);omega
  have e:YN rows rows.length (f+1) p=ZK (fun x=>YN rows rows.length f (p++[x])) (-1) (Ze (Zc m)):=by
   show ZK _ (-1) (match ZW rows.length p with | none=>[] | some m=>Ze (Zc m))=_;rw[hp]
  rw[e]
  cases q with
  | nil =>
   have:=hq.length_eq;simp at this;omega
  | cons c q =>
   have hc:c∈Zc m:=hq.mem_iff.1 (by simp);refine Int.le_trans ((VZ hpos).1 (c:Int) (List.mem_map.2 ⟨c,hc,rfl⟩)) ?_;have h:=Jd h24 num f _ _ (XR h24 hp hc) (by rw[List.length_append,List.length_singleton];omega) q (JX hsub.1 hq);have e2:p++Ze (c::q)=p++[(c:Int)]++Ze q:=by simp[Ze]
   rw[e2];exact h
theorem Je {rows:List (List Int)}(h1:1<=rows.length)(h24:rows.length<=24)(num:∀ a b,a<rows.length->b<rows.length->0<=Zb rows a b) : ∀ (f:Nat) (p:List Int) (m last:Nat) (cost:Int) (l:List Nat),Z8 rows p=some (m,last,cost)->WalkOk rows p m last cost l->f=rows.length-1-p.length->∀ q:List Nat,q.Perm (Zc m)->YW rows f p<=Zy rows 0 (l++q)
 | 0,p,m,last,cost,l,hp,W,hf=>fun q hq=>by
  have hlen:=W.len;have hpl:p.length=l.length:=by rw[W.eq,Zm]
  have h0:q=[]:=List.eq_nil_of_length_eq_zero (by rw[hq.length_eq];omega);subst h0;rw[List.append_nil];show Zy rows 0 (p.map Int.toNat)<=_;rw[W.eq,Yf];exact Int.le_refl _
 | f+1,p,m,last,cost,l,hp,W,hf=>fun q hq=>by
  have hlen:=W.len;have hpl:p.length=l.length:=by rw[W.eq,Zm]
  have nx:∀ c∈Zc m,∃ (m' last':Nat) (cost':Int),Z8 rows (p++[(c:Int)])=some (m',last',cost')/\m'=Zx m c/\WalkOk rows (p++[(c:Int)]) m' last' cost' (l++[c]):=fun c hc=>by
   have hs:=WM h1 h24 hp hc;obtain⟨l',W'⟩:=YV h1 h24 hs;have e:l'=l++[c]:=by
    have:=W'.eq;rw[W.eq] at this;have h2:=congrArg (List.map Int.toNat) this;rw[Yf] at h2;rw[<-h2,List.map_append,Yf]
    rfl
   subst e;exact⟨_,_,_,hs,rfl,W'⟩
  have hpos:∀ x∈Ze (Zc m),0<=YW rows f (p++[x]):=fun x hx=>by
   obtain⟨c,hc,rfl⟩:=List.mem_map.1 hx;obtain⟨m',last',cost',hs,rfl,W'⟩:=nx c hc;obtain⟨q',a1,a2⟩:=WN h1 h24 num f _ _ _ _ _ hs W' (by rw[List.length_append,List.length_singleton];omega);rw[a2];refine VE num _ _ (by omega) fun y hy=>?_
   rcases List.mem_append.1 hy with hy | hy
   ·exact(W'.inn y hy).1
   ·exact((W'.rest y).1 (a1.mem_iff.1 hy)).1.1
  have e:YW rows (f+1) p=ZK (fun x=>YW rows f (p++[x])) (-1) (Ze (Zc m)):=by
   show ZK _ (-1) (match Z8 rows p with | none=>[] | some (m,_,_)=>Ze (Zc m))=_;rw[hp]
  rw[e]
  cases q with
  | nil =>
   have:=hq.length_eq;simp at this;omega
  | cons c q =>
   have hc:c∈Zc m:=hq.mem_iff.1 (by simp);refine Int.le_trans ((VZ hpos).1 (c:Int) (List.mem_map.2 ⟨c,hc,rfl⟩)) ?_;obtain⟨m',last',cost',hs,rfl,W'⟩:=nx c hc;have h:=Je h1 h24 num f _ _ _ _ _ hs W' (by rw[List.length_append,List.length_singleton];omega) q (JX W.sub.1 hq);rw[List.append_assoc] at h;exact h
def pkB (b c:Int) : Int:=if 0<=c/\(b<0\/c<b) then c else b
def XA (cap:Int)(ws vs:List Int) : Nat->List Int->Int
 | 0,x=>if cap<Zw x ws then -1 else ZI x vs
 | f+1,x=>pkB (pkB (-1) (XA cap ws vs f (x++[0]))) (XA cap ws vs f (x++[1]))
def Zaq (n:Nat)(x y:List Int) : Prop:=(∃ s,y=x++s)/\y.length=n/\∀ v∈y,v=0\/v=1
theorem ZdM {n:Nat}{x y:List Int}(h:Zaq n x y)(hl:x.length<n) : Zaq n (x++[0]) y\/Zaq n (x++[1]) y:=by
 obtain⟨⟨s,rfl⟩,h1,h2⟩:=h
 cases s with
 | nil=>simp at h1;omega
 | cons a s =>
  rcases h2 a (by simp) with rfl | rfl
  ·exact .inl ⟨⟨s,by simp⟩,h1,h2⟩
  ·exact .inr ⟨⟨s,by simp⟩,h1,h2⟩
theorem JY {n:Nat}{x y:List Int}{b:Int}(h:Zaq n (x++[b]) y) : Zaq n x y:=by
 obtain⟨⟨s,rfl⟩,h1,h2⟩:=h;exact⟨⟨b::s,by simp⟩,h1,h2⟩
theorem U3 {vs:List Int}(hv:∀ x∈vs,0<=x) : ∀ (x:List Int),0<=ZI x vs:=fun x=>by
 unfold ZI;refine YK fun z hz=>?_
 obtain⟨k,hk,rfl⟩:=List.mem_iff_getElem.1 hz;rw[List.getElem_zipWith];have:=hv _ (List.getElem_mem (by simp at hk;omega:k<vs.length));split<;>omega
theorem Wv {cap:Int}{ws vs:List Int}{n:Nat}(hv:∀ x∈vs,0<=x) : ∀ (f:Nat) (x:List Int),(∀ v∈x,v=0\/v=1)->x.length+f=n ->
  (XA cap ws vs f x=-1\/∃ y,Zaq n x y/\Zw y ws<=cap/\XA cap ws vs f x=ZI y vs)/\∀ y,Zaq n x y->Zw y ws<=cap->0<=XA cap ws vs f x/\XA cap ws vs f x<=ZI y vs
 | 0,x,h01,hl=>by
  unfold XA
  by_cases hc:cap<Zw x ws
  ·rw[if_pos hc]
   refine⟨.inl rfl,fun y hy hy2=>?_⟩;obtain⟨⟨s,rfl⟩,h1,h2⟩:=hy;have:s=[]:=List.eq_nil_of_length_eq_zero (by simp at h1;omega);subst this;rw[List.append_nil] at hy2;omega
  ·rw[if_neg hc]
   refine⟨.inr ⟨x,⟨⟨[],by simp⟩,by omega,h01⟩,by omega,rfl⟩,fun y hy hy2=>?_⟩;obtain⟨⟨s,rfl⟩,h1,h2⟩:=hy;have:s=[]:=List.eq_nil_of_length_eq_zero (by simp at h1;omega);subst this;rw[List.append_nil];exact⟨U3 hv x,Int.le_refl _⟩
 | f+1,x,h01,hl=>by
  have g0:∀ v∈x++[0],v=0\/v=1:=fun v hv=>by
   rcases List.mem_append.1 hv with h | h
   ·exact h01 v h
   ·exact .inl (List.mem_singleton.1 h)
  have g1:∀ v∈x++[1],v=0\/v=1:=fun v hv=>by
   rcases List.mem_append.1 hv with h | h
   ·exact h01 v h
   ·exact .inr (List.mem_singleton.1 h)
  obtain⟨a1,a2⟩:=Wv (cap:=cap) (ws:=ws) (n:=n) hv f (x++[0]) g0 (by simp;omega);obtain⟨b1,b2⟩:=Wv (cap:=cap) (ws:=ws) (n:=n) hv f (x++[1]) g1 (by simp;omega);have e:XA cap ws vs (f+1) x=pkB (pkB (-1) (XA cap ws vs f (x++[0]))) (XA cap ws vs f (x++[1])):=rfl;rw[e];have a3:-1<=XA cap ws vs f (x++[0]):=by
   rcases a1 with h | ⟨y,_,_,h⟩
   ·omega
   ·have:=U3 hv y;omega
  have b3:-1<=XA cap ws vs f (x++[1]):=by
   rcases b1 with h | ⟨y,_,_,h⟩
   ·omega
   ·have:=U3 hv y;omega
  generalize XA cap ws vs f (x++[0])=a at *;generalize XA cap ws vs f (x++[1])=b at *;have e1:pkB (-1) a=a:=by
   unfold pkB;split<;>omega
  rw[e1];have e2:(pkB a b=a/\(b=-1\/(0<=a/\a<=b)))\/(pkB a b=b/\0<=b/\(a=-1\/b<a)):=by
   unfold pkB;split<;>omega
  constructor
  ·rcases e2 with⟨h,_⟩ | ⟨h,_⟩
   ·rw[h]
    rcases a1 with h2 | ⟨y,h3,h4,h5⟩
    ·exact .inl h2
    ·exact .inr ⟨y,JY h3,h4,h5⟩
   ·rw[h]
    rcases b1 with h2 | ⟨y,h3,h4,h5⟩
    ·exact .inl h2
    ·exact .inr ⟨y,JY h3,h4,h5⟩
  ·intro y hy hc
   rcases ZdM hy (by omega) with h | h
   ·have:=a2 y h hc
    omega
   ·have:=b2 y h hc
    omega
theorem ZcT : ∀ (n:Nat) (y:List Int),y.length=n->(∀ v∈y,v=0\/v=1)->∃ m,m<2^n/\y=xB m n
 | 0,y,h,_=>⟨0,by simp,by rw[List.eq_nil_of_length_eq_zero h];rfl⟩
 | n+1,y,h,h01=>by
  obtain⟨z,b,rfl⟩:∃ z b,y=z++[b]:=by
   have hne:y≠[]:=fun e=>by rw[e] at h;simp at h
   exact⟨y.dropLast,y.getLast hne,(List.dropLast_concat_getLast hne).symm⟩
  obtain⟨m,hm,rfl⟩:=ZcT n z (by simpa using h) (fun v hv=>h01 v (by simp[hv]));have e0:m.testBit n=false:=Nat.testBit_lt_two_pow hm;have hp:2^(n+1)=2^n+2^n:=by rw[Nat.pow_succ];omega
  rcases h01 b (by simp) with rfl | rfl
  ·refine⟨m,by omega,?_⟩
   unfold xB;rw[List.range_succ,List.map_append,List.map_singleton,e0]
   rfl
  ·refine⟨2^n+m,by omega,?_⟩
   unfold xB;rw[List.range_succ,List.map_append,List.map_singleton,Nat.testBit_two_pow_add_eq,e0]
   congr 1
   refine List.map_congr_left fun j hj=>?_
   rw[Nat.testBit_two_pow_add_gt (List.mem_range.1 hj)]
theorem V0 (x v:Int)(p vs:List Int) : ZI (x::p) (v::vs)=(if x=1 then 0 else v)+ZI p vs:=by simp[ZI,Zj]
theorem Vn (x w:Int)(p ws:List Int) : Zw (x::p) (w::ws)=(if x=1 then w else 0)+Zw p ws:=by simp[Zw,Zj]
theorem U4 : ∀ (ws vs p:List Int) (room out:Int),p.length=ws.length->ws.length=vs.length->(∀ x∈p,x=0\/x=1)->(∀ w∈ws,0<=w)->Zw p ws<=room->Z0 room out ws vs<=out+ZI p vs
 | [],[],p,room,out,h,_,_,_,_=>by
  have:p=[]:=List.eq_nil_of_length_eq_zero (by simpa using h);subst this;simp[Z0,ZI,Zj]
 | [],_::_,_,_,_,_,h,_,_,_=>by simp at h
 | _::_,[],_,_,_,_,h,_,_,_=>by simp at h
 | _::_,_::_,[],_,_,h,_,_,_,_=>by simp at h
 | w::ws,v::vs,x::p,room,out,h1,h2,h3,h4,h5=>by
  rw[Vn] at h5;rw[V0];have hw:=h4 w (by simp);have hp:0<=Zw p ws:=by
   unfold Zw;refine YK fun z hz=>?_
   obtain⟨k,hk,rfl⟩:=List.mem_iff_getElem.1 hz;rw[List.getElem_zipWith];have:=h4 _ (List.mem_cons_of_mem _ (List.getElem_mem (show k<ws.length by simp at hk;omega)));split<;>omega
  have i0:=U4 ws vs p room (out+v) (by simpa using h1) (by simpa using h2) (fun y hy=>h3 y (by simp[hy])) (fun y hy=>h4 y (by simp[hy]));have i1:=U4 ws vs p (room-w) out (by simpa using h1) (by simpa using h2) (fun y hy=>h3 y (by simp[hy])) (fun y hy=>h4 y (by simp[hy]));rcases h3 x (by simp) with rfl | rfl
  ·rw[if_neg (show ¬(0:Int)=1 by decide)] at h5 ⊢
   have:=i0 (by omega);unfold Z0;split
   ·split<;>omega
   ·omega
  ·rw[if_pos rfl] at h5 ⊢
   have:=i1 (by omega);unfold Z0;rw[if_pos (show w<=room by omega)];split<;>omega
theorem Jf : ∀ (ws vs:List Int) (room out:Int),ws.length=vs.length->0<=room->∃ p:List Int,p.length=ws.length/\(∀ x∈p,x=0\/x=1)/\Zw p ws<=room/\Z0 room out ws vs=out+ZI p vs
 | [],[],room,out,_,h0=>⟨[],rfl,by simp,by simpa [Zw,Zj] using h0,by simp[Z0,ZI,Zj]⟩
 | [],_::_,_,_,h,_=>by simp at h
 | _::_,[],_,_,h,_=>by simp at h
 | w::ws,v::vs,room,out,h,h0=>by
  obtain⟨p0,a1,a2,a3,a4⟩:=Jf ws vs room (out+v) (by simpa using h) h0;have no:∃ p:List Int,p.length=(w::ws).length/\(∀ x∈p,x=0\/x=1)/\Zw p (w::ws)<=room/\Z0 room (out+v) ws vs=out+ZI p (v::vs) :=
   ⟨0::p0,by simp[a1],fun x hx=>by
    rcases List.mem_cons.1 hx with h | h
    ·exact .inl h
    ·exact a2 x h,by rw[Vn,if_neg (by decide)];omega,by rw[V0,if_neg (by decide)];omega⟩
  unfold Z0
  by_cases hw:w<=room
  ·rw[if_pos hw]
   obtain⟨p1,b1,b2,b3,b4⟩:=Jf ws vs (room-w) out (by simpa using h) (by omega);split
   ·exact no
   ·exact⟨1::p1,by simp[b1],fun x hx=>by
     rcases List.mem_cons.1 hx with h | h
     ·exact .inr h
     ·exact b2 x h,by rw[Vn,if_pos rfl];omega,by rw[V0,if_pos rfl];omega⟩
  ·rw[if_neg hw]
   exact no
theorem JZ (f:Int->Int->Int){l:List Nat}{n:Nat}(hp:l.Perm (List.range n)){y w:List Int}(ly:y.length=n)(lw:w.length=n) : Zj (List.zipWith f (Zl l y) (Zl l w))=Zj (List.zipWith f y w):=by
 rw[YS f y w (by omega),ly,<-YL (hp.map _)];unfold Zl;rw[List.zipWith_map]
 congr 1
 apply List.ext_getElem
 ·simp
 ·intro k h1 h2
  simp
def XB (i:InstP) : Int:=if i.kind=1 then XA i.cap i.weight i.value i.n.toNat [] else bxI i []
theorem ZcU {i:InstP}(hc:Zf i=0) : bxI i []=XB i:=by
 unfold XB
 by_cases h:i.kind=1
 ·rw[if_pos h]
  have ok:=ZD hc h;obtain⟨f1,f2,f3,f4,f5⟩:=Q5 ok;have hv:∀ x∈i.value,0<=x:=fun x hx=>(ok.sv x hx).1
  have hn:i.weight.length=i.n.toNat:=by have:=ok.w;omega
  have hnv:i.value.length=i.n.toNat:=by have:=ok.v;omega
  have hperm:(Yu i).Perm (List.range i.n.toNat):=by
   have:=Wg i.value i.weight;rw[hnv] at this;exact this
  have hwl:(wsP i).length=i.n.toNat:=by omega
  obtain⟨L1,L2⟩:=Wv (cap:=i.cap) (ws:=i.weight) (n:=i.n.toNat) hv i.n.toNat [] (by simp) (by simp);have e:bxI i []=Z0 i.cap 0 (wsP i) (vsP i):=by
   unfold bxI;rw[if_pos h];unfold Xy;have:stP i.cap 0 (wsP i) (vsP i) []=some (i.cap,0):=by cases wsP i<;>cases vsP i<;>rfl
   rw[this]
   rfl
  rw[e];obtain⟨p,p1,p2,p3,p4⟩:=Jf (wsP i) (vsP i) i.cap 0 f1 ok.cap.1;have T:=Ui (fun x w=>if x=1 then w else 0) hperm (p:=p) (w:=i.weight) (by omega) hn;have V:=Ui (fun x w=>if x=1 then 0 else w) hperm (p:=p) (w:=i.value) (by omega) hnv;have E1:Zaq i.n.toNat [] (UM (Yu i) p i.n.toNat):=⟨⟨_,rfl⟩,by rw[Uh,hperm.length_eq,List.length_range],ZcB p2 _⟩;have T':Zw (UM (Yu i) p i.n.toNat) i.weight=Zw p (wsP i):=T;have V':ZI (UM (Yu i) p i.n.toNat) i.value=ZI p (vsP i):=V;have B1:=L2 _ E1 (by omega);rw[V'] at B1;have low:∀ y,Zaq i.n.toNat [] y->Zw y i.weight<=i.cap->Z0 i.cap 0 (wsP i) (vsP i)<=ZI y i.value:=fun y hy ht=>by
   have t1:=JZ (fun x w=>if x=1 then w else 0) hperm (y:=y) (w:=i.weight) hy.2.1 hn;have t2:=JZ (fun x w=>if x=1 then 0 else w) hperm (y:=y) (w:=i.value) hy.2.1 hnv;have h01:∀ x∈Zl (Yu i) y,x=0\/x=1:=fun x hx=>by
    obtain⟨k,hk,rfl⟩:=List.mem_map.1 hx;have:k<y.length:=by rw[hy.2.1];exact List.mem_range.1 (hperm.mem_iff.1 hk)
    rw[List.getD,List.getElem?_eq_getElem this];exact hy.2.2 _ (List.getElem_mem this)
   have t1':Zw (Zl (Yu i) y) (wsP i)=Zw y i.weight:=t1;have t2':ZI (Zl (Yu i) y) (vsP i)=ZI y i.value:=t2;have:=U4 (wsP i) (vsP i) (Zl (Yu i) y) i.cap 0 (by rw[Z4];have:=hperm.length_eq;rw[List.length_range] at this;omega) f1 h01 f3 (by omega);omega
  rcases L1 with L1 | ⟨y,y1,y2,y3⟩
  ·omega
  ·have:=low y y1 y2
   omega
 ·rw[if_neg h]
theorem ZeW {i:InstP}(hc:Zf i=0){x:List Int}(hx:(ZA i x).2=0) : XB i<=(ZA i x).1:=by
 have e0:(ZA i x).2=0:=hx;unfold ZA at hx ⊢;rw[if_neg (by simpa using hc)] at hx ⊢
 by_cases h:i.kind=1
 ·rw[if_pos h] at hx ⊢
  have ok:=ZD hc h;split at hx
  ·rename_i hx1
   rw[if_pos hx1];unfold Xp at hx ⊢;split at hx
   ·simp at hx
   ·rename_i hcap
    rw[if_neg hcap];unfold XB;rw[if_pos h];have hv:∀ x∈i.value,0<=x:=fun x hx=>(ok.sv x hx).1
    obtain⟨_,L2⟩:=Wv (cap:=i.cap) (ws:=i.weight) (n:=i.n.toNat) hv i.n.toNat [] (by simp) (by simp);exact(L2 x ⟨⟨x,rfl⟩,by omega,hx1.2⟩ (by omega)).2
  ·simp at hx
 ·rw[if_neg h] at hx ⊢
  have sq:=Zo hc h;have rok:=ZF sq;split at hx
  ·rename_i hx1
   rw[if_pos hx1];unfold XB bxI;rw[if_neg h,if_neg h];obtain⟨l,rfl,hl⟩:=Yj.1 hx1.1
   by_cases h2:i.kind=2
   ·rw[if_pos h2,if_pos h2]
    have:=Jd rok.n2 (fun row hr c hc=>(rok.get hr hc).1) i.cost.length [] _ Xg (by simp) l (by rw[YI (by have:=rok.n2;omega)];exact hl)
    simpa using this
   ·rw[if_neg h2,if_neg h2]
    have h3:i.kind=3:=by rcases ZX hc with h | h | h<;>omega
    obtain⟨a,q,rfl⟩:∃ a q,l=a::q:=by
     cases l with
     | nil=>have:=hx1.2 h3;simp[Ze] at this
     | cons a q=>exact⟨a,q,rfl⟩
    have ha:a=0:=by
     have:=hx1.2 h3;simp[Ze] at this;omega
    subst ha;obtain⟨l0,W⟩:=YV rok.n1 rok.n2 (Xh (rows:=i.cost));have hl0:l0=[]:=by
     have:=W.eq
     cases l0 with
     | nil=>rfl
     | cons a b=>simp[Ze] at this
    subst hl0;have hq:q.Perm (Zc (WW i.cost.length)):=by
     refine(List.perm_ext_iff_of_nodup ?_ ((Zu _).imp fun h=>Nat.ne_of_lt h)).2 fun c=>?_
     ·have:=hl.nodup_iff.2 List.nodup_range
      exact(List.nodup_cons.1 this).2
     ·have nd:=hl.nodup_iff.2 List.nodup_range
      have n0:=(List.nodup_cons.1 nd).1;rw[W.rest c];have m:=hl.mem_iff (a:=c);rw[List.mem_range,List.mem_cons] at m
      constructor
      ·intro hq
       exact⟨⟨m.1 (.inr hq),fun e=>n0 (e ▸ hq)⟩,by simp⟩
      ·rintro ⟨⟨g1,g2⟩,_⟩
       rcases m.2 g1 with g | g
       ·exact absurd g g2
       ·exact g
    have:=Je rok.n1 rok.n2 (fun a b ha hb=>(ZeO rok a b ha hb).1) (i.cost.length-1) [] _ _ _ [] Xh W (by simp) q hq;rw[List.nil_append] at this;have e2:(Ze (0::q)).tail.map Int.toNat=q:=by
     show (Ze q).map Int.toNat=q;exact Yf q
    rw[e2]
    simpa using this
  ·simp at hx
def Uz : Int:=1152921504606846976
section
variable {rows:List (List Int)} {n G:Nat} {T:Nat->Nat->Int} {Bk:Nat->Nat->Nat}
structure WayAt (rows:List (List Int))(n:Nat)(T:Nat->Nat->Int)(Bk:Nat->Nat->Nat)(g l:Nat) : Prop where
 one:Zx g l=0->T g l=Zb rows 0 (l+1)
 le:Zx g l≠0->∀ a,a<n->(Zx g l).testBit a=true->T g l<=T (Zx g l) a+Zb rows (a+1) (l+1)
 eq:Zx g l≠0->Bk g l<n/\(Zx g l).testBit (Bk g l)=true/\T g l=T (Zx g l) (Bk g l)+Zb rows (Bk g l+1) (l+1)
def WayOk (rows:List (List Int))(n:Nat)(T:Nat->Nat->Int)(Bk:Nat->Nat->Nat)(G:Nat) : Prop:=∀ g l,g<G->l<n->g.testBit l=true->WayAt rows n T Bk g l
theorem Zfz {n g:Nat}(hn:n<=24)(h:g<2^n) : g<18446744073709551616:=by
 have:2^n<=2^24:=Nat.pow_le_pow_right (by omega) hn;omega
theorem UA {n g l j:Nat}(hn:n<=24)(h:g<2^n) : (Zx g l).testBit j=(g.testBit j&&decide (l≠j)):=ZaU (Zfz hn h)
theorem Vo {n g l:Nat}(hn:n<=24)(h:g<2^n)(hl:g.testBit l=true) : Zx g l<g:=by
 have e:g &&& Zx g l=Zx g l:=Nat.eq_of_testBit_eq fun j=>by
  rw[Nat.testBit_and,UA hn h]
  cases g.testBit j<;>simp
 have h1:Zx g l<=g:=by
  rw[<-e];exact Nat.and_le_left
 have h2:Zx g l≠g:=fun e2=>by
  have h3:=UA (l:=l) (j:=l) hn h;rw[e2,hl] at h3;simp at h3
 omega
theorem Zf8 {n g l:Nat}(hn:n<=24)(h:g<2^n)(hl:l<n)(hb:g.testBit l=false) : Zx (g ||| 2^l) l=g/\g ||| 2^l<2^n:=by
 have h2:g ||| 2^l<2^n:=Nat.or_lt_two_pow h (Nat.pow_lt_pow_right (by omega) hl)
 refine⟨Nat.eq_of_testBit_eq fun j=>?_,h2⟩;rw[UA hn h2,Nat.testBit_or]
 by_cases e:l=j
 ·subst e
  simp[hb]
 ·rw[Nat.testBit_two_pow_of_ne e]
  simp[e]
theorem WayOk.bd (hn:n<=24)(hG:G<=2^n)(h:WayOk rows n T Bk G)(num:∀ a b,a<n+1->b<n+1->0<=Zb rows a b/\Zb rows a b<=2147483647) : ∀ (g l:Nat),g<G->l<n->g.testBit l=true->0<=T g l/\T g l<=g*2147483647:=by
 intro g
 induction g using Nat.strongRecOn with
 | ind g ih =>
  intro l hg hl hb;have w:=h g l hg hl hb;have g0:0<g:=Nat.pos_of_ne_zero fun e=>by rw[e] at hb;simp at hb
  by_cases e:Zx g l=0
  ·rw[w.one e]
   have:=num 0 (l+1) (by omega) (by omega);omega
  ·obtain⟨h1,h2,h3⟩:=w.eq e
   have h4:=Vo hn (by omega:g<2^n) hb;have h5:=ih (Zx g l) h4 (Bk g l) (by omega) h1 h2;have h6:=num (Bk g l+1) (l+1) (by omega) (by omega);rw[h3];have h7:((Zx g l:Nat):Int)+1<=(g:Int):=by omega
   generalize ((Zx g l:Nat):Int)=z at *;omega
theorem ZeX (hn:n<=24)(h:WayOk rows n T Bk (2^n)) : ∀ (r:List Nat) (g a:Nat),g<2^n->a<n->g.testBit a=true->r.Nodup->(∀ y∈r,1<=y/\y<=n/\g.testBit (y-1)=false) ->
  ∃ g' l',g'<2^n/\l'<n/\g'.testBit l'=true/\(∀ j,g'.testBit j=true↔g.testBit j=true\/j+1∈r)/\T g' l'+Zb rows (l'+1) 0<=T g a+Zy rows (a+1) r
 | [],g,a,hg,ha,hb,_,_=>⟨g,a,hg,ha,hb,(fun j=>by simp),Int.le_refl _⟩
 | y::r,g,a,hg,ha,hb,hd,hr=>by
  obtain⟨y1,y2,y3⟩:=hr y (by simp);obtain⟨hd1,hd2⟩:=List.nodup_cons.1 hd;obtain⟨e1,e2⟩:=Zf8 hn hg (l:=y-1) (by omega) y3;have hyb:(g ||| 2^(y-1)).testBit (y-1)=true:=by rw[Nat.testBit_or,Nat.testBit_two_pow_self,Bool.or_true]
  have w:=h _ _ e2 (by omega) hyb;have hg0:g≠0:=fun e=>by rw[e] at hb;simp at hb
  have hle:=w.le (by rw[e1];exact hg0) a ha (by rw[e1];exact hb);rw[e1,show y-1+1=y by omega] at hle;obtain⟨g',l',k1,k2,k3,k4,k5⟩:=ZeX hn h r (g ||| 2^(y-1)) (y-1) e2 (by omega) hyb hd2 (fun z hz=>by
   obtain⟨z1,z2,z3⟩:=hr z (by simp[hz]);refine⟨z1,z2,?_⟩;have hne:y≠z:=fun e=>hd1 (e ▸ hz)
   rw[Nat.testBit_or,z3,Nat.testBit_two_pow_of_ne (by omega)]
   rfl)
  rw[show y-1+1=y by omega] at k5;refine⟨g',l',k1,k2,k3,fun j=>?_,?_⟩
  ·rw[k4,Nat.testBit_or,Bool.or_eq_true,List.mem_cons,or_assoc]
   refine or_congr Iff.rfl (or_congr ?_ Iff.rfl);rw[Nat.testBit_two_pow,decide_eq_true_iff];omega
  ·show _<=T g a+(Zb rows (a+1) y+Zy rows y r)
   omega
theorem UB {n j:Nat} : (2^n-1).testBit j=decide (j<n):=Nat.testBit_two_pow_sub_one n j
theorem ZdN (hn:n<=24)(h:WayOk rows n T Bk (2^n)){q:List Nat}(hq:(0::q).Perm (List.range (n+1)))(n1:1<=n) : ∃ l,l<n/\T (2^n-1) l+Zb rows (l+1) 0<=Zy rows 0 q:=by
 have hmem:∀ y,y∈0::q↔y<n+1:=fun y=>by rw[hq.mem_iff,List.mem_range]
 have hnd:(0::q).Nodup:=hq.nodup_iff.2 List.nodup_range;obtain⟨h0,hd⟩:=List.nodup_cons.1 hnd
 match q,hq,hmem,h0,hd with
 | [],hq,_,_,_ =>
  have:=hq.length_eq;simp at this;omega
 | x::r,hq,hmem,h0,hd =>
  have hx:x<n+1:=(hmem x).1 (by simp);have hx0:x≠0:=fun e=>h0 (by simp[e])
  have hg:2^(x-1)<2^n:=Nat.pow_lt_pow_right (by omega) (by omega);have hb:(2^(x-1)).testBit (x-1)=true:=Nat.testBit_two_pow_self;obtain⟨hd1,hd2⟩:=List.nodup_cons.1 hd;have e0:Zx (2^(x-1)) (x-1)=0:=Nat.eq_of_testBit_eq fun j=>by
   rw[UA hn hg,Nat.testBit_two_pow]
   by_cases e:x-1=j<;>simp[e]
  have e1:=(h _ _ hg (by omega:x-1<n) hb).one e0;rw[show x-1+1=x by omega] at e1;obtain⟨g',l',k1,k2,k3,k4,k5⟩:=ZeX hn h r (2^(x-1)) (x-1) hg (by omega) hb hd2 (fun z hz=>by
   have hz2:z<n+1:=(hmem z).1 (by simp[hz]);have hz0:z≠0:=fun e=>h0 (by simp[<-e,hz])
   have hne:x≠z:=fun e=>hd1 (e ▸ hz)
   exact⟨by omega,by omega,Nat.testBit_two_pow_of_ne (by omega)⟩)
  have eg:g'=2^n-1:=Nat.eq_of_testBit_eq fun j=>by
   rw[UB,Bool.eq_iff_iff,k4,decide_eq_true_iff,Nat.testBit_two_pow,decide_eq_true_iff]
   constructor
   ·rintro (h1 | h1)
    ·omega
    ·have:=(hmem (j+1)).1 (by simp[h1])
     omega
   ·intro hj
    have h1:=(hmem (j+1)).2 (by omega);simp only[List.mem_cons] at h1;rcases h1 with h1 | h1 | h1
    ·omega
    ·left;omega
    ·exact .inr h1
  rw[eg] at k5;rw[show x-1+1=x by omega,e1] at k5;exact⟨l',k2,k5⟩
structure Trail (rows:List (List Int))(n:Nat)(T:Nat->Nat->Int)(C:Int)(g l:Nat)(ys:List Nat) : Prop where
 nod:ys.Nodup
 mem:∀ y,y∈ys↔1<=y/\y<=n/\g.testBit (y-1)=false
 lt:g<2^n
 go:g≠0->l<n/\g.testBit l=true/\C=T g l+Zy rows (l+1) ys
 fin:g=0->C=Zy rows 0 ys
theorem Trail.start {l:Nat}(n1:1<=n)(hl:l<n) : Trail rows n T (T (2^n-1) l+Zb rows (l+1) 0) (2^n-1) l [] where
 nod:=List.nodup_nil
 mem:=fun y=>by
  rw[UB,decide_eq_false_iff_not];simp;omega
 lt:=by have:=Nat.two_pow_pos n;omega
 go:=fun _=>⟨hl,by rw[UB];simpa using hl,rfl⟩
 fin:=fun e=>by
  have:2^1<=2^n:=Nat.pow_le_pow_right (by omega) n1;omega
theorem Trail.step {C:Int}{g l:Nat}{ys:List Nat}(hn:n<=24)(h:WayOk rows n T Bk (2^n))(t:Trail rows n T C g l ys)(hg:g≠0) : Trail rows n T C (Zx g l) (Bk g l) ((l+1)::ys)/\Zx g l<g:=by
 obtain⟨h1,h2,h3⟩:=t.go hg;have w:=h g l t.lt h1 h2;have hless:=Vo hn t.lt h2;have hlt:=t.lt;refine⟨⟨List.nodup_cons.2 ⟨fun hm=>?_,t.nod⟩,fun y=>?_,by omega,fun e=>?_,fun e=>?_⟩,hless⟩
 ·have:=((t.mem (l+1)).1 hm).2.2
  rw[Nat.add_sub_cancel,h2] at this
  cases this
 ·rw[List.mem_cons,t.mem,UA hn t.lt]
  by_cases e:y=l+1
  ·subst e
   simp;omega
  ·by_cases e2:l=y-1
   ·have:y=0:=by omega
    subst this;simp
   ·simp[e,e2]
 ·obtain⟨k1,k2,k3⟩:=w.eq e
  refine⟨k1,k2,?_⟩;show C=T (Zx g l) (Bk g l)+(Zb rows (Bk g l+1) (l+1)+Zy rows (l+1) ys);rw[h3,k3];omega
 ·show C=Zb rows 0 (l+1)+Zy rows (l+1) ys
  rw[h3,w.one e]
theorem Trail.end {C:Int}{l:Nat}{ys:List Nat}(t:Trail rows n T C 0 l ys) : (0::ys).Perm (List.range (n+1))/\C=Zy rows 0 ys:=by
 refine⟨(List.perm_ext_iff_of_nodup (List.nodup_cons.2 ⟨fun hm=>?_,t.nod⟩) List.nodup_range).2 fun y=>?_,t.fin rfl⟩
 ·have:=((t.mem 0).1 hm).1
  omega
 ·rw[List.mem_cons,t.mem,List.mem_range]
  simp;omega
end
end Go.Proofs.YtmojhhlcocjoaaaGreatDoor
namespace Go.Proofs.YtmojhhlcocjoaaaGreatDoor
open Go.RowKit Go.ChangeShapes Go.WideShapes Go.ChangeAt Go.Deep
def Arr (w:World)(g n:Nat)(u:Nat->Int) : Prop:=Blk w g 3 (List.toArray ((List.range n).map fun i=>Value.int .i64 (u i)))
def ArrB (w:World)(g n:Nat)(u:Nat->Bool) : Prop:=Blk w g 4 (List.toArray ((List.range n).map fun i=>Value.bool (u i)))
section
variable {w w':World} {g n:Nat} {u v:Nat->Int} {p q:Nat->Bool}
theorem Arr.cell (h:Arr w g n u){k:Nat}(hk:k<n) : w.cell? ⟨g,k,none⟩=some (.int .i64 (u k)):=by
 rw[Blk.cell h];simp[hk]
theorem Arr.free (h:Arr w g n u)(k:Nat) : w.frozen? ⟨g,k,none⟩=false:=Blk.free h k
theorem Arr.lt (h:Arr w g n u) : g<w.heap.size:=Blk.lt h
theorem Arr.ext (h:Arr w g n u)(x:Ext w w') : Arr w' g n u:=Blk.ext h x
theorem Arr.mod {S:Nat->Prop}(h:Arr w g n u)(hm:Mod S w w')(hg:¬S g) : Arr w' g n u:=Blk.mod h hm hg
theorem Arr.far (h:Arr w g n u){a:Addr}(hp:g≠a.block)(x:Value) : Arr (w.setCell a x) g n u:=Blk.far h hp x
theorem J0 {α:Type}(f:Nat->α)(n k:Nat)(x:α) : ((List.range n).map f).set k x=(List.range n).map fun i=>if i=k then x else f i:=by
 refine List.ext_getElem? fun i=>?_
 rw[List.getElem?_set]
 by_cases hi:i<n
 ·by_cases e:k=i
  ·subst e;simp[hi]
  ·have e':¬i=k:=fun h=>e h.symm
   simp[e,e',hi]
 ·by_cases e:k=i
  ·subst e;simp[hi]
  ·simp[e,hi]
theorem Arr.set (h:Arr w g n u)(k:Nat)(x:Int) : Arr (w.setCell ⟨g,k,none⟩ (.int .i64 x)) g n (fun i=>if i=k then x else u i):=by
 have h1:=Blk.set h k (.int .i64 x);have e:(List.toArray ((List.range n).map fun i=>Value.int .i64 (u i))).setIfInBounds k (.int .i64 x)=List.toArray ((List.range n).map fun i=>Value.int .i64 (if i=k then x else u i)):=by
  rw[List.setIfInBounds_toArray,J0]
  congr 1
  refine List.map_congr_left fun i _=>?_
  split<;>rfl
 rw[e] at h1;exact h1
theorem Arr.congr (h:Arr w g n u)(e:∀ i,i<n->u i=v i) : Arr w g n v:=by
 unfold Arr at h ⊢;have:((List.range n).map fun i=>Value.int .i64 (u i))=(List.range n).map fun i=>Value.int .i64 (v i):=List.map_congr_left fun i hi=>by rw[e i (List.mem_range.1 hi)]
 rwa [this] at h
theorem Arr.rdI (h:Arr w g n u) : RdI w (some ⟨g,0,none⟩) ((List.range n).map u):=RdI.blk h (by simp[Function.comp_def])
theorem Arr.ne {g':Nat}{t':TypeId}{cs':Array Value}(h:Arr w g n u)(h':Blk w g' t' cs')(hne:3≠t') : g≠g':=Blk.ne h h' hne
theorem Arr.of_own {base:Nat}{x:Int}(h:OwI w base (some ⟨g,0,none⟩) n (List.replicate n x)) : Arr w g n (fun _=>x):=by
 rcases h.cases with⟨e,_⟩ | ⟨g',cur,e,_,hg,_,_,hs,ht⟩
 ·cases e
 ·obtain rfl:g=g':=by simpa using e
  have hl:cur.toList.length=n:=by simpa using hs
  have h2:cur.toList=(List.replicate n x).map (Value.int .i64):=by
   rw[<-ht,List.length_replicate,Nat.mul_one,List.take_of_length_le (by omega)]
  have h3:cur=List.toArray ((List.range n).map fun _=>Value.int .i64 x):=Array.ext' (by rw[h2];simp[List.map_const']);unfold Arr Blk;rw[hg,h3]
theorem ArrB.cell (h:ArrB w g n p){k:Nat}(hk:k<n) : w.cell? ⟨g,k,none⟩=some (.bool (p k)):=by
 rw[Blk.cell h];simp[hk]
theorem ArrB.free (h:ArrB w g n p)(k:Nat) : w.frozen? ⟨g,k,none⟩=false:=Blk.free h k
theorem ArrB.lt (h:ArrB w g n p) : g<w.heap.size:=Blk.lt h
theorem ArrB.ext (h:ArrB w g n p)(x:Ext w w') : ArrB w' g n p:=Blk.ext h x
theorem ArrB.mod {S:Nat->Prop}(h:ArrB w g n p)(hm:Mod S w w')(hg:¬S g) : ArrB w' g n p:=Blk.mod h hm hg
theorem ArrB.far (h:ArrB w g n p){a:Addr}(hp:g≠a.block)(x:Value) : ArrB (w.setCell a x) g n p:=Blk.far h hp x
theorem ArrB.set (h:ArrB w g n p)(k:Nat)(x:Bool) : ArrB (w.setCell ⟨g,k,none⟩ (.bool x)) g n (fun i=>if i=k then x else p i):=by
 have h1:=Blk.set h k (.bool x);have e:(List.toArray ((List.range n).map fun i=>Value.bool (p i))).setIfInBounds k (.bool x)=List.toArray ((List.range n).map fun i=>Value.bool (if i=k then x else p i)):=by
  rw[List.setIfInBounds_toArray,J0]
  congr 1
  refine List.map_congr_left fun i _=>?_
  split<;>rfl
 rw[e] at h1;exact h1
theorem ArrB.congr (h:ArrB w g n p)(e:∀ i,i<n->p i=q i) : ArrB w g n q:=by
 unfold ArrB at h ⊢;have:((List.range n).map fun i=>Value.bool (p i))=(List.range n).map fun i=>Value.bool (q i):=List.map_congr_left fun i hi=>by rw[e i (List.mem_range.1 hi)]
 rwa [this] at h
end
theorem ZdO : (Tryz.prog.info? 4).map (fun i=>(i.zero,i.size,i.bytes))=some (some (.bool false),1,1):=by kernel_rfl
theorem V4 (w:World){ops:Array Oper}{rest:List Oper}{o:Oper}{a:Act}{Q:Exit->Act->World->Prop}(hgd:o.guard=none)(l c:Operand)(hop:o.op=Op.makeSlice 188 l c)
  (L C:Int) (n:Nat) (hl:a.eval l=.int .i64 L) (hc:a.eval c=.int .i64 C) (hL:L=(n:Int)) (hC:C=(n:Int)) (hn:n<=2^44)
  (hK:∀ w',ArrB w' w.heap.size n (fun _=>false)->w.grownBy w' none->wpList Tryz.prog ops Q rest (a.put o.dst (.slice (some ⟨w.heap.size,0,none⟩) n n)) w') :
  wpList Tryz.prog ops Q (o::rest) a w:=by
 obtain⟨i0,hi,hz0,hz1,hz2⟩:=info_parts ZdO;refine wpList_make_full w hgd l c _ hop w.heap.size 4 i0 _ 1 Tryz.underlying188 hi hz0 hz1 .i64 .i64 L C n hl hc hL hC (by rw[hz2];omega) (by simp only[maxLen];omega) (Nat.le_refl _) (fun w' h2 h3=>hK w' ?_ h3);have e:(madeCells (Value.bool false).cells (n*1)).toList=(List.range n).map fun _=>Value.bool false:=by
  simp[madeCells,Value.cells,List.map_const',Nat.mod_one]
 rw[e] at h2;rcases(OwV.cases (e:=4) (size:=1) h2) with⟨e1,_⟩ | ⟨g',cur,e1,_,hg,_,_,hs,ht⟩
 ·cases e1
 ·obtain rfl:w.heap.size=g':=by simpa using e1
  have hl:cur.toList.length=n:=by simpa using hs
  have h3:cur=List.toArray ((List.range n).map fun _=>Value.bool false):=Array.ext' (by rw[<-ht,Nat.mul_one,List.take_of_length_le (by omega)]);unfold ArrB Blk;rw[hg,h3]
theorem XJ {ops:Array Oper}{i:Nat}{t:TypeId}{d:Option Tmp}{a:Act}{w:World}{K:Act->World->Prop}{Q:Exit->Act->World->Prop}{x y:Operand}(hi:WX ops i=some (none,.makeSlice 22 x y,t,d))(n:Nat)(L:Int)(hx:a.eval x=.int .i64 L)(hy:a.eval y=.int .i64 L)(hL:L=(n:Int))(hn:n<=2^44)
  (hK:∀ w',Arr w' w.heap.size n (fun _=>0)->Ext w w'->K (a.put d (.slice (some ⟨w.heap.size,0,none⟩) n n)) w'):wpOp Tryz.prog ops Q i K a w:=by
 obtain⟨i0,hi0,hz0,hz1,hz2⟩:=info_parts YQ;subst hL;obtain⟨w',hrun,h2,h3⟩:=run_make_full (P:=Tryz.prog) w w.heap.size 22 3 i0 _ 1 Tryz.underlying22 hi0 hz0 hz1 .i64 .i64 n (by rw[hz2];omega) (by simp only[maxLen];omega) (Nat.le_refl _);have e:(madeCells (Value.int .i64 0).cells (n*1)).toList=(List.replicate n (0:Int)).map (Value.int .i64):=by
  simp[madeCells,Value.cells,List.map_const',Nat.mod_one]
 rw[e] at h2;refine ZM hi _ (by simp[Zd,execOp,hx,hy,hrun]) (hK w' (Arr.of_own (base:=w.heap.size) (by simpa [OwI] using h2)) ((Ext.rf _).grownNone h3))
end Go.Proofs.YtmojhhlcocjoaaaGreatDoor
namespace Go.Proofs.YtmojhhlcocjoaaaGreatDoor
open Go.RowKit Go.ChangeShapes Go.WideShapes Go.ChangeAt Go.Deep
structure WayM (w:World)(base tc N n G:Nat)(r:Nat->Nat)(T:Nat->Nat->Int) : Prop where
 tab:∃ cs,Blk w tc 22 cs/\cs.size=N/\∀ g,1<=g->g<G->cs[g]?=some (.slice (some ⟨r g,0,none⟩) n n)
 row:∀ g,1<=g->g<G->Arr w (r g) n (T g)/\base<=r g
section
variable {w w':World} {base tc N n G:Nat} {r:Nat->Nat} {T:Nat->Nat->Int}
theorem WayM.cell (h:WayM w base tc N n G r T){g:Nat}(h1:1<=g)(h2:g<G) : w.cell? ⟨tc,g,none⟩=some (.slice (some ⟨r g,0,none⟩) n n):=by
 obtain⟨cs,hb,_,hc⟩:=h.tab;rw[hb.cell];exact hc g h1 h2
theorem WayM.any (h:WayM w base tc N n G r T){g:Nat}(hg:g<N) : (∃ v,w.cell? ⟨tc,g,none⟩=some v)/\w.frozen? ⟨tc,g,none⟩=false/\tc<w.heap.size:=by
 obtain⟨cs,hb,hs,_⟩:=h.tab;exact⟨⟨cs[g],by rw[hb.cell];exact Array.getElem?_eq_getElem (by omega)⟩,hb.free g,hb.lt⟩
theorem WayM.num (h:WayM w base tc N n G r T){g l:Nat}(h1:1<=g)(h2:g<G)(hl:l<n) : w.cell? ⟨r g,l,none⟩=some (.int .i64 (T g l))/\r g<w.heap.size:=⟨(h.row g h1 h2).1.cell hl,(h.row g h1 h2).1.lt⟩
theorem WayM.mod {S:Nat->Prop}(h:WayM w base tc N n G r T)(m:Mod S w w')(hc:¬S tc)(hr:∀ g,1<=g->g<G->¬S (r g)) : WayM w' base tc N n G r T:=by
 obtain⟨cs,hb,hs,hcs⟩:=h.tab;exact⟨⟨cs,hb.mod m hc,hs,hcs⟩,fun g h1 h2=>⟨(h.row g h1 h2).1.mod m (hr g h1 h2),(h.row g h1 h2).2⟩⟩
theorem WayM.ext (h:WayM w base tc N n G r T)(x:Ext w w') : WayM w' base tc N n G r T:=h.mod (S:=fun _=>False) (Mod.of_ext x) (fun h=>h) (fun _ _ _ h=>h)
theorem WayM.congr {T':Nat->Nat->Int}(h:WayM w base tc N n G r T)(e:∀ g l,1<=g->g<G->l<n->T g l=T' g l) : WayM w base tc N n G r T' :=
 ⟨h.tab,fun g h1 h2=>⟨(h.row g h1 h2).1.congr fun l hl=>e g l h1 h2 hl,(h.row g h1 h2).2⟩⟩
theorem WayM.put (h:WayM w base tc N n G r T)(hG:G<N){q:Nat}{u:Nat->Int}(hq:Arr w q n u)(hb:base<=q) : WayM (w.setCell ⟨tc,G,none⟩ (.slice (some ⟨q,0,none⟩) n n)) base tc N n (G+1) (fun g=>if g=G then q else r g) (fun g=>if g=G then u else T g):=by
 obtain⟨cs,hB,hs,hcs⟩:=h.tab;refine⟨⟨cs.setIfInBounds G (.slice (some ⟨q,0,none⟩) n n),hB.set G _,by simpa using hs,fun g h1 h2=>?_⟩,fun g h1 h2=>?_⟩
 ·by_cases e:g=G
  ·subst e
   simp[Array.getElem?_setIfInBounds,hs,hG]
  ·rw[if_neg e,Array.getElem?_setIfInBounds,if_neg (fun h=>e h.symm)]
   exact hcs g h1 (by omega)
 ·by_cases e:g=G
  ·simp only[if_pos e]
   exact⟨hq.far (hq.ne hB (by decide)) _,hb⟩
  ·simp only[if_neg e]
   have h3:=h.row g h1 (by omega);exact⟨h3.1.far (h3.1.ne hB (by decide)) _,h3.2⟩
theorem WayM.last {u:Nat->Int}{S:Nat->Prop}(h:WayM w base tc N n (G+1) r T)(m:Mod S w w')(hc:¬S tc)(hr:∀ g,1<=g->g<G->¬S (r g))(hu:Arr w' (r G) n u)(h1:1<=G) : WayM w' base tc N n (G+1) r (fun g=>if g=G then u else T g):=by
 obtain⟨cs,hB,hs,hcs⟩:=h.tab;refine⟨⟨cs,hB.mod m hc,hs,hcs⟩,fun g h2 h3=>?_⟩
 by_cases e:g=G
 ·subst e
  simp only[if_true];exact⟨hu,(h.row g h2 h3).2⟩
 ·simp only[if_neg e]
  exact⟨(h.row g h2 h3).1.mod m (hr g h2 (by omega)),(h.row g h2 h3).2⟩
end
def ZG (f:Nat->Int)(m:Nat) : Nat->Int×Nat
 | 0=>(Uz,0)
 | k+1=>if m.testBit k=true then(if f k<(ZG f m k).1 then(f k,k) else ZG f m k) else ZG f m k
theorem V5 {f:Nat->Int}{m:Nat} : ∀ {k:Nat},(∀ a,a<k->m.testBit a=true->f a<Uz)->(∀ a,a<k->m.testBit a=true->(ZG f m k).1<=f a)/\(ZG f m k=(Uz,0)\/((ZG f m k).2<k/\m.testBit (ZG f m k).2=true/\(ZG f m k).1=f (ZG f m k).2))/\((∃ a,a<k/\m.testBit a=true)->(ZG f m k).1<Uz)
 | 0,_=>⟨(fun a h=>by omega),Or.inl rfl,fun⟨a,h,_⟩=>by omega⟩
 | k+1,hf=>by
  obtain⟨i1,i2,i3⟩:=V5 (f:=f) (m:=m) (k:=k) fun a h1 h2=>hf a (by omega) h2
  unfold ZG
  by_cases hb:m.testBit k=true
  ·rw[if_pos hb]
   have h9:=hf k (by omega) hb
   by_cases hl:f k<(ZG f m k).1
   ·rw[if_pos hl]
    refine⟨fun a h1 h2=>?_,.inr ⟨by simp,hb,rfl⟩,fun _=>h9⟩
    by_cases e:a=k
    ·subst e
     exact Int.le_refl _
    ·have:=i1 a (by omega) h2
     simp only;omega
   ·rw[if_neg hl]
    refine⟨fun a h1 h2=>?_,?_,fun _=>by omega⟩
    ·by_cases e:a=k
     ·subst e
      omega
     ·exact i1 a (by omega) h2
    ·rcases i2 with h | ⟨h1,h2,h3⟩
     ·exact .inl h
     ·exact .inr ⟨by omega,h2,h3⟩
  ·rw[if_neg hb]
   have hne:∀ a,a<k+1->m.testBit a=true->a<k:=fun a h1 h2=>by
    by_cases e:a=k
    ·subst e
     exact absurd h2 hb
    ·omega
   refine⟨fun a h1 h2=>i1 a (hne a h1 h2) h2,?_,fun⟨a,h1,h2⟩=>i3 ⟨a,hne a h1 h2,h2⟩⟩;rcases i2 with h | ⟨h1,h2,h3⟩
   ·exact .inl h
   ·exact .inr ⟨by omega,h2,h3⟩
def Wb (rows:List (List Int))(n:Nat)(T:Nat->Nat->Int)(g l:Nat) : Int×Nat :=
 if g.testBit l=true then(if Zx g l=0 then(Zb rows 0 (l+1),0) else ZG (fun a=>T (Zx g l) a+Zb rows (a+1) (l+1)) (Zx g l) n) else(Uz,0)
theorem ZfA {rows:List (List Int)}{n:Nat}{T:Nat->Nat->Int}{Bk:Nat->Nat->Nat}{g l:Nat}(hn:n<=24)(hg:g<2^n)(hl:g.testBit l=true)
  (hf:∀ a,a<n->(Zx g l).testBit a=true->T (Zx g l) a+Zb rows (a+1) (l+1)<Uz) (hT:T g l=(Wb rows n T g l).1) (hB:Bk g l=(Wb rows n T g l).2):WayAt rows n T Bk g l:=by
 unfold Wb at hT hB;rw[if_pos hl] at hT hB;have hless:=Vo hn hg hl;refine⟨fun e=>?_,fun e=>?_,fun e=>?_⟩
 ·rw[if_pos e] at hT
  exact hT
 ·rw[if_neg e] at hT
  obtain⟨h1,_,_⟩:=V5 (f:=fun a=>T (Zx g l) a+Zb rows (a+1) (l+1)) (m:=Zx g l) (k:=n) hf;intro a ha hb;rw[hT];exact h1 a ha hb
 ·rw[if_neg e] at hT hB
  obtain⟨_,h2,h3⟩:=V5 (f:=fun a=>T (Zx g l) a+Zb rows (a+1) (l+1)) (m:=Zx g l) (k:=n) hf;have hex:∃ a,a<n/\(Zx g l).testBit a=true:=by
   obtain⟨a,ha⟩:=Nat.exists_testBit_of_ne_zero e;refine⟨a,?_,ha⟩
   by_cases h:a<n
   ·exact h
   ·rw[Nat.testBit_lt_two_pow (Nat.lt_of_lt_of_le (by omega:Zx g l<2^n) (Nat.pow_le_pow_right (by omega) (by omega)))] at ha
    cases ha
  have h4:=h3 hex;rcases h2 with h2 | ⟨k1,k2,k3⟩
  ·rw[h2] at h4
   simp at h4
  ·rw[hB,hT]
   exact⟨k1,k2,k3⟩
end Go.Proofs.YtmojhhlcocjoaaaGreatDoor
namespace Go.Proofs.YtmojhhlcocjoaaaGreatDoor
theorem WayOk.next {rows:List (List Int)}{n g:Nat}{T:Nat->Nat->Int}{Bk:Nat->Nat->Nat}(hn:n<=11)(hg:g<2^n)(h:WayOk rows n T Bk g)(num:∀ a b,a<n+1->b<n+1->0<=Zb rows a b/\Zb rows a b<=2147483647) :
  WayOk rows n (fun x j=>if x=g then(Wb rows n T g j).1 else T x j) (fun x j=>if x=g then(Wb rows n T g j).2 else Bk x j) (g+1):=by
 intro x l hx hl hb;have hx2:x<2^n:=by omega
 have hless:=Vo (n:=n) (by omega) hx2 hb;have p11:2^n<=2^11:=Nat.pow_le_pow_right (by omega) hn
 by_cases e:x=g
 ·subst e
  have ew:Wb rows n (fun y j=>if y=x then(Wb rows n T x j).1 else T y j) x l=Wb rows n T x l:=by
   unfold Wb;simp only[if_neg (show ¬Zx x l=x by omega)]
  refine ZfA (by omega) hx2 hb (fun a ha hab=>?_) (by rw[ew];simp) (by rw[ew];simp);simp only[if_neg (show ¬Zx x l=x by omega)];have h1:=WayOk.bd (n:=n) (by omega) (by omega) h num (Zx x l) a hless ha hab;have h2:=num (a+1) (l+1) (by omega) (by omega);unfold Uz;have h3:((Zx x l:Nat):Int)<=2048:=by omega
  generalize ((Zx x l:Nat):Int)=z at *;omega
 ·have w:=h x l (by omega) hl hb
  refine⟨fun h0=>?_,fun h0 a ha hab=>?_,fun h0=>?_⟩
  ·simp only[if_neg e]
   exact w.one h0
  ·simp only[if_neg e,if_neg (show ¬Zx x l=g by omega)]
   exact w.le h0 a ha hab
  ·obtain⟨k1,k2,k3⟩:=w.eq h0
   simp only[if_neg e,if_neg (show ¬Zx x l=g by omega)];exact⟨k1,k2,k3⟩
end Go.Proofs.YtmojhhlcocjoaaaGreatDoor
namespace Go.Proofs.YtmojhhlcocjoaaaGreatDoor
open Go
theorem Zch (a b:Nat)(ha:a<18446744073709551616) : ZR a b<=a:=by
 have e:a &&& ZR a b=ZR a b:=Nat.eq_of_testBit_eq fun j=>by
  rw[Nat.testBit_and,W5 ha]
  cases a.testBit j<;>simp
 rw[<-e];exact Nat.and_le_left
theorem Qo (a b:Nat)(ha:a<9223372036854775808)(hb:b<9223372036854775808) : bits .andNot .i64 (a:Int) (b:Int)=((ZR a b:Nat):Int):=by
 have h1:BitVec.ofInt 64 (a:Int)=BitVec.ofNat 64 a:=BitVec.ofInt_natCast ..;have h2:BitVec.ofInt 64 (b:Int)=BitVec.ofNat 64 b:=BitVec.ofInt_natCast ..;show IntKind.i64.wrap ((BitVec.ofInt 64 (a:Int) &&& ~~~ BitVec.ofInt 64 (b:Int)).toNat:Int)=_;rw[h1,h2];have:=Zch a b (by omega);unfold ZR at this ⊢;exact IntWalk.i64_in _ (by omega)
theorem Zar (a b:Nat)(ha:a<9223372036854775808)(hb:b<9223372036854775808) : bits .and .i64 (a:Int) (b:Int)=((a &&& b:Nat):Int):=by
 have h1:BitVec.ofInt 64 (a:Int)=BitVec.ofNat 64 a:=BitVec.ofInt_natCast ..;have h2:BitVec.ofInt 64 (b:Int)=BitVec.ofNat 64 b:=BitVec.ofInt_natCast ..;show IntKind.i64.wrap ((BitVec.ofInt 64 (a:Int) &&& BitVec.ofInt 64 (b:Int)).toNat:Int)=_;rw[h1,h2,BitVec.toNat_and,BitVec.toNat_ofNat,BitVec.toNat_ofNat,Nat.mod_eq_of_lt (by omega),Nat.mod_eq_of_lt (by omega)];have:=Nat.and_le_left (n:=a) (m:=b);exact IntWalk.i64_in _ (by omega)
theorem UC (m n:Nat)(hm:m<9223372036854775808) : (bits BinOp.and IntKind.i64 ((m:Int) / 2^n) 1==0) = !m.testBit n:=by
 have e:((m:Int) / 2^n)=((m / 2^n:Nat):Int):=by rw[Int.natCast_ediv,Int.natCast_pow];rfl
 have hlt:m / 2^n<9223372036854775808:=Nat.lt_of_le_of_lt (Nat.div_le_self _ _) hm;have h:=Zar (m / 2^n) 1 hlt (by omega);rw[e,show ((1:Int))=((1:Nat):Int) from rfl,h,Nat.and_one_is_mod,ZcE];split<;>rename_i hb
 ·rw[hb];rfl
 ·simp at hb;rw[hb];rfl
theorem XG (n:Nat)(hn:n<62) : IntKind.i64.wrap ((2:Int)^n)=((2^n:Nat):Int):=by
 have h1:2^n<2^62:=Nat.pow_lt_pow_right (by omega) hn;have e2:((2:Int)^n)=((2^n:Nat):Int):=by rw[Int.natCast_pow];rfl
 rw[e2];generalize 2^n=p at *;exact IntWalk.i64_in _ (by omega)
theorem ZcV (g l:Nat)(hg:g<9223372036854775808)(hl:l<62) : bits .andNot .i64 (g:Int) ((2^l:Nat):Int)=((Zx g l:Nat):Int):=by
 have h1:2^l<2^62:=Nat.pow_lt_pow_right (by omega) hl;exact Qo g (2^l) hg (by omega)
end Go.Proofs.YtmojhhlcocjoaaaGreatDoor
namespace Go.Proofs.YtmojhhlcocjoaaaGreatDoor
open Go.RowKit
section
variable {P:Program} {ops:Array Oper} {Q:Exit->Act->World->Prop}
theorem Wl {σ:Type}(rem:List (Nat×Option Tmp))(R:σ->World->Prop)(V:Nat->Value->σ->World->Prop)(Stab:σ->World->σ->World->Prop){listed0:Array Bool}(listed1:Array Bool)(hok:Wz ops listed0 listed1 rem=true)
  (stab:∀ j v s w s' w',V j v s w->Stab s w s' w'->V j v s' w')
  {a0:Act}
  (step:∀ p∈rem,∀ u s w,R s w->(∀ j∈Xx ops rem p.1,V j (u j) s w)->∀ K:Act->World->Prop,(∀ v s' w',V p.1 v s' w'->R s' w'->Stab s w s' w'->K ((Zk a0 rem u).put p.2 v) w')->wpOp P ops Q p.1 K (Zk a0 rem u) w)
  (n:Nat) (done:∀ u s w,R s w->(∀ p∈rem,V p.1 (u p.1) s w)->wpAny P .any ops Q n listed1 (Zk a0 rem u) w) {s0:σ} {w0:World} (hR:R s0 w0) :
  wpAny P .any ops Q (rem.length+n) listed0 a0 w0 :=
 Qc rem (fun _=>[]) R V (fun _=>Stab) listed1 hok (by simp[ZbE]) (fun _ j v s w s' w' _=>stab j v s w s' w') step n (fun u s w hR h=>done u s w hR fun p hp=>h p hp rfl) hR
end
end Go.Proofs.YtmojhhlcocjoaaaGreatDoor
