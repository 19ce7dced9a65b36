/- packed and squeezed by programs (see wip/) -/
import Derived.Test.YtmojhhlcocjoaaaGreatDoorKurganWaysP4
set_option maxRecDepth 100000
set_option maxHeartbeats 16000000
set_option linter.unusedVariables false
set_option linter.unusedSimpArgs false
namespace Go.Proofs.YtmojhhlcocjoaaaGreatDoor
open Go.RowKit Go.ChangeShapes Go.WideShapes Go.ChangeAt Go.Deep
def Vf (m last src:Nat) : Nat:=if src=last then m else Zx m src ||| 2^0
theorem Zb3 {m last src:Nat}(h:m<18446744073709551616)(h0:0∉Zc m) : Zc (Vf m last src)=Yc (Zc m) last src:=by
 unfold Vf Yc;split
 ·rfl
 ·rw[Q2,Xf h]
  intro hm;rw[Xf h] at hm;exact h0 (List.mem_filter.1 hm).1
theorem ZeG {m last src:Nat}(h:m<18446744073709551616) : Vf m last src<18446744073709551616:=by
 unfold Vf;split
 ·exact h
 ·exact Za7 (Qq m src) (by omega)
theorem Qj (m last:Nat)(cost:Int)(src:Nat)(hm:m<18446744073709551616)(hs:src<64)(w:World) : Calls Tryz.prog 283 #[Us m last cost,.int .i64 src] w fun e w'=>e=.returned (setV (Vf m last src))/\Ext w w':=by
 have B1:Blk ((w.alloc (.cells #[.int .u64 m,.int .u64 0,.int .i64 last,.int .i64 cost] 308)).alloc (.cells #[.int .u64 0,.int .u64 0] 141)) (w.heap.size+1) 141 #[.int .u64 0,.int .u64 0]:=.new (by simp);have f0:=B1.free 0;have f1:=B1.free 1;have c0:((w.alloc (.cells #[.int .u64 m,.int .u64 0,.int .i64 last,.int .i64 cost] 308)).alloc (.cells #[.int .u64 0,.int .u64 0] 141)).cell? ⟨w.heap.size+1,0,none⟩=some (.int .u64 0):=B1.cell 0;have c1:((w.alloc (.cells #[.int .u64 m,.int .u64 0,.int .i64 last,.int .i64 cost] 308)).alloc (.cells #[.int .u64 0,.int .u64 0] 141)).cell? ⟨w.heap.size+1,1,none⟩=some (.int .u64 0):=B1.cell 1;have X0:Hid (Ext w ((w.alloc (.cells #[.int .u64 m,.int .u64 0,.int .i64 last,.int .i64 cost] 308)).alloc (.cells #[.int .u64 0,.int .u64 0] 141))):=((Ext.rf _).alloc _).alloc _;unfold Vf
 by_cases e:src=last
 ·rw[if_pos e]
  have t0:((src:Int)==(last:Int))=true:=by rw[e];simp
  clear e;unfold setV;go_enter Tryz.func283,Tryz.ntmps283;go_wp2_with (fail);refine bodyPost_ret (v:=.agg #[.int .u64 m,.int .u64 0]) (by simp[results,Tryz.results283,go_sem, *]) rfl ⟨rfl,?_⟩;exact((Ext.rf _).alloc _).alloc _
 ·rw[if_neg e]
  have t0:((src:Int)==(last:Int))=false:=by rw[beq_eq_false_iff_ne];omega
  have WO:=fun(W:World)=>Xs m src hm hs W
  have WI:=fun(W:World)=>Ur (Zx m src) 0 (Qq m src) (by omega) W
  generalize Zx m src ||| 2^0=m2 at *
  generalize Zx m src=m1 at *;unfold setV at WO WI ⊢;replace WO:=Hd WO;replace WI:=Hd WI;replace B1:=Hd B1;clear e hm;go_enter Tryz.func283,Tryz.ntmps283;go_wp2_with (fail);refine(WO.out _).mono ?_;rintro e w1 ⟨rfl,x1⟩;have X1:=Hd (X0.out.tr x1);have b1:=Hd (B1.out.ext x1);clear x1 c0 c1 f0 f1;go_wp2_with (fail);refine(WI.out _).mono ?_;rintro e w2 ⟨rfl,x2⟩;have X2:=Hd (X1.out.tr x2);have b2:=b1.out.ext x2;have c0:=b2.c0;have c1:=b2.c1;have f0:=b2.free 0;have f1:=b2.free 1;clear x2;go_wp2_with (fail);refine bodyPost_ret (v:=.agg #[.int .u64 m2,.int .u64 0]) (by simp[results,Tryz.results283,go_sem, *]) rfl ⟨rfl,?_⟩;exact(X2.out.setNew (p:=⟨w.heap.size+1,0,none⟩) (by simp) _).setNew (p:=⟨w.heap.size+1,1,none⟩) (by simp) _
abbrev Zf4 (p:Int×Int) : Value:=.agg #[.int .i64 p.1,.int .i64 p.2]
theorem Zfp (p:Int×Int)(n:Int)(w:World) : Calls Tryz.prog 284 #[Zf4 p,.int .i64 n] w fun e w'=>e=.returned (Zf4 (Xu p n))/\Ext w w':=by
 obtain⟨a,b⟩:=p;unfold Xu;simp only[Zf4];have X:∀ c d:Value,Ext w ((w.alloc (.cells #[.int .i64 a,.int .i64 b] 313)).alloc (.cells #[c,d] 313)):=fun _ _=>((Ext.rf _).alloc _).alloc _
 by_cases h1:n<a
 ·rw[if_pos h1]
  go_enter Tryz.func284,Tryz.ntmps284;go_wp2_with (fail);refine bodyPost_ret (v:=.agg #[.int .i64 n,.int .i64 a]) (by simp[results,Tryz.results284,go_sem, *]) rfl ⟨rfl,?_⟩;exact X _ _
 ·rw[if_neg h1]
  by_cases h2:n<b
  ·rw[if_pos h2]
   go_enter Tryz.func284,Tryz.ntmps284;go_wp2_with (fail);refine bodyPost_ret (v:=.agg #[.int .i64 a,.int .i64 n]) (by simp[results,Tryz.results284,go_sem, *]) rfl ⟨rfl,?_⟩;exact X _ _
  ·rw[if_neg h2]
   go_enter Tryz.func284,Tryz.ntmps284;go_wp2_with (fail);refine bodyPost_ret (v:=.agg #[.int .i64 a,.int .i64 b]) (by simp[results,Tryz.results284,go_sem, *]) rfl ⟨rfl,?_⟩;exact X _ _
open Go.RowKit Go.ChangeShapes Go.WideShapes Go.ChangeAt Go.Deep Go.Shelf
attribute [local go_sem] Oper.semAt_some
theorem Zdy (u:World)(x:Int) : (Instr.buildSlice 22 1 #[(0,.int .i64 x)]).run Tryz.prog u=.ok (.slice (some ⟨u.heap.size,0,none⟩) 1 1) (u.alloc (.cells #[.int .i64 x] 3)):=by go_simp
theorem RdI.toRdC {w:World}{A:Option Addr}{xs:List Int}(h:RdI w A xs) : RdC w A (xs.map (Value.int .i64)):=by
 rcases h with rfl | ⟨b,off,rfl,hb,hc⟩
 ·exact .inl rfl
 ·refine .inr ⟨b,off,rfl,hb,fun j v hj=>?_⟩
  rw[List.getElem?_map] at hj;obtain⟨x,hx,rfl⟩:=Option.map_eq_some_iff.1 hj;exact hc j x hx
theorem Za9 (w:World)(base:Nat)(ty:TypeId)(g:Nat)(y:Int)(ys:List Int)(B:Option Addr)(c:Nat)(hg:Blk w g 3 #[.int .i64 y])(hb:base<=g)(hr:RdI w B ys)(hlen:ys.length<=2^40) :
  ∃ A' c' w',(Builtin.append_ #[22,22] ty #[.slice (some ⟨g,0,none⟩) 1 1,.slice B ys.length c]).run Tryz.prog w=.ok (.slice A' (y::ys).length c') w'/\OwI w' base A' c' (y::ys)/\Ext w w':=by
 obtain⟨i0,hi,hz0,hz1,hz2⟩:=info_parts YQ;obtain⟨A',c',w',h1,h2,h3⟩:=Zaz w (e:=3) Tryz.underlying22 hi hz0 hz1 hz2 (by simp[Value.cells]) (by omega) base ty g 1 #[.int .i64 y] B ys.length c (ys.map (Value.int .i64)) hg hb (by simp) hr.toRdC (by simp) (fun u hu=>by
  obtain⟨x,_,rfl⟩:=List.mem_map.1 hu
  rfl) (by simp only[maxLen];omega) (by omega)
 have e:1+ys.length=(y::ys).length:=by simp;omega
 rw[e] at h1 h2;exact⟨A',c',w',h1,h2,h3⟩
def Marks (B:Nat)(ds:List Deferred)(W:World) : Prop:=∃ rs:List Nat,ds=rs.map (fun r=>{ target:=.collected r,args:=#[] })/\rs.Nodup/\∀ r∈rs,B<=r/\W.heap[r]?=some (.deferred (some []))
theorem Uu {n:Nat}{fn:Func}{tmps:Array Value}{R:Ending->World->Prop}(w:World) : ∀ (rs:List Nat) (W:World),rs.Nodup->(∀ r∈rs,w.heap.size<=r/\W.heap[r]?=some (.deferred (some [])))->Ext w W ->
  (∀ W',Ext w W'->LeavesIn Fence.wide n Tryz.prog fn tmps R [] .returning W')->LeavesInM Fence.wide n Tryz.prog fn tmps R (rs.map fun r=>{ target:=.collected r,args:=#[] }) .returning W
 | [],W,_,_,hx,h=>h W hx
 | r::rs,W,hn,hr,hx,h=>by
  have h1:=hr r (by simp);have hn':=List.nodup_cons.1 hn;refine⟨by simp,.inl ⟨r,_,rfl,run_takeDeferred h1.2,Uu w rs _ hn'.2 (fun k hk=>?_) (hx.trans (belowK_b (w:=w) (Nat.le_refl _) W r _ _ h1.1 h1.2 rfl rfl)) h⟩⟩;have h2:=hr k (by simp[hk]);refine⟨h2.1,(World.putObj_heap_other ?_).trans h2.2⟩;rintro rfl;exact hn'.1 hk
theorem Marks.leaves {n:Nat}{fn:Func}{tmps:Array Value}{R:Ending->World->Prop}{w W:World}{ds:List Deferred}(h:Marks w.heap.size ds W)(hx:Ext w W)
  (hR:∀ W',Ext w W'->LeavesIn Fence.wide n Tryz.prog fn tmps R [] .returning W'):LeavesInM Fence.wide n Tryz.prog fn tmps R ds .returning W:=by
 obtain⟨rs,rfl,hn,hr⟩:=h;exact Uu w rs W hn hr hx hR
theorem Marks.nil (B:Nat)(W:World) : Marks B [] W:=⟨[],rfl,List.nodup_nil,fun _ h=>by cases h⟩
theorem Marks.keep {B:Nat}{ds:List Deferred}{W W':World}(h:Marks B ds W)(k:∀ b:Nat,W.heap[b]?=some (Obj.deferred (some []))->W'.heap[b]?=W.heap[b]?) : Marks B ds W':=by
 obtain⟨rs,h1,h2,h3⟩:=h;exact⟨rs,h1,h2,fun r hr=>⟨(h3 r hr).1,(k r (h3 r hr).2).trans (h3 r hr).2⟩⟩
theorem Marks.lt {B:Nat}{ds:List Deferred}{W:World}(h:Marks B ds W) : ∀ d∈ds,∃ r,d={ target:=.collected r,args:=#[] }/\r<W.heap.size:=by
 obtain⟨rs,rfl,_,h3⟩:=h;intro d hd;obtain⟨r,hr,rfl⟩:=List.mem_map.1 hd;exact⟨r,rfl,(Array.getElem?_eq_some_iff.1 (h3 r hr).2).1⟩
theorem Marks.cons {B D:Nat}{ds:List Deferred}{W0 W:World}(h:Marks B ds W0)(hD:W0.heap.size<=D)(hB:B<=D)(k:∀ b:Nat,W0.heap[b]?=some (Obj.deferred (some []))->W.heap[b]?=W0.heap[b]?)(hK:W.heap[D]?=some (.deferred (some []))) : Marks B ({ target:=.collected D,args:=#[] }::ds) W:=by
 obtain⟨rs,rfl,h2,h3⟩:=h;refine⟨D::rs,rfl,List.nodup_cons.2 ⟨fun hm=>?_,h2⟩,fun r hr=>?_⟩
 ·have:=(Array.getElem?_eq_some_iff.1 (h3 D hm).2).1
  omega
 ·rcases List.mem_cons.1 hr with rfl | hr
  ·exact⟨hB,hK⟩
  ·exact⟨(h3 r hr).1,(k r (h3 r hr).2).trans (h3 r hr).2⟩
theorem Marks.more {B B':Nat}{ds:List Deferred}{W:World}(h:Marks B ds W)(hB:B'<=B) : Marks B' ds W:=by
 obtain⟨rs,h1,h2,h3⟩:=h;exact⟨rs,h1,h2,fun r hr=>⟨Nat.le_trans hB (h3 r hr).1,(h3 r hr).2⟩⟩
def UV (rows:List (List Int))(us:List Nat)(last:Nat)(done:List Nat) : List Int:=(List.range rows.length).map fun x=>if x∈done then Z5 rows us last x else 0
theorem XS (rows:List (List Int))(us:List Nat)(last:Nat)(done:List Nat) : (UV rows us last done).length=rows.length:=by simp[UV]
theorem ZeH (rows:List (List Int))(us:List Nat)(last:Nat) : UV rows us last []=List.replicate rows.length 0:=by simp[UV,List.map_const']
theorem Q4 {rows:List (List Int)}{us:List Nat}{last:Nat}{done:List Nat}{x:Nat}(hx:x<rows.length) : (UV rows us last done)[x]?=some (if x∈done then Z5 rows us last x else 0):=by
 simp[UV,hx]
theorem Zdz {rows:List (List Int)}{us:List Nat}{last:Nat}{done:List Nat}{x:Nat} : (UV rows us last done).set x (Z5 rows us last x)=UV rows us last (done++[x]):=by
 apply List.ext_getElem?;intro j
 by_cases hj:j<rows.length
 ·rw[Q4 hj,List.getElem?_set,XS,Q4 hj]
  by_cases e:x=j
  ·subst e
   simp[hj]
  ·rw[if_neg e]
   have e':¬j=x:=fun h=>e h.symm
   simp[e']
 ·rw[List.getElem?_eq_none (by rw[List.length_set,XS];omega),List.getElem?_eq_none (by rw[XS];omega)]
def ZeI (w w5:World)(sb ob:Nat)(sum:Int)(n:Nat)(offs:List Int)(ds:List Deferred)(wr:World) : Prop :=
 w5.heap.size<=wr.heap.size/\Ext w wr/\(∀ b,b<w5.heap.size->b≠sb->b≠ob->wr.heap[b]?=w5.heap[b]?)/\Blk wr sb 3 #[.int .i64 sum]/\OwI wr 0 (some ⟨ob,0,none⟩) n offs/\Marks w5.heap.size ds wr
theorem Zb4 {base g:Nat}{rows:List (List Int)}{mi:Bool}(m last:Nat)(cost:Int)(ok:RowsOk rows)(hS:SubN rows.length m)(h0:0∉Zc m)(hla:last<rows.length)(w:World)(hT:Tab w)(H:KernT w base g rows mi) :
  CallsIn Fence.wide 3 Tryz.prog 280 #[.pointer (some ⟨g,0,none⟩),Us m last cost] w fun e W'=>e=.returned (.int .i64 (ZS rows (Zc m) last))/\Ext w W':=by
 obtain⟨C,cc,us,hB,_,hV,hR⟩:=H;have l1:=ok.n1;have l2:=ok.n2;have lus:Hid (us.length=rows.length):=hR.1;have cK:=((((hB.alloc (.cells #[.pointer (some ⟨g,0,none⟩)] 79)).alloc (.cells #[.int .u64 m,.int .u64 0,.int .i64 last,.int .i64 cost] 308)).alloc (.cells #[.int .i64 0] 3)).cell 0);simp only[List.getElem?_toArray,List.getElem?_cons_zero] at cK;have zg:=hB.lt;have hg:=Vv hT;have h63:∀ x∈Zc m,x<63:=fun x hx=>by have:=hS.2 x hx;omega
 have LI:=Hd (fun(W:World) (hW:Tab W)=>QN m hS.1 h63 W hW);unfold setV at LI;replace hB:=Hd hB;replace hV:=Hd hV;replace hR:=Hd hR;refine callsIn_of_wp_marks Tryz.func280 rfl trivial ?_ rfl;simp only[Tryz.ntmps280,List.size_toArray,List.length_cons,List.length_nil,Nat.reduceAdd,Nat.reduceSub,Array.replicate_succ,Array.replicate_zero,List.push_toArray,List.append_toArray,List.nil_append,List.cons_append]
 gi_wp2_with (gi_at_make;go_loud (refine Zak rfl _ _ rfl w.heap.size rows.length rfl rfl (by omega) (by simp;omega) ?_;intro w1 o1 g1))
 have bK1:=Hd ((Blk.new (w:=w) (t:=79) (cs:=#[.pointer (some ⟨g,0,none⟩)]) rfl).alloc (.cells #[.int .u64 m,.int .u64 0,.int .i64 last,.int .i64 cost] 308) |>.alloc (.cells #[.int .i64 0] 3) |>.grown g1 (by simp));have bW1:=Hd ((Blk.new (w:=w.alloc (.cells #[.pointer (some ⟨g,0,none⟩)] 79)) (t:=308) (cs:=#[.int .u64 m,.int .u64 0,.int .i64 last,.int .i64 cost]) rfl).alloc (.cells #[.int .i64 0] 3) |>.grown g1 (by simp));have bS1:=Hd ((Blk.new (w:=(w.alloc (.cells #[.pointer (some ⟨g,0,none⟩)] 79)).alloc (.cells #[.int .u64 m,.int .u64 0,.int .i64 last,.int .i64 cost] 308)) (t:=3) (cs:=#[.int .i64 0]) rfl).grown g1 (by simp));simp only[World.size_alloc] at bK1 bW1 bS1 o1;have X1:=Hd (((((Ext.rf w).alloc (.cells #[.pointer (some ⟨g,0,none⟩)] 79)).alloc (.cells #[.int .u64 m,.int .u64 0,.int .i64 last,.int .i64 cost] 308)).alloc (.cells #[.int .i64 0] 3)).grow g1 (by simp));obtain⟨sf,hsf⟩:∃ sf,Hid (sf=w1.heap.size):=⟨_,rfl⟩;have zf:w.heap.size+1+1+1<sf:=by rw[hsf.out];exact(OwI.lt o1 _ rfl).2
 have o2:=Hd (o1.ext ((Ext.rf w1).alloc (.cells #[.slice (some ⟨w.heap.size+1+1+1,0,none⟩) rows.length rows.length] 22)));have bF2:Hid (Blk (w1.alloc (.cells #[.slice (some ⟨w.heap.size+1+1+1,0,none⟩) rows.length rows.length] 22)) sf 22 #[.slice (some ⟨w.heap.size+1+1+1,0,none⟩) rows.length rows.length]):=.new hsf.out;have bK2:=Hd (bK1.out.alloc (.cells #[.slice (some ⟨w.heap.size+1+1+1,0,none⟩) rows.length rows.length] 22));have bW2:=Hd (bW1.out.alloc (.cells #[.slice (some ⟨w.heap.size+1+1+1,0,none⟩) rows.length rows.length] 22));have bS2:=Hd (bS1.out.alloc (.cells #[.slice (some ⟨w.heap.size+1+1+1,0,none⟩) rows.length rows.length] 22));have X2:=Hd (X1.out.alloc (.cells #[.slice (some ⟨w.heap.size+1+1+1,0,none⟩) rows.length rows.length] 22))
 try simp only[World.size_alloc]
 rw[<-hsf.out];generalize w1.alloc (.cells #[.slice (some ⟨w.heap.size+1+1+1,0,none⟩) rows.length rows.length] 22)=w2 at *;clear bK1 bW1 bS1 X1 o1 g1 cK;have T2:=Hd (hT.ext X2.out);refine Xi (by kernel_rfl) (by kernel_rfl) (fun _=>trivial) rfl rfl ?_
 change wpAny _ _ _ _ _ _ _ (World.drew _)
 refine Za (i:=0) (op:=Op.fieldAddr 308 (Operand.tmp 3) 1) (t:=0) (d:=some 24) (v:=?_) rfl (by decide +kernel) (by decide +kernel) (by decide +kernel) (fun _ _ _ h=>h) ?_ ?_
 case refine_2=>(intro _;unfold Zd;go_simp;try with_reducible rfl)
 try simp only[lay]
 refine Za (i:=3) (op:=Op.fieldAddr 308 (Operand.tmp 3) 0) (t:=0) (d:=some 27) (v:=?_) rfl (by decide +kernel) (by decide +kernel) (by decide +kernel) (fun _ _ _ h=>h) ?_ ?_
 case refine_2=>(intro _;unfold Zd;go_simp;try with_reducible rfl)
 try simp only[lay]
 refine WC (n:=1) [(1,some 25),(2,some 26),(4,some 28),(5,some 29),(6,some 30),(7,some 7)] (Ext w2)
  (VF (fun | 1=>some (.int .i64 last) | 4=>some (.agg #[.int .u64 m,.int .u64 0]) | _=>none)
   (fun i v W=>(i=2->∃ q,v=.slice (some ⟨q,0,none⟩) 1 1/\Blk W q 3 #[.int .i64 last]/\w2.heap.size<=q)/\(i=5->∃ A c,v=.slice A (Ze (Zc m)).length c/\RdI W A (Ze (Zc m)))/\(i=6->∃ A c,v=.slice A ((last:Int)::Ze (Zc m)).length c/\OwI W w2.heap.size A c ((last:Int)::Ze (Zc m)))/\(i=7->∃ q,v=.pointer (some ⟨q,0,none⟩)/\Blk W q 22 #[.slice none 0 0]/\w2.heap.size<=q)))
  Ext #[true,true,true,true,true,true,true,true,false] (by decide +kernel) (VF.stab ?_) ?_ ?_ ((Ext.rf _).drew)
 ·intro j v W W' _ h hx
  refine⟨fun e=>?_,fun e=>?_,fun e=>?_,fun e=>?_⟩
  ·obtain⟨q,h1,h2,h3⟩:=h.1 e
   exact⟨q,h1,h2.ext hx,h3⟩
  ·obtain⟨A,c,h1,h2⟩:=h.2.1 e
   exact⟨A,c,h1,h2.ext hx⟩
  ·obtain⟨A,c,h1,h2⟩:=h.2.2.1 e
   exact⟨A,c,h1,h2.ext hx⟩
  ·obtain⟨q,h1,h2,h3⟩:=h.2.2.2 e
   exact⟨q,h1,h2.ext hx,h3⟩
 ·intro pq hpm u w4 hR4 hD K hK
  have bw:=bW2.out.ext hR4;have r0:=bw.c0;have r1:=bw.c1;have r2:=bw.c2;simp only[List.mem_cons,List.not_mem_nil,or_false] at hpm;rcases hpm with rfl | rfl | rfl | rfl | rfl | rfl
  ·exact Zp (T:=3) rfl (.pointer (some ⟨w.heap.size+1,2,none⟩)) (by kernel_rfl) (.int .i64 last) (by go_simp) (hK _ _ (VF.mk rfl) hR4 (Ext.rf _))
  ·have h1:=(hD 1 (Zn (by kernel_rfl))).k rfl
   exact ZbG rfl _ (Eq.trans (b:=u 1) (by kernel_rfl) h1) _ (Zdy _ _) (hK _ _ (VF.mg rfl ⟨fun _=>⟨_,rfl,.new rfl,hR4.size⟩,(fun h=>by cases h),(fun h=>by cases h),(fun h=>by cases h)⟩) (hR4.alloc _) ((Ext.rf _).alloc _))
  ·exact Zp (T:=141) rfl (.pointer (some ⟨w.heap.size+1,0,none⟩)) (by kernel_rfl) (.agg #[.int .u64 m,.int .u64 0]) (by go_simp) (hK _ _ (VF.mk rfl) hR4 (Ext.rf _))
  ·have h4:=(hD 4 (Zn (by kernel_rfl))).k rfl
   refine Ym rfl #[.agg #[.int .u64 m,.int .u64 0]] (by go_simp) (by rw[<-h4];kernel_rfl) _ (LI.out _ (T2.out.ext hR4)) ?_;rintro e w3 ⟨A3,c3,rfl,o3,x3⟩;exact⟨_,rfl,hK _ _ (VF.mg rfl ⟨(fun h=>by cases h),fun _=>⟨A3,c3,rfl,o3.read⟩,(fun h=>by cases h),(fun h=>by cases h)⟩) (hR4.tr x3) x3⟩
  ·obtain⟨q,h2,b2,z2⟩:=((hD 2 (Zn (by kernel_rfl))).g rfl).1 rfl
   obtain⟨A,c,h5,o5⟩:=((hD 5 (Zn (by kernel_rfl))).g rfl).2.1 rfl;obtain⟨A6,c6,w6,hrun,o6,x6⟩:=Za9 w4 w2.heap.size 22 q (last:Int) (Ze (Zc m)) A c b2 z2 o5 (by rw[Zm];have:=Xq m;omega);exact Zac rfl _ _ (Eq.trans (b:=u 2) (by kernel_rfl) h2) (Eq.trans (b:=u 5) (by kernel_rfl) h5) _ hrun (hK _ _ (VF.mg rfl ⟨(fun h=>by cases h),(fun h=>by cases h),fun _=>⟨A6,c6,rfl,o6⟩,(fun h=>by cases h)⟩) (hR4.tr x6) x6)
  ·exact ZM (op:=.alloc 22) rfl (.pointer (some ⟨w4.heap.size,0,none⟩)) (w':=w4.alloc (.cells #[.slice none 0 0] 22)) (by unfold Zd;go_simp) (hK _ _ (VF.mg rfl ⟨(fun h=>by cases h),(fun h=>by cases h),(fun h=>by cases h),fun _=>⟨_,rfl,.new rfl,hR4.size⟩⟩) (hR4.alloc _) ((Ext.rf _).alloc _))
 ·intro u w4 hR4 hV4
  have h1:=(hV4 (1,some 25) (by simp)).k rfl;have h4:=(hV4 (4,some 28) (by simp)).k rfl;obtain⟨A6,c6,h6,o6⟩:=((hV4 (6,some 30) (by simp)).g rfl).2.2.1 rfl;obtain⟨q,h7,hq,hqz⟩:=((hV4 (7,some 7) (by simp)).g rfl).2.2.2 rfl;generalize u 2=y2 at *;generalize u 5=y5 at *;simp only[Zk,h1,h4,h6,h7];clear h1 h4 h6 h7 hV4;have cq:=hq.c0;have fq:=hq.free 0;obtain⟨srcs,hsr⟩:∃ srcs,Hid (srcs=last::Zc m):=⟨_,rfl⟩;have esr:(last:Int)::Ze (Zc m)=Ze srcs:=by rw[hsr.out];rfl
  rw[esr] at o6 ⊢;rw[Zm];have rb:Hid (Blk (w4.setCell ⟨q,0,none⟩ (.slice A6 srcs.length c6)) q 22 #[.slice A6 srcs.length c6]):=hq.set 0 (.slice A6 srcs.length c6);have X5:Ext w2 (w4.setCell ⟨q,0,none⟩ (.slice A6 srcs.length c6)):=hR4.setNew (p:=⟨q,0,none⟩) hqz _;have o7:Hid (OwI (w4.setCell ⟨q,0,none⟩ (.slice A6 srcs.length c6)) w2.heap.size A6 c6 (Ze srcs)):=o6.far hq (by decide) 0 _;refine Zi 8 (by decide +kernel) (Yl rfl (.pointer (some ⟨q,0,none⟩)) (.slice A6 srcs.length c6) (by kernel_rfl) (by kernel_rfl) (by go_simp;rfl) ?_);refine wpAny_done (by kernel_rfl) (VV ?_) _;clear cq fq hq hR4 o6 esr;generalize w4.setCell ⟨q,0,none⟩ (.slice A6 srcs.length c6)=w5 at *;clear w4;have X6:=Hd (X2.out.tr X5);have bK5:=Hd (bK2.out.ext X5);have bW5:=Hd (bW2.out.ext X5);have bS5:=Hd (bS2.out.ext X5);have bF5:=Hd (bF2.out.ext X5);have o5:=Hd (o2.out.ext X5);have z2:=bF2.out.lt;have z25:=X5.size;clear X2 bK2 bW2 bS2 bF2 o2 X5 T2;have cR:=rb.out.cell 0;simp only[List.getElem?_toArray,List.getElem?_cons_zero] at cR;go_simp
  gi_wp2
  have hsl:Hid (∀ s∈srcs,s<rows.length):=fun s h=>by
   rw[hsr.out] at h;rcases List.mem_cons.1 h with rfl | h
   ·exact hla
   ·exact hS.2 s h
  have lsr:srcs.length<=65:=by rw[hsr.out];have:=Xq m;simp;omega
  have COLS:Hid (∀ s,s<rows.length->Zc (Vf m last s)=Yc (Zc m) last s/\Vf m last s<18446744073709551616/\∀ x∈Zc (Vf m last s),x<rows.length):=fun s hs=>by
   have e:=Zb3 (last:=last) (src:=s) hS.1 h0;refine⟨e,ZeG hS.1,fun x hx=>?_⟩;rw[e] at hx;unfold Yc at hx;split at hx
   ·exact hS.2 x hx
   ·rcases List.mem_cons.1 hx with rfl | hx
    ·omega
    ·exact hS.2 x (List.mem_filter.1 hx).1
  have hcost:Hid (∀ a b,a<rows.length->b<rows.length->0<=Zb rows a b/\Zb rows a b<=2147483647):=fun a b ha hb=>by
   have e1:rows[a]?=some rows[a]:=List.getElem?_eq_getElem ha;have e2:=ok.row _ (List.getElem_mem ha);have e3:(rows[a])[b]?=some (rows[a])[b]:=List.getElem?_eq_getElem (by omega);unfold Zb;rw[getD_some e1,getD_some e3];exact ok.num _ (List.getElem_mem ha) _ (List.getElem_mem _)
  have hoff:Hid (∀ s,s<rows.length->0<=Z5 rows (Zc m) last s/\Z5 rows (Zc m) last s<=2147483647):=fun s hs=>by
   have h1:=Yz (f:=fun dst=>Zb rows s dst) (B:=2147483647) (l:=Yc (Zc m) last s) (b:=-1) (fun c hc=>by
    have h2:=(COLS.out s hs).2.2 c (by rw[(COLS.out s hs).1];exact hc);have:=hcost.out s c hs h2;omega) (by omega) (by omega)
   unfold Z5;omega
  have bsum:Hid (∀ k,0<=Zj ((srcs.take k).map fun s=>Z5 rows (Zc m) last s)/\Zj ((srcs.take k).map fun s=>Z5 rows (Zc m) last s)<=2147483647*65):=fun k=>by
   have h1:∀ l:List Nat,(∀ s∈l,s<rows.length)->0<=Zj (l.map fun s=>Z5 rows (Zc m) last s)/\Zj (l.map fun s=>Z5 rows (Zc m) last s)<=2147483647*(l.length:Int):=by
    intro l
    induction l with
    | nil=>intro _;simp[Zj]
    | cons x l ih =>
     intro h;have h2:=ih fun s hs=>h s (by simp[hs])
     have h3:=hoff.out x (h x (by simp));simp only[List.map_cons,Zj,List.length_cons];omega
   have h2:=h1 (srcs.take k) fun s hs=>hsl.out s (List.mem_of_mem_take hs)
   have h3:(srcs.take k).length<=65:=by rw[List.length_take];omega
   omega
  have START:Hid (ZeI w w5 (w.heap.size+1+1) (w.heap.size+1+1+1) (Zj ((srcs.take 0).map fun s=>Z5 rows (Zc m) last s)) rows.length (UV rows (Zc m) last (srcs.take 0)) [] w5) :=
   ⟨Nat.le_refl _,X6.out,fun _ _ _ _=>rfl,bS5.out,by rw[List.take_zero,ZeH];exact o5.out.more (Nat.zero_le _),.nil _ _⟩
  refine wpIn_loop (fun a' wr=>∃ (k:Nat) (ds:List Deferred) (u9 u10 u34 u35 u36 u37 u38 u39 u40 u60 u61 u62 u63 u64 u65 u66 u67 u68 u69 u70 u71:Value),(k<=srcs.length/\Hid (ZeI w w5 (w.heap.size+1+1) (w.heap.size+1+1+1) (Zj ((srcs.take k).map fun s=>Z5 rows (Zc m) last s)) rows.length (UV rows (Zc m) last (srcs.take k)) ds wr)) /\
    a'={ tmps:=#[.pointer (some ⟨g,0,none⟩),.agg #[.int .u64 m,.int .u64 0,.int .i64 last,.int .i64 cost],.pointer (some ⟨w.heap.size,0,none⟩),.pointer (some ⟨w.heap.size+1,0,none⟩),.int .i64 0,.pointer (some ⟨w.heap.size+1+1,0,none⟩),.pointer (some ⟨sf,0,none⟩),.pointer (some ⟨q,0,none⟩),undef,u9,u10,undef,undef,undef,undef,undef,undef,undef,.pointer (some ⟨g,0,none⟩),.pointer (some ⟨g,0,none⟩),.pointer (some ⟨g,0,none⟩),.slice C rows.length cc,.int .i64 rows.length,.slice (some ⟨w.heap.size+1+1+1,0,none⟩) rows.length rows.length,.pointer (some ⟨w.heap.size+1,2,none⟩),.int .i64 last,u 2,.pointer (some ⟨w.heap.size+1,0,none⟩),.agg #[.int .u64 m,.int .u64 0],u 5,.slice A6 srcs.length c6,.slice A6 srcs.length c6,.int .i64 srcs.length,.int .i64 k,u34,u35,u36,u37,u38,u39,u40,undef,undef,undef,undef,undef,undef,undef,undef,undef,undef,undef,undef,undef,undef,undef,undef,undef,undef,undef,u60,u61,u62,u63,u64,u65,u66,u67,u68,u69,u70,u71,undef,undef,undef,undef,undef,undef,undef,undef,undef,undef,undef,undef,undef,undef,undef,undef,undef,undef,undef,undef,undef,undef,undef,undef,undef,undef,undef,undef,undef,undef,undef,undef,undef,undef,undef,undef,undef,undef,undef,undef,undef,undef,undef,undef,undef,undef],defers:=ds }) (fun a' _=>srcs.length-(intOf (a'.tmps.getD 33 undef)).toNat) ?_ ?_
  ·exact⟨0,[],_,_,_,_,_,_,_,_,_,_,_,_,_,_,_,_,_,_,_,_,_,⟨by omega,START⟩,rfl⟩
  intro _ wr hinv;obtain⟨k,ds,u9,u10,u34,u35,u36,u37,u38,u39,u40,u60,u61,u62,u63,u64,u65,u66,u67,u68,u69,u70,u71,⟨hk,HH⟩,rfl⟩:=hinv;obtain⟨wo,rfl⟩:∃ wo:World,wo=wr:=⟨_,rfl⟩;clear START;obtain⟨z5,Y,hB5,bU,oO,hM⟩:=HH.out
  by_cases hlt:k<srcs.length
  ·have er:srcs[k]?=some srcs[k]:=List.getElem?_eq_getElem hlt
   have hmem:srcs[k]∈srcs:=List.getElem_mem hlt;have hs:=hsl.out _ hmem;have etk:srcs.take (k+1)=srcs.take k++[srcs[k]]:=by rw[List.take_add_one,er];rfl
   have hcols:=COLS.out _ hs;have CO:=Hd (fun(W:World)=>Qj m last cost srcs[k] hS.1 (by omega) W);have bo:=Hd (hoff.out _ hs);have o7w:Hid (OwI wo w2.heap.size A6 c6 (Ze srcs)):=o7.out.keep fun g hg=>by
    have h1:=OwI.lt o7.out g hg;exact hB5 g h1.2 (by omega) (by omega)
   obtain⟨ab,ao,xs,rfl,zab,cA,eA,-⟩:=(OwI.read o7w.out).at (k:=k) (by rw[Zm];exact hlt);have exs:xs=((srcs[k]:Nat):Int):=by
    have h:=eA.out;rw[UQ er] at h;exact(Option.some.inj h).symm
   subst exs;generalize srcs[k]=src at *;have erow:rows[src]?=some rows[src]:=List.getElem?_eq_getElem hs;obtain⟨D,d,hu,oD⟩:=hR.out.2 _ _ erow;have lrow:=ok.row _ (List.getElem_mem hs);have nrow:=ok.num _ (List.getElem_mem hs);have ecost:∀ b,Zb rows src b=(rows[src]).getD b 0:=fun b=>by unfold Zb;rw[getD_some erow]
   generalize rows[src]=row at *;replace oD:=Hd oD;replace nrow:=Hd nrow;replace ecost:=Hd ecost;replace etk:=Hd etk;obtain⟨mc,hmc⟩:∃ mc,Hid (Vf m last src=mc):=⟨_,rfl⟩;rw[hmc.out] at hcols CO;obtain⟨emc,hmc1,hmc2⟩:=hcols;replace emc:=Hd emc;replace hmc2:=Hd hmc2;have kb:Hid (Blk wo w.heap.size 79 #[.pointer (some ⟨g,0,none⟩)]):=(hB5 _ (by omega) (by omega) (by omega)).trans bK5.out;have fb:Hid (Blk wo sf 22 #[.slice (some ⟨w.heap.size+1+1+1,0,none⟩) rows.length rows.length]):=(hB5 _ (by omega) (by omega) (by omega)).trans bF5.out;have wb:Blk wo (w.heap.size+1) 308 #[.int .u64 m,.int .u64 0,.int .i64 last,.int .i64 cost]:=(hB5 _ (by omega) (by omega) (by omega)).trans bW5.out;replace wb:=(wb.alloc (.cells #[.int .i64 src] 3)).alloc (.cells #[.int .i64 (-1)] 3);have c0:((wo.alloc (.cells #[.int .i64 src] 3)).alloc (.cells #[.int .i64 (-1)] 3)).cell? ⟨w.heap.size+1,0,none⟩=some (.int .u64 m):=wb.cell 0;have c1:((wo.alloc (.cells #[.int .i64 src] 3)).alloc (.cells #[.int .i64 (-1)] 3)).cell? ⟨w.heap.size+1,1,none⟩=some (.int .u64 0):=wb.cell 1;have c2:((wo.alloc (.cells #[.int .i64 src] 3)).alloc (.cells #[.int .i64 (-1)] 3)).cell? ⟨w.heap.size+1,2,none⟩=some (.int .i64 last):=wb.cell 2;have c3:((wo.alloc (.cells #[.int .i64 src] 3)).alloc (.cells #[.int .i64 (-1)] 3)).cell? ⟨w.heap.size+1,3,none⟩=some (.int .i64 cost):=wb.cell 3;have q1:(k:Int)<(srcs.length:Int):=by omega
   have zO:w.heap.size+1+1+1+1<=wo.heap.size:=by omega
   replace Y:=Hd Y;replace hB5:=Hd hB5;replace bU:=Hd bU;replace oO:=Hd oO;replace hM:=Hd hM;replace hu:=Hd hu;replace erow:=Hd erow;unfold setV at CO;clear HH eA er wb
   gi_wp2
   refine⟨trivial,?_⟩;refine(callsIn_wide.2 (CO.out _)).mono ?_;rintro e w6 ⟨rfl,x6⟩
   gi_wp2
   refine⟨trivial,?_⟩;refine(callsIn_wide.2 (Wi mc _)).mono ?_;rintro e w7 ⟨rfl,rfl⟩
   gi_wp2
   have zO6:wo.heap.size+1+1<=w6.heap.size:=by have:=x6.size;simpa using this
   have xo6:Hid (Ext wo (w6.alloc (.cells #[.int .u64 mc,.int .u64 0] 141))):=(Ext.tr (((Ext.rf wo).alloc _).alloc _) x6).alloc _;have bB:Blk (w6.alloc (.cells #[.int .u64 mc,.int .u64 0] 141)) w6.heap.size 141 #[.int .u64 mc,.int .u64 0]:=.new rfl;have hB0:Ext w (w6.alloc (.cells #[.int .u64 mc,.int .u64 0] 141)):=Y.out.tr xo6.out;have bL:Blk (w6.alloc (.cells #[.int .u64 mc,.int .u64 0] 141)) (wo.heap.size+1) 3 #[.int .i64 (-1)]:=((Blk.new (by simp)).ext x6).alloc _;have bN:Hid (Blk (w6.alloc (.cells #[.int .u64 mc,.int .u64 0] 141)) wo.heap.size 3 #[.int .i64 src]):=(((Blk.new (by simp)).alloc _).ext x6).alloc _;have h63c:∀ x∈Zc mc,x<63:=fun x hx=>by have:=hmc2.out x hx;omega
   refine wpIn_rangeFunc_ownG rfl (by omega) (gf:=140) (lb:=#[.pointer (some ⟨w6.heap.size,0,none⟩)]) rfl trivial (enters_of Tryz.func140 (by kernel_rfl) rfl)
    (YM 2 mc hmc1 h63c w6.heap.size w.heap.size _ bB (hT.ext hB0) hB0.size hg) SetKp.tr (Wj (cs:=#[.int .u64 mc,.int .u64 0]) hB0.size bB) (Below.refl _ _) (fun _=>rfl)
    (fun pre W=>Blk W (wo.heap.size+1) 3 #[.int .i64 (Zt (fun dst=>Zb rows src dst) (-1) (inL pre))]/\Held (w6.alloc (.cells #[.int .u64 mc,.int .u64 0] 141)) (wo.heap.size+1) W/\Below w.heap.size w W)
    (fun _ _ _=>False)
    (OwnFrom.and (ZQ (by simp<;>omega) _ _) (OwnFrom.and (YU (Nat.le_refl _)) (ownFrom_below (Nat.le_refl _) (by simp<;>omega))))
    (fun _ _ _ _ _ hs _ _=>hs)
    ⟨by simpa [inL,Zt] using bL,⟨Nat.le_refl _,fun _ _ _=>rfl⟩,hB0⟩
    (fun x=>{ tmps:=#[.pointer (some ⟨g,0,none⟩),.agg #[.int .u64 m,.int .u64 0,.int .i64 last,.int .i64 cost],.pointer (some ⟨w.heap.size,0,none⟩),.pointer (some ⟨w.heap.size+1,0,none⟩),.int .i64 0,.pointer (some ⟨w.heap.size+1+1,0,none⟩),.pointer (some ⟨sf,0,none⟩),.pointer (some ⟨q,0,none⟩),undef,.pointer (some ⟨wo.heap.size,0,none⟩),.pointer (some ⟨wo.heap.size+1,0,none⟩),.int .i64 ((x.1:Nat):Int),undef,undef,undef,undef,undef,undef,.pointer (some ⟨g,0,none⟩),.pointer (some ⟨g,0,none⟩),.pointer (some ⟨g,0,none⟩),.slice C rows.length cc,.int .i64 rows.length,.slice (some ⟨w.heap.size+1+1+1,0,none⟩) rows.length rows.length,.pointer (some ⟨w.heap.size+1,2,none⟩),.int .i64 last,u 2,.pointer (some ⟨w.heap.size+1,0,none⟩),.agg #[.int .u64 m,.int .u64 0],u 5,.slice (some ⟨ab,ao,none⟩) srcs.length c6,.slice (some ⟨ab,ao,none⟩) srcs.length c6,.int .i64 srcs.length,.int .i64 k,.bool true,.pointer (some ⟨ab,ao+k,none⟩),.int .i64 src,.agg #[.int .u64 m,.int .u64 0,.int .i64 last,.int .i64 cost],.int .i64 src,.agg #[.int .u64 mc,.int .u64 0],.func (.func 140) #[] #[.pointer (some ⟨w6.heap.size,0,none⟩)],.int .i64 ((x.1:Nat):Int),undef,undef,undef,undef,undef,undef,undef,undef,undef,undef,undef,undef,undef,undef,undef,undef,undef,undef,u60,u61,u62,u63,u64,u65,u66,u67,u68,u69,u70,u71,undef,undef,undef,undef,undef,undef,undef,undef,undef,undef,undef,undef,undef,undef,undef,undef,undef,undef,undef,undef,undef,undef,undef,undef,undef,undef,undef,undef,undef,undef,undef,undef,undef,undef,undef,undef,undef,undef,undef,undef,undef,undef,undef,undef,undef,undef],defers:=[] }) ?assign ?body ?done ?stop
   case assign =>
    intro l x W K hK
    gi_wp2
    exact hK
   case body =>
    rintro l pre x W ⟨hO,hH,hBW⟩ hlt;obtain⟨bb,hbb⟩:∃ bb,Hid (bb=Zt (fun dst=>Zb rows src dst) (-1) (inL pre)):=⟨_,rfl⟩;rw[<-hbb.out] at hO;have hxr:=hmc2.out x.1 x.2;have cKb:W.cell? ⟨w.heap.size,0,none⟩=some (.pointer (some ⟨g,0,none⟩)):=(hH.blk (kb.out.ext xo6.out) (by omega)).cell 0;have cN:W.cell? ⟨wo.heap.size,0,none⟩=some (.int .i64 src):=(hH.blk bN.out (by omega)).cell 0;have cL:=hO.c0;have fL:=hO.free 0;obtain⟨rb,ro,vv,rfl,zv,cv,ev⟩:=(hV.out.read.ext hBW).at (j:=src) (by rw[lus.out];exact hs);obtain rfl:.slice D row.length d=vv:=by
     have h:=ev.out;rw[hu.out] at h;exact Option.some.inj h
    obtain⟨cb,co,y,rfl,zy,cy,ey,_⟩:=(oD.out.read.ext hBW).at (k:=x.1) (by omega);have cG:W.cell? ⟨g,0,none⟩=some (.slice (some ⟨rb,ro,none⟩) rows.length cc):=(hB.out.ext hBW).cell 0;have eN:Hid (Zt (fun dst=>Zb rows src dst) (-1) (inL (pre++[x]))=if bb<0 then y else if y<bb then y else bb):=Hd (by
     rw[Xr,Wk,<-hbb.out,ecost.out,getD_some ey.out])
    have q2:(src:Int)<(rows.length:Int):=by omega
    have q3:((x.1:Nat):Int)<(row.length:Int):=by omega
    have zW:w6.heap.size+1<=W.heap.size:=by have:=hH.1;simpa using this
    have E0:Hid (∀ nq:Nat,KeepsFrom (w6.heap.size+1) W (W.drewN nq)/\SetKp w.heap.size w6.heap.size W (W.drewN nq)/\Blk (W.drewN nq) (wo.heap.size+1) 3 #[.int .i64 bb]/\Held (w6.alloc (.cells #[.int .u64 mc,.int .u64 0] 141)) (wo.heap.size+1) (W.drewN nq)/\Below w.heap.size w (W.drewN nq)):=fun nq =>
     have xr:Ext W (W.drewN nq):=(Ext.rf W).drewN nq
     ⟨KeepsFrom.of_ext xr,⟨xr.mono (by omega),rfl⟩,hO.drewN nq,hH.ext xr,hBW.trans (xr.mono (by omega))⟩
    have E1:Hid (∀ nq:Nat,KeepsFrom (w6.heap.size+1) W ((W.drewN nq).setCell ⟨wo.heap.size+1,0,none⟩ (.int .i64 y))/\SetKp w.heap.size w6.heap.size W ((W.drewN nq).setCell ⟨wo.heap.size+1,0,none⟩ (.int .i64 y))/\Blk ((W.drewN nq).setCell ⟨wo.heap.size+1,0,none⟩ (.int .i64 y)) (wo.heap.size+1) 3 #[.int .i64 y]/\Held (w6.alloc (.cells #[.int .u64 mc,.int .u64 0] 141)) (wo.heap.size+1) ((W.drewN nq).setCell ⟨wo.heap.size+1,0,none⟩ (.int .i64 y))/\Below w.heap.size w ((W.drewN nq).setCell ⟨wo.heap.size+1,0,none⟩ (.int .i64 y))):=fun nq =>
     have xr:Ext W (W.drewN nq):=(Ext.rf W).drewN nq
     ⟨(KeepsFrom.of_ext xr).trans ((KeepsOthers.setCell _ _ _).from _),⟨(xr.mono (by omega)).setCell (by simp<;>omega) _,Below.heap_setCell (W.drewN nq) ⟨wo.heap.size+1,0,none⟩ _ w6.heap.size (by simp;omega)⟩,(hO.drewN nq).set 0 _,(hH.ext xr).set _,(hBW.trans (xr.mono (by omega))).setCell (by simp<;>omega) _⟩
    have hmx:Tryz.prog.follows .mixedOrders=true:=by kernel_rfl
    clear ev ey hbb;replace hO:=Hd hO;replace hH:=Hd hH;replace hBW:=Hd hBW
    by_cases hneg:bb<0
    ·rw[if_pos hneg] at eN
     gi_wp2
     refine Zg (by kernel_rfl) (by kernel_rfl) (by kernel_rfl) ?_
     repeat (gi_big_quiet_step (fail))
     refine wpQuietIn_nil ?_;rintro _ ⟨nq,rfl⟩
     gi_wp2
     obtain⟨e1,e2,e3,e4,e5⟩:=E1.out nq;exact⟨by rw[World.size_alloc];exact e1,e2,by rw[eN.out];exact e3,e4,e5⟩
    ·rw[if_neg hneg] at eN
     by_cases hy:y<bb
     ·rw[if_pos hy] at eN
      gi_wp2
      refine Zg (by kernel_rfl) (by kernel_rfl) (by kernel_rfl) ?_
      repeat (gi_big_quiet_step (fail))
      refine wpQuietIn_nil ?_;rintro _ ⟨nq,rfl⟩
      gi_wp2
      obtain⟨e1,e2,e3,e4,e5⟩:=E1.out nq;exact⟨by rw[World.size_alloc];exact e1,e2,by rw[eN.out];exact e3,e4,e5⟩
     ·rw[if_neg hy] at eN
      gi_wp2
      refine Zg (by kernel_rfl) (by kernel_rfl) (by kernel_rfl) ?_
      repeat (gi_big_quiet_step (fail))
      refine wpQuietIn_nil ?_;rintro _ ⟨nq,rfl⟩
      gi_wp2
      obtain⟨e1,e2,e3,e4,e5⟩:=E0.out nq;exact⟨by rw[World.size_alloc];exact e1,e2,by rw[eN.out];exact e3,e4,e5⟩
   case done =>
    rintro D ys W hD rfl ⟨hO,hH,hBW⟩ hK;rw[Yr,emc.out] at hO;obtain⟨bb,hbb⟩:∃ bb,Hid (bb=Zt (fun dst=>Zb rows src dst) (-1) (Yc (Zc m) last src)):=⟨_,rfl⟩;rw[<-hbb.out] at hO;have eoff:Hid (Z5 rows (Zc m) last src=max bb 0):=Hd (by unfold Z5;rw[hbb.out]);obtain⟨ov,hov⟩:∃ ov,Hid (ov=Z5 rows (Zc m) last src):=⟨_,rfl⟩;rw[<-hov.out] at eoff bo;have emax:(if bb<0 then 0 else bb)=ov:=by rw[eoff.out];split<;>omega
    rw[World.size_alloc] at hD;have cL:=hO.c0;have cN:W.cell? ⟨wo.heap.size,0,none⟩=some (.int .i64 src):=(hH.blk bN.out (by omega)).cell 0;have cF:W.cell? ⟨sf,0,none⟩=some (.slice (some ⟨w.heap.size+1+1+1,0,none⟩) rows.length rows.length):=(hH.blk (fb.out.ext xo6.out) (by omega)).cell 0;have oW:OwI W 0 (some ⟨w.heap.size+1+1+1,0,none⟩) rows.length (UV rows (Zc m) last (srcs.take k)):=(oO.out.ext xo6.out).keep fun z hz=>by
     obtain rfl:w.heap.size+1+1+1=z:=by simpa [bl] using hz
     exact hH.2 _ (by simp;omega) (by omega)
    obtain⟨old,cOb,fOb,-,-,sOb⟩:=OwI.cell oW (k:=src) (by rw[XS];exact hs);have bUW:=hH.blk (bU.out.ext xo6.out) (by omega);have bb1:=bsum.out k;have bb2:=bsum.out (k+1);rw[etk.out,List.map_append,List.map_cons,List.map_nil,XI,<-hov.out] at bb2;obtain⟨su,hsu⟩:∃ su,Hid (su=Zj ((srcs.take k).map fun s=>Z5 rows (Zc m) last s)):=⟨_,rfl⟩;rw[<-hsu.out] at bUW bb1 bb2;have hw:IntKind.i64.wrap (su+ov)=su+ov:=IntWalk.i64_in _ (by omega);have oW1:=sOb.out ov;obtain⟨ov2,cOb1,-,-,eOb1,-⟩:=OwI.cell oW1 (k:=src) (by rw[List.length_set,XS];exact hs);obtain rfl:ov=ov2:=by
     have h:=eOb1.out;rw[List.getElem?_set_self (by rw[XS];exact hs)] at h;exact Option.some.inj h
    have cU1:(W.setCell ⟨w.heap.size+1+1+1,src,none⟩ (.int .i64 ov)).cell? ⟨w.heap.size+1+1,0,none⟩=some (.int .i64 su):=(bUW.far (p:=⟨w.heap.size+1+1+1,src,none⟩) (by simp) _).cell 0;have fU1:(W.setCell ⟨w.heap.size+1+1+1,src,none⟩ (.int .i64 ov)).frozen? ⟨w.heap.size+1+1,0,none⟩=false:=(bUW.far (p:=⟨w.heap.size+1+1+1,src,none⟩) (by simp) _).free 0;have cN1:(W.setCell ⟨w.heap.size+1+1+1,src,none⟩ (.int .i64 ov)).cell? ⟨wo.heap.size,0,none⟩=some (.int .i64 src):=((hH.blk bN.out (by omega)).far (p:=⟨w.heap.size+1+1+1,src,none⟩) (by simp;omega) _).cell 0;have cF1:(W.setCell ⟨w.heap.size+1+1+1,src,none⟩ (.int .i64 ov)).cell? ⟨sf,0,none⟩=some (.slice (some ⟨w.heap.size+1+1+1,0,none⟩) rows.length rows.length):=((hH.blk (fb.out.ext xo6.out) (by omega)).far (p:=⟨w.heap.size+1+1+1,src,none⟩) (by simp;omega) _).cell 0;have q2:(src:Int)<(rows.length:Int):=by omega
    have zW:w6.heap.size+1<=W.heap.size:=by have:=hH.1;simpa using this
    have NOW:Hid (ZeI w w5 (w.heap.size+1+1) (w.heap.size+1+1+1) (Zj ((srcs.take (k+1)).map fun s=>Z5 rows (Zc m) last s)) rows.length (UV rows (Zc m) last (srcs.take (k+1))) ({ target:=.collected D,args:=#[] }::ds) (((W.setCell ⟨w.heap.size+1+1+1,src,none⟩ (.int .i64 ov)).setCell ⟨w.heap.size+1+1,0,none⟩ (.int .i64 (su+ov))).drew)):=by
     have key:∀ b,b≠w.heap.size+1+1->b≠w.heap.size+1+1+1->(((W.setCell ⟨w.heap.size+1+1+1,src,none⟩ (.int .i64 ov)).setCell ⟨w.heap.size+1+1,0,none⟩ (.int .i64 (su+ov))).drew).heap[b]?=W.heap[b]?:=fun b h1 h2 =>
      (Below.heap_setCell _ ⟨w.heap.size+1+1,0,none⟩ _ b (by simpa using h1)).trans (Below.heap_setCell W ⟨w.heap.size+1+1+1,src,none⟩ _ b (by simpa using h2))
     have key2:∀ b,b<wo.heap.size->b≠w.heap.size+1+1->b≠w.heap.size+1+1+1->(((W.setCell ⟨w.heap.size+1+1+1,src,none⟩ (.int .i64 ov)).setCell ⟨w.heap.size+1+1,0,none⟩ (.int .i64 (su+ov))).drew).heap[b]?=wo.heap[b]?:=fun b h0 h1 h2 =>
      (key b h1 h2).trans ((hH.2 b (by simp;omega) (by omega)).trans (xo6.out.block b h0))
     refine⟨by simp[World.drew];omega,((hBW.setCell (by simp<;>omega) _).setCell (by simp<;>omega) _).drew,fun b h0 h1 h2=>(key2 b (by omega) h1 h2).trans (hB5.out b h0 h1 h2),?_,?_,?_⟩
     ·rw[etk.out,List.map_append,List.map_cons,List.map_nil,XI,<-hov.out,<-hsu.out]
      exact((bUW.far (p:=⟨w.heap.size+1+1+1,src,none⟩) (by simp) _).set 0 _).drew
     ·rw[etk.out,<-Zdz,<-hov.out]
      refine oW1.keep fun z hz=>?_
      obtain rfl:w.heap.size+1+1+1=z:=by simpa [bl] using hz
      exact Below.heap_setCell _ ⟨w.heap.size+1+1,0,none⟩ _ _ (by simp)
     ·have bOb:∃ cs,Blk wo (w.heap.size+1+1+1) 3 cs:=by
       rcases OwI.cases oO.out with⟨h,_⟩ | ⟨z,cur,h,_,h2,_⟩
       ·cases h
       ·injection h with h
        injection h with h
        subst h;exact⟨cur,h2⟩
      obtain⟨cs,bOb⟩:=bOb;refine hM.out.cons (D:=D) (by omega) (by omega) (fun b hb=>key2 b (Array.getElem?_eq_some_iff.1 hb).1 (fun e=>?_) (fun e=>?_)) ((key D (by omega) (by omega)).trans hK)
      ·subst e
       have h:=bU.out;unfold Blk at h;rw[h] at hb
       cases hb
      ·subst e
       unfold Blk at bOb;rw[bOb] at hb
       cases hb
    have mk:Hid (srcs.length-(k+1)<srcs.length-k):=Hd (by omega);replace bUW:=Hd bUW;replace oW1:=Hd oW1;replace hH:=Hd hH;replace hBW:=Hd hBW;replace hK:=Hd hK;clear eOb1 oW hO bb1 bb2
    gi_wp2
    refine Xi (by kernel_rfl) (by kernel_rfl) (fun _=>trivial) rfl rfl ?_
    change wpAny _ _ _ _ _ _ _ (World.drew _)
    refine YJ (n:=1) [(0,some 65),(1,some 66),(2,some 67),(3,some 68),(4,some 69),(5,some 70)] (fun | 0=>.int .i64 su | 1=>.slice (some ⟨w.heap.size+1+1+1,0,none⟩) rows.length rows.length | 2=>.int .i64 src | 3=>.pointer (some ⟨w.heap.size+1+1+1,src,none⟩) | 4=>.int .i64 ov | 5=>.int .i64 (su+ov) | _=>undef) #[true,true,true,true,true,true,false] (by decide +kernel) ?_ ?_
    ·intro pS hpm uS hD K hK
     simp only[List.mem_cons,List.not_mem_nil,or_false] at hpm;rcases hpm with rfl | rfl | rfl | rfl | rfl | rfl
     ·exact Zp (T:=3) (x:=Operand.tmp 5) (t:=3) (d:=some 65) rfl (.pointer (some ⟨w.heap.size+1+1,0,none⟩)) (by kernel_rfl) (.int .i64 su) (by go_simp) hK
     ·exact Zp (T:=22) (x:=Operand.tmp 6) (t:=22) (d:=some 66) rfl (.pointer (some ⟨sf,0,none⟩)) (by kernel_rfl) (.slice (some ⟨w.heap.size+1+1+1,0,none⟩) rows.length rows.length) (by go_simp) hK
     ·exact Zp (T:=3) (x:=Operand.tmp 9) (t:=3) (d:=some 67) rfl (.pointer (some ⟨wo.heap.size,0,none⟩)) (by kernel_rfl) (.int .i64 src) (by go_simp) hK
     ·exact Z2 (T:=22) (x:=Operand.tmp 66) (y:=Operand.tmp 67) (t:=0) (d:=some 68) rfl (.slice (some ⟨w.heap.size+1+1+1,0,none⟩) rows.length rows.length) (.int .i64 src) (Eq.trans (b:=uS 1) (by kernel_rfl) (hD 1 (Zn (by kernel_rfl)))) (Eq.trans (b:=uS 2) (by kernel_rfl) (hD 2 (Zn (by kernel_rfl)))) (.pointer (some ⟨w.heap.size+1+1+1,src,none⟩)) (by go_simp) hK
     ·exact Zp (T:=3) (x:=Operand.tmp 68) (t:=3) (d:=some 69) rfl (.pointer (some ⟨w.heap.size+1+1+1,src,none⟩)) (Eq.trans (b:=uS 3) (by kernel_rfl) (hD 3 (Zn (by kernel_rfl)))) (.int .i64 ov) (by go_simp) hK
     ·(have e0:uS 0=.int .i64 su:=hD 0 (Zn (by kernel_rfl));have e4:uS 4=.int .i64 ov:=hD 4 (Zn (by kernel_rfl));exact ZM (op:=Op.binOp BinOp.add 3 (Operand.tmp 65) (Operand.tmp 69) 3) (t:=3) (d:=some 70) rfl (.int .i64 (su+ov)) (by simp only[Zk,Act.put,List.setIfInBounds_toArray,List.set_cons_zero,List.set_cons_succ];unfold Zd;go_simp;try simp only[e0,e4];try go_simp) hK)
    simp only[Zk,Act.put,List.setIfInBounds_toArray,List.set_cons_zero,List.set_cons_succ];refine Zi 6 (by decide +kernel) (Yl rfl (.pointer (some ⟨w.heap.size+1+1,0,none⟩)) (.int .i64 (su+ov)) (by kernel_rfl) (by kernel_rfl) (by go_simp;rfl) ?_)
    try simp only[lay]
    refine wpAny_done (by kernel_rfl) (VV ?_) _;clear cOb1 cU1 fU1 cN1 cF1 cOb fOb sOb
    gi_wp2
    have ek:(k:Int)+1=((k+1:Nat):Int):=by omega
    rw[ek];refine⟨⟨k+1,_,_,_,_,_,_,_,_,_,_,_,_,_,_,_,_,_,_,_,_,_,_,⟨by omega,NOW⟩,rfl⟩,?_⟩;show srcs.length-(intOf (.int .i64 ((k+1:Nat):Int))).toNat<srcs.length-(intOf (.int .i64 (k:Int))).toNat;simp only[intOf,Int.toNat_natCast];exact mk.out
   case stop =>
    rintro D c pre W _ _ h _;exact h.elim
  ·obtain rfl:k=srcs.length:=by omega
   rw[List.take_length] at bU oO;have WI:=Hd (fun(W:World)=>Ur m 0 hS.1 (by omega) W);have emh:=Q2 h0;have hmh1:=Za7 hS.1 (i:=0) (by omega);obtain⟨mh,hmh⟩:∃ mh,Hid (m ||| 2^0=mh):=⟨m ||| 2^0,rfl⟩;rw[hmh.out] at WI emh hmh1;replace emh:=Hd emh;have hmh2:Hid (∀ x∈Zc mh,x<rows.length):=fun x hx=>by
    rw[emh.out] at hx;rcases List.mem_cons.1 hx with rfl | hx
    ·omega
    ·exact hS.2 x hx
   have kb:Hid (Blk wo w.heap.size 79 #[.pointer (some ⟨g,0,none⟩)]):=(hB5 _ (by omega) (by omega) (by omega)).trans bK5.out;have fb:Hid (Blk wo sf 22 #[.slice (some ⟨w.heap.size+1+1+1,0,none⟩) rows.length rows.length]):=(hB5 _ (by omega) (by omega) (by omega)).trans bF5.out;have qb:Hid (Blk wo q 22 #[.slice A6 srcs.length c6]):=(hB5 _ rb.out.lt (by omega) (by omega)).trans rb.out;have wb:Hid (Blk wo (w.heap.size+1) 308 #[.int .u64 m,.int .u64 0,.int .i64 last,.int .i64 cost]):=(hB5 _ (by omega) (by omega) (by omega)).trans bW5.out;have o7w:Hid (OwI wo w2.heap.size A6 c6 (Ze srcs)):=o7.out.keep fun z hz=>by
    have h1:=OwI.lt o7.out z hz;exact hB5 z h1.2 (by omega) (by omega)
   have c0:=wb.out.c0;have c1:=wb.out.c1;have q0:¬((srcs.length:Int)<(srcs.length:Int)):=by omega
   have zO:w.heap.size+1+1+1+1<=wo.heap.size:=by omega
   have zq:q<wo.heap.size:=qb.out.lt;have zsf:sf<wo.heap.size:=fb.out.lt;replace Y:=Hd Y;replace bU:=Hd bU;replace oO:=Hd oO;replace hM:=Hd hM;replace hB5:=Hd hB5;unfold setV at WI;clear HH
   gi_wp2
   refine⟨trivial,?_⟩;refine(callsIn_wide.2 (WI.out _)).mono ?_;rintro e w6 ⟨rfl,x6⟩
   gi_wp2
   refine⟨trivial,?_⟩;refine(callsIn_wide.2 (Wi mh _)).mono ?_;rintro e w7 ⟨rfl,rfl⟩
   gi_wp2
   have xo6:Hid (Ext wo (w6.alloc (.cells #[.int .u64 mh,.int .u64 0] 141))):=Ext.alloc x6 _;have bB:Blk (w6.alloc (.cells #[.int .u64 mh,.int .u64 0] 141)) w6.heap.size 141 #[.int .u64 mh,.int .u64 0]:=.new rfl;have hB0:Ext w (w6.alloc (.cells #[.int .u64 mh,.int .u64 0] 141)):=Y.out.tr xo6.out;have h63c:∀ x∈Zc mh,x<63:=fun x hx=>by have:=hmh2.out x hx;omega
   have zO6:wo.heap.size<=w6.heap.size:=x6.size;obtain⟨so,hso⟩:∃ so,Hid (so=Zj (srcs.map fun s=>Z5 rows (Zc m) last s)):=⟨_,rfl⟩;have bso:=bsum.out srcs.length;rw[List.take_length] at bso;rw[<-hso.out] at bU bso;replace bso:=Hd bso;refine wpIn_rangeFunc_ownG rfl (by omega) (gf:=140) (lb:=#[.pointer (some ⟨w6.heap.size,0,none⟩)]) rfl trivial (enters_of Tryz.func140 (by kernel_rfl) rfl)
    (YM 2 mh hmh1 h63c w6.heap.size w.heap.size _ bB (hT.ext hB0) hB0.size hg) SetKp.tr (Wj (cs:=#[.int .u64 mh,.int .u64 0]) hB0.size bB) (Below.refl _ _) (fun _=>rfl)
    (fun pre W=>Blk W (w.heap.size+1+1) 3 #[.int .i64 (so+Zj ((inL pre).map fun dst=>max (We rows (Zc m) last dst) 0))]/\Held (w6.alloc (.cells #[.int .u64 mh,.int .u64 0] 141)) (w.heap.size+1+1) W/\Below w.heap.size w W)
    (fun _ _ _=>False)
    (OwnFrom.and (ZQ (by simp<;>omega) _ _) (OwnFrom.and (YU (Nat.le_refl _)) (ownFrom_below (Nat.le_refl _) (by simp<;>omega))))
    (fun _ _ _ _ _ hs _ _=>hs)
    ⟨by simpa [inL,Zj] using bU.out.ext xo6.out,⟨Nat.le_refl _,fun _ _ _=>rfl⟩,hB0⟩
    (fun x=>{ tmps:=#[.pointer (some ⟨g,0,none⟩),.agg #[.int .u64 m,.int .u64 0,.int .i64 last,.int .i64 cost],.pointer (some ⟨w.heap.size,0,none⟩),.pointer (some ⟨w.heap.size+1,0,none⟩),.int .i64 0,.pointer (some ⟨w.heap.size+1+1,0,none⟩),.pointer (some ⟨sf,0,none⟩),.pointer (some ⟨q,0,none⟩),undef,u9,u10,undef,undef,.int .i64 ((x.1:Nat):Int),undef,undef,undef,undef,.pointer (some ⟨g,0,none⟩),.pointer (some ⟨g,0,none⟩),.pointer (some ⟨g,0,none⟩),.slice C rows.length cc,.int .i64 rows.length,.slice (some ⟨w.heap.size+1+1+1,0,none⟩) rows.length rows.length,.pointer (some ⟨w.heap.size+1,2,none⟩),.int .i64 last,u 2,.pointer (some ⟨w.heap.size+1,0,none⟩),.agg #[.int .u64 m,.int .u64 0],u 5,.slice A6 srcs.length c6,.slice A6 srcs.length c6,.int .i64 srcs.length,.int .i64 srcs.length,.bool false,u35,u36,u37,u38,u39,u40,undef,undef,undef,undef,undef,undef,undef,undef,undef,undef,undef,undef,undef,undef,undef,undef,undef,undef,undef,u60,u61,u62,u63,u64,u65,u66,u67,u68,u69,u70,u71,.pointer (some ⟨w.heap.size+1,0,none⟩),.agg #[.int .u64 m,.int .u64 0],.agg #[.int .u64 mh,.int .u64 0],.func (.func 140) #[] #[.pointer (some ⟨w6.heap.size,0,none⟩)],.int .i64 ((x.1:Nat):Int),undef,undef,undef,undef,undef,undef,undef,undef,undef,undef,undef,undef,undef,undef,undef,undef,undef,undef,undef,undef,undef,undef,undef,undef,undef,undef,undef,undef,undef,undef,undef,undef,undef,undef,undef,undef,undef,undef,undef,undef,undef],defers:=[] }) ?assign2 ?body2 ?done2 ?stop2
   case assign2 =>
    intro l x W K hK
    gi_wp2
    exact hK
   case body2 =>
    rintro l pre x W ⟨hO,hH,hBW⟩ hlt2;obtain⟨su,hsu⟩:∃ su,Hid (su=so+Zj ((inL pre).map fun dst=>max (We rows (Zc m) last dst) 0)):=⟨_,rfl⟩;rw[<-hsu.out] at hO;have hxr:=hmh2.out x.1 x.2;obtain⟨cf,hcf⟩:∃ cf,Hid (We rows (Zc m) last x.1=cf):=⟨_,rfl⟩;have eN:Hid (so+Zj ((inL (pre++[x])).map fun dst=>max (We rows (Zc m) last dst) 0)=su+max cf 0):=Hd (by
     rw[Xr,List.map_append,List.map_cons,List.map_nil,XI,hsu.out,hcf.out];omega)
    have START2:Hid (Zt (fun s=>Zb rows s x.1-Z5 rows (Zc m) last s) (-1) ((srcs.drop 0).filter fun s=>decide (x.1∈Yc (Zc m) last s))=cf):=Hd (by
     rw[List.drop_zero,<-hcf.out,hsr.out]
     rfl)
    have bdc:Hid (∀ dst,dst<rows.length->-4294967294<=We rows (Zc m) last dst/\We rows (Zc m) last dst<=4294967294):=fun dst hd=>by
     unfold We;refine Yz (fun c hc=>?_) (by omega) (by omega);have h1:=hsl.out c (by rw[hsr.out];exact(List.mem_filter.1 hc).1);have h2:=hcost.out c dst h1 hd;have h3:=hoff.out c h1;omega
    have bdS:Hid (0<=su/\su<=2147483647*65+4294967294*64):=by
     have h1:∀ l:List Nat,(∀ c∈l,c<rows.length)->0<=Zj (l.map fun dst=>max (We rows (Zc m) last dst) 0)/\Zj (l.map fun dst=>max (We rows (Zc m) last dst) 0)<=4294967294*(l.length:Int):=by
      intro l
      induction l with
      | nil=>intro _;simp[Zj]
      | cons x l ih =>
       intro h;have h2:=ih fun s hs=>h s (by simp[hs])
       have h3:=bdc.out x (h x (by simp));simp only[List.map_cons,Zj,List.length_cons];omega
     have h2:=h1 (inL pre) fun c hc=>by
      obtain⟨c',_,rfl⟩:=List.mem_map.1 hc;exact hmh2.out c'.1 c'.2
     have h3:(inL pre).length<=64:=by
      have:=Xq mh;simp[inL];omega
     have h4:=bso.out;have h:0<=su/\su<=2147483647*65+4294967294*64:=by rw[hsu.out];omega
     exact h
    have bdC:=bdc.out x.1 hxr;rw[hcf.out] at bdC;replace bdC:=Hd bdC;have kW:=Hd (hH.blk (kb.out.ext xo6.out) (by omega));have fW:=Hd (hH.blk (fb.out.ext xo6.out) (by omega));have qW:=Hd (hH.blk (qb.out.ext xo6.out) (by omega));have wW:=Hd (hH.blk (wb.out.ext xo6.out) (by omega));have oW:Hid (OwI W 0 (some ⟨w.heap.size+1+1+1,0,none⟩) rows.length (UV rows (Zc m) last srcs)):=(oO.out.ext xo6.out).keep fun z hz=>by
     obtain rfl:w.heap.size+1+1+1=z:=by simpa [bl] using hz
     exact hH.2 _ (by simp;omega) (by omega)
    have aW:Hid (OwI W w2.heap.size A6 c6 (Ze srcs)):=(o7w.out.ext xo6.out).keep fun z hz=>by
     have h1:=OwI.lt o7w.out z hz;exact hH.2 z (by simp;omega) (by omega)
    have cQ:=qW.out.c0;have hmx:Tryz.prog.follows .mixedOrders=true:=by kernel_rfl
    have zW:w6.heap.size+1<=W.heap.size:=by have:=hH.1;simpa using this
    have HH':=Hd hH;have HB':=Hd hBW;have HO':=Hd hO;clear hsu hH hBW hO bB hB0
    gi_wp2
    gi_loopw [14,79] (fun b v wr=>∃ (k:Nat) (bb:Int),v=.int .i64 k/\b=.int .i64 bb/\k<=srcs.length/\Hid (Zt (fun s=>Zb rows s x.1-Z5 rows (Zc m) last s) bb ((srcs.drop k).filter fun s=>decide (x.1∈Yc (Zc m) last s))=cf)/\Hid (Ext W wr)) (fun _ v _=>srcs.length-(intOf v).toNat)
    case atStart=>exact⟨0,-1,rfl,rfl,by omega,START2,Ext.rf W⟩
    case round =>
     obtain⟨k,bb,rfl,rfl,hk',hcol,xr⟩:=hrel;obtain⟨wi,rfl⟩:∃ wi:World,wi=wr:=⟨_,rfl⟩
     by_cases hlt':k<srcs.length
     ·have er:srcs[k]?=some srcs[k]:=List.getElem?_eq_getElem hlt'
      have hmem:srcs[k]∈srcs:=List.getElem_mem hlt';have hs:=hsl.out _ hmem;have edr:srcs.drop k=srcs[k]::srcs.drop (k+1):=List.drop_eq_getElem_cons hlt';have hcols:=COLS.out _ hs;have CO:=Hd (fun(W:World)=>Qj m last cost srcs[k] hS.1 (by omega) W);have bo:=Hd (hoff.out _ hs);obtain⟨ab,ao,xs,rfl,zab,cA,eA,-⟩:=(OwI.read (aW.out.ext xr.out)).at (k:=k) (by rw[Zm];exact hlt');have exs:xs=((srcs[k]:Nat):Int):=by
       have h:=eA.out;rw[UQ er] at h;exact(Option.some.inj h).symm
      subst exs;have hcol2:=hcol.out;rw[edr,List.filter_cons] at hcol2;generalize srcs[k]=src at *;obtain⟨mc,hmc⟩:∃ mc,Hid (Vf m last src=mc):=⟨_,rfl⟩;rw[hmc.out] at hcols CO;obtain⟨emc,hmc1,-⟩:=hcols;have HA:=Hd (fun(W:World)=>Zaj mc ((x.1:Nat):Int) hmc1 W);have eH:(decide (0<=((x.1:Nat):Int)/\((x.1:Nat):Int)<64)&&mc.testBit ((x.1:Nat):Int).toNat)=decide (x.1∈Yc (Zc m) last src):=by
       rw[<-emc];have h1:x.1<64:=by omega
       have h2:decide (0<=((x.1:Nat):Int)/\((x.1:Nat):Int)<64)=true:=decide_eq_true ⟨by omega,by omega⟩;rw[h2,Bool.true_and,Int.toNat_natCast];simp[Z1,h1]
      rw[eH] at HA;have wb':=wW.out.ext xr.out;have c0:=wb'.c0;have c1:=wb'.c1;have c2:=wb'.c2;have c3:=wb'.c3;have q1:(k:Int)<(srcs.length:Int):=by omega
      replace hcol2:=Hd hcol2;unfold setV at CO HA;clear hcol eA er wb' emc eH edr
      gi_wp2
      refine⟨trivial,?_⟩;refine(YY (fun _=>trivial) rfl rfl (CO.out _)).mono ?_;rintro e w8 ⟨rfl,x8⟩
      gi_wp2
      refine⟨trivial,?_⟩;refine(YY (fun _=>trivial) rfl rfl (HA.out _)).mono ?_;rintro e w9 ⟨rfl,x9⟩;have xr9:=Hd ((xr.out.tr x8).tr x9);clear x8 x9 c0 c1 c2 c3 cA
      by_cases hin:x.1∈Yc (Zc m) last src
      ·have eh:decide (x.1∈Yc (Zc m) last src)=true:=decide_eq_true hin
       have erow:rows[src]?=some rows[src]:=List.getElem?_eq_getElem hs;obtain⟨D,d,hu,oD⟩:=hR.out.2 _ _ erow;have lrow:=ok.row _ (List.getElem_mem hs);have nrow:=ok.num _ (List.getElem_mem hs);have ecost:Zb rows src x.1=(rows[src]).getD x.1 0:=by unfold Zb;rw[getD_some erow]
       generalize rows[src]=row at *;have xW9:Hid (Ext w w9):=Below.trans HB'.out (xr9.out.mono (by omega));obtain⟨rb',ro,vv,rfl,zv,cv,ev⟩:=(hV.out.read.ext xW9.out).at (j:=src) (by rw[lus.out];exact hs);obtain rfl:.slice D row.length d=vv:=by
        have h:=ev.out;rw[hu] at h;exact Option.some.inj h
       obtain⟨cb,co,y,rfl,zy,cy,ey,_⟩:=(oD.read.ext xW9.out).at (k:=x.1) (by omega);rw[getD_some ey.out] at ecost;have ny:=nrow y (List.mem_of_getElem? ey.out);have cG:w9.cell? ⟨g,0,none⟩=some (.slice (some ⟨rb',ro,none⟩) rows.length cc):=(hB.out.ext xW9.out).cell 0;have cK:w9.cell? ⟨w.heap.size,0,none⟩=some (.pointer (some ⟨g,0,none⟩)):=(kW.out.ext xr9.out).cell 0;have cF:w9.cell? ⟨sf,0,none⟩=some (.slice (some ⟨w.heap.size+1+1+1,0,none⟩) rows.length rows.length):=(fW.out.ext xr9.out).cell 0;obtain⟨ov,cOb,-,-,eOb,-⟩:=OwI.cell (oW.out.ext xr9.out) (k:=src) (by rw[XS];exact hs);obtain rfl:Z5 rows (Zc m) last src=ov:=by
        have h:=eOb.out;rw[Q4 hs,if_pos hmem] at h;exact Option.some.inj h
       have hcol3:Hid (Zt (fun s=>Zb rows s x.1-Z5 rows (Zc m) last s) (if bb<0 then y-Z5 rows (Zc m) last src else if y-Z5 rows (Zc m) last src<bb then y-Z5 rows (Zc m) last src else bb) ((srcs.drop (k+1)).filter fun s=>decide (x.1∈Yc (Zc m) last s))=cf):=by
        have h:=hcol2.out;rw[eh,if_pos rfl] at h;rw[<-ecost];exact h
       have bo2:=bo.out;obtain⟨ov,hov⟩:∃ ov,Hid (ov=Z5 rows (Zc m) last src):=⟨_,rfl⟩;rw[<-hov.out] at hcol3 cOb bo2;have hw:IntKind.i64.wrap (y-ov)=y-ov:=IntWalk.i64_in _ (by omega);have q2:(src:Int)<(rows.length:Int):=by omega
       have q3:((x.1:Nat):Int)<(row.length:Int):=by omega
       rw[eh];clear hcol2 hin eh erow hu oD lrow nrow ecost ev ey ny eOb bo2 bo hov
       by_cases hneg:bb<0
       ·rw[if_pos hneg] at hcol3
        gi_wp2
        refine Zg (by kernel_rfl) (by kernel_rfl) (by kernel_rfl) ?_
        repeat (gi_big_quiet_step (fail))
        refine wpQuietIn_nil ?_;rintro _ ⟨nq,rfl⟩
        gi_wp2
        exact⟨⟨k+1,y-ov,by go_num,rfl,by omega,hcol3,xr9.out.drewN nq⟩,by simp only[intOf];omega⟩
       ·rw[if_neg hneg] at hcol3
        by_cases hy:y-ov<bb
        ·rw[if_pos hy] at hcol3
         gi_wp2
         refine Zg (by kernel_rfl) (by kernel_rfl) (by kernel_rfl) ?_
         repeat (gi_big_quiet_step (fail))
         refine wpQuietIn_nil ?_;rintro _ ⟨nq,rfl⟩
         gi_wp2
         exact⟨⟨k+1,y-ov,by go_num,rfl,by omega,hcol3,xr9.out.drewN nq⟩,by simp only[intOf];omega⟩
        ·rw[if_neg hy] at hcol3
         gi_wp2
         refine Zg (by kernel_rfl) (by kernel_rfl) (by kernel_rfl) ?_
         repeat (gi_big_quiet_step (fail))
         refine wpQuietIn_nil ?_;rintro _ ⟨nq,rfl⟩
         gi_wp2
         exact⟨⟨k+1,bb,by go_num,rfl,by omega,hcol3,xr9.out.drewN nq⟩,by simp only[intOf];omega⟩
      ·have eh:decide (x.1∈Yc (Zc m) last src)=false:=decide_eq_false hin
       have hcol3:Hid (Zt (fun s=>Zb rows s x.1-Z5 rows (Zc m) last s) bb ((srcs.drop (k+1)).filter fun s=>decide (x.1∈Yc (Zc m) last s))=cf):=by
        have h:=hcol2.out;rw[eh] at h;exact h
       rw[eh]
       gi_wp2
       exact⟨⟨k+1,bb,by go_num,rfl,by omega,hcol3,xr9.out⟩,by simp only[intOf];omega⟩
     ·obtain rfl:k=srcs.length:=by omega
      have e1:srcs.drop srcs.length=[]:=List.drop_length;have hcol2:=hcol.out;rw[e1] at hcol2;obtain rfl:bb=cf:=hcol2;have emax:(if bb<0 then 0 else bb)=max bb 0:=by split<;>omega
      have bdm:0<=max bb 0/\max bb 0<=4294967294:=by have:=bdC.out;omega
      obtain⟨ov,hov⟩:∃ ov,Hid (ov=max bb 0):=⟨_,rfl⟩;rw[<-hov.out] at emax bdm eN;have hw2:IntKind.i64.wrap (su+ov)=su+ov:=IntWalk.i64_in _ (by have:=bdS.out;omega);have q0':¬((srcs.length:Int)<(srcs.length:Int)):=by omega
      have F1:Hid (KeepsFrom (w6.heap.size+1) W (wi.setCell ⟨w.heap.size+1+1,0,none⟩ (.int .i64 (su+ov)))):=(KeepsFrom.of_ext xr.out).trans ((KeepsOthers.setCell _ _ _).from _);have F2:Hid (SetKp w.heap.size w6.heap.size W (wi.setCell ⟨w.heap.size+1+1,0,none⟩ (.int .i64 (su+ov)))):=⟨(xr.out.mono (by omega)).setCell (by simp<;>omega) _,(Below.heap_setCell wi ⟨w.heap.size+1+1,0,none⟩ _ w6.heap.size (by simp;omega)).trans (xr.out.block w6.heap.size (by omega))⟩;have F3:Hid (Blk (wi.setCell ⟨w.heap.size+1+1,0,none⟩ (.int .i64 (su+ov))) (w.heap.size+1+1) 3 #[.int .i64 (su+ov)]):=(HO'.out.ext xr.out).set 0 _;have F4:=Hd ((HH'.out.ext xr.out).set (.int .i64 (su+ov)));have F5:Hid (Ext w (wi.setCell ⟨w.heap.size+1+1,0,none⟩ (.int .i64 (su+ov)))):=(Below.trans HB'.out (xr.out.mono (by omega))).setCell (by simp<;>omega) _;have cO2:wi.cell? ⟨w.heap.size+1+1,0,none⟩=some (.int .i64 su):=(HO'.out.ext xr.out).cell 0;have fO2:=(HO'.out.ext xr.out).free 0;clear hcol e1 hcf START2
      gi_wp2
      exact⟨F1.out,F2.out,by rw[eN.out];exact F3.out,F4.out,F5.out⟩
   case done2 =>
    rintro D ys W hD rfl ⟨hO,hH,hBW⟩ hK;rw[Yr,emh.out] at hO;have cO:=hO.cell 0;rw[World.size_alloc] at hD;have bOb:∃ cs,Blk wo (w.heap.size+1+1+1) 3 cs:=by
     rcases OwI.cases oO.out with⟨h,_⟩ | ⟨z,cur,h,_,h2,_⟩
     ·cases h
     ·injection h with h
      injection h with h
      subst h;exact⟨cur,h2⟩
    have MA:Marks w.heap.size ({ target:=.collected D,args:=#[] }::ds) W:=(hM.out.more (by omega)).cons (D:=D) (by omega) (by omega) (fun b hb=>by
     have hb1:b<wo.heap.size:=(Array.getElem?_eq_some_iff.1 hb).1;refine(hH.2 b (by simp;omega) (fun e=>?_)).trans (xo6.out.block b hb1);subst e;have h:=bU.out;unfold Blk at h;rw[h] at hb
     cases hb) hK
    have eR:Hid (ZS rows (Zc m) last=so+Zj ((0::Zc m).map fun dst=>max (We rows (Zc m) last dst) 0)):=Hd (by rw[hso.out,hsr.out];rfl);obtain⟨rv,hrv⟩:∃ rv,Hid (rv=so+Zj ((0::Zc m).map fun dst=>max (We rows (Zc m) last dst) 0)):=⟨_,rfl⟩;rw[<-hrv.out] at cO eR;simp only[List.getElem?_toArray,List.getElem?_cons_zero] at cO;replace MA:=Hd MA
    gi_wp2
    refine Marks.leaves MA.out hBW fun W' x'=>⟨_,results_tmp rfl _ _ _,?_,x'⟩
    rw[eR.out]
    rfl
   case stop2 =>
    rintro D c pre W _ _ h _;exact h.elim
theorem Zba {base g:Nat}{rows:List (List Int)}{mi:Bool}(m last:Nat)(cost:Int)(ok:RowsOk rows)(hS:SubN rows.length m)(h0:0∉Zc m)(hla:last<rows.length)(w:World)(hT:Tab w)(H:KernT w base g rows mi) :
  Calls Tryz.prog 280 #[.pointer (some ⟨g,0,none⟩),Us m last cost] w fun e W'=>e=.returned (.int .i64 (ZS rows (Zc m) last))/\Ext w W' :=
 callsIn_wide.1 (Zb4 m last cost ok hS h0 hla w hT H)
end Go.Proofs.YtmojhhlcocjoaaaGreatDoor
namespace Go.Proofs.YtmojhhlcocjoaaaGreatDoor
open Go.RowKit Go.ChangeShapes Go.WideShapes Go.ChangeAt Go.Deep Go.Shelf
attribute [local go_sem] Oper.semAt_some
def HeldS (w0:World)(S:Nat->Prop)(w:World) : Prop:=w0.heap.size<=w.heap.size/\∀ b,b<w0.heap.size->¬S b->w.heap[b]?=w0.heap[b]?
theorem HeldS.blk {w0 w:World}{S:Nat->Prop}{g:Nat}{t:TypeId}{cs:Array Value}(h:HeldS w0 S w)(hb:Blk w0 g t cs)(hne:¬S g) : Blk w g t cs:=(h.2 g hb.lt hne).trans hb
theorem HeldS.set {w0 w:World}{S:Nat->Prop}(h:HeldS w0 S w){sb:Nat}(hs:S sb)(i:Nat)(u:Value) : HeldS w0 S (w.setCell ⟨sb,i,none⟩ u):=⟨by simp;exact h.1,fun b h1 h2=>(Below.heap_setCell w ⟨sb,i,none⟩ u b (fun e=>h2 (by rw[e];exact hs))).trans (h.2 b h1 h2)⟩
theorem HeldS.ext {w0 w w':World}{S:Nat->Prop}(h:HeldS w0 S w)(x:Ext w w') : HeldS w0 S w':=⟨Nat.le_trans h.1 x.size,fun b h1 h2=>(x.block b (Nat.lt_of_lt_of_le h1 h.1)).trans (h.2 b h1 h2)⟩
theorem Jn {β:Type}{w0:World}{B:Nat}{S:Nat->Prop}(hB:w0.heap.size<=B) : OwnFrom B (fun(_:β) W=>HeldS w0 S W):=fun _ W W' row hs hg hr =>
 ⟨Nat.le_trans hs.1 hg.size,fun b h1 h2=>(hg.block b (Nat.lt_of_lt_of_le h1 hs.1) (fun e=>by have:=(hr b e.symm).1;omega)).trans (hs.2 b h1 h2)⟩
def EndG (w W0 W:World)(a b c:Int)(V:World) : Prop:=KeepsFrom W0.heap.size W V/\SetKp w.heap.size (w.heap.size+1+1+1+1+1) W V/\(Blk V (w.heap.size+1+1) 3 #[.int .i64 a]/\Blk V (w.heap.size+1+1+1) 3 #[.int .i64 b]/\Blk V (w.heap.size+1+1+1+1) 3 #[.int .i64 c])/\HeldS W0 (fun b=>b=w.heap.size+1+1\/b=w.heap.size+1+1+1\/b=w.heap.size+1+1+1+1) V/\Below w.heap.size w V
theorem EndG.ext {w W0 W V V':World}{a b c:Int}(h:EndG w W0 W a b c V)(hz:w.heap.size+1+1+1+1+1<V.heap.size)(x:Ext V V') : EndG w W0 W a b c V':=by
 obtain⟨h1,h2,⟨h3,h4,h5⟩,h6,h7⟩:=h;exact⟨h1.trans (KeepsFrom.of_ext x),h2.tr ⟨x.mono (by omega),x.block _ hz⟩,⟨h3.ext x,h4.ext x,h5.ext x⟩,h6.ext x,h7.trans (x.mono (by omega))⟩
theorem EndG.set2 {w W0 W V:World}{a b c:Int}(h:EndG w W0 W a b c V)(u:Int) : EndG w W0 W u b c (V.setCell ⟨w.heap.size+1+1,0,none⟩ (.int .i64 u)):=by
 obtain⟨h1,h2,⟨h3,h4,h5⟩,h6,h7⟩:=h;exact⟨h1.trans ((KeepsOthers.setCell _ _ _).from _),h2.tr ⟨(Below.refl _ _).setCell (by simp<;>omega) _,Below.heap_setCell V ⟨w.heap.size+1+1,0,none⟩ _ _ (by simp<;>omega)⟩,⟨h3.set 0 _,h4.far (by simp<;>omega) _,h5.far (by simp<;>omega) _⟩,h6.set (.inl rfl) 0 _,h7.setCell (by simp<;>omega) _⟩
theorem EndG.set3 {w W0 W V:World}{a b c:Int}(h:EndG w W0 W a b c V)(u:Int) : EndG w W0 W a u c (V.setCell ⟨w.heap.size+1+1+1,0,none⟩ (.int .i64 u)):=by
 obtain⟨h1,h2,⟨h3,h4,h5⟩,h6,h7⟩:=h;exact⟨h1.trans ((KeepsOthers.setCell _ _ _).from _),h2.tr ⟨(Below.refl _ _).setCell (by simp<;>omega) _,Below.heap_setCell V ⟨w.heap.size+1+1+1,0,none⟩ _ _ (by simp<;>omega)⟩,⟨h3.far (by simp<;>omega) _,h4.set 0 _,h5.far (by simp<;>omega) _⟩,h6.set (.inr (.inl rfl)) 0 _,h7.setCell (by simp<;>omega) _⟩
theorem EndG.set4 {w W0 W V:World}{a b c:Int}(h:EndG w W0 W a b c V)(u:Int) : EndG w W0 W a b u (V.setCell ⟨w.heap.size+1+1+1+1,0,none⟩ (.int .i64 u)):=by
 obtain⟨h1,h2,⟨h3,h4,h5⟩,h6,h7⟩:=h;exact⟨h1.trans ((KeepsOthers.setCell _ _ _).from _),h2.tr ⟨(Below.refl _ _).setCell (by simp<;>omega) _,Below.heap_setCell V ⟨w.heap.size+1+1+1+1,0,none⟩ _ _ (by simp<;>omega)⟩,⟨h3.far (by simp<;>omega) _,h4.far (by simp<;>omega) _,h5.set 0 _⟩,h6.set (.inr (.inr rfl)) 0 _,h7.setCell (by simp<;>omega) _⟩
theorem Zfq {B n:Int}{p:Int×Int}(h1:0<=p.1/\p.1<=B)(h2:0<=p.2/\p.2<=B)(hn:0<=n/\n<=B) : (0<=(Xu p n).1/\(Xu p n).1<=B)/\0<=(Xu p n).2/\(Xu p n).2<=B:=by
 unfold Xu;split
 ·exact⟨hn,h1⟩
 ·split
  ·exact⟨h1,hn⟩
  ·exact⟨h1,h2⟩
theorem Vg {B:Int}{f:Nat->Int} : ∀ (l:List Nat) (p:Int×Int),(0<=p.1/\p.1<=B)->(0<=p.2/\p.2<=B)->(∀ v∈l,0<=f v/\f v<=B)->(0<=(l.foldl (fun p v=>Xu p (f v)) p).1/\(l.foldl (fun p v=>Xu p (f v)) p).1<=B)/\0<=(l.foldl (fun p v=>Xu p (f v)) p).2/\(l.foldl (fun p v=>Xu p (f v)) p).2<=B
 | [],_,h1,h2,_=>⟨h1,h2⟩
 | v::l,p,h1,h2,h=>by
  have h3:=Zfq h1 h2 (h v (by simp));exact Vg l _ h3.1 h3.2 fun x hx=>h x (by simp[hx])
theorem ZeJ {base g:Nat}{rows:List (List Int)}{mi:Bool}(m last:Nat)(cost:Int)(ok:RowsOk rows)(hS:SubN rows.length m)(hla:last<rows.length)(w:World)(hT:Tab w)(H:KernT w base g rows mi) :
  CallsIn Fence.wide 6 Tryz.prog 281 #[.pointer (some ⟨g,0,none⟩),Us m last cost] w fun e W'=>e=.returned (.int .i64 (WV rows (Zc m) last))/\Ext w W':=by
 obtain⟨C,cc,us,hB,_,hV,hR⟩:=H;have l1:=ok.n1;have l2:=ok.n2;have lus:Hid (us.length=rows.length):=hR.1;have zg:=hB.lt;have hg:=Vv hT;have h63:∀ x∈Zc m,x<63:=fun x hx=>by have:=hS.2 x hx;omega
 have hmr:Hid (∀ x∈Zc m,x<rows.length):=hS.2;have hm1:=hS.1;have hcost:Hid (∀ a b,a<rows.length->b<rows.length->0<=Zb rows a b/\Zb rows a b<=2147483647):=fun a b ha hb=>by
  have e1:rows[a]?=some rows[a]:=List.getElem?_eq_getElem ha;have e2:=ok.row _ (List.getElem_mem ha);have e3:(rows[a])[b]?=some (rows[a])[b]:=List.getElem?_eq_getElem (by omega);unfold Zb;rw[getD_some e1,getD_some e3];exact ok.num _ (List.getElem_mem ha) _ (List.getElem_mem _)
 replace hB:=Hd hB;replace hV:=Hd hV;replace hR:=Hd hR;obtain⟨ab,ao,vl,rfl,zvl,cvl,evl⟩:=(hV.out.read).at (j:=last) (by rw[lus.out];exact hla);refine callsIn_of_wp_marks Tryz.func281 rfl trivial ?_ rfl;simp only[Tryz.ntmps281,List.size_toArray,List.length_cons,List.length_nil,Nat.reduceAdd,Nat.reduceSub,Array.replicate_succ,Array.replicate_zero,List.push_toArray,List.append_toArray,List.nil_append,List.cons_append]
 gi_wp2
 refine⟨trivial,?_⟩;refine(callsIn_wide.2 (Wi m _)).mono ?_;rintro e w' ⟨rfl,rfl⟩
 gi_wp2
 have bK0:Hid (Blk ((((((w.alloc (.cells #[.pointer (some ⟨g,0,none⟩)] 79)).alloc (.cells #[.int .u64 m,.int .u64 0,.int .i64 last,.int .i64 cost] 308)).alloc (.cells #[.int .i64 0] 3)).alloc (.cells #[.int .i64 (-1)] 3)).alloc (.cells #[.int .i64 (-1)] 3)).alloc (.cells #[.int .u64 m,.int .u64 0] 141)) (w.heap.size) 79 #[.pointer (some ⟨g,0,none⟩)]):=.alloc (.alloc (.alloc (.alloc (.alloc (.new (by simp)) _) _) _) _) _;have bW0:Hid (Blk ((((((w.alloc (.cells #[.pointer (some ⟨g,0,none⟩)] 79)).alloc (.cells #[.int .u64 m,.int .u64 0,.int .i64 last,.int .i64 cost] 308)).alloc (.cells #[.int .i64 0] 3)).alloc (.cells #[.int .i64 (-1)] 3)).alloc (.cells #[.int .i64 (-1)] 3)).alloc (.cells #[.int .u64 m,.int .u64 0] 141)) (w.heap.size+1) 308 #[.int .u64 m,.int .u64 0,.int .i64 last,.int .i64 cost]):=.alloc (.alloc (.alloc (.alloc (.new (by simp)) _) _) _) _;have bS0:Blk ((((((w.alloc (.cells #[.pointer (some ⟨g,0,none⟩)] 79)).alloc (.cells #[.int .u64 m,.int .u64 0,.int .i64 last,.int .i64 cost] 308)).alloc (.cells #[.int .i64 0] 3)).alloc (.cells #[.int .i64 (-1)] 3)).alloc (.cells #[.int .i64 (-1)] 3)).alloc (.cells #[.int .u64 m,.int .u64 0] 141)) (w.heap.size+1+1) 3 #[.int .i64 0]:=.alloc (.alloc (.alloc (.new (by simp)) _) _) _;have bF0:Blk ((((((w.alloc (.cells #[.pointer (some ⟨g,0,none⟩)] 79)).alloc (.cells #[.int .u64 m,.int .u64 0,.int .i64 last,.int .i64 cost] 308)).alloc (.cells #[.int .i64 0] 3)).alloc (.cells #[.int .i64 (-1)] 3)).alloc (.cells #[.int .i64 (-1)] 3)).alloc (.cells #[.int .u64 m,.int .u64 0] 141)) (w.heap.size+1+1+1) 3 #[.int .i64 (-1)]:=.alloc (.alloc (.new (by simp)) _) _;have bT0:Blk ((((((w.alloc (.cells #[.pointer (some ⟨g,0,none⟩)] 79)).alloc (.cells #[.int .u64 m,.int .u64 0,.int .i64 last,.int .i64 cost] 308)).alloc (.cells #[.int .i64 0] 3)).alloc (.cells #[.int .i64 (-1)] 3)).alloc (.cells #[.int .i64 (-1)] 3)).alloc (.cells #[.int .u64 m,.int .u64 0] 141)) (w.heap.size+1+1+1+1) 3 #[.int .i64 (-1)]:=.alloc (.new (by simp)) _;have bB0:Blk ((((((w.alloc (.cells #[.pointer (some ⟨g,0,none⟩)] 79)).alloc (.cells #[.int .u64 m,.int .u64 0,.int .i64 last,.int .i64 cost] 308)).alloc (.cells #[.int .i64 0] 3)).alloc (.cells #[.int .i64 (-1)] 3)).alloc (.cells #[.int .i64 (-1)] 3)).alloc (.cells #[.int .u64 m,.int .u64 0] 141)) (w.heap.size+1+1+1+1+1) 141 #[.int .u64 m,.int .u64 0]:=.new (by simp);have hB0:Ext w ((((((w.alloc (.cells #[.pointer (some ⟨g,0,none⟩)] 79)).alloc (.cells #[.int .u64 m,.int .u64 0,.int .i64 last,.int .i64 cost] 308)).alloc (.cells #[.int .i64 0] 3)).alloc (.cells #[.int .i64 (-1)] 3)).alloc (.cells #[.int .i64 (-1)] 3)).alloc (.cells #[.int .u64 m,.int .u64 0] 141)):=((((((Ext.rf w).alloc _).alloc _).alloc _).alloc _).alloc _).alloc _;have hsz:((((((w.alloc (.cells #[.pointer (some ⟨g,0,none⟩)] 79)).alloc (.cells #[.int .u64 m,.int .u64 0,.int .i64 last,.int .i64 cost] 308)).alloc (.cells #[.int .i64 0] 3)).alloc (.cells #[.int .i64 (-1)] 3)).alloc (.cells #[.int .i64 (-1)] 3)).alloc (.cells #[.int .u64 m,.int .u64 0] 141)).heap.size=w.heap.size+1+1+1+1+1+1:=by simp
 obtain⟨W0,hW0⟩:∃ W0,((((((w.alloc (.cells #[.pointer (some ⟨g,0,none⟩)] 79)).alloc (.cells #[.int .u64 m,.int .u64 0,.int .i64 last,.int .i64 cost] 308)).alloc (.cells #[.int .i64 0] 3)).alloc (.cells #[.int .i64 (-1)] 3)).alloc (.cells #[.int .i64 (-1)] 3)).alloc (.cells #[.int .u64 m,.int .u64 0] 141))=W0:=⟨_,rfl⟩;rw[hW0] at bK0 bW0 bS0 bF0 bT0 bB0 hB0 hsz ⊢;clear hW0;refine wpIn_rangeFunc_ownH rfl (by omega) (gf:=140) (lb:=#[.pointer (some ⟨w.heap.size+1+1+1+1+1,0,none⟩)]) rfl trivial (enters_of Tryz.func140 (by kernel_rfl) rfl)
  (YM 5 m hm1 h63 (w.heap.size+1+1+1+1+1) w.heap.size _ bB0 (hT.ext hB0) hB0.size hg) SetKp.tr (Wj (cs:=#[.int .u64 m,.int .u64 0]) hB0.size bB0) (Below.refl _ _) (fun _=>rfl)
  (fun pre W=>(Blk W (w.heap.size+1+1) 3 #[.int .i64 (Zj ((inL pre).map fun u=>(ZJ rows (Zc m) last u).1+(ZJ rows (Zc m) last u).2))]/\Blk W (w.heap.size+1+1+1) 3 #[.int .i64 (Zt (fun u=>Zb rows last u) (-1) (inL pre))]/\Blk W (w.heap.size+1+1+1+1) 3 #[.int .i64 (Zt (fun u=>Zb rows u 0) (-1) (inL pre))])/\HeldS W0 (fun b=>b=w.heap.size+1+1\/b=w.heap.size+1+1+1\/b=w.heap.size+1+1+1+1) W/\Below w.heap.size w W)
  (fun _ _ _=>False)
  (OwnFrom.and (OwnFrom.and (ZQ (by omega) _ _) (OwnFrom.and (ZQ (by omega) _ _) (ZQ (by omega) _ _))) (OwnFrom.and (Jn (Nat.le_refl _)) (ownFrom_below (Nat.le_refl _) (by omega))))
  (fun _ _ _ _ _ hs _ _=>hs)
  ⟨⟨by simpa [inL,Zj] using bS0,by simpa [inL,Zt] using bF0,by simpa [inL,Zt] using bT0⟩,⟨Nat.le_refl _,fun _ _ _=>rfl⟩,hB0⟩
  (fun x a' W=>∃ Bx,W0.heap.size<=Bx/\Boxed W Bx 3 (.int .i64 ((x.1:Nat):Int))/\a'={ tmps:=#[.pointer (some ⟨g,0,none⟩),.agg #[.int .u64 m,.int .u64 0,.int .i64 last,.int .i64 cost],.pointer (some ⟨w.heap.size,0,none⟩),.pointer (some ⟨w.heap.size+1,0,none⟩),.int .i64 0,.pointer (some ⟨w.heap.size+1+1,0,none⟩),.pointer (some ⟨w.heap.size+1+1+1,0,none⟩),.pointer (some ⟨w.heap.size+1+1+1+1,0,none⟩),.pointer (some ⟨Bx,0,none⟩),undef,undef,undef,undef,undef,undef,.pointer (some ⟨w.heap.size+1,0,none⟩),.agg #[.int .u64 m,.int .u64 0],.func (.func 140) #[] #[.pointer (some ⟨w.heap.size+1+1+1+1+1,0,none⟩)],.int .i64 ((x.1:Nat):Int),undef,undef,undef,undef,undef,undef,undef,undef,undef,undef,undef,undef,undef,undef,undef,undef,undef,undef,undef,undef,undef,undef,undef,undef,undef,undef,undef,undef,undef,undef,undef,undef,undef,undef,undef,undef,undef,undef,undef,undef,undef,undef,undef,undef,undef,undef,undef,undef,undef,undef,undef,undef,undef,undef,undef,undef,undef,undef,undef,undef,undef,undef,undef,undef,undef,undef,undef,undef,undef,undef,undef,undef,undef,undef,undef,undef,undef,undef,undef,undef,undef,undef,undef,undef,undef,undef,undef,undef,undef,undef,undef,undef,undef],defers:=[] })
  (fun x a' _ X Y row hs hg hr=>by obtain⟨Bx,h1,h2,h3⟩:=hs;exact⟨Bx,h1,boxed_own Bx 3 (fun(_:Unit)=>Value.int .i64 ((x.1:Nat):Int)) () X Y row h2 hg (fun r e=>(hr r e).2),h3⟩)
  ?assign ?body ?done ?stop
 case assign =>
  rintro l pre x W K ⟨⟨h1,h2,h3⟩,h4,h5⟩ hK
  gi_wp2
  exact hK _ _ ((KeepsOthers.alloc _ _).from _) ⟨(Below.refl _ W).alloc h5.size _,(Below.heap_alloc W _ _ (by have:=h4.1;omega))⟩ ⟨⟨h1.alloc _,h2.alloc _,h3.alloc _⟩,h4.ext ((Ext.rf _).alloc _),h5.alloc h5.size _⟩ ⟨W.heap.size,h4.1,Boxed.new W 3 _,rfl⟩
 case body =>
  rintro l pre x a' W hl ⟨r,hr⟩ ⟨⟨hO,hF,hTo⟩,hH,hBW⟩ ⟨Bx,hBx,bX,rfl⟩ hlt;have hu:=hmr.out x.1 x.2;have hbX:Blk W Bx 3 #[.int .i64 ((x.1:Nat):Int)]:=bX;have zBx:=hbX.lt;obtain⟨u,hux⟩:∃ u,Hid (u=x.1):=⟨_,rfl⟩;have inx:=Xr pre x;rw[<-hux.out] at hu hbX inx;rw[<-hux.out];have erow:rows[u]?=some rows[u]:=List.getElem?_eq_getElem hu;obtain⟨D,d,hud,oD⟩:=hR.out.2 _ _ erow;have lrow:=ok.row _ (List.getElem_mem hu);have ecost:∀ b,Zb rows u b=(rows[u]).getD b 0:=fun b=>by unfold Zb;rw[getD_some erow]
  generalize rows[u]=row at *;obtain⟨ab',ao',vv,hC,zv,cv,ev⟩:=(hV.out.read.ext hBW).at (j:=u) (by rw[lus.out];exact hu);obtain⟨rfl,rfl⟩:ab=ab'/\ao=ao':=by simpa using hC
  obtain rfl:.slice D row.length d=vv:=by
   have h:=ev.out;rw[hud] at h;exact Option.some.inj h
  obtain⟨cb,co,y1,rfl,zy1,cy1,ey1,_⟩:=(oD.read.ext hBW).at (k:=last) (by omega);obtain⟨cb',co',y2,hD2,zy2,cy2,ey2,_⟩:=(oD.read.ext hBW).at (k:=0) (by omega);obtain⟨rfl,rfl⟩:cb=cb'/\co=co':=by simpa using hD2
  have e1:Zb rows u last=y1:=by rw[ecost,getD_some ey1.out]
  have e2:Zb rows u 0=y2:=by rw[ecost,getD_some ey2.out]
  have b1:=hcost.out u last hu hla;have b2:=hcost.out u 0 hu (by omega);rw[e1] at b1;rw[e2] at b2;have cG:W.cell? ⟨g,0,none⟩=some (.slice (some ⟨ab,ao,none⟩) rows.length cc):=(hB.out.ext hBW).cell 0;have kW:=Hd (hH.blk bK0.out (by omega));have wW:=Hd (hH.blk bW0.out (by omega));have cK:=kW.out.c0;have cW:=wW.out.c2;have cX:=hbX.c0;have q1:(u:Int)<(rows.length:Int):=by omega
  have q2:(last:Int)<(row.length:Int):=by omega
  have q3:(0:Int)<(row.length:Int):=by omega
  have hmx:Tryz.prog.follows .mixedOrders=true:=by kernel_rfl
  replace cy2:W.cell? ⟨cb,co,none⟩=some (.int .i64 y2):=cy2;obtain⟨mn,hmn⟩:∃ mn,Hid (min y1 y2=mn):=⟨_,rfl⟩;obtain⟨mx,hmx'⟩:∃ mx,Hid (max y1 y2=mx):=⟨_,rfl⟩;have emin:(if y2<y1 then y2 else y1)=mn:=by rw[<-hmn.out];split<;>omega
  have emax:(if y1<y2 then y2 else y1)=mx:=by rw[<-hmx'.out];split<;>omega
  have WO:=Hd (fun(W:World)=>Xs m u hm1 (by omega) W);have emu:=Xf (i:=u) hm1;have hmu1:=Qq m u;obtain⟨mu,hmu⟩:∃ mu,Hid (Zx m u=mu):=⟨_,rfl⟩;rw[hmu.out] at WO emu hmu1;replace emu:=Hd emu;unfold setV at WO;replace hO:=Hd hO;replace hF:=Hd hF;replace hTo:=Hd hTo;replace hH:=Hd hH;replace hBW:=Hd hBW;replace hbX:=Hd hbX;replace bX:=Hd bX;replace oD:=Hd oD;replace e1:=Hd e1;replace e2:=Hd e2;replace ecost:=Hd ecost;replace hr:=Hd hr;clear ev ey1 ey2 erow hD2
  gi_wp2
  refine Zg (by kernel_rfl) (by kernel_rfl) (by kernel_rfl) ?_
  repeat (gi_big_quiet_step (fail))
  refine wpQuietIn_nil ?_;rintro _ ⟨nq,rfl⟩;have X1:Hid (Ext W (W.drewN nq)):=(Ext.rf W).drewN nq;obtain⟨W1,hW1⟩:∃ W1,W.drewN nq=W1:=⟨_,rfl⟩;rw[hW1] at X1 ⊢;clear hW1;have wW1:=wW.out.ext X1.out;have d0:(W1.alloc (.cells #[.int .i64 mn,.int .i64 mx] 313)).cell? ⟨w.heap.size+1,0,none⟩=some (.int .u64 m):=(wW1.alloc _).cell 0;have d1:(W1.alloc (.cells #[.int .i64 mn,.int .i64 mx] 313)).cell? ⟨w.heap.size+1,1,none⟩=some (.int .u64 0):=(wW1.alloc _).cell 1;have dX:(W1.alloc (.cells #[.int .i64 mn,.int .i64 mx] 313)).cell? ⟨Bx,0,none⟩=some (.int .i64 (u:Int)):=((hbX.out.ext X1.out).alloc _).cell 0;clear wW1 cG cK cW cX cy1 cy2
  gi_wp2
  refine⟨trivial,?_⟩;refine(YY (fun _=>trivial) rfl rfl (WO.out _)).mono ?_;rintro e w3 ⟨rfl,x3⟩
  gi_wp2
  refine⟨trivial,?_⟩;refine(YY (fun _=>trivial) rfl rfl (Wi mu _)).mono ?_;rintro e w4 ⟨rfl,rfl⟩
  gi_wp2
  have zW1:W.heap.size<=W1.heap.size:=X1.out.size;have zw3:W1.heap.size+1<=w3.heap.size:=by have:=x3.size;simpa using this
  have xW3:Hid (Ext W (w3.alloc (.cells #[.int .u64 mu,.int .u64 0] 141))):=((X1.out.alloc _).tr x3).alloc _;have bB3:Blk (w3.alloc (.cells #[.int .u64 mu,.int .u64 0] 141)) w3.heap.size 141 #[.int .u64 mu,.int .u64 0]:=.new rfl;have bP3:Blk (w3.alloc (.cells #[.int .u64 mu,.int .u64 0] 141)) W1.heap.size 313 #[.int .i64 mn,.int .i64 mx]:=((Blk.new rfl).ext x3).alloc _;have bX3:Hid (Blk (w3.alloc (.cells #[.int .u64 mu,.int .u64 0] 141)) Bx 3 #[.int .i64 (u:Int)]):=hbX.out.ext xW3.out;have kW3:=Hd (kW.out.ext xW3.out);have hr3:(w3.alloc (.cells #[.int .u64 mu,.int .u64 0] 141)).heap[l]?=some (.loop r):=(xW3.out.block l (Array.getElem?_eq_some_iff.1 hr.out).1).trans hr.out;have hTW:=hT.ext (hBW.out.trans (xW3.out.mono hBW.out.size));have zWw:=hBW.out.size;have hsizes:W0.heap.size<=W.heap.size:=hH.out.1;have h63u:∀ x∈Zc mu,x<63:=fun x hx=>by
   rw[emu.out] at hx;exact h63 x (List.mem_filter.1 hx).1
  have muR:Hid (∀ x∈Zc mu,x<rows.length):=fun x hx=>by
   rw[emu.out] at hx;exact hmr.out x (List.mem_filter.1 hx).1
  refine wpIn_rangeFunc_ownN (l₀:=l) (r₀:=r) rfl hr3 (by omega) (gf:=140) (lb:=#[.pointer (some ⟨w3.heap.size,0,none⟩)]) rfl trivial (enters_of Tryz.func140 (by kernel_rfl) rfl)
   ((YM 3 mu hmu1 h63u w3.heap.size w.heap.size _ bB3 hTW (by simp;omega) hg).inRound l) SetKp.tr (Wj (cs:=#[.int .u64 mu,.int .u64 0]) (by simp;omega) bB3) (Below.refl _ _) (fun _=>rfl)
   (fun pre' W'=>Blk W' W1.heap.size 313 #[.int .i64 ((inL pre').foldl (fun p v=>Xu p (Zb rows u v)) (mn,mx)).1,.int .i64 ((inL pre').foldl (fun p v=>Xu p (Zb rows u v)) (mn,mx)).2]/\Held (w3.alloc (.cells #[.int .u64 mu,.int .u64 0] 141)) W1.heap.size W'/\Below w.heap.size W W')
   (fun _ _ _=>False)
   (OwnFrom.and (ZQ (by simp<;>omega) _ _) (OwnFrom.and (YU (Nat.le_refl _)) (ownFrom_below zWw (by simp<;>omega))))
   (fun _ _ _ _ _ hs _ _=>hs)
   ⟨by simpa [inL] using bP3,⟨Nat.le_refl _,fun _ _ _=>rfl⟩,xW3.out.mono zWw⟩
   (fun y a'' _=>a''={ tmps:=#[.pointer (some ⟨g,0,none⟩),.agg #[.int .u64 m,.int .u64 0,.int .i64 last,.int .i64 cost],.pointer (some ⟨w.heap.size,0,none⟩),.pointer (some ⟨w.heap.size+1,0,none⟩),.int .i64 0,.pointer (some ⟨w.heap.size+1+1,0,none⟩),.pointer (some ⟨w.heap.size+1+1+1,0,none⟩),.pointer (some ⟨w.heap.size+1+1+1+1,0,none⟩),.pointer (some ⟨Bx,0,none⟩),.int .i64 y1,.int .i64 y2,.pointer (some ⟨W1.heap.size,0,none⟩),.int .i64 ((y.1:Nat):Int),undef,undef,.pointer (some ⟨w.heap.size+1,0,none⟩),.agg #[.int .u64 m,.int .u64 0],.func (.func 140) #[] #[.pointer (some ⟨w.heap.size+1+1+1+1+1,0,none⟩)],.int .i64 (u:Int),.pointer (some ⟨g,0,none⟩),.pointer (some ⟨g,0,none⟩),.pointer (some ⟨g,0,none⟩),.slice (some ⟨ab,ao,none⟩) rows.length cc,.int .i64 (u:Int),.pointer (some ⟨ab,ao+u,none⟩),.slice (some ⟨cb,co,none⟩) rows.length d,.pointer (some ⟨w.heap.size+1,2,none⟩),.int .i64 last,.pointer (some ⟨cb,co+last,none⟩),.int .i64 y1,.pointer (some ⟨g,0,none⟩),.pointer (some ⟨g,0,none⟩),.pointer (some ⟨g,0,none⟩),.slice (some ⟨ab,ao,none⟩) rows.length cc,.int .i64 (u:Int),.pointer (some ⟨ab,ao+u,none⟩),.slice (some ⟨cb,co,none⟩) rows.length d,.pointer (some ⟨cb,co,none⟩),.int .i64 y2,.int .i64 y1,.int .i64 y2,.int .i64 mn,.int .i64 y1,.int .i64 y2,.int .i64 mx,.agg #[.int .i64 mn,.int .i64 mx],.pointer (some ⟨w.heap.size+1,0,none⟩),.agg #[.int .u64 m,.int .u64 0],.int .i64 (u:Int),.agg #[.int .u64 mu,.int .u64 0],.func (.func 140) #[] #[.pointer (some ⟨w3.heap.size,0,none⟩)],.int .i64 ((y.1:Nat):Int),undef,undef,undef,undef,undef,undef,undef,undef,undef,undef,undef,undef,undef,undef,undef,undef,undef,undef,undef,undef,undef,undef,undef,undef,undef,undef,undef,undef,undef,undef,undef,undef,undef,undef,undef,undef,undef,undef,undef,undef,undef,undef,undef,undef,undef,undef,undef,undef,undef,undef,undef,undef,undef,undef,undef,undef,undef,undef,undef,undef],defers:=[] })
   (fun _ _ _ _ _ _ hs _ _=>hs)
   ?assign2 ?body2 ?done2 ?stop2
  case assign2 =>
   rintro l2 pre' y W' K hi hK
   gi_wp2
   exact hK _ _ (KeepsFrom.refl _ _) ⟨Below.refl _ _,rfl⟩ hi rfl
  case body2 =>
   rintro l2 pre' y a'' W' _ _ ⟨hP,hH2,hBW2⟩ rfl _;have hy:=muR.out y.1 y.2;obtain⟨p,hp⟩:∃ p:Int×Int,Hid (p=(inL pre').foldl (fun p v=>Xu p (Zb rows u v)) (mn,mx)):=⟨_,rfl⟩;rw[<-hp.out] at hP;have xw':Hid (Below w.heap.size w W'):=hBW.out.trans hBW2;obtain⟨cb',co',z,hD3,zz,cz,ez,_⟩:=(oD.out.read.ext xw'.out).at (k:=y.1) (by omega);obtain⟨rfl,rfl⟩:cb=cb'/\co=co':=by simpa using hD3
   obtain⟨ab',ao',vv,hC3,zv3,cv3,ev3⟩:=(hV.out.read.ext xw'.out).at (j:=u) (by rw[lus.out];exact hu);obtain⟨rfl,rfl⟩:ab=ab'/\ao=ao':=by simpa using hC3
   obtain rfl:.slice (some ⟨cb,co,none⟩) row.length d=vv:=by
    have h:=ev3.out;rw[hud] at h;exact Option.some.inj h
   have eN:Hid ((inL (pre'++[y])).foldl (fun p v=>Xu p (Zb rows u v)) (mn,mx)=Xu p z):=Hd (by
    rw[Xr,List.foldl_append,<-hp.out,List.foldl_cons,List.foldl_nil,ecost.out,getD_some ez.out])
   have cG':W'.cell? ⟨g,0,none⟩=some (.slice (some ⟨ab,ao,none⟩) rows.length cc):=(hB.out.ext xw'.out).cell 0;have cK':W'.cell? ⟨w.heap.size,0,none⟩=some (.pointer (some ⟨g,0,none⟩)):=(hH2.blk kW3.out (by omega)).cell 0;have cX':W'.cell? ⟨Bx,0,none⟩=some (.int .i64 (u:Int)):=(hH2.blk bX3.out (by omega)).cell 0;have cP0:=hP.c0;have cP1:=hP.c1;have PU:=Hd (fun(V:World)=>Zfp p z V);have q4:((y.1:Nat):Int)<(row.length:Int):=by omega
   clear ez ev3 hD3 hC3 hp;obtain⟨p1,p2⟩:=p;obtain⟨r2,hr2⟩:∃ r2,Hid (Xu (p1,p2) z=r2):=⟨_,rfl⟩;rw[hr2.out] at PU eN;obtain⟨r1,r2⟩:=r2;simp only at cP0 cP1 hP;replace hP:=Hd hP
   gi_wp2
   refine Xi (by kernel_rfl) (by kernel_rfl) (fun _=>trivial) rfl rfl ?_
   change wpAny _ _ _ _ _ _ _ (World.drew _)
   refine YX (n:=2) [(0,some 52),(1,some 53),(2,some 54),(3,some 55),(4,some 56),(5,some 57),(6,some 58),(7,some 59),(8,some 60),(9,some 61),(10,some 62)] (fun | 0=>.agg #[.int .i64 p1,.int .i64 p2] | 1=>.pointer (some ⟨g,0,none⟩) | 2=>.pointer (some ⟨g,0,none⟩) | 3=>.pointer (some ⟨g,0,none⟩) | 4=>.slice (some ⟨ab,ao,none⟩) rows.length cc | 5=>.int .i64 (u:Int) | 6=>.pointer (some ⟨ab,ao+u,none⟩) | 7=>.slice (some ⟨cb,co,none⟩) row.length d | 8=>.int .i64 ((y.1:Nat):Int) | 9=>.pointer (some ⟨cb,co+y.1,none⟩) | 10=>.int .i64 z | _=>undef) #[true,true,true,true,true,true,true,true,true,true,true,false,false] (by decide +kernel) ?_ ?_
   ·intro pS hpm uS hD K hK
    simp only[List.mem_cons,List.not_mem_nil,or_false] at hpm;rcases hpm with rfl | rfl | rfl | rfl | rfl | rfl | rfl | rfl | rfl | rfl | rfl
    ·exact Zp (T:=313) (x:=Operand.tmp 11) (t:=313) (d:=some 52) rfl (.pointer (some ⟨W1.heap.size,0,none⟩)) (by kernel_rfl) (.agg #[.int .i64 p1,.int .i64 p2]) (by go_simp) hK
    ·exact Zp (T:=79) (x:=Operand.tmp 2) (t:=79) (d:=some 53) rfl (.pointer (some ⟨w.heap.size,0,none⟩)) (by kernel_rfl) (.pointer (some ⟨g,0,none⟩)) (by go_simp) hK
    ·(have e1:uS 1=.pointer (some ⟨g,0,none⟩):=hD 1 (Zn (by kernel_rfl));exact ZM (op:=Op.nilCheck (Operand.tmp 53)) (t:=0) (d:=some 54) rfl (.pointer (some ⟨g,0,none⟩)) (by simp only[Zk,Act.put,List.setIfInBounds_toArray,List.set_cons_zero,List.set_cons_succ];unfold Zd;go_simp;try simp only[e1];try go_simp) hK)
    ·(have e2:uS 2=.pointer (some ⟨g,0,none⟩):=hD 2 (Zn (by kernel_rfl));exact ZM (op:=Op.fieldAddr 123 (Operand.tmp 54) 0) (t:=0) (d:=some 55) rfl (.pointer (some ⟨g,0,none⟩)) (by simp only[Zk,Act.put,List.setIfInBounds_toArray,List.set_cons_zero,List.set_cons_succ];unfold Zd;go_simp;try simp only[e2];try go_simp) hK)
    ·exact Zp (T:=23) (x:=Operand.tmp 55) (t:=23) (d:=some 56) rfl (.pointer (some ⟨g,0,none⟩)) (Eq.trans (b:=uS 3) (by kernel_rfl) (hD 3 (Zn (by kernel_rfl)))) (.slice (some ⟨ab,ao,none⟩) rows.length cc) (by go_simp) hK
    ·exact Zp (T:=3) (x:=Operand.tmp 8) (t:=3) (d:=some 57) rfl (.pointer (some ⟨Bx,0,none⟩)) (by kernel_rfl) (.int .i64 (u:Int)) (by go_simp) hK
    ·exact Z2 (T:=23) (x:=Operand.tmp 56) (y:=Operand.tmp 57) (t:=0) (d:=some 58) rfl (.slice (some ⟨ab,ao,none⟩) rows.length cc) (.int .i64 (u:Int)) (Eq.trans (b:=uS 4) (by kernel_rfl) (hD 4 (Zn (by kernel_rfl)))) (Eq.trans (b:=uS 5) (by kernel_rfl) (hD 5 (Zn (by kernel_rfl)))) (.pointer (some ⟨ab,ao+u,none⟩)) (by go_simp) hK
    ·exact Zp (T:=22) (x:=Operand.tmp 58) (t:=22) (d:=some 59) rfl (.pointer (some ⟨ab,ao+u,none⟩)) (Eq.trans (b:=uS 6) (by kernel_rfl) (hD 6 (Zn (by kernel_rfl)))) (.slice (some ⟨cb,co,none⟩) row.length d) (by go_simp) hK
    ·exact ZM (op:=Op.move (Operand.tmp 12)) (t:=3) (d:=some 60) rfl (.int .i64 ((y.1:Nat):Int)) (by simp only[Zk];unfold Zd;go_simp) hK
    ·exact Z2 (T:=22) (x:=Operand.tmp 59) (y:=Operand.tmp 60) (t:=0) (d:=some 61) rfl (.slice (some ⟨cb,co,none⟩) row.length d) (.int .i64 ((y.1:Nat):Int)) (Eq.trans (b:=uS 7) (by kernel_rfl) (hD 7 (Zn (by kernel_rfl)))) (Eq.trans (b:=uS 8) (by kernel_rfl) (hD 8 (Zn (by kernel_rfl)))) (.pointer (some ⟨cb,co+y.1,none⟩)) (by go_simp) hK
    ·exact Zp (T:=3) (x:=Operand.tmp 61) (t:=3) (d:=some 62) rfl (.pointer (some ⟨cb,co+y.1,none⟩)) (Eq.trans (b:=uS 9) (by kernel_rfl) (hD 9 (Zn (by kernel_rfl)))) (.int .i64 z) (by go_simp) hK
   simp only[Zk,Act.put,List.setIfInBounds_toArray,List.set_cons_zero,List.set_cons_succ];refine Zi 11 (by decide +kernel) (Ym (f:=284) (xs:=#[Operand.tmp 52,Operand.tmp 62]) (ts:=#[313,3]) (t:=313) (d:=some 63) rfl #[.agg #[.int .i64 p1,.int .i64 p2],.int .i64 z] (by go_simp) (by kernel_rfl) _ (PU.out _) ?_);rintro e w5 ⟨rfl,x5⟩;refine⟨_,rfl,?_⟩
   try simp only[lay]
   have hP5:Blk w5 W1.heap.size 313 #[.int .i64 p1,.int .i64 p2]:=(hP.out.drew).ext x5;have k0:=hP5.c0;have k1:=hP5.c1;have k2:=hP5.free 0;have k3:=hP5.free 1;refine Zi 12 (by decide +kernel) (Yl rfl (.pointer (some ⟨W1.heap.size,0,none⟩)) (.agg #[.int .i64 r1,.int .i64 r2]) (by kernel_rfl) (by kernel_rfl) (by go_simp;rfl) ?_)
   try simp only[lay]
   refine wpAny_done (by kernel_rfl) (VV ?_) _;have XW5:Ext W' w5:=((Ext.rf W').drew).tr x5;have zW':w3.heap.size+1<=W'.heap.size:=by have:=hH2.1;simpa using this
   refine⟨(KeepsFrom.of_ext XW5).trans (((KeepsOthers.setCell _ _ _).trans (KeepsOthers.setCell _ _ _)).from _),⟨((XW5.mono (by omega)).setCell (by simp<;>omega) _).setCell (by simp<;>omega) _,?_⟩,?_,?_,?_⟩
   ·exact((Below.heap_setCell _ ⟨W1.heap.size,1,none⟩ _ w3.heap.size (by simp<;>omega)).trans (Below.heap_setCell w5 ⟨W1.heap.size,0,none⟩ _ w3.heap.size (by simp<;>omega))).trans (XW5.block w3.heap.size (by omega))
   ·rw[eN.out]
    exact(hP5.set 0 _).set 1 _
   ·refine⟨by have:=XW5.size;simp;omega,fun b h1 h2=>?_⟩
    rw[World.size_alloc] at h1;exact(((Below.heap_setCell _ ⟨W1.heap.size,1,none⟩ _ b h2).trans (Below.heap_setCell w5 ⟨W1.heap.size,0,none⟩ _ b h2)).trans (XW5.block b (by omega))).trans (hH2.2 b (by simp;omega) h2)
   ·exact((hBW2.trans (XW5.mono (by omega))).setCell (by simp<;>omega) _).setCell (by simp<;>omega) _
  case done2 =>
   rintro ys' W' rfl ⟨hP,hH2,hBW2⟩;rw[Yr,emu.out] at hP;have epair:ZJ rows (Zc m) last u=((Zc m).filter fun j=>decide (u≠j)).foldl (fun p v=>Xu p (Zb rows u v)) (mn,mx):=by
    unfold ZJ;rw[e1.out,e2.out,hmn.out,hmx'.out]
   rw[<-epair] at hP;have bp:(0<=(ZJ rows (Zc m) last u).1/\(ZJ rows (Zc m) last u).1<=2147483647)/\0<=(ZJ rows (Zc m) last u).2/\(ZJ rows (Zc m) last u).2<=2147483647:=by
    rw[epair];refine Vg _ _ ?_ ?_ fun v hv=>hcost.out u v hu (hmr.out v (List.mem_filter.1 hv).1)
    ·simp only[<-hmn.out];omega
    ·simp only[<-hmx'.out];omega
   obtain⟨pp,hpp⟩:∃ pp,Hid (ZJ rows (Zc m) last u=pp):=⟨_,rfl⟩;rw[hpp.out] at hP bp;obtain⟨p1,p2⟩:=pp;simp only at hP bp;obtain⟨su,hsu⟩:∃ su,Hid (su=Zj ((inL pre).map fun u=>(ZJ rows (Zc m) last u).1+(ZJ rows (Zc m) last u).2)):=⟨_,rfl⟩;obtain⟨fr,hfr⟩:∃ fr,Hid (fr=Zt (fun u=>Zb rows last u) (-1) (inL pre)):=⟨_,rfl⟩;obtain⟨tq,hto⟩:∃ tq,Hid (tq=Zt (fun u=>Zb rows u 0) (-1) (inL pre)):=⟨_,rfl⟩;rw[<-hsu.out] at hO;rw[<-hfr.out] at hF;rw[<-hto.out] at hTo;have bsu:0<=su/\su<=4294967294*64:=by
    have h1:∀ l:List Nat,(∀ c∈l,c<rows.length)->0<=Zj (l.map fun u=>(ZJ rows (Zc m) last u).1+(ZJ rows (Zc m) last u).2)/\Zj (l.map fun u=>(ZJ rows (Zc m) last u).1+(ZJ rows (Zc m) last u).2)<=4294967294*(l.length:Int):=by
     intro l
     induction l with
     | nil=>intro _;simp[Zj]
     | cons y l ih =>
      intro h;have h2:=ih fun s hs=>h s (by simp[hs])
      have hy:=h y (by simp);have k1:=hcost.out y last hy hla;have k2:=hcost.out y 0 hy (by omega);have h3:=Vg (B:=2147483647) (f:=fun v=>Zb rows y v) ((Zc m).filter fun j=>decide (y≠j)) (min (Zb rows y last) (Zb rows y 0),max (Zb rows y last) (Zb rows y 0)) (by simp only;omega) (by simp only;omega) fun v hv=>hcost.out y v hy (hmr.out v (List.mem_filter.1 hv).1)
      have h4:ZJ rows (Zc m) last y=((Zc m).filter fun j=>decide (y≠j)).foldl (fun p v=>Xu p (Zb rows y v)) (min (Zb rows y last) (Zb rows y 0),max (Zb rows y last) (Zb rows y 0)):=rfl;rw[<-h4] at h3;simp only[List.map_cons,Zj,List.length_cons];omega
    have h2:=h1 (inL pre) fun c hc=>by
     obtain⟨c',_,rfl⟩:=List.mem_map.1 hc;exact hmr.out c'.1 c'.2
    have h3:(inL pre).length<=64:=by
     have:=Xq m;simp[inL];omega
    rw[hsu.out];omega
   have eS:Hid (Zj ((inL (pre++[x])).map fun u=>(ZJ rows (Zc m) last u).1+(ZJ rows (Zc m) last u).2)=su+(p1+p2)):=Hd (by
    rw[inx,List.map_append,List.map_cons,List.map_nil,XI,<-hsu.out,hpp.out])
   have cost1:=hcost.out last u hla hu;obtain⟨y3,hy3⟩:∃ y3,Hid (Zb rows last u=y3):=⟨_,rfl⟩;rw[hy3.out] at cost1;have eFr:Hid (Zt (fun u=>Zb rows last u) (-1) (inL (pre++[x]))=if fr<0 then y3 else if y3<fr then y3 else fr):=Hd (by
    rw[inx,Wk,<-hfr.out,hy3.out])
   have eTo:Hid (Zt (fun u=>Zb rows u 0) (-1) (inL (pre++[x]))=if tq<0 then y2 else if y2<tq then y2 else tq):=Hd (by
    rw[inx,Wk,<-hto.out,e2.out])
   have erl:rows[last]?=some rows[last]:=List.getElem?_eq_getElem hla;obtain⟨DL,dl,hul,oDL⟩:=hR.out.2 _ _ erl;have lrl:=ok.row _ (List.getElem_mem hla);have ecl:Zb rows last u=(rows[last]).getD u 0:=by unfold Zb;rw[getD_some erl]
   generalize rows[last]=rowL at *;have hw1:IntKind.i64.wrap (p1+p2)=p1+p2:=IntWalk.i64_in _ (by omega);have hw2:IntKind.i64.wrap (su+(p1+p2))=su+(p1+p2):=IntWalk.i64_in _ (by omega);have zW':w3.heap.size+1<=W'.heap.size:=by have:=hH2.1;simpa using this
   have G0:EndG w W0 W su fr tq W':=by
    refine⟨⟨by omega,fun k o hk h1 h2=>?_⟩,⟨hBW2,?_⟩,⟨hH2.blk (hO.out.ext xW3.out) (by omega),hH2.blk (hF.out.ext xW3.out) (by omega),hH2.blk (hTo.out.ext xW3.out) (by omega)⟩,⟨by omega,fun b h1 h2=>?_⟩,hBW.out.trans hBW2⟩
    ·have hk1:k<W.heap.size:=(Array.getElem?_eq_some_iff.1 h1).1
     exact((hH2.2 k (by simp;omega) (by omega)).trans (xW3.out.block k hk1)).trans h1
    ·exact(hH2.2 _ (by simp;omega) (by omega)).trans (xW3.out.block _ (by omega))
    ·exact((hH2.2 b (by simp;omega) (by omega)).trans (xW3.out.block b (by omega))).trans (hH.out.2 b h1 h2)
   have G1:=G0.set2 (su+(p1+p2));have cP0:=hP.c0;have cP1:=hP.c1;have cS:=G0.2.2.1.1.c0;have fS:=G0.2.2.1.1.free 0;have kW':=(hH2.blk kW3.out (by omega)).far (p:=⟨w.heap.size+1+1,0,none⟩) (by simp<;>omega) (.int .i64 (su+(p1+p2)));have wW':=(hH2.blk (wW.out.ext xW3.out) (by omega)).far (p:=⟨w.heap.size+1+1,0,none⟩) (by simp<;>omega) (.int .i64 (su+(p1+p2)));have xW':=(hH2.blk bX3.out (by omega)).far (p:=⟨w.heap.size+1+1,0,none⟩) (by simp<;>omega) (.int .i64 (su+(p1+p2)));replace hP:=Hd hP;clear bsu bp hH2 hBW2 G0
   gi_wp2
   replace kW':=Hd kW';replace wW':=Hd wW';replace xW':=Hd xW';have zV1:w.heap.size+1+1+1+1+1<(W'.setCell ⟨w.heap.size+1+1,0,none⟩ (.int .i64 (su+(p1+p2)))).heap.size:=by simp;omega
   replace G1:=Hd G1;clear cP0 cP1 cS fS hr3 hP;generalize W'.setCell ⟨w.heap.size+1+1,0,none⟩ (.int .i64 (su+(p1+p2)))=V1 at *;have cG1:V1.cell? ⟨g,0,none⟩=some (.slice (some ⟨ab,ao,none⟩) rows.length cc):=(hB.out.ext G1.out.2.2.2.2).cell 0;have cK1:=kW'.out.c0;have cW1:=wW'.out.c2;have cX1:=xW'.out.c0;obtain⟨ab',ao',vv,hC5,zv5,cv5,ev5⟩:=(hV.out.read.ext G1.out.2.2.2.2).at (j:=last) (by rw[lus.out];exact hla);obtain⟨rfl,rfl⟩:ab=ab'/\ao=ao':=by simpa using hC5
   obtain rfl:.slice DL rowL.length dl=vv:=by
    have h:=ev5.out;rw[hul] at h;exact Option.some.inj h
   obtain⟨lb',lo',y3x,rfl,zy3x,cy3x,ey3x,_⟩:=(oDL.read.ext G1.out.2.2.2.2).at (k:=u) (by omega);have e35:y3x=y3:=by rw[<-hy3.out,ecl,getD_some ey3x.out]
   obtain rfl:=e35;have q6:(last:Int)<(rows.length:Int):=by omega
   have q7:(u:Int)<(rowL.length:Int):=by omega
   replace ecl:=Hd ecl;clear ey3x ev5 hC5
   by_cases hneg:fr<0
   ·rw[if_pos hneg] at eFr
    gi_wp2
    refine Zg (by kernel_rfl) (by kernel_rfl) (by kernel_rfl) ?_
    repeat (gi_big_quiet_step (fail))
    refine wpQuietIn_nil ?_;rintro _ ⟨nq,rfl⟩;have XV:Hid (Ext V1 (V1.drewN nq)):=(Ext.rf V1).drewN nq;have zV2:w.heap.size+1+1+1+1+1<(V1.drewN nq).heap.size:=by have:=XV.out.size;omega
    have G2:=Hd (G1.out.ext (by omega) XV.out);have kV2:=Hd (kW'.out.ext XV.out);have xV2:=Hd (xW'.out.ext XV.out);obtain⟨V2,hV2⟩:∃ V2,V1.drewN nq=V2:=⟨_,rfl⟩;rw[hV2] at G2 kV2 xV2 zV2 ⊢;clear hV2 XV cG1 cK1 cW1 cX1 cv5 cy3x;have cFr:=G2.out.2.2.1.2.1.c0;have fFr:=G2.out.2.2.1.2.1.free 0
    gi_wp2
    have G3:=G2.out.set3 y3x;have kV3:=Hd (kV2.out.far (p:=⟨w.heap.size+1+1+1,0,none⟩) (by simp<;>omega) (.int .i64 y3x));have xV3:=Hd (xV2.out.far (p:=⟨w.heap.size+1+1+1,0,none⟩) (by simp<;>omega) (.int .i64 y3x));have zV3:w.heap.size+1+1+1+1+1<(V2.setCell ⟨w.heap.size+1+1+1,0,none⟩ (.int .i64 y3x)).heap.size:=by simpa using zV2
    generalize V2.setCell ⟨w.heap.size+1+1+1,0,none⟩ (.int .i64 y3x)=V3 at *;clear cFr fFr;have G3:=Hd G3;have cT:=G3.out.2.2.1.2.2.c0;have fT:=G3.out.2.2.1.2.2.free 0;have cG3:V3.cell? ⟨g,0,none⟩=some (.slice (some ⟨ab,ao,none⟩) rows.length cc):=(hB.out.ext G3.out.2.2.2.2).cell 0;have cK3:=kV3.out.c0;have cX3:=xV3.out.c0;obtain⟨ab',ao',vv,hC4,zv4,cv4,ev4⟩:=(hV.out.read.ext G3.out.2.2.2.2).at (j:=u) (by rw[lus.out];exact hu);obtain⟨rfl,rfl⟩:ab=ab'/\ao=ao':=by simpa using hC4
    obtain rfl:.slice (some ⟨cb,co,none⟩) row.length d=vv:=by
     have h:=ev4.out;rw[hud] at h;exact Option.some.inj h
    obtain⟨cb',co',z4,hD4,zz4,cz4,ez4,_⟩:=(oD.out.read.ext G3.out.2.2.2.2).at (k:=0) (by omega);obtain⟨rfl,rfl⟩:cb=cb'/\co=co':=by simpa using hD4
    obtain rfl:z4=y2:=by
     have h:=ecost.out 0;rw[e2.out,getD_some ez4.out] at h;exact h.symm
    replace cz4:V3.cell? ⟨cb,co,none⟩=some (.int .i64 z4):=cz4;clear ez4 ev4 hC4 hD4
    by_cases hneg2:tq<0
    ·rw[if_pos hneg2] at eTo
     gi_wp2
     refine Zg (by kernel_rfl) (by kernel_rfl) (by kernel_rfl) ?_
     repeat (gi_big_quiet_step (fail))
     refine wpQuietIn_nil ?_;rintro _ ⟨nq,rfl⟩
     gi_wp2
     have E:=(G3.out.ext (by omega) ((Ext.rf V3).drewN nq)).set4 z4;exact⟨E.1,E.2.1,⟨by rw[eS.out];exact E.2.2.1.1,by rw[eFr.out];exact E.2.2.1.2.1,by rw[eTo.out];exact E.2.2.1.2.2⟩,E.2.2.2.1,E.2.2.2.2⟩
    ·rw[if_neg hneg2] at eTo
     by_cases hlt2:z4<tq
     ·rw[if_pos hlt2] at eTo
      gi_wp2
      refine Zg (by kernel_rfl) (by kernel_rfl) (by kernel_rfl) ?_
      repeat (gi_big_quiet_step (fail))
      refine wpQuietIn_nil ?_;rintro _ ⟨nq,rfl⟩
      gi_wp2
      have E:=(G3.out.ext (by omega) ((Ext.rf V3).drewN nq)).set4 z4;exact⟨E.1,E.2.1,⟨by rw[eS.out];exact E.2.2.1.1,by rw[eFr.out];exact E.2.2.1.2.1,by rw[eTo.out];exact E.2.2.1.2.2⟩,E.2.2.2.1,E.2.2.2.2⟩
     ·rw[if_neg hlt2] at eTo
      gi_wp2
      refine Zg (by kernel_rfl) (by kernel_rfl) (by kernel_rfl) ?_
      repeat (gi_big_quiet_step (fail))
      refine wpQuietIn_nil ?_;rintro _ ⟨nq,rfl⟩
      gi_wp2
      have E:=G3.out.ext (by omega) ((Ext.rf V3).drewN nq);exact⟨E.1,E.2.1,⟨by rw[eS.out];exact E.2.2.1.1,by rw[eFr.out];exact E.2.2.1.2.1,by rw[eTo.out];exact E.2.2.1.2.2⟩,E.2.2.2.1,E.2.2.2.2⟩
   ·rw[if_neg hneg] at eFr
    by_cases hlt1:y3x<fr
    ·rw[if_pos hlt1] at eFr
     gi_wp2
     refine Zg (by kernel_rfl) (by kernel_rfl) (by kernel_rfl) ?_
     repeat (gi_big_quiet_step (fail))
     refine wpQuietIn_nil ?_;rintro _ ⟨nq,rfl⟩;have XV:Hid (Ext V1 (V1.drewN nq)):=(Ext.rf V1).drewN nq;have zV2:w.heap.size+1+1+1+1+1<(V1.drewN nq).heap.size:=by have:=XV.out.size;omega
     have G2:=Hd (G1.out.ext (by omega) XV.out);have kV2:=Hd (kW'.out.ext XV.out);have xV2:=Hd (xW'.out.ext XV.out);obtain⟨V2,hV2⟩:∃ V2,V1.drewN nq=V2:=⟨_,rfl⟩;rw[hV2] at G2 kV2 xV2 zV2 ⊢;clear hV2 XV cG1 cK1 cW1 cX1 cv5 cy3x;have cFr:=G2.out.2.2.1.2.1.c0;have fFr:=G2.out.2.2.1.2.1.free 0
     gi_wp2
     have G3:=G2.out.set3 y3x;have kV3:=Hd (kV2.out.far (p:=⟨w.heap.size+1+1+1,0,none⟩) (by simp<;>omega) (.int .i64 y3x));have xV3:=Hd (xV2.out.far (p:=⟨w.heap.size+1+1+1,0,none⟩) (by simp<;>omega) (.int .i64 y3x));have zV3:w.heap.size+1+1+1+1+1<(V2.setCell ⟨w.heap.size+1+1+1,0,none⟩ (.int .i64 y3x)).heap.size:=by simpa using zV2
     generalize V2.setCell ⟨w.heap.size+1+1+1,0,none⟩ (.int .i64 y3x)=V3 at *;clear cFr fFr;have G3:=Hd G3;have cT:=G3.out.2.2.1.2.2.c0;have fT:=G3.out.2.2.1.2.2.free 0;have cG3:V3.cell? ⟨g,0,none⟩=some (.slice (some ⟨ab,ao,none⟩) rows.length cc):=(hB.out.ext G3.out.2.2.2.2).cell 0;have cK3:=kV3.out.c0;have cX3:=xV3.out.c0;obtain⟨ab',ao',vv,hC4,zv4,cv4,ev4⟩:=(hV.out.read.ext G3.out.2.2.2.2).at (j:=u) (by rw[lus.out];exact hu);obtain⟨rfl,rfl⟩:ab=ab'/\ao=ao':=by simpa using hC4
     obtain rfl:.slice (some ⟨cb,co,none⟩) row.length d=vv:=by
      have h:=ev4.out;rw[hud] at h;exact Option.some.inj h
     obtain⟨cb',co',z4,hD4,zz4,cz4,ez4,_⟩:=(oD.out.read.ext G3.out.2.2.2.2).at (k:=0) (by omega);obtain⟨rfl,rfl⟩:cb=cb'/\co=co':=by simpa using hD4
     obtain rfl:z4=y2:=by
      have h:=ecost.out 0;rw[e2.out,getD_some ez4.out] at h;exact h.symm
     replace cz4:V3.cell? ⟨cb,co,none⟩=some (.int .i64 z4):=cz4;clear ez4 ev4 hC4 hD4
     by_cases hneg2:tq<0
     ·rw[if_pos hneg2] at eTo
      gi_wp2
      refine Zg (by kernel_rfl) (by kernel_rfl) (by kernel_rfl) ?_
      repeat (gi_big_quiet_step (fail))
      refine wpQuietIn_nil ?_;rintro _ ⟨nq,rfl⟩
      gi_wp2
      have E:=(G3.out.ext (by omega) ((Ext.rf V3).drewN nq)).set4 z4;exact⟨E.1,E.2.1,⟨by rw[eS.out];exact E.2.2.1.1,by rw[eFr.out];exact E.2.2.1.2.1,by rw[eTo.out];exact E.2.2.1.2.2⟩,E.2.2.2.1,E.2.2.2.2⟩
     ·rw[if_neg hneg2] at eTo
      by_cases hlt2:z4<tq
      ·rw[if_pos hlt2] at eTo
       gi_wp2
       refine Zg (by kernel_rfl) (by kernel_rfl) (by kernel_rfl) ?_
       repeat (gi_big_quiet_step (fail))
       refine wpQuietIn_nil ?_;rintro _ ⟨nq,rfl⟩
       gi_wp2
       have E:=(G3.out.ext (by omega) ((Ext.rf V3).drewN nq)).set4 z4;exact⟨E.1,E.2.1,⟨by rw[eS.out];exact E.2.2.1.1,by rw[eFr.out];exact E.2.2.1.2.1,by rw[eTo.out];exact E.2.2.1.2.2⟩,E.2.2.2.1,E.2.2.2.2⟩
      ·rw[if_neg hlt2] at eTo
       gi_wp2
       refine Zg (by kernel_rfl) (by kernel_rfl) (by kernel_rfl) ?_
       repeat (gi_big_quiet_step (fail))
       refine wpQuietIn_nil ?_;rintro _ ⟨nq,rfl⟩
       gi_wp2
       have E:=G3.out.ext (by omega) ((Ext.rf V3).drewN nq);exact⟨E.1,E.2.1,⟨by rw[eS.out];exact E.2.2.1.1,by rw[eFr.out];exact E.2.2.1.2.1,by rw[eTo.out];exact E.2.2.1.2.2⟩,E.2.2.2.1,E.2.2.2.2⟩
    ·rw[if_neg hlt1] at eFr
     gi_wp2
     refine Zg (by kernel_rfl) (by kernel_rfl) (by kernel_rfl) ?_
     repeat (gi_big_quiet_step (fail))
     refine wpQuietIn_nil ?_;rintro _ ⟨nq,rfl⟩;have XV:Hid (Ext V1 (V1.drewN nq)):=(Ext.rf V1).drewN nq;have zV2:w.heap.size+1+1+1+1+1<(V1.drewN nq).heap.size:=by have:=XV.out.size;omega
     have G2:=Hd (G1.out.ext (by omega) XV.out);have kV2:=Hd (kW'.out.ext XV.out);have xV2:=Hd (xW'.out.ext XV.out);obtain⟨V2,hV2⟩:∃ V2,V1.drewN nq=V2:=⟨_,rfl⟩;rw[hV2] at G2 kV2 xV2 zV2 ⊢;clear hV2 XV cG1 cK1 cW1 cX1 cv5 cy3x;have cFr:=G2.out.2.2.1.2.1.c0;have fFr:=G2.out.2.2.1.2.1.free 0
     gi_wp2
     have G3:=G2.out;have kV3:=kV2;have xV3:=xV2;have zV3:=zV2;obtain⟨V3,hV3⟩:∃ V3,V2=V3:=⟨_,rfl⟩;rw[hV3] at G3 kV3 xV3 zV3 ⊢;clear hV3;clear cFr fFr;have G3:=Hd G3;have cT:=G3.out.2.2.1.2.2.c0;have fT:=G3.out.2.2.1.2.2.free 0;have cG3:V3.cell? ⟨g,0,none⟩=some (.slice (some ⟨ab,ao,none⟩) rows.length cc):=(hB.out.ext G3.out.2.2.2.2).cell 0;have cK3:=kV3.out.c0;have cX3:=xV3.out.c0;obtain⟨ab',ao',vv,hC4,zv4,cv4,ev4⟩:=(hV.out.read.ext G3.out.2.2.2.2).at (j:=u) (by rw[lus.out];exact hu);obtain⟨rfl,rfl⟩:ab=ab'/\ao=ao':=by simpa using hC4
     obtain rfl:.slice (some ⟨cb,co,none⟩) row.length d=vv:=by
      have h:=ev4.out;rw[hud] at h;exact Option.some.inj h
     obtain⟨cb',co',z4,hD4,zz4,cz4,ez4,_⟩:=(oD.out.read.ext G3.out.2.2.2.2).at (k:=0) (by omega);obtain⟨rfl,rfl⟩:cb=cb'/\co=co':=by simpa using hD4
     obtain rfl:z4=y2:=by
      have h:=ecost.out 0;rw[e2.out,getD_some ez4.out] at h;exact h.symm
     replace cz4:V3.cell? ⟨cb,co,none⟩=some (.int .i64 z4):=cz4;clear ez4 ev4 hC4 hD4
     by_cases hneg2:tq<0
     ·rw[if_pos hneg2] at eTo
      gi_wp2
      refine Zg (by kernel_rfl) (by kernel_rfl) (by kernel_rfl) ?_
      repeat (gi_big_quiet_step (fail))
      refine wpQuietIn_nil ?_;rintro _ ⟨nq,rfl⟩
      gi_wp2
      have E:=(G3.out.ext (by omega) ((Ext.rf V3).drewN nq)).set4 z4;exact⟨E.1,E.2.1,⟨by rw[eS.out];exact E.2.2.1.1,by rw[eFr.out];exact E.2.2.1.2.1,by rw[eTo.out];exact E.2.2.1.2.2⟩,E.2.2.2.1,E.2.2.2.2⟩
     ·rw[if_neg hneg2] at eTo
      by_cases hlt2:z4<tq
      ·rw[if_pos hlt2] at eTo
       gi_wp2
       refine Zg (by kernel_rfl) (by kernel_rfl) (by kernel_rfl) ?_
       repeat (gi_big_quiet_step (fail))
       refine wpQuietIn_nil ?_;rintro _ ⟨nq,rfl⟩
       gi_wp2
       have E:=(G3.out.ext (by omega) ((Ext.rf V3).drewN nq)).set4 z4;exact⟨E.1,E.2.1,⟨by rw[eS.out];exact E.2.2.1.1,by rw[eFr.out];exact E.2.2.1.2.1,by rw[eTo.out];exact E.2.2.1.2.2⟩,E.2.2.2.1,E.2.2.2.2⟩
      ·rw[if_neg hlt2] at eTo
       gi_wp2
       refine Zg (by kernel_rfl) (by kernel_rfl) (by kernel_rfl) ?_
       repeat (gi_big_quiet_step (fail))
       refine wpQuietIn_nil ?_;rintro _ ⟨nq,rfl⟩
       gi_wp2
       have E:=G3.out.ext (by omega) ((Ext.rf V3).drewN nq);exact⟨E.1,E.2.1,⟨by rw[eS.out];exact E.2.2.1.1,by rw[eFr.out];exact E.2.2.1.2.1,by rw[eTo.out];exact E.2.2.1.2.2⟩,E.2.2.2.1,E.2.2.2.2⟩
  case stop2 =>
   rintro c pre' W' _ h;exact h.elim
 case done =>
  rintro D ys W hD rfl ⟨⟨hO,hF,hTo⟩,hH,hBW⟩ hK;rw[Yr] at hO hF hTo;obtain⟨su,hsu⟩:∃ su,Hid (su=Zj ((Zc m).map fun u=>(ZJ rows (Zc m) last u).1+(ZJ rows (Zc m) last u).2)):=⟨_,rfl⟩;obtain⟨fr,hfr⟩:∃ fr,Hid (fr=Zt (fun u=>Zb rows last u) (-1) (Zc m)):=⟨_,rfl⟩;obtain⟨tq,hto⟩:∃ tq,Hid (tq=Zt (fun u=>Zb rows u 0) (-1) (Zc m)):=⟨_,rfl⟩;rw[<-hsu.out] at hO;rw[<-hfr.out] at hF;rw[<-hto.out] at hTo;have bsu:0<=su/\su<=4294967294*64:=by
   have h1:∀ l:List Nat,(∀ c∈l,c<rows.length)->0<=Zj (l.map fun u=>(ZJ rows (Zc m) last u).1+(ZJ rows (Zc m) last u).2)/\Zj (l.map fun u=>(ZJ rows (Zc m) last u).1+(ZJ rows (Zc m) last u).2)<=4294967294*(l.length:Int):=by
    intro l
    induction l with
    | nil=>intro _;simp[Zj]
    | cons y l ih =>
     intro h;have h2:=ih fun s hs=>h s (by simp[hs])
     have hy:=h y (by simp);have k1:=hcost.out y last hy hla;have k2:=hcost.out y 0 hy (by omega);have h3:=Vg (B:=2147483647) (f:=fun v=>Zb rows y v) ((Zc m).filter fun j=>decide (y≠j)) (min (Zb rows y last) (Zb rows y 0),max (Zb rows y last) (Zb rows y 0)) (by simp only;omega) (by simp only;omega) fun v hv=>hcost.out y v hy (hmr.out v (List.mem_filter.1 hv).1)
     have h4:ZJ rows (Zc m) last y=((Zc m).filter fun j=>decide (y≠j)).foldl (fun p v=>Xu p (Zb rows y v)) (min (Zb rows y last) (Zb rows y 0),max (Zb rows y last) (Zb rows y 0)):=rfl;rw[<-h4] at h3;simp only[List.map_cons,Zj,List.length_cons];omega
   have h2:=h1 (Zc m) fun c hc=>hmr.out c hc
   have h3:=Xq m;rw[hsu.out];omega
  have bfr:-2147483647<=fr/\fr<=2147483647:=by
   rw[hfr.out];exact Yz (fun c hc=>by have:=hcost.out last c hla (hmr.out c hc);omega) (by omega) (by omega)
  have btq:-2147483647<=tq/\tq<=2147483647:=by
   rw[hto.out];exact Yz (fun c hc=>by have:=hcost.out c 0 (hmr.out c hc) (by omega);omega) (by omega) (by omega)
  have hw1:IntKind.i64.wrap (su+fr)=su+fr:=IntWalk.i64_in _ (by omega);have hw2:IntKind.i64.wrap (su+fr+tq)=su+fr+tq:=IntWalk.i64_in _ (by omega);have cS:=hO.c0;have cF:=hF.c0;have cT:=hTo.c0
  gi_wp2
  refine⟨by simp,.inl ⟨_,_,rfl,run_takeDeferred hK,?_⟩⟩;refine⟨_,results_tmp rfl _ _ _,?_,hBW.trans (belowK_b (w:=w) (Nat.le_refl _) W D _ _ (by omega) hK rfl rfl)⟩;rw[hsu.out,hfr.out,hto.out]
  rfl
 case stop =>
  rintro D c pre W _ _ h _;exact h.elim
theorem ZdA {base g:Nat}{rows:List (List Int)}{mi:Bool}(m last:Nat)(cost:Int)(ok:RowsOk rows)(hS:SubN rows.length m)(hla:last<rows.length)(w:World)(hT:Tab w)(H:KernT w base g rows mi) :
  Calls Tryz.prog 281 #[.pointer (some ⟨g,0,none⟩),Us m last cost] w fun e W'=>e=.returned (.int .i64 (WV rows (Zc m) last))/\Ext w W' :=
 callsIn_wide.1 (ZeJ m last cost ok hS hla w hT H)
end Go.Proofs.YtmojhhlcocjoaaaGreatDoor
namespace Go.Proofs.YtmojhhlcocjoaaaGreatDoor
open Go.RowKit Go.ChangeShapes Go.WideShapes Go.ChangeAt Go.Deep
theorem Xv {f:Nat->Int}{B:Int} : ∀ (l:List Nat),(∀ x∈l,0<=f x/\f x<=B)->0<=Zj (l.map f)/\Zj (l.map f)<=B*(l.length:Int)
 | [],_=>by simp[Zj]
 | x::l,h=>by
  have h1:=h x (by simp);have h2:=Xv l fun y hy=>h y (by simp[hy])
  have h3:B*((l.length:Int)+1)=B*(l.length:Int)+B:=by rw[Int.mul_add,Int.mul_one]
  simp only[List.map_cons,Zj,List.length_cons,Int.natCast_add,Int.natCast_one];omega
theorem ZcQ {rows:List (List Int)}(num:∀ a b,a<rows.length->b<rows.length->0<=Zb rows a b/\Zb rows a b<=2147483647) : ∀ (l:List Nat) (s:Nat),s<rows.length->(∀ x∈l,x<rows.length)->0<=Vc rows s (Ze l)/\Vc rows s (Ze l)<=2147483647*(l.length:Int)
 | [],_,_,_=>by simp[Vc,Ze]
 | x::l,s,hs,h=>by
  have h1:=num s x hs (h x (by simp));have h2:=ZcQ num l x (h x (by simp)) fun y hy=>h y (by simp[hy])
  have e:Vc rows s (Ze (x::l))=Zb rows s x+Vc rows x (Ze l):=by simp[Ze,Vc]
  rw[e];simp only[List.length_cons,Int.natCast_add,Int.natCast_one];omega
section
variable {rows:List (List Int)} {us:List Nat} {last:Nat}
theorem Zb5 (num:∀ a b,a<rows.length->b<rows.length->0<=Zb rows a b/\Zb rows a b<=2147483647)(h0:0<rows.length)(hl:last<rows.length)(hu:∀ x∈us,x<rows.length)(hlen:us.length<=24) : 0<=ZS rows us last/\ZS rows us last<=2147483647*100:=by
 have hcol:∀ {s:Nat},∀ d∈Yc us last s,d<rows.length:=fun {s} d h=>by
  unfold Yc at h;split at h
  ·exact hu d h
  ·rcases List.mem_cons.1 h with rfl | h
   ·exact h0
   ·exact hu d (List.mem_filter.1 h).1
 have hsrc:∀ s∈last::us,s<rows.length:=fun s h=>by
  rcases List.mem_cons.1 h with rfl | h
  ·exact hl
  ·exact hu s h
 have hoff:∀ s∈last::us,0<=Z5 rows us last s/\Z5 rows us last s<=2147483647:=fun s hs=>by
  have h1:=Yz (f:=fun dst=>Zb rows s dst) (B:=2147483647) (l:=Yc us last s) (b:=-1) (fun c hc=>by
   have:=num s c (hsrc s hs) (hcol c hc);omega) (by omega) (by omega)
  unfold Z5;omega
 have h1:=Xv (f:=fun src=>Z5 rows us last src) (last::us) hoff;have h2:=Xv (f:=fun dst=>max (We rows us last dst) 0) (B:=4294967294) (0::us) fun d hd=>by
  have hd':d<rows.length:=by
   rcases List.mem_cons.1 hd with rfl | hd
   ·exact h0
   ·exact hu d hd
  have h3:-4294967294<=We rows us last d/\We rows us last d<=4294967294:=by
   unfold We;refine Yz (fun s hs=>?_) (by omega) (by omega);have h4:=num s d (hsrc s (List.mem_filter.1 hs).1) hd';have h5:=hoff s (List.mem_filter.1 hs).1;omega
  omega
 unfold ZS;simp only[List.length_cons] at h1 h2;omega
theorem ZeK (num:∀ a b,a<rows.length->b<rows.length->0<=Zb rows a b/\Zb rows a b<=2147483647)(h0:0<rows.length)(hl:last<rows.length)(hu:∀ x∈us,x<rows.length)(hlen:us.length<=24)(hne:us≠[]) : 0<=WV rows us last/\WV rows us last<=4294967294*30:=by
 have h1:=Xv (f:=fun u=>(ZJ rows us last u).1+(ZJ rows us last u).2) (B:=4294967294) us fun y hy=>by
  have k0:=hu y hy;have k1:=num y last k0 hl;have k2:=num y 0 k0 h0;have h3:=Vg (B:=2147483647) (f:=fun v=>Zb rows y v) (us.filter fun j=>decide (y≠j)) (min (Zb rows y last) (Zb rows y 0),max (Zb rows y last) (Zb rows y 0)) (by simp only;omega) (by simp only;omega) fun v hv=>num y v k0 (hu v (List.mem_filter.1 hv).1)
  have h4:ZJ rows us last y=(us.filter fun j=>decide (y≠j)).foldl (fun p v=>Xu p (Zb rows y v)) (min (Zb rows y last) (Zb rows y 0),max (Zb rows y last) (Zb rows y 0)):=rfl;rw[<-h4] at h3;omega
 have h2:=QZ (f:=fun u=>Zb rows last u) (B:=2147483647) (l:=us) (fun x hx=>num last x hl (hu x hx)) hne (by omega);have h3:=QZ (f:=fun u=>Zb rows u 0) (B:=2147483647) (l:=us) (fun x hx=>num x 0 (hu x hx) h0) hne (by omega);unfold WV;omega
end
theorem ZdB {m:Nat}(hm:m<18446744073709551616) : Zc m=[]↔m=0:=by
 constructor
 ·intro h
  by_cases e:m=0
  ·exact e
  ·have:=QK e hm
   rw[h] at this
   cases this
 ·rintro rfl
  exact VT
theorem ZeL (x:Int)(u:World) : (Op.equalIn 10000 141 (.agg #[.int .u64 x,.int .u64 0]) (.agg #[.int .u64 0,.int .u64 0])).run Tryz.prog u=.ok (x==0) u:=by
 unfold Op.equalIn;simp only[Sem.run_bind,run_underlying Tryz.underlying141,Result.andThen_ok];have e9:List.range' 0 2 1=[0,1]:=rfl;simp only[Std.Legacy.Range.forIn_eq_forIn_range',Std.Legacy.Range.size,Nat.sub_zero,Nat.add_one_sub_one,Nat.div_one,e9,List.forIn_cons,List.forIn_nil]
 by_cases hx:x=0
 ·subst hx
  go_simp
 ·have hx':(x==0)=false:=by simpa using hx
  go_simp
theorem Zb6 {base g:Nat}{rows:List (List Int)}{mi:Bool}(P:Option Addr)(pc:Nat)(p:List Int)(w:World)(hT:Tab w)(H:KernT w base g rows mi)(ok:RowsOk rows)(hP:RdI w P p)(lp:p.length<=1000000000) :
  Calls Tryz.prog 276 #[.pointer (some ⟨g,0,none⟩),.slice P p.length pc] w fun e w'=>e=.returned (.tuple #[.int .i64 (Yt rows mi p).1,.int .i64 (Yt rows mi p).2])/\Ext w w':=by
 have FR:=fun(W:World) (x:Ext w W)=>JK P pc p W (H.ext x) ok (hP.ext x) lp
 have l1:=ok.n1;have l2:=ok.n2;have H0:=H;obtain⟨C,cc,us,hB,_,hV,hR⟩:=H;have lus:Hid (us.length=rows.length):=hR.1;obtain⟨r,hr⟩:∃ r,Hid (Z8 rows p=r):=⟨_,rfl⟩;rw[hr.out] at FR
 cases r with
 | none =>
  have e:Yt rows mi p=(0,1):=by unfold Yt;rw[hr.out]
  rw[e];simp only[Zdw,Us] at FR;replace FR:=Hd FR;go_enter Tryz.func276,Tryz.ntmps276;go_wp2_with (fail);refine(FR.out _ (Ext.rf w)).mono ?_;rintro e w1 ⟨rfl,x1⟩;have X:=Hd (x1.alloc (.cells #[.int .u64 0,.int .u64 0,.int .i64 0,.int .i64 0] 308));go_wp2_with (fail);go_ret2;exact⟨rfl,by have:=X.out;first | exact x1 | exact this⟩
 | some s =>
  obtain⟨m,last,cost⟩:=s;obtain⟨pl,WO⟩:=YV l1 l2 hr.out;have hS:=WO.sub;have hla:=JL l1 WO;have h0m:0∉Zc m:=fun h=>((WO.rest 0).1 h).1.2 rfl
  have hlen:(Zc m).length<=24:=by have:=WO.len;omega
  have num:∀ a b,a<rows.length->b<rows.length->0<=Zb rows a b/\Zb rows a b<=2147483647:=fun a b ha hb=>by
   have e1:rows[a]?=some rows[a]:=List.getElem?_eq_getElem ha;have e2:=ok.row _ (List.getElem_mem ha);have e3:(rows[a])[b]?=some (rows[a])[b]:=List.getElem?_eq_getElem (by omega);unfold Zb;rw[getD_some e1,getD_some e3];exact ok.num _ (List.getElem_mem ha) _ (List.getElem_mem _)
  have bcost:0<=cost/\cost<=2147483647*24:=by
   have h1:=ZcQ num pl 0 (by omega) fun x hx=>(WO.inn x hx).1
   have h2:=WO.len;rw[WO.cost];omega
  have RD:=Hd (fun(W:World) (x:Ext w W)=>Zba m last cost ok hS h0m hla W (hT.ext x) (H0.ext x));have EN:=Hd (fun(W:World) (x:Ext w W)=>ZdA m last cost ok hS hla W (hT.ext x) (H0.ext x));have bred:=Zb5 num (by omega) hla hS.2 hlen;have e:Yt rows mi p=(cost+(if Zc m=[] then Zb rows last 0 else if mi=true then max (ZS rows (Zc m) last) ((WV rows (Zc m) last+1) / 2) else ZS rows (Zc m) last),0):=by unfold Yt;rw[hr.out]
  obtain⟨tot,ht⟩:∃ tot,Hid (tot=cost+(if Zc m=[] then Zb rows last 0 else if mi=true then max (ZS rows (Zc m) last) ((WV rows (Zc m) last+1) / 2) else ZS rows (Zc m) last)):=⟨_,rfl⟩;rw[e,<-ht.out];clear e;simp only[Zdw,Us] at FR;replace FR:=Hd FR;replace hB:=Hd hB;replace hV:=Hd hV;replace hR:=Hd hR
  by_cases hm0:m=0
  ·subst hm0
   have erow:rows[last]?=some rows[last]:=List.getElem?_eq_getElem hla;obtain⟨D,d,hu,oD⟩:=hR.out.2 _ _ erow;have lrow:=ok.row _ (List.getElem_mem hla);have ec:Zb rows last 0=(rows[last]).getD 0 0:=by unfold Zb;rw[getD_some erow]
   have nb:=num last 0 hla (by omega);generalize rows[last]=row at *;have ht2:Hid (tot=cost+row.getD 0 0):=by
    have h:=ht.out;rw[if_pos VT,ec] at h;exact h
   rw[ec] at nb;clear ht RD EN bred ec erow hr WO;have EQ:=fun u:World=>ZeL 0 u
   go_enter Tryz.func276,Tryz.ntmps276;go_wp2_with (fail);refine(FR.out _ (Ext.rf w)).mono ?_;rintro e w1 ⟨rfl,x1⟩;have X:=Hd (x1.alloc (.cells #[.int .u64 ((0:Nat):Int),.int .u64 0,.int .i64 last,.int .i64 cost] 308));obtain⟨ab,ao,vv,rfl,zv,cv,ev⟩:=(hV.out.read.ext X.out).at (j:=last) (by rw[lus.out];exact hla);obtain rfl:.slice D row.length d=vv:=by
    have h:=ev.out;rw[hu] at h;exact Option.some.inj h
   obtain⟨cb,co,y,rfl,zy,cy,ey,_⟩:=(oD.read.ext X.out).at (k:=0) (by omega);have ey2:=getD_some (d:=0) ey.out;rw[ey2] at nb;have ht3:Hid (tot=cost+y):=by
    have h:=ht2.out;rw[ey2] at h;exact h
   have cG:(w1.alloc (.cells #[.int .u64 ((0:Nat):Int),.int .u64 0,.int .i64 last,.int .i64 cost] 308)).cell? ⟨g,0,none⟩=some (.slice (some ⟨ab,ao,none⟩) rows.length cc):=(hB.out.ext X.out).cell 0;replace cy:(w1.alloc (.cells #[.int .u64 ((0:Nat):Int),.int .u64 0,.int .i64 last,.int .i64 cost] 308)).cell? ⟨cb,co,none⟩=some (.int .i64 y):=cy;have q1:(last:Int)<(rows.length:Int):=by omega
   have q2:(0:Int)<(row.length:Int):=by omega
   have hw:IntKind.i64.wrap (cost+y)=cost+y:=IntWalk.i64_in _ (by omega);clear ev ey ey2 ht2;have bW:Blk (w1.alloc (.cells #[.int .u64 ((0:Nat):Int),.int .u64 0,.int .i64 last,.int .i64 cost] 308)) w1.heap.size 308 #[.int .u64 ((0:Nat):Int),.int .u64 0,.int .i64 last,.int .i64 cost]:=.new rfl;have c2:=bW.cell 2;have c3:=bW.cell 3;simp only[List.getElem?_toArray,List.getElem?_cons_zero,List.getElem?_cons_succ,Int.natCast_zero] at c2 c3 cG cy;have X':=X;simp only[Int.natCast_zero] at X';go_wp2_with (fail)
   try simp only[Int.natCast_zero]
   generalize w1.alloc (.cells #[.int .u64 0,.int .u64 0,.int .i64 last,.int .i64 cost] 308)=w2 at *;go_quiet (fail);go_wp2_with (fail);go_ret2;rw[ht3.out];exact⟨rfl,X'.out.drewN _⟩
  ·have hne:Zc m≠[]:=fun h=>hm0 ((ZdB hS.1).1 h)
   have bend:=ZeK num (by omega) hla hS.2 hlen hne;have EQ:=fun u:World=>ZeL (m:Int) u
   have em:((m:Int)==0)=false:=by simp;omega
   rw[em] at EQ;obtain⟨rv,hrv⟩:∃ rv,Hid (ZS rows (Zc m) last=rv):=⟨_,rfl⟩;obtain⟨ev,hev⟩:∃ ev,Hid (WV rows (Zc m) last=ev):=⟨_,rfl⟩;rw[hrv.out] at RD bred;rw[hev.out] at EN bend;have ht2:Hid (tot=cost+(if mi=true then max rv ((ev+1) / 2) else rv)):=by
    have h:=ht.out;rw[if_neg hne,hrv.out,hev.out] at h;exact h
   have B1:∀ W:World,Blk (W.alloc (.cells #[.int .u64 m,.int .u64 0,.int .i64 last,.int .i64 cost] 308)) W.heap.size 308 #[.int .u64 m,.int .u64 0,.int .i64 last,.int .i64 cost]:=fun W=>.new rfl
   replace B1:=Hd B1;clear ht hr WO hm0 hne num H0 hT;go_enter Tryz.func276,Tryz.ntmps276;go_wp2_with (fail);refine(FR.out _ (Ext.rf w)).mono ?_;rintro e w1 ⟨rfl,x1⟩;have X:=Hd (x1.alloc (.cells #[.int .u64 m,.int .u64 0,.int .i64 last,.int .i64 cost] 308));clear x1;go_wp2_with (fail);refine(RD.out _ X.out).mono ?_;rintro e w2 ⟨rfl,x2⟩;have X2:=Hd (X.out.tr x2);have bW:=(B1.out w1).ext x2;have c0:=bW.c0;have c1:=bW.c1;have c2:=bW.c2;have c3:=bW.c3;have cM:w2.cell? ⟨g,1,none⟩=some (.bool mi):=(hB.out.ext X2.out).cell 1;clear x2
   cases mi with
   | false =>
    have ht3:Hid (tot=cost+rv):=ht2.out;have hw:IntKind.i64.wrap (cost+rv)=cost+rv:=IntWalk.i64_in _ (by omega);go_wp2_with (fail);go_ret2;rw[ht3.out];exact⟨rfl,X2.out⟩
   | true =>
    have ht3:Hid (tot=cost+max rv ((ev+1) / 2)):=ht2.out;have hw1:IntKind.i64.wrap (ev+1)=ev+1:=IntWalk.i64_in _ (by omega);have hq:(ev+1).tdiv 2=(ev+1) / 2:=Int.tdiv_eq_ediv_of_nonneg (by omega);have hw2:IntKind.i64.wrap ((ev+1) / 2)=(ev+1) / 2:=IntWalk.i64_in _ (by omega);have hmax:(if rv<(ev+1) / 2 then(ev+1) / 2 else rv)=max rv ((ev+1) / 2):=by split<;>omega
    obtain⟨mv,hmv⟩:∃ mv,Hid (max rv ((ev+1) / 2)=mv):=⟨_,rfl⟩;have bmv:0<=mv/\mv<=4294967294*100:=by rw[<-hmv.out];omega
    rw[hmv.out] at ht3 hmax;have hw3:IntKind.i64.wrap (cost+mv)=cost+mv:=IntWalk.i64_in _ (by omega);replace bW:=Hd bW;go_wp2_with (fail);refine(EN.out _ X2.out).mono ?_;rintro e w3 ⟨rfl,x3⟩;have X3:=Hd (X2.out.tr x3);have k2:w3.cell? ⟨w1.heap.size,2,none⟩=some (.int .i64 last):=(bW.out.ext x3).cell 2;have k3:w3.cell? ⟨w1.heap.size,3,none⟩=some (.int .i64 cost):=(bW.out.ext x3).cell 3;clear x3;go_wp2_with (fail);go_ret2;rw[ht3.out];exact⟨rfl,X3.out⟩
end Go.Proofs.YtmojhhlcocjoaaaGreatDoor
namespace Go.Proofs.YtmojhhlcocjoaaaGreatDoor
abbrev StK : Type:=Int×List Int×Nat
def Uv (g:Int->StK->StK×Bool) : List Int->StK->StK×Bool
 | [],st=>(st,true)
 | n::l,st=>match g n st with
  | (st',true)=>Uv g l st'
  | (st',false)=>(st',false)
def Yh (D:Nat)(kids:List Int->List Int)(bound:List Int->Int) : Nat->List Int->StK->StK×Bool
 | 0,_,st=>(st,true)
 | f+1,p,(best,found,steps) =>
  if steps=0 then((best,found,0),false)
  else if best<=bound p then((best,found,steps-1),true)
  else if p.length=D then((bound p,p,steps-1),true)
  else Uv (fun n st=>Yh D kids bound f (p++[n]) st) (kids p) (best,found,steps-1)
section
variable {D:Nat} {kids:List Int->List Int} {bound:List Int->Int}
theorem Zb7 (f:Nat)(p:List Int)(best:Int)(found:List Int)(s:Nat) : Yh D kids bound (f+1) p (best,found,s+1)=if best<=bound p then((best,found,s),true) else if p.length=D then((bound p,p,s),true) else Uv (fun n st=>Yh D kids bound f (p++[n]) st) (kids p) (best,found,s):=by
 rw[Yh];simp
end
structure KrnOk (D:Nat)(kids:List Int->List Int)(bound:List Int->Int)(okp:List Int->Prop)(bx:List Int->Int) : Prop where
 len:∀ p,okp p->p.length<=D
 kid:∀ p,okp p->p.length<D->∀ n∈kids p,okp (p++[n])
 leaf:∀ p,okp p->p.length=D->bound p=bx p
 low:∀ p,okp p->bound p<=bx p
 node:∀ p,okp p->p.length<D->(∃ n∈kids p,bx (p++[n])=bx p)/\∀ n∈kids p,bx p<=bx (p++[n])
def Vh (w:Nat->Nat) : Nat->Nat
 | 0=>1
 | r+1=>1+w (r+1)*Vh w r
section
variable {D:Nat} {kids:List Int->List Int} {bound:List Int->Int} {okp:List Int->Prop} {bx:List Int->Int}
theorem JM (H:KrnOk D kids bound okp bx)(w:Nat->Nat)(hw:∀ p,okp p->p.length<D->(kids p).length<=w (D-p.length)) : ∀ (f:Nat) (p:List Int) (best:Int) (found:List Int) (s:Nat),okp p->f+p.length=D+1->Vh w (D-p.length)<=s ->
  ∃ b' f' s',Yh D kids bound f p (best,found,s)=((b',f',s'),true)/\s<=s'+Vh w (D-p.length)/\b'=min best (bx p)/\(b'<best->okp f'/\f'.length=D/\bound f'=b')/\(b'=best->f'=found)
 | 0,p,best,found,s,ho,hf,hs=>by have:=H.len p ho;omega
 | f+1,p,best,found,s,ho,hf,hs=>by
  have hl:=H.len p ho;have hpos:0<Vh w (D-p.length):=by
   cases D-p.length with
   | zero=>simp[Vh]
   | succ r=>unfold Vh;omega
  have hlow:=H.low p ho;unfold Yh;rw[if_neg (by omega)]
  by_cases h1:best<=bound p
  ·rw[if_pos h1]
   exact⟨best,found,s-1,rfl,by omega,by omega,fun h=>by omega,fun _=>rfl⟩
  ·rw[if_neg h1]
   by_cases h2:p.length=D
   ·rw[if_pos h2]
    have h3:=H.leaf p ho h2;exact⟨bound p,p,s-1,rfl,by omega,by omega,fun _=>⟨ho,h2,rfl⟩,fun h=>by omega⟩
   ·rw[if_neg h2]
    have hlt:p.length<D:=by omega
    obtain⟨r,hr⟩:∃ r,D-p.length=r+1:=⟨D-p.length-1,by omega⟩;have hwp:=hw p ho hlt;rw[hr] at hwp hs ⊢;unfold Vh at hs ⊢;have key:∀ (l:List Int) (best:Int) (found:List Int) (s:Nat),(∀ n∈l,okp (p++[n]))->l.length*Vh w r<=s ->
      ∃ b' f' s',Uv (fun n st=>Yh D kids bound f (p++[n]) st) l (best,found,s)=((b',f',s'),true)/\s<=s'+l.length*Vh w r/\b'<=best/\(∀ n∈l,b'<=bx (p++[n]))/\(b'=best\/∃ n∈l,b'=bx (p++[n]))/\(b'<best->okp f'/\f'.length=D/\bound f'=b')/\(b'=best->f'=found):=by
     intro l
     induction l with
     | nil=>intro best found s _ _;exact⟨best,found,s,rfl,by simp,by omega,(fun n hn=>by cases hn),.inl rfl,(fun h=>by omega),fun _=>rfl⟩
     | cons n l ih =>
      intro best found s hk hs2;have e:D-(p++[n]).length=r:=by simp;omega
      have hs3:(n::l).length*Vh w r=Vh w r+l.length*Vh w r:=by rw[List.length_cons,Nat.succ_mul];omega
      rw[hs3] at hs2 ⊢;obtain⟨b1,f1,s1,g1,g2,g3,g4,g5⟩:=JM H w hw f (p++[n]) best found s (hk n (by simp)) (by simp;omega) (by rw[e];omega);rw[e] at g2;obtain⟨b2,f2,s2,k1,k2,k3,k4,k5,k6,k7⟩:=ih b1 f1 s1 (fun m hm=>hk m (by simp[hm])) (by omega);refine⟨b2,f2,s2,?_,by clear k5;omega,by clear k5;omega,fun m hm=>?_,?_,fun h=>?_,fun h=>?_⟩
      ·simp only[Uv,g1]
       exact k1
      ·rcases List.mem_cons.1 hm with rfl | hm
       ·clear k5;omega
       ·exact k4 m hm
      ·rcases k5 with k5 | ⟨m,hm,k5⟩
       ·by_cases hb:b1=best
        ·exact .inl (by omega)
        ·exact .inr ⟨n,by simp,by omega⟩
       ·exact .inr ⟨m,by simp[hm],k5⟩
      ·by_cases hb:b2<b1
       ·exact k6 hb
       ·have e2:b2=b1:=by clear k5;omega
        rw[k7 e2,e2];exact g4 (by clear k5;omega)
      ·have e2:b2=b1:=by clear k5;omega
       rw[k7 e2];exact g5 (by clear k5;omega)
    have hm:(kids p).length*Vh w r<=w (r+1)*Vh w r:=Nat.mul_le_mul_right _ hwp;obtain⟨b',f',s',k1,k2,k3,k4,k5,k6,k7⟩:=key (kids p) best found (s-1) (H.kid p ho hlt) (by omega);refine⟨b',f',s',k1,by clear k5;omega,?_,k6,k7⟩;obtain⟨⟨n,hn,en⟩,hall⟩:=H.node p ho hlt;have h4:=k4 n hn;rcases k5 with k5 | ⟨m,hm,k5⟩
    ·omega
    ·have:=hall m hm
     omega
end
end Go.Proofs.YtmojhhlcocjoaaaGreatDoor
namespace Go.Proofs.YtmojhhlcocjoaaaGreatDoor
theorem JN {f:Int->Int} : ∀ {l:List Int} {b:Int},(∀ x∈l,0<=f x)->(∀ x∈l,ZK f b l<=f x)/\(0<=b->ZK f b l<=b)
 | [],b,_=>⟨(fun x hx=>by cases hx),fun _=>Int.le_refl _⟩
 | y::l,b,h=>by
  have hy:=h y (by simp);have ih:=JN (l:=l) (b:=if b<0 then f y else if f y<b then f y else b) fun x hx=>h x (by simp[hx])
  have hb:0<=(if b<0 then f y else if f y<b then f y else b):=by split<;>(try split)<;>omega
  have h2:=ih.2 hb;refine⟨fun x hx=>?_,fun h0=>?_⟩
  ·rcases List.mem_cons.1 hx with rfl | hx
   ·refine Int.le_trans h2 ?_
    split<;>(try split)<;>omega
   ·exact ih.1 x hx
  ·refine Int.le_trans h2 ?_
   split<;>(try split)<;>omega
theorem Zan {f:Int->Int}{l:List Int}{v:Int}(h:∀ x∈l,0<=f x)(hne:l≠[])(e:ZK f (-1) l=v) : (∃ n∈l,f n=v)/\∀ n∈l,v<=f n:=by
 subst e;refine⟨?_,(JN h).1⟩;rcases Vx (b:=-1) h (.inr hne) with⟨_,h0⟩ | ⟨x,hx,h0⟩
 ·omega
 ·exact⟨x,hx,h0.symm⟩
theorem UW {f:Int->Int}{l l':List Int}{v:Int}(hp:∀ x,x∈l↔x∈l')(h:(∃ n∈l,f n=v)/\∀ n∈l,v<=f n) : (∃ n∈l',f n=v)/\∀ n∈l',v<=f n :=
 ⟨by obtain⟨n,hn,e⟩:=h.1;exact⟨n,(hp n).1 hn,e⟩,fun n hn=>h.2 n ((hp n).2 hn)⟩
theorem ZeM {cap:Int}{ws vs:List Int}(h0:0<=cap)(hw:∀ x∈ws,0<=x)(hv:∀ x∈vs,0<=x/\x<=2147483647)(hl:ws.length=vs.length)(hf:Falls ws vs) :
  KrnOk ws.length (fun p=>(WT cap ws vs p).1) (fun p=>(YH cap ws vs p).1) (fun p=>∃ q,stP cap 0 ws vs p=some q) (Xy cap ws vs) where
 len:=fun p ⟨q,h⟩=>by
  rcases Nat.lt_or_ge ws.length p.length with h1 | h1
  ·rw[Uf h1] at h;cases h
  ·exact h1
 kid:=fun p ⟨⟨r,o⟩,h⟩ hlt n hn=>by
  obtain⟨w,ws',e1⟩:∃ w ws',ws.drop p.length=w::ws':=⟨_,_,List.drop_eq_getElem_cons hlt⟩;obtain⟨v,vs',e2⟩:∃ v vs',vs.drop p.length=v::vs':=⟨_,_,List.drop_eq_getElem_cons (by omega)⟩;have hr:=(Ug hw h0 h).1;unfold WT at hn;rw[h] at hn;simp only[e1] at hn;split at hn
  ·rename_i hle
   simp at hn;rcases hn with rfl | rfl
   ·exact⟨_,Js h e1 e2 hle⟩
   ·exact⟨_,UN h e1 e2 hr⟩
  ·simp at hn
   subst hn;exact⟨_,UN h e1 e2 hr⟩
 leaf:=fun p ⟨⟨r,o⟩,h⟩ hpl=>by
  have:=Zen h hpl hl;simp only[this.1,this.2]
 low:=fun p ⟨⟨r,o⟩,h⟩=>by
  rcases Zc4 cap ws vs p with he | ⟨_,he⟩
  ·exact(ZaN h0 hw hv hl hf he).2
  ·rw[h] at he;cases he
 node:=fun p ⟨⟨r,o⟩,h⟩ hlt=>by
  have hr:=(Ug hw h0 h).1;have ho:=(Zaf hv h).1;have hvn:∀ x∈vs,0<=x:=fun x hx=>(hv x hx).1
  have e:=ZaM h hr hlt hl hvn ho;obtain⟨w,ws',e1⟩:∃ w ws',ws.drop p.length=w::ws':=⟨_,_,List.drop_eq_getElem_cons hlt⟩;obtain⟨v,vs',e2⟩:∃ v vs',vs.drop p.length=v::vs':=⟨_,_,List.drop_eq_getElem_cons (by omega)⟩;have hvs:∀ x∈v::vs',0<=x:=fun x hx=>hvn x (List.mem_of_mem_drop (e2 ▸ hx))
  refine Zan (fun x hx=>?_) ?_ e
  ·unfold WT at hx
   rw[h] at hx;simp only[e1] at hx;split at hx
   ·rename_i hle
    simp at hx;rcases hx with rfl | rfl
    ·rw[ZaL h e1 e2 hle];exact Yx ho fun x hx=>hvs x (by simp[hx])
    ·rw[QG h e1 e2 hr];exact Yx (by have:=hvs v (by simp);omega) fun x hx=>hvs x (by simp[hx])
   ·simp at hx
    subst hx;rw[QG h e1 e2 hr];exact Yx (by have:=hvs v (by simp);omega) fun x hx=>hvs x (by simp[hx])
  ·unfold WT
   rw[h];simp only[e1];split<;>simp
theorem Zb8 {rows:List (List Int)}(ok:RowsOk rows) :
  KrnOk rows.length (fun p=>(Wt rows p).1) (fun p=>(Ys rows p).1) (fun p=>∃ m,ZW rows.length p=some m) (fun p=>YN rows rows.length (rows.length-p.length) p) where
 len:=fun p ⟨m,h⟩=>by have:=Yi ok.n2 h;omega
 kid:=fun p ⟨m,h⟩ hlt n hn=>by
  obtain⟨l,e1,e2,_⟩:=QY h;rw[e1] at hn;obtain⟨c,hc,rfl⟩:=List.mem_map.1 hn;exact⟨_,XR ok.n2 h (e2.mem_iff.1 hc)⟩
 leaf:=fun p ⟨m,h⟩ hpl=>by
  have h1:=(WK ok h).2.1;obtain⟨l,rfl,hl⟩:=ZbY ok.n2 h hpl;show (Ys rows (Ze l)).1=_;rw[show rows.length-(Ze l).length=0 by omega];unfold Ys;rw[h];simp only;rw[if_neg (by omega),Int.add_zero]
  rfl
 low:=fun p ⟨m,h⟩=>(WK ok h).2.1
 node:=fun p ⟨m,h⟩ hlt=>by
  have hlen:=Yi ok.n2 h;obtain⟨l,e1,e2,_⟩:=QY h;obtain⟨f,hf⟩:∃ f,rows.length-p.length=f+1:=⟨rows.length-p.length-1,by omega⟩;have ef:∀ c:Int,rows.length-(p++[c]).length=f:=fun c=>by simp;omega
  have e:ZK (fun x=>YN rows rows.length f (p++[x])) (-1) (Ze (Zc m))=YN rows rows.length (rows.length-p.length) p:=by
   rw[hf];show _=ZK _ (-1) (match ZW rows.length p with | none=>[] | some m=>Ze (Zc m));rw[h]
  have hpos:∀ x∈Ze (Zc m),0<=YN rows rows.length f (p++[x]):=fun x hx=>by
   obtain⟨c,hc,rfl⟩:=List.mem_map.1 hx;have h4:=WK ok (XR ok.n2 h hc);rw[ef] at h4;omega
  have hN:=Zan hpos (by intro h0;have:=congrArg List.length h0;rw[Zm] at this;simp at this;rw[this] at hlen;simp at hlen;omega) e;have hN2:=UW (l':=(Wt rows p).1) (fun x=>by
   rw[e1]
   constructor
   ·intro hx
    obtain⟨c,hc,rfl⟩:=List.mem_map.1 hx;exact List.mem_map.2 ⟨c,e2.mem_iff.2 hc,rfl⟩
   ·intro hx
    obtain⟨c,hc,rfl⟩:=List.mem_map.1 hx;exact List.mem_map.2 ⟨c,e2.mem_iff.1 hc,rfl⟩) hN
  refine⟨?_,fun n hn=>?_⟩
  ·obtain⟨n,hn,e⟩:=hN2.1
   exact⟨n,hn,by rw[ef];exact e⟩
  ·rw[ef];exact hN2.2 n hn
theorem ZeN {rows:List (List Int)}{mi:Bool}(ok:RowsOk rows)(num:∀ a b,a<rows.length->b<rows.length->0<=Zb rows a b/\Zb rows a b<=2147483647)(sym:mi=true->∀ a b,a<rows.length->b<rows.length->Zb rows a b=Zb rows b a) :
  KrnOk (rows.length-1) (fun p=>(Wu rows p).1) (fun p=>(Yt rows mi p).1) (fun p=>∃ s,Z8 rows p=some s) (fun p=>YW rows (rows.length-1-p.length) p) where
 len:=fun p ⟨s,h⟩=>by have:=JJ ok.n1 ok.n2 (m:=s.1) (last:=s.2.1) (cost:=s.2.2) h;omega
 kid:=fun p ⟨s,h⟩ hlt n hn=>by
  obtain⟨l,e1,e2,_⟩:=Q1 (m:=s.1) (last:=s.2.1) (cost:=s.2.2) h;rw[e1] at hn;obtain⟨c,hc,rfl⟩:=List.mem_map.1 hn;exact⟨_,WM ok.n1 ok.n2 (m:=s.1) (last:=s.2.1) (cost:=s.2.2) h (e2.mem_iff.1 hc)⟩
 leaf:=fun p ⟨s,h⟩ hpl=>by
  obtain⟨l,WO⟩:=YV ok.n1 ok.n2 (m:=s.1) (last:=s.2.1) (cost:=s.2.2) h;have hwl:=WO.len;have hll:l.length=rows.length-1:=by rw[<-hpl,WO.eq,Zm]
  have hm0:Zc s.1=[]:=List.eq_nil_of_length_eq_zero (by omega);show (Yt rows mi p).1=_;have e1:YW rows (rows.length-1-p.length) p=Zy rows 0 l:=by
   rw[show rows.length-1-p.length=0 by omega];show Zy rows 0 (p.map Int.toNat)=_;rw[WO.eq,Yf]
  rw[e1];have e2:=UU rows l [] 0;rw[List.append_nil] at e2;unfold Yt;rw[h,e2];obtain⟨m,last,cost⟩:=s;simp only at hm0 WO ⊢;simp only[hm0,if_true];rw[WO.cost,WO.last]
  rfl
 low:=fun p ⟨s,h⟩=>(Uq (mirror:=mi) ok.n1 ok.n2 num sym (m:=s.1) (last:=s.2.1) (cost:=s.2.2) h).2.1
 node:=fun p ⟨s,h⟩ hlt=>by
  have hlen:=JJ ok.n1 ok.n2 (m:=s.1) (last:=s.2.1) (cost:=s.2.2) h;obtain⟨l,e1,e2,_⟩:=Q1 (m:=s.1) (last:=s.2.1) (cost:=s.2.2) h;obtain⟨f,hf⟩:∃ f,rows.length-1-p.length=f+1:=⟨rows.length-1-p.length-1,by omega⟩;have ef:∀ c:Int,rows.length-1-(p++[c]).length=f:=fun c=>by simp;omega
  have e:ZK (fun x=>YW rows f (p++[x])) (-1) (Ze (Zc s.1))=YW rows (rows.length-1-p.length) p:=by
   rw[hf];show _=ZK _ (-1) (match Z8 rows p with | none=>[] | some (m,_,_)=>Ze (Zc m));rw[h]
  have hpos:∀ x∈Ze (Zc s.1),0<=YW rows f (p++[x]):=fun x hx=>by
   obtain⟨c,hc,rfl⟩:=List.mem_map.1 hx;have h4:=Uq (mirror:=mi) ok.n1 ok.n2 num sym (WM ok.n1 ok.n2 (m:=s.1) (last:=s.2.1) (cost:=s.2.2) h hc);rw[ef] at h4;omega
  have hN:=Zan hpos (by intro h0;have:=congrArg List.length h0;rw[Zm] at this;simp at this;rw[this] at hlen;simp at hlen;omega) e;have hN2:=UW (l':=(Wu rows p).1) (fun x=>by
   rw[e1]
   constructor
   ·intro hx
    obtain⟨c,hc,rfl⟩:=List.mem_map.1 hx;exact List.mem_map.2 ⟨c,e2.mem_iff.2 hc,rfl⟩
   ·intro hx
    obtain⟨c,hc,rfl⟩:=List.mem_map.1 hx;exact List.mem_map.2 ⟨c,e2.mem_iff.1 hc,rfl⟩) hN
  refine⟨?_,fun n hn=>?_⟩
  ·obtain⟨n,hn,e⟩:=hN2.1
   exact⟨n,hn,by rw[ef];exact e⟩
  ·rw[ef];exact hN2.2 n hn
end Go.Proofs.YtmojhhlcocjoaaaGreatDoor
namespace Go.Proofs.YtmojhhlcocjoaaaGreatDoor
open Go.RowKit Go.ChangeShapes Go.WideShapes Go.ChangeAt Go.Deep
def Yu (i:InstP) : List Nat:=ZU i.value i.weight
def wsP (i:InstP) : List Int:=Zl (Yu i) i.weight
def vsP (i:InstP) : List Int:=Zl (Yu i) i.value
theorem VW {i:InstP}(ok:KnapOk i) : ((Yu i).length:Int)=i.n:=by unfold Yu;rw[QE];exact ok.v
theorem Xl {l:List Nat}{v:List Int}(h:Small31 v) : Small31 (Zl l v):=by
 intro x hx;obtain⟨q,hq,rfl⟩:=List.mem_map.1 hx
 cases hv:v[q]? with
 | none=>simp[List.getD,hv]
 | some y=>rw[getD_some hv];exact h.get hv
theorem kok {i:InstP}(ok:KnapOk i) : KOk i.cap (Yu i) (wsP i) (vsP i) (YE (vsP i) 0) :=
 ⟨ok.cap,by have:=VW ok;have:=ok.n2;omega,Z4 _ _,Z4 _ _,by rw[Wq];unfold vsP;rw[Z4],Xl ok.sw,Xl ok.sv⟩
theorem ZX {i:InstP}(h:Zf i=0) : i.kind=1\/i.kind=2\/i.kind=3:=by
 unfold Zf at h
 by_cases hs:YR i.kind i.n=0
 ·exact VP hs
 ·rw[if_neg hs] at h
  exact absurd h hs
theorem KrnOk.perm {D:Nat}{kids kids':List Int->List Int}{bound:List Int->Int}{okp:List Int->Prop}{bx:List Int->Int}(h:KrnOk D kids bound okp bx)(hk:∀ p,okp p->p.length<D->∀ n,n∈kids p↔n∈kids' p) : KrnOk D kids' bound okp bx where
 len:=h.len
 kid:=fun p ho hl n hn=>h.kid p ho hl n ((hk p ho hl n).2 hn)
 leaf:=h.leaf
 low:=h.low
 node:=fun p ho hl=>UW (hk p ho hl) (h.node p ho hl)
def ZB (i:InstP) : Nat:=if i.kind=3 then i.n.toNat-1 else i.n.toNat
def okI (i:InstP)(p:List Int) : Prop:=if i.kind=1 then ∃ q,stP i.cap 0 (wsP i) (vsP i) p=some q else if i.kind=2 then ∃ m,ZW i.cost.length p=some m else ∃ s,Z8 i.cost p=some s
def bxI (i:InstP)(p:List Int) : Int:=if i.kind=1 then Xy i.cap (wsP i) (vsP i) p else if i.kind=2 then YN i.cost i.cost.length (i.cost.length-p.length) p else YW i.cost (i.cost.length-1-p.length) p
theorem Q5 {i:InstP}(ok:KnapOk i) : (wsP i).length=(vsP i).length/\((wsP i).length:Int)=i.n/\(∀ x∈wsP i,0<=x)/\(∀ x∈vsP i,0<=x/\x<=2147483647)/\Falls (wsP i) (vsP i):=by
 have sw:=ok.sw;have sv:=ok.sv;have hw:∀ x∈i.weight,0<=x:=fun x hx=>(sw x hx).1
 have hv:∀ x∈i.value,0<=x:=fun x hx=>(sv x hx).1
 have l1:(wsP i).length=(Yu i).length:=Z4 _ _;have l2:(vsP i).length=(Yu i).length:=Z4 _ _;have lo:=VW ok;refine⟨by omega,by omega,fun x hx=>(Xl sw x hx).1,fun x hx=>Xl sv x hx,?_⟩;exact ZaK hv hw (Jj hw)
theorem ZeO {rows:List (List Int)}(ok:RowsOk rows)(a b:Nat)(ha:a<rows.length)(hb:b<rows.length) : 0<=Zb rows a b/\Zb rows a b<=2147483647:=by
 unfold Zb;have e:rows.getD a []=rows[a]:=by simp[List.getD,List.getElem?_eq_getElem ha]
 rw[e];exact ok.get (List.getElem_mem ha) hb
theorem Qt {i:InstP}(hc:Zf i=0) : okI i []:=by
 unfold okI;rcases ZX hc with h | h | h
 ·rw[if_pos h]
  exact⟨(i.cap,0),by cases wsP i<;>cases vsP i<;>rfl⟩
 ·rw[if_neg (by omega),if_pos h]
  exact⟨_,Xg⟩
 ·rw[if_neg (by omega),if_neg (by omega)]
  exact⟨_,Xh⟩
def KernI (w:World)(g:Nat)(i:InstP) : Prop:=Zf i=0 /\
 ((i.kind=1/\∃ gk base,FaceB w g 69 gk/\KernB w base gk i.cap (Yu i) (wsP i) (vsP i) (YE (vsP i) 0)) ∨
  (i.kind=2/\∃ gk base,FaceB w g 76 gk/\KernA w base gk i.cost) ∨
  (i.kind=3/\∃ gk base,FaceB w g 79 gk/\KernT w base gk i.cost (UP i.cost)))
theorem KernI.ext {w w':World}{g:Nat}{i:InstP}(h:KernI w g i)(x:Ext w w') : KernI w' g i:=by
 obtain⟨hc,h⟩:=h;refine⟨hc,?_⟩;rcases h with⟨hk,gk,base,h1,h2⟩ | ⟨hk,gk,base,h1,h2⟩ | ⟨hk,gk,base,h1,h2⟩
 ·exact .inl ⟨hk,gk,base,h1.ext x,h2.ext x⟩
 ·exact .inr (.inl ⟨hk,gk,base,h1.ext x,h2.ext x⟩)
 ·exact .inr (.inr ⟨hk,gk,base,h1.ext x,h2.ext x⟩)
def Yv (i:InstP)(p:List Int) : Int×Int:=if i.kind=1 then YH i.cap (wsP i) (vsP i) p else if i.kind=2 then Ys i.cost p else Yt i.cost (UP i.cost) p
def XU (i:InstP)(p:List Int) : List Int×Int:=if i.kind=1 then WT i.cap (wsP i) (vsP i) p else if i.kind=2 then Wt i.cost p else Wu i.cost p
theorem Zfr (j:InstP)(vs:List Value)(w:World)(H:RInst w vs j)(lw:j.weight.length<=1000000000)(lv:j.value.length<=1000000000) :
  Calls Tryz.prog 11 #[.agg (List.toArray vs)] w fun e w'=>((Zf j≠0/\e=.returned (.tuple #[.pointer none,.int .i64 (Zf j)]))\/(Zf j=0/\∃ g,e=.returned (.tuple #[.pointer (some ⟨g,0,none⟩),.int .i64 0])/\KernI w' g j))/\Ext w w':=by
 by_cases hc:Zf j=0
 ·rcases ZX hc with hk | hk | hk
  ·refine(Zgi j vs w H hc hk).mono ?_
   rintro e w' ⟨⟨g,gk,base,rfl,h1,h2⟩,x⟩;exact⟨.inr ⟨hc,g,rfl,hc,.inl ⟨hk,gk,base,h1,h2⟩⟩,x⟩
  ·refine(Zgj j vs w H hc hk).mono ?_
   rintro e w' ⟨⟨g,gk,base,rfl,h1,h2⟩,x⟩;exact⟨.inr ⟨hc,g,rfl,hc,.inr (.inl ⟨hk,gk,base,h1,h2⟩)⟩,x⟩
  ·refine(Zgk j vs w H hc hk).mono ?_
   rintro e w' ⟨⟨g,gk,base,rfl,h1,h2⟩,x⟩;exact⟨.inr ⟨hc,g,rfl,hc,.inr (.inr ⟨hk,gk,base,h1,h2⟩)⟩,x⟩
 ·refine(Zgd j vs w H lw lv hc).mono ?_
  rintro e w' ⟨rfl,x⟩;exact⟨.inl ⟨hc,rfl⟩,x⟩
theorem Zbb {w:World}{g gk:Nat}{n:Int}(h:FaceB w g 69 gk)(D:Calls Tryz.prog 251 #[.pointer (some ⟨gk,0,none⟩)] w fun e w'=>e=.returned (.int .i64 n)/\Ext w w') :
  Calls Tryz.prog 16 #[.pointer (some ⟨g,0,none⟩)] w fun e w'=>e=.returned (.int .i64 n)/\Ext w w':=by
 have c0:=Blk.c0 h;have hm:∀ (x:Value) (u:World),(callMethod (.iface 69 x) "Depth" #[]).run Tryz.prog u=.ok (.enter 251 #[x]) u:=fun _ _=>by kernel_rfl
 replace D:=Hd D;go_enter Tryz.func16,Tryz.ntmps16;go_wp2_with (fail);refine D.out.mono ?_;rintro e w1 ⟨rfl,x1⟩;go_wp2_with (fail);go_ret;exact⟨rfl,x1⟩
theorem Zbc {w:World}{g gk:Nat}{a b:Int}{s:Value}(h:FaceB w g 69 gk)(D:Calls Tryz.prog 250 #[.pointer (some ⟨gk,0,none⟩),s] w fun e w'=>e=.returned (.tuple #[.int .i64 a,.int .i64 b])/\Ext w w') :
  Calls Tryz.prog 15 #[.pointer (some ⟨g,0,none⟩),s] w fun e w'=>e=.returned (.tuple #[.int .i64 a,.int .i64 b])/\Ext w w':=by
 have c0:=Blk.c0 h;have hm:∀ (x y:Value) (u:World),(callMethod (.iface 69 x) "Bound" #[y]).run Tryz.prog u=.ok (.enter 250 #[x,y]) u:=fun _ _ _=>by kernel_rfl
 replace D:=Hd D;go_enter Tryz.func15,Tryz.ntmps15;go_wp2_with (fail);refine D.out.mono ?_;rintro e w1 ⟨rfl,x1⟩;go_wp2_with (fail);go_ret2;exact⟨rfl,x1⟩
theorem Zbd {w:World}{g gk:Nat}{n:Int}(h:FaceB w g 76 gk)(D:Calls Tryz.prog 260 #[.pointer (some ⟨gk,0,none⟩)] w fun e w'=>e=.returned (.int .i64 n)/\Ext w w') :
  Calls Tryz.prog 16 #[.pointer (some ⟨g,0,none⟩)] w fun e w'=>e=.returned (.int .i64 n)/\Ext w w':=by
 have c0:=Blk.c0 h;have hm:∀ (x:Value) (u:World),(callMethod (.iface 76 x) "Depth" #[]).run Tryz.prog u=.ok (.enter 260 #[x]) u:=fun _ _=>by kernel_rfl
 replace D:=Hd D;go_enter Tryz.func16,Tryz.ntmps16;go_wp2_with (fail);refine D.out.mono ?_;rintro e w1 ⟨rfl,x1⟩;go_wp2_with (fail);go_ret;exact⟨rfl,x1⟩
theorem Zbe {w:World}{g gk:Nat}{a b:Int}{s:Value}(h:FaceB w g 76 gk)(D:Calls Tryz.prog 259 #[.pointer (some ⟨gk,0,none⟩),s] w fun e w'=>e=.returned (.tuple #[.int .i64 a,.int .i64 b])/\Ext w w') :
  Calls Tryz.prog 15 #[.pointer (some ⟨g,0,none⟩),s] w fun e w'=>e=.returned (.tuple #[.int .i64 a,.int .i64 b])/\Ext w w':=by
 have c0:=Blk.c0 h;have hm:∀ (x y:Value) (u:World),(callMethod (.iface 76 x) "Bound" #[y]).run Tryz.prog u=.ok (.enter 259 #[x,y]) u:=fun _ _ _=>by kernel_rfl
 replace D:=Hd D;go_enter Tryz.func15,Tryz.ntmps15;go_wp2_with (fail);refine D.out.mono ?_;rintro e w1 ⟨rfl,x1⟩;go_wp2_with (fail);go_ret2;exact⟨rfl,x1⟩
theorem Zbf {w:World}{g gk:Nat}{n:Int}(h:FaceB w g 79 gk)(D:Calls Tryz.prog 277 #[.pointer (some ⟨gk,0,none⟩)] w fun e w'=>e=.returned (.int .i64 n)/\Ext w w') :
  Calls Tryz.prog 16 #[.pointer (some ⟨g,0,none⟩)] w fun e w'=>e=.returned (.int .i64 n)/\Ext w w':=by
 have c0:=Blk.c0 h;have hm:∀ (x:Value) (u:World),(callMethod (.iface 79 x) "Depth" #[]).run Tryz.prog u=.ok (.enter 277 #[x]) u:=fun _ _=>by kernel_rfl
 replace D:=Hd D;go_enter Tryz.func16,Tryz.ntmps16;go_wp2_with (fail);refine D.out.mono ?_;rintro e w1 ⟨rfl,x1⟩;go_wp2_with (fail);go_ret;exact⟨rfl,x1⟩
theorem Zbg {w:World}{g gk:Nat}{a b:Int}{s:Value}(h:FaceB w g 79 gk)(D:Calls Tryz.prog 276 #[.pointer (some ⟨gk,0,none⟩),s] w fun e w'=>e=.returned (.tuple #[.int .i64 a,.int .i64 b])/\Ext w w') :
  Calls Tryz.prog 15 #[.pointer (some ⟨g,0,none⟩),s] w fun e w'=>e=.returned (.tuple #[.int .i64 a,.int .i64 b])/\Ext w w':=by
 have c0:=Blk.c0 h;have hm:∀ (x y:Value) (u:World),(callMethod (.iface 79 x) "Bound" #[y]).run Tryz.prog u=.ok (.enter 276 #[x,y]) u:=fun _ _ _=>by kernel_rfl
 replace D:=Hd D;go_enter Tryz.func15,Tryz.ntmps15;go_wp2_with (fail);refine D.out.mono ?_;rintro e w1 ⟨rfl,x1⟩;go_wp2_with (fail);go_ret2;exact⟨rfl,x1⟩
theorem Q6 {w:World}{g:Nat}{i:InstP}(h:KernI w g i) : Calls Tryz.prog 16 #[.pointer (some ⟨g,0,none⟩)] w fun e w'=>e=.returned (.int .i64 (ZB i))/\Ext w w':=by
 obtain⟨hc,h⟩:=h;rcases h with⟨hk,gk,base,h1,h2⟩ | ⟨hk,gk,base,h1,h2⟩ | ⟨hk,gk,base,h1,h2⟩
 ·have ok:=ZD hc hk
  have D:=Jy w h2;rw[show ((Yu i).length:Int)=ZB i by
   have h3:=VW ok;unfold ZB;rw[if_neg (by omega)];omega] at D
  exact Zbb h1 D
 ·have sq:=Zo hc (by omega)
  have D:=QP w h2;rw[show (i.cost.length:Int)=ZB i by
   unfold ZB;rw[if_neg (by omega)];have:=sq.len;omega] at D
  exact Zbd h1 D
 ·have sq:=Zo hc (by omega)
  have D:=QR w h2 (ZF sq).n1 (ZF sq).n2;rw[show ((i.cost.length:Int)-1)=ZB i by
   unfold ZB;rw[if_pos hk];have:=sq.len;have:=sq.n1;omega] at D
  exact Zbf h1 D
theorem Q7 {w:World}{g:Nat}{i:InstP}(P:Option Addr)(pc:Nat)(p:List Int)(h:KernI w g i)(hT:Tab w)(hP:RdI w P p)(lp:p.length<=1000000000) :
  Calls Tryz.prog 15 #[.pointer (some ⟨g,0,none⟩),.slice P p.length pc] w fun e w'=>e=.returned (.tuple #[.int .i64 (Yv i p).1,.int .i64 (Yv i p).2])/\Ext w w':=by
 obtain⟨hc,h⟩:=h;unfold Yv;rcases h with⟨hk,gk,base,h1,h2⟩ | ⟨hk,gk,base,h1,h2⟩ | ⟨hk,gk,base,h1,h2⟩
 ·rw[if_pos hk]
  exact Zbc h1 (Zdh P pc p w h2 (kok (ZD hc hk)) rfl hP lp)
 ·rw[if_neg (by omega),if_pos hk]
  exact Zbe h1 (ZbU P pc p w hT h2 (ZF (Zo hc (by omega))) hP lp)
 ·rw[if_neg (by omega),if_neg (by omega)]
  exact Zbg h1 (Zb6 P pc p w hT h2 (ZF (Zo hc (by omega))) hP lp)
theorem ZdC {base g:Nat}{cap:Int}{l:List Nat}{ws vs bs:List Int}(P:Option Addr)(c:Nat)(p:List Int)(w:World)(H:KernB w base g cap l ws vs bs)(ok:KOk cap l ws vs bs)(hP:RdI w P p)(lp:p.length<=1000000000) :
  Calls Tryz.prog 252 #[.pointer (some ⟨g,0,none⟩),.slice P p.length c] w (YF (WT cap ws vs p).1 (WT cap ws vs p).2 w):=by
 have ST:=Jz P c p w H ok hP lp;have HD:=fun W (x:Ext w W)=>Jy W (H.ext x)
 obtain⟨PA,pc,WA,wc,VA,vc,HA,hc,hB,-,-,⟨rW,-⟩,-,-⟩:=H;obtain⟨okc,l64,lw,lv,lb,sw,sv⟩:=ok;have c2:=hB.c2;have zg:=hB.lt;replace hB:=Hd hB;replace ST:=Hd ST;replace HD:=Hd HD;have HL:∀ q,stP cap 0 ws vs p=some q->p.length<=ws.length:=fun q hq=>by
  by_cases h:ws.length<p.length
  ·rw[Uf h] at hq;cases hq
  ·omega
 have HK:∀ o,stP cap 0 ws vs p=o->WT cap ws vs p=(match o with
  | none=>([],1)
  | some (room,_)=>match ws.drop p.length with
   | []=>([],0)
   | u::_=>if u<=room then([1,0],0) else([0],0)):=fun o ho=>by subst ho;rfl
 replace HL:=Hd HL;replace HK:=Hd HK;obtain⟨st,hst⟩:∃ st,Hid (stP cap 0 ws vs p=st):=⟨_,rfl⟩;rw[hst.out] at ST;have HK2:=HK.out _ hst.out;clear HK;rcases st with _ | ⟨room,out⟩
 ·rw[HK2]
  clear HK2;go_enter Tryz.func252,Tryz.ntmps252;go_wp2_with (fail);refine ST.out.mono ?_;rintro e w1 ⟨rfl,x1⟩;unfold QI;go_wp2;go_ret2;exact⟨none,0,rfl,OwI.nil _ _,x1⟩
 ·have hle:=HL.out _ hst.out
  by_cases hpl:p.length=l.length
  ·have hd:ws.drop p.length=[]:=List.drop_of_length_le (by omega)
   rw[hd] at HK2;simp only at HK2;rw[HK2];have hpl':((p.length:Int)==(l.length:Int))=true:=by rw[beq_iff_eq];omega
   clear HK2 hd;replace hpl:=Hd hpl;replace lw:=Hd lw;replace lv:=Hd lv;replace lb:=Hd lb;go_enter Tryz.func252,Tryz.ntmps252;go_wp2_with (fail);refine ST.out.mono ?_;rintro e w1 ⟨rfl,x1⟩;unfold QI;go_wp2_with (fail);refine(HD.out _ x1).mono ?_;rintro e w2 ⟨rfl,x2⟩;go_wp2;go_ret2;exact⟨none,0,rfl,OwI.nil _ _,Ext.tr x1 x2⟩
  ·have hlt:p.length<ws.length:=by omega
   obtain⟨wb,wo,u,rfl,zu,cu,eu,du⟩:=rW.at hlt;rw[du.out] at HK2;simp only at HK2;have hpl':((p.length:Int)==(l.length:Int))=false:=by rw[beq_eq_false_iff_ne];omega
   replace lw:=Hd lw;replace lv:=Hd lv;replace lb:=Hd lb
   by_cases hu:u<=room
   ·rw[if_pos hu] at HK2
    rw[HK2];clear HK2 hpl eu du;go_enter Tryz.func252,Tryz.ntmps252;go_wp2_with (fail);refine ST.out.mono ?_;rintro e w1 ⟨rfl,x1⟩;unfold QI;go_wp2_with (fail);refine(HD.out _ x1).mono ?_;rintro e w2 ⟨rfl,x2⟩;have X2:=Ext.tr x1 x2;have k2:=Zh X2 zg c2;have ku:=Zh X2 zu cu;go_wp2;go_ret2;exact⟨some ⟨w2.heap.size,0,none⟩,2,rfl,OwI.new rfl X2.size (by simp[maxLen]),X2.alloc _⟩
   ·rw[if_neg hu] at HK2
    rw[HK2];clear HK2 hpl eu du;go_enter Tryz.func252,Tryz.ntmps252;go_wp2_with (fail);refine ST.out.mono ?_;rintro e w1 ⟨rfl,x1⟩;unfold QI;go_wp2_with (fail);refine(HD.out _ x1).mono ?_;rintro e w2 ⟨rfl,x2⟩;have X2:=Ext.tr x1 x2;have k2:=Zh X2 zg c2;have ku:=Zh X2 zu cu;go_wp2;go_ret2;exact⟨some ⟨w2.heap.size,0,none⟩,1,rfl,OwI.new rfl X2.size (by simp[maxLen]),X2.alloc _⟩
theorem Zbh {w:World}{g gk:Nat}{ks:List Int}{b:Int}{s:Value}(h:FaceB w g 69 gk)(D:Calls Tryz.prog 252 #[.pointer (some ⟨gk,0,none⟩),s] w (YF ks b w)) :
  Calls Tryz.prog 89 #[.pointer (some ⟨g,0,none⟩),s] w (YF ks b w):=by
 have c0:=Blk.c0 h;have hm:∀ (x y:Value) (u:World),(callMethod (.iface 69 x) "Kids" #[y]).run Tryz.prog u=.ok (.enter 252 #[x,y]) u:=fun _ _ _=>by kernel_rfl
 replace D:=Hd D;go_enter Tryz.func89,Tryz.ntmps89;go_wp2_with (fail);refine D.out.mono ?_;rintro e w1 ⟨A,c,rfl,h1,x1⟩;go_wp2_with (fail);go_ret2;exact⟨_,_,rfl,h1,x1⟩
theorem Zbi {w:World}{g gk:Nat}{ks:List Int}{b:Int}{s:Value}(h:FaceB w g 76 gk)(D:Calls Tryz.prog 261 #[.pointer (some ⟨gk,0,none⟩),s] w (YF ks b w)) :
  Calls Tryz.prog 89 #[.pointer (some ⟨g,0,none⟩),s] w (YF ks b w):=by
 have c0:=Blk.c0 h;have hm:∀ (x y:Value) (u:World),(callMethod (.iface 76 x) "Kids" #[y]).run Tryz.prog u=.ok (.enter 261 #[x,y]) u:=fun _ _ _=>by kernel_rfl
 replace D:=Hd D;go_enter Tryz.func89,Tryz.ntmps89;go_wp2_with (fail);refine D.out.mono ?_;rintro e w1 ⟨A,c,rfl,h1,x1⟩;go_wp2_with (fail);go_ret2;exact⟨_,_,rfl,h1,x1⟩
theorem Zbj {w:World}{g gk:Nat}{ks:List Int}{b:Int}{s:Value}(h:FaceB w g 79 gk)(D:Calls Tryz.prog 278 #[.pointer (some ⟨gk,0,none⟩),s] w (YF ks b w)) :
  Calls Tryz.prog 89 #[.pointer (some ⟨g,0,none⟩),s] w (YF ks b w):=by
 have c0:=Blk.c0 h;have hm:∀ (x y:Value) (u:World),(callMethod (.iface 79 x) "Kids" #[y]).run Tryz.prog u=.ok (.enter 278 #[x,y]) u:=fun _ _ _=>by kernel_rfl
 replace D:=Hd D;go_enter Tryz.func89,Tryz.ntmps89;go_wp2_with (fail);refine D.out.mono ?_;rintro e w1 ⟨A,c,rfl,h1,x1⟩;go_wp2_with (fail);go_ret2;exact⟨_,_,rfl,h1,x1⟩
theorem Zb9 {w:World}{g:Nat}{i:InstP}(P:Option Addr)(pc:Nat)(p:List Int)(h:KernI w g i)(hT:Tab w)(hP:RdI w P p)(lp:p.length<=1000000000) :
  Calls Tryz.prog 89 #[.pointer (some ⟨g,0,none⟩),.slice P p.length pc] w (YF (XU i p).1 (XU i p).2 w):=by
 obtain⟨hc,h⟩:=h;unfold XU;rcases h with⟨hk,gk,base,h1,h2⟩ | ⟨hk,gk,base,h1,h2⟩ | ⟨hk,gk,base,h1,h2⟩
 ·rw[if_pos hk]
  exact Zbh h1 (ZdC P pc p w h2 (kok (ZD hc hk)) hP lp)
 ·rw[if_neg (by omega),if_pos hk]
  exact Zbi h1 (Zds P pc p w hT h2 (ZF (Zo hc (by omega))) hP lp)
 ·rw[if_neg (by omega),if_neg (by omega)]
  exact Zbj h1 (Zdx P pc p w hT h2 (ZF (Zo hc (by omega))) hP lp)
theorem WP {w:World}{D:Option Addr}{co:List (List Int)}(rok:RowsOk co)(hC:RdE 1 RInts w D co){r c:Nat}(hr:r<co.length)(hc:c<co.length) :
  ∃ cb cof rb ro d',D=some ⟨cb,cof,none⟩/\w.cell? ⟨cb,cof+r,none⟩=some (.slice (some ⟨rb,ro,none⟩) co.length d')/\w.cell? ⟨rb,ro+c,none⟩=some (.int .i64 (Zb co r c)):=by
 obtain⟨cb,cof,D',row,d',rfl,zb,cD,er,_,rD,iD,ld,md⟩:=hC.ints hr;have lrow:=rok.row row (List.mem_of_getElem? er.out);obtain⟨rb,ro,x,rfl,zx,cx,ex,_⟩:=rD.at (k:=c) (by omega);refine⟨cb,cof,rb,ro,d',rfl,by rw[cD,lrow],?_⟩;rw[cx];unfold Zb;rw[getD_some er.out,getD_some ex.out]
theorem Zfs {w:World}{cb cof:Nat}{co:List (List Int)}(rok:RowsOk co)(hC:RdE 1 RInts w (some ⟨cb,cof,none⟩) co){r c:Nat}(hr:r<co.length)(hc:c<co.length) :
  ∃ rb ro d',w.cell? ⟨cb,cof+r,none⟩=some (.slice (some ⟨rb,ro,none⟩) co.length d')/\w.cell? ⟨rb,ro+c,none⟩=some (.int .i64 (Zb co r c)):=by
 obtain⟨cb',cof',rb,ro,d',h,h1,h2⟩:=WP rok hC hr hc;obtain⟨rfl,rfl⟩:cb=cb'/\cof=cof':=by simpa using h
 exact⟨rb,ro,d',h1,h2⟩
theorem Y0 {rows:List (List Int)}(ok:RowsOk rows)(a b:Nat)(ha:a<rows.length)(hb:b<rows.length) : 0<=Zb rows a b/\Zb rows a b<=2147483647:=by
 have e1:rows[a]?=some rows[a]:=List.getElem?_eq_getElem ha;have e2:=ok.row _ (List.getElem_mem ha);have e3:(rows[a])[b]?=some (rows[a])[b]:=List.getElem?_eq_getElem (by omega);unfold Zb;rw[getD_some e1,getD_some e3];exact ok.num _ (List.getElem_mem ha) _ (List.getElem_mem _)
def orP (m:Nat) : List Nat->Nat
 | []=>m
 | x::l=>orP (m ||| 2^x) l
theorem Zao : ∀ (l:List Nat) (m j:Nat),(orP m l).testBit j=(m.testBit j || decide (j∈l))
 | [],m,j=>by simp[orP]
 | x::l,m,j=>by
  rw[orP,Zao l,Nat.testBit_or,Nat.testBit_two_pow]
  by_cases e:x=j
  ·subst e;simp
  ·have e':¬j=x:=fun h=>e h.symm
   simp[e,e']
theorem Zbk : ∀ (l:List Nat) (m x:Nat),orP m (l++[x])=orP m l ||| 2^x
 | [],m,x=>rfl
 | y::l,m,x=>by rw[List.cons_append,orP,Zbk l,orP]
theorem Zf5 {l:List Nat}(h:∀ x∈l,x<64) : orP 0 l<18446744073709551616:=by
 refine Nat.lt_pow_two_of_testBit (n:=64) _ fun i hi=>?_
 rw[Zao];simp;intro hm;have:=h i hm;omega
theorem ZeP {l:List Nat}{n:Nat}(h:l.Perm (List.range n)) : orP 0 l=2^n-1:=by
 refine Nat.eq_of_testBit_eq fun j=>?_
 rw[Zao,Nat.testBit_two_pow_sub_one];have:j∈l↔j<n:=by rw[h.mem_iff,List.mem_range]
 simp[this]
theorem Zft (x y:Int)(u:World) : (Op.equalIn 10000 141 (.agg #[.int .u64 x,.int .u64 0]) (.agg #[.int .u64 y,.int .u64 0])).run Tryz.prog u=.ok (x==y) u:=by
 unfold Op.equalIn;simp only[Sem.run_bind,run_underlying Tryz.underlying141,Result.andThen_ok];have e9:List.range' 0 2 1=[0,1]:=rfl;simp only[Std.Legacy.Range.forIn_eq_forIn_range',Std.Legacy.Range.size,Nat.sub_zero,Nat.add_one_sub_one,Nat.div_one,e9,List.forIn_cons,List.forIn_nil]
 by_cases hx:x=y
 ·subst hx
  go_simp
 ·have hx':(x==y)=false:=by simpa using hx
  go_simp
theorem ZdD (A:Option Addr)(c:Nat)(l:List Nat)(hl:∀ x∈l,x<64)(hn:l.length<=1000)(w:World)(hA:RdI w A (Ze l)) :
  Calls Tryz.prog 133 #[.slice A l.length c] w fun e w'=>e=.returned (setV (orP 0 l))/\Ext w w':=by
 have B0:Hid (Blk ((w.alloc (.cells #[.int .u64 0,.int .u64 0] 141)).alloc (.cells #[.int .u64 0,.int .u64 0] 141)) w.heap.size 141 #[.int .u64 0,.int .u64 0]):=Blk.alloc (.new rfl) _;have B1:Hid (Blk ((w.alloc (.cells #[.int .u64 0,.int .u64 0] 141)).alloc (.cells #[.int .u64 0,.int .u64 0] 141)) (w.heap.size+1) 141 #[.int .u64 ((orP 0 (l.take 0):Nat):Int),.int .u64 0]):=.new (by simp);have X0:Hid (Ext w ((w.alloc (.cells #[.int .u64 0,.int .u64 0] 141)).alloc (.cells #[.int .u64 0,.int .u64 0] 141))):=((Ext.rf w).alloc _).alloc _;have WI:=fun(m i:Nat) (h:m<18446744073709551616) (hi:i<64) (W:World)=>Ur m i h hi W
 unfold setV at WI ⊢;replace WI:=Hd WI;replace hA:=Hd hA;replace hl:=Hd hl;go_enter Tryz.func133,Tryz.ntmps133;go_wp2_with (fail);go_loopw [8] (fun i wr=>∃ k:Nat,i=.int .i64 k/\k<=l.length/\Hid (Blk wr (w.heap.size+1) 141 #[.int .u64 ((orP 0 (l.take k):Nat):Int),.int .u64 0])/\Hid (Blk wr w.heap.size 141 #[.int .u64 0,.int .u64 0])/\Hid (Ext w wr)) (fun i _=>l.length-(intOf i).toNat)
 case atStart=>exact⟨0,rfl,by omega,B1,B0,X0⟩
 case round =>
  clear B0 B1 X0;obtain⟨wo,rfl⟩:∃ wo:World,wo=wr:=⟨_,rfl⟩;obtain⟨k,rfl,hk,B1,B0,X0⟩:=hrel
  by_cases hlt:k<l.length
  ·obtain⟨b,off,x,rfl,zb,cx,ex,_⟩:=(hA.out.ext X0.out).at (k:=k) (by rw[Zm];exact hlt)
   obtain⟨y,hy⟩:∃ y,Hid (l[k]?=some y):=⟨l[k],List.getElem?_eq_getElem hlt⟩;obtain rfl:x=(y:Int):=by
    have h1:=ex.out;simp only[Ze,List.getElem?_map,hy.out,Option.map_some,Option.some.injEq] at h1;exact h1.symm
   have hy64:=hl.out y (List.mem_of_getElem? hy.out);have hm:=Zf5 (l:=l.take k) (fun x hx=>hl.out x (List.mem_of_mem_take hx));have HS:orP 0 (l.take (k+1))=orP 0 (l.take k) ||| 2^y:=by
    rw[List.take_add_one,hy.out];exact Zbk _ _ _
   have HW:=Hd (WI.out (orP 0 (l.take k)) y hm hy64);rw[<-HS] at HW;clear HS hm hy64 ex;generalize orP 0 (l.take k)=m at *;obtain⟨m2,hm2⟩:∃ m2,Hid (orP 0 (l.take (k+1))=m2):=⟨_,rfl⟩;rw[hm2.out] at HW;have c0:=B1.out.c0;have c1:=B1.out.c1;have q1:(k:Int)<(l.length:Int):=by omega
   go_wp2_with (fail);refine(HW.out _).mono ?_;rintro e w1 ⟨rfl,x1⟩;have b1:=B1.out.ext x1;have d0:=b1.c0;have d1:=b1.c1;have f0:=b1.free 0;have f1:=b1.free 1;have B1':=Hd ((b1.set 0 (.int .u64 m2)).set 1 (.int .u64 0));have B0':=Hd (((B0.out.ext x1).far (p:=⟨w.heap.size+1,0,none⟩) (by simp) (.int .u64 m2)).far (p:=⟨w.heap.size+1,1,none⟩) (by simp) (.int .u64 0));have X1:=Hd (((X0.out.tr x1).setNew (p:=⟨w.heap.size+1,0,none⟩) (by simp) (.int .u64 m2)).setNew (p:=⟨w.heap.size+1,1,none⟩) (by simp) (.int .u64 0));clear b1 x1 B0 B1 X0 c0 c1;go_wp2_with (fail);go_roundw
   case rel=>exact⟨k+1,by go_num,by omega,by rw[hm2.out];exact B1',B0',X1⟩
   case measure=>simp[intOf];omega
  ·obtain rfl:k=l.length:=by omega
   rw[List.take_length] at B1;obtain⟨m,hm⟩:∃ m,Hid (orP 0 l=m):=⟨_,rfl⟩;rw[hm.out] at B1;have c0:=B1.out.c0;have c1:=B1.out.c1;have r0:=B0.out.c0;have r1:=B0.out.c1;have g0:=B0.out.free 0;have g1:=B0.out.free 1;go_wp2_with (fail);refine bodyPost_ret (v:=.agg #[.int .u64 m,.int .u64 0]) (by simp[results,Tryz.results133,go_sem, *]) rfl ⟨by rw[hm.out],?_⟩;exact(X0.out.setNew (p:=⟨w.heap.size,0,none⟩) (by simp) _).setNew (p:=⟨w.heap.size,1,none⟩) (by simp) _
theorem JO (A:Option Addr)(c n:Nat)(l:List Nat)(hl:l.Perm (List.range n))(hn:n<64)(w:World)(hA:RdI w A (Ze l)) :
  Calls Tryz.prog 79 #[.slice A n c,.int .i64 n] w fun e w'=>e=.returned (.bool true)/\Ext w w':=by
 have lk:l.length=n:=by rw[hl.length_eq,List.length_range]
 have OF:=fun(W:World) (x:Ext w W)=>ZdD A c l (fun x hx=>by have:=List.mem_range.1 (hl.mem_iff.1 hx);omega) (by omega) W (hA.ext x)
 have FU:=fun(W:World)=>W6 n hn W
 rw[ZeP hl,lk] at OF;clear lk hl hA;unfold setV at OF FU;generalize 2^n-1=m at *;have EQ:=fun u:World=>Zft (m:Int) (m:Int) u
 simp only[beq_self_eq_true] at EQ;have en:((n:Int)==(n:Int))=true:=by simp
 replace OF:=Hd OF;replace FU:=Hd FU;go_enter Tryz.func79,Tryz.ntmps79;go_wp2_with (fail);refine(OF.out _ (by(repeat (first | assumption | exact Ext.rf _ | apply Ext.drew | apply Ext.drewN | apply Ext.alloc)))).mono ?_;rintro e w1 ⟨rfl,x1⟩;go_wp2_with (fail);refine(FU.out _).mono ?_;rintro e w2 ⟨rfl,x2⟩;have X2:=Hd (Ext.tr (Ext.tr (a:=w) (by(repeat (first | assumption | exact Ext.rf _ | apply Ext.drew | apply Ext.drewN | apply Ext.alloc))) x1) x2);clear x1 x2;go_wp2_with (fail);go_ret;exact⟨rfl,X2.out⟩
def Vi (rows:List (List Int))(l:List Nat)(k:Nat) : Int:=Zj ((List.range k).map fun j=>Zb rows j (l.getD j 0))
theorem Zca (rows:List (List Int))(l:List Nat)(k:Nat) : Vi rows l (k+1)=Vi rows l k+Zb rows k (l.getD k 0):=by
 unfold Vi;rw[List.range_succ,List.map_append,Wh];simp[Zj]
theorem Q8 (i:InstP)(us:List Value)(P:Option Addr)(c:Nat)(l:List Nat)(w:World)(H:RInst w us i)(hc:Zf i=0)(hk:i.kind=2)(hP:RdI w P (Ze l))(hl:l.Perm (List.range i.cost.length)) :
  Calls Tryz.prog 41 #[.agg (List.toArray us),.slice P i.cost.length c] w fun e w'=>e=.returned (.tuple #[.int .i64 (Zs i.cost (Ze l)),.int .i64 0])/\Ext w w':=by
 have sq:=Zo hc (by omega);have rok:=ZF sq;have CH:=fun(W:World) (x:Ext w W)=>ZC i us W (H.ext x) (by rw[sq.w];simp) (by rw[sq.v];simp)
 have lk:l.length=i.cost.length:=by rw[hl.length_eq,List.length_range]
 have OY:=fun(W:World) (x:Ext w W)=>JO P c i.cost.length l hl (by have:=rok.n2;omega) W (hP.ext x)
 have CF:Hid (Zs i.cost (Ze l)=Vi i.cost l i.cost.length):=Hd (by rw[Yp lk.symm,lk];rfl);have hln:=sq.len;rw[hc] at CH;obtain⟨kind,nn,cap,xw,xv,co⟩:=i;obtain⟨A,a,B,b,D,d,rfl,-,-,hC,-⟩:=H;simp only at *;subst hk;have n1:=rok.n1;have n2:=rok.n2;obtain⟨n,hn⟩:∃ n,co.length=n:=⟨_,rfl⟩;rw[hn] at CH OY CF lk hln hl n1 n2 ⊢;have lt:∀ k,k<n->l.getD k 0<n:=fun k hk=>by
  have h1:l[k]?=some (l[k]'(by omega)):=List.getElem?_eq_getElem _;rw[getD_some h1];exact List.mem_range.1 (hl.mem_iff.1 (List.getElem_mem _))
 have CA:=fun(W:World) (x:Ext w W) (r c:Nat) (hr:r<n) (hc:c<n)=>WP rok (hC.ext x fun _ _ h=>h.ext x) (r:=r) (c:=c) (by omega) (by omega)
 rw[hn] at CA;have EB:=fun r c (hr:r<n) (hc:c<n)=>Y0 rok r c (by omega) (by omega)
 have B1:Hid (Blk (w.alloc (.cells #[.int .i64 2,.int .i64 nn,.int .i64 cap,.slice A xw.length a,.slice B xv.length b,.slice D n d] 25)) w.heap.size 25 #[.int .i64 2,.int .i64 nn,.int .i64 cap,.slice A xw.length a,.slice B xv.length b,.slice D n d]):=.new rfl;subst hln;replace CH:=Hd CH;replace OY:=Hd OY;replace CA:=Hd CA;replace EB:=Hd EB;replace hP:=Hd hP;replace lk:=Hd lk;replace lt:=Hd lt;replace hn:=Hd hn;clear hc hl hC rok sq;go_enter Tryz.func41,Tryz.ntmps41;go_wp2_with (fail);refine(CH.out _ (by(repeat (first | assumption | exact Ext.rf _ | apply Ext.drew | apply Ext.drewN | apply Ext.alloc)))).mono ?_;rintro e w1 ⟨rfl,x1⟩;have X1:=Hd (Ext.tr (a:=w) (by(repeat (first | assumption | exact Ext.rf _ | apply Ext.drew | apply Ext.drewN | apply Ext.alloc))) x1);have b1:=Hd (B1.out.ext x1);have t0:=b1.out.c0;have t1:=b1.out.c1;clear x1 B1;go_wp2_with (fail);refine(OY.out _ (X1.out.tr (by(repeat (first | assumption | exact Ext.rf _ | apply Ext.drew | apply Ext.drewN | apply Ext.alloc))))).mono ?_;rintro e w2 ⟨rfl,x2⟩;have X2:=Hd (X1.out.tr (Ext.tr (by(repeat (first | assumption | exact Ext.rf _ | apply Ext.drew | apply Ext.drewN | apply Ext.alloc))) x2));have b2:=Hd (b1.out.ext (Ext.tr (by(repeat (first | assumption | exact Ext.rf _ | apply Ext.drew | apply Ext.drewN | apply Ext.alloc))) x2));have s0:=b2.out.c0;clear x2 b1 X1 t0 t1;go_wp2_with (fail);go_loopw [7,44] (fun sv i wr=>∃ k:Nat,i=.int .i64 k/\sv=.int .i64 (Vi co l k)/\k<=n/\Hid (0<=Vi co l k/\Vi co l k<=k*2147483647)/\Hid (Ext w2 wr)) (fun _ i _=>n-(intOf i).toNat)
 case atStart=>exact⟨0,rfl,rfl,by omega,⟨Int.le_refl _,by simp[Vi,Zj]⟩,Ext.rf _⟩
 case round =>
  clear s0;obtain⟨wo,rfl⟩:∃ wo:World,wo=wr:=⟨_,rfl⟩;obtain⟨k,rfl,rfl,hk,BD,X3⟩:=hrel
  by_cases hlt:k<n
  ·obtain⟨y,hy⟩:∃ y,Hid (l.getD k 0=y):=⟨_,rfl⟩
   have yn:y<n:=by rw[<-hy.out];exact lt.out k hlt
   obtain⟨pb,po,x,rfl,zp,cp,ex,_⟩:=((hP.out.ext X2.out).ext X3.out).at (k:=k) (by rw[Zm,lk.out];exact hlt);obtain rfl:x=(y:Int):=by
    have h1:=ex.out;have h2:l[k]?=some (l[k]'(by rw[lk.out];exact hlt)):=List.getElem?_eq_getElem _;have h3:=hy.out;rw[getD_some h2] at h3;simp only[Ze,List.getElem?_map,h2,Option.map_some,Option.some.injEq,h3] at h1;exact h1.symm
   obtain⟨cb,cof,rb,ro,d',rfl,k1,k2⟩:=CA.out wo (X2.out.tr X3.out) k y hlt yn;have eb:=EB.out k y hlt yn;have HK:Hid (Vi co l (k+1)=Vi co l k+Zb co k y):=Hd (by rw[Zca,hy.out]);have b3:=b2.out.ext X3.out;have s0:=b3.c0;have s5:=b3.c5;obtain⟨b0,b1⟩:=BD.out;generalize Vi co l k=su at *;generalize Zb co k y=cv at *;have wv:IntKind.i64.wrap (su+cv)=su+cv:=IntWalk.i64_in _ (by omega);have q1:(k:Int)<(n:Int):=by omega
   have q2:(y:Int)<(n:Int):=by omega
   have bd2:0<=su+cv/\su+cv<=((k+1:Nat):Int)*2147483647:=by omega
   replace bd2:=Hd bd2;clear b0 b1 eb BD b3 ex;go_wp2_with (fail);go_roundw
   case rel=>exact⟨k+1,by go_num,by rw[HK.out],by omega,by rw[HK.out];exact bd2,X3.out.tr (by(repeat (first | assumption | exact Ext.rf _ | apply Ext.drew | apply Ext.drewN | apply Ext.alloc)))⟩
   case measure=>simp[intOf];omega
  ·obtain rfl:k=n:=by omega
   go_wp2_with (fail);go_ret2;exact⟨by rw[CF.out];rfl,X2.out.tr X3.out⟩
end Go.Proofs.YtmojhhlcocjoaaaGreatDoor
