/- parts, packed by a program -/
import Derived.Test.YtnbcmiaaleambaaGreatDoorShowTreesP5
set_option maxRecDepth 100000
set_option maxHeartbeats 16000000
set_option linter.all false
namespace Go.Proofs.YtnbcmiaaleambaaGreatDoor
open Go.ChangeAt Go.ChangeShapes Go.Deep Go.RowKit Go.Shelf Go.WideShapes
section
def UR (m last src:Nat) : Nat:=if src=last then m else YG m src ||| 2^0
theorem Ze8 {m last src:Nat}(h:m<18446744073709551616)(h0:0∉Zb m) : Zb (UR m last src)=ZY (Zb m) last src:=by
 unfold UR ZY;split
 ·rfl
 ·rw[ZaF,Wc h]
  intro hm;rw[Wc h] at hm;exact h0 (List.mem_filter.1 hm).1
theorem Zh3 {m last src:Nat}(h:m<18446744073709551616) : UR m last src<18446744073709551616:=by
 unfold UR;split
 ·exact h
 ·exact Zdp (Zag m src) (by omega)
theorem J2 (m last:Nat)(cost:Int)(src:Nat)(hm:m<18446744073709551616)(hs:src<64)(w:World) : Calls Tryz.prog 214 #[Q7 m last cost,.int .i64 src] w fun e w'=>e=.returned (ZS (UR m last src))/\Ext w w':=by
 have B1:Blk ((w.alloc (.cells #[.int .u64 m,.int .u64 0,.int .i64 last,.int .i64 cost] 238)).alloc (.cells #[.int .u64 0,.int .u64 0] 161)) (w.heap.size+1) 161 #[.int .u64 0,.int .u64 0]:=.new (by simp);have f0:=B1.free 0;have f1:=B1.free 1;have c0:((w.alloc (.cells #[.int .u64 m,.int .u64 0,.int .i64 last,.int .i64 cost] 238)).alloc (.cells #[.int .u64 0,.int .u64 0] 161)).cell? ⟨w.heap.size+1,0,none⟩=some (.int .u64 0):=B1.cell 0;have c1:((w.alloc (.cells #[.int .u64 m,.int .u64 0,.int .i64 last,.int .i64 cost] 238)).alloc (.cells #[.int .u64 0,.int .u64 0] 161)).cell? ⟨w.heap.size+1,1,none⟩=some (.int .u64 0):=B1.cell 1;have X0:Hid (Ext w ((w.alloc (.cells #[.int .u64 m,.int .u64 0,.int .i64 last,.int .i64 cost] 238)).alloc (.cells #[.int .u64 0,.int .u64 0] 161))):=((Ext.rf _).alloc _).alloc _;unfold UR
 by_cases e:src=last
 ·rw[if_pos e]
  have t0:((src:Int)==(last:Int))=true:=by rw[e];simp
  clear e;unfold ZS;go_enter Tryz.func214,Tryz.ntmps214;go_wp2_with (fail);refine bodyPost_ret (v:=.agg #[.int .u64 m,.int .u64 0]) (by simp[results,Tryz.results214,go_sem, *]) rfl ⟨rfl,?_⟩;exact((Ext.rf _).alloc _).alloc _
 ·rw[if_neg e]
  have t0:((src:Int)==(last:Int))=false:=by rw[beq_eq_false_iff_ne];omega
  have WO:=fun(W:World)=>WF m src hm hs W
  have WI:=fun(W:World)=>ZaE (YG m src) 0 (Zag m src) (by omega) W
  generalize YG m src ||| 2^0=m2 at *
  generalize YG m src=m1 at *;unfold ZS at WO WI ⊢;replace WO:=Hd WO;replace WI:=Hd WI;replace B1:=Hd B1;clear e hm;go_enter Tryz.func214,Tryz.ntmps214;go_wp2_with (fail);refine(WO.out _).mono ?_;rintro e w1 ⟨rfl,x1⟩;have X1:=Hd (X0.out.tr x1);have b1:=Hd (B1.out.ext x1);clear x1 c0 c1 f0 f1;go_wp2_with (fail);refine(WI.out _).mono ?_;rintro e w2 ⟨rfl,x2⟩;have X2:=Hd (X1.out.tr x2);have b2:=b1.out.ext x2;have c0:=b2.c0;have c1:=b2.c1;have f0:=b2.free 0;have f1:=b2.free 1;clear x2;go_wp2_with (fail);refine bodyPost_ret (v:=.agg #[.int .u64 m2,.int .u64 0]) (by simp[results,Tryz.results214,go_sem, *]) rfl ⟨rfl,?_⟩;exact(X2.out.setNew (p:=⟨w.heap.size+1,0,none⟩) (by simp) _).setNew (p:=⟨w.heap.size+1,1,none⟩) (by simp) _
abbrev ZjV (p:Int×Int) : Value:=.agg #[.int .i64 p.1,.int .i64 p.2]
theorem Zjl (p:Int×Int)(n:Int)(w:World) : Calls Tryz.prog 215 #[ZjV p,.int .i64 n] w fun e w'=>e=.returned (ZjV (Xe p n))/\Ext w w':=by
 obtain⟨a,b⟩:=p;unfold Xe;simp only[ZjV];have X:∀ c d:Value,Ext w ((w.alloc (.cells #[.int .i64 a,.int .i64 b] 243)).alloc (.cells #[c,d] 243)):=fun _ _=>((Ext.rf _).alloc _).alloc _
 by_cases h1:n<a
 ·rw[if_pos h1]
  go_enter Tryz.func215,Tryz.ntmps215;go_wp2_with (fail);refine bodyPost_ret (v:=.agg #[.int .i64 n,.int .i64 a]) (by simp[results,Tryz.results215,go_sem, *]) rfl ⟨rfl,?_⟩;exact X _ _
 ·rw[if_neg h1]
  by_cases h2:n<b
  ·rw[if_pos h2]
   go_enter Tryz.func215,Tryz.ntmps215;go_wp2_with (fail);refine bodyPost_ret (v:=.agg #[.int .i64 a,.int .i64 n]) (by simp[results,Tryz.results215,go_sem, *]) rfl ⟨rfl,?_⟩;exact X _ _
  ·rw[if_neg h2]
   go_enter Tryz.func215,Tryz.ntmps215;go_wp2_with (fail);refine bodyPost_ret (v:=.agg #[.int .i64 a,.int .i64 b]) (by simp[results,Tryz.results215,go_sem, *]) rfl ⟨rfl,?_⟩;exact X _ _
attribute [local go_sem] Oper.semAt_some
theorem JA (u:World)(x:Int) : (Instr.buildSlice 22 1 #[(0,.int .i64 x)]).run Tryz.prog u=.ok (.slice (some ⟨u.heap.size,0,none⟩) 1 1) (u.alloc (.cells #[.int .i64 x] 3)):=by go_simp
theorem RdI.toRdC {w:World}{A:Option Addr}{xs:List Int}(h:RdI w A xs) : RdC w A (xs.map (Value.int .i64)):=by
 rcases h with rfl | ⟨b,off,rfl,hb,hc⟩
 ·exact .inl rfl
 ·refine .inr ⟨b,off,rfl,hb,fun j v hj=>?_⟩
  rw[List.getElem?_map] at hj;obtain⟨x,hx,rfl⟩:=Option.map_eq_some_iff.1 hj;exact hc j x hx
theorem Zd0 (w:World)(base:Nat)(ty:TypeId)(g:Nat)(y:Int)(ys:List Int)(B:Option Addr)(c:Nat)(hg:Blk w g 3 #[.int .i64 y])(hb:base<=g)(hr:RdI w B ys)(hlen:ys.length<=2^40) :
  ∃ A' c' w',(Builtin.append_ #[22,22] ty #[.slice (some ⟨g,0,none⟩) 1 1,.slice B ys.length c]).run Tryz.prog w=.ok (.slice A' (y::ys).length c') w'/\OwI w' base A' c' (y::ys)/\Ext w w':=by
 obtain⟨i0,hi,hz0,hz1,hz2⟩:=info_parts XE;obtain⟨A',c',w',h1,h2,h3⟩:=Zda w (e:=3) Tryz.underlying22 hi hz0 hz1 hz2 (by simp[Value.cells]) (by omega) base ty g 1 #[.int .i64 y] B ys.length c (ys.map (Value.int .i64)) hg hb (by simp) hr.toRdC (by simp) (fun u hu=>by
  obtain⟨x,_,rfl⟩:=List.mem_map.1 hu
  rfl) (by simp only[maxLen];omega) (by omega)
 have e:1+ys.length=(y::ys).length:=by simp;omega
 rw[e] at h1 h2;exact⟨A',c',w',h1,h2,h3⟩
def Marks (B:Nat)(ds:List Deferred)(W:World) : Prop:=∃ rs:List Nat,ds=rs.map (fun r=>{ target:=.collected r,args:=#[] })/\rs.Nodup/\∀ r∈rs,B<=r/\W.heap[r]?=some (.deferred (some []))
theorem Q9 {n:Nat}{fn:Func}{tmps:Array Value}{R:Ending->World->Prop}(w:World) : ∀ (rs:List Nat) (W:World),rs.Nodup->(∀ r∈rs,w.heap.size<=r/\W.heap[r]?=some (.deferred (some [])))->Ext w W ->
  (∀ W',Ext w W'->LeavesIn Fence.wide n Tryz.prog fn tmps R [] .returning W')->LeavesInM Fence.wide n Tryz.prog fn tmps R (rs.map fun r=>{ target:=.collected r,args:=#[] }) .returning W
 | [],W,_,_,hx,h=>h W hx
 | r::rs,W,hn,hr,hx,h=>by
  have h1:=hr r (by simp);have hn':=List.nodup_cons.1 hn;refine⟨by simp,.inl ⟨r,_,rfl,run_takeDeferred h1.2,Q9 w rs _ hn'.2 (fun k hk=>?_) (hx.trans (belowK_b (w:=w) (Nat.le_refl _) W r _ _ h1.1 h1.2 rfl rfl)) h⟩⟩;have h2:=hr k (by simp[hk]);refine⟨h2.1,(World.putObj_heap_other ?_).trans h2.2⟩;rintro rfl;exact hn'.1 hk
theorem Marks.leaves {n:Nat}{fn:Func}{tmps:Array Value}{R:Ending->World->Prop}{w W:World}{ds:List Deferred}(h:Marks w.heap.size ds W)(hx:Ext w W)
  (hR:∀ W',Ext w W'->LeavesIn Fence.wide n Tryz.prog fn tmps R [] .returning W'):LeavesInM Fence.wide n Tryz.prog fn tmps R ds .returning W:=by
 obtain⟨rs,rfl,hn,hr⟩:=h;exact Q9 w rs W hn hr hx hR
theorem Marks.nil (B:Nat)(W:World) : Marks B [] W:=⟨[],rfl,List.nodup_nil,fun _ h=>by cases h⟩
theorem Marks.keep {B:Nat}{ds:List Deferred}{W W':World}(h:Marks B ds W)(k:∀ b:Nat,W.heap[b]?=some (Obj.deferred (some []))->W'.heap[b]?=W.heap[b]?) : Marks B ds W':=by
 obtain⟨rs,h1,h2,h3⟩:=h;exact⟨rs,h1,h2,fun r hr=>⟨(h3 r hr).1,(k r (h3 r hr).2).trans (h3 r hr).2⟩⟩
theorem Marks.lt {B:Nat}{ds:List Deferred}{W:World}(h:Marks B ds W) : ∀ d∈ds,∃ r,d={ target:=.collected r,args:=#[] }/\r<W.heap.size:=by
 obtain⟨rs,rfl,_,h3⟩:=h;intro d hd;obtain⟨r,hr,rfl⟩:=List.mem_map.1 hd;exact⟨r,rfl,(Array.getElem?_eq_some_iff.1 (h3 r hr).2).1⟩
theorem Marks.cons {B D:Nat}{ds:List Deferred}{W0 W:World}(h:Marks B ds W0)(hD:W0.heap.size<=D)(hB:B<=D)(k:∀ b:Nat,W0.heap[b]?=some (Obj.deferred (some []))->W.heap[b]?=W0.heap[b]?)(hK:W.heap[D]?=some (.deferred (some []))) : Marks B ({ target:=.collected D,args:=#[] }::ds) W:=by
 obtain⟨rs,rfl,h2,h3⟩:=h;refine⟨D::rs,rfl,List.nodup_cons.2 ⟨fun hm=>?_,h2⟩,fun r hr=>?_⟩
 ·have:=(Array.getElem?_eq_some_iff.1 (h3 D hm).2).1
  omega
 ·rcases List.mem_cons.1 hr with rfl | hr
  ·exact⟨hB,hK⟩
  ·exact⟨(h3 r hr).1,(k r (h3 r hr).2).trans (h3 r hr).2⟩
theorem Marks.more {B B':Nat}{ds:List Deferred}{W:World}(h:Marks B ds W)(hB:B'<=B) : Marks B' ds W:=by
 obtain⟨rs,h1,h2,h3⟩:=h;exact⟨rs,h1,h2,fun r hr=>⟨Nat.le_trans hB (h3 r hr).1,(h3 r hr).2⟩⟩
def JB (rows:List (List Int))(us:List Nat)(last:Nat)(done:List Nat) : List Int:=(List.range rows.length).map fun x=>if x∈done then Yt rows us last x else 0
theorem Vk (rows:List (List Int))(us:List Nat)(last:Nat)(done:List Nat) : (JB rows us last done).length=rows.length:=by simp[JB]
theorem Zh4 (rows:List (List Int))(us:List Nat)(last:Nat) : JB rows us last []=List.replicate rows.length 0:=by simp[JB,List.map_const']
theorem Za8 {rows:List (List Int)}{us:List Nat}{last:Nat}{done:List Nat}{x:Nat}(hx:x<rows.length) : (JB rows us last done)[x]?=some (if x∈done then Yt rows us last x else 0):=by
 simp[JB,hx]
theorem ZgW {rows:List (List Int)}{us:List Nat}{last:Nat}{done:List Nat}{x:Nat} : (JB rows us last done).set x (Yt rows us last x)=JB rows us last (done++[x]):=by
 apply List.ext_getElem?;intro j
 by_cases hj:j<rows.length
 ·rw[Za8 hj,List.getElem?_set,Vk,Za8 hj]
  by_cases e:x=j
  ·subst e
   simp[hj]
  ·rw[if_neg e]
   have e':¬j=x:=fun h=>e h.symm
   simp[e']
 ·rw[List.getElem?_eq_none (by rw[List.length_set,Vk];omega),List.getElem?_eq_none (by rw[Vk];omega)]
def Zh5 (w w5:World)(sb ob:Nat)(sum:Int)(n:Nat)(offs:List Int)(ds:List Deferred)(wr:World) : Prop :=
 w5.heap.size<=wr.heap.size/\Ext w wr/\(∀ b,b<w5.heap.size->b≠sb->b≠ob->wr.heap[b]?=w5.heap[b]?)/\Blk wr sb 3 #[.int .i64 sum]/\OwI wr 0 (some ⟨ob,0,none⟩) n offs/\Marks w5.heap.size ds wr
theorem Ze9 {base g:Nat}{rows:List (List Int)}{mi:Bool}(m last:Nat)(cost:Int)(ok:RowsOk rows)(hS:SubN rows.length m)(h0:0∉Zb m)(hla:last<rows.length)(w:World)(hT:Tab w)(H:KernT w base g rows mi) :
  CallsIn Fence.wide 3 Tryz.prog 211 #[.pointer (some ⟨g,0,none⟩),Q7 m last cost] w fun e W'=>e=.returned (.int .i64 (ZI rows (Zb m) last))/\Ext w W':=by
 obtain⟨C,cc,us,hB,_,hV,hR⟩:=H;have l1:=ok.n1;have l2:=ok.n2;have lus:Hid (us.length=rows.length):=hR.1;have cK:=((((hB.alloc (.cells #[.pointer (some ⟨g,0,none⟩)] 71)).alloc (.cells #[.int .u64 m,.int .u64 0,.int .i64 last,.int .i64 cost] 238)).alloc (.cells #[.int .i64 0] 3)).cell 0);simp only[List.getElem?_toArray,List.getElem?_cons_zero] at cK;have zg:=hB.lt;have hg:=QN hT;have h63:∀ x∈Zb m,x<63:=fun x hx=>by have:=hS.2 x hx;omega
 have LI:=Hd (fun(W:World) (hW:Tab W)=>ZaD m hS.1 h63 W hW);unfold ZS at LI;replace hB:=Hd hB;replace hV:=Hd hV;replace hR:=Hd hR;refine callsIn_of_wp_marks Tryz.func211 rfl trivial ?_ rfl;simp only[Tryz.ntmps211,List.size_toArray,List.length_cons,List.length_nil,Nat.reduceAdd,Nat.reduceSub,Array.replicate_succ,Array.replicate_zero,List.push_toArray,List.append_toArray,List.nil_append,List.cons_append]
 gi_wp2_with (gi_at_make;go_loud (refine ZcR rfl _ _ rfl w.heap.size rows.length rfl rfl (by omega) (by simp;omega) ?_;intro w1 o1 g1))
 have bK1:=Hd ((Blk.new (w:=w) (t:=71) (cs:=#[.pointer (some ⟨g,0,none⟩)]) rfl).alloc (.cells #[.int .u64 m,.int .u64 0,.int .i64 last,.int .i64 cost] 238) |>.alloc (.cells #[.int .i64 0] 3) |>.grown g1 (by simp));have bW1:=Hd ((Blk.new (w:=w.alloc (.cells #[.pointer (some ⟨g,0,none⟩)] 71)) (t:=238) (cs:=#[.int .u64 m,.int .u64 0,.int .i64 last,.int .i64 cost]) rfl).alloc (.cells #[.int .i64 0] 3) |>.grown g1 (by simp));have bS1:=Hd ((Blk.new (w:=(w.alloc (.cells #[.pointer (some ⟨g,0,none⟩)] 71)).alloc (.cells #[.int .u64 m,.int .u64 0,.int .i64 last,.int .i64 cost] 238)) (t:=3) (cs:=#[.int .i64 0]) rfl).grown g1 (by simp));simp only[World.size_alloc] at bK1 bW1 bS1 o1;have X1:=Hd (((((Ext.rf w).alloc (.cells #[.pointer (some ⟨g,0,none⟩)] 71)).alloc (.cells #[.int .u64 m,.int .u64 0,.int .i64 last,.int .i64 cost] 238)).alloc (.cells #[.int .i64 0] 3)).grow g1 (by simp));obtain⟨sf,hsf⟩:∃ sf,Hid (sf=w1.heap.size):=⟨_,rfl⟩;have zf:w.heap.size+1+1+1<sf:=by rw[hsf.out];exact(OwI.lt o1 _ rfl).2
 have o2:=Hd (o1.ext ((Ext.rf w1).alloc (.cells #[.slice (some ⟨w.heap.size+1+1+1,0,none⟩) rows.length rows.length] 22)));have bF2:Hid (Blk (w1.alloc (.cells #[.slice (some ⟨w.heap.size+1+1+1,0,none⟩) rows.length rows.length] 22)) sf 22 #[.slice (some ⟨w.heap.size+1+1+1,0,none⟩) rows.length rows.length]):=.new hsf.out;have bK2:=Hd (bK1.out.alloc (.cells #[.slice (some ⟨w.heap.size+1+1+1,0,none⟩) rows.length rows.length] 22));have bW2:=Hd (bW1.out.alloc (.cells #[.slice (some ⟨w.heap.size+1+1+1,0,none⟩) rows.length rows.length] 22));have bS2:=Hd (bS1.out.alloc (.cells #[.slice (some ⟨w.heap.size+1+1+1,0,none⟩) rows.length rows.length] 22));have X2:=Hd (X1.out.alloc (.cells #[.slice (some ⟨w.heap.size+1+1+1,0,none⟩) rows.length rows.length] 22))
 try simp only[World.size_alloc]
 rw[<-hsf.out];generalize w1.alloc (.cells #[.slice (some ⟨w.heap.size+1+1+1,0,none⟩) rows.length rows.length] 22)=w2 at *;clear bK1 bW1 bS1 X1 o1 g1 cK;have T2:=Hd (hT.ext X2.out);refine Wk (by kernel_rfl) (by kernel_rfl) (fun _=>trivial) rfl rfl ?_
 change wpAny _ _ _ _ _ _ _ (World.drew _)
 refine Zc (i:=0) (op:=Op.fieldAddr 238 (Operand.tmp 3) 1) (t:=0) (d:=some 24) (v:=_) rfl (by decide +kernel) (fun _ _ _ h=>h) (by intro _;unfold Ze;go_simp;try with_reducible rfl) ?_
 try simp only[lay]
 refine Zc (i:=3) (op:=Op.fieldAddr 238 (Operand.tmp 3) 0) (t:=0) (d:=some 27) (v:=_) rfl (by decide +kernel) (fun _ _ _ h=>h) (by intro _;unfold Ze;go_simp;try with_reducible rfl) ?_
 try simp only[lay]
 refine Wb (n:=1) [(1,some 25),(2,some 26),(4,some 28),(5,some 29),(6,some 30),(7,some 7)] (Ext w2)
  (VF (fun | 1=>some (.int .i64 last) | 4=>some (.agg #[.int .u64 m,.int .u64 0]) | _=>none)
   (fun i v W=>(i=2->∃ q,v=.slice (some ⟨q,0,none⟩) 1 1/\Blk W q 3 #[.int .i64 last]/\w2.heap.size<=q)/\(i=5->∃ A c,v=.slice A (Zf (Zb m)).length c/\RdI W A (Zf (Zb m)))/\(i=6->∃ A c,v=.slice A ((last:Int)::Zf (Zb m)).length c/\OwI W w2.heap.size A c ((last:Int)::Zf (Zb m)))/\(i=7->∃ q,v=.pointer (some ⟨q,0,none⟩)/\Blk W q 22 #[.slice none 0 0]/\w2.heap.size<=q)))
  Ext #[true,true,true,true,true,true,true,true,false] (by decide +kernel) (VF.stab ?_) ?_ ?_ ((Ext.rf _).drew)
 ·intro j v W W' _ h hx
  refine⟨fun e=>?_,fun e=>?_,fun e=>?_,fun e=>?_⟩
  ·obtain⟨q,h1,h2,h3⟩:=h.1 e
   exact⟨q,h1,h2.ext hx,h3⟩
  ·obtain⟨A,c,h1,h2⟩:=h.2.1 e
   exact⟨A,c,h1,h2.ext hx⟩
  ·obtain⟨A,c,h1,h2⟩:=h.2.2.1 e
   exact⟨A,c,h1,h2.ext hx⟩
  ·obtain⟨q,h1,h2,h3⟩:=h.2.2.2 e
   exact⟨q,h1,h2.ext hx,h3⟩
 ·intro pq hpm u w4 hR4 hD K hK
  have bw:=bW2.out.ext hR4;have r0:=bw.c0;have r1:=bw.c1;have r2:=bw.c2;simp only[List.mem_cons,List.not_mem_nil,or_false] at hpm;rcases hpm with rfl | rfl | rfl | rfl | rfl | rfl
  ·exact Zv (T:=3) rfl (.pointer (some ⟨w.heap.size+1,2,none⟩)) (by kernel_rfl) (.int .i64 last) (by go_simp) (hK _ _ (VF.mk rfl) hR4 (Ext.rf _))
  ·have h1:=(hD 1 (Zp (by kernel_rfl))).k rfl
   exact Vw rfl _ (Eq.trans (b:=u 1) (by kernel_rfl) h1) _ (JA _ _) (hK _ _ (VF.mg rfl ⟨fun _=>⟨_,rfl,.new rfl,hR4.size⟩,(fun h=>by cases h),(fun h=>by cases h),(fun h=>by cases h)⟩) (hR4.alloc _) ((Ext.rf _).alloc _))
  ·exact Zv (T:=161) rfl (.pointer (some ⟨w.heap.size+1,0,none⟩)) (by kernel_rfl) (.agg #[.int .u64 m,.int .u64 0]) (by go_simp) (hK _ _ (VF.mk rfl) hR4 (Ext.rf _))
  ·have h4:=(hD 4 (Zp (by kernel_rfl))).k rfl
   refine YC rfl #[.agg #[.int .u64 m,.int .u64 0]] (by go_simp) (by rw[<-h4];kernel_rfl) _ (LI.out _ (T2.out.ext hR4)) ?_;rintro e w3 ⟨A3,c3,rfl,o3,x3⟩;exact⟨_,rfl,hK _ _ (VF.mg rfl ⟨(fun h=>by cases h),fun _=>⟨A3,c3,rfl,o3.read⟩,(fun h=>by cases h),(fun h=>by cases h)⟩) (hR4.tr x3) x3⟩
  ·obtain⟨q,h2,b2,z2⟩:=((hD 2 (Zp (by kernel_rfl))).g rfl).1 rfl
   obtain⟨A,c,h5,o5⟩:=((hD 5 (Zp (by kernel_rfl))).g rfl).2.1 rfl;obtain⟨A6,c6,w6,hrun,o6,x6⟩:=Zd0 w4 w2.heap.size 22 q (last:Int) (Zf (Zb m)) A c b2 z2 o5 (by rw[Zh];have:=Wy m;omega);exact WQ rfl _ _ (Eq.trans (b:=u 2) (by kernel_rfl) h2) (Eq.trans (b:=u 5) (by kernel_rfl) h5) _ hrun (hK _ _ (VF.mg rfl ⟨(fun h=>by cases h),(fun h=>by cases h),fun _=>⟨A6,c6,rfl,o6⟩,(fun h=>by cases h)⟩) (hR4.tr x6) x6)
  ·exact Z5 (op:=.alloc 22) rfl (.pointer (some ⟨w4.heap.size,0,none⟩)) (w':=w4.alloc (.cells #[.slice none 0 0] 22)) (by unfold Ze;go_simp) (hK _ _ (VF.mg rfl ⟨(fun h=>by cases h),(fun h=>by cases h),(fun h=>by cases h),fun _=>⟨_,rfl,.new rfl,hR4.size⟩⟩) (hR4.alloc _) ((Ext.rf _).alloc _))
 ·intro u w4 hR4 hV4
  have h1:=(hV4 (1,some 25) (by simp)).k rfl;have h4:=(hV4 (4,some 28) (by simp)).k rfl;obtain⟨A6,c6,h6,o6⟩:=((hV4 (6,some 30) (by simp)).g rfl).2.2.1 rfl;obtain⟨q,h7,hq,hqz⟩:=((hV4 (7,some 7) (by simp)).g rfl).2.2.2 rfl;generalize u 2=y2 at *;generalize u 5=y5 at *;simp only[Zn,h1,h4,h6,h7];clear h1 h4 h6 h7 hV4;have cq:=hq.c0;have fq:=hq.free 0;obtain⟨srcs,hsr⟩:∃ srcs,Hid (srcs=last::Zb m):=⟨_,rfl⟩;have esr:(last:Int)::Zf (Zb m)=Zf srcs:=by rw[hsr.out];rfl
  rw[esr] at o6 ⊢;rw[Zh];have rb:Hid (Blk (w4.setCell ⟨q,0,none⟩ (.slice A6 srcs.length c6)) q 22 #[.slice A6 srcs.length c6]):=hq.set 0 (.slice A6 srcs.length c6);have X5:Ext w2 (w4.setCell ⟨q,0,none⟩ (.slice A6 srcs.length c6)):=hR4.setNew (p:=⟨q,0,none⟩) hqz _;have o7:Hid (OwI (w4.setCell ⟨q,0,none⟩ (.slice A6 srcs.length c6)) w2.heap.size A6 c6 (Zf srcs)):=o6.far hq (by decide) 0 _;refine Zl 8 (by decide +kernel) (Xq rfl (.pointer (some ⟨q,0,none⟩)) (.slice A6 srcs.length c6) (by kernel_rfl) (by kernel_rfl) (by go_simp;rfl) ?_);refine wpAny_done (by kernel_rfl) (Qt ?_) _;clear cq fq hq hR4 o6 esr;generalize w4.setCell ⟨q,0,none⟩ (.slice A6 srcs.length c6)=w5 at *;clear w4;have X6:=Hd (X2.out.tr X5);have bK5:=Hd (bK2.out.ext X5);have bW5:=Hd (bW2.out.ext X5);have bS5:=Hd (bS2.out.ext X5);have bF5:=Hd (bF2.out.ext X5);have o5:=Hd (o2.out.ext X5);have z2:=bF2.out.lt;have z25:=X5.size;clear X2 bK2 bW2 bS2 bF2 o2 X5 T2;have cR:=rb.out.cell 0;simp only[List.getElem?_toArray,List.getElem?_cons_zero] at cR;go_simp
  gi_wp2
  have hsl:Hid (∀ s∈srcs,s<rows.length):=fun s h=>by
   rw[hsr.out] at h;rcases List.mem_cons.1 h with rfl | h
   ·exact hla
   ·exact hS.2 s h
  have lsr:srcs.length<=65:=by rw[hsr.out];have:=Wy m;simp;omega
  have COLS:Hid (∀ s,s<rows.length->Zb (UR m last s)=ZY (Zb m) last s/\UR m last s<18446744073709551616/\∀ x∈Zb (UR m last s),x<rows.length):=fun s hs=>by
   have e:=Ze8 (last:=last) (src:=s) hS.1 h0;refine⟨e,Zh3 hS.1,fun x hx=>?_⟩;rw[e] at hx;unfold ZY at hx;split at hx
   ·exact hS.2 x hx
   ·rcases List.mem_cons.1 hx with rfl | hx
    ·omega
    ·exact hS.2 x (List.mem_filter.1 hx).1
  have hcost:Hid (∀ a b,a<rows.length->b<rows.length->0<=Za rows a b/\Za rows a b<=2147483647):=fun a b ha hb=>by
   have e1:rows[a]?=some rows[a]:=List.getElem?_eq_getElem ha;have e2:=ok.row _ (List.getElem_mem ha);have e3:(rows[a])[b]?=some (rows[a])[b]:=List.getElem?_eq_getElem (by omega);unfold Za;rw[getD_some e1,getD_some e3];exact ok.num _ (List.getElem_mem ha) _ (List.getElem_mem _)
  have hoff:Hid (∀ s,s<rows.length->0<=Yt rows (Zb m) last s/\Yt rows (Zb m) last s<=2147483647):=fun s hs=>by
   have h1:=YW (f:=fun dst=>Za rows s dst) (B:=2147483647) (l:=ZY (Zb m) last s) (b:=-1) (fun c hc=>by
    have h2:=(COLS.out s hs).2.2 c (by rw[(COLS.out s hs).1];exact hc);have:=hcost.out s c hs h2;omega) (by omega) (by omega)
   unfold Yt;omega
  have bsum:Hid (∀ k,0<=Zg ((srcs.take k).map fun s=>Yt rows (Zb m) last s)/\Zg ((srcs.take k).map fun s=>Yt rows (Zb m) last s)<=2147483647*65):=fun k=>by
   have h1:∀ l:List Nat,(∀ s∈l,s<rows.length)->0<=Zg (l.map fun s=>Yt rows (Zb m) last s)/\Zg (l.map fun s=>Yt rows (Zb m) last s)<=2147483647*(l.length:Int):=by
    intro l
    induction l with
    | nil=>intro _;simp[Zg]
    | cons x l ih =>
     intro h;have h2:=ih fun s hs=>h s (by simp[hs])
     have h3:=hoff.out x (h x (by simp));simp only[List.map_cons,Zg,List.length_cons];omega
   have h2:=h1 (srcs.take k) fun s hs=>hsl.out s (List.mem_of_mem_take hs)
   have h3:(srcs.take k).length<=65:=by rw[List.length_take];omega
   omega
  have START:Hid (Zh5 w w5 (w.heap.size+1+1) (w.heap.size+1+1+1) (Zg ((srcs.take 0).map fun s=>Yt rows (Zb m) last s)) rows.length (JB rows (Zb m) last (srcs.take 0)) [] w5) :=
   ⟨Nat.le_refl _,X6.out,fun _ _ _ _=>rfl,bS5.out,by rw[List.take_zero,Zh4];exact o5.out.more (Nat.zero_le _),.nil _ _⟩
  refine wpIn_loop (fun a' wr=>∃ (k:Nat) (ds:List Deferred) (u9 u10 u34 u35 u36 u37 u38 u39 u40 u60 u61 u62 u63 u64 u65 u66 u67 u68 u69 u70 u71:Value),(k<=srcs.length/\Hid (Zh5 w w5 (w.heap.size+1+1) (w.heap.size+1+1+1) (Zg ((srcs.take k).map fun s=>Yt rows (Zb m) last s)) rows.length (JB rows (Zb m) last (srcs.take k)) ds wr)) /\
    a'={ tmps:=#[.pointer (some ⟨g,0,none⟩),.agg #[.int .u64 m,.int .u64 0,.int .i64 last,.int .i64 cost],.pointer (some ⟨w.heap.size,0,none⟩),.pointer (some ⟨w.heap.size+1,0,none⟩),.int .i64 0,.pointer (some ⟨w.heap.size+1+1,0,none⟩),.pointer (some ⟨sf,0,none⟩),.pointer (some ⟨q,0,none⟩),undef,u9,u10,undef,undef,undef,undef,undef,undef,undef,.pointer (some ⟨g,0,none⟩),.pointer (some ⟨g,0,none⟩),.pointer (some ⟨g,0,none⟩),.slice C rows.length cc,.int .i64 rows.length,.slice (some ⟨w.heap.size+1+1+1,0,none⟩) rows.length rows.length,.pointer (some ⟨w.heap.size+1,2,none⟩),.int .i64 last,u 2,.pointer (some ⟨w.heap.size+1,0,none⟩),.agg #[.int .u64 m,.int .u64 0],u 5,.slice A6 srcs.length c6,.slice A6 srcs.length c6,.int .i64 srcs.length,.int .i64 k,u34,u35,u36,u37,u38,u39,u40,undef,undef,undef,undef,undef,undef,undef,undef,undef,undef,undef,undef,undef,undef,undef,undef,undef,undef,undef,u60,u61,u62,u63,u64,u65,u66,u67,u68,u69,u70,u71,undef,undef,undef,undef,undef,undef,undef,undef,undef,undef,undef,undef,undef,undef,undef,undef,undef,undef,undef,undef,undef,undef,undef,undef,undef,undef,undef,undef,undef,undef,undef,undef,undef,undef,undef,undef,undef,undef,undef,undef,undef,undef,undef,undef,undef,undef],defers:=ds }) (fun a' _=>srcs.length-(intOf (a'.tmps.getD 33 undef)).toNat) ?_ ?_
  ·exact⟨0,[],_,_,_,_,_,_,_,_,_,_,_,_,_,_,_,_,_,_,_,_,_,⟨by omega,START⟩,rfl⟩
  intro _ wr hinv;obtain⟨k,ds,u9,u10,u34,u35,u36,u37,u38,u39,u40,u60,u61,u62,u63,u64,u65,u66,u67,u68,u69,u70,u71,⟨hk,HH⟩,rfl⟩:=hinv;obtain⟨wo,rfl⟩:=Wq wr;clear START;obtain⟨z5,Y,hB5,bU,oO,hM⟩:=HH.out
  by_cases hlt:k<srcs.length
  ·have er:srcs[k]?=some srcs[k]:=List.getElem?_eq_getElem hlt
   have hmem:srcs[k]∈srcs:=List.getElem_mem hlt;have hs:=hsl.out _ hmem;have etk:srcs.take (k+1)=srcs.take k++[srcs[k]]:=by rw[List.take_add_one,er];rfl
   have hcols:=COLS.out _ hs;have CO:=Hd (fun(W:World)=>J2 m last cost srcs[k] hS.1 (by omega) W);have bo:=Hd (hoff.out _ hs);have o7w:Hid (OwI wo w2.heap.size A6 c6 (Zf srcs)):=o7.out.keep fun g hg=>by
    have h1:=OwI.lt o7.out g hg;exact hB5 g h1.2 (by omega) (by omega)
   obtain⟨ab,ao,xs,rfl,zab,cA,eA,-⟩:=(OwI.read o7w.out).at (k:=k) (by rw[Zh];exact hlt);have exs:xs=((srcs[k]:Nat):Int):=by
    have h:=eA.out;rw[Z7 er] at h;exact(Option.some.inj h).symm
   subst exs;generalize srcs[k]=src at *;have erow:rows[src]?=some rows[src]:=List.getElem?_eq_getElem hs;obtain⟨D,d,hu,oD⟩:=hR.out.2 _ _ erow;have lrow:=ok.row _ (List.getElem_mem hs);have nrow:=ok.num _ (List.getElem_mem hs);have ecost:∀ b,Za rows src b=(rows[src]).getD b 0:=fun b=>by unfold Za;rw[getD_some erow]
   generalize rows[src]=row at *;replace oD:=Hd oD;replace nrow:=Hd nrow;replace ecost:=Hd ecost;replace etk:=Hd etk;obtain⟨mc,hmc⟩:∃ mc,Hid (UR m last src=mc):=⟨_,rfl⟩;rw[hmc.out] at hcols CO;obtain⟨emc,hmc1,hmc2⟩:=hcols;replace emc:=Hd emc;replace hmc2:=Hd hmc2;have kb:Hid (Blk wo w.heap.size 71 #[.pointer (some ⟨g,0,none⟩)]):=(hB5 _ (by omega) (by omega) (by omega)).trans bK5.out;have fb:Hid (Blk wo sf 22 #[.slice (some ⟨w.heap.size+1+1+1,0,none⟩) rows.length rows.length]):=(hB5 _ (by omega) (by omega) (by omega)).trans bF5.out;have wb:Blk wo (w.heap.size+1) 238 #[.int .u64 m,.int .u64 0,.int .i64 last,.int .i64 cost]:=(hB5 _ (by omega) (by omega) (by omega)).trans bW5.out;replace wb:=(wb.alloc (.cells #[.int .i64 src] 3)).alloc (.cells #[.int .i64 (-1)] 3);have c0:((wo.alloc (.cells #[.int .i64 src] 3)).alloc (.cells #[.int .i64 (-1)] 3)).cell? ⟨w.heap.size+1,0,none⟩=some (.int .u64 m):=wb.cell 0;have c1:((wo.alloc (.cells #[.int .i64 src] 3)).alloc (.cells #[.int .i64 (-1)] 3)).cell? ⟨w.heap.size+1,1,none⟩=some (.int .u64 0):=wb.cell 1;have c2:((wo.alloc (.cells #[.int .i64 src] 3)).alloc (.cells #[.int .i64 (-1)] 3)).cell? ⟨w.heap.size+1,2,none⟩=some (.int .i64 last):=wb.cell 2;have c3:((wo.alloc (.cells #[.int .i64 src] 3)).alloc (.cells #[.int .i64 (-1)] 3)).cell? ⟨w.heap.size+1,3,none⟩=some (.int .i64 cost):=wb.cell 3;have q1:(k:Int)<(srcs.length:Int):=by omega
   have zO:w.heap.size+1+1+1+1<=wo.heap.size:=by omega
   replace Y:=Hd Y;replace hB5:=Hd hB5;replace bU:=Hd bU;replace oO:=Hd oO;replace hM:=Hd hM;replace hu:=Hd hu;replace erow:=Hd erow;unfold ZS at CO;clear HH eA er wb
   gi_wp2
   refine⟨trivial,?_⟩;refine(callsIn_wide.2 (CO.out _)).mono ?_;rintro e w6 ⟨rfl,x6⟩
   gi_wp2
   refine⟨trivial,?_⟩;refine(callsIn_wide.2 (Ue mc _)).mono ?_;rintro e w7 ⟨rfl,rfl⟩
   gi_wp2
   have zO6:wo.heap.size+1+1<=w6.heap.size:=by have:=x6.size;simpa using this
   have xo6:Hid (Ext wo (w6.alloc (.cells #[.int .u64 mc,.int .u64 0] 161))):=(Ext.tr (((Ext.rf wo).alloc _).alloc _) x6).alloc _;have bB:Blk (w6.alloc (.cells #[.int .u64 mc,.int .u64 0] 161)) w6.heap.size 161 #[.int .u64 mc,.int .u64 0]:=.new rfl;have hB0:Ext w (w6.alloc (.cells #[.int .u64 mc,.int .u64 0] 161)):=Y.out.tr xo6.out;have bL:Blk (w6.alloc (.cells #[.int .u64 mc,.int .u64 0] 161)) (wo.heap.size+1) 3 #[.int .i64 (-1)]:=((Blk.new (by simp)).ext x6).alloc _;have bN:Hid (Blk (w6.alloc (.cells #[.int .u64 mc,.int .u64 0] 161)) wo.heap.size 3 #[.int .i64 src]):=(((Blk.new (by simp)).alloc _).ext x6).alloc _;have h63c:∀ x∈Zb mc,x<63:=fun x hx=>by have:=hmc2.out x hx;omega
   refine wpIn_rangeFunc_ownG rfl (by omega) (gf:=198) (lb:=#[.pointer (some ⟨w6.heap.size,0,none⟩)]) rfl trivial (enters_of Tryz.func198 (by kernel_rfl) rfl)
    (Wf 2 mc hmc1 h63c w6.heap.size w.heap.size _ bB (hT.ext hB0) hB0.size hg) SetKp.tr (Uf (cs:=#[.int .u64 mc,.int .u64 0]) hB0.size bB) (Below.refl _ _) (fun _=>rfl)
    (fun pre W=>Blk W (wo.heap.size+1) 3 #[.int .i64 (Zm (fun dst=>Za rows src dst) (-1) (inL pre))]/\Held (w6.alloc (.cells #[.int .u64 mc,.int .u64 0] 161)) (wo.heap.size+1) W/\Below w.heap.size w W)
    (fun _ _ _=>False)
    (OwnFrom.and (Yk (by simp<;>omega) _ _) (OwnFrom.and (WW (Nat.le_refl _)) (ownFrom_below (Nat.le_refl _) (by simp<;>omega))))
    (fun _ _ _ _ _ hs _ _=>hs)
    ⟨by simpa [inL,Zm] using bL,⟨Nat.le_refl _,fun _ _ _=>rfl⟩,hB0⟩
    (fun x=>{ tmps:=#[.pointer (some ⟨g,0,none⟩),.agg #[.int .u64 m,.int .u64 0,.int .i64 last,.int .i64 cost],.pointer (some ⟨w.heap.size,0,none⟩),.pointer (some ⟨w.heap.size+1,0,none⟩),.int .i64 0,.pointer (some ⟨w.heap.size+1+1,0,none⟩),.pointer (some ⟨sf,0,none⟩),.pointer (some ⟨q,0,none⟩),undef,.pointer (some ⟨wo.heap.size,0,none⟩),.pointer (some ⟨wo.heap.size+1,0,none⟩),.int .i64 ((x.1:Nat):Int),undef,undef,undef,undef,undef,undef,.pointer (some ⟨g,0,none⟩),.pointer (some ⟨g,0,none⟩),.pointer (some ⟨g,0,none⟩),.slice C rows.length cc,.int .i64 rows.length,.slice (some ⟨w.heap.size+1+1+1,0,none⟩) rows.length rows.length,.pointer (some ⟨w.heap.size+1,2,none⟩),.int .i64 last,u 2,.pointer (some ⟨w.heap.size+1,0,none⟩),.agg #[.int .u64 m,.int .u64 0],u 5,.slice (some ⟨ab,ao,none⟩) srcs.length c6,.slice (some ⟨ab,ao,none⟩) srcs.length c6,.int .i64 srcs.length,.int .i64 k,.bool true,.pointer (some ⟨ab,ao+k,none⟩),.int .i64 src,.agg #[.int .u64 m,.int .u64 0,.int .i64 last,.int .i64 cost],.int .i64 src,.agg #[.int .u64 mc,.int .u64 0],.func (.func 198) #[] #[.pointer (some ⟨w6.heap.size,0,none⟩)],.int .i64 ((x.1:Nat):Int),undef,undef,undef,undef,undef,undef,undef,undef,undef,undef,undef,undef,undef,undef,undef,undef,undef,undef,u60,u61,u62,u63,u64,u65,u66,u67,u68,u69,u70,u71,undef,undef,undef,undef,undef,undef,undef,undef,undef,undef,undef,undef,undef,undef,undef,undef,undef,undef,undef,undef,undef,undef,undef,undef,undef,undef,undef,undef,undef,undef,undef,undef,undef,undef,undef,undef,undef,undef,undef,undef,undef,undef,undef,undef,undef,undef],defers:=[] }) ?assign ?body ?done ?stop
   case assign =>
    intro l x W K hK
    gi_wp2
    exact hK
   case body =>
    rintro l pre x W ⟨hO,hH,hBW⟩ hlt;obtain⟨bb,hbb⟩:∃ bb,Hid (bb=Zm (fun dst=>Za rows src dst) (-1) (inL pre)):=⟨_,rfl⟩;rw[<-hbb.out] at hO;have hxr:=hmc2.out x.1 x.2;have cKb:W.cell? ⟨w.heap.size,0,none⟩=some (.pointer (some ⟨g,0,none⟩)):=(hH.blk (kb.out.ext xo6.out) (by omega)).cell 0;have cN:W.cell? ⟨wo.heap.size,0,none⟩=some (.int .i64 src):=(hH.blk bN.out (by omega)).cell 0;have cL:=hO.c0;have fL:=hO.free 0;obtain⟨rb,ro,vv,rfl,zv,cv,ev⟩:=(hV.out.read.ext hBW).at (j:=src) (by rw[lus.out];exact hs);obtain rfl:.slice D row.length d=vv:=by
     have h:=ev.out;rw[hu.out] at h;exact Option.some.inj h
    obtain⟨cb,co,y,rfl,zy,cy,ey,_⟩:=(oD.out.read.ext hBW).at (k:=x.1) (by omega);have cG:W.cell? ⟨g,0,none⟩=some (.slice (some ⟨rb,ro,none⟩) rows.length cc):=(hB.out.ext hBW).cell 0;have eN:Hid (Zm (fun dst=>Za rows src dst) (-1) (inL (pre++[x]))=if bb<0 then y else if y<bb then y else bb):=Hd (by
     rw[Va,Xz,<-hbb.out,ecost.out,getD_some ey.out])
    have q2:(src:Int)<(rows.length:Int):=by omega
    have q3:((x.1:Nat):Int)<(row.length:Int):=by omega
    have zW:w6.heap.size+1<=W.heap.size:=by have:=hH.1;simpa using this
    have E0:Hid (∀ nq:Nat,KeepsFrom (w6.heap.size+1) W (W.drewN nq)/\SetKp w.heap.size w6.heap.size W (W.drewN nq)/\Blk (W.drewN nq) (wo.heap.size+1) 3 #[.int .i64 bb]/\Held (w6.alloc (.cells #[.int .u64 mc,.int .u64 0] 161)) (wo.heap.size+1) (W.drewN nq)/\Below w.heap.size w (W.drewN nq)):=fun nq =>
     have xr:Ext W (W.drewN nq):=(Ext.rf W).drewN nq
     ⟨KeepsFrom.of_ext xr,⟨xr.mono (by omega),rfl⟩,hO.drewN nq,hH.ext xr,hBW.trans (xr.mono (by omega))⟩
    have E1:Hid (∀ nq:Nat,KeepsFrom (w6.heap.size+1) W ((W.drewN nq).setCell ⟨wo.heap.size+1,0,none⟩ (.int .i64 y))/\SetKp w.heap.size w6.heap.size W ((W.drewN nq).setCell ⟨wo.heap.size+1,0,none⟩ (.int .i64 y))/\Blk ((W.drewN nq).setCell ⟨wo.heap.size+1,0,none⟩ (.int .i64 y)) (wo.heap.size+1) 3 #[.int .i64 y]/\Held (w6.alloc (.cells #[.int .u64 mc,.int .u64 0] 161)) (wo.heap.size+1) ((W.drewN nq).setCell ⟨wo.heap.size+1,0,none⟩ (.int .i64 y))/\Below w.heap.size w ((W.drewN nq).setCell ⟨wo.heap.size+1,0,none⟩ (.int .i64 y))):=fun nq =>
     have xr:Ext W (W.drewN nq):=(Ext.rf W).drewN nq
     ⟨(KeepsFrom.of_ext xr).trans ((KeepsOthers.setCell _ _ _).from _),⟨(xr.mono (by omega)).setCell (by simp<;>omega) _,Below.heap_setCell (W.drewN nq) ⟨wo.heap.size+1,0,none⟩ _ w6.heap.size (by simp;omega)⟩,(hO.drewN nq).set 0 _,(hH.ext xr).set _,(hBW.trans (xr.mono (by omega))).setCell (by simp<;>omega) _⟩
    have hmx:Tryz.prog.follows .mixedOrders=true:=by kernel_rfl
    clear ev ey hbb;replace hO:=Hd hO;replace hH:=Hd hH;replace hBW:=Hd hBW
    by_cases hneg:bb<0
    ·rw[if_pos hneg] at eN
     gi_wp2
     refine Zi (by kernel_rfl) (by kernel_rfl) (by kernel_rfl) ?_
     repeat (gi_big_quiet_step (fail))
     refine wpQuietIn_nil ?_;rintro _ ⟨nq,rfl⟩
     gi_wp2
     obtain⟨e1,e2,e3,e4,e5⟩:=E1.out nq;exact⟨by rw[World.size_alloc];exact e1,e2,by rw[eN.out];exact e3,e4,e5⟩
    ·rw[if_neg hneg] at eN
     by_cases hy:y<bb
     ·rw[if_pos hy] at eN
      gi_wp2
      refine Zi (by kernel_rfl) (by kernel_rfl) (by kernel_rfl) ?_
      repeat (gi_big_quiet_step (fail))
      refine wpQuietIn_nil ?_;rintro _ ⟨nq,rfl⟩
      gi_wp2
      obtain⟨e1,e2,e3,e4,e5⟩:=E1.out nq;exact⟨by rw[World.size_alloc];exact e1,e2,by rw[eN.out];exact e3,e4,e5⟩
     ·rw[if_neg hy] at eN
      gi_wp2
      refine Zi (by kernel_rfl) (by kernel_rfl) (by kernel_rfl) ?_
      repeat (gi_big_quiet_step (fail))
      refine wpQuietIn_nil ?_;rintro _ ⟨nq,rfl⟩
      gi_wp2
      obtain⟨e1,e2,e3,e4,e5⟩:=E0.out nq;exact⟨by rw[World.size_alloc];exact e1,e2,by rw[eN.out];exact e3,e4,e5⟩
   case done =>
    rintro D ys W hD rfl ⟨hO,hH,hBW⟩ hK;rw[Xx,emc.out] at hO;obtain⟨bb,hbb⟩:∃ bb,Hid (bb=Zm (fun dst=>Za rows src dst) (-1) (ZY (Zb m) last src)):=⟨_,rfl⟩;rw[<-hbb.out] at hO;have eoff:Hid (Yt rows (Zb m) last src=max bb 0):=Hd (by unfold Yt;rw[hbb.out]);obtain⟨ov,hov⟩:∃ ov,Hid (ov=Yt rows (Zb m) last src):=⟨_,rfl⟩;rw[<-hov.out] at eoff bo;have emax:(if bb<0 then 0 else bb)=ov:=by rw[eoff.out];split<;>omega
    rw[World.size_alloc] at hD;have cL:=hO.c0;have cN:W.cell? ⟨wo.heap.size,0,none⟩=some (.int .i64 src):=(hH.blk bN.out (by omega)).cell 0;have cF:W.cell? ⟨sf,0,none⟩=some (.slice (some ⟨w.heap.size+1+1+1,0,none⟩) rows.length rows.length):=(hH.blk (fb.out.ext xo6.out) (by omega)).cell 0;have oW:OwI W 0 (some ⟨w.heap.size+1+1+1,0,none⟩) rows.length (JB rows (Zb m) last (srcs.take k)):=(oO.out.ext xo6.out).keep fun z hz=>by
     obtain rfl:w.heap.size+1+1+1=z:=by simpa [bl] using hz
     exact hH.2 _ (by simp;omega) (by omega)
    obtain⟨old,cOb,fOb,-,-,sOb⟩:=OwI.cell oW (k:=src) (by rw[Vk];exact hs);have bUW:=hH.blk (bU.out.ext xo6.out) (by omega);have bb1:=bsum.out k;have bb2:=bsum.out (k+1);rw[etk.out,List.map_append,List.map_cons,List.map_nil,Wi,<-hov.out] at bb2;obtain⟨su,hsu⟩:∃ su,Hid (su=Zg ((srcs.take k).map fun s=>Yt rows (Zb m) last s)):=⟨_,rfl⟩;rw[<-hsu.out] at bUW bb1 bb2;have hw:IntKind.i64.wrap (su+ov)=su+ov:=IntWalk.i64_in _ (by omega);have oW1:=sOb.out ov;obtain⟨ov2,cOb1,-,-,eOb1,-⟩:=OwI.cell oW1 (k:=src) (by rw[List.length_set,Vk];exact hs);obtain rfl:ov=ov2:=by
     have h:=eOb1.out;rw[List.getElem?_set_self (by rw[Vk];exact hs)] at h;exact Option.some.inj h
    have cU1:(W.setCell ⟨w.heap.size+1+1+1,src,none⟩ (.int .i64 ov)).cell? ⟨w.heap.size+1+1,0,none⟩=some (.int .i64 su):=(bUW.far (p:=⟨w.heap.size+1+1+1,src,none⟩) (by simp) _).cell 0;have fU1:(W.setCell ⟨w.heap.size+1+1+1,src,none⟩ (.int .i64 ov)).frozen? ⟨w.heap.size+1+1,0,none⟩=false:=(bUW.far (p:=⟨w.heap.size+1+1+1,src,none⟩) (by simp) _).free 0;have cN1:(W.setCell ⟨w.heap.size+1+1+1,src,none⟩ (.int .i64 ov)).cell? ⟨wo.heap.size,0,none⟩=some (.int .i64 src):=((hH.blk bN.out (by omega)).far (p:=⟨w.heap.size+1+1+1,src,none⟩) (by simp;omega) _).cell 0;have cF1:(W.setCell ⟨w.heap.size+1+1+1,src,none⟩ (.int .i64 ov)).cell? ⟨sf,0,none⟩=some (.slice (some ⟨w.heap.size+1+1+1,0,none⟩) rows.length rows.length):=((hH.blk (fb.out.ext xo6.out) (by omega)).far (p:=⟨w.heap.size+1+1+1,src,none⟩) (by simp;omega) _).cell 0;have q2:(src:Int)<(rows.length:Int):=by omega
    have zW:w6.heap.size+1<=W.heap.size:=by have:=hH.1;simpa using this
    have NOW:Hid (Zh5 w w5 (w.heap.size+1+1) (w.heap.size+1+1+1) (Zg ((srcs.take (k+1)).map fun s=>Yt rows (Zb m) last s)) rows.length (JB rows (Zb m) last (srcs.take (k+1))) ({ target:=.collected D,args:=#[] }::ds) (((W.setCell ⟨w.heap.size+1+1+1,src,none⟩ (.int .i64 ov)).setCell ⟨w.heap.size+1+1,0,none⟩ (.int .i64 (su+ov))).drew)):=by
     have key:∀ b,b≠w.heap.size+1+1->b≠w.heap.size+1+1+1->(((W.setCell ⟨w.heap.size+1+1+1,src,none⟩ (.int .i64 ov)).setCell ⟨w.heap.size+1+1,0,none⟩ (.int .i64 (su+ov))).drew).heap[b]?=W.heap[b]?:=fun b h1 h2 =>
      (Below.heap_setCell _ ⟨w.heap.size+1+1,0,none⟩ _ b (by simpa using h1)).trans (Below.heap_setCell W ⟨w.heap.size+1+1+1,src,none⟩ _ b (by simpa using h2))
     have key2:∀ b,b<wo.heap.size->b≠w.heap.size+1+1->b≠w.heap.size+1+1+1->(((W.setCell ⟨w.heap.size+1+1+1,src,none⟩ (.int .i64 ov)).setCell ⟨w.heap.size+1+1,0,none⟩ (.int .i64 (su+ov))).drew).heap[b]?=wo.heap[b]?:=fun b h0 h1 h2 =>
      (key b h1 h2).trans ((hH.2 b (by simp;omega) (by omega)).trans (xo6.out.block b h0))
     refine⟨by simp[World.drew];omega,((hBW.setCell (by simp<;>omega) _).setCell (by simp<;>omega) _).drew,fun b h0 h1 h2=>(key2 b (by omega) h1 h2).trans (hB5.out b h0 h1 h2),?_,?_,?_⟩
     ·rw[etk.out,List.map_append,List.map_cons,List.map_nil,Wi,<-hov.out,<-hsu.out]
      exact((bUW.far (p:=⟨w.heap.size+1+1+1,src,none⟩) (by simp) _).set 0 _).drew
     ·rw[etk.out,<-ZgW,<-hov.out]
      refine oW1.keep fun z hz=>?_
      obtain rfl:w.heap.size+1+1+1=z:=by simpa [bl] using hz
      exact Below.heap_setCell _ ⟨w.heap.size+1+1,0,none⟩ _ _ (by simp)
     ·have bOb:∃ cs,Blk wo (w.heap.size+1+1+1) 3 cs:=by
       rcases OwI.cases oO.out with⟨h,_⟩ | ⟨z,cur,h,_,h2,_⟩
       ·cases h
       ·injection h with h
        injection h with h
        subst h;exact⟨cur,h2⟩
      obtain⟨cs,bOb⟩:=bOb;refine hM.out.cons (D:=D) (by omega) (by omega) (fun b hb=>key2 b (Array.getElem?_eq_some_iff.1 hb).1 (fun e=>?_) (fun e=>?_)) ((key D (by omega) (by omega)).trans hK)
      ·subst e
       have h:=bU.out;unfold Blk at h;rw[h] at hb
       cases hb
      ·subst e
       unfold Blk at bOb;rw[bOb] at hb
       cases hb
    have mk:Hid (srcs.length-(k+1)<srcs.length-k):=Hd (by omega);replace bUW:=Hd bUW;replace oW1:=Hd oW1;replace hH:=Hd hH;replace hBW:=Hd hBW;replace hK:=Hd hK;clear eOb1 oW hO bb1 bb2
    gi_wp2
    refine Wk (by kernel_rfl) (by kernel_rfl) (fun _=>trivial) rfl rfl ?_
    change wpAny _ _ _ _ _ _ _ (World.drew _)
    refine Wx (n:=1) [(0,some 65),(1,some 66),(2,some 67),(3,some 68),(4,some 69),(5,some 70)] (fun | 0=>.int .i64 su | 1=>.slice (some ⟨w.heap.size+1+1+1,0,none⟩) rows.length rows.length | 2=>.int .i64 src | 3=>.pointer (some ⟨w.heap.size+1+1+1,src,none⟩) | 4=>.int .i64 ov | 5=>.int .i64 (su+ov) | _=>undef) #[true,true,true,true,true,true,false] (by decide +kernel) ?_ ?_
    ·intro pS hpm uS hD K hK
     simp only[List.mem_cons,List.not_mem_nil,or_false] at hpm;rcases hpm with rfl | rfl | rfl | rfl | rfl | rfl
     ·exact Zv (T:=3) (x:=Operand.tmp 5) (t:=3) (d:=some 65) rfl (.pointer (some ⟨w.heap.size+1+1,0,none⟩)) (by kernel_rfl) (.int .i64 su) (by go_simp) hK
     ·exact Zv (T:=22) (x:=Operand.tmp 6) (t:=22) (d:=some 66) rfl (.pointer (some ⟨sf,0,none⟩)) (by kernel_rfl) (.slice (some ⟨w.heap.size+1+1+1,0,none⟩) rows.length rows.length) (by go_simp) hK
     ·exact Zv (T:=3) (x:=Operand.tmp 9) (t:=3) (d:=some 67) rfl (.pointer (some ⟨wo.heap.size,0,none⟩)) (by kernel_rfl) (.int .i64 src) (by go_simp) hK
     ·exact XY (T:=22) (x:=Operand.tmp 66) (y:=Operand.tmp 67) (t:=0) (d:=some 68) rfl (.slice (some ⟨w.heap.size+1+1+1,0,none⟩) rows.length rows.length) (.int .i64 src) (Eq.trans (b:=uS 1) (by kernel_rfl) (hD 1 (Zp (by kernel_rfl)))) (Eq.trans (b:=uS 2) (by kernel_rfl) (hD 2 (Zp (by kernel_rfl)))) (.pointer (some ⟨w.heap.size+1+1+1,src,none⟩)) (by go_simp) hK
     ·exact Zv (T:=3) (x:=Operand.tmp 68) (t:=3) (d:=some 69) rfl (.pointer (some ⟨w.heap.size+1+1+1,src,none⟩)) (Eq.trans (b:=uS 3) (by kernel_rfl) (hD 3 (Zp (by kernel_rfl)))) (.int .i64 ov) (by go_simp) hK
     ·(have e0:uS 0=.int .i64 su:=hD 0 (Zp (by kernel_rfl));have e4:uS 4=.int .i64 ov:=hD 4 (Zp (by kernel_rfl));exact Z5 (op:=Op.binOp BinOp.add 3 (Operand.tmp 65) (Operand.tmp 69) 3) (t:=3) (d:=some 70) rfl (.int .i64 (su+ov)) (by simp only[Zn,Act.put,List.setIfInBounds_toArray,List.set_cons_zero,List.set_cons_succ];unfold Ze;go_simp;try simp only[e0,e4];try go_simp) hK)
    simp only[Zn,Act.put,List.setIfInBounds_toArray,List.set_cons_zero,List.set_cons_succ];refine Zl 6 (by decide +kernel) (Xq rfl (.pointer (some ⟨w.heap.size+1+1,0,none⟩)) (.int .i64 (su+ov)) (by kernel_rfl) (by kernel_rfl) (by go_simp;rfl) ?_)
    try simp only[lay]
    refine wpAny_done (by kernel_rfl) (Qt ?_) _;clear cOb1 cU1 fU1 cN1 cF1 cOb fOb sOb
    gi_wp2
    have ek:(k:Int)+1=((k+1:Nat):Int):=by omega
    rw[ek];refine⟨⟨k+1,_,_,_,_,_,_,_,_,_,_,_,_,_,_,_,_,_,_,_,_,_,_,⟨by omega,NOW⟩,rfl⟩,?_⟩;show srcs.length-(intOf (.int .i64 ((k+1:Nat):Int))).toNat<srcs.length-(intOf (.int .i64 (k:Int))).toNat;simp only[intOf,Int.toNat_natCast];exact mk.out
   case stop =>
    rintro D c pre W _ _ h _;exact h.elim
  ·obtain rfl:k=srcs.length:=by omega
   rw[List.take_length] at bU oO;have WI:=Hd (fun(W:World)=>ZaE m 0 hS.1 (by omega) W);have emh:=ZaF h0;have hmh1:=Zdp hS.1 (i:=0) (by omega);obtain⟨mh,hmh⟩:∃ mh,Hid (m ||| 2^0=mh):=⟨m ||| 2^0,rfl⟩;rw[hmh.out] at WI emh hmh1;replace emh:=Hd emh;have hmh2:Hid (∀ x∈Zb mh,x<rows.length):=fun x hx=>by
    rw[emh.out] at hx;rcases List.mem_cons.1 hx with rfl | hx
    ·omega
    ·exact hS.2 x hx
   have kb:Hid (Blk wo w.heap.size 71 #[.pointer (some ⟨g,0,none⟩)]):=(hB5 _ (by omega) (by omega) (by omega)).trans bK5.out;have fb:Hid (Blk wo sf 22 #[.slice (some ⟨w.heap.size+1+1+1,0,none⟩) rows.length rows.length]):=(hB5 _ (by omega) (by omega) (by omega)).trans bF5.out;have qb:Hid (Blk wo q 22 #[.slice A6 srcs.length c6]):=(hB5 _ rb.out.lt (by omega) (by omega)).trans rb.out;have wb:Hid (Blk wo (w.heap.size+1) 238 #[.int .u64 m,.int .u64 0,.int .i64 last,.int .i64 cost]):=(hB5 _ (by omega) (by omega) (by omega)).trans bW5.out;have o7w:Hid (OwI wo w2.heap.size A6 c6 (Zf srcs)):=o7.out.keep fun z hz=>by
    have h1:=OwI.lt o7.out z hz;exact hB5 z h1.2 (by omega) (by omega)
   have c0:=wb.out.c0;have c1:=wb.out.c1;have q0:¬((srcs.length:Int)<(srcs.length:Int)):=by omega
   have zO:w.heap.size+1+1+1+1<=wo.heap.size:=by omega
   have zq:q<wo.heap.size:=qb.out.lt;have zsf:sf<wo.heap.size:=fb.out.lt;replace Y:=Hd Y;replace bU:=Hd bU;replace oO:=Hd oO;replace hM:=Hd hM;replace hB5:=Hd hB5;unfold ZS at WI;clear HH
   gi_wp2
   refine⟨trivial,?_⟩;refine(callsIn_wide.2 (WI.out _)).mono ?_;rintro e w6 ⟨rfl,x6⟩
   gi_wp2
   refine⟨trivial,?_⟩;refine(callsIn_wide.2 (Ue mh _)).mono ?_;rintro e w7 ⟨rfl,rfl⟩
   gi_wp2
   have xo6:Hid (Ext wo (w6.alloc (.cells #[.int .u64 mh,.int .u64 0] 161))):=Ext.alloc x6 _;have bB:Blk (w6.alloc (.cells #[.int .u64 mh,.int .u64 0] 161)) w6.heap.size 161 #[.int .u64 mh,.int .u64 0]:=.new rfl;have hB0:Ext w (w6.alloc (.cells #[.int .u64 mh,.int .u64 0] 161)):=Y.out.tr xo6.out;have h63c:∀ x∈Zb mh,x<63:=fun x hx=>by have:=hmh2.out x hx;omega
   have zO6:wo.heap.size<=w6.heap.size:=x6.size;obtain⟨so,hso⟩:∃ so,Hid (so=Zg (srcs.map fun s=>Yt rows (Zb m) last s)):=⟨_,rfl⟩;have bso:=bsum.out srcs.length;rw[List.take_length] at bso;rw[<-hso.out] at bU bso;replace bso:=Hd bso;refine wpIn_rangeFunc_ownG rfl (by omega) (gf:=198) (lb:=#[.pointer (some ⟨w6.heap.size,0,none⟩)]) rfl trivial (enters_of Tryz.func198 (by kernel_rfl) rfl)
    (Wf 2 mh hmh1 h63c w6.heap.size w.heap.size _ bB (hT.ext hB0) hB0.size hg) SetKp.tr (Uf (cs:=#[.int .u64 mh,.int .u64 0]) hB0.size bB) (Below.refl _ _) (fun _=>rfl)
    (fun pre W=>Blk W (w.heap.size+1+1) 3 #[.int .i64 (so+Zg ((inL pre).map fun dst=>max (WJ rows (Zb m) last dst) 0))]/\Held (w6.alloc (.cells #[.int .u64 mh,.int .u64 0] 161)) (w.heap.size+1+1) W/\Below w.heap.size w W)
    (fun _ _ _=>False)
    (OwnFrom.and (Yk (by simp<;>omega) _ _) (OwnFrom.and (WW (Nat.le_refl _)) (ownFrom_below (Nat.le_refl _) (by simp<;>omega))))
    (fun _ _ _ _ _ hs _ _=>hs)
    ⟨by simpa [inL,Zg] using bU.out.ext xo6.out,⟨Nat.le_refl _,fun _ _ _=>rfl⟩,hB0⟩
    (fun x=>{ tmps:=#[.pointer (some ⟨g,0,none⟩),.agg #[.int .u64 m,.int .u64 0,.int .i64 last,.int .i64 cost],.pointer (some ⟨w.heap.size,0,none⟩),.pointer (some ⟨w.heap.size+1,0,none⟩),.int .i64 0,.pointer (some ⟨w.heap.size+1+1,0,none⟩),.pointer (some ⟨sf,0,none⟩),.pointer (some ⟨q,0,none⟩),undef,u9,u10,undef,undef,.int .i64 ((x.1:Nat):Int),undef,undef,undef,undef,.pointer (some ⟨g,0,none⟩),.pointer (some ⟨g,0,none⟩),.pointer (some ⟨g,0,none⟩),.slice C rows.length cc,.int .i64 rows.length,.slice (some ⟨w.heap.size+1+1+1,0,none⟩) rows.length rows.length,.pointer (some ⟨w.heap.size+1,2,none⟩),.int .i64 last,u 2,.pointer (some ⟨w.heap.size+1,0,none⟩),.agg #[.int .u64 m,.int .u64 0],u 5,.slice A6 srcs.length c6,.slice A6 srcs.length c6,.int .i64 srcs.length,.int .i64 srcs.length,.bool false,u35,u36,u37,u38,u39,u40,undef,undef,undef,undef,undef,undef,undef,undef,undef,undef,undef,undef,undef,undef,undef,undef,undef,undef,undef,u60,u61,u62,u63,u64,u65,u66,u67,u68,u69,u70,u71,.pointer (some ⟨w.heap.size+1,0,none⟩),.agg #[.int .u64 m,.int .u64 0],.agg #[.int .u64 mh,.int .u64 0],.func (.func 198) #[] #[.pointer (some ⟨w6.heap.size,0,none⟩)],.int .i64 ((x.1:Nat):Int),undef,undef,undef,undef,undef,undef,undef,undef,undef,undef,undef,undef,undef,undef,undef,undef,undef,undef,undef,undef,undef,undef,undef,undef,undef,undef,undef,undef,undef,undef,undef,undef,undef,undef,undef,undef,undef,undef,undef,undef,undef],defers:=[] }) ?assign2 ?body2 ?done2 ?stop2
   case assign2 =>
    intro l x W K hK
    gi_wp2
    exact hK
   case body2 =>
    rintro l pre x W ⟨hO,hH,hBW⟩ hlt2;obtain⟨su,hsu⟩:∃ su,Hid (su=so+Zg ((inL pre).map fun dst=>max (WJ rows (Zb m) last dst) 0)):=⟨_,rfl⟩;rw[<-hsu.out] at hO;have hxr:=hmh2.out x.1 x.2;obtain⟨cf,hcf⟩:∃ cf,Hid (WJ rows (Zb m) last x.1=cf):=⟨_,rfl⟩;have eN:Hid (so+Zg ((inL (pre++[x])).map fun dst=>max (WJ rows (Zb m) last dst) 0)=su+max cf 0):=Hd (by
     rw[Va,List.map_append,List.map_cons,List.map_nil,Wi,hsu.out,hcf.out];omega)
    have START2:Hid (Zm (fun s=>Za rows s x.1-Yt rows (Zb m) last s) (-1) ((srcs.drop 0).filter fun s=>decide (x.1∈ZY (Zb m) last s))=cf):=Hd (by
     rw[List.drop_zero,<-hcf.out,hsr.out]
     rfl)
    have bdc:Hid (∀ dst,dst<rows.length->-4294967294<=WJ rows (Zb m) last dst/\WJ rows (Zb m) last dst<=4294967294):=fun dst hd=>by
     unfold WJ;refine YW (fun c hc=>?_) (by omega) (by omega);have h1:=hsl.out c (by rw[hsr.out];exact(List.mem_filter.1 hc).1);have h2:=hcost.out c dst h1 hd;have h3:=hoff.out c h1;omega
    have bdS:Hid (0<=su/\su<=2147483647*65+4294967294*64):=by
     have h1:∀ l:List Nat,(∀ c∈l,c<rows.length)->0<=Zg (l.map fun dst=>max (WJ rows (Zb m) last dst) 0)/\Zg (l.map fun dst=>max (WJ rows (Zb m) last dst) 0)<=4294967294*(l.length:Int):=by
      intro l
      induction l with
      | nil=>intro _;simp[Zg]
      | cons x l ih =>
       intro h;have h2:=ih fun s hs=>h s (by simp[hs])
       have h3:=bdc.out x (h x (by simp));simp only[List.map_cons,Zg,List.length_cons];omega
     have h2:=h1 (inL pre) fun c hc=>by
      obtain⟨c',_,rfl⟩:=List.mem_map.1 hc;exact hmh2.out c'.1 c'.2
     have h3:(inL pre).length<=64:=by
      have:=Wy mh;simp[inL];omega
     have h4:=bso.out;have h:0<=su/\su<=2147483647*65+4294967294*64:=by rw[hsu.out];omega
     exact h
    have bdC:=bdc.out x.1 hxr;rw[hcf.out] at bdC;replace bdC:=Hd bdC;have kW:=Hd (hH.blk (kb.out.ext xo6.out) (by omega));have fW:=Hd (hH.blk (fb.out.ext xo6.out) (by omega));have qW:=Hd (hH.blk (qb.out.ext xo6.out) (by omega));have wW:=Hd (hH.blk (wb.out.ext xo6.out) (by omega));have oW:Hid (OwI W 0 (some ⟨w.heap.size+1+1+1,0,none⟩) rows.length (JB rows (Zb m) last srcs)):=(oO.out.ext xo6.out).keep fun z hz=>by
     obtain rfl:w.heap.size+1+1+1=z:=by simpa [bl] using hz
     exact hH.2 _ (by simp;omega) (by omega)
    have aW:Hid (OwI W w2.heap.size A6 c6 (Zf srcs)):=(o7w.out.ext xo6.out).keep fun z hz=>by
     have h1:=OwI.lt o7w.out z hz;exact hH.2 z (by simp;omega) (by omega)
    have cQ:=qW.out.c0;have hmx:Tryz.prog.follows .mixedOrders=true:=by kernel_rfl
    have zW:w6.heap.size+1<=W.heap.size:=by have:=hH.1;simpa using this
    have HH':=Hd hH;have HB':=Hd hBW;have HO':=Hd hO;clear hsu hH hBW hO bB hB0
    gi_wp2
    gi_loopw [14,79] (fun b v wr=>∃ (k:Nat) (bb:Int),v=.int .i64 k/\b=.int .i64 bb/\k<=srcs.length/\Hid (Zm (fun s=>Za rows s x.1-Yt rows (Zb m) last s) bb ((srcs.drop k).filter fun s=>decide (x.1∈ZY (Zb m) last s))=cf)/\Hid (Ext W wr)) (fun _ v _=>srcs.length-(intOf v).toNat)
    case atStart=>exact⟨0,-1,rfl,rfl,by omega,START2,Ext.rf W⟩
    case round =>
     obtain⟨k,bb,rfl,rfl,hk',hcol,xr⟩:=hrel;obtain⟨wi,rfl⟩:=Wq wr
     by_cases hlt':k<srcs.length
     ·have er:srcs[k]?=some srcs[k]:=List.getElem?_eq_getElem hlt'
      have hmem:srcs[k]∈srcs:=List.getElem_mem hlt';have hs:=hsl.out _ hmem;have edr:srcs.drop k=srcs[k]::srcs.drop (k+1):=List.drop_eq_getElem_cons hlt';have hcols:=COLS.out _ hs;have CO:=Hd (fun(W:World)=>J2 m last cost srcs[k] hS.1 (by omega) W);have bo:=Hd (hoff.out _ hs);obtain⟨ab,ao,xs,rfl,zab,cA,eA,-⟩:=(OwI.read (aW.out.ext xr.out)).at (k:=k) (by rw[Zh];exact hlt');have exs:xs=((srcs[k]:Nat):Int):=by
       have h:=eA.out;rw[Z7 er] at h;exact(Option.some.inj h).symm
      subst exs;have hcol2:=hcol.out;rw[edr,List.filter_cons] at hcol2;generalize srcs[k]=src at *;obtain⟨mc,hmc⟩:∃ mc,Hid (UR m last src=mc):=⟨_,rfl⟩;rw[hmc.out] at hcols CO;obtain⟨emc,hmc1,-⟩:=hcols;have HA:=Hd (fun(W:World)=>ZcJ mc ((x.1:Nat):Int) hmc1 W);have eH:(decide (0<=((x.1:Nat):Int)/\((x.1:Nat):Int)<64)&&mc.testBit ((x.1:Nat):Int).toNat)=decide (x.1∈ZY (Zb m) last src):=by
       rw[<-emc];have h1:x.1<64:=by omega
       have h2:decide (0<=((x.1:Nat):Int)/\((x.1:Nat):Int)<64)=true:=decide_eq_true ⟨by omega,by omega⟩;rw[h2,Bool.true_and,Int.toNat_natCast];simp[Yl,h1]
      rw[eH] at HA;have wb':=wW.out.ext xr.out;have c0:=wb'.c0;have c1:=wb'.c1;have c2:=wb'.c2;have c3:=wb'.c3;have q1:(k:Int)<(srcs.length:Int):=by omega
      replace hcol2:=Hd hcol2;unfold ZS at CO HA;clear hcol eA er wb' emc eH edr
      gi_wp2
      refine⟨trivial,?_⟩;refine(XO (fun _=>trivial) rfl rfl (CO.out _)).mono ?_;rintro e w8 ⟨rfl,x8⟩
      gi_wp2
      refine⟨trivial,?_⟩;refine(XO (fun _=>trivial) rfl rfl (HA.out _)).mono ?_;rintro e w9 ⟨rfl,x9⟩;have xr9:=Hd ((xr.out.tr x8).tr x9);clear x8 x9 c0 c1 c2 c3 cA
      by_cases hin:x.1∈ZY (Zb m) last src
      ·have eh:decide (x.1∈ZY (Zb m) last src)=true:=decide_eq_true hin
       have erow:rows[src]?=some rows[src]:=List.getElem?_eq_getElem hs;obtain⟨D,d,hu,oD⟩:=hR.out.2 _ _ erow;have lrow:=ok.row _ (List.getElem_mem hs);have nrow:=ok.num _ (List.getElem_mem hs);have ecost:Za rows src x.1=(rows[src]).getD x.1 0:=by unfold Za;rw[getD_some erow]
       generalize rows[src]=row at *;have xW9:Hid (Ext w w9):=Below.trans HB'.out (xr9.out.mono (by omega));obtain⟨rb',ro,vv,rfl,zv,cv,ev⟩:=(hV.out.read.ext xW9.out).at (j:=src) (by rw[lus.out];exact hs);obtain rfl:.slice D row.length d=vv:=by
        have h:=ev.out;rw[hu] at h;exact Option.some.inj h
       obtain⟨cb,co,y,rfl,zy,cy,ey,_⟩:=(oD.read.ext xW9.out).at (k:=x.1) (by omega);rw[getD_some ey.out] at ecost;have ny:=nrow y (List.mem_of_getElem? ey.out);have cG:w9.cell? ⟨g,0,none⟩=some (.slice (some ⟨rb',ro,none⟩) rows.length cc):=(hB.out.ext xW9.out).cell 0;have cK:w9.cell? ⟨w.heap.size,0,none⟩=some (.pointer (some ⟨g,0,none⟩)):=(kW.out.ext xr9.out).cell 0;have cF:w9.cell? ⟨sf,0,none⟩=some (.slice (some ⟨w.heap.size+1+1+1,0,none⟩) rows.length rows.length):=(fW.out.ext xr9.out).cell 0;obtain⟨ov,cOb,-,-,eOb,-⟩:=OwI.cell (oW.out.ext xr9.out) (k:=src) (by rw[Vk];exact hs);obtain rfl:Yt rows (Zb m) last src=ov:=by
        have h:=eOb.out;rw[Za8 hs,if_pos hmem] at h;exact Option.some.inj h
       have hcol3:Hid (Zm (fun s=>Za rows s x.1-Yt rows (Zb m) last s) (if bb<0 then y-Yt rows (Zb m) last src else if y-Yt rows (Zb m) last src<bb then y-Yt rows (Zb m) last src else bb) ((srcs.drop (k+1)).filter fun s=>decide (x.1∈ZY (Zb m) last s))=cf):=by
        have h:=hcol2.out;rw[eh,if_pos rfl] at h;rw[<-ecost];exact h
       have bo2:=bo.out;obtain⟨ov,hov⟩:∃ ov,Hid (ov=Yt rows (Zb m) last src):=⟨_,rfl⟩;rw[<-hov.out] at hcol3 cOb bo2;have hw:IntKind.i64.wrap (y-ov)=y-ov:=IntWalk.i64_in _ (by omega);have q2:(src:Int)<(rows.length:Int):=by omega
       have q3:((x.1:Nat):Int)<(row.length:Int):=by omega
       rw[eh];clear hcol2 hin eh erow hu oD lrow nrow ecost ev ey ny eOb bo2 bo hov
       by_cases hneg:bb<0
       ·rw[if_pos hneg] at hcol3
        gi_wp2
        refine Zi (by kernel_rfl) (by kernel_rfl) (by kernel_rfl) ?_
        repeat (gi_big_quiet_step (fail))
        refine wpQuietIn_nil ?_;rintro _ ⟨nq,rfl⟩
        gi_wp2
        exact⟨⟨k+1,y-ov,by go_num,rfl,by omega,hcol3,xr9.out.drewN nq⟩,by simp only[intOf];omega⟩
       ·rw[if_neg hneg] at hcol3
        by_cases hy:y-ov<bb
        ·rw[if_pos hy] at hcol3
         gi_wp2
         refine Zi (by kernel_rfl) (by kernel_rfl) (by kernel_rfl) ?_
         repeat (gi_big_quiet_step (fail))
         refine wpQuietIn_nil ?_;rintro _ ⟨nq,rfl⟩
         gi_wp2
         exact⟨⟨k+1,y-ov,by go_num,rfl,by omega,hcol3,xr9.out.drewN nq⟩,by simp only[intOf];omega⟩
        ·rw[if_neg hy] at hcol3
         gi_wp2
         refine Zi (by kernel_rfl) (by kernel_rfl) (by kernel_rfl) ?_
         repeat (gi_big_quiet_step (fail))
         refine wpQuietIn_nil ?_;rintro _ ⟨nq,rfl⟩
         gi_wp2
         exact⟨⟨k+1,bb,by go_num,rfl,by omega,hcol3,xr9.out.drewN nq⟩,by simp only[intOf];omega⟩
      ·have eh:decide (x.1∈ZY (Zb m) last src)=false:=decide_eq_false hin
       have hcol3:Hid (Zm (fun s=>Za rows s x.1-Yt rows (Zb m) last s) bb ((srcs.drop (k+1)).filter fun s=>decide (x.1∈ZY (Zb m) last s))=cf):=by
        have h:=hcol2.out;rw[eh] at h;exact h
       rw[eh]
       gi_wp2
       exact⟨⟨k+1,bb,by go_num,rfl,by omega,hcol3,xr9.out⟩,by simp only[intOf];omega⟩
     ·obtain rfl:k=srcs.length:=by omega
      have e1:srcs.drop srcs.length=[]:=List.drop_length;have hcol2:=hcol.out;rw[e1] at hcol2;obtain rfl:bb=cf:=hcol2;have emax:(if bb<0 then 0 else bb)=max bb 0:=by split<;>omega
      have bdm:0<=max bb 0/\max bb 0<=4294967294:=by have:=bdC.out;omega
      obtain⟨ov,hov⟩:∃ ov,Hid (ov=max bb 0):=⟨_,rfl⟩;rw[<-hov.out] at emax bdm eN;have hw2:IntKind.i64.wrap (su+ov)=su+ov:=IntWalk.i64_in _ (by have:=bdS.out;omega);have q0':¬((srcs.length:Int)<(srcs.length:Int)):=by omega
      have F1:Hid (KeepsFrom (w6.heap.size+1) W (wi.setCell ⟨w.heap.size+1+1,0,none⟩ (.int .i64 (su+ov)))):=(KeepsFrom.of_ext xr.out).trans ((KeepsOthers.setCell _ _ _).from _);have F2:Hid (SetKp w.heap.size w6.heap.size W (wi.setCell ⟨w.heap.size+1+1,0,none⟩ (.int .i64 (su+ov)))):=⟨(xr.out.mono (by omega)).setCell (by simp<;>omega) _,(Below.heap_setCell wi ⟨w.heap.size+1+1,0,none⟩ _ w6.heap.size (by simp;omega)).trans (xr.out.block w6.heap.size (by omega))⟩;have F3:Hid (Blk (wi.setCell ⟨w.heap.size+1+1,0,none⟩ (.int .i64 (su+ov))) (w.heap.size+1+1) 3 #[.int .i64 (su+ov)]):=(HO'.out.ext xr.out).set 0 _;have F4:=Hd ((HH'.out.ext xr.out).set (.int .i64 (su+ov)));have F5:Hid (Ext w (wi.setCell ⟨w.heap.size+1+1,0,none⟩ (.int .i64 (su+ov)))):=(Below.trans HB'.out (xr.out.mono (by omega))).setCell (by simp<;>omega) _;have cO2:wi.cell? ⟨w.heap.size+1+1,0,none⟩=some (.int .i64 su):=(HO'.out.ext xr.out).cell 0;have fO2:=(HO'.out.ext xr.out).free 0;clear hcol e1 hcf START2
      gi_wp2
      exact⟨F1.out,F2.out,by rw[eN.out];exact F3.out,F4.out,F5.out⟩
   case done2 =>
    rintro D ys W hD rfl ⟨hO,hH,hBW⟩ hK;rw[Xx,emh.out] at hO;have cO:=hO.cell 0;rw[World.size_alloc] at hD;have bOb:∃ cs,Blk wo (w.heap.size+1+1+1) 3 cs:=by
     rcases OwI.cases oO.out with⟨h,_⟩ | ⟨z,cur,h,_,h2,_⟩
     ·cases h
     ·injection h with h
      injection h with h
      subst h;exact⟨cur,h2⟩
    have MA:Marks w.heap.size ({ target:=.collected D,args:=#[] }::ds) W:=(hM.out.more (by omega)).cons (D:=D) (by omega) (by omega) (fun b hb=>by
     have hb1:b<wo.heap.size:=(Array.getElem?_eq_some_iff.1 hb).1;refine(hH.2 b (by simp;omega) (fun e=>?_)).trans (xo6.out.block b hb1);subst e;have h:=bU.out;unfold Blk at h;rw[h] at hb
     cases hb) hK
    have eR:Hid (ZI rows (Zb m) last=so+Zg ((0::Zb m).map fun dst=>max (WJ rows (Zb m) last dst) 0)):=Hd (by rw[hso.out,hsr.out];rfl);obtain⟨rv,hrv⟩:∃ rv,Hid (rv=so+Zg ((0::Zb m).map fun dst=>max (WJ rows (Zb m) last dst) 0)):=⟨_,rfl⟩;rw[<-hrv.out] at cO eR;simp only[List.getElem?_toArray,List.getElem?_cons_zero] at cO;replace MA:=Hd MA
    gi_wp2
    refine Marks.leaves MA.out hBW fun W' x'=>⟨_,results_tmp rfl _ _ _,?_,x'⟩
    rw[eR.out]
    rfl
   case stop2 =>
    rintro D c pre W _ _ h _;exact h.elim
theorem Zd1 {base g:Nat}{rows:List (List Int)}{mi:Bool}(m last:Nat)(cost:Int)(ok:RowsOk rows)(hS:SubN rows.length m)(h0:0∉Zb m)(hla:last<rows.length)(w:World)(hT:Tab w)(H:KernT w base g rows mi) :
  Calls Tryz.prog 211 #[.pointer (some ⟨g,0,none⟩),Q7 m last cost] w fun e W'=>e=.returned (.int .i64 (ZI rows (Zb m) last))/\Ext w W' :=
 callsIn_wide.1 (Ze9 m last cost ok hS h0 hla w hT H)
end
section
attribute [local go_sem] Oper.semAt_some
def HeldS (w0:World)(S:Nat->Prop)(w:World) : Prop:=w0.heap.size<=w.heap.size/\∀ b,b<w0.heap.size->¬S b->w.heap[b]?=w0.heap[b]?
theorem HeldS.blk {w0 w:World}{S:Nat->Prop}{g:Nat}{t:TypeId}{cs:Array Value}(h:HeldS w0 S w)(hb:Blk w0 g t cs)(hne:¬S g) : Blk w g t cs:=(h.2 g hb.lt hne).trans hb
theorem HeldS.set {w0 w:World}{S:Nat->Prop}(h:HeldS w0 S w){sb:Nat}(hs:S sb)(i:Nat)(u:Value) : HeldS w0 S (w.setCell ⟨sb,i,none⟩ u):=⟨by simp;exact h.1,fun b h1 h2=>(Below.heap_setCell w ⟨sb,i,none⟩ u b (fun e=>h2 (by rw[e];exact hs))).trans (h.2 b h1 h2)⟩
theorem HeldS.ext {w0 w w':World}{S:Nat->Prop}(h:HeldS w0 S w)(x:Ext w w') : HeldS w0 S w':=⟨Nat.le_trans h.1 x.size,fun b h1 h2=>(x.block b (Nat.lt_of_lt_of_le h1 h.1)).trans (h.2 b h1 h2)⟩
theorem ZbB {β:Type}{w0:World}{B:Nat}{S:Nat->Prop}(hB:w0.heap.size<=B) : OwnFrom B (fun(_:β) W=>HeldS w0 S W):=fun _ W W' row hs hg hr =>
 ⟨Nat.le_trans hs.1 hg.size,fun b h1 h2=>(hg.block b (Nat.lt_of_lt_of_le h1 hs.1) (fun e=>by have:=(hr b e.symm).1;omega)).trans (hs.2 b h1 h2)⟩
def EndG (w W0 W:World)(a b c:Int)(V:World) : Prop:=KeepsFrom W0.heap.size W V/\SetKp w.heap.size (w.heap.size+1+1+1+1+1) W V/\(Blk V (w.heap.size+1+1) 3 #[.int .i64 a]/\Blk V (w.heap.size+1+1+1) 3 #[.int .i64 b]/\Blk V (w.heap.size+1+1+1+1) 3 #[.int .i64 c])/\HeldS W0 (fun b=>b=w.heap.size+1+1\/b=w.heap.size+1+1+1\/b=w.heap.size+1+1+1+1) V/\Below w.heap.size w V
theorem EndG.ext {w W0 W V V':World}{a b c:Int}(h:EndG w W0 W a b c V)(hz:w.heap.size+1+1+1+1+1<V.heap.size)(x:Ext V V') : EndG w W0 W a b c V':=by
 obtain⟨h1,h2,⟨h3,h4,h5⟩,h6,h7⟩:=h;exact⟨h1.trans (KeepsFrom.of_ext x),h2.tr ⟨x.mono (by omega),x.block _ hz⟩,⟨h3.ext x,h4.ext x,h5.ext x⟩,h6.ext x,h7.trans (x.mono (by omega))⟩
theorem EndG.set2 {w W0 W V:World}{a b c:Int}(h:EndG w W0 W a b c V)(u:Int) : EndG w W0 W u b c (V.setCell ⟨w.heap.size+1+1,0,none⟩ (.int .i64 u)):=by
 obtain⟨h1,h2,⟨h3,h4,h5⟩,h6,h7⟩:=h;exact⟨h1.trans ((KeepsOthers.setCell _ _ _).from _),h2.tr ⟨(Below.refl _ _).setCell (by simp<;>omega) _,Below.heap_setCell V ⟨w.heap.size+1+1,0,none⟩ _ _ (by simp<;>omega)⟩,⟨h3.set 0 _,h4.far (by simp<;>omega) _,h5.far (by simp<;>omega) _⟩,h6.set (.inl rfl) 0 _,h7.setCell (by simp<;>omega) _⟩
theorem EndG.set3 {w W0 W V:World}{a b c:Int}(h:EndG w W0 W a b c V)(u:Int) : EndG w W0 W a u c (V.setCell ⟨w.heap.size+1+1+1,0,none⟩ (.int .i64 u)):=by
 obtain⟨h1,h2,⟨h3,h4,h5⟩,h6,h7⟩:=h;exact⟨h1.trans ((KeepsOthers.setCell _ _ _).from _),h2.tr ⟨(Below.refl _ _).setCell (by simp<;>omega) _,Below.heap_setCell V ⟨w.heap.size+1+1+1,0,none⟩ _ _ (by simp<;>omega)⟩,⟨h3.far (by simp<;>omega) _,h4.set 0 _,h5.far (by simp<;>omega) _⟩,h6.set (.inr (.inl rfl)) 0 _,h7.setCell (by simp<;>omega) _⟩
theorem EndG.set4 {w W0 W V:World}{a b c:Int}(h:EndG w W0 W a b c V)(u:Int) : EndG w W0 W a b u (V.setCell ⟨w.heap.size+1+1+1+1,0,none⟩ (.int .i64 u)):=by
 obtain⟨h1,h2,⟨h3,h4,h5⟩,h6,h7⟩:=h;exact⟨h1.trans ((KeepsOthers.setCell _ _ _).from _),h2.tr ⟨(Below.refl _ _).setCell (by simp<;>omega) _,Below.heap_setCell V ⟨w.heap.size+1+1+1+1,0,none⟩ _ _ (by simp<;>omega)⟩,⟨h3.far (by simp<;>omega) _,h4.far (by simp<;>omega) _,h5.set 0 _⟩,h6.set (.inr (.inr rfl)) 0 _,h7.setCell (by simp<;>omega) _⟩
theorem Zjm {B n:Int}{p:Int×Int}(h1:0<=p.1/\p.1<=B)(h2:0<=p.2/\p.2<=B)(hn:0<=n/\n<=B) : (0<=(Xe p n).1/\(Xe p n).1<=B)/\0<=(Xe p n).2/\(Xe p n).2<=B:=by
 unfold Xe;split
 ·exact⟨hn,h1⟩
 ·split
  ·exact⟨h1,hn⟩
  ·exact⟨h1,h2⟩
theorem VX {B:Int}{f:Nat->Int} : ∀ (l:List Nat) (p:Int×Int),(0<=p.1/\p.1<=B)->(0<=p.2/\p.2<=B)->(∀ v∈l,0<=f v/\f v<=B)->(0<=(l.foldl (fun p v=>Xe p (f v)) p).1/\(l.foldl (fun p v=>Xe p (f v)) p).1<=B)/\0<=(l.foldl (fun p v=>Xe p (f v)) p).2/\(l.foldl (fun p v=>Xe p (f v)) p).2<=B
 | [],_,h1,h2,_=>⟨h1,h2⟩
 | v::l,p,h1,h2,h=>by
  have h3:=Zjm h1 h2 (h v (by simp));exact VX l _ h3.1 h3.2 fun x hx=>h x (by simp[hx])
theorem Zh6 {base g:Nat}{rows:List (List Int)}{mi:Bool}(m last:Nat)(cost:Int)(ok:RowsOk rows)(hS:SubN rows.length m)(hla:last<rows.length)(w:World)(hT:Tab w)(H:KernT w base g rows mi) :
  CallsIn Fence.wide 6 Tryz.prog 212 #[.pointer (some ⟨g,0,none⟩),Q7 m last cost] w fun e W'=>e=.returned (.int .i64 (XL rows (Zb m) last))/\Ext w W':=by
 obtain⟨C,cc,us,hB,_,hV,hR⟩:=H;have l1:=ok.n1;have l2:=ok.n2;have lus:Hid (us.length=rows.length):=hR.1;have zg:=hB.lt;have hg:=QN hT;have h63:∀ x∈Zb m,x<63:=fun x hx=>by have:=hS.2 x hx;omega
 have hmr:Hid (∀ x∈Zb m,x<rows.length):=hS.2;have hm1:=hS.1;have hcost:Hid (∀ a b,a<rows.length->b<rows.length->0<=Za rows a b/\Za rows a b<=2147483647):=fun a b ha hb=>by
  have e1:rows[a]?=some rows[a]:=List.getElem?_eq_getElem ha;have e2:=ok.row _ (List.getElem_mem ha);have e3:(rows[a])[b]?=some (rows[a])[b]:=List.getElem?_eq_getElem (by omega);unfold Za;rw[getD_some e1,getD_some e3];exact ok.num _ (List.getElem_mem ha) _ (List.getElem_mem _)
 replace hB:=Hd hB;replace hV:=Hd hV;replace hR:=Hd hR;obtain⟨ab,ao,vl,rfl,zvl,cvl,evl⟩:=(hV.out.read).at (j:=last) (by rw[lus.out];exact hla);refine callsIn_of_wp_marks Tryz.func212 rfl trivial ?_ rfl;simp only[Tryz.ntmps212,List.size_toArray,List.length_cons,List.length_nil,Nat.reduceAdd,Nat.reduceSub,Array.replicate_succ,Array.replicate_zero,List.push_toArray,List.append_toArray,List.nil_append,List.cons_append]
 gi_wp2
 refine⟨trivial,?_⟩;refine(callsIn_wide.2 (Ue m _)).mono ?_;rintro e w' ⟨rfl,rfl⟩
 gi_wp2
 have bK0:Hid (Blk ((((((w.alloc (.cells #[.pointer (some ⟨g,0,none⟩)] 71)).alloc (.cells #[.int .u64 m,.int .u64 0,.int .i64 last,.int .i64 cost] 238)).alloc (.cells #[.int .i64 0] 3)).alloc (.cells #[.int .i64 (-1)] 3)).alloc (.cells #[.int .i64 (-1)] 3)).alloc (.cells #[.int .u64 m,.int .u64 0] 161)) (w.heap.size) 71 #[.pointer (some ⟨g,0,none⟩)]):=.alloc (.alloc (.alloc (.alloc (.alloc (.new (by simp)) _) _) _) _) _;have bW0:Hid (Blk ((((((w.alloc (.cells #[.pointer (some ⟨g,0,none⟩)] 71)).alloc (.cells #[.int .u64 m,.int .u64 0,.int .i64 last,.int .i64 cost] 238)).alloc (.cells #[.int .i64 0] 3)).alloc (.cells #[.int .i64 (-1)] 3)).alloc (.cells #[.int .i64 (-1)] 3)).alloc (.cells #[.int .u64 m,.int .u64 0] 161)) (w.heap.size+1) 238 #[.int .u64 m,.int .u64 0,.int .i64 last,.int .i64 cost]):=.alloc (.alloc (.alloc (.alloc (.new (by simp)) _) _) _) _;have bS0:Blk ((((((w.alloc (.cells #[.pointer (some ⟨g,0,none⟩)] 71)).alloc (.cells #[.int .u64 m,.int .u64 0,.int .i64 last,.int .i64 cost] 238)).alloc (.cells #[.int .i64 0] 3)).alloc (.cells #[.int .i64 (-1)] 3)).alloc (.cells #[.int .i64 (-1)] 3)).alloc (.cells #[.int .u64 m,.int .u64 0] 161)) (w.heap.size+1+1) 3 #[.int .i64 0]:=.alloc (.alloc (.alloc (.new (by simp)) _) _) _;have bF0:Blk ((((((w.alloc (.cells #[.pointer (some ⟨g,0,none⟩)] 71)).alloc (.cells #[.int .u64 m,.int .u64 0,.int .i64 last,.int .i64 cost] 238)).alloc (.cells #[.int .i64 0] 3)).alloc (.cells #[.int .i64 (-1)] 3)).alloc (.cells #[.int .i64 (-1)] 3)).alloc (.cells #[.int .u64 m,.int .u64 0] 161)) (w.heap.size+1+1+1) 3 #[.int .i64 (-1)]:=.alloc (.alloc (.new (by simp)) _) _;have bT0:Blk ((((((w.alloc (.cells #[.pointer (some ⟨g,0,none⟩)] 71)).alloc (.cells #[.int .u64 m,.int .u64 0,.int .i64 last,.int .i64 cost] 238)).alloc (.cells #[.int .i64 0] 3)).alloc (.cells #[.int .i64 (-1)] 3)).alloc (.cells #[.int .i64 (-1)] 3)).alloc (.cells #[.int .u64 m,.int .u64 0] 161)) (w.heap.size+1+1+1+1) 3 #[.int .i64 (-1)]:=.alloc (.new (by simp)) _;have bB0:Blk ((((((w.alloc (.cells #[.pointer (some ⟨g,0,none⟩)] 71)).alloc (.cells #[.int .u64 m,.int .u64 0,.int .i64 last,.int .i64 cost] 238)).alloc (.cells #[.int .i64 0] 3)).alloc (.cells #[.int .i64 (-1)] 3)).alloc (.cells #[.int .i64 (-1)] 3)).alloc (.cells #[.int .u64 m,.int .u64 0] 161)) (w.heap.size+1+1+1+1+1) 161 #[.int .u64 m,.int .u64 0]:=.new (by simp);have hB0:Ext w ((((((w.alloc (.cells #[.pointer (some ⟨g,0,none⟩)] 71)).alloc (.cells #[.int .u64 m,.int .u64 0,.int .i64 last,.int .i64 cost] 238)).alloc (.cells #[.int .i64 0] 3)).alloc (.cells #[.int .i64 (-1)] 3)).alloc (.cells #[.int .i64 (-1)] 3)).alloc (.cells #[.int .u64 m,.int .u64 0] 161)):=((((((Ext.rf w).alloc _).alloc _).alloc _).alloc _).alloc _).alloc _;have hsz:((((((w.alloc (.cells #[.pointer (some ⟨g,0,none⟩)] 71)).alloc (.cells #[.int .u64 m,.int .u64 0,.int .i64 last,.int .i64 cost] 238)).alloc (.cells #[.int .i64 0] 3)).alloc (.cells #[.int .i64 (-1)] 3)).alloc (.cells #[.int .i64 (-1)] 3)).alloc (.cells #[.int .u64 m,.int .u64 0] 161)).heap.size=w.heap.size+1+1+1+1+1+1:=by simp
 obtain⟨W0,hW0⟩:∃ W0,((((((w.alloc (.cells #[.pointer (some ⟨g,0,none⟩)] 71)).alloc (.cells #[.int .u64 m,.int .u64 0,.int .i64 last,.int .i64 cost] 238)).alloc (.cells #[.int .i64 0] 3)).alloc (.cells #[.int .i64 (-1)] 3)).alloc (.cells #[.int .i64 (-1)] 3)).alloc (.cells #[.int .u64 m,.int .u64 0] 161))=W0:=⟨_,rfl⟩;rw[hW0] at bK0 bW0 bS0 bF0 bT0 bB0 hB0 hsz ⊢;clear hW0;refine wpIn_rangeFunc_ownH rfl (by omega) (gf:=198) (lb:=#[.pointer (some ⟨w.heap.size+1+1+1+1+1,0,none⟩)]) rfl trivial (enters_of Tryz.func198 (by kernel_rfl) rfl)
  (Wf 5 m hm1 h63 (w.heap.size+1+1+1+1+1) w.heap.size _ bB0 (hT.ext hB0) hB0.size hg) SetKp.tr (Uf (cs:=#[.int .u64 m,.int .u64 0]) hB0.size bB0) (Below.refl _ _) (fun _=>rfl)
  (fun pre W=>(Blk W (w.heap.size+1+1) 3 #[.int .i64 (Zg ((inL pre).map fun u=>(ZE rows (Zb m) last u).1+(ZE rows (Zb m) last u).2))]/\Blk W (w.heap.size+1+1+1) 3 #[.int .i64 (Zm (fun u=>Za rows last u) (-1) (inL pre))]/\Blk W (w.heap.size+1+1+1+1) 3 #[.int .i64 (Zm (fun u=>Za rows u 0) (-1) (inL pre))])/\HeldS W0 (fun b=>b=w.heap.size+1+1\/b=w.heap.size+1+1+1\/b=w.heap.size+1+1+1+1) W/\Below w.heap.size w W)
  (fun _ _ _=>False)
  (OwnFrom.and (OwnFrom.and (Yk (by omega) _ _) (OwnFrom.and (Yk (by omega) _ _) (Yk (by omega) _ _))) (OwnFrom.and (ZbB (Nat.le_refl _)) (ownFrom_below (Nat.le_refl _) (by omega))))
  (fun _ _ _ _ _ hs _ _=>hs)
  ⟨⟨by simpa [inL,Zg] using bS0,by simpa [inL,Zm] using bF0,by simpa [inL,Zm] using bT0⟩,⟨Nat.le_refl _,fun _ _ _=>rfl⟩,hB0⟩
  (fun x a' W=>∃ Bx,W0.heap.size<=Bx/\Boxed W Bx 3 (.int .i64 ((x.1:Nat):Int))/\a'={ tmps:=#[.pointer (some ⟨g,0,none⟩),.agg #[.int .u64 m,.int .u64 0,.int .i64 last,.int .i64 cost],.pointer (some ⟨w.heap.size,0,none⟩),.pointer (some ⟨w.heap.size+1,0,none⟩),.int .i64 0,.pointer (some ⟨w.heap.size+1+1,0,none⟩),.pointer (some ⟨w.heap.size+1+1+1,0,none⟩),.pointer (some ⟨w.heap.size+1+1+1+1,0,none⟩),.pointer (some ⟨Bx,0,none⟩),undef,undef,undef,undef,undef,undef,.pointer (some ⟨w.heap.size+1,0,none⟩),.agg #[.int .u64 m,.int .u64 0],.func (.func 198) #[] #[.pointer (some ⟨w.heap.size+1+1+1+1+1,0,none⟩)],.int .i64 ((x.1:Nat):Int),undef,undef,undef,undef,undef,undef,undef,undef,undef,undef,undef,undef,undef,undef,undef,undef,undef,undef,undef,undef,undef,undef,undef,undef,undef,undef,undef,undef,undef,undef,undef,undef,undef,undef,undef,undef,undef,undef,undef,undef,undef,undef,undef,undef,undef,undef,undef,undef,undef,undef,undef,undef,undef,undef,undef,undef,undef,undef,undef,undef,undef,undef,undef,undef,undef,undef,undef,undef,undef,undef,undef,undef,undef,undef,undef,undef,undef,undef,undef,undef,undef,undef,undef,undef,undef,undef,undef,undef,undef,undef,undef,undef,undef],defers:=[] })
  (fun x a' _ X Y row hs hg hr=>by obtain⟨Bx,h1,h2,h3⟩:=hs;exact⟨Bx,h1,boxed_own Bx 3 (fun(_:Unit)=>Value.int .i64 ((x.1:Nat):Int)) () X Y row h2 hg (fun r e=>(hr r e).2),h3⟩)
  ?assign ?body ?done ?stop
 case assign =>
  rintro l pre x W K ⟨⟨h1,h2,h3⟩,h4,h5⟩ hK
  gi_wp2
  exact hK _ _ ((KeepsOthers.alloc _ _).from _) ⟨(Below.refl _ W).alloc h5.size _,(Below.heap_alloc W _ _ (by have:=h4.1;omega))⟩ ⟨⟨h1.alloc _,h2.alloc _,h3.alloc _⟩,h4.ext ((Ext.rf _).alloc _),h5.alloc h5.size _⟩ ⟨W.heap.size,h4.1,Boxed.new W 3 _,rfl⟩
 case body =>
  rintro l pre x a' W hl ⟨r,hr⟩ ⟨⟨hO,hF,hTo⟩,hH,hBW⟩ ⟨Bx,hBx,bX,rfl⟩ hlt;have hu:=hmr.out x.1 x.2;have hbX:Blk W Bx 3 #[.int .i64 ((x.1:Nat):Int)]:=bX;have zBx:=hbX.lt;obtain⟨u,hux⟩:∃ u,Hid (u=x.1):=⟨_,rfl⟩;have inx:=Va pre x;rw[<-hux.out] at hu hbX inx;rw[<-hux.out];have erow:rows[u]?=some rows[u]:=List.getElem?_eq_getElem hu;obtain⟨D,d,hud,oD⟩:=hR.out.2 _ _ erow;have lrow:=ok.row _ (List.getElem_mem hu);have ecost:∀ b,Za rows u b=(rows[u]).getD b 0:=fun b=>by unfold Za;rw[getD_some erow]
  generalize rows[u]=row at *;obtain⟨ab',ao',vv,hC,zv,cv,ev⟩:=(hV.out.read.ext hBW).at (j:=u) (by rw[lus.out];exact hu);obtain⟨rfl,rfl⟩:ab=ab'/\ao=ao':=by simpa using hC
  obtain rfl:.slice D row.length d=vv:=by
   have h:=ev.out;rw[hud] at h;exact Option.some.inj h
  obtain⟨cb,co,y1,rfl,zy1,cy1,ey1,_⟩:=(oD.read.ext hBW).at (k:=last) (by omega);obtain⟨cb',co',y2,hD2,zy2,cy2,ey2,_⟩:=(oD.read.ext hBW).at (k:=0) (by omega);obtain⟨rfl,rfl⟩:cb=cb'/\co=co':=by simpa using hD2
  have e1:Za rows u last=y1:=by rw[ecost,getD_some ey1.out]
  have e2:Za rows u 0=y2:=by rw[ecost,getD_some ey2.out]
  have b1:=hcost.out u last hu hla;have b2:=hcost.out u 0 hu (by omega);rw[e1] at b1;rw[e2] at b2;have cG:W.cell? ⟨g,0,none⟩=some (.slice (some ⟨ab,ao,none⟩) rows.length cc):=(hB.out.ext hBW).cell 0;have kW:=Hd (hH.blk bK0.out (by omega));have wW:=Hd (hH.blk bW0.out (by omega));have cK:=kW.out.c0;have cW:=wW.out.c2;have cX:=hbX.c0;have q1:(u:Int)<(rows.length:Int):=by omega
  have q2:(last:Int)<(row.length:Int):=by omega
  have q3:(0:Int)<(row.length:Int):=by omega
  have hmx:Tryz.prog.follows .mixedOrders=true:=by kernel_rfl
  replace cy2:W.cell? ⟨cb,co,none⟩=some (.int .i64 y2):=cy2;obtain⟨mn,hmn⟩:∃ mn,Hid (min y1 y2=mn):=⟨_,rfl⟩;obtain⟨mx,hmx'⟩:∃ mx,Hid (max y1 y2=mx):=⟨_,rfl⟩;have emin:(if y2<y1 then y2 else y1)=mn:=by rw[<-hmn.out];split<;>omega
  have emax:(if y1<y2 then y2 else y1)=mx:=by rw[<-hmx'.out];split<;>omega
  have WO:=Hd (fun(W:World)=>WF m u hm1 (by omega) W);have emu:=Wc (i:=u) hm1;have hmu1:=Zag m u;obtain⟨mu,hmu⟩:∃ mu,Hid (YG m u=mu):=⟨_,rfl⟩;rw[hmu.out] at WO emu hmu1;replace emu:=Hd emu;unfold ZS at WO;replace hO:=Hd hO;replace hF:=Hd hF;replace hTo:=Hd hTo;replace hH:=Hd hH;replace hBW:=Hd hBW;replace hbX:=Hd hbX;replace bX:=Hd bX;replace oD:=Hd oD;replace e1:=Hd e1;replace e2:=Hd e2;replace ecost:=Hd ecost;replace hr:=Hd hr;clear ev ey1 ey2 erow hD2
  gi_wp2
  refine Zi (by kernel_rfl) (by kernel_rfl) (by kernel_rfl) ?_
  repeat (gi_big_quiet_step (fail))
  refine wpQuietIn_nil ?_;rintro _ ⟨nq,rfl⟩;have X1:Hid (Ext W (W.drewN nq)):=(Ext.rf W).drewN nq;obtain⟨W1,hW1⟩:∃ W1,W.drewN nq=W1:=⟨_,rfl⟩;rw[hW1] at X1 ⊢;clear hW1;have wW1:=wW.out.ext X1.out;have d0:(W1.alloc (.cells #[.int .i64 mn,.int .i64 mx] 243)).cell? ⟨w.heap.size+1,0,none⟩=some (.int .u64 m):=(wW1.alloc _).cell 0;have d1:(W1.alloc (.cells #[.int .i64 mn,.int .i64 mx] 243)).cell? ⟨w.heap.size+1,1,none⟩=some (.int .u64 0):=(wW1.alloc _).cell 1;have dX:(W1.alloc (.cells #[.int .i64 mn,.int .i64 mx] 243)).cell? ⟨Bx,0,none⟩=some (.int .i64 (u:Int)):=((hbX.out.ext X1.out).alloc _).cell 0;clear wW1 cG cK cW cX cy1 cy2
  gi_wp2
  refine⟨trivial,?_⟩;refine(XO (fun _=>trivial) rfl rfl (WO.out _)).mono ?_;rintro e w3 ⟨rfl,x3⟩
  gi_wp2
  refine⟨trivial,?_⟩;refine(XO (fun _=>trivial) rfl rfl (Ue mu _)).mono ?_;rintro e w4 ⟨rfl,rfl⟩
  gi_wp2
  have zW1:W.heap.size<=W1.heap.size:=X1.out.size;have zw3:W1.heap.size+1<=w3.heap.size:=by have:=x3.size;simpa using this
  have xW3:Hid (Ext W (w3.alloc (.cells #[.int .u64 mu,.int .u64 0] 161))):=((X1.out.alloc _).tr x3).alloc _;have bB3:Blk (w3.alloc (.cells #[.int .u64 mu,.int .u64 0] 161)) w3.heap.size 161 #[.int .u64 mu,.int .u64 0]:=.new rfl;have bP3:Blk (w3.alloc (.cells #[.int .u64 mu,.int .u64 0] 161)) W1.heap.size 243 #[.int .i64 mn,.int .i64 mx]:=((Blk.new rfl).ext x3).alloc _;have bX3:Hid (Blk (w3.alloc (.cells #[.int .u64 mu,.int .u64 0] 161)) Bx 3 #[.int .i64 (u:Int)]):=hbX.out.ext xW3.out;have kW3:=Hd (kW.out.ext xW3.out);have hr3:(w3.alloc (.cells #[.int .u64 mu,.int .u64 0] 161)).heap[l]?=some (.loop r):=(xW3.out.block l (Array.getElem?_eq_some_iff.1 hr.out).1).trans hr.out;have hTW:=hT.ext (hBW.out.trans (xW3.out.mono hBW.out.size));have zWw:=hBW.out.size;have hsizes:W0.heap.size<=W.heap.size:=hH.out.1;have h63u:∀ x∈Zb mu,x<63:=fun x hx=>by
   rw[emu.out] at hx;exact h63 x (List.mem_filter.1 hx).1
  have muR:Hid (∀ x∈Zb mu,x<rows.length):=fun x hx=>by
   rw[emu.out] at hx;exact hmr.out x (List.mem_filter.1 hx).1
  refine wpIn_rangeFunc_ownN (l₀:=l) (r₀:=r) rfl hr3 (by omega) (gf:=198) (lb:=#[.pointer (some ⟨w3.heap.size,0,none⟩)]) rfl trivial (enters_of Tryz.func198 (by kernel_rfl) rfl)
   ((Wf 3 mu hmu1 h63u w3.heap.size w.heap.size _ bB3 hTW (by simp;omega) hg).inRound l) SetKp.tr (Uf (cs:=#[.int .u64 mu,.int .u64 0]) (by simp;omega) bB3) (Below.refl _ _) (fun _=>rfl)
   (fun pre' W'=>Blk W' W1.heap.size 243 #[.int .i64 ((inL pre').foldl (fun p v=>Xe p (Za rows u v)) (mn,mx)).1,.int .i64 ((inL pre').foldl (fun p v=>Xe p (Za rows u v)) (mn,mx)).2]/\Held (w3.alloc (.cells #[.int .u64 mu,.int .u64 0] 161)) W1.heap.size W'/\Below w.heap.size W W')
   (fun _ _ _=>False)
   (OwnFrom.and (Yk (by simp<;>omega) _ _) (OwnFrom.and (WW (Nat.le_refl _)) (ownFrom_below zWw (by simp<;>omega))))
   (fun _ _ _ _ _ hs _ _=>hs)
   ⟨by simpa [inL] using bP3,⟨Nat.le_refl _,fun _ _ _=>rfl⟩,xW3.out.mono zWw⟩
   (fun y a'' _=>a''={ tmps:=#[.pointer (some ⟨g,0,none⟩),.agg #[.int .u64 m,.int .u64 0,.int .i64 last,.int .i64 cost],.pointer (some ⟨w.heap.size,0,none⟩),.pointer (some ⟨w.heap.size+1,0,none⟩),.int .i64 0,.pointer (some ⟨w.heap.size+1+1,0,none⟩),.pointer (some ⟨w.heap.size+1+1+1,0,none⟩),.pointer (some ⟨w.heap.size+1+1+1+1,0,none⟩),.pointer (some ⟨Bx,0,none⟩),.int .i64 y1,.int .i64 y2,.pointer (some ⟨W1.heap.size,0,none⟩),.int .i64 ((y.1:Nat):Int),undef,undef,.pointer (some ⟨w.heap.size+1,0,none⟩),.agg #[.int .u64 m,.int .u64 0],.func (.func 198) #[] #[.pointer (some ⟨w.heap.size+1+1+1+1+1,0,none⟩)],.int .i64 (u:Int),.pointer (some ⟨g,0,none⟩),.pointer (some ⟨g,0,none⟩),.pointer (some ⟨g,0,none⟩),.slice (some ⟨ab,ao,none⟩) rows.length cc,.int .i64 (u:Int),.pointer (some ⟨ab,ao+u,none⟩),.slice (some ⟨cb,co,none⟩) rows.length d,.pointer (some ⟨w.heap.size+1,2,none⟩),.int .i64 last,.pointer (some ⟨cb,co+last,none⟩),.int .i64 y1,.pointer (some ⟨g,0,none⟩),.pointer (some ⟨g,0,none⟩),.pointer (some ⟨g,0,none⟩),.slice (some ⟨ab,ao,none⟩) rows.length cc,.int .i64 (u:Int),.pointer (some ⟨ab,ao+u,none⟩),.slice (some ⟨cb,co,none⟩) rows.length d,.pointer (some ⟨cb,co,none⟩),.int .i64 y2,.int .i64 y1,.int .i64 y2,.int .i64 mn,.int .i64 y1,.int .i64 y2,.int .i64 mx,.agg #[.int .i64 mn,.int .i64 mx],.pointer (some ⟨w.heap.size+1,0,none⟩),.agg #[.int .u64 m,.int .u64 0],.int .i64 (u:Int),.agg #[.int .u64 mu,.int .u64 0],.func (.func 198) #[] #[.pointer (some ⟨w3.heap.size,0,none⟩)],.int .i64 ((y.1:Nat):Int),undef,undef,undef,undef,undef,undef,undef,undef,undef,undef,undef,undef,undef,undef,undef,undef,undef,undef,undef,undef,undef,undef,undef,undef,undef,undef,undef,undef,undef,undef,undef,undef,undef,undef,undef,undef,undef,undef,undef,undef,undef,undef,undef,undef,undef,undef,undef,undef,undef,undef,undef,undef,undef,undef,undef,undef,undef,undef,undef,undef],defers:=[] })
   (fun _ _ _ _ _ _ hs _ _=>hs)
   ?assign2 ?body2 ?done2 ?stop2
  case assign2 =>
   rintro l2 pre' y W' K hi hK
   gi_wp2
   exact hK _ _ (KeepsFrom.refl _ _) ⟨Below.refl _ _,rfl⟩ hi rfl
  case body2 =>
   rintro l2 pre' y a'' W' _ _ ⟨hP,hH2,hBW2⟩ rfl _;have hy:=muR.out y.1 y.2;obtain⟨p,hp⟩:∃ p:Int×Int,Hid (p=(inL pre').foldl (fun p v=>Xe p (Za rows u v)) (mn,mx)):=⟨_,rfl⟩;rw[<-hp.out] at hP;have xw':Hid (Below w.heap.size w W'):=hBW.out.trans hBW2;obtain⟨cb',co',z,hD3,zz,cz,ez,_⟩:=(oD.out.read.ext xw'.out).at (k:=y.1) (by omega);obtain⟨rfl,rfl⟩:cb=cb'/\co=co':=by simpa using hD3
   obtain⟨ab',ao',vv,hC3,zv3,cv3,ev3⟩:=(hV.out.read.ext xw'.out).at (j:=u) (by rw[lus.out];exact hu);obtain⟨rfl,rfl⟩:ab=ab'/\ao=ao':=by simpa using hC3
   obtain rfl:.slice (some ⟨cb,co,none⟩) row.length d=vv:=by
    have h:=ev3.out;rw[hud] at h;exact Option.some.inj h
   have eN:Hid ((inL (pre'++[y])).foldl (fun p v=>Xe p (Za rows u v)) (mn,mx)=Xe p z):=Hd (by
    rw[Va,List.foldl_append,<-hp.out,List.foldl_cons,List.foldl_nil,ecost.out,getD_some ez.out])
   have cG':W'.cell? ⟨g,0,none⟩=some (.slice (some ⟨ab,ao,none⟩) rows.length cc):=(hB.out.ext xw'.out).cell 0;have cK':W'.cell? ⟨w.heap.size,0,none⟩=some (.pointer (some ⟨g,0,none⟩)):=(hH2.blk kW3.out (by omega)).cell 0;have cX':W'.cell? ⟨Bx,0,none⟩=some (.int .i64 (u:Int)):=(hH2.blk bX3.out (by omega)).cell 0;have cP0:=hP.c0;have cP1:=hP.c1;have PU:=Hd (fun(V:World)=>Zjl p z V);have q4:((y.1:Nat):Int)<(row.length:Int):=by omega
   clear ez ev3 hD3 hC3 hp;obtain⟨p1,p2⟩:=p;obtain⟨r2,hr2⟩:∃ r2,Hid (Xe (p1,p2) z=r2):=⟨_,rfl⟩;rw[hr2.out] at PU eN;obtain⟨r1,r2⟩:=r2;simp only at cP0 cP1 hP;replace hP:=Hd hP
   gi_wp2
   refine Wk (by kernel_rfl) (by kernel_rfl) (fun _=>trivial) rfl rfl ?_
   change wpAny _ _ _ _ _ _ _ (World.drew _)
   refine Ul (n:=2) [(0,some 52),(1,some 53),(2,some 54),(3,some 55),(4,some 56),(5,some 57),(6,some 58),(7,some 59),(8,some 60),(9,some 61),(10,some 62)] (fun | 0=>.agg #[.int .i64 p1,.int .i64 p2] | 1=>.pointer (some ⟨g,0,none⟩) | 2=>.pointer (some ⟨g,0,none⟩) | 3=>.pointer (some ⟨g,0,none⟩) | 4=>.slice (some ⟨ab,ao,none⟩) rows.length cc | 5=>.int .i64 (u:Int) | 6=>.pointer (some ⟨ab,ao+u,none⟩) | 7=>.slice (some ⟨cb,co,none⟩) row.length d | 8=>.int .i64 ((y.1:Nat):Int) | 9=>.pointer (some ⟨cb,co+y.1,none⟩) | 10=>.int .i64 z | _=>undef) #[true,true,true,true,true,true,true,true,true,true,true,false,false] (by decide +kernel) ?_ ?_
   ·intro pS hpm uS hD K hK
    simp only[List.mem_cons,List.not_mem_nil,or_false] at hpm;rcases hpm with rfl | rfl | rfl | rfl | rfl | rfl | rfl | rfl | rfl | rfl | rfl
    ·exact Zv (T:=243) (x:=Operand.tmp 11) (t:=243) (d:=some 52) rfl (.pointer (some ⟨W1.heap.size,0,none⟩)) (by kernel_rfl) (.agg #[.int .i64 p1,.int .i64 p2]) (by go_simp) hK
    ·exact Zv (T:=71) (x:=Operand.tmp 2) (t:=71) (d:=some 53) rfl (.pointer (some ⟨w.heap.size,0,none⟩)) (by kernel_rfl) (.pointer (some ⟨g,0,none⟩)) (by go_simp) hK
    ·(have e1:uS 1=.pointer (some ⟨g,0,none⟩):=hD 1 (Zp (by kernel_rfl));exact Z5 (op:=Op.nilCheck (Operand.tmp 53)) (t:=0) (d:=some 54) rfl (.pointer (some ⟨g,0,none⟩)) (by simp only[Zn,Act.put,List.setIfInBounds_toArray,List.set_cons_zero,List.set_cons_succ];unfold Ze;go_simp;try simp only[e1];try go_simp) hK)
    ·(have e2:uS 2=.pointer (some ⟨g,0,none⟩):=hD 2 (Zp (by kernel_rfl));exact Z5 (op:=Op.fieldAddr 104 (Operand.tmp 54) 0) (t:=0) (d:=some 55) rfl (.pointer (some ⟨g,0,none⟩)) (by simp only[Zn,Act.put,List.setIfInBounds_toArray,List.set_cons_zero,List.set_cons_succ];unfold Ze;go_simp;try simp only[e2];try go_simp) hK)
    ·exact Zv (T:=23) (x:=Operand.tmp 55) (t:=23) (d:=some 56) rfl (.pointer (some ⟨g,0,none⟩)) (Eq.trans (b:=uS 3) (by kernel_rfl) (hD 3 (Zp (by kernel_rfl)))) (.slice (some ⟨ab,ao,none⟩) rows.length cc) (by go_simp) hK
    ·exact Zv (T:=3) (x:=Operand.tmp 8) (t:=3) (d:=some 57) rfl (.pointer (some ⟨Bx,0,none⟩)) (by kernel_rfl) (.int .i64 (u:Int)) (by go_simp) hK
    ·exact XY (T:=23) (x:=Operand.tmp 56) (y:=Operand.tmp 57) (t:=0) (d:=some 58) rfl (.slice (some ⟨ab,ao,none⟩) rows.length cc) (.int .i64 (u:Int)) (Eq.trans (b:=uS 4) (by kernel_rfl) (hD 4 (Zp (by kernel_rfl)))) (Eq.trans (b:=uS 5) (by kernel_rfl) (hD 5 (Zp (by kernel_rfl)))) (.pointer (some ⟨ab,ao+u,none⟩)) (by go_simp) hK
    ·exact Zv (T:=22) (x:=Operand.tmp 58) (t:=22) (d:=some 59) rfl (.pointer (some ⟨ab,ao+u,none⟩)) (Eq.trans (b:=uS 6) (by kernel_rfl) (hD 6 (Zp (by kernel_rfl)))) (.slice (some ⟨cb,co,none⟩) row.length d) (by go_simp) hK
    ·exact Z5 (op:=Op.move (Operand.tmp 12)) (t:=3) (d:=some 60) rfl (.int .i64 ((y.1:Nat):Int)) (by simp only[Zn];unfold Ze;go_simp) hK
    ·exact XY (T:=22) (x:=Operand.tmp 59) (y:=Operand.tmp 60) (t:=0) (d:=some 61) rfl (.slice (some ⟨cb,co,none⟩) row.length d) (.int .i64 ((y.1:Nat):Int)) (Eq.trans (b:=uS 7) (by kernel_rfl) (hD 7 (Zp (by kernel_rfl)))) (Eq.trans (b:=uS 8) (by kernel_rfl) (hD 8 (Zp (by kernel_rfl)))) (.pointer (some ⟨cb,co+y.1,none⟩)) (by go_simp) hK
    ·exact Zv (T:=3) (x:=Operand.tmp 61) (t:=3) (d:=some 62) rfl (.pointer (some ⟨cb,co+y.1,none⟩)) (Eq.trans (b:=uS 9) (by kernel_rfl) (hD 9 (Zp (by kernel_rfl)))) (.int .i64 z) (by go_simp) hK
   simp only[Zn,Act.put,List.setIfInBounds_toArray,List.set_cons_zero,List.set_cons_succ];refine Zl 11 (by decide +kernel) (YC (f:=215) (xs:=#[Operand.tmp 52,Operand.tmp 62]) (ts:=#[243,3]) (t:=243) (d:=some 63) rfl #[.agg #[.int .i64 p1,.int .i64 p2],.int .i64 z] (by go_simp) (by kernel_rfl) _ (PU.out _) ?_);rintro e w5 ⟨rfl,x5⟩;refine⟨_,rfl,?_⟩
   try simp only[lay]
   have hP5:Blk w5 W1.heap.size 243 #[.int .i64 p1,.int .i64 p2]:=(hP.out.drew).ext x5;have k0:=hP5.c0;have k1:=hP5.c1;have k2:=hP5.free 0;have k3:=hP5.free 1;refine Zl 12 (by decide +kernel) (Xq rfl (.pointer (some ⟨W1.heap.size,0,none⟩)) (.agg #[.int .i64 r1,.int .i64 r2]) (by kernel_rfl) (by kernel_rfl) (by go_simp;rfl) ?_)
   try simp only[lay]
   refine wpAny_done (by kernel_rfl) (Qt ?_) _;have XW5:Ext W' w5:=((Ext.rf W').drew).tr x5;have zW':w3.heap.size+1<=W'.heap.size:=by have:=hH2.1;simpa using this
   refine⟨(KeepsFrom.of_ext XW5).trans (((KeepsOthers.setCell _ _ _).trans (KeepsOthers.setCell _ _ _)).from _),⟨((XW5.mono (by omega)).setCell (by simp<;>omega) _).setCell (by simp<;>omega) _,?_⟩,?_,?_,?_⟩
   ·exact((Below.heap_setCell _ ⟨W1.heap.size,1,none⟩ _ w3.heap.size (by simp<;>omega)).trans (Below.heap_setCell w5 ⟨W1.heap.size,0,none⟩ _ w3.heap.size (by simp<;>omega))).trans (XW5.block w3.heap.size (by omega))
   ·rw[eN.out]
    exact(hP5.set 0 _).set 1 _
   ·refine⟨by have:=XW5.size;simp;omega,fun b h1 h2=>?_⟩
    rw[World.size_alloc] at h1;exact(((Below.heap_setCell _ ⟨W1.heap.size,1,none⟩ _ b h2).trans (Below.heap_setCell w5 ⟨W1.heap.size,0,none⟩ _ b h2)).trans (XW5.block b (by omega))).trans (hH2.2 b (by simp;omega) h2)
   ·exact((hBW2.trans (XW5.mono (by omega))).setCell (by simp<;>omega) _).setCell (by simp<;>omega) _
  case done2 =>
   rintro ys' W' rfl ⟨hP,hH2,hBW2⟩;rw[Xx,emu.out] at hP;have epair:ZE rows (Zb m) last u=((Zb m).filter fun j=>decide (u≠j)).foldl (fun p v=>Xe p (Za rows u v)) (mn,mx):=by
    unfold ZE;rw[e1.out,e2.out,hmn.out,hmx'.out]
   rw[<-epair] at hP;have bp:(0<=(ZE rows (Zb m) last u).1/\(ZE rows (Zb m) last u).1<=2147483647)/\0<=(ZE rows (Zb m) last u).2/\(ZE rows (Zb m) last u).2<=2147483647:=by
    rw[epair];refine VX _ _ ?_ ?_ fun v hv=>hcost.out u v hu (hmr.out v (List.mem_filter.1 hv).1)
    ·simp only[<-hmn.out];omega
    ·simp only[<-hmx'.out];omega
   obtain⟨pp,hpp⟩:∃ pp,Hid (ZE rows (Zb m) last u=pp):=⟨_,rfl⟩;rw[hpp.out] at hP bp;obtain⟨p1,p2⟩:=pp;simp only at hP bp;obtain⟨su,hsu⟩:∃ su,Hid (su=Zg ((inL pre).map fun u=>(ZE rows (Zb m) last u).1+(ZE rows (Zb m) last u).2)):=⟨_,rfl⟩;obtain⟨fr,hfr⟩:∃ fr,Hid (fr=Zm (fun u=>Za rows last u) (-1) (inL pre)):=⟨_,rfl⟩;obtain⟨tq,hto⟩:∃ tq,Hid (tq=Zm (fun u=>Za rows u 0) (-1) (inL pre)):=⟨_,rfl⟩;rw[<-hsu.out] at hO;rw[<-hfr.out] at hF;rw[<-hto.out] at hTo;have bsu:0<=su/\su<=4294967294*64:=by
    have h1:∀ l:List Nat,(∀ c∈l,c<rows.length)->0<=Zg (l.map fun u=>(ZE rows (Zb m) last u).1+(ZE rows (Zb m) last u).2)/\Zg (l.map fun u=>(ZE rows (Zb m) last u).1+(ZE rows (Zb m) last u).2)<=4294967294*(l.length:Int):=by
     intro l
     induction l with
     | nil=>intro _;simp[Zg]
     | cons y l ih =>
      intro h;have h2:=ih fun s hs=>h s (by simp[hs])
      have hy:=h y (by simp);have k1:=hcost.out y last hy hla;have k2:=hcost.out y 0 hy (by omega);have h3:=VX (B:=2147483647) (f:=fun v=>Za rows y v) ((Zb m).filter fun j=>decide (y≠j)) (min (Za rows y last) (Za rows y 0),max (Za rows y last) (Za rows y 0)) (by simp only;omega) (by simp only;omega) fun v hv=>hcost.out y v hy (hmr.out v (List.mem_filter.1 hv).1)
      have h4:ZE rows (Zb m) last y=((Zb m).filter fun j=>decide (y≠j)).foldl (fun p v=>Xe p (Za rows y v)) (min (Za rows y last) (Za rows y 0),max (Za rows y last) (Za rows y 0)):=rfl;rw[<-h4] at h3;simp only[List.map_cons,Zg,List.length_cons];omega
    have h2:=h1 (inL pre) fun c hc=>by
     obtain⟨c',_,rfl⟩:=List.mem_map.1 hc;exact hmr.out c'.1 c'.2
    have h3:(inL pre).length<=64:=by
     have:=Wy m;simp[inL];omega
    rw[hsu.out];omega
   have eS:Hid (Zg ((inL (pre++[x])).map fun u=>(ZE rows (Zb m) last u).1+(ZE rows (Zb m) last u).2)=su+(p1+p2)):=Hd (by
    rw[inx,List.map_append,List.map_cons,List.map_nil,Wi,<-hsu.out,hpp.out])
   have cost1:=hcost.out last u hla hu;obtain⟨y3,hy3⟩:∃ y3,Hid (Za rows last u=y3):=⟨_,rfl⟩;rw[hy3.out] at cost1;have eFr:Hid (Zm (fun u=>Za rows last u) (-1) (inL (pre++[x]))=if fr<0 then y3 else if y3<fr then y3 else fr):=Hd (by
    rw[inx,Xz,<-hfr.out,hy3.out])
   have eTo:Hid (Zm (fun u=>Za rows u 0) (-1) (inL (pre++[x]))=if tq<0 then y2 else if y2<tq then y2 else tq):=Hd (by
    rw[inx,Xz,<-hto.out,e2.out])
   have erl:rows[last]?=some rows[last]:=List.getElem?_eq_getElem hla;obtain⟨DL,dl,hul,oDL⟩:=hR.out.2 _ _ erl;have lrl:=ok.row _ (List.getElem_mem hla);have ecl:Za rows last u=(rows[last]).getD u 0:=by unfold Za;rw[getD_some erl]
   generalize rows[last]=rowL at *;have hw1:IntKind.i64.wrap (p1+p2)=p1+p2:=IntWalk.i64_in _ (by omega);have hw2:IntKind.i64.wrap (su+(p1+p2))=su+(p1+p2):=IntWalk.i64_in _ (by omega);have zW':w3.heap.size+1<=W'.heap.size:=by have:=hH2.1;simpa using this
   have G0:EndG w W0 W su fr tq W':=by
    refine⟨⟨by omega,fun k o hk h1 h2=>?_⟩,⟨hBW2,?_⟩,⟨hH2.blk (hO.out.ext xW3.out) (by omega),hH2.blk (hF.out.ext xW3.out) (by omega),hH2.blk (hTo.out.ext xW3.out) (by omega)⟩,⟨by omega,fun b h1 h2=>?_⟩,hBW.out.trans hBW2⟩
    ·have hk1:k<W.heap.size:=(Array.getElem?_eq_some_iff.1 h1).1
     exact((hH2.2 k (by simp;omega) (by omega)).trans (xW3.out.block k hk1)).trans h1
    ·exact(hH2.2 _ (by simp;omega) (by omega)).trans (xW3.out.block _ (by omega))
    ·exact((hH2.2 b (by simp;omega) (by omega)).trans (xW3.out.block b (by omega))).trans (hH.out.2 b h1 h2)
   have G1:=G0.set2 (su+(p1+p2));have cP0:=hP.c0;have cP1:=hP.c1;have cS:=G0.2.2.1.1.c0;have fS:=G0.2.2.1.1.free 0;have kW':=(hH2.blk kW3.out (by omega)).far (p:=⟨w.heap.size+1+1,0,none⟩) (by simp<;>omega) (.int .i64 (su+(p1+p2)));have wW':=(hH2.blk (wW.out.ext xW3.out) (by omega)).far (p:=⟨w.heap.size+1+1,0,none⟩) (by simp<;>omega) (.int .i64 (su+(p1+p2)));have xW':=(hH2.blk bX3.out (by omega)).far (p:=⟨w.heap.size+1+1,0,none⟩) (by simp<;>omega) (.int .i64 (su+(p1+p2)));replace hP:=Hd hP;clear bsu bp hH2 hBW2 G0
   gi_wp2
   replace kW':=Hd kW';replace wW':=Hd wW';replace xW':=Hd xW';have zV1:w.heap.size+1+1+1+1+1<(W'.setCell ⟨w.heap.size+1+1,0,none⟩ (.int .i64 (su+(p1+p2)))).heap.size:=by simp;omega
   replace G1:=Hd G1;clear cP0 cP1 cS fS hr3 hP;generalize W'.setCell ⟨w.heap.size+1+1,0,none⟩ (.int .i64 (su+(p1+p2)))=V1 at *;have cG1:V1.cell? ⟨g,0,none⟩=some (.slice (some ⟨ab,ao,none⟩) rows.length cc):=(hB.out.ext G1.out.2.2.2.2).cell 0;have cK1:=kW'.out.c0;have cW1:=wW'.out.c2;have cX1:=xW'.out.c0;obtain⟨ab',ao',vv,hC5,zv5,cv5,ev5⟩:=(hV.out.read.ext G1.out.2.2.2.2).at (j:=last) (by rw[lus.out];exact hla);obtain⟨rfl,rfl⟩:ab=ab'/\ao=ao':=by simpa using hC5
   obtain rfl:.slice DL rowL.length dl=vv:=by
    have h:=ev5.out;rw[hul] at h;exact Option.some.inj h
   obtain⟨lb',lo',y3x,rfl,zy3x,cy3x,ey3x,_⟩:=(oDL.read.ext G1.out.2.2.2.2).at (k:=u) (by omega);have e35:y3x=y3:=by rw[<-hy3.out,ecl,getD_some ey3x.out]
   obtain rfl:=e35;have q6:(last:Int)<(rows.length:Int):=by omega
   have q7:(u:Int)<(rowL.length:Int):=by omega
   replace ecl:=Hd ecl;clear ey3x ev5 hC5
   by_cases hneg:fr<0
   ·rw[if_pos hneg] at eFr
    gi_wp2
    refine Zi (by kernel_rfl) (by kernel_rfl) (by kernel_rfl) ?_
    repeat (gi_big_quiet_step (fail))
    refine wpQuietIn_nil ?_;rintro _ ⟨nq,rfl⟩;have XV:Hid (Ext V1 (V1.drewN nq)):=(Ext.rf V1).drewN nq;have zV2:w.heap.size+1+1+1+1+1<(V1.drewN nq).heap.size:=by have:=XV.out.size;omega
    have G2:=Hd (G1.out.ext (by omega) XV.out);have kV2:=Hd (kW'.out.ext XV.out);have xV2:=Hd (xW'.out.ext XV.out);obtain⟨V2,hV2⟩:∃ V2,V1.drewN nq=V2:=⟨_,rfl⟩;rw[hV2] at G2 kV2 xV2 zV2 ⊢;clear hV2 XV cG1 cK1 cW1 cX1 cv5 cy3x;have cFr:=G2.out.2.2.1.2.1.c0;have fFr:=G2.out.2.2.1.2.1.free 0
    gi_wp2
    have G3:=G2.out.set3 y3x;have kV3:=Hd (kV2.out.far (p:=⟨w.heap.size+1+1+1,0,none⟩) (by simp<;>omega) (.int .i64 y3x));have xV3:=Hd (xV2.out.far (p:=⟨w.heap.size+1+1+1,0,none⟩) (by simp<;>omega) (.int .i64 y3x));have zV3:w.heap.size+1+1+1+1+1<(V2.setCell ⟨w.heap.size+1+1+1,0,none⟩ (.int .i64 y3x)).heap.size:=by simpa using zV2
    generalize V2.setCell ⟨w.heap.size+1+1+1,0,none⟩ (.int .i64 y3x)=V3 at *;clear cFr fFr;have G3:=Hd G3;have cT:=G3.out.2.2.1.2.2.c0;have fT:=G3.out.2.2.1.2.2.free 0;have cG3:V3.cell? ⟨g,0,none⟩=some (.slice (some ⟨ab,ao,none⟩) rows.length cc):=(hB.out.ext G3.out.2.2.2.2).cell 0;have cK3:=kV3.out.c0;have cX3:=xV3.out.c0;obtain⟨ab',ao',vv,hC4,zv4,cv4,ev4⟩:=(hV.out.read.ext G3.out.2.2.2.2).at (j:=u) (by rw[lus.out];exact hu);obtain⟨rfl,rfl⟩:ab=ab'/\ao=ao':=by simpa using hC4
    obtain rfl:.slice (some ⟨cb,co,none⟩) row.length d=vv:=by
     have h:=ev4.out;rw[hud] at h;exact Option.some.inj h
    obtain⟨cb',co',z4,hD4,zz4,cz4,ez4,_⟩:=(oD.out.read.ext G3.out.2.2.2.2).at (k:=0) (by omega);obtain⟨rfl,rfl⟩:cb=cb'/\co=co':=by simpa using hD4
    obtain rfl:z4=y2:=by
     have h:=ecost.out 0;rw[e2.out,getD_some ez4.out] at h;exact h.symm
    replace cz4:V3.cell? ⟨cb,co,none⟩=some (.int .i64 z4):=cz4;clear ez4 ev4 hC4 hD4
    by_cases hneg2:tq<0
    ·rw[if_pos hneg2] at eTo
     gi_wp2
     refine Zi (by kernel_rfl) (by kernel_rfl) (by kernel_rfl) ?_
     repeat (gi_big_quiet_step (fail))
     refine wpQuietIn_nil ?_;rintro _ ⟨nq,rfl⟩
     gi_wp2
     have E:=(G3.out.ext (by omega) ((Ext.rf V3).drewN nq)).set4 z4;exact⟨E.1,E.2.1,⟨by rw[eS.out];exact E.2.2.1.1,by rw[eFr.out];exact E.2.2.1.2.1,by rw[eTo.out];exact E.2.2.1.2.2⟩,E.2.2.2.1,E.2.2.2.2⟩
    ·rw[if_neg hneg2] at eTo
     by_cases hlt2:z4<tq
     ·rw[if_pos hlt2] at eTo
      gi_wp2
      refine Zi (by kernel_rfl) (by kernel_rfl) (by kernel_rfl) ?_
      repeat (gi_big_quiet_step (fail))
      refine wpQuietIn_nil ?_;rintro _ ⟨nq,rfl⟩
      gi_wp2
      have E:=(G3.out.ext (by omega) ((Ext.rf V3).drewN nq)).set4 z4;exact⟨E.1,E.2.1,⟨by rw[eS.out];exact E.2.2.1.1,by rw[eFr.out];exact E.2.2.1.2.1,by rw[eTo.out];exact E.2.2.1.2.2⟩,E.2.2.2.1,E.2.2.2.2⟩
     ·rw[if_neg hlt2] at eTo
      gi_wp2
      refine Zi (by kernel_rfl) (by kernel_rfl) (by kernel_rfl) ?_
      repeat (gi_big_quiet_step (fail))
      refine wpQuietIn_nil ?_;rintro _ ⟨nq,rfl⟩
      gi_wp2
      have E:=G3.out.ext (by omega) ((Ext.rf V3).drewN nq);exact⟨E.1,E.2.1,⟨by rw[eS.out];exact E.2.2.1.1,by rw[eFr.out];exact E.2.2.1.2.1,by rw[eTo.out];exact E.2.2.1.2.2⟩,E.2.2.2.1,E.2.2.2.2⟩
   ·rw[if_neg hneg] at eFr
    by_cases hlt1:y3x<fr
    ·rw[if_pos hlt1] at eFr
     gi_wp2
     refine Zi (by kernel_rfl) (by kernel_rfl) (by kernel_rfl) ?_
     repeat (gi_big_quiet_step (fail))
     refine wpQuietIn_nil ?_;rintro _ ⟨nq,rfl⟩;have XV:Hid (Ext V1 (V1.drewN nq)):=(Ext.rf V1).drewN nq;have zV2:w.heap.size+1+1+1+1+1<(V1.drewN nq).heap.size:=by have:=XV.out.size;omega
     have G2:=Hd (G1.out.ext (by omega) XV.out);have kV2:=Hd (kW'.out.ext XV.out);have xV2:=Hd (xW'.out.ext XV.out);obtain⟨V2,hV2⟩:∃ V2,V1.drewN nq=V2:=⟨_,rfl⟩;rw[hV2] at G2 kV2 xV2 zV2 ⊢;clear hV2 XV cG1 cK1 cW1 cX1 cv5 cy3x;have cFr:=G2.out.2.2.1.2.1.c0;have fFr:=G2.out.2.2.1.2.1.free 0
     gi_wp2
     have G3:=G2.out.set3 y3x;have kV3:=Hd (kV2.out.far (p:=⟨w.heap.size+1+1+1,0,none⟩) (by simp<;>omega) (.int .i64 y3x));have xV3:=Hd (xV2.out.far (p:=⟨w.heap.size+1+1+1,0,none⟩) (by simp<;>omega) (.int .i64 y3x));have zV3:w.heap.size+1+1+1+1+1<(V2.setCell ⟨w.heap.size+1+1+1,0,none⟩ (.int .i64 y3x)).heap.size:=by simpa using zV2
     generalize V2.setCell ⟨w.heap.size+1+1+1,0,none⟩ (.int .i64 y3x)=V3 at *;clear cFr fFr;have G3:=Hd G3;have cT:=G3.out.2.2.1.2.2.c0;have fT:=G3.out.2.2.1.2.2.free 0;have cG3:V3.cell? ⟨g,0,none⟩=some (.slice (some ⟨ab,ao,none⟩) rows.length cc):=(hB.out.ext G3.out.2.2.2.2).cell 0;have cK3:=kV3.out.c0;have cX3:=xV3.out.c0;obtain⟨ab',ao',vv,hC4,zv4,cv4,ev4⟩:=(hV.out.read.ext G3.out.2.2.2.2).at (j:=u) (by rw[lus.out];exact hu);obtain⟨rfl,rfl⟩:ab=ab'/\ao=ao':=by simpa using hC4
     obtain rfl:.slice (some ⟨cb,co,none⟩) row.length d=vv:=by
      have h:=ev4.out;rw[hud] at h;exact Option.some.inj h
     obtain⟨cb',co',z4,hD4,zz4,cz4,ez4,_⟩:=(oD.out.read.ext G3.out.2.2.2.2).at (k:=0) (by omega);obtain⟨rfl,rfl⟩:cb=cb'/\co=co':=by simpa using hD4
     obtain rfl:z4=y2:=by
      have h:=ecost.out 0;rw[e2.out,getD_some ez4.out] at h;exact h.symm
     replace cz4:V3.cell? ⟨cb,co,none⟩=some (.int .i64 z4):=cz4;clear ez4 ev4 hC4 hD4
     by_cases hneg2:tq<0
     ·rw[if_pos hneg2] at eTo
      gi_wp2
      refine Zi (by kernel_rfl) (by kernel_rfl) (by kernel_rfl) ?_
      repeat (gi_big_quiet_step (fail))
      refine wpQuietIn_nil ?_;rintro _ ⟨nq,rfl⟩
      gi_wp2
      have E:=(G3.out.ext (by omega) ((Ext.rf V3).drewN nq)).set4 z4;exact⟨E.1,E.2.1,⟨by rw[eS.out];exact E.2.2.1.1,by rw[eFr.out];exact E.2.2.1.2.1,by rw[eTo.out];exact E.2.2.1.2.2⟩,E.2.2.2.1,E.2.2.2.2⟩
     ·rw[if_neg hneg2] at eTo
      by_cases hlt2:z4<tq
      ·rw[if_pos hlt2] at eTo
       gi_wp2
       refine Zi (by kernel_rfl) (by kernel_rfl) (by kernel_rfl) ?_
       repeat (gi_big_quiet_step (fail))
       refine wpQuietIn_nil ?_;rintro _ ⟨nq,rfl⟩
       gi_wp2
       have E:=(G3.out.ext (by omega) ((Ext.rf V3).drewN nq)).set4 z4;exact⟨E.1,E.2.1,⟨by rw[eS.out];exact E.2.2.1.1,by rw[eFr.out];exact E.2.2.1.2.1,by rw[eTo.out];exact E.2.2.1.2.2⟩,E.2.2.2.1,E.2.2.2.2⟩
      ·rw[if_neg hlt2] at eTo
       gi_wp2
       refine Zi (by kernel_rfl) (by kernel_rfl) (by kernel_rfl) ?_
       repeat (gi_big_quiet_step (fail))
       refine wpQuietIn_nil ?_;rintro _ ⟨nq,rfl⟩
       gi_wp2
       have E:=G3.out.ext (by omega) ((Ext.rf V3).drewN nq);exact⟨E.1,E.2.1,⟨by rw[eS.out];exact E.2.2.1.1,by rw[eFr.out];exact E.2.2.1.2.1,by rw[eTo.out];exact E.2.2.1.2.2⟩,E.2.2.2.1,E.2.2.2.2⟩
    ·rw[if_neg hlt1] at eFr
     gi_wp2
     refine Zi (by kernel_rfl) (by kernel_rfl) (by kernel_rfl) ?_
     repeat (gi_big_quiet_step (fail))
     refine wpQuietIn_nil ?_;rintro _ ⟨nq,rfl⟩;have XV:Hid (Ext V1 (V1.drewN nq)):=(Ext.rf V1).drewN nq;have zV2:w.heap.size+1+1+1+1+1<(V1.drewN nq).heap.size:=by have:=XV.out.size;omega
     have G2:=Hd (G1.out.ext (by omega) XV.out);have kV2:=Hd (kW'.out.ext XV.out);have xV2:=Hd (xW'.out.ext XV.out);obtain⟨V2,hV2⟩:∃ V2,V1.drewN nq=V2:=⟨_,rfl⟩;rw[hV2] at G2 kV2 xV2 zV2 ⊢;clear hV2 XV cG1 cK1 cW1 cX1 cv5 cy3x;have cFr:=G2.out.2.2.1.2.1.c0;have fFr:=G2.out.2.2.1.2.1.free 0
     gi_wp2
     have G3:=G2.out;have kV3:=kV2;have xV3:=xV2;have zV3:=zV2;obtain⟨V3,hV3⟩:∃ V3,V2=V3:=⟨_,rfl⟩;rw[hV3] at G3 kV3 xV3 zV3 ⊢;clear hV3;clear cFr fFr;have G3:=Hd G3;have cT:=G3.out.2.2.1.2.2.c0;have fT:=G3.out.2.2.1.2.2.free 0;have cG3:V3.cell? ⟨g,0,none⟩=some (.slice (some ⟨ab,ao,none⟩) rows.length cc):=(hB.out.ext G3.out.2.2.2.2).cell 0;have cK3:=kV3.out.c0;have cX3:=xV3.out.c0;obtain⟨ab',ao',vv,hC4,zv4,cv4,ev4⟩:=(hV.out.read.ext G3.out.2.2.2.2).at (j:=u) (by rw[lus.out];exact hu);obtain⟨rfl,rfl⟩:ab=ab'/\ao=ao':=by simpa using hC4
     obtain rfl:.slice (some ⟨cb,co,none⟩) row.length d=vv:=by
      have h:=ev4.out;rw[hud] at h;exact Option.some.inj h
     obtain⟨cb',co',z4,hD4,zz4,cz4,ez4,_⟩:=(oD.out.read.ext G3.out.2.2.2.2).at (k:=0) (by omega);obtain⟨rfl,rfl⟩:cb=cb'/\co=co':=by simpa using hD4
     obtain rfl:z4=y2:=by
      have h:=ecost.out 0;rw[e2.out,getD_some ez4.out] at h;exact h.symm
     replace cz4:V3.cell? ⟨cb,co,none⟩=some (.int .i64 z4):=cz4;clear ez4 ev4 hC4 hD4
     by_cases hneg2:tq<0
     ·rw[if_pos hneg2] at eTo
      gi_wp2
      refine Zi (by kernel_rfl) (by kernel_rfl) (by kernel_rfl) ?_
      repeat (gi_big_quiet_step (fail))
      refine wpQuietIn_nil ?_;rintro _ ⟨nq,rfl⟩
      gi_wp2
      have E:=(G3.out.ext (by omega) ((Ext.rf V3).drewN nq)).set4 z4;exact⟨E.1,E.2.1,⟨by rw[eS.out];exact E.2.2.1.1,by rw[eFr.out];exact E.2.2.1.2.1,by rw[eTo.out];exact E.2.2.1.2.2⟩,E.2.2.2.1,E.2.2.2.2⟩
     ·rw[if_neg hneg2] at eTo
      by_cases hlt2:z4<tq
      ·rw[if_pos hlt2] at eTo
       gi_wp2
       refine Zi (by kernel_rfl) (by kernel_rfl) (by kernel_rfl) ?_
       repeat (gi_big_quiet_step (fail))
       refine wpQuietIn_nil ?_;rintro _ ⟨nq,rfl⟩
       gi_wp2
       have E:=(G3.out.ext (by omega) ((Ext.rf V3).drewN nq)).set4 z4;exact⟨E.1,E.2.1,⟨by rw[eS.out];exact E.2.2.1.1,by rw[eFr.out];exact E.2.2.1.2.1,by rw[eTo.out];exact E.2.2.1.2.2⟩,E.2.2.2.1,E.2.2.2.2⟩
      ·rw[if_neg hlt2] at eTo
       gi_wp2
       refine Zi (by kernel_rfl) (by kernel_rfl) (by kernel_rfl) ?_
       repeat (gi_big_quiet_step (fail))
       refine wpQuietIn_nil ?_;rintro _ ⟨nq,rfl⟩
       gi_wp2
       have E:=G3.out.ext (by omega) ((Ext.rf V3).drewN nq);exact⟨E.1,E.2.1,⟨by rw[eS.out];exact E.2.2.1.1,by rw[eFr.out];exact E.2.2.1.2.1,by rw[eTo.out];exact E.2.2.1.2.2⟩,E.2.2.2.1,E.2.2.2.2⟩
  case stop2 =>
   rintro c pre' W' _ h;exact h.elim
 case done =>
  rintro D ys W hD rfl ⟨⟨hO,hF,hTo⟩,hH,hBW⟩ hK;rw[Xx] at hO hF hTo;obtain⟨su,hsu⟩:∃ su,Hid (su=Zg ((Zb m).map fun u=>(ZE rows (Zb m) last u).1+(ZE rows (Zb m) last u).2)):=⟨_,rfl⟩;obtain⟨fr,hfr⟩:∃ fr,Hid (fr=Zm (fun u=>Za rows last u) (-1) (Zb m)):=⟨_,rfl⟩;obtain⟨tq,hto⟩:∃ tq,Hid (tq=Zm (fun u=>Za rows u 0) (-1) (Zb m)):=⟨_,rfl⟩;rw[<-hsu.out] at hO;rw[<-hfr.out] at hF;rw[<-hto.out] at hTo;have bsu:0<=su/\su<=4294967294*64:=by
   have h1:∀ l:List Nat,(∀ c∈l,c<rows.length)->0<=Zg (l.map fun u=>(ZE rows (Zb m) last u).1+(ZE rows (Zb m) last u).2)/\Zg (l.map fun u=>(ZE rows (Zb m) last u).1+(ZE rows (Zb m) last u).2)<=4294967294*(l.length:Int):=by
    intro l
    induction l with
    | nil=>intro _;simp[Zg]
    | cons y l ih =>
     intro h;have h2:=ih fun s hs=>h s (by simp[hs])
     have hy:=h y (by simp);have k1:=hcost.out y last hy hla;have k2:=hcost.out y 0 hy (by omega);have h3:=VX (B:=2147483647) (f:=fun v=>Za rows y v) ((Zb m).filter fun j=>decide (y≠j)) (min (Za rows y last) (Za rows y 0),max (Za rows y last) (Za rows y 0)) (by simp only;omega) (by simp only;omega) fun v hv=>hcost.out y v hy (hmr.out v (List.mem_filter.1 hv).1)
     have h4:ZE rows (Zb m) last y=((Zb m).filter fun j=>decide (y≠j)).foldl (fun p v=>Xe p (Za rows y v)) (min (Za rows y last) (Za rows y 0),max (Za rows y last) (Za rows y 0)):=rfl;rw[<-h4] at h3;simp only[List.map_cons,Zg,List.length_cons];omega
   have h2:=h1 (Zb m) fun c hc=>hmr.out c hc
   have h3:=Wy m;rw[hsu.out];omega
  have bfr:-2147483647<=fr/\fr<=2147483647:=by
   rw[hfr.out];exact YW (fun c hc=>by have:=hcost.out last c hla (hmr.out c hc);omega) (by omega) (by omega)
  have btq:-2147483647<=tq/\tq<=2147483647:=by
   rw[hto.out];exact YW (fun c hc=>by have:=hcost.out c 0 (hmr.out c hc) (by omega);omega) (by omega) (by omega)
  have hw1:IntKind.i64.wrap (su+fr)=su+fr:=IntWalk.i64_in _ (by omega);have hw2:IntKind.i64.wrap (su+fr+tq)=su+fr+tq:=IntWalk.i64_in _ (by omega);have cS:=hO.c0;have cF:=hF.c0;have cT:=hTo.c0
  gi_wp2
  refine⟨by simp,.inl ⟨_,_,rfl,run_takeDeferred hK,?_⟩⟩;refine⟨_,results_tmp rfl _ _ _,?_,hBW.trans (belowK_b (w:=w) (Nat.le_refl _) W D _ _ (by omega) hK rfl rfl)⟩;rw[hsu.out,hfr.out,hto.out]
  rfl
 case stop =>
  rintro D c pre W _ _ h _;exact h.elim
theorem ZgX {base g:Nat}{rows:List (List Int)}{mi:Bool}(m last:Nat)(cost:Int)(ok:RowsOk rows)(hS:SubN rows.length m)(hla:last<rows.length)(w:World)(hT:Tab w)(H:KernT w base g rows mi) :
  Calls Tryz.prog 212 #[.pointer (some ⟨g,0,none⟩),Q7 m last cost] w fun e W'=>e=.returned (.int .i64 (XL rows (Zb m) last))/\Ext w W' :=
 callsIn_wide.1 (Zh6 m last cost ok hS hla w hT H)
end
section
theorem VY {rows:List (List Int)}(h1:1<=rows.length){p:List Int}{m last:Nat}{cost:Int}{l:List Nat}(h:WalkOk rows p m last cost l) : last<rows.length:=by
 rw[h.last];rcases VW l 0 with e | e
 ·rw[e];exact h1
 ·exact(h.inn _ e).1
theorem ZbC (cm:Value)(w:World) : Calls Tryz.prog 201 #[.slice none 0 0,.int .i64 0,.int .i64 0,cm] w fun e w'=>e=.returned (.tuple #[])/\Ext w w':=by
 go_enter Tryz.func201,Tryz.ntmps201;go_wp2_with (fail);go_loopw [8] (fun iv wr=>iv=.int .i64 1/\Hid (Ext w wr)) (fun _ _=>0)
 case atStart=>exact⟨by first | rfl | go_num,Ext.rf _⟩
 case round =>
  obtain⟨rfl,X⟩:=hrel;go_wp2_with (fail);go_end0;exact⟨rfl,X.out⟩
theorem Zfa (cm:Value)(w:World) : Calls Tryz.prog 197 #[.slice none 0 0,.int .i64 0,cm] w fun e w'=>e=.returned (.tuple #[])/\Ext w w':=by
 go_enter Tryz.func197,Tryz.ntmps197;go_wp2_with (fail);go_loopw [7,8] (fun av bv wr=>av=.int .i64 0/\bv=.int .i64 20/\Hid (Ext w wr)) (fun _ _ _=>0)
 case atStart=>exact⟨rfl,rfl,Ext.rf _⟩
 case round =>
  obtain⟨wo,rfl⟩:=Wq wr;obtain⟨rfl,rfl,X⟩:=hrel;go_wp2_with (fail);refine(ZbC cm _).mono ?_;rintro e w1 ⟨rfl,x1⟩;have X1:=Hd (X.out.tr x1);go_wp2_with (fail);go_loopw [6] (fun v wr=>v=.int .i64 20/\Hid (Ext w wr)) (fun _ _=>0)
  case atStart=>exact⟨rfl,X1⟩
  case round =>
   obtain⟨rfl,X2⟩:=hrel;go_wp2_with (fail);go_end0;exact⟨rfl,X2.out⟩
theorem Za9 (cm:Value)(w:World) : Calls Tryz.prog 191 #[.slice none 0 0,cm] w fun e w'=>e=.returned (.tuple #[])/\Ext w w':=by
 go_enter Tryz.func191,Tryz.ntmps191;go_wp2_with (fail);refine(Zfa cm _).mono ?_;rintro e w1 ⟨rfl,x1⟩;go_wp2_with (fail);go_end0;exact⟨rfl,by(repeat (first | assumption | exact Ext.rf _ | apply Ext.drew | apply Ext.drewN | apply Ext.alloc))⟩
theorem Zh7 (row:List Int)(hbd:∀ x∈row,0<=x/\x<=2147483647)(D:Option Addr)(d rb:Nat)(a b:Nat)(ha:a<row.length)(hb:b<row.length)(w:World)(B:w.cell? ⟨rb,0,none⟩=some (.slice D row.length d))(hD:RdI w D row) :
  Calls Tryz.prog 213 #[.int .i64 a,.int .i64 b,.pointer (some ⟨rb,0,none⟩)] w fun e w'=>e=.returned (.int .i64 (row.getD a 0-row.getD b 0))/\∃ q,w'=w.drewN q:=by
 obtain⟨cb,co,x,rfl,z1,c1,e1,_⟩:=hD.at ha;obtain⟨cb',co',y,hq,z2,c2,e2,_⟩:=hD.at hb;obtain⟨rfl,rfl⟩:cb=cb'/\co=co':=by simpa using hq
 have b1:=hbd x (List.mem_of_getElem? e1.out);have b2:=hbd y (List.mem_of_getElem? e2.out);rw[getD_some e1.out,getD_some e2.out];have hw:IntKind.i64.wrap (x-y)=x-y:=IntWalk.i64_in _ (by omega);have q1:(a:Int)<(row.length:Int):=by omega
 have q2:(b:Int)<(row.length:Int):=by omega
 clear e1 e2 b1 b2 hbd hD hq;go_enter Tryz.func213,Tryz.ntmps213;go_wp2_with (fail);go_quiet (fail);go_wp2_with (fail);go_ret;exact⟨rfl,_,rfl⟩
theorem ZgY {base g:Nat}{rows:List (List Int)}{mi:Bool}(P:Option Addr)(pc:Nat)(p:List Int)(w:World)(hT:Tab w)(H:KernT w base g rows mi)(ok:RowsOk rows)(hP:RdI w P p)(lp:p.length<=1000000000) :
  Calls Tryz.prog 209 #[.pointer (some ⟨g,0,none⟩),.slice P p.length pc] w (Ys (Xu rows p).1 (Xu rows p).2 w):=by
 have FR:=fun(W:World) (x:Ext w W)=>Zci P pc p W (H.ext x) ok (hP.ext x) lp
 have l1:=ok.n1;have l2:=ok.n2;obtain⟨C,cc,us,hB,_,hV,hR⟩:=H;have lus:Hid (us.length=rows.length):=hR.1;obtain⟨r,hr⟩:∃ r,Hid (Yq rows p=r):=⟨_,rfl⟩;rw[hr.out] at FR
 cases r with
 | none =>
  have e:Xu rows p=([],1):=by unfold Xu;rw[hr.out]
  rw[e];simp only[ZgV,Q7] at FR;replace FR:=Hd FR;go_enter Tryz.func209,Tryz.ntmps209;go_wp2_with (fail);refine(FR.out _ (Ext.rf w)).mono ?_;rintro e w1 ⟨rfl,x1⟩;have X:=Hd (x1.alloc (.cells #[.int .u64 0,.int .u64 0,.int .i64 0,.int .i64 0] 238));go_wp2_with (fail);go_ret2;exact⟨none,0,rfl,OwI.nil _ _,by have:=X.out;first | exact x1 | exact this⟩
 | some s =>
  obtain⟨m,last,cost⟩:=s;obtain⟨pl,WO⟩:=XM l1 l2 hr.out;have hS:=WO.sub;have hlast:=VY l1 WO;have hlen:(Zb m).length<=24:=by have:=WO.len;omega
  have e:Xu rows p=(Zf (Yh (ltC (cfR (rows.getD last []))) (Zb m)),0):=by unfold Xu;rw[hr.out]
  rw[e];clear e;have LI:=Hd (fun(W:World) (hW:Tab W)=>ZaD m hS.1 (fun x hx=>by have:=hS.2 x hx;omega) W hW);have hsub:=Hd hS.2;have hsrt:=Hd (ZD m);simp only[ZgV,Q7] at FR;unfold ZS at LI;replace FR:=Hd FR;clear hr hS WO;generalize Zb m=l at *;replace hP:=Hd hP;replace hV:=Hd hV;replace hR:=Hd hR;replace hT:=Hd hT;replace hB:=Hd hB;have hkr:last<rows.length:=hlast;have er:rows[last]?=some rows[last]:=List.getElem?_eq_getElem hkr;have eg:rows.getD last []=rows[last]:=by simp[List.getD,er]
  rw[eg];clear eg;obtain⟨D,d,hu,oD⟩:=hR.out.2 _ _ er;have hmem:rows[last]∈rows:=List.getElem_mem hkr;have lrow:=ok.row _ hmem;have nrow:=ok.num _ hmem;generalize rows[last]=row at *;replace lrow:=Hd lrow;replace oD:=Hd oD;replace nrow:=Hd nrow;have lcc:rows.length<=cc:=by
   rcases hV.out.cases with⟨_,_,h,_⟩ | ⟨_,_,_,_,_,h,_⟩<;>omega
  clear er;go_enter Tryz.func209,Tryz.ntmps209;go_wp2_with (fail);refine(FR.out _ (Ext.rf w)).mono ?_;rintro e w1 ⟨rfl,x1⟩;have X2:=Hd (x1.alloc (.cells #[.int .u64 m,.int .u64 0,.int .i64 last,.int .i64 cost] 238));clear x1;go_wp2_with (fail);refine(LI.out _ (hT.out.ext X2.out)).mono ?_;rintro e w3 ⟨A,c,rfl,o3,x3⟩;have X3:=Hd (X2.out.tr x3);have z2:=X2.out.size;have o3':Hid (OwI w3 w.heap.size A c (Zf l)):=OwI.more o3 X2.out.size;have o4':Hid (OwI w3 (w1.alloc (.cells #[.int .u64 m,.int .u64 0,.int .i64 last,.int .i64 cost] 238)).heap.size A c (Zf l)):=o3;obtain⟨ab,ao,vv,hC,zv,cv,ev⟩:=(hV.out.read.ext X3.out).at (j:=last) (by rw[lus.out];exact hkr);subst hC;obtain rfl:.slice D row.length d=vv:=by
   have h:=ev.out;rw[hu] at h;exact Option.some.inj h
  have cK:w3.cell? ⟨g,0,none⟩=some (.slice (some ⟨ab,ao,none⟩) rows.length cc):=(hB.out.ext X3.out).cell 0;have q1:(last:Int)<(rows.length:Int):=by omega
  have zg0:g<w3.heap.size:=(hB.out.ext X3.out).lt;have zab:ab<w3.heap.size:=zv;have bW:Hid (Blk w3 w1.heap.size 238 #[.int .u64 m,.int .u64 0,.int .i64 last,.int .i64 cost]):=(Blk.new rfl).ext x3;have zsb:=bW.out.lt;have cL:=bW.out.c2;clear x3 ev hu;clear o3 o4';go_upto_region 5 with(fail);refine wp_region_any (by kernel_rfl) ?_
  change wpAny _ _ _ _ _ _ _ (World.drew _)
  refine Zc (i:=0) (op:=Op.move (Operand.tmp 0)) (t:=71) (d:=some 21) (v:=_) rfl (by decide +kernel) (fun _ _ _ h=>h) (by intro _;unfold Ze;go_simp;try with_reducible rfl) ?_
  try simp only[lay]
  refine Zc (i:=1) (op:=Op.nilCheck (Operand.tmp 21)) (t:=0) (d:=some 22) (v:=_) rfl (by decide +kernel) (fun _ _ _ h=>h) (by intro _;unfold Ze;go_simp;try with_reducible rfl) ?_
  try simp only[lay]
  refine Zc (i:=2) (op:=Op.fieldAddr 104 (Operand.tmp 22) 0) (t:=0) (d:=some 23) (v:=_) rfl (by decide +kernel) (fun _ _ _ h=>h) (by intro _;unfold Ze;go_simp;try with_reducible rfl) ?_
  try simp only[lay]
  refine Zc (i:=4) (op:=Op.fieldAddr 238 (Operand.tmp 6) 1) (t:=0) (d:=some 25) (v:=_) rfl (by decide +kernel) (fun _ _ _ h=>h) (by intro _;unfold Ze;go_simp;try with_reducible rfl) ?_
  try simp only[lay]
  generalize w1.heap.size=sb at *;refine Wb (n:=1) [(3,some 24),(5,some 26),(6,some 27),(7,some 28),(8,some 9)] (Ext w3)
   (VF (fun | 3=>some (.slice (some ⟨ab,ao,none⟩) rows.length cc) | 5=>some (.int .i64 last) | 6=>some (.pointer (some ⟨ab,ao+last,none⟩)) | 7=>some (.slice D row.length d) | _=>none)
    (fun i v W=>i=8->∃ q,v=.pointer (some ⟨q,0,none⟩)/\Blk W q 22 #[.slice none 0 0]/\w3.heap.size<=q))
   Ext #[true,true,true,true,true,true,true,true,true,false] (by kernel_rfl) (VF.stab ?_) ?_ ?_ ((Ext.rf _).drew)
  ·intro j v W W' _ g8 hx h
   obtain⟨q,q1,q2,q3⟩:=g8 h;exact⟨q,q1,q2.ext hx,q3⟩
  ·intro pq hpm u w4 hR4 hD K hK
   have r0:=(hR4.cells.1 _ 0 zg0).trans cK;have r1:=(hR4.cells.1 _ 2 zsb).trans cL;have r2:=(hR4.cells.1 _ (ao+last) zab).trans cv;simp only[List.mem_cons,List.not_mem_nil,or_false] at hpm;rcases hpm with rfl | rfl | rfl | rfl | rfl
   ·exact Zv (T:=23) rfl (.pointer (some ⟨g,0,none⟩)) (by kernel_rfl) (.slice (some ⟨ab,ao,none⟩) rows.length cc) (by go_simp) (hK _ _ (VF.mk rfl) hR4 (Ext.rf _))
   ·exact Zv (T:=3) rfl (.pointer (some ⟨sb,2,none⟩)) (by kernel_rfl) (.int .i64 last) (by go_simp) (hK _ _ (VF.mk rfl) hR4 (Ext.rf _))
   ·have h3:=(hD 3 (Zp (by kernel_rfl))).k rfl
    have h5:=(hD 5 (Zp (by kernel_rfl))).k rfl;exact XY (T:=23) rfl _ _ (Eq.trans (b:=u 3) (by kernel_rfl) h3) (Eq.trans (b:=u 5) (by kernel_rfl) h5) (.pointer (some ⟨ab,ao+last,none⟩)) (by go_simp) (hK _ _ (VF.mk rfl) hR4 (Ext.rf _))
   ·have h6:=(hD 6 (Zp (by kernel_rfl))).k rfl
    exact Zv (T:=22) rfl _ (Eq.trans (b:=u 6) (by kernel_rfl) h6) (.slice D row.length d) (by go_simp) (hK _ _ (VF.mk rfl) hR4 (Ext.rf _))
   ·exact Z5 (op:=.alloc 22) rfl (.pointer (some ⟨w4.heap.size,0,none⟩)) (w':=w4.alloc (.cells #[.slice none 0 0] 22)) (by unfold Ze;go_simp) (hK _ _ (VF.mg rfl fun _=>⟨_,rfl,.new rfl,hR4.size⟩) (hR4.alloc _) ((Ext.rf _).alloc _))
  intro u w4 hR4 hV4;have h3:=(hV4 (3,some 24) (by simp)).k rfl;have h5:=(hV4 (5,some 26) (by simp)).k rfl;have h6:=(hV4 (6,some 27) (by simp)).k rfl;have h7:=(hV4 (7,some 28) (by simp)).k rfl;obtain⟨q,h8,hq,hqz⟩:=((hV4 (8,some 9) (by simp)).g rfl) rfl;simp only[Zn,h3,h5,h6,h7,h8];clear h3 h5 h6 h7 h8 hV4;have cq:=hq.c0;have fq:=hq.free 0;have rb:Hid (Blk (w4.setCell ⟨q,0,none⟩ (.slice D row.length d)) q 22 #[.slice D row.length d]):=hq.set 0 (.slice D row.length d);have X5:Hid (Ext w3 (w4.setCell ⟨q,0,none⟩ (.slice D row.length d))):=hR4.setNew (p:=⟨q,0,none⟩) hqz _;refine Zl 9 (by decide +kernel) (Xq rfl (.pointer (some ⟨q,0,none⟩)) (.slice D row.length d) (by kernel_rfl) (by kernel_rfl) (by go_simp;rfl) ?_);refine wpAny_done (by kernel_rfl) ?_ _;clear cq fq hq hR4 cK cL cv;generalize w4.setCell ⟨q,0,none⟩ (.slice D row.length d)=w5 at *;clear w4;have X4:=Hd (X3.out.tr X5.out);rcases OwI.cases o3'.out with⟨rfl,rfl,h0⟩ | ⟨gl,cur,rfl,hbg,_,_,_,_⟩
  ·obtain rfl:l=[]:=by
    have h:=congrArg List.length h0;rw[Zh,List.length_nil] at h;exact List.eq_nil_of_length_eq_zero h
   have e0:Yh (ltC (cfR row)) []=[]:=rfl;rw[e0];clear e0 h0 o3';go_simp;go_wp2_with (fail);refine(Za9 _ _).mono ?_;rintro e w6 ⟨rfl,x6⟩;have X6:=X4.out.tr x6;clear x6;go_wp2_with (fail);go_ret2;exact⟨none,0,rfl,OwI.nil _ _,X6⟩
  ·rw[Zh] at *
   have zgl:w.heap.size<=gl:=hbg;have zg:=(OwI.lt o3'.out gl rfl).2;have oN:Hid (OwN w3 w.heap.size gl c l):=o3'.out;have HCO:Hid (CmpOk 213 #[.pointer (some ⟨q,0,none⟩)] (cfR row) row.length gl w5):=by
    intro W x y hx hy hm;have b2:=rb.out.mod hm (by show ¬q=gl;omega);refine Zh7 row nrow.out D d q x y hx hy W (b2.cell 0) ?_;refine RdI.modG ((oD.out.read.ext X3.out).ext X5.out) hm fun b hb=>?_
    have:=(oD.out.lt b hb).2;omega
   have SO:=UJ w.heap.size gl c 213 #[.pointer (some ⟨q,0,none⟩)] (cfR row) row.length l.length l _ (VR row) (enters_of Tryz.func213 (by kernel_rfl) rfl) HCO.out (OwN.ext oN.out X5.out) rfl hsrt.out (fun x hx=>by rw[lrow.out];exact hsub.out x hx) (by omega);replace SO:=Hd SO;clear HCO rb;go_simp;go_wp2_with (fail);refine SO.out.mono ?_;rintro e w6 ⟨rfl,o5,m5⟩;have FIN:Hid (OwI w6 w.heap.size (some ⟨gl,0,none⟩) c (Zf (Yh (ltC (cfR row)) l))/\Ext w w6):=⟨o5,m5.heap X4.out zgl⟩;have hll:Hid ((Zf (Yh (ltC (cfR row)) l)).length=l.length):=Hd (by rw[Zh,Yz]);clear o5 m5;go_wp2_with (fail);go_ret2;refine⟨some ⟨gl,0,none⟩,c,?_,FIN.out.1,FIN.out.2⟩;rw[hll.out]
   rfl
theorem XA {f:Nat->Int}{B:Int} : ∀ (l:List Nat),(∀ x∈l,0<=f x/\f x<=B)->0<=Zg (l.map f)/\Zg (l.map f)<=B*(l.length:Int)
 | [],_=>by simp[Zg]
 | x::l,h=>by
  have h1:=h x (by simp);have h2:=XA l fun y hy=>h y (by simp[hy])
  have h3:B*((l.length:Int)+1)=B*(l.length:Int)+B:=by rw[Int.mul_add,Int.mul_one]
  simp only[List.map_cons,Zg,List.length_cons,Int.natCast_add,Int.natCast_one];omega
theorem Zal {rows:List (List Int)}(num:∀ a b,a<rows.length->b<rows.length->0<=Za rows a b/\Za rows a b<=2147483647) : ∀ (l:List Nat) (s:Nat),s<rows.length->(∀ x∈l,x<rows.length)->0<=UM rows s (Zf l)/\UM rows s (Zf l)<=2147483647*(l.length:Int)
 | [],_,_,_=>by simp[UM,Zf]
 | x::l,s,hs,h=>by
  have h1:=num s x hs (h x (by simp));have h2:=Zal num l x (h x (by simp)) fun y hy=>h y (by simp[hy])
  have e:UM rows s (Zf (x::l))=Za rows s x+UM rows x (Zf l):=by simp[Zf,UM]
  rw[e];simp only[List.length_cons,Int.natCast_add,Int.natCast_one];omega
section
variable {rows:List (List Int)} {us:List Nat} {last:Nat}
theorem Qu (num:∀ a b,a<rows.length->b<rows.length->0<=Za rows a b/\Za rows a b<=2147483647)(h0:0<rows.length)(hl:last<rows.length)(hu:∀ x∈us,x<rows.length)(hlen:us.length<=24) : 0<=ZI rows us last/\ZI rows us last<=2147483647*100:=by
 have hcol:∀ {s:Nat},∀ d∈ZY us last s,d<rows.length:=fun {s} d h=>by
  unfold ZY at h;split at h
  ·exact hu d h
  ·rcases List.mem_cons.1 h with rfl | h
   ·exact h0
   ·exact hu d (List.mem_filter.1 h).1
 have hsrc:∀ s∈last::us,s<rows.length:=fun s h=>by
  rcases List.mem_cons.1 h with rfl | h
  ·exact hl
  ·exact hu s h
 have hoff:∀ s∈last::us,0<=Yt rows us last s/\Yt rows us last s<=2147483647:=fun s hs=>by
  have h1:=YW (f:=fun dst=>Za rows s dst) (B:=2147483647) (l:=ZY us last s) (b:=-1) (fun c hc=>by
   have:=num s c (hsrc s hs) (hcol c hc);omega) (by omega) (by omega)
  unfold Yt;omega
 have h1:=XA (f:=fun src=>Yt rows us last src) (last::us) hoff;have h2:=XA (f:=fun dst=>max (WJ rows us last dst) 0) (B:=4294967294) (0::us) fun d hd=>by
  have hd':d<rows.length:=by
   rcases List.mem_cons.1 hd with rfl | hd
   ·exact h0
   ·exact hu d hd
  have h3:-4294967294<=WJ rows us last d/\WJ rows us last d<=4294967294:=by
   unfold WJ;refine YW (fun s hs=>?_) (by omega) (by omega);have h4:=num s d (hsrc s (List.mem_filter.1 hs).1) hd';have h5:=hoff s (List.mem_filter.1 hs).1;omega
  omega
 unfold ZI;simp only[List.length_cons] at h1 h2;omega
theorem Zba (num:∀ a b,a<rows.length->b<rows.length->0<=Za rows a b/\Za rows a b<=2147483647)(h0:0<rows.length)(hl:last<rows.length)(hu:∀ x∈us,x<rows.length)(hlen:us.length<=24)(hne:us≠[]) : 0<=XL rows us last/\XL rows us last<=4294967294*30:=by
 have h1:=XA (f:=fun u=>(ZE rows us last u).1+(ZE rows us last u).2) (B:=4294967294) us fun y hy=>by
  have k0:=hu y hy;have k1:=num y last k0 hl;have k2:=num y 0 k0 h0;have h3:=VX (B:=2147483647) (f:=fun v=>Za rows y v) (us.filter fun j=>decide (y≠j)) (min (Za rows y last) (Za rows y 0),max (Za rows y last) (Za rows y 0)) (by simp only;omega) (by simp only;omega) fun v hv=>num y v k0 (hu v (List.mem_filter.1 hv).1)
  have h4:ZE rows us last y=(us.filter fun j=>decide (y≠j)).foldl (fun p v=>Xe p (Za rows y v)) (min (Za rows y last) (Za rows y 0),max (Za rows y last) (Za rows y 0)):=rfl;rw[<-h4] at h3;omega
 have h2:=Za3 (f:=fun u=>Za rows last u) (B:=2147483647) (l:=us) (fun x hx=>num last x hl (hu x hx)) hne (by omega);have h3:=Za3 (f:=fun u=>Za rows u 0) (B:=2147483647) (l:=us) (fun x hx=>num x 0 (hu x hx) h0) hne (by omega);unfold XL;omega
end
theorem ZgZ {m:Nat}(hm:m<18446744073709551616) : Zb m=[]↔m=0:=by
 constructor
 ·intro h
  by_cases e:m=0
  ·exact e
  ·have:=Zaz e hm
   rw[h] at this
   cases this
 ·rintro rfl
  exact Qg
theorem Zh8 (x:Int)(u:World) : (Op.equalIn 10000 161 (.agg #[.int .u64 x,.int .u64 0]) (.agg #[.int .u64 0,.int .u64 0])).run Tryz.prog u=.ok (x==0) u:=by
 unfold Op.equalIn;simp only[Sem.run_bind,run_underlying Tryz.underlying161,Result.andThen_ok];have e9:List.range' 0 2 1=[0,1]:=rfl;simp only[Std.Legacy.Range.forIn_eq_forIn_range',Std.Legacy.Range.size,Nat.sub_zero,Nat.add_one_sub_one,Nat.div_one,e9,List.forIn_cons,List.forIn_nil]
 by_cases hx:x=0
 ·subst hx
  go_simp
 ·have hx':(x==0)=false:=by simpa using hx
  go_simp
theorem Zfb {base g:Nat}{rows:List (List Int)}{mi:Bool}(P:Option Addr)(pc:Nat)(p:List Int)(w:World)(hT:Tab w)(H:KernT w base g rows mi)(ok:RowsOk rows)(hP:RdI w P p)(lp:p.length<=1000000000) :
  Calls Tryz.prog 207 #[.pointer (some ⟨g,0,none⟩),.slice P p.length pc] w fun e w'=>e=.returned (.tuple #[.int .i64 (ZZ rows mi p).1,.int .i64 (ZZ rows mi p).2])/\Ext w w':=by
 have FR:=fun(W:World) (x:Ext w W)=>Zci P pc p W (H.ext x) ok (hP.ext x) lp
 have l1:=ok.n1;have l2:=ok.n2;have H0:=H;obtain⟨C,cc,us,hB,_,hV,hR⟩:=H;have lus:Hid (us.length=rows.length):=hR.1;obtain⟨r,hr⟩:∃ r,Hid (Yq rows p=r):=⟨_,rfl⟩;rw[hr.out] at FR
 cases r with
 | none =>
  have e:ZZ rows mi p=(0,1):=by unfold ZZ;rw[hr.out]
  rw[e];simp only[ZgV,Q7] at FR;replace FR:=Hd FR;go_enter Tryz.func207,Tryz.ntmps207;go_wp2_with (fail);refine(FR.out _ (Ext.rf w)).mono ?_;rintro e w1 ⟨rfl,x1⟩;have X:=Hd (x1.alloc (.cells #[.int .u64 0,.int .u64 0,.int .i64 0,.int .i64 0] 238));go_wp2_with (fail);go_ret2;exact⟨rfl,by have:=X.out;first | exact x1 | exact this⟩
 | some s =>
  obtain⟨m,last,cost⟩:=s;obtain⟨pl,WO⟩:=XM l1 l2 hr.out;have hS:=WO.sub;have hla:=VY l1 WO;have h0m:0∉Zb m:=fun h=>((WO.rest 0).1 h).1.2 rfl
  have hlen:(Zb m).length<=24:=by have:=WO.len;omega
  have num:∀ a b,a<rows.length->b<rows.length->0<=Za rows a b/\Za rows a b<=2147483647:=fun a b ha hb=>by
   have e1:rows[a]?=some rows[a]:=List.getElem?_eq_getElem ha;have e2:=ok.row _ (List.getElem_mem ha);have e3:(rows[a])[b]?=some (rows[a])[b]:=List.getElem?_eq_getElem (by omega);unfold Za;rw[getD_some e1,getD_some e3];exact ok.num _ (List.getElem_mem ha) _ (List.getElem_mem _)
  have bcost:0<=cost/\cost<=2147483647*24:=by
   have h1:=Zal num pl 0 (by omega) fun x hx=>(WO.inn x hx).1
   have h2:=WO.len;rw[WO.cost];omega
  have RD:=Hd (fun(W:World) (x:Ext w W)=>Zd1 m last cost ok hS h0m hla W (hT.ext x) (H0.ext x));have EN:=Hd (fun(W:World) (x:Ext w W)=>ZgX m last cost ok hS hla W (hT.ext x) (H0.ext x));have bred:=Qu num (by omega) hla hS.2 hlen;have e:ZZ rows mi p=(cost+(if Zb m=[] then Za rows last 0 else if mi=true then max (ZI rows (Zb m) last) ((XL rows (Zb m) last+1) / 2) else ZI rows (Zb m) last),0):=by unfold ZZ;rw[hr.out]
  obtain⟨tot,ht⟩:∃ tot,Hid (tot=cost+(if Zb m=[] then Za rows last 0 else if mi=true then max (ZI rows (Zb m) last) ((XL rows (Zb m) last+1) / 2) else ZI rows (Zb m) last)):=⟨_,rfl⟩;rw[e,<-ht.out];clear e;simp only[ZgV,Q7] at FR;replace FR:=Hd FR;replace hB:=Hd hB;replace hV:=Hd hV;replace hR:=Hd hR
  by_cases hm0:m=0
  ·subst hm0
   have erow:rows[last]?=some rows[last]:=List.getElem?_eq_getElem hla;obtain⟨D,d,hu,oD⟩:=hR.out.2 _ _ erow;have lrow:=ok.row _ (List.getElem_mem hla);have ec:Za rows last 0=(rows[last]).getD 0 0:=by unfold Za;rw[getD_some erow]
   have nb:=num last 0 hla (by omega);generalize rows[last]=row at *;have ht2:Hid (tot=cost+row.getD 0 0):=by
    have h:=ht.out;rw[if_pos Qg,ec] at h;exact h
   rw[ec] at nb;clear ht RD EN bred ec erow hr WO;have EQ:=fun u:World=>Zh8 0 u
   go_enter Tryz.func207,Tryz.ntmps207;go_wp2_with (fail);refine(FR.out _ (Ext.rf w)).mono ?_;rintro e w1 ⟨rfl,x1⟩;have X:=Hd (x1.alloc (.cells #[.int .u64 ((0:Nat):Int),.int .u64 0,.int .i64 last,.int .i64 cost] 238));obtain⟨ab,ao,vv,rfl,zv,cv,ev⟩:=(hV.out.read.ext X.out).at (j:=last) (by rw[lus.out];exact hla);obtain rfl:.slice D row.length d=vv:=by
    have h:=ev.out;rw[hu] at h;exact Option.some.inj h
   obtain⟨cb,co,y,rfl,zy,cy,ey,_⟩:=(oD.read.ext X.out).at (k:=0) (by omega);have ey2:=getD_some (d:=0) ey.out;rw[ey2] at nb;have ht3:Hid (tot=cost+y):=by
    have h:=ht2.out;rw[ey2] at h;exact h
   have cG:(w1.alloc (.cells #[.int .u64 ((0:Nat):Int),.int .u64 0,.int .i64 last,.int .i64 cost] 238)).cell? ⟨g,0,none⟩=some (.slice (some ⟨ab,ao,none⟩) rows.length cc):=(hB.out.ext X.out).cell 0;replace cy:(w1.alloc (.cells #[.int .u64 ((0:Nat):Int),.int .u64 0,.int .i64 last,.int .i64 cost] 238)).cell? ⟨cb,co,none⟩=some (.int .i64 y):=cy;have q1:(last:Int)<(rows.length:Int):=by omega
   have q2:(0:Int)<(row.length:Int):=by omega
   have hw:IntKind.i64.wrap (cost+y)=cost+y:=IntWalk.i64_in _ (by omega);clear ev ey ey2 ht2;have bW:Blk (w1.alloc (.cells #[.int .u64 ((0:Nat):Int),.int .u64 0,.int .i64 last,.int .i64 cost] 238)) w1.heap.size 238 #[.int .u64 ((0:Nat):Int),.int .u64 0,.int .i64 last,.int .i64 cost]:=.new rfl;have c2:=bW.cell 2;have c3:=bW.cell 3;simp only[List.getElem?_toArray,List.getElem?_cons_zero,List.getElem?_cons_succ,Int.natCast_zero] at c2 c3 cG cy;have X':=X;simp only[Int.natCast_zero] at X';go_wp2_with (fail)
   try simp only[Int.natCast_zero]
   generalize w1.alloc (.cells #[.int .u64 0,.int .u64 0,.int .i64 last,.int .i64 cost] 238)=w2 at *;go_quiet (fail);go_wp2_with (fail);go_ret2;rw[ht3.out];exact⟨rfl,X'.out.drewN _⟩
  ·have hne:Zb m≠[]:=fun h=>hm0 ((ZgZ hS.1).1 h)
   have bend:=Zba num (by omega) hla hS.2 hlen hne;have EQ:=fun u:World=>Zh8 (m:Int) u
   have em:((m:Int)==0)=false:=by simp;omega
   rw[em] at EQ;obtain⟨rv,hrv⟩:∃ rv,Hid (ZI rows (Zb m) last=rv):=⟨_,rfl⟩;obtain⟨ev,hev⟩:∃ ev,Hid (XL rows (Zb m) last=ev):=⟨_,rfl⟩;rw[hrv.out] at RD bred;rw[hev.out] at EN bend;have ht2:Hid (tot=cost+(if mi=true then max rv ((ev+1) / 2) else rv)):=by
    have h:=ht.out;rw[if_neg hne,hrv.out,hev.out] at h;exact h
   have B1:∀ W:World,Blk (W.alloc (.cells #[.int .u64 m,.int .u64 0,.int .i64 last,.int .i64 cost] 238)) W.heap.size 238 #[.int .u64 m,.int .u64 0,.int .i64 last,.int .i64 cost]:=fun W=>.new rfl
   replace B1:=Hd B1;clear ht hr WO hm0 hne num H0 hT;go_enter Tryz.func207,Tryz.ntmps207;go_wp2_with (fail);refine(FR.out _ (Ext.rf w)).mono ?_;rintro e w1 ⟨rfl,x1⟩;have X:=Hd (x1.alloc (.cells #[.int .u64 m,.int .u64 0,.int .i64 last,.int .i64 cost] 238));clear x1;go_wp2_with (fail);refine(RD.out _ X.out).mono ?_;rintro e w2 ⟨rfl,x2⟩;have X2:=Hd (X.out.tr x2);have bW:=(B1.out w1).ext x2;have c0:=bW.c0;have c1:=bW.c1;have c2:=bW.c2;have c3:=bW.c3;have cM:w2.cell? ⟨g,1,none⟩=some (.bool mi):=(hB.out.ext X2.out).cell 1;clear x2
   cases mi with
   | false =>
    have ht3:Hid (tot=cost+rv):=ht2.out;have hw:IntKind.i64.wrap (cost+rv)=cost+rv:=IntWalk.i64_in _ (by omega);go_wp2_with (fail);go_ret2;rw[ht3.out];exact⟨rfl,X2.out⟩
   | true =>
    have ht3:Hid (tot=cost+max rv ((ev+1) / 2)):=ht2.out;have hw1:IntKind.i64.wrap (ev+1)=ev+1:=IntWalk.i64_in _ (by omega);have hq:(ev+1).tdiv 2=(ev+1) / 2:=Int.tdiv_eq_ediv_of_nonneg (by omega);have hw2:IntKind.i64.wrap ((ev+1) / 2)=(ev+1) / 2:=IntWalk.i64_in _ (by omega);have hmax:(if rv<(ev+1) / 2 then(ev+1) / 2 else rv)=max rv ((ev+1) / 2):=by split<;>omega
    obtain⟨mv,hmv⟩:∃ mv,Hid (max rv ((ev+1) / 2)=mv):=⟨_,rfl⟩;have bmv:0<=mv/\mv<=4294967294*100:=by rw[<-hmv.out];omega
    rw[hmv.out] at ht3 hmax;have hw3:IntKind.i64.wrap (cost+mv)=cost+mv:=IntWalk.i64_in _ (by omega);replace bW:=Hd bW;go_wp2_with (fail);refine(EN.out _ X2.out).mono ?_;rintro e w3 ⟨rfl,x3⟩;have X3:=Hd (X2.out.tr x3);have k2:w3.cell? ⟨w1.heap.size,2,none⟩=some (.int .i64 last):=(bW.out.ext x3).cell 2;have k3:w3.cell? ⟨w1.heap.size,3,none⟩=some (.int .i64 cost):=(bW.out.ext x3).cell 3;clear x3;go_wp2_with (fail);go_ret2;rw[ht3.out];exact⟨rfl,X3.out⟩
end
section
theorem Zd2 (i:InstP)(us:List Value)(w:World)(H:RInst w us i)(ok:SquareOk i) :
  Calls Tryz.prog 108 #[.agg (List.toArray us)] w fun e w'=>e=.returned (.bool (Wh i.cost))/\Ext w w':=by
 have rok:=ZP ok;have n24:=rok.n2;have hnn:i.n=(i.cost.length:Int):=ok.len.symm;clear ok;obtain⟨kind,nn,cap,xw,xv,co⟩:=i;obtain⟨A,a,B,b,D,d,rfl,-,-,⟨hC,-,-⟩⟩:=H;simp only at *;subst hnn;have B1:Hid (Blk (w.alloc (.cells #[.int .i64 kind,.int .i64 co.length,.int .i64 cap,.slice A xw.length a,.slice B xv.length b,.slice D co.length d] 25)) w.heap.size 25 #[.int .i64 kind,.int .i64 co.length,.int .i64 cap,.slice A xw.length a,.slice B xv.length b,.slice D co.length d]):=.new rfl;replace hC:=Hd hC;replace rok:=Hd rok;obtain⟨mm,hmm⟩:∃ mm,Hid (Wh co=mm):=⟨_,rfl⟩;rw[hmm.out];go_enter Tryz.func108,Tryz.ntmps108;have X1:Hid (Ext w (w.alloc (.cells #[.int .i64 kind,.int .i64 co.length,.int .i64 cap,.slice A xw.length a,.slice B xv.length b,.slice D co.length d] 25))):=(Ext.rf _).alloc _;go_wp2_with (fail);generalize w.alloc (.cells #[.int .i64 kind,.int .i64 co.length,.int .i64 cap,.slice A xw.length a,.slice B xv.length b,.slice D co.length d] 25)=w1 at *;have BB:=B1;go_loopw [3] (fun v wr=>∃ k:Nat,v=.int .i64 k/\k<=co.length/\Hid (∀ x,x<k->∀ y,y<x->Za co x y=Za co y x)/\Hid (Ext w1 wr)) (fun v _=>co.length-(intOf v).toNat)
 case atStart=>exact⟨0,rfl,by omega,fun x hx=>absurd hx (Nat.not_lt_zero _),Ext.rf _⟩
 case round =>
  obtain⟨wo,rfl⟩:=Wq wr;obtain⟨k,rfl,hk,HS,Y⟩:=hrel;have cN:wo.cell? ⟨w.heap.size,1,none⟩=some (.int .i64 co.length):=(BB.out.ext Y.out).cell 1
  by_cases hlt:k<co.length
  ·have XW:Hid (Ext w wo):=X1.out.tr Y.out
   obtain⟨cb,cof,D',row,d',rfl,zb,cD,er,_,rD,iD,ld,md⟩:=(hC.out.ext XW.out fun _ _ h=>h.ext XW.out).ints hlt;have lrow:=rok.out.row row (List.mem_of_getElem? er.out);have q1:(k:Int)<(co.length:Int):=by omega
   replace er:=Hd er.out;replace rD:=Hd rD;go_wp2_with (fail);go_loopw [4] (fun v wr=>∃ j:Nat,v=.int .i64 j/\j<=k/\Hid (∀ y,y<j->Za co k y=Za co y k)/\Hid (Ext wo wr)) (fun v _=>k-(intOf v).toNat)
   case atStart=>exact⟨0,rfl,by omega,fun y hy=>absurd hy (Nat.not_lt_zero _),Ext.rf _⟩
   case round =>
    obtain⟨wi,rfl⟩:=Wq wr;obtain⟨j,rfl,hj,HJ,Z⟩:=hrel;have XZ:=Hd (Ext.tr (a:=w) (XW.out) Z.out)
    by_cases hlj:j<k
    ·obtain⟨cb',cof',D2,row2,d2,hq,zb2,cD2,er2,_,rD2,iD2,ld2,md2⟩:=(hC.out.ext XZ.out fun _ _ h=>h.ext XZ.out).ints (r:=j) (by omega)
     obtain⟨rfl,rfl⟩:cb=cb'/\cof=cof':=by simpa using hq
     have cDk:=(Z.out.cells.1 _ (cof+k) zb).trans cD;have lrow2:=rok.out.row row2 (List.mem_of_getElem? er2.out);obtain⟨rb,ro,x,rfl,zx,cx,ex,_⟩:=(rD.out.ext Z.out).at (k:=j) (by omega);obtain⟨rb2,ro2,y,rfl,zy,cy,ey,_⟩:=rD2.at (k:=k) (by omega);have d5':wi.cell? ⟨w.heap.size,5,none⟩=some (.slice (some ⟨cb,cof,none⟩) co.length d):=((BB.out.ext Y.out).ext Z.out).cell 5;have exy:Hid (Za co k j=x/\Za co j k=y):=by
      refine⟨?_,?_⟩
      ·unfold Za;rw[getD_some er.out,getD_some ex.out]
      ·unfold Za;rw[getD_some er2.out,getD_some ey.out]
     have q2:(j:Int)<(co.length:Int):=by omega
     have q3:(j:Int)<(row.length:Int):=by omega
     have q4:(k:Int)<(row2.length:Int):=by omega
     replace ex:=Hd ex.out;replace ey:=Hd ey.out;replace er2:=Hd er2.out;replace rD2:=Hd rD2;have q5:(k:Int)<(co.length:Int):=by omega
     clear hq
     by_cases hxy:x=y
     ·subst hxy
      have t0:(x != x)=false:=by simp
      have NX:Hid (∀ yy,yy<j+1->Za co k yy=Za co yy k):=fun yy hy=>by
       by_cases e:yy=j
       ·subst e;rw[exy.out.1,exy.out.2]
       ·exact HJ.out yy (by omega)
      go_wp2_with (fail);go_quiet (fail);go_wp2_with (fail);go_roundw
      case rel=>exact⟨j+1,by go_num,by omega,NX,Z.out.drewN _⟩
      case measure=>simp[intOf];omega
     ·have t0:(x != y)=true:=by simpa using hxy
      have HM:Hid (mm=false):=Hd (by
       rw[<-hmm.out];exact ZaR hlt hlj (by rw[exy.out.1,exy.out.2];exact hxy))
      go_wp2_with (fail);go_quiet (fail);go_wp2_with (fail);go_ret;rw[HM.out];exact⟨rfl,XZ.out.drewN _⟩
    ·obtain rfl:j=k:=by omega
     have q2:¬(j:Int)<(j:Int):=by omega
     have HS3:Hid (∀ x,x<j+1->∀ y,y<x->Za co x y=Za co y x):=fun x hx=>by
      by_cases e:x=j
      ·subst e;exact HJ.out
      ·exact HS.out x (by omega)
     have YZ:=Hd (Y.out.tr Z.out);go_wp2_with (fail);go_roundw
     case rel=>exact⟨j+1,by go_num,by omega,HS3,YZ.out⟩
     case measure=>simp[intOf];omega
  ·obtain rfl:k=co.length:=by omega
   have HM:Hid (mm=true):=Hd (by
    rw[<-hmm.out];exact Zb0 HS.out)
   have q2:¬(co.length:Int)<(co.length:Int):=by omega
   have XW:=Hd (X1.out.tr Y.out);go_wp2_with (fail);go_ret;rw[HM.out];exact⟨rfl,XW.out⟩
theorem XQ {fn:Func}{t u v x:Tmp}(h:fn.results=#[.tmp t,.tmp u,.tmp v,.tmp x])(tmps:Array Value)(P:Program)(w:World) :
  (results fn tmps).run P w=.ok (.tuple #[tmps.getD t undef,tmps.getD u undef,tmps.getD v undef,tmps.getD x undef]) w:=by
 simp[results,h]
abbrev ZjH : Array Value:=#[.bool true,.bool false,.bool false,.bool false,.bool false,.bool false,.bool false,.bool false,.bool false,.bool false,.bool false,.bool false,.bool false,.bool false,.bool false,.bool false,.bool false,.bool false,.bool false,.bool false,.bool false,.bool false,.bool false,.bool false]
theorem Zfc {n:Nat}(h1:1<=n)(h:n<=24) : Xc n (Vi n)=ZjH:=by
 unfold Vi;rw[<-Ju (YM h).1 (by omega),ZaZ h]
 rfl
def VZ (m last:Nat)(cost:Int)(w:World)(e:Ending)(w':World) : Prop:=∃ A c,e=.returned (.tuple #[.slice A (Zb m).length c,.int .i64 last,.int .i64 cost,.bool true])/\OwI w' w.heap.size A c (Zf (Zb m))/\Ext w w'
def Zgc (r:Option (Nat×Nat×Int))(w:World)(e:Ending)(w':World) : Prop:=match r with
 | none=>e=.returned (.tuple #[.slice none 0 0,.int .i64 0,.int .i64 0,.bool false])/\Ext w w'
 | some (m,last,cost)=>VZ m last cost w e w'
theorem Zcj (i:InstP)(us:List Value)(P:Option Addr)(pc:Nat)(p:List Int)(w:World)(H:RInst w us i)(n:Nat)(hn:i.n=n)(hcn:i.cost.length=n)(rok:RowsOk i.cost)(h1:1<=n)(h24:n<=24)(hP:RdI w P p)(lp:p.length<=1000000000) :
  Calls Tryz.prog 84 #[.agg (List.toArray us),.slice P p.length pc] w (Zgc (Yq i.cost p) w):=by
 obtain⟨kind,nn,cap,xw,xv,co⟩:=i;obtain⟨A,a,B,b,D,d,rfl,-,-,⟨hC,-,-⟩⟩:=H;simp only at *;subst hn;replace hC:=Hd hC;replace rok:=Hd rok;replace hcn:=Hd hcn;have UF:Hid (SubN n (Vi n)):=Jy h24;obtain⟨r,hr⟩:∃ r,Hid (Yq co p=r):=⟨_,rfl⟩;rw[hr.out];unfold Yq at hr;rw[hcn.out] at hr;replace hP:=Hd hP;have B1:Hid (Blk (w.alloc (.cells #[.int .i64 kind,.int .i64 n,.int .i64 cap,.slice A xw.length a,.slice B xv.length b,.slice D co.length d] 25)) w.heap.size 25 #[.int .i64 kind,.int .i64 n,.int .i64 cap,.slice A xw.length a,.slice B xv.length b,.slice D co.length d]):=.new rfl
 by_cases hlen:n-1<p.length
 ·have hr2:Hid (r=none):=by
   have h:=hr.out;rw[if_pos hlen] at h;exact h.symm
  have hlb:(n:Int)-1<(p.length:Int):=by omega
  have hw:IntKind.i64.wrap ((n:Int)-1)=(n:Int)-1:=IntWalk.i64_in _ (by omega);rw[hr2.out];unfold Zgc;clear hr hr2;go_enter Tryz.func84,Tryz.ntmps84;go_wp2_with (fail)
  ((try simp only[Exit.inBlock,Exit.then]);refine bodyPost_ret (XQ rfl _ _ _) rfl ?_)
  exact⟨rfl,XI⟩
 ·have hr2:Hid (Xl co (Vi n) 0 0 p=r):=by
   have h:=hr.out;rw[if_neg hlen] at h;exact h
  have hlb:¬(n:Int)-1<(p.length:Int):=by omega
  have hw:IntKind.i64.wrap ((n:Int)-1)=(n:Int)-1:=IntWalk.i64_in _ (by omega);obtain⟨m0,hm0⟩:∃ m0,Hid (m0=Vi n):=⟨Vi n,by exact rfl⟩;have FU2:Hid (Xc n m0=ZjH):=by rw[hm0.out];exact Zfc h1 h24
  rw[<-hm0.out] at hr2 UF;have START:Hid (Ext w ((w.alloc (.cells #[.int .i64 kind,.int .i64 n,.int .i64 cap,.slice A xw.length a,.slice B xv.length b,.slice D co.length d] 25)).alloc (.cells #[.bool true,.bool false,.bool false,.bool false,.bool false,.bool false,.bool false,.bool false,.bool false,.bool false,.bool false,.bool false,.bool false,.bool false,.bool false,.bool false,.bool false,.bool false,.bool false,.bool false,.bool false,.bool false,.bool false,.bool false] 153))/\Blk ((w.alloc (.cells #[.int .i64 kind,.int .i64 n,.int .i64 cap,.slice A xw.length a,.slice B xv.length b,.slice D co.length d] 25)).alloc (.cells #[.bool true,.bool false,.bool false,.bool false,.bool false,.bool false,.bool false,.bool false,.bool false,.bool false,.bool false,.bool false,.bool false,.bool false,.bool false,.bool false,.bool false,.bool false,.bool false,.bool false,.bool false,.bool false,.bool false,.bool false] 153)) w.heap.size 25 #[.int .i64 kind,.int .i64 n,.int .i64 cap,.slice A xw.length a,.slice B xv.length b,.slice D co.length d]/\Blk ((w.alloc (.cells #[.int .i64 kind,.int .i64 n,.int .i64 cap,.slice A xw.length a,.slice B xv.length b,.slice D co.length d] 25)).alloc (.cells #[.bool true,.bool false,.bool false,.bool false,.bool false,.bool false,.bool false,.bool false,.bool false,.bool false,.bool false,.bool false,.bool false,.bool false,.bool false,.bool false,.bool false,.bool false,.bool false,.bool false,.bool false,.bool false,.bool false,.bool false] 153)) (w.heap.size+1) 153 (Xc n m0)) :=
   ⟨((Ext.rf _).alloc _).alloc _,B1.out.alloc _,by rw[FU2.out];exact .new (by simp)⟩
  clear hr;go_enter Tryz.func84,Tryz.ntmps84;go_wp2_with (fail);go_loopw [11,10,9] (fun v cv lv wr=>∃ (k m last:Nat) (cost:Int),v=.int .i64 k/\cv=.int .i64 cost/\lv=.int .i64 last/\k<=p.length/\Hid (Xl co m last cost (p.drop k)=r)/\Hid (SubN n m)/\Hid (last<n/\0<=cost/\cost<=2147483647*(k:Int))/\Hid (Ext w wr/\Blk wr w.heap.size 25 #[.int .i64 kind,.int .i64 n,.int .i64 cap,.slice A xw.length a,.slice B xv.length b,.slice D co.length d]/\Blk wr (w.heap.size+1) 153 (Xc n m))) (fun v _ _ _=>p.length-(intOf v).toNat)
  case atStart=>exact⟨0,m0,0,0,rfl,rfl,rfl,by omega,hr2,UF,by exact(show 0<n/\(0:Int)<=0/\(0:Int)<=2147483647*((0:Nat):Int) from⟨by omega,by omega,by omega⟩),START⟩
  case round =>
   obtain⟨wo,rfl⟩:=Wq wr;clear START FU2;obtain⟨k,m,last,cost,rfl,rfl,rfl,hk,HF,HU,HL,HH⟩:=hrel;obtain⟨Y,bI,bU⟩:=HH.out;have cN:=bI.c1;replace Y:=Hd Y;replace bI:=Hd bI;replace bU:=Hd bU;clear HH
   by_cases hlt:k<p.length
   ·obtain⟨pb,po,c,rfl,zp,cp,ep,dp⟩:=(hP.out.ext Y.out).at hlt
    have HF2:Hid (r=if 0<=c/\c<64/\m.testBit c.toNat=true then Xl co (YG m c.toNat) c.toNat (cost+Za co last c.toNat) (p.drop (k+1)) else none):=by
     have h:=HF.out;rw[dp.out,Za7] at h;exact h.symm
    have q1:(k:Int)<(p.length:Int):=by omega
    clear HF dp
    by_cases c0:c<0
    ·have HN:Hid (r=none):=by
      have h:=HF2.out;rw[if_neg (by omega)] at h;exact h
     have t0:decide (c<0)=true:=decide_eq_true c0;go_wp2_with (fail);go_quiet (fail);go_wp2_with (fail)
     ((try simp only[Exit.inBlock,Exit.then]);refine bodyPost_ret (XQ rfl _ _ _) rfl ?_)
     rw[HN.out];exact⟨rfl,Y.out.drewN _⟩
    ·have t0:decide (c<0)=false:=decide_eq_false c0
     obtain⟨ci,rfl⟩:∃ ci:Nat,c=(ci:Int):=⟨c.toNat,by omega⟩;rw[Int.toNat_natCast] at HF2;clear c0 t0
     by_cases c1:n<=ci
     ·have HN:Hid (r=none):=by
       have h:=HF2.out;rw[if_neg (by rintro ⟨_,h1,h2⟩;have:=HU.out.2 ci (Yl.2 ⟨by omega,h2⟩);omega)] at h;exact h
      have t1:decide (n<=ci)=true:=decide_eq_true c1;have t2:decide ((n:Int)<=(ci:Int))=true:=decide_eq_true (by omega);go_wp2_with (fail);go_quiet (fail);go_wp2_with (fail)
      ((try simp only[Exit.inBlock,Exit.then]);refine bodyPost_ret (XQ rfl _ _ _) rfl ?_)
      rw[HN.out];exact⟨rfl,Y.out.drewN _⟩
     ·have t1:decide (n<=ci)=false:=decide_eq_false c1
      have t2:decide ((n:Int)<=(ci:Int))=false:=decide_eq_false (by omega);have cin:ci<n:=by omega
      have ci24:(ci:Int)<24:=by omega
      have dn:decide (ci<n)=true:=decide_eq_true cin
      cases hb:m.testBit ci with
      | false =>
       have HN:Hid (r=none):=by
        have h:=HF2.out;rw[if_neg (by rintro ⟨_,h1,h2⟩;rw[hb] at h2;cases h2)] at h;exact h
       have cu:wo.cell? ⟨w.heap.size+1,ci,none⟩=some (.bool true):=by rw[bU.out.cell,Xd (by omega),dn,hb];rfl
       clear HF2 hb dn;go_wp2_with (fail);go_quiet (fail);go_wp2_with (fail)
       ((try simp only[Exit.inBlock,Exit.then]);refine bodyPost_ret (XQ rfl _ _ _) rfl ?_)
       rw[HN.out];exact⟨rfl,Y.out.drewN _⟩
      | true =>
       have HF3:Hid (Xl co (YG m ci) ci (cost+Za co last ci) (p.drop (k+1))=r):=by
        have h:=HF2.out;rw[if_pos ⟨by omega,by omega,hb⟩] at h;exact h.symm
       have cu:wo.cell? ⟨w.heap.size+1,ci,none⟩=some (.bool false):=by rw[bU.out.cell,Xd (by omega),dn,hb];rfl
       have fu:=bU.out.free ci;have HU2:=Hd (HU.out.clr ci);have NX:Hid (∀ q,Ext w ((wo.drewN q).setCell ⟨w.heap.size+1,ci,none⟩ (.bool true))/\Blk ((wo.drewN q).setCell ⟨w.heap.size+1,ci,none⟩ (.bool true)) w.heap.size 25 #[.int .i64 kind,.int .i64 n,.int .i64 cap,.slice A xw.length a,.slice B xv.length b,.slice D co.length d]/\Blk ((wo.drewN q).setCell ⟨w.heap.size+1,ci,none⟩ (.bool true)) (w.heap.size+1) 153 (Xc n (YG m ci))):=by
        intro q;refine⟨(Y.out.drewN q).setNew (by simp) _,(bI.out.drewN q).far (by simp) _,?_⟩;rw[<-Ju HU.out.1 cin];exact(bU.out.drewN q).set ci _
       clear HF2 hb dn;generalize YG m ci=m2 at *;go_wp2_with (fail);go_quiet (fail);go_wp2_with (fail);obtain⟨NY,NI,NU⟩:=NX.out nq;clear cu fu cN cp zp NX;generalize (wo.drewN nq).setCell ⟨w.heap.size+1,ci,none⟩ (.bool true)=w2 at *;have hlc:last<co.length:=by have:=HL.out.1;have:=hcn.out;omega
       obtain⟨cb,cof,D',row,d',hDq,zb,cD,er,_,rD,_,_,_⟩:=(hC.out.ext NY fun _ _ h=>h.ext NY).ints (r:=last) hlc;subst hDq;have hmem:=List.mem_of_getElem? er.out;have lrow:=rok.out.row row hmem;have nrow:=rok.out.num row hmem;obtain⟨rb,ro,y,rfl,zx,cx,ex,_⟩:=rD.at (k:=ci) (by have:=hcn.out;omega);obtain⟨pb2,po2,c2,hpq,zp2,cp2,ep2,_⟩:=(hP.out.ext NY).at hlt;obtain⟨rfl,rfl⟩:pb=pb2/\po=po2:=by simpa using hpq
       obtain rfl:(ci:Int)=c2:=by
        have h:=ep2.out;rw[ep.out] at h;exact Option.some.inj h
       have ny:=nrow y (List.mem_of_getElem? ex.out);have ecost:Za co last ci=y:=by unfold Za;rw[getD_some er.out,getD_some ex.out]
       rw[ecost] at HF3;have HL2:Hid (ci<n/\0<=cost+y/\cost+y<=2147483647*((k+1:Nat):Int)):=by
        have h:=HL.out;have:ci<n/\0<=cost+y/\cost+y<=2147483647*((k+1:Nat):Int):=⟨cin,by omega,by omega⟩;exact this
       have hw2:IntKind.i64.wrap (cost+y)=cost+y:=IntWalk.i64_in _ (by have:=HL2.out;omega);have cI5:=NI.c5;have q6:(last:Int)<(co.length:Int):=by omega
       have q7:(ci:Int)<(row.length:Int):=by have:=hcn.out;omega
       have NN:Hid (∀ q,Ext w (w2.drewN q)/\Blk (w2.drewN q) w.heap.size 25 #[.int .i64 kind,.int .i64 n,.int .i64 cap,.slice A xw.length a,.slice B xv.length b,.slice (some ⟨cb,cof,none⟩) co.length d]/\Blk (w2.drewN q) (w.heap.size+1) 153 (Xc n m2)):=fun q=>⟨NY.drewN q,NI.drewN q,NU.drewN q⟩
       clear ex er rD hmem lrow nrow ecost hlc NY NI NU ep ep2 hpq;go_quiet (fail);go_wp2_with (fail);go_roundw
       case rel=>exact⟨k+1,m2,ci,cost+y,by go_num,rfl,rfl,by omega,HF3,HU2,HL2,NN.out _⟩
       case measure=>simp[intOf];omega
   ·have HF2:Hid (some (m,last,cost)=r):=by
     have h:=HF.out;rw[show p.drop k=[] from List.drop_of_length_le (by omega)] at h;exact h
    have q1:¬(k:Int)<(p.length:Int):=by omega
    have HM:Hid (Zb m=YR m n):=JZ HU.out (by omega);have X9:=Hd (Y.out.alloc (.cells #[] 3));have bI9:=Hd (bI.out.alloc (.cells #[] 3));have bU9:=Hd (bU.out.alloc (.cells #[] 3));have zY:=Y.out.size;have o9:Hid (OwI (wo.alloc (.cells #[] 3)) w.heap.size (some ⟨wo.heap.size,0,none⟩) 0 (Zf (YR m 0))):=OwI.new (xs:=[]) rfl zY (by simp[maxLen]);clear HF HU hr2;go_wp2_with (fail);go_loopw [13,12] (fun v o wr=>∃ (k:Nat) (A':Option Addr) (c':Nat),v=.int .i64 k/\o=.slice A' (YR m k).length c'/\k<=n/\Hid (OwI wr w.heap.size A' c' (Zf (YR m k)))/\Hid (Ext w wr)/\Hid (Blk wr w.heap.size 25 #[.int .i64 kind,.int .i64 n,.int .i64 cap,.slice A xw.length a,.slice B xv.length b,.slice D co.length d])/\Hid (Blk wr (w.heap.size+1) 153 (Xc n m))) (fun v _ _=>n-(intOf v).toNat)
    case atStart=>exact⟨0,_,_,rfl,rfl,by omega,o9,X9,bI9,bU9⟩
    case round =>
     obtain⟨wi,rfl⟩:=Wq wr;obtain⟨j,A',c',rfl,rfl,hj,oJ,YJ,bIJ,bUJ⟩:=hrel;clear X9 bI9 bU9 o9;have cN2:=bIJ.out.c1;have US:=Hd (Zb9 m j);have UL:=ZdN m j
     by_cases hjn:j<n
     ·have j24:(j:Int)<24:=by omega
      have dn:decide (j<n)=true:=decide_eq_true hjn;have q3:(j:Int)<(n:Int):=by omega
      cases hb:m.testBit j with
      | false =>
       have cu:wi.cell? ⟨w.heap.size+1,j,none⟩=some (.bool true):=by rw[bUJ.out.cell,Xd (by omega),dn,hb];rfl
       have HE:Hid (YR m (j+1)=YR m j):=by
        have h:=US.out;rw[hb,if_neg (by simp),List.append_nil] at h;exact h
       clear US hb dn;go_wp2_with (fail);go_roundw
       case rel=>exact⟨j+1,A',c',by go_num,by rw[HE.out],by omega,by rw[HE.out];exact oJ,YJ,bIJ,bUJ⟩
       case measure=>simp[intOf];omega
      | true =>
       have cu:wi.cell? ⟨w.heap.size+1,j,none⟩=some (.bool false):=by rw[bUJ.out.cell,Xd (by omega),dn,hb];rfl
       have HE:Hid (YR m (j+1)=YR m j++[j]):=by
        have h:=US.out;rw[hb,if_pos rfl] at h;exact h
       have HE2:Hid (Zf (YR m (j+1))=Zf (YR m j)++[(j:Int)]):=Hd (by rw[HE.out];simp[Zf]);have HL:Hid ((YR m (j+1)).length=(YR m j).length+1):=Hd (by rw[HE.out];simp);have zJ:=YJ.out.size;have e0:(YR m j).length=(Zf (YR m j)).length:=(Zh _).symm;have l0:(Zf (YR m j)).length<=24:=by rw[Zh];omega
       rw[e0];clear US hb dn UL e0 HE;replace l0:=Hd l0;go_wp2_with (at_builtin;refine Yx _ rfl _ _ rfl w.heap.size A' (Zf (YR m j)).length c' (Zf (YR m j)) [(j:Int)] (some ⟨wi.heap.size,0,none⟩) 1 rfl rfl rfl ?_ ?_ ?_ ?_ ?_;(exact oJ.out.ext ((Ext.rf _).alloc _));(exact .blk (.new (by simp)) rfl);(have:=l0.out;simp;omega);(first | exact Nat.le_refl _ | omega | (focus (simp;try omega)));rintro A5 c5 w5 o5 g5 _;have X5:=Hd (Ext.grow (YJ.out.alloc _) g5 (fun k hk=>(oJ.out.lt k hk).1));have bI5:Hid (Blk w5 w.heap.size 25 #[.int .i64 kind,.int .i64 n,.int .i64 cap,.slice A xw.length a,.slice B xv.length b,.slice D co.length d]):=(bIJ.out.alloc _).mod (Mod.grown (S:=fun k=>bl A'=some k) g5 (fun _ h=>h)) (fun h=>absurd rfl (oJ.out.ne bIJ.out (by decide) _ h));have bU5:Hid (Blk w5 (w.heap.size+1) 153 (Xc n m)):=(bUJ.out.alloc _).mod (Mod.grown (S:=fun k=>bl A'=some k) g5 (fun _ h=>h)) (fun h=>absurd rfl (oJ.out.ne bUJ.out (by decide) _ h));rw[<-HE2.out] at o5;replace o5:=Hd o5;clear g5);go_roundw
       case rel=>exact⟨j+1,A5,c5,by go_num,by rw[HL.out,Zh],by omega,o5,X5,bI5,bU5⟩
       case measure=>simp[intOf];omega
     ·obtain rfl:j=n:=by omega
      have q3:¬(j:Int)<(j:Int):=by omega
      have FIN:Hid (VZ m last cost w (.returned (.tuple #[.slice A' (YR m j).length c',.int .i64 last,.int .i64 cost,.bool true])) wi):=⟨A',c',by rw[HM.out],by rw[HM.out];exact oJ.out,YJ.out⟩;clear US UL;go_wp2_with (fail)
      ((try simp only[Exit.inBlock,Exit.then]);refine bodyPost_ret (XQ rfl _ _ _) rfl ?_)
      rw[<-HF2.out];exact FIN.out
theorem Zd3 (i:InstP)(us:List Value)(P:Option Addr)(pc:Nat)(p:List Int)(w:World)(H:RInst w us i)(ok:SquareOk i)(hP:RdI w P p)(lp:p.length<=1000000000) :
  Calls Tryz.prog 52 #[.agg (List.toArray us),.slice P p.length pc] w (Ys (Xu i.cost p).1 (Xu i.cost p).2 w):=by
 have rok:=ZP ok;have l1:=rok.n1;have l2:=rok.n2;have hnn:i.n=(i.cost.length:Int):=ok.len.symm;have FR:=fun(W:World) (x:Ext w W)=>Zcj i us P pc p W (H.ext x) i.cost.length hnn rfl rok l1 l2 (hP.ext x) lp
 clear ok;obtain⟨kind,nn,cap,xw,xv,co⟩:=i;obtain⟨A,a,B,b,D,d,rfl,-,-,⟨hC,-,-⟩⟩:=H;simp only at *;subst hnn;obtain⟨r,hr⟩:∃ r,Hid (Yq co p=r):=⟨_,rfl⟩;rw[hr.out] at FR;replace hP:=Hd hP;have B1:Hid (Blk (w.alloc (.cells #[.int .i64 kind,.int .i64 co.length,.int .i64 cap,.slice A xw.length a,.slice B xv.length b,.slice D co.length d] 25)) w.heap.size 25 #[.int .i64 kind,.int .i64 co.length,.int .i64 cap,.slice A xw.length a,.slice B xv.length b,.slice D co.length d]):=.new rfl
 cases r with
 | none =>
  have e:Xu co p=([],1):=by unfold Xu;rw[hr.out]
  rw[e];unfold Zgc at FR;replace FR:=Hd FR;go_enter Tryz.func52,Tryz.ntmps52;go_wp2_with (fail);refine(FR.out _ XI).mono ?_;rintro e w1 ⟨rfl,x1⟩;have X1:=Hd (Ext.tr (a:=w) XI x1);clear x1;go_wp2_with (fail);go_ret2;exact⟨none,0,rfl,OwI.nil _ _,X1.out⟩
 | some s =>
  obtain⟨m,last,cost⟩:=s;obtain⟨pl,WO⟩:=XM l1 l2 hr.out;have hS:=WO.sub;have hlast:=VY l1 WO;have hlen:(Zb m).length<=24:=by have:=WO.len;omega
  have e:Xu co p=(Zf (Yh (ltC (cfR (co.getD last []))) (Zb m)),0):=by unfold Xu;rw[hr.out]
  rw[e];clear e;have hsub:=Hd hS.2;have hsrt:=Hd (ZD m);replace FR:=fun(W:World) (x:Ext w W)=>(show Calls _ _ _ W (VZ m last cost W) from FR W x)
  unfold VZ at FR;replace FR:=Hd FR;clear hr hS WO;generalize Zb m=l at *;have hkr:last<co.length:=hlast;have er:co[last]?=some co[last]:=List.getElem?_eq_getElem hkr;have eg:co.getD last []=co[last]:=by simp[List.getD,er]
  rw[eg];clear eg;replace hC:=Hd hC;have hmem:co[last]∈co:=List.getElem_mem hkr;have lrow:=rok.row _ hmem;clear hmem;have HCO:Hid (∀ W,Ext w W->∃ bb off D' row d',D=some ⟨bb,off,none⟩/\W.cell? ⟨bb,off+last,none⟩=some (.slice D' row.length d')/\RdI W D' row/\row=co[last]):=by
   intro W x;obtain⟨bb,off,D',row,d',h1,_,h3,h4,_,h6,_⟩:=(hC.out.ext x fun _ _ h=>h.ext x).ints hkr;refine⟨bb,off,D',row,d',h1,h3,h6,?_⟩;have:=h4.out;rw[er] at this;exact(Option.some.inj this).symm
  generalize co[last]=row0 at *;clear er;have q1:(last:Int)<(co.length:Int):=by omega
  have hl24:l.length<=24:=by omega
  replace lrow:=Hd lrow;replace hlen:=Hd hlen;go_enter Tryz.func52,Tryz.ntmps52;go_wp2_with (fail);refine(FR.out _ XI).mono ?_;rintro e w1 ⟨A1,c1,rfl,o1,x1⟩;have X1:=Hd (Ext.tr (a:=w) XI x1);have BB:=Hd (B1.out.ext x1);obtain⟨bb,off,D',row,d',rfl,cD,rD,rfl⟩:=HCO.out _ X1.out;have d1:=BB.out.c1;have d5:=BB.out.c5;have z1:=X1.out.size;have zo:=o1.lt;replace o1:=Hd o1.read;replace rD:=Hd rD;clear x1 HCO zo;go_wp2_with (at_make;refine W7 _ rfl _ _ rfl w1.heap.size _ _ l.length rfl rfl rfl rfl (by omega) (Nat.le_refl _) ?_;rintro w3 o3 g3);have x3:Ext w1 w3:=(Ext.rf _).grownNone g3;have S3:Hid (OwI w3 w1.heap.size (some ⟨w1.heap.size,0,none⟩) l.length (Yp (Zy (ltC (cfR row)) l) l 0)/\Ext w1 w3):=⟨o3,x3⟩;clear o3 g3 x3 d1 d5 cD;go_wp2_with (fail);go_loopw [12] (fun v wr=>∃ k:Nat,v=.int .i64 k/\k<=l.length/\Hid (OwI wr w1.heap.size (some ⟨w1.heap.size,0,none⟩) l.length (Yp (Zy (ltC (cfR row)) l) l k)/\Ext w1 wr)) (fun v _=>l.length-(intOf v).toNat)
  case atStart=>exact⟨0,rfl,by omega,S3⟩
  case round =>
   obtain⟨wo,rfl⟩:=Wq wr;obtain⟨k,rfl,hk,HS⟩:=hrel;clear S3
   by_cases hlt:k<l.length
   ·have q2:(k:Int)<(l.length:Int):=by omega
    have ek:l[k]?=some l[k]:=List.getElem?_eq_getElem hlt;have hkm:l[k]∈l:=List.getElem_mem hlt;have HPK:Hid (Yp (Zy (ltC (cfR row)) l) l (k+1)=(Yp (Zy (ltC (cfR row)) l) l k).set (Zy (ltC (cfR row)) l l[k]) ((l[k]:Nat):Int)):=by
     have h:Yp (Zy (ltC (cfR row)) l) l (k+1)=(Yp (Zy (ltC (cfR row)) l) l k).set (Zy (ltC (cfR row)) l (l.getD k 0)) ((l.getD k 0:Nat):Int):=rfl;rw[show l.getD k 0=l[k] by simp[List.getD,ek]] at h;exact h
    have hxs:=hsub.out _ hkm;generalize l[k]=x at *;obtain⟨O,Y⟩:=HS.out;clear HS;replace O:=Hd O;replace Y:=Hd Y;go_wp2_with (fail);go_loopw [14,13] (fun v nv wr=>∃ j:Nat,v=.int .i64 j/\nv=.int .i64 (Zy (ltC (cfR row)) (l.take j) x:Nat)/\j<=l.length/\Hid (Ext wo wr)) (fun v _ _=>l.length-(intOf v).toNat)
    case atStart=>exact⟨0,rfl,rfl,by omega,Ext.rf _⟩
    case round =>
     obtain⟨wi,rfl⟩:=Wq wr;obtain⟨j,rfl,rfl,hj,YI⟩:=hrel;have hale:=Js (ltC (cfR row)) (l.take j) x;rw[List.length_take] at hale;have rl:RdI wi A1 (Zf l):=(o1.out.ext Y.out).ext YI.out;have rr:RdI wi D' row:=(rD.out.ext Y.out).ext YI.out;obtain⟨lb,lo,xk,rfl,_,ck,exk,_⟩:=rl.at (k:=k) (by rw[Zh];exact hlt);obtain rfl:xk=(x:Int):=by
      have h:=exk.out;rw[Z7 ek] at h;exact(Option.some.inj h).symm
     obtain⟨rb,ro,yk,rfl,_,cxk,eyk,_⟩:=rr.at (k:=x) (by rw[lrow.out];exact hxs);have gk:row.getD x 0=yk:=getD_some eyk.out;clear exk eyk
     by_cases hjl:j<l.length
     ·have q3:(j:Int)<(l.length:Int):=by omega
      have ej:l[j]?=some l[j]:=List.getElem?_eq_getElem hjl;have hjs:=hsub.out _ (List.getElem_mem hjl);have HA:Hid (Zy (ltC (cfR row)) (l.take (j+1)) x=Zy (ltC (cfR row)) (l.take j) x+if Zbz (ltC (cfR row)) l[j] x=true then 1 else 0):=by
       have h:l.take (j+1)=l.take j++[l[j]]:=by rw[List.take_add_one,ej];rfl
       have h2:=UI (ltC (cfR row)) (l.take j) x l[j];rw[<-h] at h2;exact h2
      have HB:=Zf5 hsrt.out ej ek;generalize l[j]=y at *;obtain⟨lb2,lo2,xj,hq,_,cj,exj,_⟩:=rl.at (k:=j) (by rw[Zh];exact hjl);obtain⟨rfl,rfl⟩:lb=lb2/\lo=lo2:=by simpa using hq
      obtain rfl:xj=(y:Int):=by
       have h:=exj.out;rw[Z7 ej] at h;exact(Option.some.inj h).symm
      obtain⟨rb2,ro2,yj,hq2,_,cxj,eyj,_⟩:=rr.at (k:=y) (by rw[lrow.out];exact hjs);obtain⟨rfl,rfl⟩:rb=rb2/\ro=ro2:=by simpa using hq2
      have gj:row.getD y 0=yj:=getD_some eyj.out;have HA2:Hid (Zy (ltC (cfR row)) (l.take (j+1)) x=Zy (ltC (cfR row)) (l.take j) x+if (decide (yj<yk) || (decide (yj=yk)&&decide (j<k)))=true then 1 else 0):=by
       have h:=HA.out;rw[ZdO,gj,gk,HB] at h;exact h
      have qx:(x:Int)<(row.length:Int):=by rw[lrow.out];omega
      have qy:(y:Int)<(row.length:Int):=by rw[lrow.out];omega
      clear HA HB ej exj eyj hq hq2 gj gk rl rr;generalize Zy (ltC (cfR row)) (l.take j) x=ah at *
      by_cases t1:yj<yk
      ·have d1:decide (yj<yk)=true:=decide_eq_true t1
       have HA3:Hid (Zy (ltC (cfR row)) (l.take (j+1)) x=ah+1):=by
        have h:=HA2.out;rw[d1,Bool.true_or,if_pos rfl] at h;exact h
       clear HA2;go_wp2_with (fail);go_quiet (fail);go_wp2_with (fail);go_roundw
       case rel=>exact⟨j+1,by go_num,by rw[HA3.out];go_num,by omega,YI.out.drewN _⟩
       case measure=>simp[intOf];omega
      ·have d1:decide (yj<yk)=false:=decide_eq_false t1
       by_cases t2:yj=yk
       ·have d2:(yj==yk)=true:=by rw[beq_iff_eq];exact t2
        have d2':decide (yj=yk)=true:=decide_eq_true t2;replace t2:=Hd t2
        by_cases t3:j<k
        ·have d3:decide (j<k)=true:=decide_eq_true t3
         have HA3:Hid (Zy (ltC (cfR row)) (l.take (j+1)) x=ah+1):=by
          have h:=HA2.out;rw[d1,d2',d3] at h;exact h
         clear HA2 d2';go_wp2_with (fail);go_quiet (fail);go_wp2_with (fail);go_roundw
         case rel=>exact⟨j+1,by go_num,by rw[HA3.out];go_num,by omega,YI.out.drewN _⟩
         case measure=>simp[intOf];omega
        ·have d3:decide (j<k)=false:=decide_eq_false t3
         have HA3:Hid (Zy (ltC (cfR row)) (l.take (j+1)) x=ah):=by
          have h:=HA2.out;rw[d1,d2',d3] at h;exact h
         clear HA2 d2';go_wp2_with (fail);go_quiet (fail);go_wp2_with (fail);go_roundw
         case rel=>exact⟨j+1,by go_num,by rw[HA3.out],by omega,YI.out.drewN _⟩
         case measure=>simp[intOf];omega
       ·have d2:(yj==yk)=false:=by rw[beq_eq_false_iff_ne];exact t2
        have d2':decide (yj=yk)=false:=decide_eq_false t2;have HA3:Hid (Zy (ltC (cfR row)) (l.take (j+1)) x=ah):=by
         have h:=HA2.out;rw[d1,d2'] at h;exact h
        clear HA2 d2';go_wp2_with (fail);go_quiet (fail);go_wp2_with (fail);go_roundw
        case rel=>exact⟨j+1,by go_num,by rw[HA3.out],by omega,YI.out.drewN _⟩
        case measure=>simp[intOf];omega
     ·obtain rfl:j=l.length:=by omega
      have q3:¬(l.length:Int)<(l.length:Int):=by omega
      have e0:l.take l.length=l:=List.take_length;rw[e0];have hal:Zy (ltC (cfR row)) l x<l.length:=by
       have W:=VR row;obtain⟨k',hk',e'⟩:=List.mem_iff_getElem.1 ((Xa W hsrt.out).mem.2 hkm);rw[VQ W hsrt.out (by rw[List.getElem?_eq_getElem hk',e'])]
       rwa [Yz] at hk'
      clear e0 hale gk;generalize Zy (ltC (cfR row)) l x=ah at *;obtain⟨v9,c9,f9,_,_,s9⟩:=OwI.cell (OwI.ext O.out YI.out) (k:=ah) (by rw[Y1];exact hal);have q4:(ah:Int)<(l.length:Int):=by omega
      have NX:Hid (∀ W2,Ext wi W2->OwI (W2.setCell ⟨w1.heap.size,ah,none⟩ (.int .i64 x)) w1.heap.size (some ⟨w1.heap.size,0,none⟩) l.length (Yp (Zy (ltC (cfR row)) l) l (k+1))/\Ext w1 (W2.setCell ⟨w1.heap.size,ah,none⟩ (.int .i64 x))):=by
       intro W2 x2;rw[HPK.out];obtain⟨_,_,_,_,_,s8⟩:=OwI.cell (OwI.ext (OwI.ext O.out YI.out) x2) (k:=ah) (by rw[Y1];exact hal);exact⟨s8.out _,((Y.out.tr YI.out).tr x2).setNew (p:=⟨w1.heap.size,ah,none⟩) (Nat.le_refl _) _⟩
      clear s9 HPK rl rr;go_wp2_with (first | go_quiet (fail) | go_region);go_roundw
      case rel=>exact⟨k+1,by go_num,by omega,NX.out _ XI⟩
      case measure=>simp[intOf];omega
   ·obtain rfl:k=l.length:=by omega
    have q2:¬(l.length:Int)<(l.length:Int):=by omega
    have FIN:Hid (Ys (Zf (Yh (ltC (cfR row)) l)) 0 w (.returned (.tuple #[.slice (some ⟨w1.heap.size,0,none⟩) l.length l.length,.int .i64 0])) wo):=by
     refine⟨some ⟨w1.heap.size,0,none⟩,l.length,by rw[Zh,Yz],?_,X1.out.tr HS.out.2⟩;have h:=HS.out.1;rw[Qm (VR row) hsrt.out] at h;exact OwI.more h z1
    clear HS;go_wp2_with (fail);go_ret2;exact FIN.out
theorem Zd4 {rows:List (List Int)}{us:List Nat}{last:Nat}(num:∀ a b,a<rows.length->b<rows.length->0<=Za rows a b/\Za rows a b<=2147483647)(h0:0<rows.length)(hl:last<rows.length)(hu:∀ x∈us,x<rows.length){y:Nat}(k0:y<rows.length) : (0<=(ZE rows us last y).1/\(ZE rows us last y).1<=2147483647)/\0<=(ZE rows us last y).2/\(ZE rows us last y).2<=2147483647:=by
 have k1:=num y last k0 hl;have k2:=num y 0 k0 h0;exact VX (B:=2147483647) (f:=fun v=>Za rows y v) (us.filter fun j=>decide (y≠j)) (min (Za rows y last) (Za rows y 0),max (Za rows y last) (Za rows y 0)) (by simp only;omega) (by simp only;omega) fun v hv=>num y v k0 (hu v (List.mem_filter.1 hv).1)
theorem Zd5 (i:InstP)(us:List Value)(P:Option Addr)(pc:Nat)(l:List Nat)(last:Nat)(w:World)(H:RInst w us i)(rok:RowsOk i.cost)(hP:RdI w P (Zf l))(hl:∀ x∈l,x<i.cost.length)(hnd:l.Nodup)(hlen:l.length<=24)(hla:last<i.cost.length) :
  Calls Tryz.prog 109 #[.agg (List.toArray us),.slice P l.length pc,.int .i64 last] w fun e w'=>e=.returned (.int .i64 (XL i.cost l last))/\Ext w w':=by
 have h0:=rok.n1;obtain⟨kind,nn,cap,xw,xv,co⟩:=i;obtain⟨A,a,B,b,D,d,rfl,-,-,⟨hC,-,-⟩⟩:=H;simp only at *;obtain⟨cb,cof,_,_,_,rfl,_,_⟩:=QQ rok hC (r:=0) (c:=0) (by omega) (by omega);have num:=Uy rok;have CA:=Hd (fun(W:World) (x:Ext w W) (r c:Nat) (hr:r<co.length) (hc:c<co.length)=>ZcL rok (hC.ext x fun _ _ h=>h.ext x) hr hc);have B1:Hid (Blk (w.alloc (.cells #[.int .i64 kind,.int .i64 nn,.int .i64 cap,.slice A xw.length a,.slice B xv.length b,.slice (some ⟨cb,cof,none⟩) co.length d] 25)) w.heap.size 25 #[.int .i64 kind,.int .i64 nn,.int .i64 cap,.slice A xw.length a,.slice B xv.length b,.slice (some ⟨cb,cof,none⟩) co.length d]):=.new rfl;have X0:Hid (Ext w (w.alloc (.cells #[.int .i64 kind,.int .i64 nn,.int .i64 cap,.slice A xw.length a,.slice B xv.length b,.slice (some ⟨cb,cof,none⟩) co.length d] 25))):=(Ext.rf _).alloc _;have bsum:Hid (∀ k,0<=Zg ((l.take k).map fun u=>(ZE co l last u).1+(ZE co l last u).2)/\Zg ((l.take k).map fun u=>(ZE co l last u).1+(ZE co l last u).2)<=4294967294*24):=fun k=>by
  have h1:=XA (f:=fun u=>(ZE co l last u).1+(ZE co l last u).2) (B:=4294967294) (l.take k) fun y hy=>by
   have:=Zd4 num (by omega) hla hl (hl y (List.mem_of_mem_take hy));omega
  have h2:(l.take k).length<=24:=by rw[List.length_take];omega
  omega
 have bfr:Hid (∀ k (f:Nat->Int),(∀ x,x<co.length->0<=f x/\f x<=2147483647)->-2147483647<=Zm f (-1) (l.take k)/\Zm f (-1) (l.take k)<=2147483647):=fun k f hf =>
  YW (fun c hc=>by have:=hf c (hl c (List.mem_of_mem_take hc));omega) (by omega) (by omega)
 replace hC:=Hd hC;replace hP:=Hd hP;replace hl:=Hd hl;replace hnd:=Hd hnd;replace num:=Hd num;replace rok:=Hd rok;go_enter Tryz.func109,Tryz.ntmps109;go_wp2_with (fail);generalize w.alloc (.cells #[.int .i64 kind,.int .i64 nn,.int .i64 cap,.slice A xw.length a,.slice B xv.length b,.slice (some ⟨cb,cof,none⟩) co.length d] 25)=w1 at *;go_loopw [7,8,9,10] (fun s fr tq v wr=>∃ k:Nat,v=.int .i64 k/\s=.int .i64 (Zg ((l.take k).map fun u=>(ZE co l last u).1+(ZE co l last u).2))/\fr=.int .i64 (Zm (fun u=>Za co last u) (-1) (l.take k))/\tq=.int .i64 (Zm (fun u=>Za co u 0) (-1) (l.take k))/\k<=l.length/\Hid (Ext w1 wr)) (fun _ _ _ v _=>l.length-(intOf v).toNat)
 case atStart=>exact⟨0,rfl,rfl,rfl,rfl,by omega,Ext.rf _⟩
 case round =>
  obtain⟨wo,rfl⟩:=Wq wr;obtain⟨k,rfl,rfl,rfl,rfl,hk,Y⟩:=hrel
  by_cases hlt:k<l.length
  ·obtain⟨u,hux⟩:∃ u,Hid (u=l[k]):=⟨l[k],rfl⟩
   have hu:u<co.length:=by rw[hux.out];exact hl.out _ (List.getElem_mem hlt)
   have euk:l[k]?=some u:=by rw[hux.out];exact List.getElem?_eq_getElem hlt
   have etk:l.take (k+1)=l.take k++[u]:=by rw[List.take_add_one,euk];rfl
   obtain⟨pb,po,xu,rfl,zp,cp,ep,_⟩:=(hP.out.ext (X0.out.tr Y.out)).at (k:=k) (by rw[Zh];exact hlt);have exu:xu=(u:Int):=by
    have h:=ep.out;rw[Z7 euk] at h;exact(Option.some.inj h).symm
   subst exu;have zp1:pb<wo.heap.size:=zp;have cp1:=cp;obtain⟨rb1,ro1,d1,c11,c12⟩:=CA.out _ (X0.out.tr Y.out) u last hu hla;obtain⟨rb2,ro2,d2,c21,c22⟩:=CA.out _ (X0.out.tr Y.out) u 0 hu h0;obtain⟨⟨rfl,rfl⟩,rfl⟩:(rb1=rb2/\ro1=ro2)/\d1=d2:=by
    have h:=c11.symm.trans c21
    simpa using h
   have b1:=num.out u last hu hla;have b2:=num.out u 0 hu h0;have b3:=num.out last u hla hu;obtain⟨y1,ey1⟩:∃ y1,Hid (Za co u last=y1):=⟨_,rfl⟩;obtain⟨y2,ey2⟩:∃ y2,Hid (Za co u 0=y2):=⟨_,rfl⟩;obtain⟨y3,ey3⟩:∃ y3,Hid (Za co last u=y3):=⟨_,rfl⟩;rw[ey1.out] at b1 c12;rw[ey2.out] at b2 c22;rw[ey3.out] at b3;replace c22:wo.cell? ⟨rb1,ro1,none⟩=some (.int .i64 y2):=c22;obtain⟨pp,hpp⟩:∃ pp,Hid (ZE co l last u=pp):=⟨_,rfl⟩;have bpp:=Zd4 num.out (by omega) hla hl.out hu (us:=l);rw[hpp.out] at bpp;have bs:=bsum.out k;have eS:Hid (Zg ((l.take (k+1)).map fun u=>(ZE co l last u).1+(ZE co l last u).2)=Zg ((l.take k).map fun u=>(ZE co l last u).1+(ZE co l last u).2)+pp.1+pp.2):=Hd (by
    rw[etk,List.map_append,List.map_cons,List.map_nil,Wi,hpp.out];omega)
   have eF:Hid (Zm (fun u=>Za co last u) (-1) (l.take (k+1))=if Zm (fun u=>Za co last u) (-1) (l.take k)<0 then y3 else if y3<Zm (fun u=>Za co last u) (-1) (l.take k) then y3 else Zm (fun u=>Za co last u) (-1) (l.take k)):=Hd (by
    rw[etk,Xz,ey3.out])
   have eT:Hid (Zm (fun u=>Za co u 0) (-1) (l.take (k+1))=if Zm (fun u=>Za co u 0) (-1) (l.take k)<0 then y2 else if y2<Zm (fun u=>Za co u 0) (-1) (l.take k) then y2 else Zm (fun u=>Za co u 0) (-1) (l.take k)):=Hd (by
    rw[etk,Xz,ey2.out])
   have START0:(l.filter fun x=>decide (u≠x)).foldl (fun p v=>Xe p (Za co u v)) (min y1 y2,max y1 y2)=pp:=by rw[<-hpp.out,<-ey1.out,<-ey2.out];rfl
   generalize Zg ((l.take k).map fun u=>(ZE co l last u).1+(ZE co l last u).2)=su at *;generalize Zm (fun u=>Za co last u) (-1) (l.take k)=fr at *;generalize Zm (fun u=>Za co u 0) (-1) (l.take k)=tq at *;have d5:wo.cell? ⟨w.heap.size,5,none⟩=some (.slice (some ⟨cb,cof,none⟩) co.length d):=(B1.out.ext Y.out).cell 5;have q1:(k:Int)<(l.length:Int):=by omega
   have q6:(last:Int)<(co.length:Int):=by omega
   have q7:(u:Int)<(co.length:Int):=by omega
   have q8:(0:Int)<(co.length:Int):=by omega
   clear ep euk etk
   by_cases hsw:y2<y1
   ·have START:Hid (((l.drop 0).filter fun x=>decide (u≠x)).foldl (fun p v=>Xe p (Za co u v)) (y2,y1)=pp):=by
     have e1:min y1 y2=y2:=by omega
     have e2:max y1 y2=y1:=by omega
     have h:=START0;rw[e1,e2] at h;exact h
    clear START0;go_wp2_with (fail);go_quiet (fail)
    rename_i nq
    have Z0:Hid (Ext wo (wo.drewN nq)):=(Ext.rf wo).drewN nq;go_wp2_with (fail);generalize wo.drewN nq=w4 at *;go_loopw [11,12,13] (fun a1 a2 v wr=>∃ (b:Nat) (p:Int×Int),v=.int .i64 b/\a1=.int .i64 p.1/\a2=.int .i64 p.2/\b<=l.length/\Hid (((l.drop b).filter fun x=>decide (u≠x)).foldl (fun p v=>Xe p (Za co u v)) p=pp)/\Hid (Ext wo wr)) (fun _ _ v _=>l.length-(intOf v).toNat)
    case atStart=>exact⟨0,(y2,y1),rfl,rfl,rfl,by omega,START,Z0.out⟩
    case round =>
     obtain⟨w5,rfl⟩:=Wq wr;obtain⟨b,⟨o1,o2⟩,rfl,rfl,rfl,hb,HF,Z⟩:=hrel;simp only
     by_cases hlb:b<l.length
     ·have eb:l[b]?=some l[b]:=List.getElem?_eq_getElem hlb
      have hv:=hl.out _ (List.getElem_mem hlb);have edb:l.drop b=l[b]::l.drop (b+1):=List.drop_eq_getElem_cons hlb;have hne:b≠k->u≠l[b]:=fun h1 h2=>h1 ((List.getElem_inj hnd.out).1 (by rw[<-h2,hux.out]))
      have heq:b=k->u=l[b]:=fun h1=>by subst h1;exact hux.out
      obtain⟨pb2,po2,xv,hPq,zp2,cp2,ep2,_⟩:=(hP.out.ext (X0.out.tr (Y.out.tr Z.out))).at (k:=b) (by rw[Zh];exact hlb);obtain⟨rfl,rfl⟩:pb=pb2/\po=po2:=by simpa using hPq
      have exv:xv=((l[b]:Nat):Int):=by
       have h:=ep2.out;rw[Z7 eb] at h;exact(Option.some.inj h).symm
      subst exv;have HF2:=HF.out;rw[edb,List.filter_cons] at HF2;generalize l[b]=v at *;clear HF eb edb ep2 hPq;have d5:w5.cell? ⟨w.heap.size,5,none⟩=some (.slice (some ⟨cb,cof,none⟩) co.length d):=(B1.out.ext (Y.out.tr Z.out)).cell 5;have q2:(b:Int)<(l.length:Int):=by omega
      have p5:w5.cell? ⟨pb,po+k,none⟩=some (.int .i64 (u:Int)):=Zd Z.out zp1 cp1
      by_cases hbk:b=k
      ·have tb:((b:Int)==(k:Int))=true:=by rw[hbk];simp
       have HF3:Hid (((l.drop (b+1)).filter fun x=>decide (u≠x)).foldl (fun p v=>Xe p (Za co u v)) (o1,o2)=pp):=by
        rw[if_neg (by simp[heq hbk])] at HF2;exact HF2
       clear HF2 hne heq;replace hbk:=Hd hbk;go_wp2_with (fail);go_roundw
       case rel=>exact⟨b+1,(o1,o2),by go_num,rfl,rfl,by omega,HF3,Z.out⟩
       case measure=>simp[intOf];omega
      ·have tb:((b:Int)==(k:Int))=false:=by simp;omega
       obtain⟨rb5,ro5,d5',c51,c52⟩:=CA.out _ (X0.out.tr (Y.out.tr Z.out)) u v hu hv;have nv:=num.out u v hu hv;rw[if_pos (by simp[hne hbk]),List.foldl_cons] at HF2;obtain⟨cv,hcv⟩:∃ cv,Hid (Za co u v=cv):=⟨_,rfl⟩;rw[hcv.out] at HF2 c52 nv;have q3:(u:Int)<(co.length:Int):=by omega
       have q4:(v:Int)<(co.length:Int):=by omega
       clear hne heq;replace hbk:=Hd hbk;unfold Xe at HF2;simp only at HF2
       by_cases h1:cv<o1
       ·rw[if_pos h1] at HF2
        have HF3:=Hd HF2;clear HF2;go_wp2_with (fail);go_quiet (fail);go_wp2_with (fail);go_roundw
        case rel=>exact⟨b+1,(cv,o1),by go_num,rfl,rfl,by omega,HF3,Z.out.drewN _⟩
        case measure=>simp[intOf];omega
       ·rw[if_neg h1] at HF2
        by_cases h2:cv<o2
        ·rw[if_pos h2] at HF2
         have HF3:=Hd HF2;clear HF2;go_wp2_with (fail);go_quiet (fail);go_wp2_with (fail);go_roundw
         case rel=>exact⟨b+1,(o1,cv),by go_num,rfl,rfl,by omega,HF3,Z.out.drewN _⟩
         case measure=>simp[intOf];omega
        ·rw[if_neg h2] at HF2
         have HF3:=Hd HF2;clear HF2;go_wp2_with (fail);go_quiet (fail);go_wp2_with (fail);go_roundw
         case rel=>exact⟨b+1,(o1,o2),by go_num,rfl,rfl,by omega,HF3,Z.out.drewN _⟩
         case measure=>simp[intOf];omega
     ·obtain rfl:b=l.length:=by omega
      have q2:¬((l.length:Int)<(l.length:Int)):=by omega
      have HF2:=HF.out;rw[List.drop_length] at HF2;obtain rfl:(o1,o2)=pp:=HF2;simp only at bpp eS;have hw1:IntKind.i64.wrap (su+o1)=su+o1:=IntWalk.i64_in _ (by omega);have hw2:IntKind.i64.wrap (su+o1+o2)=su+o1+o2:=IntWalk.i64_in _ (by omega);clear HF START;obtain⟨rb3,ro3,d3,c31,c32⟩:=CA.out _ (X0.out.tr (Y.out.tr Z.out)) last u hla hu;rw[ey3.out] at c32;have d53:w5.cell? ⟨w.heap.size,5,none⟩=some (.slice (some ⟨cb,cof,none⟩) co.length d):=(B1.out.ext (Y.out.tr Z.out)).cell 5;have p3:w5.cell? ⟨pb,po+k,none⟩=some (.int .i64 (u:Int)):=Zd Z.out zp1 cp1
      by_cases hn1:fr<0
      ·rw[if_pos hn1] at eF
       go_wp2_with (fail);go_quiet (fail)
       rename_i nq
       have Z2:Hid (Ext wo (w5.drewN nq)):=Z.out.drewN nq;go_wp2_with (fail);generalize w5.drewN nq=w7 at *;obtain⟨rb4,ro4,d4,c41,c42⟩:=CA.out _ (X0.out.tr (Y.out.tr Z2.out)) u 0 hu h0;rw[ey2.out] at c42;replace c42:w7.cell? ⟨rb4,ro4,none⟩=some (.int .i64 y2):=c42;have d54:w7.cell? ⟨w.heap.size,5,none⟩=some (.slice (some ⟨cb,cof,none⟩) co.length d):=(B1.out.ext (Y.out.tr Z2.out)).cell 5;have p4:w7.cell? ⟨pb,po+k,none⟩=some (.int .i64 (u:Int)):=Zd Z2.out zp1 cp1
       by_cases hn2:tq<0
       ·rw[if_pos hn2] at eT
        go_wp2_with (fail);go_quiet (fail);go_wp2_with (fail);go_roundw
        case rel=>exact⟨k+1,by go_num,by rw[eS.out],by rw[eF.out],by rw[eT.out],by omega,Y.out.tr (Z2.out.drewN _)⟩
        case measure=>simp[intOf];omega
       ·rw[if_neg hn2] at eT
        by_cases hl2:y2<tq
        ·rw[if_pos hl2] at eT
         go_wp2_with (fail);go_quiet (fail);go_wp2_with (fail);go_roundw
         case rel=>exact⟨k+1,by go_num,by rw[eS.out],by rw[eF.out],by rw[eT.out],by omega,Y.out.tr (Z2.out.drewN _)⟩
         case measure=>simp[intOf];omega
        ·rw[if_neg hl2] at eT
         go_wp2_with (fail);go_quiet (fail);go_wp2_with (fail);go_roundw
         case rel=>exact⟨k+1,by go_num,by rw[eS.out],by rw[eF.out],by rw[eT.out],by omega,Y.out.tr (Z2.out.drewN _)⟩
         case measure=>simp[intOf];omega
      ·rw[if_neg hn1] at eF
       by_cases hl1:y3<fr
       ·rw[if_pos hl1] at eF
        go_wp2_with (fail);go_quiet (fail)
        rename_i nq
        have Z2:Hid (Ext wo (w5.drewN nq)):=Z.out.drewN nq;go_wp2_with (fail);generalize w5.drewN nq=w7 at *;obtain⟨rb4,ro4,d4,c41,c42⟩:=CA.out _ (X0.out.tr (Y.out.tr Z2.out)) u 0 hu h0;rw[ey2.out] at c42;replace c42:w7.cell? ⟨rb4,ro4,none⟩=some (.int .i64 y2):=c42;have d54:w7.cell? ⟨w.heap.size,5,none⟩=some (.slice (some ⟨cb,cof,none⟩) co.length d):=(B1.out.ext (Y.out.tr Z2.out)).cell 5;have p4:w7.cell? ⟨pb,po+k,none⟩=some (.int .i64 (u:Int)):=Zd Z2.out zp1 cp1
        by_cases hn2:tq<0
        ·rw[if_pos hn2] at eT
         go_wp2_with (fail);go_quiet (fail);go_wp2_with (fail);go_roundw
         case rel=>exact⟨k+1,by go_num,by rw[eS.out],by rw[eF.out],by rw[eT.out],by omega,Y.out.tr (Z2.out.drewN _)⟩
         case measure=>simp[intOf];omega
        ·rw[if_neg hn2] at eT
         by_cases hl2:y2<tq
         ·rw[if_pos hl2] at eT
          go_wp2_with (fail);go_quiet (fail);go_wp2_with (fail);go_roundw
          case rel=>exact⟨k+1,by go_num,by rw[eS.out],by rw[eF.out],by rw[eT.out],by omega,Y.out.tr (Z2.out.drewN _)⟩
          case measure=>simp[intOf];omega
         ·rw[if_neg hl2] at eT
          go_wp2_with (fail);go_quiet (fail);go_wp2_with (fail);go_roundw
          case rel=>exact⟨k+1,by go_num,by rw[eS.out],by rw[eF.out],by rw[eT.out],by omega,Y.out.tr (Z2.out.drewN _)⟩
          case measure=>simp[intOf];omega
       ·rw[if_neg hl1] at eF
        go_wp2_with (fail);go_quiet (fail)
        rename_i nq
        have Z2:Hid (Ext wo (w5.drewN nq)):=Z.out.drewN nq;go_wp2_with (fail);generalize w5.drewN nq=w7 at *;obtain⟨rb4,ro4,d4,c41,c42⟩:=CA.out _ (X0.out.tr (Y.out.tr Z2.out)) u 0 hu h0;rw[ey2.out] at c42;replace c42:w7.cell? ⟨rb4,ro4,none⟩=some (.int .i64 y2):=c42;have d54:w7.cell? ⟨w.heap.size,5,none⟩=some (.slice (some ⟨cb,cof,none⟩) co.length d):=(B1.out.ext (Y.out.tr Z2.out)).cell 5;have p4:w7.cell? ⟨pb,po+k,none⟩=some (.int .i64 (u:Int)):=Zd Z2.out zp1 cp1
        by_cases hn2:tq<0
        ·rw[if_pos hn2] at eT
         go_wp2_with (fail);go_quiet (fail);go_wp2_with (fail);go_roundw
         case rel=>exact⟨k+1,by go_num,by rw[eS.out],by rw[eF.out],by rw[eT.out],by omega,Y.out.tr (Z2.out.drewN _)⟩
         case measure=>simp[intOf];omega
        ·rw[if_neg hn2] at eT
         by_cases hl2:y2<tq
         ·rw[if_pos hl2] at eT
          go_wp2_with (fail);go_quiet (fail);go_wp2_with (fail);go_roundw
          case rel=>exact⟨k+1,by go_num,by rw[eS.out],by rw[eF.out],by rw[eT.out],by omega,Y.out.tr (Z2.out.drewN _)⟩
          case measure=>simp[intOf];omega
         ·rw[if_neg hl2] at eT
          go_wp2_with (fail);go_quiet (fail);go_wp2_with (fail);go_roundw
          case rel=>exact⟨k+1,by go_num,by rw[eS.out],by rw[eF.out],by rw[eT.out],by omega,Y.out.tr (Z2.out.drewN _)⟩
          case measure=>simp[intOf];omega
   ·have START:Hid (((l.drop 0).filter fun x=>decide (u≠x)).foldl (fun p v=>Xe p (Za co u v)) (y1,y2)=pp):=by
     have e1:min y1 y2=y1:=by omega
     have e2:max y1 y2=y2:=by omega
     have h:=START0;rw[e1,e2] at h;exact h
    clear START0;go_wp2_with (fail);go_quiet (fail)
    rename_i nq
    have Z0:Hid (Ext wo (wo.drewN nq)):=(Ext.rf wo).drewN nq;go_wp2_with (fail);generalize wo.drewN nq=w4 at *;go_loopw [11,12,13] (fun a1 a2 v wr=>∃ (b:Nat) (p:Int×Int),v=.int .i64 b/\a1=.int .i64 p.1/\a2=.int .i64 p.2/\b<=l.length/\Hid (((l.drop b).filter fun x=>decide (u≠x)).foldl (fun p v=>Xe p (Za co u v)) p=pp)/\Hid (Ext wo wr)) (fun _ _ v _=>l.length-(intOf v).toNat)
    case atStart=>exact⟨0,(y1,y2),rfl,rfl,rfl,by omega,START,Z0.out⟩
    case round =>
     obtain⟨w5,rfl⟩:=Wq wr;obtain⟨b,⟨o1,o2⟩,rfl,rfl,rfl,hb,HF,Z⟩:=hrel;simp only
     by_cases hlb:b<l.length
     ·have eb:l[b]?=some l[b]:=List.getElem?_eq_getElem hlb
      have hv:=hl.out _ (List.getElem_mem hlb);have edb:l.drop b=l[b]::l.drop (b+1):=List.drop_eq_getElem_cons hlb;have hne:b≠k->u≠l[b]:=fun h1 h2=>h1 ((List.getElem_inj hnd.out).1 (by rw[<-h2,hux.out]))
      have heq:b=k->u=l[b]:=fun h1=>by subst h1;exact hux.out
      obtain⟨pb2,po2,xv,hPq,zp2,cp2,ep2,_⟩:=(hP.out.ext (X0.out.tr (Y.out.tr Z.out))).at (k:=b) (by rw[Zh];exact hlb);obtain⟨rfl,rfl⟩:pb=pb2/\po=po2:=by simpa using hPq
      have exv:xv=((l[b]:Nat):Int):=by
       have h:=ep2.out;rw[Z7 eb] at h;exact(Option.some.inj h).symm
      subst exv;have HF2:=HF.out;rw[edb,List.filter_cons] at HF2;generalize l[b]=v at *;clear HF eb edb ep2 hPq;have d5:w5.cell? ⟨w.heap.size,5,none⟩=some (.slice (some ⟨cb,cof,none⟩) co.length d):=(B1.out.ext (Y.out.tr Z.out)).cell 5;have q2:(b:Int)<(l.length:Int):=by omega
      have p5:w5.cell? ⟨pb,po+k,none⟩=some (.int .i64 (u:Int)):=Zd Z.out zp1 cp1
      by_cases hbk:b=k
      ·have tb:((b:Int)==(k:Int))=true:=by rw[hbk];simp
       have HF3:Hid (((l.drop (b+1)).filter fun x=>decide (u≠x)).foldl (fun p v=>Xe p (Za co u v)) (o1,o2)=pp):=by
        rw[if_neg (by simp[heq hbk])] at HF2;exact HF2
       clear HF2 hne heq;replace hbk:=Hd hbk;go_wp2_with (fail);go_roundw
       case rel=>exact⟨b+1,(o1,o2),by go_num,rfl,rfl,by omega,HF3,Z.out⟩
       case measure=>simp[intOf];omega
      ·have tb:((b:Int)==(k:Int))=false:=by simp;omega
       obtain⟨rb5,ro5,d5',c51,c52⟩:=CA.out _ (X0.out.tr (Y.out.tr Z.out)) u v hu hv;have nv:=num.out u v hu hv;rw[if_pos (by simp[hne hbk]),List.foldl_cons] at HF2;obtain⟨cv,hcv⟩:∃ cv,Hid (Za co u v=cv):=⟨_,rfl⟩;rw[hcv.out] at HF2 c52 nv;have q3:(u:Int)<(co.length:Int):=by omega
       have q4:(v:Int)<(co.length:Int):=by omega
       clear hne heq;replace hbk:=Hd hbk;unfold Xe at HF2;simp only at HF2
       by_cases h1:cv<o1
       ·rw[if_pos h1] at HF2
        have HF3:=Hd HF2;clear HF2;go_wp2_with (fail);go_quiet (fail);go_wp2_with (fail);go_roundw
        case rel=>exact⟨b+1,(cv,o1),by go_num,rfl,rfl,by omega,HF3,Z.out.drewN _⟩
        case measure=>simp[intOf];omega
       ·rw[if_neg h1] at HF2
        by_cases h2:cv<o2
        ·rw[if_pos h2] at HF2
         have HF3:=Hd HF2;clear HF2;go_wp2_with (fail);go_quiet (fail);go_wp2_with (fail);go_roundw
         case rel=>exact⟨b+1,(o1,cv),by go_num,rfl,rfl,by omega,HF3,Z.out.drewN _⟩
         case measure=>simp[intOf];omega
        ·rw[if_neg h2] at HF2
         have HF3:=Hd HF2;clear HF2;go_wp2_with (fail);go_quiet (fail);go_wp2_with (fail);go_roundw
         case rel=>exact⟨b+1,(o1,o2),by go_num,rfl,rfl,by omega,HF3,Z.out.drewN _⟩
         case measure=>simp[intOf];omega
     ·obtain rfl:b=l.length:=by omega
      have q2:¬((l.length:Int)<(l.length:Int)):=by omega
      have HF2:=HF.out;rw[List.drop_length] at HF2;obtain rfl:(o1,o2)=pp:=HF2;simp only at bpp eS;have hw1:IntKind.i64.wrap (su+o1)=su+o1:=IntWalk.i64_in _ (by omega);have hw2:IntKind.i64.wrap (su+o1+o2)=su+o1+o2:=IntWalk.i64_in _ (by omega);clear HF START;obtain⟨rb3,ro3,d3,c31,c32⟩:=CA.out _ (X0.out.tr (Y.out.tr Z.out)) last u hla hu;rw[ey3.out] at c32;have d53:w5.cell? ⟨w.heap.size,5,none⟩=some (.slice (some ⟨cb,cof,none⟩) co.length d):=(B1.out.ext (Y.out.tr Z.out)).cell 5;have p3:w5.cell? ⟨pb,po+k,none⟩=some (.int .i64 (u:Int)):=Zd Z.out zp1 cp1
      by_cases hn1:fr<0
      ·rw[if_pos hn1] at eF
       go_wp2_with (fail);go_quiet (fail)
       rename_i nq
       have Z2:Hid (Ext wo (w5.drewN nq)):=Z.out.drewN nq;go_wp2_with (fail);generalize w5.drewN nq=w7 at *;obtain⟨rb4,ro4,d4,c41,c42⟩:=CA.out _ (X0.out.tr (Y.out.tr Z2.out)) u 0 hu h0;rw[ey2.out] at c42;replace c42:w7.cell? ⟨rb4,ro4,none⟩=some (.int .i64 y2):=c42;have d54:w7.cell? ⟨w.heap.size,5,none⟩=some (.slice (some ⟨cb,cof,none⟩) co.length d):=(B1.out.ext (Y.out.tr Z2.out)).cell 5;have p4:w7.cell? ⟨pb,po+k,none⟩=some (.int .i64 (u:Int)):=Zd Z2.out zp1 cp1
       by_cases hn2:tq<0
       ·rw[if_pos hn2] at eT
        go_wp2_with (fail);go_quiet (fail);go_wp2_with (fail);go_roundw
        case rel=>exact⟨k+1,by go_num,by rw[eS.out],by rw[eF.out],by rw[eT.out],by omega,Y.out.tr (Z2.out.drewN _)⟩
        case measure=>simp[intOf];omega
       ·rw[if_neg hn2] at eT
        by_cases hl2:y2<tq
        ·rw[if_pos hl2] at eT
         go_wp2_with (fail);go_quiet (fail);go_wp2_with (fail);go_roundw
         case rel=>exact⟨k+1,by go_num,by rw[eS.out],by rw[eF.out],by rw[eT.out],by omega,Y.out.tr (Z2.out.drewN _)⟩
         case measure=>simp[intOf];omega
        ·rw[if_neg hl2] at eT
         go_wp2_with (fail);go_quiet (fail);go_wp2_with (fail);go_roundw
         case rel=>exact⟨k+1,by go_num,by rw[eS.out],by rw[eF.out],by rw[eT.out],by omega,Y.out.tr (Z2.out.drewN _)⟩
         case measure=>simp[intOf];omega
      ·rw[if_neg hn1] at eF
       by_cases hl1:y3<fr
       ·rw[if_pos hl1] at eF
        go_wp2_with (fail);go_quiet (fail)
        rename_i nq
        have Z2:Hid (Ext wo (w5.drewN nq)):=Z.out.drewN nq;go_wp2_with (fail);generalize w5.drewN nq=w7 at *;obtain⟨rb4,ro4,d4,c41,c42⟩:=CA.out _ (X0.out.tr (Y.out.tr Z2.out)) u 0 hu h0;rw[ey2.out] at c42;replace c42:w7.cell? ⟨rb4,ro4,none⟩=some (.int .i64 y2):=c42;have d54:w7.cell? ⟨w.heap.size,5,none⟩=some (.slice (some ⟨cb,cof,none⟩) co.length d):=(B1.out.ext (Y.out.tr Z2.out)).cell 5;have p4:w7.cell? ⟨pb,po+k,none⟩=some (.int .i64 (u:Int)):=Zd Z2.out zp1 cp1
        by_cases hn2:tq<0
        ·rw[if_pos hn2] at eT
         go_wp2_with (fail);go_quiet (fail);go_wp2_with (fail);go_roundw
         case rel=>exact⟨k+1,by go_num,by rw[eS.out],by rw[eF.out],by rw[eT.out],by omega,Y.out.tr (Z2.out.drewN _)⟩
         case measure=>simp[intOf];omega
        ·rw[if_neg hn2] at eT
         by_cases hl2:y2<tq
         ·rw[if_pos hl2] at eT
          go_wp2_with (fail);go_quiet (fail);go_wp2_with (fail);go_roundw
          case rel=>exact⟨k+1,by go_num,by rw[eS.out],by rw[eF.out],by rw[eT.out],by omega,Y.out.tr (Z2.out.drewN _)⟩
          case measure=>simp[intOf];omega
         ·rw[if_neg hl2] at eT
          go_wp2_with (fail);go_quiet (fail);go_wp2_with (fail);go_roundw
          case rel=>exact⟨k+1,by go_num,by rw[eS.out],by rw[eF.out],by rw[eT.out],by omega,Y.out.tr (Z2.out.drewN _)⟩
          case measure=>simp[intOf];omega
       ·rw[if_neg hl1] at eF
        go_wp2_with (fail);go_quiet (fail)
        rename_i nq
        have Z2:Hid (Ext wo (w5.drewN nq)):=Z.out.drewN nq;go_wp2_with (fail);generalize w5.drewN nq=w7 at *;obtain⟨rb4,ro4,d4,c41,c42⟩:=CA.out _ (X0.out.tr (Y.out.tr Z2.out)) u 0 hu h0;rw[ey2.out] at c42;replace c42:w7.cell? ⟨rb4,ro4,none⟩=some (.int .i64 y2):=c42;have d54:w7.cell? ⟨w.heap.size,5,none⟩=some (.slice (some ⟨cb,cof,none⟩) co.length d):=(B1.out.ext (Y.out.tr Z2.out)).cell 5;have p4:w7.cell? ⟨pb,po+k,none⟩=some (.int .i64 (u:Int)):=Zd Z2.out zp1 cp1
        by_cases hn2:tq<0
        ·rw[if_pos hn2] at eT
         go_wp2_with (fail);go_quiet (fail);go_wp2_with (fail);go_roundw
         case rel=>exact⟨k+1,by go_num,by rw[eS.out],by rw[eF.out],by rw[eT.out],by omega,Y.out.tr (Z2.out.drewN _)⟩
         case measure=>simp[intOf];omega
        ·rw[if_neg hn2] at eT
         by_cases hl2:y2<tq
         ·rw[if_pos hl2] at eT
          go_wp2_with (fail);go_quiet (fail);go_wp2_with (fail);go_roundw
          case rel=>exact⟨k+1,by go_num,by rw[eS.out],by rw[eF.out],by rw[eT.out],by omega,Y.out.tr (Z2.out.drewN _)⟩
          case measure=>simp[intOf];omega
         ·rw[if_neg hl2] at eT
          go_wp2_with (fail);go_quiet (fail);go_wp2_with (fail);go_roundw
          case rel=>exact⟨k+1,by go_num,by rw[eS.out],by rw[eF.out],by rw[eT.out],by omega,Y.out.tr (Z2.out.drewN _)⟩
          case measure=>simp[intOf];omega
  ·obtain rfl:k=l.length:=by omega
   have q2:¬((l.length:Int)<(l.length:Int)):=by omega
   have bs:=bsum.out l.length;have bf1:=bfr.out l.length (fun u=>Za co last u) fun x hx=>num.out last x hla hx
   have bf2:=bfr.out l.length (fun u=>Za co u 0) fun x hx=>num.out x 0 hx (by omega)
   rw[List.take_length] at *;have hw1:IntKind.i64.wrap (Zg (l.map fun u=>(ZE co l last u).1+(ZE co l last u).2)+Zm (fun u=>Za co last u) (-1) l)=Zg (l.map fun u=>(ZE co l last u).1+(ZE co l last u).2)+Zm (fun u=>Za co last u) (-1) l:=IntWalk.i64_in _ (by omega);have hw2:IntKind.i64.wrap (Zg (l.map fun u=>(ZE co l last u).1+(ZE co l last u).2)+Zm (fun u=>Za co last u) (-1) l+Zm (fun u=>Za co u 0) (-1) l)=XL co l last:=IntWalk.i64_in _ (by omega);go_wp2_with (fail);go_ret;exact⟨rfl,X0.out.tr Y.out⟩
theorem Zjn {rows:List (List Int)}{l:List Nat}{last s src:Nat}(hn:(last::l).Nodup)(h0:0∉l)(hs:(last::l)[s]?=some src){b v:Nat}(hb:l[b]?=some v) : UO rows l last src v=if b+1=s then -1 else Za rows src v:=by
 have hv:v∈l:=List.mem_of_getElem? hb;have hb':(last::l)[b+1]?=some v:=by simpa using hb
 have key:v=src↔b+1=s:=by
  obtain⟨h1,h2⟩:=List.getElem?_eq_some_iff.1 hs;obtain⟨h3,h4⟩:=List.getElem?_eq_some_iff.1 hb'
  constructor
  ·intro e
   refine(List.getElem_inj (h₀:=h3) (h₁:=h1) hn).1 ?_;rw[h2,h4,e]
  ·intro e
   subst e;rw[<-h4,<-h2]
 unfold UO
 by_cases e:b+1=s
 ·rw[if_pos e,if_neg]
  have hvs:=key.2 e;unfold ZY;split
  ·rename_i h
   rw[hvs,h] at hv;exact absurd hv (List.nodup_cons.1 hn).1
  ·intro hm
   rcases List.mem_cons.1 hm with h | h
   ·rw[h] at hv;exact h0 hv
   ·have:=(List.mem_filter.1 h).2
    simp at this;exact this hvs.symm
 ·rw[if_neg e,if_pos]
  have hvs:¬v=src:=fun h=>e (key.1 h)
  unfold ZY;split
  ·exact hv
  ·exact List.mem_cons_of_mem _ (List.mem_filter.2 ⟨hv,by simpa using fun h=>hvs h.symm⟩)
theorem Zh9 {rows:List (List Int)}{l:List Nat}{last s src:Nat}(hn:(last::l).Nodup)(h0:0∉l)(hs:(last::l)[s]?=some src) : UO rows l last src 0=if s=0 then -1 else Za rows src 0:=by
 have key:src=last↔s=0:=by
  obtain⟨h1,h2⟩:=List.getElem?_eq_some_iff.1 hs
  constructor
  ·intro e
   have h3:(last::l)[0]'(by simp)=last:=rfl;refine(List.getElem_inj (h₀:=h1) (h₁:=by simp) hn).1 ?_;rw[h2,e,h3]
  ·intro e
   subst e
   simpa using h2.symm
 unfold UO ZY
 by_cases e:s=0
 ·rw[if_pos e,if_pos (key.2 e),if_neg h0]
 ·rw[if_neg e,if_neg (fun h=>e (key.1 h)),if_pos (by simp)]
theorem ZcW (i:InstP)(us:List Value)(P:Option Addr)(pc:Nat)(p:List Int)(w:World)(H:RInst w us i)(ok:SquareOk i)(hP:RdI w P p)(lp:p.length<=1000000000) :
  Calls Tryz.prog 88 #[.agg (List.toArray us),.slice P p.length pc] w fun e w'=>e=.returned (.tuple #[.int .i64 (ZZ i.cost (Wh i.cost) p).1,.int .i64 (ZZ i.cost (Wh i.cost) p).2])/\Ext w w':=by
 have rok:=ZP ok;have l1:=rok.n1;have l2:=rok.n2;have hnn:i.n=(i.cost.length:Int):=ok.len.symm;have FR:=fun(W:World) (x:Ext w W)=>Zcj i us P pc p W (H.ext x) i.cost.length hnn rfl rok l1 l2 (hP.ext x) lp
 have MI:=fun(W:World) (x:Ext w W)=>Zd2 i us W (H.ext x) ok
 have EN:=fun(W:World) (x:Ext w W) (A:Option Addr) (c:Nat) (l:List Nat) (last:Nat) (h:RdI W A (Zf l)) (h1:∀ x∈l,x<i.cost.length) (h2:l.Nodup) (h3:l.length<=24) (h4:last<i.cost.length)=>Zd5 i us A c l last W (H.ext x) rok h h1 h2 h3 h4
 clear ok hP;obtain⟨kind,nn,cap,xw,xv,co⟩:=i;obtain⟨A,a,B,b,D,d,rfl,-,-,⟨hC,-,-⟩⟩:=H;simp only at *;subst hnn;obtain⟨cb,cof,_,_,_,rfl,_,_⟩:=QQ rok hC (r:=0) (c:=0) (by omega) (by omega);have num:=Uy rok;have CA:=Hd (fun(W:World) (x:Ext w W) (r c:Nat) (hr:r<co.length) (hc:c<co.length)=>ZcL rok (hC.ext x fun _ _ h=>h.ext x) hr hc);obtain⟨r,hr⟩:∃ r,Hid (Yq co p=r):=⟨_,rfl⟩;rw[hr.out] at FR;have B1:Hid (Blk (w.alloc (.cells #[.int .i64 kind,.int .i64 co.length,.int .i64 cap,.slice A xw.length a,.slice B xv.length b,.slice (some ⟨cb,cof,none⟩) co.length d] 25)) w.heap.size 25 #[.int .i64 kind,.int .i64 co.length,.int .i64 cap,.slice A xw.length a,.slice B xv.length b,.slice (some ⟨cb,cof,none⟩) co.length d]):=.new rfl;replace hC:=Hd hC
 cases r with
 | none =>
  have e:ZZ co (Wh co) p=(0,1):=by unfold ZZ;rw[hr.out]
  rw[e];unfold Zgc at FR;replace FR:=Hd FR;clear MI EN;go_enter Tryz.func88,Tryz.ntmps88;go_wp2_with (fail);refine(FR.out _ XI).mono ?_;rintro e w1 ⟨rfl,x1⟩;have X1:=Hd (Ext.tr (a:=w) XI x1);clear x1;go_wp2_with (fail);go_ret2;exact⟨rfl,X1.out⟩
 | some s =>
  obtain⟨m,last,cost⟩:=s;obtain⟨pl,WO⟩:=XM l1 l2 hr.out;have hS:=WO.sub;have hla:=VY l1 WO;have h0m:0∉Zb m:=fun h=>((WO.rest 0).1 h).1.2 rfl
  have hlen:(Zb m).length<=23:=by have:=WO.len;omega
  have hnl:last∉Zb m:=fun h=>by
   have h1:=(WO.rest last).1 h;rw[WO.last] at h1;rcases VW pl 0 with e | e
   ·rw[e] at h1;exact h1.1.2 rfl
   ·exact h1.2 e
  have hnod:(last::Zb m).Nodup:=List.nodup_cons.2 ⟨hnl,(ZD m).imp fun h=>by omega⟩;have bcost:0<=cost/\cost<=2147483647*24:=by
   have h1:=Zal num pl 0 (by omega) fun x hx=>(WO.inn x hx).1
   have h2:=WO.len;rw[WO.cost];omega
  replace FR:=fun(W:World) (x:Ext w W)=>(show Calls _ _ _ W (VZ m last cost W) from FR W x)
  unfold VZ at FR;have e:ZZ co (Wh co) p=(cost+(if Zb m=[] then Za co last 0 else if Wh co=true then max (ZI co (Zb m) last) ((XL co (Zb m) last+1) / 2) else ZI co (Zb m) last),0):=by unfold ZZ;rw[hr.out]
  obtain⟨tot,ht⟩:∃ tot,Hid (tot=cost+(if Zb m=[] then Za co last 0 else if Wh co=true then max (ZI co (Zb m) last) ((XL co (Zb m) last+1) / 2) else ZI co (Zb m) last)):=⟨_,rfl⟩;rw[e,<-ht.out];clear e;have hin:Hid (∀ x∈Zb m,x<co.length):=hS.2;obtain⟨l,hll⟩:∃ l,Hid (Zb m=l):=⟨_,rfl⟩;rw[hll.out] at FR ht hin h0m hlen hnl hnod;replace FR:=Hd FR;replace MI:=Hd MI;replace EN:=Hd EN;replace num:=Hd num;replace h0m:=Hd h0m;replace hnod:=Hd hnod;replace hnl:=Hd hnl;clear hr WO hS;go_enter Tryz.func88,Tryz.ntmps88;go_wp2_with (fail);refine(FR.out _ XI).mono ?_;rintro e w1 ⟨LA,lc,rfl,oL,x1⟩;have X1:=Hd (Ext.tr (a:=w) XI x1);have b1:=Hd (B1.out.ext x1);have oL1:Hid (OwI w1 w.heap.size LA lc (Zf l)):=OwI.more oL (by simp);clear x1 oL
  by_cases hne:l.length=0
  ·have hl0:l=[]:=List.eq_nil_of_length_eq_zero hne
   have ht2:Hid (tot=cost+Za co last 0):=by
    have h:=ht.out;rw[if_pos hl0] at h;exact h
   have n2:=num.out last 0 hla (by omega);obtain⟨rb1,ro1,d1,c11,c12⟩:=CA.out _ X1.out last 0 hla (by omega);generalize Za co last 0=y at *;replace c12:w1.cell? ⟨rb1,ro1,none⟩=some (.int .i64 y):=c12;have d5:=b1.out.c5;have hw:IntKind.i64.wrap (cost+y)=cost+y:=IntWalk.i64_in _ (by omega);have q1:(last:Int)<(co.length:Int):=by omega
   have q2:(0:Int)<(co.length:Int):=by omega
   have elen:((l.length:Int)==0)=true:=by rw[hne];rfl
   clear hl0 ht;replace hne:=Hd hne;go_wp2_with (fail);go_ret2;rw[ht2.out];exact⟨rfl,X1.out⟩
  ·have elen:((l.length:Int)==0)=false:=by rw[beq_eq_false_iff_ne];omega
   have hlnil:l≠[]:=fun h=>hne (by rw[h];rfl)
   have ht2:Hid (tot=cost+(if Wh co=true then max (ZI co l last) ((XL co l last+1) / 2) else ZI co l last)):=by
    have h:=ht.out;rw[if_neg hlnil] at h;exact h
   have bred:=Hd (Qu num.out (by omega) hla hin.out (by omega:l.length<=24));have bend:=Hd (Zba num.out (by omega) hla hin.out (by omega:l.length<=24) hlnil);obtain⟨i0,hi,hz0,hz1,hz2⟩:=info_parts QO;replace hi:=Hd hi;replace hz0:=Hd hz0;replace hz1:=Hd hz1;replace hz2:=Hd hz2;replace hlnil:=Hd hlnil;have lml:Hid ((Q4 co l last).length=l.length+1):=Zji;obtain⟨ms,hms⟩:∃ ms,Hid (Q4 co l last=ms):=⟨_,rfl⟩;rw[hms.out] at lml;have START:Hid (OwV w1 w.heap.size 22 1 none 0 0 []/\RowsO w1 w.heap.size [] (ms.take 0)/\Ext w w1/\Blk w1 w.heap.size 25 #[.int .i64 kind,.int .i64 co.length,.int .i64 cap,.slice A xw.length a,.slice B xv.length b,.slice (some ⟨cb,cof,none⟩) co.length d]/\OwI w1 w.heap.size LA lc (Zf l)):=⟨OwV.nil _ _ _ _,by simpa using RowsO.nil w1 w.heap.size,X1.out,b1.out,oL1.out⟩;clear ht;go_wp2_with (fail);go_loopw [10,11] (fun v10 v11 wr=>∃ (s:Nat) (aa:Int) (MA:Option Addr) (mc:Nat) (mus:List Value),v11=.int .i64 aa/\Hid (aa=(s:Int)-1)/\v10=.slice MA s mc/\s<=l.length+1/\Hid (OwV wr w.heap.size 22 1 MA s mc mus/\RowsO wr w.heap.size mus (ms.take s)/\Ext w wr/\Blk wr w.heap.size 25 #[.int .i64 kind,.int .i64 co.length,.int .i64 cap,.slice A xw.length a,.slice B xv.length b,.slice (some ⟨cb,cof,none⟩) co.length d]/\OwI wr w.heap.size LA lc (Zf l))) (fun _ v11 _=>(l.length-intOf v11).toNat)
   case atStart=>exact⟨0,-1,none,0,[],rfl,by exact(show (-1:Int)=((0:Nat):Int)-1 from by omega),rfl,by omega,START⟩
   case round =>
    obtain⟨wo,rfl⟩:=Wq wr;clear START;obtain⟨s,aa,MA,mc,mus,rfl,haa,rfl,hk,HH⟩:=hrel;obtain⟨oV,oR,Y,bI,oL⟩:=HH.out
    by_cases hlt:s<l.length+1
    ·have hsl:s<(last::l).length:=by simpa using hlt
     obtain⟨src,hsrc⟩:∃ src,Hid ((last::l)[s]?=some src):=⟨_,List.getElem?_eq_getElem hsl⟩;have hsm:src=last\/src∈l:=by
      have:=List.mem_of_getElem? hsrc.out
      simpa using this
     have hsn:src<co.length:=by
      rcases hsm with rfl | h
      ·exact hla
      ·exact hin.out _ h
     obtain⟨row,hrow⟩:∃ row:List Int,Hid (List.map (fun dst:Nat=>UO co l last src dst) (l++[0]:List Nat)=row):=⟨List.map (fun dst:Nat=>UO co l last src dst) (l++[0]:List Nat),rfl⟩;have etk:Hid (ms.take (s+1)=ms.take s++[row]):=Hd (by
      have e1:ms[s]?=some row:=by
       rw[<-hms.out,<-hrow.out];unfold Q4;rw[List.getElem?_map,hsrc.out]
       rfl
      rw[List.take_add_one,e1]
      rfl)
     have lrow:row.length=l.length+1:=by rw[<-hrow.out];simp
     have erow:Hid (∀ b v,l[b]?=some v->row[b]?=some (if b+1=s then -1 else Za co src v)):=fun b v hb=>by
      have hbl:b<l.length:=(List.getElem?_eq_some_iff.1 hb).1;rw[<-hrow.out,List.getElem?_map,List.getElem?_append_left hbl,hb,<-Zjn hnod.out h0m.out hsrc.out hb]
      rfl
     have ehome:Hid (row[l.length]?=some (if s=0 then -1 else Za co src 0)):=Hd (by
      rw[<-hrow.out,List.getElem?_map,List.getElem?_append_right (Nat.le_refl _),<-Zh9 hnod.out h0m.out hsrc.out];simp)
     obtain⟨lb,lo,rfl⟩:∃ lb lo,LA=some ⟨lb,lo,none⟩:=by
      obtain⟨b',o',x',h1,_⟩:=oL.read.at (k:=0) (by rw[Zh];omega);exact⟨b',o',h1⟩
     have OM:=oV.lt;replace oV:=Hd oV;replace oR:=Hd oR;replace Y:=Hd Y;replace bI:=Hd bI;replace oL:=Hd oL;have zwo:w.heap.size<=wo.heap.size:=Y.out.size;clear HH hsm hsl
     cases s with
     | zero =>
      obtain rfl:aa=-1:=by have:=haa.out;omega
      obtain rfl:src=last:=by have h:=hsrc.out;simp at h;exact h.symm
      clear haa;have q1:(-1:Int)<(l.length:Int):=by omega
      have START2:Hid (OwI wo wo.heap.size none 0 (row.take 0)/\Ext wo wo):=⟨OwI.nil _ _,Ext.rf _⟩;have hrg:Hid (OwI (wo.alloc (.cells #[] 3)) wo.heap.size (some ⟨wo.heap.size,0,none⟩) 0 (row.take 0)/\Ext wo (wo.alloc (.cells #[] 3))):=⟨OwI.empty (.new rfl) (Nat.le_refl _),(Ext.rf _).alloc _⟩;go_wp2_with (fail);go_loopw [13,14] (fun v13 v14 wr=>∃ (b:Nat) (RA:Option Addr) (rc:Nat),v14=.int .i64 b/\v13=.slice RA b rc/\b<=l.length/\Hid (OwI wr wo.heap.size RA rc (row.take b)/\Ext wo wr)) (fun _ v14 _=>l.length-(intOf v14).toNat)
      case atStart=>exact⟨0,some ⟨wo.heap.size,0,none⟩,0,rfl,rfl,by omega,hrg⟩
      case round =>
       obtain⟨wi,rfl⟩:=Wq wr;clear START2 hrg;obtain⟨b',RA,rc,rfl,rfl,hb,HR⟩:=hrel;obtain⟨oN,Z⟩:=HR.out;replace oN:=Hd oN;replace Z:=Hd Z;have zwi:=Z.out.size;have d5:wi.cell? ⟨w.heap.size,5,none⟩=some (.slice (some ⟨cb,cof,none⟩) co.length d):=(bI.out.ext Z.out).cell 5;have ltk:(row.take b').length=b':=by rw[List.length_take,lrow];omega
       clear HR
       by_cases hlb:b'<l.length
       ·have eb:l[b']?=some l[b']:=List.getElem?_eq_getElem hlb
        have hvn:=hin.out _ (List.getElem_mem hlb);have er:=erow.out b' _ eb;obtain⟨lb2,lo2,xv2,hq2,zl2,cl2,el2,_⟩:=(oL.out.ext Z.out).read.at (k:=b') (by rw[Zh];exact hlb);obtain⟨rfl,rfl⟩:lb=lb2/\lo=lo2:=by simpa using hq2
        have exv:xv2=((l[b']:Nat):Int):=by
         have h:=el2.out;rw[Z7 eb] at h;exact(Option.some.inj h).symm
        subst exv;generalize l[b']=v at *;have etb:Hid (row.take (b'+1)=row.take b'++[if b'+1=0 then -1 else Za co src v]):=Hd (by rw[List.take_add_one,er];rfl);have q2:(b':Int)<(l.length:Int):=by omega
        clear er eb el2 hq2;have hif:(if b'+1=0 then(-1:Int) else Za co src v)=Za co src v:=if_neg (by omega);rw[hif] at etb;have te:((b':Int)==-1)=false:=by rw[beq_eq_false_iff_ne];omega
        obtain⟨rb5,ro5,d5',c51,c52⟩:=CA.out _ (Y.out.tr Z.out) src v hsn hvn;obtain⟨cv,hcv⟩:∃ cv,Hid (Za co src v=cv):=⟨_,rfl⟩;rw[hcv.out] at c52 etb;have q3:(src:Int)<(co.length:Int):=by omega
        have q4:(v:Int)<(co.length:Int):=by omega
        go_upto_region 19 with(fail);refine wp_region_any (by kernel_rfl) ?_
        change wpAny _ _ _ _ _ _ _ (World.drew _)
        refine Zc (i:=0) (op:=Op.move (Operand.tmp 13)) (t:=22) (d:=some 65) (v:=_) rfl (by decide +kernel) (fun _ _ _ h=>h) (by intro _;unfold Ze;go_simp;try with_reducible rfl) ?_
        try simp only[lay]
        refine Zc (i:=1) (op:=Op.fieldAddr 25 (Operand.tmp 2) 5) (t:=0) (d:=some 66) (v:=_) rfl (by decide +kernel) (fun _ _ _ h=>h) (by intro _;unfold Ze;go_simp;try with_reducible rfl) ?_
        try simp only[lay]
        refine Zc (i:=3) (op:=Op.move (Operand.tmp 12)) (t:=3) (d:=some 68) (v:=_) rfl (by decide +kernel) (fun _ _ _ h=>h) (by intro _;unfold Ze;go_simp;try with_reducible rfl) ?_
        try simp only[lay]
        refine Zc (i:=6) (op:=Op.move (Operand.tmp 6)) (t:=22) (d:=some 71) (v:=_) rfl (by decide +kernel) (fun _ _ _ h=>h) (by intro _;unfold Ze;go_simp;try with_reducible rfl) ?_
        try simp only[lay]
        refine Zc (i:=7) (op:=Op.move (Operand.tmp 14)) (t:=3) (d:=some 72) (v:=_) rfl (by decide +kernel) (fun _ _ _ h=>h) (by intro _;unfold Ze;go_simp;try with_reducible rfl) ?_
        try simp only[lay]
        refine Ul (n:=3) [(2,some 67),(4,some 69),(5,some 70),(8,some 73),(9,some 74),(10,some 75),(11,some 76)] (fun | 2=>.slice (some ⟨cb,cof,none⟩) co.length d | 4=>.pointer (some ⟨cb,cof+src,none⟩) | 5=>.slice (some ⟨rb5,ro5,none⟩) co.length d5' | 8=>.pointer (some ⟨lb,lo+b',none⟩) | 9=>.int .i64 (v:Int) | 10=>.pointer (some ⟨rb5,ro5+v,none⟩) | 11=>.int .i64 cv | _=>undef) #[true,true,true,true,true,true,true,true,true,true,true,true,false,false,false] (by decide +kernel) ?_ ?_
        ·intro pS hpm uS hD K hK
         simp only[List.mem_cons,List.not_mem_nil,or_false] at hpm;rcases hpm with rfl | rfl | rfl | rfl | rfl | rfl | rfl
         ·exact Zv (T:=23) (x:=Operand.tmp 66) (t:=23) (d:=some 67) rfl (.pointer (some ⟨w.heap.size,5,none⟩)) (by kernel_rfl) (.slice (some ⟨cb,cof,none⟩) co.length d) (by go_simp) hK
         ·exact XY (T:=23) (x:=Operand.tmp 67) (y:=Operand.tmp 68) (t:=0) (d:=some 69) rfl (.slice (some ⟨cb,cof,none⟩) co.length d) (.int .i64 (src:Int)) (Eq.trans (b:=uS 2) (by kernel_rfl) (hD 2 (Zp (by kernel_rfl)))) (by kernel_rfl) (.pointer (some ⟨cb,cof+src,none⟩)) (by go_simp) hK
         ·exact Zv (T:=22) (x:=Operand.tmp 69) (t:=22) (d:=some 70) rfl (.pointer (some ⟨cb,cof+src,none⟩)) (Eq.trans (b:=uS 4) (by kernel_rfl) (hD 4 (Zp (by kernel_rfl)))) (.slice (some ⟨rb5,ro5,none⟩) co.length d5') (by go_simp) hK
         ·exact XY (T:=22) (x:=Operand.tmp 71) (y:=Operand.tmp 72) (t:=0) (d:=some 73) rfl (.slice (some ⟨lb,lo,none⟩) l.length lc) (.int .i64 (b':Int)) (by kernel_rfl) (by kernel_rfl) (.pointer (some ⟨lb,lo+b',none⟩)) (by go_simp) hK
         ·exact Zv (T:=3) (x:=Operand.tmp 73) (t:=3) (d:=some 74) rfl (.pointer (some ⟨lb,lo+b',none⟩)) (Eq.trans (b:=uS 8) (by kernel_rfl) (hD 8 (Zp (by kernel_rfl)))) (.int .i64 (v:Int)) (by go_simp) hK
         ·exact XY (T:=22) (x:=Operand.tmp 70) (y:=Operand.tmp 74) (t:=0) (d:=some 75) rfl (.slice (some ⟨rb5,ro5,none⟩) co.length d5') (.int .i64 (v:Int)) (Eq.trans (b:=uS 5) (by kernel_rfl) (hD 5 (Zp (by kernel_rfl)))) (Eq.trans (b:=uS 9) (by kernel_rfl) (hD 9 (Zp (by kernel_rfl)))) (.pointer (some ⟨rb5,ro5+v,none⟩)) (by go_simp) hK
         ·exact Zv (T:=3) (x:=Operand.tmp 75) (t:=3) (d:=some 76) rfl (.pointer (some ⟨rb5,ro5+v,none⟩)) (Eq.trans (b:=uS 10) (by kernel_rfl) (hD 10 (Zp (by kernel_rfl)))) (.int .i64 cv) (by go_simp) hK
        simp only[Zn,Act.put,List.setIfInBounds_toArray,List.set_cons_zero,List.set_cons_succ];refine Zl 12 (by decide +kernel) (Vw rfl (.int .i64 cv) (by kernel_rfl) _ (JA _ _) ?_)
        try simp only[lay]
        have oN2:OwI (wi.drew.alloc (.cells #[.int .i64 cv] 3)) wo.heap.size RA rc (row.take b'):=oN.out.ext (((Ext.rf _).drew).alloc _);obtain⟨A5,c5,w5,hrun,o5,g5,-⟩:=Wa (wi.drew.alloc (.cells #[.int .i64 cv] 3)) wo.heap.size 22 RA b' rc (row.take b') [cv] (some ⟨wi.drew.heap.size,0,none⟩) 1 ltk.symm oN2 (.blk (.new rfl) rfl) (by simp;omega) (by simp;omega);have X5:=Ext.grow ((Z.out.drew).alloc (.cells #[.int .i64 cv] 3)) g5 (fun k hk=>(oN2.lt k hk).1);have lapp:(row.take b'++[cv]).length=b'+1:=by rw[List.length_append,ltk];rfl
        rw[lapp] at hrun;refine Zl 13 (by decide +kernel) (WQ rfl (.slice RA b' rc) (.slice (some ⟨wi.drew.heap.size,0,none⟩) 1 1) (by kernel_rfl) (by kernel_rfl) _ hrun ?_)
        try simp only[lay]
        refine Zc (i:=14) (op:=Op.assign (Operand.tmp 78)) (t:=22) (d:=some 13) (v:=_) rfl (by decide +kernel) (fun _ _ _ h=>h) (by intro _;unfold Ze;go_simp;try with_reducible rfl) ?_
        try simp only[lay]
        refine wpAny_done (by kernel_rfl) ?_ _;clear hrun lapp;go_simp;go_wp2_with (fail);go_roundw
        case rel =>
         refine⟨b'+1,A5,c5,by go_num,?_,by omega,?_⟩
         ·first | rfl | (rw[List.length_append,ltk];rfl) | (simp;omega)
         ·exact(show OwI w5 wo.heap.size A5 c5 (row.take (b'+1))/\Ext wo w5 from⟨by rw[etb.out];exact o5,X5⟩)
        case measure=>simp[intOf]<;>omega
       ·obtain rfl:b'=l.length:=by omega
        have q2:¬((l.length:Int)<(l.length:Int)):=by omega
        have er:=ehome.out;have etb:Hid (row=row.take l.length++[-1]):=Hd (by
         have h1:row.take (l.length+1)=row:=List.take_of_length_le (by rw[lrow];exact Nat.le_refl _);rw[<-h1,List.take_add_one,er];simp[lrow])
        clear er;have oN2:Hid (OwI (wi.alloc (.cells #[.int .i64 (-1)] 3)) wo.heap.size RA rc (row.take l.length)):=oN.out.ext ((Ext.rf _).alloc _);go_wp2_with (first | (at_builtin;go_loud (refine Yx _ rfl _ _ rfl wo.heap.size RA l.length rc (row.take l.length) [-1] (some ⟨wi.heap.size,0,none⟩) 1 rfl rfl ltk.symm ?_ ?_ ?_ ?_ ?_;(exact oN2.out);(exact .blk (.new rfl) rfl);(simp;omega);(simp;omega);rintro A5 c5 w5 o5 g5 _;have X5:=Ext.grow (Z.out.alloc _) g5 (fun k hk=>(oN2.out.lt k hk).1);rw[<-etb.out] at o5 ⊢;rw[lrow])) | (at_builtin;refine ZU _ (e:=22) Tryz.underlying23 hi.out hz0.out hz1.out hz2.out (by simp[Value.cells]) (by omega) rfl _ _ rfl w.heap.size MA 0 mc mus (some ⟨w5.heap.size,0,none⟩) 1 1 [.slice A5 (l.length+1) c5] rfl rfl ((oV.out.ext X5).ext ((Ext.rf _).alloc _)) (RdV.blk (.new (by simp))).rdC (by simp) (by simp[Value.oneCell']) (by simp only[maxLen];omega) (by omega) (by have:=X5.size;simp;omega) ?_;rintro M6' m6 w6 o6 g6 _));have oV5:=(oV.out.ext X5).ext ((Ext.rf w5).alloc (.cells #[.slice A5 (l.length+1) c5] 22));have M6:=oV5.grownT g6;have X6:Ext wo (w5.alloc (.cells #[.slice A5 (l.length+1) c5] 22)):=X5.tr ((Ext.rf _).alloc _);have NEW:Hid (OwV w6 w.heap.size 22 1 M6' (0+1) m6 (mus++[.slice A5 (l.length+1) c5])/\RowsO w6 w.heap.size (mus++[.slice A5 (l.length+1) c5]) (ms.take (0+1))/\Ext w w6/\Blk w6 w.heap.size 25 #[.int .i64 kind,.int .i64 co.length,.int .i64 cap,.slice A xw.length a,.slice B xv.length b,.slice (some ⟨cb,cof,none⟩) co.length d]/\OwI w6 w.heap.size (some ⟨lb,lo,none⟩) lc (Zf l)):=by
         refine⟨o6,?_,(Y.out.tr X6).modT M6 (Nat.le_refl _),(bI.out.ext X6).modT M6 (by decide),(oL.out.ext X6).modT M6 (by decide)⟩;rw[etk.out];have h:=((oR.out.ext X6).modT M6 (by decide)).snoc (((o5.more zwo).ext ((Ext.rf _).alloc _)).modT M6 (by decide));rw[lrow] at h;exact h
        go_roundw
        case rel=>exact⟨0+1,0,M6',m6,mus++[.slice A5 (l.length+1) c5],by go_num,by exact(show (0:Int)=((0+1:Nat):Int)-1 from by omega),rfl,by omega,NEW⟩
        case measure=>simp[intOf]<;>omega
     | succ k =>
      obtain rfl:aa=(k:Int):=by have:=haa.out;omega
      have hkl:k<l.length:=by omega
      have ek:l[k]?=some src:=by have h:=hsrc.out;simpa using h
      obtain⟨lb',lo',xs,hq,zs,cs0,es,_⟩:=oL.out.read.at (k:=k) (by rw[Zh];exact hkl);obtain⟨rfl,rfl⟩:lb=lb'/\lo=lo':=by simpa using hq
      have exs:xs=(src:Int):=by
       have h:=es.out;rw[Z7 ek] at h;exact(Option.some.inj h).symm
      subst exs;clear haa es hq;replace ek:=Hd ek;have q1:(k:Int)<(l.length:Int):=by omega
      have q1':¬((k:Int)<0):=by omega
      have START2:Hid (OwI wo wo.heap.size none 0 (row.take 0)/\Ext wo wo):=⟨OwI.nil _ _,Ext.rf _⟩;have hrg:Hid (OwI (wo.alloc (.cells #[] 3)) wo.heap.size (some ⟨wo.heap.size,0,none⟩) 0 (row.take 0)/\Ext wo (wo.alloc (.cells #[] 3))):=⟨OwI.empty (.new rfl) (Nat.le_refl _),(Ext.rf _).alloc _⟩;go_wp2_with (fail);go_loopw [13,14] (fun v13 v14 wr=>∃ (b:Nat) (RA:Option Addr) (rc:Nat),v14=.int .i64 b/\v13=.slice RA b rc/\b<=l.length/\Hid (OwI wr wo.heap.size RA rc (row.take b)/\Ext wo wr)) (fun _ v14 _=>l.length-(intOf v14).toNat)
      case atStart=>exact⟨0,some ⟨wo.heap.size,0,none⟩,0,rfl,rfl,by omega,hrg⟩
      case round =>
       obtain⟨wi,rfl⟩:=Wq wr;clear START2 hrg;obtain⟨b',RA,rc,rfl,rfl,hb,HR⟩:=hrel;obtain⟨oN,Z⟩:=HR.out;replace oN:=Hd oN;replace Z:=Hd Z;have zwi:=Z.out.size;have d5:wi.cell? ⟨w.heap.size,5,none⟩=some (.slice (some ⟨cb,cof,none⟩) co.length d):=(bI.out.ext Z.out).cell 5;have ltk:(row.take b').length=b':=by rw[List.length_take,lrow];omega
       clear HR
       by_cases hlb:b'<l.length
       ·have eb:l[b']?=some l[b']:=List.getElem?_eq_getElem hlb
        have hvn:=hin.out _ (List.getElem_mem hlb);have er:=erow.out b' _ eb;obtain⟨lb2,lo2,xv2,hq2,zl2,cl2,el2,_⟩:=(oL.out.ext Z.out).read.at (k:=b') (by rw[Zh];exact hlb);obtain⟨rfl,rfl⟩:lb=lb2/\lo=lo2:=by simpa using hq2
        have exv:xv2=((l[b']:Nat):Int):=by
         have h:=el2.out;rw[Z7 eb] at h;exact(Option.some.inj h).symm
        subst exv;generalize l[b']=v at *;have etb:Hid (row.take (b'+1)=row.take b'++[if b'+1=k+1 then -1 else Za co src v]):=Hd (by rw[List.take_add_one,er];rfl);have q2:(b':Int)<(l.length:Int):=by omega
        clear er eb el2 hq2
        by_cases hbk:b'=k
        ·have hif:(if b'+1=k+1 then(-1:Int) else Za co src v)=-1:=if_pos (by omega)
         rw[hif] at etb;have te:((b':Int)==(k:Int))=true:=by rw[beq_iff_eq];omega
         have oN2:OwI (wi.alloc (.cells #[.int .i64 (-1)] 3)) wo.heap.size RA rc (row.take b'):=oN.out.ext ((Ext.rf _).alloc _);go_wp2_with (at_builtin;go_loud (refine Yx _ rfl _ _ rfl wo.heap.size RA b' rc (row.take b') [-1] (some ⟨wi.heap.size,0,none⟩) 1 rfl rfl ltk.symm ?_ ?_ ?_ ?_ ?_;(exact oN2);(exact .blk (.new rfl) rfl);(simp;omega);(simp;omega);rintro A5 c5 w5 o5 g5 _;have X5:=Ext.grow (Z.out.alloc _) g5 (fun k hk=>(oN2.lt k hk).1)));go_roundw
         case rel =>
          refine⟨b'+1,A5,c5,by go_num,?_,by omega,?_⟩
          ·first | rfl | (rw[List.length_append,ltk];rfl) | (simp;omega)
          ·exact(show OwI w5 wo.heap.size A5 c5 (row.take (b'+1))/\Ext wo w5 from⟨by rw[etb.out];exact o5,X5⟩)
         case measure=>simp[intOf]<;>omega
        ·have hif:(if b'+1=k+1 then(-1:Int) else Za co src v)=Za co src v:=if_neg (by omega)
         rw[hif] at etb;have te:((b':Int)==(k:Int))=false:=by rw[beq_eq_false_iff_ne];omega
         obtain⟨rb5,ro5,d5',c51,c52⟩:=CA.out _ (Y.out.tr Z.out) src v hsn hvn;obtain⟨cv,hcv⟩:∃ cv,Hid (Za co src v=cv):=⟨_,rfl⟩;rw[hcv.out] at c52 etb;have q3:(src:Int)<(co.length:Int):=by omega
         have q4:(v:Int)<(co.length:Int):=by omega
         go_upto_region 19 with(fail);refine wp_region_any (by kernel_rfl) ?_
         change wpAny _ _ _ _ _ _ _ (World.drew _)
         refine Zc (i:=0) (op:=Op.move (Operand.tmp 13)) (t:=22) (d:=some 65) (v:=_) rfl (by decide +kernel) (fun _ _ _ h=>h) (by intro _;unfold Ze;go_simp;try with_reducible rfl) ?_
         try simp only[lay]
         refine Zc (i:=1) (op:=Op.fieldAddr 25 (Operand.tmp 2) 5) (t:=0) (d:=some 66) (v:=_) rfl (by decide +kernel) (fun _ _ _ h=>h) (by intro _;unfold Ze;go_simp;try with_reducible rfl) ?_
         try simp only[lay]
         refine Zc (i:=3) (op:=Op.move (Operand.tmp 12)) (t:=3) (d:=some 68) (v:=_) rfl (by decide +kernel) (fun _ _ _ h=>h) (by intro _;unfold Ze;go_simp;try with_reducible rfl) ?_
         try simp only[lay]
         refine Zc (i:=6) (op:=Op.move (Operand.tmp 6)) (t:=22) (d:=some 71) (v:=_) rfl (by decide +kernel) (fun _ _ _ h=>h) (by intro _;unfold Ze;go_simp;try with_reducible rfl) ?_
         try simp only[lay]
         refine Zc (i:=7) (op:=Op.move (Operand.tmp 14)) (t:=3) (d:=some 72) (v:=_) rfl (by decide +kernel) (fun _ _ _ h=>h) (by intro _;unfold Ze;go_simp;try with_reducible rfl) ?_
         try simp only[lay]
         refine Ul (n:=3) [(2,some 67),(4,some 69),(5,some 70),(8,some 73),(9,some 74),(10,some 75),(11,some 76)] (fun | 2=>.slice (some ⟨cb,cof,none⟩) co.length d | 4=>.pointer (some ⟨cb,cof+src,none⟩) | 5=>.slice (some ⟨rb5,ro5,none⟩) co.length d5' | 8=>.pointer (some ⟨lb,lo+b',none⟩) | 9=>.int .i64 (v:Int) | 10=>.pointer (some ⟨rb5,ro5+v,none⟩) | 11=>.int .i64 cv | _=>undef) #[true,true,true,true,true,true,true,true,true,true,true,true,false,false,false] (by decide +kernel) ?_ ?_
         ·intro pS hpm uS hD K hK
          simp only[List.mem_cons,List.not_mem_nil,or_false] at hpm;rcases hpm with rfl | rfl | rfl | rfl | rfl | rfl | rfl
          ·exact Zv (T:=23) (x:=Operand.tmp 66) (t:=23) (d:=some 67) rfl (.pointer (some ⟨w.heap.size,5,none⟩)) (by kernel_rfl) (.slice (some ⟨cb,cof,none⟩) co.length d) (by go_simp) hK
          ·exact XY (T:=23) (x:=Operand.tmp 67) (y:=Operand.tmp 68) (t:=0) (d:=some 69) rfl (.slice (some ⟨cb,cof,none⟩) co.length d) (.int .i64 (src:Int)) (Eq.trans (b:=uS 2) (by kernel_rfl) (hD 2 (Zp (by kernel_rfl)))) (by kernel_rfl) (.pointer (some ⟨cb,cof+src,none⟩)) (by go_simp) hK
          ·exact Zv (T:=22) (x:=Operand.tmp 69) (t:=22) (d:=some 70) rfl (.pointer (some ⟨cb,cof+src,none⟩)) (Eq.trans (b:=uS 4) (by kernel_rfl) (hD 4 (Zp (by kernel_rfl)))) (.slice (some ⟨rb5,ro5,none⟩) co.length d5') (by go_simp) hK
          ·exact XY (T:=22) (x:=Operand.tmp 71) (y:=Operand.tmp 72) (t:=0) (d:=some 73) rfl (.slice (some ⟨lb,lo,none⟩) l.length lc) (.int .i64 (b':Int)) (by kernel_rfl) (by kernel_rfl) (.pointer (some ⟨lb,lo+b',none⟩)) (by go_simp) hK
          ·exact Zv (T:=3) (x:=Operand.tmp 73) (t:=3) (d:=some 74) rfl (.pointer (some ⟨lb,lo+b',none⟩)) (Eq.trans (b:=uS 8) (by kernel_rfl) (hD 8 (Zp (by kernel_rfl)))) (.int .i64 (v:Int)) (by go_simp) hK
          ·exact XY (T:=22) (x:=Operand.tmp 70) (y:=Operand.tmp 74) (t:=0) (d:=some 75) rfl (.slice (some ⟨rb5,ro5,none⟩) co.length d5') (.int .i64 (v:Int)) (Eq.trans (b:=uS 5) (by kernel_rfl) (hD 5 (Zp (by kernel_rfl)))) (Eq.trans (b:=uS 9) (by kernel_rfl) (hD 9 (Zp (by kernel_rfl)))) (.pointer (some ⟨rb5,ro5+v,none⟩)) (by go_simp) hK
          ·exact Zv (T:=3) (x:=Operand.tmp 75) (t:=3) (d:=some 76) rfl (.pointer (some ⟨rb5,ro5+v,none⟩)) (Eq.trans (b:=uS 10) (by kernel_rfl) (hD 10 (Zp (by kernel_rfl)))) (.int .i64 cv) (by go_simp) hK
         simp only[Zn,Act.put,List.setIfInBounds_toArray,List.set_cons_zero,List.set_cons_succ];refine Zl 12 (by decide +kernel) (Vw rfl (.int .i64 cv) (by kernel_rfl) _ (JA _ _) ?_)
         try simp only[lay]
         have oN2:OwI (wi.drew.alloc (.cells #[.int .i64 cv] 3)) wo.heap.size RA rc (row.take b'):=oN.out.ext (((Ext.rf _).drew).alloc _);obtain⟨A5,c5,w5,hrun,o5,g5,-⟩:=Wa (wi.drew.alloc (.cells #[.int .i64 cv] 3)) wo.heap.size 22 RA b' rc (row.take b') [cv] (some ⟨wi.drew.heap.size,0,none⟩) 1 ltk.symm oN2 (.blk (.new rfl) rfl) (by simp;omega) (by simp;omega);have X5:=Ext.grow ((Z.out.drew).alloc (.cells #[.int .i64 cv] 3)) g5 (fun k hk=>(oN2.lt k hk).1);have lapp:(row.take b'++[cv]).length=b'+1:=by rw[List.length_append,ltk];rfl
         rw[lapp] at hrun;refine Zl 13 (by decide +kernel) (WQ rfl (.slice RA b' rc) (.slice (some ⟨wi.drew.heap.size,0,none⟩) 1 1) (by kernel_rfl) (by kernel_rfl) _ hrun ?_)
         try simp only[lay]
         refine Zc (i:=14) (op:=Op.assign (Operand.tmp 78)) (t:=22) (d:=some 13) (v:=_) rfl (by decide +kernel) (fun _ _ _ h=>h) (by intro _;unfold Ze;go_simp;try with_reducible rfl) ?_
         try simp only[lay]
         refine wpAny_done (by kernel_rfl) ?_ _;clear hrun lapp;go_simp;go_wp2_with (fail);go_roundw
         case rel =>
          refine⟨b'+1,A5,c5,by go_num,?_,by omega,?_⟩
          ·first | rfl | (rw[List.length_append,ltk];rfl) | (simp;omega)
          ·exact(show OwI w5 wo.heap.size A5 c5 (row.take (b'+1))/\Ext wo w5 from⟨by rw[etb.out];exact o5,X5⟩)
         case measure=>simp[intOf]<;>omega
       ·obtain rfl:b'=l.length:=by omega
        have q2:¬((l.length:Int)<(l.length:Int)):=by omega
        have er:=ehome.out;have etb:Hid (row=row.take l.length++[Za co src 0]):=Hd (by
         have h1:row.take (l.length+1)=row:=List.take_of_length_le (by rw[lrow];exact Nat.le_refl _);rw[<-h1,List.take_add_one,er];simp[lrow])
        clear er;obtain⟨rb6,ro6,d6,c61,c62⟩:=CA.out _ (Y.out.tr Z.out) src 0 hsn (by omega);obtain⟨cv0,hcv0⟩:∃ cv0,Hid (Za co src 0=cv0):=⟨_,rfl⟩;rw[hcv0.out] at c62 etb;replace c62:wi.cell? ⟨rb6,ro6,none⟩=some (.int .i64 cv0):=c62;have q3:(src:Int)<(co.length:Int):=by omega
        have q4:(0:Int)<(co.length:Int):=by omega
        have oN2:Hid (OwI (wi.alloc (.cells #[.int .i64 (cv0)] 3)) wo.heap.size RA rc (row.take l.length)):=oN.out.ext ((Ext.rf _).alloc _);go_wp2_with (first | (at_builtin;go_loud (refine Yx _ rfl _ _ rfl wo.heap.size RA l.length rc (row.take l.length) [cv0] (some ⟨wi.heap.size,0,none⟩) 1 rfl rfl ltk.symm ?_ ?_ ?_ ?_ ?_;(exact oN2.out);(exact .blk (.new rfl) rfl);(simp;omega);(simp;omega);rintro A5 c5 w5 o5 g5 _;have X5:=Ext.grow (Z.out.alloc _) g5 (fun k hk=>(oN2.out.lt k hk).1);rw[<-etb.out] at o5 ⊢;rw[lrow])) | (at_builtin;refine ZU _ (e:=22) Tryz.underlying23 hi.out hz0.out hz1.out hz2.out (by simp[Value.cells]) (by omega) rfl _ _ rfl w.heap.size MA (k+1) mc mus (some ⟨w5.heap.size,0,none⟩) 1 1 [.slice A5 (l.length+1) c5] rfl rfl ((oV.out.ext X5).ext ((Ext.rf _).alloc _)) (RdV.blk (.new (by simp))).rdC (by simp) (by simp[Value.oneCell']) (by simp only[maxLen];omega) (by omega) (by have:=X5.size;simp;omega) ?_;rintro M6' m6 w6 o6 g6 _));have oV5:=(oV.out.ext X5).ext ((Ext.rf w5).alloc (.cells #[.slice A5 (l.length+1) c5] 22));have M6:=oV5.grownT g6;have X6:Ext wo (w5.alloc (.cells #[.slice A5 (l.length+1) c5] 22)):=X5.tr ((Ext.rf _).alloc _);have NEW:Hid (OwV w6 w.heap.size 22 1 M6' ((k+1)+1) m6 (mus++[.slice A5 (l.length+1) c5])/\RowsO w6 w.heap.size (mus++[.slice A5 (l.length+1) c5]) (ms.take ((k+1)+1))/\Ext w w6/\Blk w6 w.heap.size 25 #[.int .i64 kind,.int .i64 co.length,.int .i64 cap,.slice A xw.length a,.slice B xv.length b,.slice (some ⟨cb,cof,none⟩) co.length d]/\OwI w6 w.heap.size (some ⟨lb,lo,none⟩) lc (Zf l)):=by
         refine⟨o6,?_,(Y.out.tr X6).modT M6 (Nat.le_refl _),(bI.out.ext X6).modT M6 (by decide),(oL.out.ext X6).modT M6 (by decide)⟩;rw[etk.out];have h:=((oR.out.ext X6).modT M6 (by decide)).snoc (((o5.more zwo).ext ((Ext.rf _).alloc _)).modT M6 (by decide));rw[lrow] at h;exact h
        go_roundw
        case rel=>exact⟨k+1+1,((k:Int)+1),M6',m6,mus++[.slice A5 (l.length+1) c5],by go_num,by exact(show ((k:Int)+1)=((k+1+1:Nat):Int)-1 from by omega),rfl,by omega,NEW⟩
        case measure=>simp[intOf]<;>omega
    ·obtain rfl:s=l.length+1:=by omega
     obtain rfl:aa=(l.length:Int):=by have:=haa.out;omega
     have q0:¬((l.length:Int)<(l.length:Int)):=by omega
     have etk:ms.take (l.length+1)=ms:=List.take_of_length_le (by rw[lml.out];exact Nat.le_refl _);rw[etk] at oR;have numL:∀ a b,(a=last\/a∈l)->(b=0\/b∈l)->0<=Za co a b/\Za co a b<=2147483647:=fun a b ha hb=>num.out a b (by
      rcases ha with rfl | h
      ·exact hla
      ·exact hin.out _ h) (by
      rcases hb with rfl | h
      ·omega
      ·exact hin.out _ h)
     have mn:=Zjk (rows:=co) (us:=l) (last:=last) (B:=2147483647) (by omega) numL;have mr:=Zjj (rows:=co) (us:=l) (last:=last);rw[hms.out] at mn mr;have RG:=ZcV ms (l.length+1) MA mc wo (ZhZ oV oR fun r hr x hx=>by have:=mn r hr x hx;omega) mr (by omega) (by omega) (by rw[lml.out];omega) (by rw[lml.out];omega) fun r hr x hx=>(mn r hr x hx).2
     have eg:=ZdY (rows:=co) (us:=l) (last:=last) (fun a b ha hb=>(numL a b ha hb).1) hnl.out h0m.out;rw[hms.out] at eg;rw[eg,lml.out] at RG;have bI':=Hd bI;have Y':=Hd Y;have oL':=Hd oL;replace RG:=Hd RG;have c0:∀ j:Nat,wo.cell? ⟨w.heap.size,j,none⟩=#[Value.int .i64 kind,.int .i64 co.length,.int .i64 cap,.slice A xw.length a,.slice B xv.length b,.slice (some ⟨cb,cof,none⟩) co.length d][j]?:=fun j=>bI.cell j
     clear HH oV oR bI oL mn mr eg etk numL haa;go_wp2_with (fail);refine RG.out.mono ?_;rintro e w2 ⟨rfl,x2⟩;have Y2:=Hd (Y'.out.tr x2);have bI2:=bI'.out.ext x2;have c0:=bI2.c0;have c1:=bI2.c1;have c2:=bI2.c2;have c3:=bI2.c3;have c4:=bI2.c4;have c5:=bI2.c5;replace bI2:=Hd bI2;have oL2:=Hd (oL'.out.ext x2);clear x2;go_wp2_with (fail);refine(MI.out _ Y2.out).mono ?_;rintro e w3 ⟨rfl,x3⟩;have Y3:=Hd (Y2.out.tr x3);have bI3:=bI2.out.ext x3;clear c0 c1 c2 c3 c4 c5;have br:=bred.out;have be:=bend.out;obtain⟨mi,hmi⟩:∃ mi,Hid (Wh co=mi):=⟨_,rfl⟩;rw[hmi.out] at ht2 ⊢;obtain⟨rv,hrv⟩:∃ rv,Hid (ZI co l last=rv):=⟨_,rfl⟩;rw[hrv.out] at ht2 br ⊢
     cases mi with
     | false =>
      have ht3:Hid (tot=cost+rv):=ht2.out;have hw:IntKind.i64.wrap (cost+rv)=cost+rv:=IntWalk.i64_in _ (by omega);go_wp2_with (fail);go_ret2;rw[ht3.out];exact⟨rfl,Y3.out⟩
     | true =>
      have ht3:Hid (tot=cost+max rv ((XL co l last+1) / 2)):=ht2.out;have ENN:=EN.out w3 Y3.out LA lc l last (oL2.out.ext x3).read hin.out (List.nodup_cons.1 hnod.out).2 (by omega) hla;obtain⟨ev,hev⟩:∃ ev,Hid (XL co l last=ev):=⟨_,rfl⟩;rw[hev.out] at ENN be ht3;have c0:=bI3.c0;have c1:=bI3.c1;have c2:=bI3.c2;have c3:=bI3.c3;have c4:=bI3.c4;have c5:=bI3.c5;have hq:ev.tdiv 2=ev / 2:=Int.tdiv_eq_ediv_of_nonneg (by omega);have hr:ev.tmod 2=ev%2:=Int.tmod_eq_emod_of_nonneg (by omega);have hw1:IntKind.i64.wrap (ev / 2)=ev / 2:=IntWalk.i64_in _ (by omega);have hw2:IntKind.i64.wrap (ev%2)=ev%2:=IntWalk.i64_in _ (by omega);have hes:ev / 2+ev%2=(ev+1) / 2:=by omega
      have hw3:IntKind.i64.wrap ((ev+1) / 2)=(ev+1) / 2:=IntWalk.i64_in _ (by omega);have hmax:(if rv<(ev+1) / 2 then(ev+1) / 2 else rv)=max rv ((ev+1) / 2):=by split<;>omega
      obtain⟨mv,hmv⟩:∃ mv,Hid (max rv ((ev+1) / 2)=mv):=⟨_,rfl⟩;have bmv:0<=mv/\mv<=4294967294*100:=by rw[<-hmv.out];omega
      rw[hmv.out] at ht3 hmax;have hw4:IntKind.i64.wrap (cost+mv)=cost+mv:=IntWalk.i64_in _ (by omega);replace ENN:=Hd ENN;replace bI3:=Hd bI3;go_wp2_with (fail);refine ENN.out.mono ?_;rintro e w4 ⟨rfl,x4⟩;have Y4:=Hd (Y3.out.tr x4);clear x4 c0 c1 c2 c3 c4 c5;go_wp2_with (fail);go_ret2;rw[ht3.out];exact⟨rfl,Y4.out⟩
end
end Go.Proofs.YtnbcmiaaleambaaGreatDoor
