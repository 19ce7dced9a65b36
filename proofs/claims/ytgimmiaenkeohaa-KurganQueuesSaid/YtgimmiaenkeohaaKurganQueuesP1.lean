/- parts, packed by a program -/
import Derived.Test.YtgimmiaenkeohaaRows
import Derived.WalkKit
import Derived.ProofKit
import Derived.OpenShut
import Derived.BigQuiet
import Derived.Deep.QuietTactic
import Derived.Deep.Slices
import Derived.Lib.Hide
import Derived.Lib.SmallJoins
import Derived.Deep.RegionHeld3
import Derived.StillTailTactics
import Derived.Deep.RegionLaw
import Derived.WalkSpells
import Derived.Deep.DeepFit
import Derived.JoinedCond
import Derived.Maps.AppendAt
import Derived.RegionTactic
import Derived.Deep.DeepCutAuto
import Derived.Deep.CutBlock
set_option maxRecDepth 100000
set_option maxHeartbeats 16000000
set_option linter.all false
namespace Go.Proofs.Ytgimmiaenkeohaa
open Go.ChangeAt Go.ChangeShapes Go.RowKit Go.WideShapes
section
abbrev Ext (w w':World) : Prop:=Below w.heap.size w w'
theorem Hd {p:Prop}(h:p) : Hid p:=Lib.hid h
theorem Wq (w:World) : ∃ v:World,v=w:=⟨_,rfl⟩
theorem Ext.rf (w:World) : Ext w w:=Below.refl _ _
theorem Ext.tr {a b c:World}(h:Ext a b)(k:Ext b c) : Ext a c:=Below.trans h (Below.mono k h.size)
theorem Ext.drewN {a b:World}(h:Ext a b)(n:Nat) : Ext a (b.drewN n):=⟨h.os,h.tape,h.output,h.size,h.block⟩
theorem Ext.drew {a b:World}(h:Ext a b) : Ext a b.drew:=Below.drew h
theorem Ext.alloc {a b:World}(h:Ext a b)(o:Obj) : Ext a (b.alloc o):=Below.alloc h h.size o
instance extRf (a:World) : Nonempty (Ext a a):=⟨Ext.rf a⟩
instance extDrew (a b:World)[h:Nonempty (Ext a b)] : Nonempty (Ext a b.drew):=⟨Ext.drew (h.elim id)⟩
instance extDrewN (a b:World)(n:Nat)[h:Nonempty (Ext a b)] : Nonempty (Ext a (b.drewN n)):=⟨Ext.drewN (h.elim id) n⟩
instance extAlloc (a b:World)(o:Obj)[h:Nonempty (Ext a b)] : Nonempty (Ext a (b.alloc o)):=⟨Ext.alloc (h.elim id) o⟩
theorem XI {a b:World}[h:Nonempty (Ext a b)] : Ext a b:=h.elim id
theorem Ext.setNew {a b:World}(h:Ext a b){p:Addr}(hp:a.heap.size<=p.block)(u:Value) : Ext a (b.setCell p u):=Below.setCell h hp u
theorem Ext.cells {W w1:World}(hb:Ext W w1) : (∀ b o,b<W.heap.size->w1.cell? ⟨b,o,none⟩=W.cell? ⟨b,o,none⟩)/\(∀ b o,b<W.heap.size->w1.frozen? ⟨b,o,none⟩=W.frozen? ⟨b,o,none⟩) :=
 ⟨fun b o h=>hb.cell (p:=⟨b,o,none⟩) h,fun b o h=>hb.frozen (p:=⟨b,o,none⟩) h⟩
def RdI (w:World)(A:Option Addr)(xs:List Int) : Prop :=
 xs=[]\/∃ b off,A=some ⟨b,off,none⟩/\b<w.heap.size/\∀ j x,xs[j]?=some x->w.cell? ⟨b,off+j,none⟩=some (.int .i64 x)
theorem RdI.at {w:World}{A:Option Addr}{xs:List Int}(h:RdI w A xs){k:Nat}(hk:k<xs.length) :
  ∃ b off x,A=some ⟨b,off,none⟩/\b<w.heap.size/\w.cell? ⟨b,off+k,none⟩=some (.int .i64 x)/\Hid (xs[k]?=some x)/\Hid (xs.drop k=x::xs.drop (k+1)):=by
 rcases h with rfl | ⟨b,off,rfl,hb,hc⟩
 ·simp at hk
 ·have e:xs[k]?=some xs[k]:=List.getElem?_eq_getElem hk
  exact⟨b,off,xs[k],rfl,hb,hc k _ e,e,List.drop_eq_getElem_cons hk⟩
theorem RdI.ext {w w':World}{A:Option Addr}{xs:List Int}(h:RdI w A xs)(hb:Ext w w') : RdI w' A xs:=by
 rcases h with rfl | ⟨b,off,rfl,hb',hc⟩
 ·exact .inl rfl
 ·exact .inr ⟨b,off,rfl,by have:=hb.size;omega,fun j x hj=>by rw[hb.cell hb'];exact hc j x hj⟩
theorem RdI.take {w:World}{A:Option Addr}{xs:List Int}(h:RdI w A xs)(n:Nat) : RdI w A (xs.take n):=by
 rcases h with rfl | ⟨b,off,rfl,hb',hc⟩
 ·exact .inl (by simp)
 ·exact .inr ⟨b,off,rfl,hb',fun j x hj=>hc j x (by rw[List.getElem?_take] at hj;split at hj<;>simp_all)⟩
def Blk (w:World)(g:Nat)(t:TypeId)(cs:Array Value) : Prop:=w.heap[g]?=some (.cells cs t (0,0))
section
variable {w w':World} {g:Nat} {t:TypeId} {cs:Array Value}
theorem Blk.lt (h:Blk w g t cs) : g<w.heap.size:=(Array.getElem?_eq_some_iff.1 h).1
theorem Blk.cell (h:Blk w g t cs)(i:Nat) : w.cell? ⟨g,i,none⟩=cs[i]?:=cell_of_row w g i cs t (0,0) h
theorem Blk.free (h:Blk w g t cs)(i:Nat) : w.frozen? ⟨g,i,none⟩=false:=by
 unfold Blk at h;simp[World.frozen?,h]
theorem Blk.new (h:g=w.heap.size) : Blk (w.alloc (.cells cs t)) g t cs:=by subst h;exact heap_alloc_new w _
theorem Blk.drew (h:Blk w g t cs) : Blk w.drew g t cs:=h
theorem Blk.drewN (h:Blk w g t cs)(n:Nat) : Blk (w.drewN n) g t cs:=h
theorem Blk.alloc (h:Blk w g t cs)(o:Obj) : Blk (w.alloc o) g t cs:=(Below.heap_alloc w o g h.lt).trans h
theorem Blk.set (h:Blk w g t cs)(i:Nat)(u:Value) : Blk (w.setCell ⟨g,i,none⟩ u) g t (cs.setIfInBounds i u):=by
 unfold Blk at h ⊢;simp[World.setCell,Array.getElem?_modify,h]
theorem Blk.far (h:Blk w g t cs){p:Addr}(hp:g≠p.block)(u:Value) : Blk (w.setCell p u) g t cs:=(Below.heap_setCell w p u g hp).trans h
theorem Blk.ext (h:Blk w g t cs)(hb:Ext w w') : Blk w' g t cs:=(hb.block g h.lt).trans h
theorem Blk.below {B:Nat}(h:Blk w g t cs)(hb:Below B w w')(hg:g<B) : Blk w' g t cs:=(hb.block g hg).trans h
theorem Blk.ne {g':Nat}{t':TypeId}{cs':Array Value}(h:Blk w g t cs)(h':Blk w g' t' cs')(hne:t≠t') : g≠g':=by
 rintro rfl;unfold Blk at h h';rw[h] at h'
 injection h' with h'
 injection h' with _ ht
 exact hne ht
theorem Blk.same {cs':Array Value}{t':TypeId}(h:Blk w g t cs)(h':Blk w g t' cs') : cs=cs':=by
 unfold Blk at h h';rw[h] at h'
 injection h' with h'
 injection h' with hc
end
theorem RdI.blk {w:World}{b:Nat}{cs:Array Value}{t:TypeId}{xs:List Int}(h:Blk w b t cs)(hx:cs.toList=xs.map (Value.int .i64)) : RdI w (some ⟨b,0,none⟩) xs:=by
 refine .inr ⟨_,_,rfl,h.lt,fun j x hj=>?_⟩;rw[h.cell];have:cs.toList[0+j]?=some (.int .i64 x):=by rw[hx];simp[hj]
 simpa using this
def Ints (xs:List Int) : Prop:=∀ x∈xs,-9223372036854775808<=x/\x<=9223372036854775807
theorem ZT : 0<=maxLen:=by simp only[maxLen];omega
theorem Ints.nil : Ints []:=fun x hx=>absurd hx List.not_mem_nil
theorem Ints.of_wf {xs:List Int}(h:∀ n∈xs,(Lit.int .i64 n).wf=true) : Ints xs:=fun n hn=>by
 simpa [Lit.wf,IntKind.min,IntKind.max,IntKind.signed,IntKind.bits] using h n hn
theorem Ints.take {xs:List Int}(h:Ints xs)(n:Nat) : Ints (xs.take n):=fun x hx=>h x (List.mem_of_mem_take hx)
theorem Vk {w:World}{A:Option Addr}{xs:List Int}(m:Nat)(h:RdI w A xs)(hi:Ints xs) : ∃ ps:List Int,RdI w A ps/\Ints ps/\ps.length<=m/\ps.length<=xs.length/\Hid (ps=xs.take m)/\(if (m:Int)<(xs.length:Int) then(m:Int) else(xs.length:Int))=(ps.length:Int):=by
 refine⟨xs.take m,h.take m,hi.take m,List.length_take_le _ _,by simp only[List.length_take];omega,rfl,?_⟩;simp only[List.length_take];split<;>omega
theorem getD_some {α:Type}{xs:List α}{k:Nat}{x d:α}(h:xs[k]?=some x) : xs.getD k d=x:=by simp[List.getD,h]
theorem Vl {k:IntKind}{a b:Int}(h:a=b) : Ending.returned (.int k a)=.returned (.int k b):=by rw[h]
theorem Wl {a b:Bool}(h:a=b) : Ending.returned (.bool a)=.returned (.bool b):=by rw[h]
theorem own : ownKnob Try.prog.godebug=none:=by kernel_rfl
theorem UC : laidOutB Try.prog=true:=by kernel_rfl
theorem Qg : Try.prog.underlying 4=some .bool:=Try.underlying4
theorem Vv : Try.prog.cellsOf 3=1:=by kernel_rfl
theorem Wm {ts:List TypeId}(h:ts.all (fun t=>Try.prog.readableRec t&&decide (t<Try.prog.types.size))=true) : ∀ t∈ts,Try.prog.readableRec t=true/\t<Try.prog.types.size:=fun t ht=>by
 have:=List.all_eq_true.1 h t ht
 simpa using this
section
variable {H:Type} {enc:TypeId×Value->H}
theorem YU {W W':World}(hb:Ext W W') : ∀ {ts:List TypeId} {vs:List Value} {ds:List (DataW H)} {p:List MemPlace},(∀ t∈ts,Try.prog.readableRec t=true/\t<Try.prog.types.size) ->
  DataW.TrodAll enc Try.prog W 0 (fun _=>true) true ts vs ds p->(∀ x∈p,x.block<W.heap.size)->DataW.TrodAll enc Try.prog W' 0 (fun b=>decide (b<W.heap.size)) true ts vs ds p
 | [],[],[],_,_,h,_=>by simpa [DataW.TrodAll] using h
 | t::ts,v::vs,d::ds,_,hr,h,hlt=>by
  obtain⟨p,q,h0,h1,rfl⟩:=h;exact⟨p,q,Below.trod UC (hr t (by simp)).1 (hr t (by simp)).2 h0 hb (fun x hx=>hlt x (by simp[hx])),YU hb (fun t ht=>hr t (by simp[ht])) h1 (fun x hx=>hlt x (by simp[hx])),rfl⟩
 | [],_::_,_,_,_,h,_=>by simp[DataW.TrodAll] at h
 | [],[],_::_,_,_,h,_=>by simp[DataW.TrodAll] at h
 | _::_,[],_,_,_,h,_=>by simp[DataW.TrodAll] at h
 | _::_,_::_,[],_,_,h,_=>by simp[DataW.TrodAll] at h
theorem V1 {f:Func}{s:ChangeSpec}{W W':World}{args:Array Value}{ds gs:List (DataW H)}{before:List MemPlace}
  (hW:DataW.Whole enc Try.prog f.params.toList s.vars false W args.toList ds gs before) (hvars:s.vars=[]) (hr:f.resultTypes=#[4])
  (hs:(s.fn H (ds++gs)).results=[.lit (.bool true)]) (ha:(s.fn H (ds++gs)).args=ds) (hv:(s.fn H (ds++gs)).vars=[])
  (hp:∀ t∈f.params.toList,Try.prog.readableRec t=true/\t<Try.prog.types.size) (hb:Ext W W') :
  s.post enc Try.prog f false true false false W args (.bool true) W':=by
 have hW':=hW;obtain⟨p,q,hA,hV,rfl,hz,hn⟩:=hW;rw[hvars] at hV;obtain⟨rfl,rfl⟩:=trodVars_none hV;have hlt:∀ x∈p,x.block<W.heap.size:=fun x hx=>by simpa using hW'.lt x (by simp[hx])
 refine⟨ds,[],p++[],[],p,[],hW',?_,?_,?_,hb.frame _,fun h=>by cases h⟩
 ·rw[hs,hr]
  exact trodAll_cons_mk (shut_bool Qg _) trodAll_mk0
 ·rw[ha]
  exact YU hb hp hA hlt
 ·rw[hv,hvars]
  simp[DataW.TrodVars]
theorem Wn {W:World}{base:Nat}{v:Value}{d:DataW H}{p:List MemPlace}(hd:DataW.Trod enc Try.prog W 0 (fun _=>true) true 22 v d p)(hv:Value.okWide Try.prog W .any base 22 v) :
  ∃ A xs c,v=.slice A xs.length c/\RdI W A xs/\Ints xs/\xs.length<=c/\c<=maxLen:=by
 obtain⟨a0,len,cap,rfl⟩:=okWide_slice Try.underlying22 hv;obtain⟨fuel,hf⟩:=hd;rcases open_ints Try.underlying22 Try.underlying3 Vv hf with⟨hcs,hx⟩ | ⟨a,len',cap',zs,hcs,_,hl,hm,hz,hx,hcell,hwz⟩
 ·simp[Value.cells] at hcs
  obtain⟨rfl,rfl,rfl⟩:=hcs;refine⟨none,[],0,rfl,.inl rfl,Ints.nil,Nat.le_refl 0,ZT⟩
 ·simp[Value.cells] at hcs
  obtain⟨rfl,rfl,rfl⟩:=hcs;simp only[if_true] at hz;have hlen:(zs.take len).length=len:=by simp;omega
  refine⟨some a,zs.take len,cap,by rw[hlen],?_,fun x hx=>(Ints.of_wf hwz) x (List.mem_of_mem_take hx),by omega,hm⟩
  by_cases h0:len=0
  ·subst h0
   exact .inl (by simp)
  ·obtain⟨b,off,spot⟩:=a
   have hspot:spot=none:=by simpa [Addr.add] using World.cell?_spot (hcell 0 (by omega))
   subst hspot;refine .inr ⟨b,off,rfl,World.block_lt_of_cell? W _ (hcell 0 (by omega)),fun j x hj=>?_⟩;have hj':j<len:=by
    have:=(List.getElem?_eq_some_iff.1 hj).1;omega
   rw[<-add_plain,hcell j (by omega)];rw[List.getElem?_take,if_pos hj'] at hj;simp[List.getD,hj]
end
end
section
theorem Y4 : (Try.prog.info? 3).map (fun i=>(i.zero,i.size,i.bytes))=some (some (.int .i64 0),1,8):=by kernel_rfl
def OwI (w:World)(base:Nat)(A:Option Addr)(c:Nat)(xs:List Int) : Prop:=w.ownsRow base 3 1 (.slice A xs.length c) xs.length (xs.map (Value.int .i64))
def bl (A:Option Addr) : Option Nat:=A.map (·.block)
theorem YV (A:Option Addr)(n c:Nat) : (Value.slice A n c).ownBlock=bl A:=by cases A<;>rfl
section
variable {w w':World} {base:Nat} {A:Option Addr} {c:Nat} {xs:List Int}
theorem OwI.nil (w:World)(base:Nat) : OwI w base none 0 []:=World.ownsRow_nil _ _ _ _
theorem OwI.cases (h:OwI w base A c xs) : (A=none/\c=0/\xs=[])\/∃ g cur,A=some ⟨g,0,none⟩/\base<=g/\w.heap[g]?=some (.cells cur 3 (0,0))/\xs.length<=c/\c<=maxLen/\cur.size=c*1/\cur.toList.take (xs.length*1)=xs.map (Value.int .i64):=by
 rcases h.2 with⟨hv,h0⟩ | ⟨g,cap,cur,hv,hb,hg,hn,hm,hs,ht⟩
 ·have:xs=[]:=List.eq_nil_of_length_eq_zero h0
  subst this
  injection hv with h1 _ h3
  exact .inl ⟨h1,h3,rfl⟩
 ·injection hv with h1 _ h3
  subst h1 h3;exact .inr ⟨g,cur,rfl,hb,hg,hn,hm,hs,ht⟩
theorem OwI.mk {g:Nat}{cur:Array Value}(hb:base<=g)(hg:w.heap[g]?=some (.cells cur 3 (0,0)))(hn:xs.length<=c)(hm:c<=maxLen)(hs:cur.size=c*1)(ht:cur.toList.take (xs.length*1)=xs.map (Value.int .i64)) : OwI w base (some ⟨g,0,none⟩) c xs :=
 ⟨by simp,.inr ⟨g,c,cur,rfl,hb,hg,hn,hm,hs,ht⟩⟩
theorem OwI.le (h:OwI w base A c xs) : xs.length<=c/\c<=maxLen:=by
 rcases h.cases with⟨rfl,rfl,rfl⟩ | ⟨g,cur,rfl,hb,hg,hn,hm,_⟩
 ·exact⟨Nat.le_refl _,ZT⟩
 ·exact⟨hn,hm⟩
theorem OwI.read (h:OwI w base A c xs) : RdI w A xs:=by
 rcases h.cases with⟨rfl,rfl,rfl⟩ | ⟨g,cur,rfl,hb,hg,hn,hm,hs,ht⟩
 ·exact .inl rfl
 ·have hlt:=(Array.getElem?_eq_some_iff.1 hg).1
  refine .inr ⟨g,0,rfl,hlt,fun j x hj=>?_⟩;rw[cell_of_row w g _ cur _ (0,0) hg];have hj':(xs.map (Value.int .i64))[j]?=some (.int .i64 x):=by simp[hj]
  rw[<-ht,List.getElem?_take] at hj';split at hj'
  ·simpa using hj'
  ·cases hj'
theorem OwI.keep (h:OwI w base A c xs)(hb:∀ g,bl A=some g->w'.heap[g]?=w.heap[g]?) : OwI w' base A c xs:=by
 rcases h.cases with⟨rfl,rfl,rfl⟩ | ⟨g,cur,rfl,hb',hg,hn,hm,hs,ht⟩
 ·exact OwI.nil _ _
 ·exact .mk hb' ((hb g rfl).trans hg) hn hm hs ht
theorem OwI.lt (h:OwI w base A c xs) : ∀ k,bl A=some k->base<=k/\k<w.heap.size:=by
 intro k hk;rcases h.cases with⟨rfl,rfl,rfl⟩ | ⟨g,cur,rfl,hb',hg,_⟩
 ·simp[bl] at hk
 ·simp[bl] at hk
  subst hk;exact⟨hb',(Array.getElem?_eq_some_iff.1 hg).1⟩
theorem OwI.ext (h:OwI w base A c xs)(hb:Ext w w') : OwI w' base A c xs:=h.keep fun g hg=>hb.block g (h.lt g hg).2
theorem OwI.more {base':Nat}(h:OwI w base A c xs)(hb:base'<=base) : OwI w base' A c xs:=by
 rcases h.cases with⟨rfl,rfl,rfl⟩ | ⟨g,cur,rfl,hb',hg,hn,hm,hs,ht⟩
 ·exact OwI.nil _ _
 ·exact .mk (Nat.le_trans hb hb') hg hn hm hs ht
theorem OwI.at (h:OwI w base A c xs){k:Nat}(hk:k<xs.length) :
  ∃ g x,A=some ⟨g,0,none⟩/\base<=g/\g<w.heap.size/\w.cell? ⟨g,k,none⟩=some (.int .i64 x)/\w.frozen? ⟨g,k,none⟩=false/\Hid (xs[k]?=some x) /\
   Hid (∀ y,OwI (w.setCell ⟨g,k,none⟩ (.int .i64 y)) base A c (xs.set k y)):=by
 rcases h.cases with⟨rfl,rfl,rfl⟩ | ⟨g,cur,rfl,hb,hg,hn,hm,hs,ht⟩
 ·simp at hk
 ·have hlt:=(Array.getElem?_eq_some_iff.1 hg).1
  have hxk:xs[k]?=some xs[k]:=List.getElem?_eq_getElem hk;have hc:w.cell? ⟨g,k,none⟩=some (.int .i64 xs[k]):=by
   rw[cell_of_row w g _ cur _ (0,0) hg];have hj':(xs.map (Value.int .i64))[k]?=some (.int .i64 xs[k]):=by simp[hxk]
   rw[<-ht,List.getElem?_take] at hj';split at hj'
   ·simpa using hj'
   ·cases hj'
  refine⟨g,xs[k],rfl,hb,hlt,hc,by simp[World.frozen?,hg],hxk,fun y=>.mk (cur:=cur.setIfInBounds k (.int .i64 y)) hb ?_ (by simpa using hn) hm (by simpa using hs) ?_⟩
  ·simp[World.setCell,Array.getElem?_modify,hg]
  ·simp only[List.length_set,Array.toList_setIfInBounds,List.map_set,<-ht]
   rw[List.take_set]
theorem OwI.cell {g:Nat}(h:OwI w base (some ⟨g,0,none⟩) c xs){k:Nat}(hk:k<xs.length) :
  ∃ x,w.cell? ⟨g,k,none⟩=some (.int .i64 x)/\w.frozen? ⟨g,k,none⟩=false/\base<=g/\Hid (xs[k]?=some x)/\Hid (∀ y,OwI (w.setCell ⟨g,k,none⟩ (.int .i64 y)) base (some ⟨g,0,none⟩) c (xs.set k y)):=by
 obtain⟨g',x,hv,hb,hlt,hc,hf,hx,hs⟩:=h.at hk
 injection hv with h1
 injection h1 with h1
 subst h1;exact⟨x,hc,hf,hb,hx,hs⟩
theorem OwI.new {cs:Array Value}(hx:cs.toList=xs.map (Value.int .i64))(hb:base<=w.heap.size)(hm:xs.length<=maxLen) : OwI (w.alloc (.cells cs 3)) base (some ⟨w.heap.size,0,none⟩) xs.length xs:=by
 refine .mk (cur:=cs) hb (heap_alloc_new w _) (Nat.le_refl _) hm ?_ ?_
 ·rw[<-Array.length_toList,hx];simp
 ·rw[hx,List.take_of_length_le (by simp)]
end
theorem Ext.grow {a w w':World}{row:Option Nat}(h:Ext a w)(hg:w.grownBy w' row)(hr:∀ k,row=some k->a.heap.size<=k) : Ext a w':=Below.grown h hg h.size hr
theorem Ext.grownNone {a w w':World}(h:Ext a w)(hg:w.grownBy w' none) : Ext a w':=h.grow hg (fun k hk=>by cases hk)
structure Mod (S:Nat->Prop)(w w':World) : Prop where
 os:w'.os=w.os
 tape:w'.tape=w.tape
 output:w'.output=w.output
 size:w.heap.size<=w'.heap.size
 block:∀ k,k<w.heap.size->¬S k->w'.heap[k]?=w.heap[k]?
theorem Mod.of_ext {S:Nat->Prop}{w w':World}(h:Ext w w') : Mod S w w':=⟨h.os,h.tape,h.output,h.size,fun k hk _=>h.block k hk⟩
theorem Mod.rf {S:Nat->Prop}(w:World) : Mod S w w:=⟨rfl,rfl,rfl,Nat.le_refl _,fun _ _ _=>rfl⟩
theorem Mod.tr {S:Nat->Prop}{a b c:World}(h:Mod S a b)(k:Mod S b c) : Mod S a c :=
 ⟨k.os.trans h.os,k.tape.trans h.tape,k.output.trans h.output,Nat.le_trans h.size k.size,fun i hi hs=>(k.block i (Nat.lt_of_lt_of_le hi h.size) hs).trans (h.block i hi hs)⟩
theorem Mod.tr' {S S':Nat->Prop}{a b c:World}(h:Mod S a b)(k:Mod S' b c)(hS:∀ i,i<a.heap.size->S' i->S i) : Mod S a c :=
 ⟨k.os.trans h.os,k.tape.trans h.tape,k.output.trans h.output,Nat.le_trans h.size k.size,fun i hi hs=>(k.block i (Nat.lt_of_lt_of_le hi h.size) (fun h'=>hs (hS i hi h'))).trans (h.block i hi hs)⟩
theorem Mod.mono {S S':Nat->Prop}{a b:World}(h:Mod S a b)(hS:∀ i,i<a.heap.size->S i->S' i) : Mod S' a b :=
 ⟨h.os,h.tape,h.output,h.size,fun i hi hs=>h.block i hi (fun h'=>hs (hS i hi h'))⟩
theorem Mod.drewN {S:Nat->Prop}{a b:World}(h:Mod S a b)(n:Nat) : Mod S a (b.drewN n):=⟨h.os,h.tape,h.output,h.size,h.block⟩
theorem Mod.drew {S:Nat->Prop}{a b:World}(h:Mod S a b) : Mod S a b.drew:=⟨h.os,h.tape,h.output,h.size,h.block⟩
theorem Mod.alloc {S:Nat->Prop}{a b:World}(h:Mod S a b)(o:Obj) : Mod S a (b.alloc o):=h.tr (Mod.of_ext ((Ext.rf b).alloc o))
theorem Mod.set {S:Nat->Prop}{a b:World}(h:Mod S a b){p:Addr}(hp:S p.block\/a.heap.size<=p.block)(u:Value) : Mod S a (b.setCell p u) :=
 ⟨h.os,h.tape,h.output,by simpa [World.setCell] using h.size,fun i hi hs=>(Below.heap_setCell b p u i (by
  rintro rfl;rcases hp with hp | hp
  ·exact hs hp
  ·omega)).trans (h.block i hi hs)⟩
theorem Mod.below {S:Nat->Prop}{w w':World}(h:Mod S w w'){B:Nat}(hB:B<=w.heap.size)(hS:∀ k,k<B->¬S k) : Below B w w':=⟨h.os,h.tape,h.output,h.size,fun k hk=>h.block k (by omega) (hS k hk)⟩
theorem Ext.mod {S:Nat->Prop}{a w w':World}(h:Ext a w)(hm:Mod S w w')(hS:∀ k,k<a.heap.size->¬S k) : Ext a w':=Below.trans h (hm.below h.size hS)
theorem Mod.ext {S:Nat->Prop}{a w w':World}(h:Mod S a w)(hm:Ext w w') : Mod S a w':=h.tr (Mod.of_ext hm)
theorem Mod.grown {w w':World}{row:Option Nat}{S:Nat->Prop}(h:w.grownBy w' row)(hS:∀ g,row=some g->S g) : Mod S w w' :=
 ⟨h.os,h.tape,h.output,h.size,fun k hk hs=>h.block k hk (fun e=>hs (hS k e.symm))⟩
theorem Blk.mod {S:Nat->Prop}{w w':World}{g:Nat}{t:TypeId}{cs:Array Value}(h:Blk w g t cs)(hm:Mod S w w')(hg:¬S g) : Blk w' g t cs:=(hm.block g h.lt hg).trans h
theorem OwI.mod {S:Nat->Prop}{w w':World}{base:Nat}{A:Option Addr}{c:Nat}{xs:List Int}(h:OwI w base A c xs)(hm:Mod S w w')(hg:∀ g,bl A=some g->¬S g) : OwI w' base A c xs :=
 h.keep fun g hA=>hm.block g (h.lt g hA).2 (hg g hA)
theorem OwI.ne {w:World}{base:Nat}{A:Option Addr}{c:Nat}{xs:List Int}{g:Nat}{t:TypeId}{cs:Array Value}(h:OwI w base A c xs)(hg:Blk w g t cs)(ht:t≠3) : ∀ k,bl A=some k->¬k=g:=by
 rintro k hk rfl;rcases h.cases with⟨rfl,rfl,rfl⟩ | ⟨g',cur,rfl,hb',hh,_⟩
 ·simp[bl] at hk
 ·simp[bl] at hk
  subst hk;exact Blk.ne (show Blk w g' _ _ from hh) hg (Ne.symm ht) rfl
theorem OwI.far {w:World}{base:Nat}{A:Option Addr}{c:Nat}{xs:List Int}{g:Nat}{t:TypeId}{cs:Array Value}(h:OwI w base A c xs)(hg:Blk w g t cs)(ht:t≠3)(i:Nat)(u:Value) : OwI (w.setCell ⟨g,i,none⟩ u) base A c xs :=
 h.mod (S:=fun x=>x=g) (Mod.set (S:=fun x=>x=g) (p:=⟨g,i,none⟩) (Mod.rf w) (.inl rfl) u) (h.ne hg ht)
section
variable (w:World)
theorem XO (base:Nat)(ty:TypeId)(A:Option Addr)(n cA:Nat)(xs ys:List Int)(B:Option Addr)(c:Nat)(hn:n=xs.length)(hown:OwI w base A cA xs)(hr:RdI w B ys)(hlen:xs.length+ys.length<=2^44)(hbase:base<=w.heap.size) :
  ∃ A' c' w',(Builtin.append_ #[22,22] ty #[.slice A n cA,.slice B ys.length c]).run Try.prog w=.ok (.slice A' (xs++ys).length c') w'/\OwI w' base A' c' (xs++ys)/\w.grownBy w' (bl A)/\(bl A'=bl A\/∃ g,bl A'=some g/\w.heap.size<=g):=by
 subst hn;obtain⟨i0,hi,hz0,hz1,hz2⟩:=info_parts Y4;have hmax:xs.length+ys.length<=maxLen:=by simp only[maxLen];omega
 rcases B with _ | ad
 ·have hy:ys=[]:=by
   rcases hr with h | ⟨b,off,h,_⟩
   ·exact h
   ·cases h
  subst hy;refine⟨A,cA,w,?_,by simpa using hown,⟨rfl,rfl,rfl,Nat.le_refl _,fun _ _ _=>rfl⟩,.inl rfl⟩;have hle:=hown.le.1;simp[Builtin.append_,run_underlying Try.underlying22,sizeOf,typeInfo,hi,Builtin.lenOf,Builtin.firstCells,hle]
  cases A<;>simp[storeCells]
 ·have hnews:∀ j u,(ys.map (Value.int .i64))[j]?=some u->w.cell? (ad.add j)=some u:=by
   intro j u hu;rw[List.getElem?_map] at hu;obtain⟨x,hx,rfl⟩:=Option.map_eq_some_iff.1 hu;rcases hr with rfl | ⟨b,off,h,_,hc⟩
   ·simp at hx
   ·injection h with h
    subst h;rw[add_plain];exact hc j x hx
  obtain⟨v',w',hrun,h2,h3,_,h5⟩:=run_append_own_at (P:=Try.prog) w base 22 ty 3 i0 _ 1 8 Try.underlying22 hi hz0 hz1 hz2 rfl (by decide) _ xs.length _ hown ad ys.length c (ys.map (Value.int .i64)) (by simp) hnews (by simp[Value.oneCell']) hmax (by omega) hbase;rw[YV] at h3 h5;have hv:∃ A' c',v'=.slice A' (xs++ys).length c':=by
   rcases h2.2 with⟨rfl,h0⟩ | ⟨g,cap,cur,rfl,_⟩
   ·exact⟨none,0,by rw[List.length_append,h0]⟩
   ·exact⟨some ⟨g,0,none⟩,cap,by simp⟩
  obtain⟨A',c',rfl⟩:=hv;rw[YV] at h5;refine⟨A',c',w',hrun,by simpa [OwI] using h2,h3,?_⟩;rcases h5 with h5 | h5
  ·exact .inl h5
  ·exact .inr ⟨_,h5,Nat.le_refl _⟩
theorem Yn {ops:Array Oper}{rest:List Oper}{o:Oper}{a:Act}{Q:Exit->Act->World->Prop}(hgd:o.guard=none)(s x:Operand)
  (ho:o.op=.call { callee:=.builtin .append,args:=#[s,x],argTypes:=#[22,22] })
  (base:Nat) (A:Option Addr) (n cA:Nat) (xs ys:List Int) (B:Option Addr) (c:Nat) (hs:a.eval s=.slice A n cA) (hx:a.eval x=.slice B ys.length c) (hn:n=xs.length) (hown:OwI w base A cA xs) (hr:RdI w B ys) (hlen:xs.length+ys.length<=2^44) (hbase:base<=w.heap.size)
  (h:∀ A' c' w',OwI w' base A' c' (xs++ys)->w.grownBy w' (bl A)->(bl A'=bl A\/∃ g,bl A'=some g/\w.heap.size<=g)->wpList Try.prog ops Q rest (a.put o.dst (.slice A' (xs++ys).length c')) w'):wpList Try.prog ops Q (o::rest) a w :=
 wpList_plain hgd fun _ hK=>by
  obtain⟨A',c',w',hrun,h2,h3,h4⟩:=XO w base o.type A n cA xs ys B c hn hown hr hlen hbase;unfold Oper.wp execOp;simp only[ho,resolve,invoke,builtin,Sem.run_bind,Sem.run_pure,Result.andThen_ok,List.map_toArray,List.map_cons,List.map_nil,hs,hx,hrun];exact hK _ _ (h A' c' w' h2 h3 h4)
theorem Y5 {ops:Array Oper}{rest:List Oper}{o:Oper}{a:Act}{Q:Exit->Act->World->Prop}(hgd:o.guard=none)(l c:Operand)(hop:o.op=Op.makeSlice 22 l c)
  (base:Nat) (L C:Int) (n:Nat) (hl:a.eval l=.int .i64 L) (hc:a.eval c=.int .i64 C) (hL:L=(n:Int)) (hC:C=(n:Int)) (hn:n<=2^44) (hbase:base<=w.heap.size)
  (hK:∀ w',OwI w' base (some ⟨w.heap.size,0,none⟩) n (List.replicate n 0)->w.grownBy w' none->wpList Try.prog ops Q rest (a.put o.dst (.slice (some ⟨w.heap.size,0,none⟩) n n)) w') :
  wpList Try.prog ops Q (o::rest) a w:=by
 obtain⟨i0,hi,hz0,hz1,hz2⟩:=info_parts Y4;refine wpList_make_full w hgd l c _ hop base 3 i0 _ 1 Try.underlying22 hi hz0 hz1 .i64 .i64 L C n hl hc hL hC (by rw[hz2];omega) (by simp only[maxLen];omega) hbase (fun w' h2 h3=>hK w' ?_ h3);have e:(madeCells (Value.int .i64 0).cells (n*1)).toList=(List.replicate n (0:Int)).map (Value.int .i64):=by
  simp[madeCells,Value.cells,List.map_const',Nat.mod_one]
 rw[e] at h2
 simpa [OwI] using h2
end
theorem Vm (u:World)(A:Option Addr)(n c:Nat) : (binOp .eql 22 (.slice A n c) (.slice none 0 0)).run Try.prog u=.ok (.bool A.isNone) u:=Lib.run_eql_slice_nil u _ 3 _ _ _ _ _ Try.underlying22
theorem Blk.grown {w w':World}{g:Nat}{t:TypeId}{cs:Array Value}{row:Option Nat}(h:Blk w g t cs)(hb:w.grownBy w' row)(hg:row≠some g) : Blk w' g t cs:=(hb.block g h.lt (fun e=>hg e.symm)).trans h
section
variable (w:World)
end
theorem YN (A:Option Addr)(c:Nat)(xs:List Int)(w:World)(hx:RdI w A xs)(hl:xs.length<=2^44) :
  Calls Try.prog 37 #[.slice A xs.length c] w fun e w'=>∃ A' c',e=.returned (.slice A' xs.length c')/\OwI w' w.heap.size A' c' xs/\Ext w w':=by
 rcases A with _ | ⟨b,off,sp⟩
 ·have h0:xs=[]:=by
   rcases hx with h | ⟨_,_,h,_⟩
   ·exact h
   ·cases h
  subst h0;clear hl hx;have hnil:=fun u:World=>Vm u none 0 c
  simp only[List.length_nil];go_enter Try.func37,Try.ntmps37;go_wp2;go_ret;exact⟨_,_,rfl,OwI.nil _ _,Ext.rf _⟩
 ·have hnil:=fun u:World=>Vm u (some ⟨b,off,sp⟩) xs.length c
  go_enter Try.func37,Try.ntmps37;go_wp2_with (at_builtin;refine Yn _ rfl _ _ rfl w.heap.size (some ⟨w.heap.size,0,none⟩) 0 0 [] xs (some ⟨b,off,sp⟩) c rfl rfl rfl (by exact OwI.new (xs:=[]) rfl (Nat.le_refl _) ZT) (by exact hx.ext ((Ext.rf _).alloc _)) (by simpa using hl) (by simp) ?_;rintro A1 c1 w1 hown hg _);go_ret;exact⟨_,_,rfl,hown,((Ext.rf w).alloc _).grow hg (by intro k hk;simp[bl] at hk;omega)⟩
end
section
def RdV (w:World)(e:TypeId)(A:Option Addr)(vs:List Value) : Prop :=
 vs=[]\/∃ b off cur,A=some ⟨b,off,none⟩/\w.heap[b]?=some (.cells cur e (0,0))/\∀ j v,vs[j]?=some v->cur[off+j]?=some v
def RdC (w:World)(A:Option Addr)(vs:List Value) : Prop :=
 vs=[]\/∃ b off,A=some ⟨b,off,none⟩/\b<w.heap.size/\∀ j v,vs[j]?=some v->w.cell? ⟨b,off+j,none⟩=some v
section
variable {w w':World} {e:TypeId} {A:Option Addr} {vs:List Value}
theorem RdV.nil (w:World)(e:TypeId)(A:Option Addr) : RdV w e A []:=.inl rfl
theorem RdV.rdC (h:RdV w e A vs) : RdC w A vs:=by
 rcases h with rfl | ⟨b,off,cur,rfl,hb,hc⟩
 ·exact .inl rfl
 ·exact .inr ⟨b,off,rfl,(Array.getElem?_eq_some_iff.1 hb).1,fun j v hj=>by rw[cell_of_row w b _ cur e (0,0) hb];exact hc j v hj⟩
theorem RdC.ext (h:RdC w A vs)(hb:Ext w w') : RdC w' A vs:=by
 rcases h with rfl | ⟨b,off,rfl,hlt,hc⟩
 ·exact .inl rfl
 ·exact .inr ⟨b,off,rfl,Nat.lt_of_lt_of_le hlt hb.size,fun j v hj=>by rw[hb.cell hlt];exact hc j v hj⟩
theorem RdV.keep (h:RdV w e A vs)(hb:∀ b,bl A=some b->w'.heap[b]?=w.heap[b]?) : RdV w' e A vs:=by
 rcases h with rfl | ⟨b,off,cur,rfl,hh,hc⟩
 ·exact .inl rfl
 ·exact .inr ⟨b,off,cur,rfl,(hb b rfl).trans hh,hc⟩
theorem RdV.lt (h:RdV w e A vs)(hne:vs≠[]) : ∀ b,bl A=some b->b<w.heap.size:=by
 intro b hb;rcases h with rfl | ⟨b',off,cur,rfl,hh,hc⟩
 ·exact absurd rfl hne
 ·simp[bl] at hb
  subst hb;exact(Array.getElem?_eq_some_iff.1 hh).1
theorem RdV.ext (h:RdV w e A vs)(hx:Ext w w') : RdV w' e A vs:=by
 rcases h with rfl | ⟨b,off,cur,rfl,hh,hc⟩
 ·exact .inl rfl
 ·exact .inr ⟨b,off,cur,rfl,(hx.block b (Array.getElem?_eq_some_iff.1 hh).1).trans hh,hc⟩
theorem RdV.mod {S:Nat->Prop}(h:RdV w e A vs)(hm:Mod S w w')(hS:∀ k cur,w.heap[k]?=some (.cells cur e (0,0))->¬S k) : RdV w' e A vs:=by
 rcases h with rfl | ⟨b,off,cur,rfl,hh,hc⟩
 ·exact .inl rfl
 ·exact .inr ⟨b,off,cur,rfl,(hm.block b (Array.getElem?_eq_some_iff.1 hh).1 (hS b cur hh)).trans hh,hc⟩
theorem RdV.blk {b:Nat}{cs:Array Value}(h:Blk w b e cs) : RdV w e (some ⟨b,0,none⟩) cs.toList :=
 .inr ⟨b,0,cs,rfl,h,fun j v hj=>by simpa using hj⟩
theorem RdV.at (h:RdV w e A vs){j:Nat}(hj:j<vs.length) : ∃ b off v,A=some ⟨b,off,none⟩/\b<w.heap.size/\w.cell? ⟨b,off+j,none⟩=some v/\Hid (vs[j]?=some v):=by
 rcases h.rdC with rfl | ⟨b,off,rfl,hlt,hc⟩
 ·simp at hj
 ·exact⟨b,off,vs[j],rfl,hlt,hc j _ (List.getElem?_eq_getElem hj),List.getElem?_eq_getElem hj⟩
theorem RdV.form (h:RdV w e A vs)(hne:vs≠[]) : ∃ b off,A=some ⟨b,off,none⟩/\b<w.heap.size/\∀ j v,vs[j]?=some v->w.cell? ⟨b,off+j,none⟩=some v:=by
 rcases h.rdC with rfl | ⟨b,off,rfl,hlt,hc⟩
 ·exact absurd rfl hne
 ·exact⟨b,off,rfl,hlt,hc⟩
theorem RdV.drop (h:RdV w e A vs)(k:Nat) : RdV w e (A.map (·.add k)) (vs.drop k):=by
 rcases h with rfl | ⟨b,off,cur,rfl,hh,hc⟩
 ·exact .inl (by simp)
 ·refine .inr ⟨b,off+k,cur,by simp[add_plain],hh,fun j v hj=>?_⟩
  rw[List.getElem?_drop] at hj;rw[Nat.add_assoc];exact hc _ v hj
theorem RdV.take (h:RdV w e A vs)(k:Nat) : RdV w e A (vs.take k):=by
 rcases h with rfl | ⟨b,off,cur,rfl,hh,hc⟩
 ·exact .inl (by simp)
 ·refine .inr ⟨b,off,cur,rfl,hh,fun j v hj=>?_⟩
  rw[List.getElem?_take] at hj;split at hj
  ·exact hc j v hj
  ·cases hj
end
def OwV (w:World)(base:Nat)(e:TypeId)(size:Nat)(A:Option Addr)(n c:Nat)(vs:List Value) : Prop:=w.ownsRow base e size (.slice A n c) n vs
section
variable {w w':World} {base:Nat} {e:TypeId} {size:Nat} {A:Option Addr} {n c:Nat} {vs:List Value}
theorem OwV.nil (w:World)(base:Nat)(e:TypeId)(size:Nat) : OwV w base e size none 0 0 []:=World.ownsRow_nil _ _ _ _
theorem OwV.cases (h:OwV w base e size A n c vs) : (A=none/\c=0/\n=0/\vs=[])\/∃ g cur,A=some ⟨g,0,none⟩/\base<=g/\w.heap[g]?=some (.cells cur e (0,0))/\n<=c/\c<=maxLen/\cur.size=c*size/\cur.toList.take (n*size)=vs:=by
 rcases h.2 with⟨hv,h0⟩ | ⟨g,cap,cur,hv,hb,hg,hn,hm,hs,ht⟩
 ·injection hv with h1 _ h3
  have:=h.1;rw[h0,Nat.zero_mul] at this;exact .inl ⟨h1,h3,h0,List.eq_nil_of_length_eq_zero this⟩
 ·injection hv with h1 _ h3
  subst h1 h3;exact .inr ⟨g,cur,rfl,hb,hg,hn,hm,hs,ht⟩
theorem OwV.mk {g:Nat}{cur:Array Value}(hb:base<=g)(hg:w.heap[g]?=some (.cells cur e (0,0)))(hn:n<=c)(hm:c<=maxLen)(hs:cur.size=c*size)(ht:cur.toList.take (n*size)=vs) : OwV w base e size (some ⟨g,0,none⟩) n c vs :=
 ⟨by rw[<-ht,List.length_take,Array.length_toList,hs];exact Nat.min_eq_left (Nat.mul_le_mul_right _ hn),.inr ⟨g,c,cur,rfl,hb,hg,hn,hm,hs,ht⟩⟩
theorem OwV.le (h:OwV w base e size A n c vs) : n<=c/\c<=maxLen:=by
 rcases h.cases with⟨rfl,rfl,rfl,rfl⟩ | ⟨g,cur,rfl,hb,hg,hn,hm,_⟩
 ·exact⟨Nat.le_refl _,ZT⟩
 ·exact⟨hn,hm⟩
theorem OwV.len (h:OwV w base e size A n c vs) : vs.length=n*size:=h.1
theorem OwV.read (h:OwV w base e size A n c vs) : RdV w e A vs:=by
 rcases h.cases with⟨rfl,rfl,rfl,rfl⟩ | ⟨g,cur,rfl,hb,hg,hn,hm,hs,ht⟩
 ·exact .inl rfl
 ·refine .inr ⟨g,0,cur,rfl,hg,fun j v hj=>?_⟩
  rw[<-ht,List.getElem?_take] at hj;split at hj
  ·simpa using hj
  ·cases hj
theorem OwV.keep (h:OwV w base e size A n c vs)(hb:∀ g,bl A=some g->w'.heap[g]?=w.heap[g]?) : OwV w' base e size A n c vs:=by
 rcases h.cases with⟨rfl,rfl,rfl,rfl⟩ | ⟨g,cur,rfl,hb',hg,hn,hm,hs,ht⟩
 ·exact OwV.nil _ _ _ _
 ·exact .mk hb' ((hb g rfl).trans hg) hn hm hs ht
theorem OwV.lt (h:OwV w base e size A n c vs) : ∀ k,bl A=some k->base<=k/\k<w.heap.size:=by
 intro k hk;rcases h.cases with⟨rfl,rfl,rfl,rfl⟩ | ⟨g,cur,rfl,hb',hg,_⟩
 ·simp[bl] at hk
 ·simp[bl] at hk
  subst hk;exact⟨hb',(Array.getElem?_eq_some_iff.1 hg).1⟩
theorem OwV.ext (h:OwV w base e size A n c vs)(hb:Ext w w') : OwV w' base e size A n c vs:=h.keep fun g hg=>hb.block g (h.lt g hg).2
theorem OwV.more {base':Nat}(h:OwV w base e size A n c vs)(hb:base'<=base) : OwV w base' e size A n c vs:=by
 rcases h.cases with⟨rfl,rfl,rfl,rfl⟩ | ⟨g,cur,rfl,hb',hg,hn,hm,hs,ht⟩
 ·exact OwV.nil _ _ _ _
 ·exact .mk (Nat.le_trans hb hb') hg hn hm hs ht
theorem OwV.mod {S:Nat->Prop}(h:OwV w base e size A n c vs)(hm:Mod S w w')(hg:∀ g,bl A=some g->¬S g) : OwV w' base e size A n c vs :=
 h.keep fun g hA=>hm.block g (h.lt g hA).2 (hg g hA)
theorem OwV.ne {g:Nat}{t:TypeId}{cs:Array Value}(h:OwV w base e size A n c vs)(hg:Blk w g t cs)(ht:t≠e) : ∀ k,bl A=some k->¬k=g:=by
 rintro k hk rfl;rcases h.cases with⟨rfl,rfl,rfl,rfl⟩ | ⟨g',cur,rfl,hb',hh,_⟩
 ·simp[bl] at hk
 ·simp[bl] at hk
  subst hk;exact Blk.ne (show Blk w g' _ _ from hh) hg (Ne.symm ht) rfl
theorem OwV.set {g:Nat}(h:OwV w base e size (some ⟨g,0,none⟩) n c vs){j:Nat}(hj:j<vs.length)(u:Value) :
  w.cell? ⟨g,j,none⟩=vs[j]?/\w.frozen? ⟨g,j,none⟩=false/\base<=g/\OwV (w.setCell ⟨g,j,none⟩ u) base e size (some ⟨g,0,none⟩) n c (vs.set j u):=by
 rcases h.cases with⟨h0,_⟩ | ⟨g',cur,hA,hb,hg,hn,hm,hs,ht⟩
 ·cases h0
 ·injection hA with hA
  injection hA with hA
  subst hA;refine⟨?_,by simp[World.frozen?,hg],hb,.mk (cur:=cur.setIfInBounds j u) hb ?_ hn hm (by simpa using hs) ?_⟩
  ·rw[cell_of_row w g _ cur _ (0,0) hg,<-ht,List.getElem?_take,if_pos]
   ·simp
   ·rw[<-ht,List.length_take] at hj
    omega
  ·simp[World.setCell,Array.getElem?_modify,hg]
  ·simp only[Array.toList_setIfInBounds,<-ht]
   rw[List.take_set]
theorem OwV.full {g:Nat}{cs:Array Value}(h:Blk w g e cs)(hb:base<=g)(hs:cs.size=n*size)(hm:n<=maxLen) : OwV w base e size (some ⟨g,0,none⟩) n n cs.toList :=
 .mk hb h (Nat.le_refl _) hm hs (List.take_of_length_le (by rw[Array.length_toList,hs];exact Nat.le_refl _))
end
section
variable (w:World) {t e:TypeId} {i:TypeInfo} {z:Value} {size bytes:Nat} (ht:Try.prog.underlying t=some (.slice e)) (hi:Try.prog.info? e=some i) (hz:i.zero=some z) (hsize:i.size=size) (hby:i.bytes=bytes) (hzs:z.cells.size=size) (hsz:0<size)
include ht hi hz hsize hby hzs hsz
theorem Wo (base:Nat)(ty:TypeId)(g n:Nat)(cs:Array Value)(B:Option Addr)(m c:Nat)(ys:List Value)(hg:Blk w g e cs)(hb:base<=g)(hn:cs.size=n*size)(hr:RdC w B ys)(hm:ys.length=m*size)(h1:∀ u∈ys,u.oneCell'=true)
  (h63:n+m<=maxLen) (hbytes:(n+m)*bytes<=140737488355328) :
  ∃ A' c' w',(Builtin.append_ #[t,t] ty #[.slice (some ⟨g,0,none⟩) n n,.slice B m c]).run Try.prog w=.ok (.slice A' (n+m) c') w'/\OwV w' base e size A' (n+m) c' (cs.toList++ys)/\Ext w w':=by
 by_cases hy:ys=[]
 ·subst hy
  have hm0:m=0:=by
   simp only[List.length_nil] at hm;rcases Nat.eq_zero_or_pos m with h | h
   ·exact h
   ·have:=Nat.mul_pos h hsz;omega
  subst hm0;refine⟨some ⟨g,0,none⟩,n,w,?_,by simpa using OwV.full hg hb hn (by simpa using h63),Ext.rf _⟩;rcases B with _ | ad
  ·simp[Builtin.append_,run_underlying ht,sizeOf,typeInfo,hi,Builtin.lenOf,Builtin.firstCells,storeCells]
  ·simp[Builtin.append_,run_underlying ht,sizeOf,typeInfo,hi,Builtin.lenOf,Builtin.firstCells,storeCells,loadCells,loadCellsFrom]
 ·have hm0:0<m:=by
   rcases Nat.eq_zero_or_pos m with h | h
   ·rw[h,Nat.zero_mul] at hm
    exact absurd (List.eq_nil_of_length_eq_zero hm) hy
   ·exact h
  obtain⟨b,off,rfl,hc⟩:∃ b off,B=some ⟨b,off,none⟩/\∀ j x,ys[j]?=some x->w.cell? ⟨b,off+j,none⟩=some x:=by
   rcases hr with h | ⟨b,off,h,_,hc⟩
   ·exact absurd h hy
   ·exact⟨b,off,h,hc⟩
  have hnews:∀ j u,ys[j]?=some u->w.cell? ((⟨b,off,none⟩:Addr).add j)=some u:=by
   intro j u hu;rw[add_plain];exact hc j u hu
  have holds:∀ j u,cs.toList[j]?=some u->w.cell? ((⟨g,0,none⟩:Addr).add j)=some u:=by
   intro j u hu;rw[add_plain,hg.cell]
   simpa using hu
  subst hsize hby;have hrun:=run_append_grow (P:=Try.prog) w t ty e i z ht hi hz ⟨g,0,none⟩ n n cs.toList (by rw[Array.length_toList];exact hn) holds ⟨b,off,none⟩ m c ys hm hnews (by omega) (by have h:=h63;simp only[maxLen] at h;omega) (growslice_fits (by omega) hbytes);have hge:=grownCap_ge w (n+m) n e;have hle:=grownCap_le_maxLen w (n+m) n e h63;have hlen:(cs.toList++ys).length=(n+m)*i.size:=by rw[List.length_append,Array.length_toList,hn,hm,Nat.add_mul]
  refine⟨_,_,_,hrun,.mk (cur:=_) (Nat.le_trans hb (Nat.le_of_lt hg.lt)) (heap_alloc_new w.drew _) hge hle ?_ ?_,((Ext.rf w).drew).alloc _⟩
  ·simp only[Array.size_append,List.size_toArray,size_zeroCells,hzs,Array.length_toList,hn,hm,<-Nat.add_mul]
   congr 1
   omega
  ·simp only[Array.toList_append,List.append_assoc]
   rw[<-List.append_assoc,<-hlen];exact List.take_left
end
end
section
def ofT (w:World)(base:Nat)(ts:List TypeId)(k:Nat) : Prop:=base<=k/\∃ cs t,w.heap[k]?=some (.cells cs t (0,0))/\t∈ts
def ModT (base:Nat)(ts:List TypeId)(w w':World) : Prop:=Mod (ofT w base ts) w w'
section
variable {base:Nat} {ts:List TypeId} {w w' w2:World}
theorem ModT.rf (w:World) : ModT base ts w w:=Mod.rf w
theorem ModT.of_ext (h:Ext w w') : ModT base ts w w':=Mod.of_ext h
theorem ModT.tr (h:ModT base ts w w')(k:ModT base ts w' w2) : ModT base ts w w2:=by
 refine Mod.tr' h k fun i hi hs=>?_
 by_cases ho:ofT w base ts i
 ·exact ho
 ·obtain⟨hb,cs,t,hc,ht⟩:=hs
  exact⟨hb,cs,t,(h.block i hi ho).symm.trans hc,ht⟩
theorem ModT.ext (h:ModT base ts w w')(k:Ext w' w2) : ModT base ts w w2:=h.tr (.of_ext k)
theorem ModT.set (w:World){g:Nat}{t:TypeId}{cs:Array Value}(hg:Blk w g t cs)(ht:t∈ts)(hb:base<=g)(i:Nat)(u:Value) : ModT base ts w (w.setCell ⟨g,i,none⟩ u) :=
 Mod.set (p:=⟨g,i,none⟩) (Mod.rf w) (.inl ⟨hb,cs,t,hg,ht⟩) u
theorem ModT.size (h:ModT base ts w w') : w.heap.size<=w'.heap.size:=Mod.size h
theorem ModT.more {ts':List TypeId}{base':Nat}(h:ModT base ts w w')(hb:base'<=base)(ht:∀ t∈ts,t∈ts') : ModT base' ts' w w' :=
 Mod.mono h fun _ _ ⟨h1,cs,t,h2,h3⟩=>⟨Nat.le_trans hb h1,cs,t,h2,ht t h3⟩
theorem Ext.modT {w0:World}(h:Ext w0 w)(k:ModT base ts w w')(hb:w0.heap.size<=base) : Ext w0 w':=h.mod k fun _ hk hs=>by have:=hs.1;omega
theorem Blk.modT {g:Nat}{t:TypeId}{cs:Array Value}(h:Blk w g t cs)(k:ModT base ts w w')(ht:t∉ts) : Blk w' g t cs :=
 h.mod k fun hs=>by
  obtain⟨_,cs',t',h1,h2⟩:=hs;rw[h] at h1
  injection h1 with h1
  injection h1 with _ h1
  subst h1;exact ht h2
theorem RdV.modT {e:TypeId}{A:Option Addr}{vs:List Value}(h:RdV w e A vs)(k:ModT base ts w w')(ht:e∉ts) : RdV w' e A vs :=
 h.mod k fun b cur hb hs=>by
  obtain⟨_,cs',t',h1,h2⟩:=hs;rw[hb] at h1
  injection h1 with h1
  injection h1 with _ h1
  subst h1;exact ht h2
theorem OwI.modT {base':Nat}{A:Option Addr}{c:Nat}{xs:List Int}(h:OwI w base' A c xs)(k:ModT base ts w w')(ht:3∉ts) : OwI w' base' A c xs :=
 h.keep fun g hg=>by
  rcases h.cases with⟨rfl,rfl,rfl⟩ | ⟨g',cur,rfl,hb',hh,_⟩
  ·simp[bl] at hg
  ·simp[bl] at hg
   subst hg;exact k.block g' (Array.getElem?_eq_some_iff.1 hh).1 fun hs=>by
    obtain⟨_,cs',t',h1,h2⟩:=hs;rw[hh] at h1
    injection h1 with h1
    injection h1 with _ h1
    subst h1;exact ht h2
theorem OwV.modT {base':Nat}{e:TypeId}{size n c:Nat}{A:Option Addr}{vs:List Value}(h:OwV w base' e size A n c vs)(k:ModT base ts w w')(ht:e∉ts) : OwV w' base' e size A n c vs :=
 h.keep fun g hg=>by
  rcases h.cases with⟨rfl,rfl,rfl,rfl⟩ | ⟨g',cur,rfl,hb',hh,_⟩
  ·simp[bl] at hg
  ·simp[bl] at hg
   subst hg;exact k.block g' (Array.getElem?_eq_some_iff.1 hh).1 fun hs=>by
    obtain⟨_,cs',t',h1,h2⟩:=hs;rw[hh] at h1
    injection h1 with h1
    injection h1 with _ h1
    subst h1;exact ht h2
theorem RdI.modT {A:Option Addr}{xs:List Int}(h:RdI w A xs)(k:ModT base ts w w')(hb:∀ b,bl A=some b->b<base) : RdI w' A xs:=by
 rcases h with rfl | ⟨b,off,rfl,hlt,hc⟩
 ·exact .inl rfl
 ·refine .inr ⟨b,off,rfl,Nat.lt_of_lt_of_le hlt k.size,fun j x hj=>?_⟩
  have h1:=hb b rfl;rw[<-hc j x hj];exact World.cell?_of_block (k.block b hlt fun hs=>by have:=hs.1;omega)
end
end
section
def ZJ (l:List Int) : List Value:=l.map (Value.int .i64)
structure MemB (w:World)(gm gc:Nat)(M:List Int) : Prop where
 m:∃ (st k c o n:Int) (d:Bool),Blk w gm 62 #[.slice (some ⟨gc,0,none⟩) M.length M.length,.int .i64 st,.int .i64 k,.int .i64 c,.int .i64 o,.int .i64 n,.bool d]
 c:Blk w gc 3 (List.toArray (ZJ M))
def CS (gm gc:Nat)(b:Nat) : Prop:=b=gm\/b=gc
section
variable {w w':World} {gm gc:Nat} {M:List Int}
theorem MemB.ext (h:MemB w gm gc M)(x:Ext w w') : MemB w' gm gc M:=by
 obtain⟨⟨st,k,c,o,n,d,h1⟩,h2⟩:=h;exact⟨⟨st,k,c,o,n,d,h1.ext x⟩,h2.ext x⟩
theorem MemB.mod {S:Nat->Prop}(h:MemB w gm gc M)(hm:Mod S w w')(h1:¬S gm)(h2:¬S gc) : MemB w' gm gc M:=by
 obtain⟨⟨st,k,c,o,n,d,q1⟩,q2⟩:=h;exact⟨⟨st,k,c,o,n,d,q1.mod hm h1⟩,q2.mod hm h2⟩
theorem MemB.ne (h:MemB w gm gc M) : gm≠gc:=by
 obtain⟨⟨st,k,c,o,n,d,q1⟩,q2⟩:=h;exact q1.ne q2 (by decide)
theorem MemB.lt (h:MemB w gm gc M) : gm<w.heap.size/\gc<w.heap.size:=by
 obtain⟨⟨st,k,c,o,n,d,q1⟩,q2⟩:=h;exact⟨q1.lt,q2.lt⟩
end
theorem Yo (gm gc:Nat)(M:List Int)(i:Nat)(w:World)(H:MemB w gm gc M)(hi:i<M.length) :
  Calls Try.prog 46 #[.pointer (some ⟨gm,0,none⟩),.int .i64 (i:Int)] w fun e w'=>e=.returned (.int .i64 0)/\w=w':=by
 obtain⟨⟨st,k,c,o,n,d,h1⟩,-⟩:=H;have c0:=h1.cell 0;have e1:¬((i:Int)<0):=by omega
 have e2:¬((i:Int)>=(M.length:Int)):=by omega
 clear h1;go_enter Try.func46,Try.ntmps46;go_wp2_with (fail);go_ret;exact⟨rfl,rfl⟩
theorem ZV {M:List Int}{i:Nat}{x:Int}(h:M[i]?=some x) : (List.toArray (ZJ M))[i]?=some (.int .i64 x):=by simp[ZJ,h]
theorem XP (M:List Int)(i:Nat)(x:Int) : (List.toArray (ZJ M)).setIfInBounds i (.int .i64 x)=List.toArray (ZJ (M.set i x)):=by simp[ZJ,List.map_set]
theorem YO (gm gc:Nat)(M:List Int)(i:Nat)(x kind n:Int)(done:Bool)(w:World)(H:MemB w gm gc M)(hx:M[i]?=some x) :
  Calls Try.prog 47 #[.pointer (some ⟨gm,0,none⟩),.int .i64 kind,.int .i64 (i:Int),.int .i64 n,.bool done] w fun e w'=>e=.returned (.int .i64 x)/\MemB w' gm gc (M.set i n)/\Mod (CS gm gc) w w':=by
 have hne:=H.ne;have hne2:gc≠gm:=fun h=>hne h.symm
 obtain⟨⟨st,k,c,o,n0,d,h1⟩,h2⟩:=H;have hi:i<M.length:=(List.getElem?_eq_some_iff.1 hx).1;have c0:=h1.cell 0;have c1:=h1.cell 1;have c2:=h1.cell 2;have c3:=h1.cell 3;have c4:=h1.cell 4;have c5:=h1.cell 5;have c6:=h1.cell 6;have f1:=h1.free 1;have f2:=h1.free 2;have f3:=h1.free 3;have f4:=h1.free 4;have f5:=h1.free 5;have f6:=h1.free 6;have d0:w.cell? ⟨gc,i,none⟩=some (.int .i64 x):=(h2.cell i).trans (ZV hx);have g0:=h2.free i;have hi0:(0:Int)<=(i:Int):=by omega
 have hi1:(i:Int)<(M.length:Int):=by omega
 have FIN:Hid (∀ u:Int,MemB ((((((((w.setCell ⟨gm,2,none⟩ (.int .i64 kind)).setCell ⟨gm,3,none⟩ (.int .i64 (i:Int))).setCell ⟨gm,4,none⟩ (.int .i64 x)).setCell ⟨gm,5,none⟩ (.int .i64 n)).setCell ⟨gm,6,none⟩ (.bool done)).setCell ⟨gc,i,none⟩ (.int .i64 n)).setCell ⟨gm,1,none⟩ (.int .i64 u))) gm gc (M.set i n)/\Mod (CS gm gc) w ((((((((w.setCell ⟨gm,2,none⟩ (.int .i64 kind)).setCell ⟨gm,3,none⟩ (.int .i64 (i:Int))).setCell ⟨gm,4,none⟩ (.int .i64 x)).setCell ⟨gm,5,none⟩ (.int .i64 n)).setCell ⟨gm,6,none⟩ (.bool done)).setCell ⟨gc,i,none⟩ (.int .i64 n)).setCell ⟨gm,1,none⟩ (.int .i64 u)))):=Hd fun u=>by
  have m1:=(((((((h1.set 2 (.int .i64 kind)).set 3 (.int .i64 (i:Int))).set 4 (.int .i64 x)).set 5 (.int .i64 n)).set 6 (.bool done)).far (p:=⟨gc,i,none⟩) hne (.int .i64 n)).set 1 (.int .i64 u));have m2:=((((((h2.far (p:=⟨gm,2,none⟩) hne2 (.int .i64 kind)).far (p:=⟨gm,3,none⟩) hne2 (.int .i64 (i:Int))).far (p:=⟨gm,4,none⟩) hne2 (.int .i64 x)).far (p:=⟨gm,5,none⟩) hne2 (.int .i64 n)).far (p:=⟨gm,6,none⟩) hne2 (.bool done)).set i (.int .i64 n)).far (p:=⟨gm,1,none⟩) hne2 (.int .i64 u);rw[XP] at m2;refine⟨⟨⟨u,kind,i,x,n,done,?_⟩,m2⟩,?_⟩
  ·rw[List.length_set]
   exact m1
  ·exact(((((((Mod.rf w).set (p:=⟨gm,2,none⟩) (.inl (.inl rfl)) _).set (p:=⟨gm,3,none⟩) (.inl (.inl rfl)) _).set (p:=⟨gm,4,none⟩) (.inl (.inl rfl)) _).set (p:=⟨gm,5,none⟩) (.inl (.inl rfl)) _).set (p:=⟨gm,6,none⟩) (.inl (.inl rfl)) _).set (p:=⟨gc,i,none⟩) (.inl (.inr rfl)) _).set (p:=⟨gm,1,none⟩) (.inl (.inl rfl)) _
 clear h1 h2 hx;go_enter Try.func47,Try.ntmps47;go_wp2_with (fail);go_ret;exact⟨rfl,FIN.out _⟩
def Zw (gm gc:Nat)(M:List Int)(v:Value)(w:World)(e:Ending)(w':World) : Prop:=e=.returned v/\MemB w' gm gc M/\Mod (CS gm gc) w w'
theorem YC (gm gc:Nat)(M:List Int)(i:Nat)(x:Int)(w:World)(H:MemB w gm gc M)(hx:M[i]?=some x) :
  Calls Try.prog 70 #[.pointer (some ⟨gm,0,none⟩),.int .i64 (i:Int)] w (Zw gm gc M (.tuple #[.int .i64 x,.int .i64 0]) w):=by
 have hi:i<M.length:=(List.getElem?_eq_some_iff.1 hx).1;have FI:=Hd (Yo gm gc M i w H hi);have ST:=Hd (YO gm gc M i x 1 x true w H hx);have hs:M.set i x=M:=by
  apply List.ext_getElem?;intro j;rw[List.getElem?_set];split
  ·rename_i h;subst h;simp[hi,(List.getElem?_eq_some_iff.1 hx).2]
  ·rfl
 rw[hs] at ST;obtain⟨⟨st,k,c,o,n0,d,h1⟩,h2⟩:=H;have c0:=h1.cell 0;have d0:w.cell? ⟨gc,i,none⟩=some (.int .i64 x):=(h2.cell i).trans (ZV hx);have hi0:(0:Int)<=(i:Int):=by omega
 have hi1:(i:Int)<(M.length:Int):=by omega
 unfold Zw;clear h1 h2 hx hs;go_enter Try.func70,Try.ntmps70;go_wp2_with (fail);refine FI.out.mono ?_;rintro e w1 ⟨rfl,rfl⟩;go_wp2_with (fail);refine ST.out.mono ?_;rintro e w2 ⟨rfl,q1,q2⟩;have Q1:=Hd q1;have Q2:=Hd q2;clear q1 q2;go_wp2_with (fail);go_ret2;exact⟨rfl,Q1.out,Q2.out⟩
theorem YD (gm gc:Nat)(M:List Int)(i:Nat)(n:Int)(w:World)(H:MemB w gm gc M)(hi:i<M.length) :
  Calls Try.prog 27 #[.pointer (some ⟨gm,0,none⟩),.int .i64 (i:Int),.int .i64 n] w (Zw gm gc (M.set i n) (.int .i64 0) w):=by
 have FI:=Hd (Yo gm gc M i w H hi);have ST:=Hd (YO gm gc M i M[i] 2 n true w H (List.getElem?_eq_getElem hi));unfold Zw;clear H;generalize M[i]=x at *;go_enter Try.func27,Try.ntmps27;go_wp2_with (fail);refine FI.out.mono ?_;rintro e w1 ⟨rfl,rfl⟩;go_wp2_with (fail);refine ST.out.mono ?_;rintro e w2 ⟨rfl,q1,q2⟩;have Q1:=Hd q1;have Q2:=Hd q2;clear q1 q2;go_wp2_with (fail);go_ret;exact⟨rfl,Q1.out,Q2.out⟩
theorem Wf (gm gc:Nat)(M:List Int)(i:Nat)(x old n:Int)(w:World)(H:MemB w gm gc M)(hx:M[i]?=some x) :
  Calls Try.prog 71 #[.pointer (some ⟨gm,0,none⟩),.int .i64 (i:Int),.int .i64 old,.int .i64 n] w (Zw gm gc (if x=old then M.set i n else M) (.tuple #[.bool (decide (x=old)),.int .i64 0]) w):=by
 have hi:i<M.length:=(List.getElem?_eq_some_iff.1 hx).1;have FI:=Hd (Yo gm gc M i w H hi);have hs:M.set i x=M:=by
  apply List.ext_getElem?;intro j;rw[List.getElem?_set];split
  ·rename_i h;subst h;simp[hi,(List.getElem?_eq_some_iff.1 hx).2]
  ·rfl
 have ST:=fun(n:Int) (b:Bool)=>YO gm gc M i x 3 n b w H hx
 obtain⟨⟨st,k,c,o,n0,d,h1⟩,h2⟩:=H;have c0:=h1.cell 0;have d0:w.cell? ⟨gc,i,none⟩=some (.int .i64 x):=(h2.cell i).trans (ZV hx);have hi0:(0:Int)<=(i:Int):=by omega
 have hi1:(i:Int)<(M.length:Int):=by omega
 unfold Zw
 by_cases he:x=old
 ·subst he
  rw[if_pos rfl,decide_eq_true rfl];have ST1:=Hd (ST n true);have e1:(x != x)=false:=by simp
  have e2:(x==x)=true:=by simp
  clear h1 h2 hx hs ST;go_enter Try.func71,Try.ntmps71;go_wp2_with (fail);refine FI.out.mono ?_;rintro e w1 ⟨rfl,rfl⟩;go_wp2_with (fail);refine ST1.out.mono ?_;rintro e w2 ⟨rfl,q1,q2⟩;have Q1:=Hd q1;have Q2:=Hd q2;clear q1 q2;go_wp2_with (fail);go_ret2;exact⟨rfl,Q1.out,Q2.out⟩
 ·rw[if_neg he,decide_eq_false he]
  have ST1:=ST x false;rw[hs] at ST1;replace ST1:=Hd ST1;have e1:(x != old)=true:=by simpa using he
  have e2:(x==old)=false:=by simpa using he
  clear h1 h2 hx hs ST he;go_enter Try.func71,Try.ntmps71;go_wp2_with (fail);refine FI.out.mono ?_;rintro e w1 ⟨rfl,rfl⟩;go_wp2_with (fail);refine ST1.out.mono ?_;rintro e w2 ⟨rfl,q1,q2⟩;have Q1:=Hd q1;have Q2:=Hd q2;clear q1 q2;go_wp2_with (fail);go_ret2;exact⟨rfl,Q1.out,Q2.out⟩
theorem Wp (gm gc:Nat)(M:List Int)(i:Nat)(x:Int)(w:World)(H:MemB w gm gc M)(hx:M[i]?=some x) :
  Calls Try.prog 45 #[.pointer (some ⟨gm,0,none⟩),.int .i64 (i:Int)] w fun e w'=>e=.returned (.int .i64 x)/\w=w':=by
 have hi:i<M.length:=(List.getElem?_eq_some_iff.1 hx).1;have FI:=Hd (Yo gm gc M i w H hi);obtain⟨⟨st,k,c,o,n0,d,h1⟩,h2⟩:=H;have c0:=h1.cell 0;have d0:w.cell? ⟨gc,i,none⟩=some (.int .i64 x):=(h2.cell i).trans (ZV hx);have hi0:(0:Int)<=(i:Int):=by omega
 have hi1:(i:Int)<(M.length:Int):=by omega
 clear h1 h2 hx;go_enter Try.func45,Try.ntmps45;go_wp2_with (fail);refine FI.out.mono ?_;rintro e w1 ⟨rfl,rfl⟩;go_wp2_with (fail);go_ret;exact⟨rfl,rfl⟩
theorem Y6 (gm gc:Nat)(M:List Int)(w:World)(H:MemB w gm gc M) :
  Calls Try.prog 26 #[.pointer (some ⟨gm,0,none⟩)] w fun e w'=>e=.returned (.int .i64 (M.length:Int))/\w=w':=by
 obtain⟨⟨st,k,c,o,n0,d,h1⟩,-⟩:=H;have c0:=h1.cell 0;clear h1;go_enter Try.func26,Try.ntmps26;go_wp2_with (fail);go_ret;exact⟨rfl,rfl⟩
end
section
def Zc (a0:Act) : List (Nat×Option Tmp)->(Nat->Value)->Act
 | [],_=>a0
 | p::ps,u=>(Zc a0 ps u).put p.2 (u p.1)
def upd (u:Nat->Value)(i:Nat)(v:Value) : Nat->Value:=fun j=>if j=i then v else u j
def Z9 (ops:Array Oper)(rem:List (Nat×Option Tmp))(i:Nat) : List Nat :=
 match ops[i]? with
 | none=>[]
 | some o=>(o.after.toList.filter fun e=>Region.binds .any e&&(rem.map (·.1)).contains e.on).map (·.on)
theorem Zg {ops:Array Oper}{rem:List (Nat×Option Tmp)}{i j:Nat}(h:(Z9 ops rem i).contains j=true) : j∈Z9 ops rem i:=by simpa using h
theorem Act.put_put_ne (a:Act){x y:Option Tmp}(v u:Value)(h:∀ d,x=some d->y≠some d) : (a.put x v).put y u=(a.put y u).put x v:=Act.put_comm a v u h
theorem Act.put_twice (a:Act)(x:Option Tmp)(v u:Value) : (a.put x v).put x u=a.put x u:=by
 cases x with
 | none=>rfl
 | some d=>simp[Act.put,Array.setIfInBounds_setIfInBounds]
theorem Y7 (a0:Act)(i:Nat)(d:Option Tmp)(u:Nat->Value)(v:Value) : ∀ (rem:List (Nat×Option Tmp)),(rem.map (·.1)).Nodup->(rem.filterMap (·.2)).Nodup->(i,d)∈rem ->
  (Zc a0 rem u).put d v=Zc a0 rem (upd u i v)
 | [],_,_,h=>by cases h
 | p::ps,hn,hd,h=>by
  have same:∀ (qs:List (Nat×Option Tmp)),i∉qs.map (·.1)->Zc a0 qs (upd u i v)=Zc a0 qs u:=by
   intro qs
   induction qs with
   | nil=>intro _;rfl
   | cons q qs ih =>
    intro hq;simp only[List.map_cons,List.mem_cons,not_or] at hq;simp only[Zc,ih hq.2,upd,if_neg (Ne.symm hq.1)]
  rcases List.mem_cons.1 h with rfl | h'
  ·have hni:i∉ps.map (·.1):=by simpa using (List.nodup_cons.1 hn).1
   simp only[Zc,same ps hni,upd,if_true];exact Act.put_twice _ _ _ _
  ·have hpi:p.1≠i:=by
    rintro rfl;exact(List.nodup_cons.1 hn).1 (List.mem_map.2 ⟨_,h',rfl⟩)
   have hd':(ps.filterMap (·.2)).Nodup:=by
    cases hp:p.2 with
    | none=>simpa [List.filterMap_cons,hp] using hd
    | some t=>rw[List.filterMap_cons,hp] at hd;exact(List.nodup_cons.1 hd).2
   have ih:=Y7 a0 i d u v ps (List.nodup_cons.1 hn).2 hd' h';simp only[Zc,upd,if_neg hpi];rw[<-ih];refine Act.put_put_ne _ _ _ ?_;intro t ht hdt;rw[List.filterMap_cons,ht] at hd;exact(List.nodup_cons.1 hd).1 (List.mem_filterMap.2 ⟨(i,d),h',hdt⟩)
theorem V2 (a:Act)(d:Tmp) : a.put (some d) (a.tmps.getD d undef)=a:=by
 have:a.tmps.setIfInBounds d (a.tmps.getD d undef)=a.tmps:=by
  apply Array.ext_getElem?;intro j;rw[Array.getElem?_setIfInBounds];split
  ·rename_i h
   subst h;split
   ·rename_i h;simp[Array.getD,h]
   ·rename_i h;simp[Array.getElem?_eq_none (Nat.le_of_not_lt h)]
  ·rfl
 show ({ a with tmps:=a.tmps.setIfInBounds d (a.tmps.getD d undef) }:Act)=a;rw[this]
theorem Y8 (a0:Act)(u:Nat->Value)(i:Nat)(v:Value) : ∀ (qs:List (Nat×Option Tmp)),i∉qs.map (·.1)->Zc a0 qs (upd u i v)=Zc a0 qs u
 | [],_=>rfl
 | q::qs,hq=>by
  simp only[List.map_cons,List.mem_cons,not_or] at hq;simp only[Zc,Y8 a0 u i v qs hq.2,upd,if_neg (Ne.symm hq.1)]
theorem YW (a0:Act) : ∀ (rem:List (Nat×Option Tmp)),(rem.map (·.1)).Nodup->∃ u,Zc a0 rem u=a0
 | [],_=>⟨fun _=>undef,rfl⟩
 | p::ps,hn=>by
  obtain⟨u,hu⟩:=YW a0 ps (List.nodup_cons.1 hn).2;have hni:p.1∉ps.map (·.1):=(List.nodup_cons.1 hn).1;refine⟨upd u p.1 (match p.2 with | some d=>a0.tmps.getD d undef | none=>undef),?_⟩;simp only[Zc,Y8 a0 u _ _ ps hni,hu,upd,if_true]
  cases p.2 with
  | none=>rfl
  | some d=>exact V2 a0 d
section
variable {P:Program} {ops:Array Oper} {Q:Exit->Act->World->Prop}
def Yg (listed:Array Bool)(rem:List (Nat×Option Tmp)) : Nat:=(rem.filter fun p => !listed.getD p.1 true).length
def Yc (ops:Array Oper)(rs:List Nat) : Nat->Nat->Nat->Bool
 | 0,_,_=>false
 | f+1,i,q=>match ops[i]? with
  | none=>false
  | some o=>o.after.toList.any (fun e=>Region.binds .any e&&(e.on==q || (rs.contains e.on&&Yc ops rs f e.on q)))
theorem Yd {listed:Array Bool}{rs:List Nat}(hcl:∀ p∈rs,listed.getD p true=true->∀ o,ops[p]?=some o->∀ e∈o.after.toList,Region.binds .any e=true->listed.getD e.on true=true) :
  ∀ (f i:Nat),(∀ o,ops[i]?=some o->∀ e∈o.after.toList,Region.binds .any e=true->listed.getD e.on true=true)->∀ q,Yc ops rs f i q=true->listed.getD q true=true:=by
 intro f
 induction f with
 | zero=>intro i _ q h;cases h
 | succ f ih =>
  intro i hi q h;unfold Yc at h
  cases ho:ops[i]? with
  | none=>rw[ho] at h;cases h
  | some o =>
   rw[ho] at h;obtain⟨e,he,h⟩:=List.any_eq_true.1 h;simp only[Bool.and_eq_true,Bool.or_eq_true,beq_iff_eq] at h;obtain⟨hb,h⟩:=h;have h1:=hi o ho e he hb;rcases h with rfl | ⟨h2,h3⟩
   ·exact h1
   ·exact ih e.on (hcl e.on (by simpa using h2) h1) q h3
theorem Yu {listed:Array Bool}{i:Nat}(h:((ops[i]?.map fun o=>o.after.all fun e => !Region.binds .any e || listed.getD e.on false).getD false)=true) :
  ∀ o,ops[i]?=some o->∀ e∈o.after.toList,Region.binds .any e=true->listed.getD e.on true=true:=by
 intro o ho e he hb;rw[ho] at h;simp only[Option.map_some,Option.getD_some,Array.all_eq_true_iff_forall_mem] at h;have:=h e (by simpa using he);rw[hb] at this;simp only[Bool.not_true,Bool.false_or] at this
 by_cases hlt:e.on<listed.size
 ·simp only[Array.getD,hlt,dif_pos] at this ⊢
  simpa using this
 ·simp[Array.getD,hlt]
def YE (ops:Array Oper)(listed listed1:Array Bool)(rem:List (Nat×Option Tmp)) : Bool :=
 decide ((rem.map (·.1)).Nodup)&&decide ((rem.filterMap (·.2)).Nodup)&&decide (listed.size=ops.size)&&decide (listed1.size=ops.size) &&
 rem.all (fun p=>match ops[p.1]? with
  | none=>false
  | some o=>(o.dst==p.2)&&o.after.all (fun e => !Region.binds .any e || (decide (e.on<p.1)&&((rem.map (·.1)).contains e.on || listed.getD e.on true)))) &&
 (List.range ops.size).all (fun i=>if (rem.map (·.1)).contains i then !listed.getD i true&&listed1.getD i true
  else(listed1.getD i true==listed.getD i true)&&(listed.getD i true || rem.all (fun p=>Yc ops (rem.map (·.1)) (rem.length+1) i p.1) || (match ops[i]? with
   | none=>false
   | some o=>o.after.any (fun e=>Region.binds .any e&&decide (e.on<ops.size) && !listed.getD e.on true && !(rem.map (·.1)).contains e.on))))
def V3 (ops:Array Oper)(rem:List (Nat×Option Tmp))(kill:Nat->List Nat)(i j:Nat) : Bool :=
 decide (i≠j) && !(kill j).contains i&&(kill j).all (fun k => !Yc ops (rem.map (·.1)) (rem.length+1) i k) && !Yc ops (rem.map (·.1)) (rem.length+1) j i
def V4 (ops:Array Oper)(rem:List (Nat×Option Tmp))(kill:Nat->List Nat) : Bool :=
 rem.all fun p=>(Z9 ops rem p.1).all fun j=>(kill j).all fun k=>k==p.1
theorem Wr {σ:Type}(rem:List (Nat×Option Tmp))(kill:Nat->List Nat)(R:σ->World->Prop)(V:Nat->Value->σ->World->Prop)(Stab:Nat->σ->World->σ->World->Prop){listed0:Array Bool}(listed1:Array Bool)(hok:YE ops listed0 listed1 rem=true)(hkill:V4 ops rem kill=true)
  (stab:∀ i j v s w s' w',V3 ops rem kill i j=true->V j v s w->Stab i s w s' w'->V j v s' w')
  {a0:Act}
  (step:∀ p∈rem,∀ u s w,R s w->(∀ j∈Z9 ops rem p.1,V j (u j) s w)->∀ K:Act->World->Prop,(∀ v s' w',V p.1 v s' w'->R s' w'->Stab p.1 s w s' w'->K ((Zc a0 rem u).put p.2 v) w')->wpOp P ops Q p.1 K (Zc a0 rem u) w)
  (n:Nat) (done:∀ u s w,R s w->(∀ p∈rem,kill p.1=[]->V p.1 (u p.1) s w)->wpAny P .any ops Q n listed1 (Zc a0 rem u) w) {s0:σ} {w0:World} (hR:R s0 w0) :
  wpAny P .any ops Q (rem.length+n) listed0 a0 w0:=by
 simp only[YE,Bool.and_eq_true,decide_eq_true_eq] at hok;obtain⟨⟨⟨⟨⟨hn,hdn⟩,hsz⟩,hsz1⟩,hall⟩,hcomp⟩:=hok;have hall:=List.all_eq_true.1 hall;have hcomp:=List.all_eq_true.1 hcomp;have hmem:∀ i∈rem.map (·.1),listed0.getD i true=false/\i<ops.size:=by
  intro i hi;obtain⟨p,hp,rfl⟩:=List.mem_map.1 hi;have h1:=hall p hp;have hlt:p.1<ops.size:=by
   rcases Nat.lt_or_ge p.1 ops.size with h | h
   ·exact h
   ·rw[Array.getElem?_eq_none h] at h1;simp at h1
  have:=hcomp p.1 (List.mem_range.2 hlt);have hc:(rem.map (·.1)).contains p.1=true:=by simpa using hi
  rw[hc] at this;simp only[if_true,Bool.and_eq_true,Bool.not_eq_true'] at this;exact⟨this.1,hlt⟩
 have hone:∀ i∈rem.map (·.1),listed1.getD i true=true:=by
  intro i hi;have:=hcomp i (List.mem_range.2 (hmem i hi).2);have hc:(rem.map (·.1)).contains i=true:=by simpa using hi
  rw[hc] at this;simp only[if_true,Bool.and_eq_true] at this;exact this.2
 have hrest:∀ i,i<ops.size->i∉rem.map (·.1)->listed1.getD i true=listed0.getD i true/\((listed0.getD i true=true\/∀ p∈rem,Yc ops (rem.map (·.1)) (rem.length+1) i p.1=true)\/∃ o,ops[i]?=some o/\∃ e∈o.after.toList,Region.binds .any e=true/\e.on<ops.size/\listed0.getD e.on true=false/\e.on∉rem.map (·.1)):=by
  intro i hi hni;have:=hcomp i (List.mem_range.2 hi);have hc:(rem.map (·.1)).contains i=false:=by
   cases h:(rem.map (·.1)).contains i with
   | false=>rfl
   | true=>exact absurd (by simpa using h) hni
  rw[hc] at this;simp only[Bool.false_eq_true,if_false,Bool.and_eq_true,beq_iff_eq,Bool.or_eq_true] at this;refine⟨this.1,?_⟩;rcases this.2 with(h | h) | h
  ·exact .inl (.inl h)
  ·exact .inl (.inr fun p hp=>List.all_eq_true.1 h p hp)
  ·right
   rw[Array.getElem?_eq_getElem hi] at h;refine⟨ops[i],Array.getElem?_eq_getElem hi,?_⟩;simp only[Array.any_toList.symm,List.any_eq_true,Bool.and_eq_true,decide_eq_true_eq,Bool.not_eq_true'] at h;obtain⟨e,he,⟨⟨h1,h2⟩,h3⟩,h4⟩:=h;exact⟨e,he,h1,h2,h3,by simpa using h4⟩
 suffices H:∀ k (listed:Array Bool) (u:Nat->Value) (s:σ) (w:World),listed.size=ops.size->R s w->(∀ i,i<ops.size->i∉rem.map (·.1)->listed.getD i true=listed0.getD i true) ->
   (∀ p∈rem,listed.getD p.1 true=true->(∀ k∈kill p.1,listed.getD k true=false)->V p.1 (u p.1) s w)->(∀ p∈rem.map (·.1),listed.getD p true=true->∀ o,ops[p]?=some o->∀ e∈o.after.toList,Region.binds .any e=true->listed.getD e.on true=true)->Yg listed rem=k->wpAny P .any ops Q (k+n) listed (Zc a0 rem u) w by
  obtain⟨u,hu⟩:=YW a0 rem hn;have hopen:Yg listed0 rem=rem.length:=by
   unfold Yg;rw[List.filter_eq_self.2];intro p hp;simp[(hmem p.1 (List.mem_map.2 ⟨p,hp,rfl⟩)).1]
  have h:=H rem.length listed0 u s0 w0 hsz hR (fun i hi hni=>rfl) (fun p hp hl _=>by
   have:=(hmem p.1 (List.mem_map.2 ⟨p,hp,rfl⟩)).1;rw[this] at hl
   cases hl) (fun p hp hl=>by
   rw[(hmem p hp).1] at hl
   cases hl) hopen
  rwa [hu] at h
 intro k
 induction k with
 | zero =>
  intro listed u s w hs hRw hout hV hcl hopen;have hall':∀ p∈rem,listed.getD p.1 true=true:=by
   intro p hp;simp only[Yg,List.length_eq_zero_iff,List.filter_eq_nil_iff,Bool.not_eq_true',Bool.not_eq_false] at hopen;exact hopen p hp
  have hl:listed=listed1:=by
   apply Array.ext
   ·rw[hs,hsz1]
   ·intro i h1 h2
    have:listed.getD i true=listed1.getD i true:=by
     by_cases hr:i∈rem.map (·.1)
     ·rw[hone i hr]
      obtain⟨p,hp,rfl⟩:=List.mem_map.1 hr;exact hall' p hp
     ·rw[hout i (by omega) hr,(hrest i (by omega) hr).1]
    simpa [Array.getD,h1,h2] using this
  rw[hl,Nat.zero_add];exact done u s w hRw (fun p hp hk=>hV p hp (hall' p hp) (fun k h=>by rw[hk] at h;cases h))
 | succ k ih =>
  intro listed u s w hs hRw hout hV hcl hopen;rw[Nat.add_right_comm];have hsome:∃ p∈rem,listed.getD p.1 true=false:=by
   have:(rem.filter fun p => !listed.getD p.1 true)≠[]:=by
    intro h;simp only[Yg,h,List.length_nil] at hopen;omega
   obtain⟨p,hp⟩:=List.exists_mem_of_ne_nil _ this;obtain⟨h1,h2⟩:=List.mem_filter.1 hp;exact⟨p,h1,by simpa using h2⟩
  have hno:∀ i,i∈Region.ready .any ops listed->i∈rem.map (·.1):=by
   intro i hi;obtain⟨hi1,hi2⟩:=List.mem_filter.1 hi;have hilt:=List.mem_range.1 hi1;simp only[Bool.and_eq_true] at hi2;have hil:listed.getD i true=false:=by simpa using hi2.1
   by_cases hr:i∈rem.map (·.1)
   ·exact hr
   ·exfalso
    obtain⟨h1,h2⟩:=hrest i hilt hr;rw[hout i hilt hr] at hil;rcases h2 with(h2 | h2) | h2
    ·rw[h2] at hil;cases hil
    rotate_left
    ·obtain⟨o,ho,e,he,hb,hsz2,hl0,hnr⟩:=h2
     have h3:=hi2.2;rw[ho] at h3;simp only[Option.map_some,Option.getD_some,Array.all_eq_true_iff_forall_mem] at h3;have:=h3 e (by simpa using he);rw[hb] at this;simp only[Bool.not_true,Bool.false_or] at this;have hlt:e.on<listed.size:=by rw[hs];exact hsz2
     have e1:listed.getD e.on false=listed.getD e.on true:=by simp only[Array.getD,hlt,dif_pos]
     rw[e1,hout e.on hsz2 hnr,hl0] at this
     cases this
    ·obtain⟨p,hp,hpl⟩:=hsome
     have:=Yd hcl _ i (Yu hi2.2) p.1 (h2 p hp);rw[hpl] at this
     cases this
  constructor
  ·intro hnil
   exfalso
   have key:∀ i,i<ops.size->i∈rem.map (·.1)->listed.getD i true=true:=by
    intro i
    induction i using Nat.strongRecOn with
    | _ i ihi =>
     intro hi hr;obtain⟨p,hp,rfl⟩:=List.mem_map.1 hr;have h1:=hall p hp
     cases hl:listed.getD p.1 true with
     | true=>rfl
     | false =>
      exfalso
      have hready:p.1∈Region.ready .any ops listed:=by
       refine List.mem_filter.2 ⟨List.mem_range.2 hi,?_⟩;rw[Array.getElem?_eq_getElem hi] at h1 ⊢;simp only[Bool.and_eq_true,beq_iff_eq] at h1;simp only[hl,Bool.not_false,Option.map_some,Option.getD_some,Bool.true_and];rw[Array.all_eq_true_iff_forall_mem] at h1 ⊢;intro e he;have:=h1.2 e he
       cases hb:Region.binds .any e with
       | false=>rfl
       | true =>
        rw[hb] at this;simp only[Bool.not_true,Bool.false_or,Bool.and_eq_true,decide_eq_true_eq,Bool.or_eq_true] at this;have hlt:e.on<listed.size:=by rw[hs];omega
        have hh:listed.getD e.on true=true:=by
         rcases this.2 with h | h
         ·exact ihi e.on this.1 (by omega) (by simpa using h)
         ·by_cases hr':e.on∈rem.map (·.1)
          ·exact ihi e.on this.1 (by omega) hr'
          ·rw[hout e.on (by omega) hr'];exact h
        simp only[Array.getD,hlt,dif_pos] at hh ⊢
        simpa using hh
      rw[hnil] at hready
      cases hready
   obtain⟨p,hp,hpl⟩:=hsome;have:=key p.1 (hmem p.1 (List.mem_map.2 ⟨p,hp,rfl⟩)).2 (List.mem_map.2 ⟨p,hp,rfl⟩);rw[this] at hpl
   cases hpl
  ·intro i hi
   have hir:=hno i hi;obtain⟨hi1,hi2⟩:=List.mem_filter.1 hi;have hilt:=List.mem_range.1 hi1;simp only[Bool.and_eq_true] at hi2;have hil:listed.getD i true=false:=by simpa using hi2.1
   obtain⟨p,hp,rfl⟩:=List.mem_map.1 hir;refine step p hp u s w hRw ?_ _ ?_
   ·intro j hj
    rw[Z9,Array.getElem?_eq_getElem hilt] at hj;obtain⟨e,he,rfl⟩:=List.mem_map.1 hj;obtain⟨he1,he2⟩:=List.mem_filter.1 he;simp only[Bool.and_eq_true] at he2;have hjr:e.on∈rem.map (·.1):=by simpa using he2.2
    obtain⟨q,hq,hqe⟩:=List.mem_map.1 hjr;have hjd:e.on∈Z9 ops rem p.1:=by
     rw[Z9,Array.getElem?_eq_getElem hilt];exact List.mem_map.2 ⟨e,he,rfl⟩
    have hkj:∀ k∈kill q.1,listed.getD k true=false:=by
     intro k hk;rw[hqe] at hk;have h9:=List.all_eq_true.1 (List.all_eq_true.1 (List.all_eq_true.1 hkill p hp) e.on hjd) k hk;obtain rfl:k=p.1:=by simpa using h9
     exact hil
    rw[<-hqe];refine hV q hq ?_ hkj;have h3:=hi2.2;rw[Array.getElem?_eq_getElem hilt] at h3;simp only[Option.map_some,Option.getD_some,Array.all_eq_true_iff_forall_mem] at h3;have:=h3 e (by simpa using he1);rw[he2.1] at this;simp only[Bool.not_true,Bool.false_or] at this;rw[hqe];have hlt:e.on<listed.size:=by rw[hs,<-hqe];exact(hmem q.1 (List.mem_map.2 ⟨q,hq,rfl⟩)).2
    simp only[Array.getD,hlt,dif_pos] at this ⊢
    simpa using this
   ·intro v s' w' hv hR' hst
    have hpp:(p.1,p.2)∈rem:=hp;rw[Y7 a0 p.1 p.2 u v rem hn hdn hpp];have hset:∀ j,(listed.setIfInBounds p.1 true).getD j true=if j=p.1 then true else listed.getD j true:=by
     intro j;simp only[Array.getD_eq_getD_getElem?,Array.getElem?_setIfInBounds]
     by_cases hj:p.1=j
     ·subst hj
      simp;split<;>simp
     ·rw[if_neg hj,if_neg (Ne.symm hj)]
    refine ih _ _ _ _ (by simpa using hs) hR' ?_ ?_ ?_ ?_
    ·intro j hj hjr
     have hjp:¬j=p.1:=fun e=>hjr (by rw[e];exact List.mem_map.2 ⟨p,hp,rfl⟩)
     rw[hset,if_neg hjp];exact hout j hj hjr
    ·intro q hq hql hkq
     rw[hset] at hql
     by_cases he:q.1=p.1
     ·rw[he]
      simpa [upd] using hv
     ·rw[if_neg he] at hql
      simp only[upd,if_neg he];have hk1:∀ k∈kill q.1,k≠p.1/\listed.getD k true=false:=by
       intro k hk;have h9:=hkq k hk;rw[hset] at h9
       by_cases hkp:k=p.1
       ·rw[if_pos hkp] at h9;cases h9
       ·rw[if_neg hkp] at h9;exact⟨hkp,h9⟩
      refine stab p.1 q.1 _ _ _ _ _ ?_ (hV q hq hql fun k hk=>(hk1 k hk).2) hst;unfold V3;simp only[Bool.and_eq_true,decide_eq_true_eq,Bool.not_eq_true'];refine⟨⟨⟨Ne.symm he,?_⟩,List.all_eq_true.2 fun k hk=>?_⟩,?_⟩
      ·cases hc:(kill q.1).contains p.1 with
       | false=>rfl
       | true=>exact absurd rfl (hk1 p.1 (by simpa using hc)).1
      ·cases hc:Yc ops (rem.map (·.1)) (rem.length+1) p.1 k with
       | false=>rfl
       | true =>
        have h5:=Yd hcl _ p.1 (Yu hi2.2) k hc;rw[(hk1 k hk).2] at h5
        cases h5
      ·cases hc:Yc ops (rem.map (·.1)) (rem.length+1) q.1 p.1 with
       | false=>rfl
       | true =>
        have h5:=Yd hcl _ q.1 (hcl q.1 (List.mem_map.2 ⟨q,hq,rfl⟩) hql) p.1 hc;rw[hil] at h5
        cases h5
    ·intro q hq hql o ho e he hb
     rw[hset];split
     ·rfl
     ·rw[hset] at hql
      by_cases hqp:q=p.1
      ·subst hqp
       exact Yu hi2.2 o ho e he hb
      ·rw[if_neg hqp] at hql
       exact hcl q hq hql o ho e he hb
    ·have hlt:Yg (listed.setIfInBounds p.1 true) rem+1=Yg listed rem:=by
      unfold Yg;have h1:∀ (qs:List (Nat×Option Tmp)),(qs.map (·.1)).Nodup->p∈qs->(qs.filter fun q => !(listed.setIfInBounds p.1 true).getD q.1 true).length+1=(qs.filter fun q => !listed.getD q.1 true).length:=by
       intro qs hqn hpq;have heq:∀ (rs:List (Nat×Option Tmp)),p.1∉rs.map (·.1)->(rs.filter fun q => !(listed.setIfInBounds p.1 true).getD q.1 true)=(rs.filter fun q => !listed.getD q.1 true):=by
        intro rs hrs;refine List.filter_congr fun q hq=>?_
        have hne:q.1≠p.1:=fun e=>hrs (e ▸ List.mem_map.2 ⟨q,hq,rfl⟩)
        rw[hset,if_neg hne]
       induction qs with
       | nil=>cases hpq
       | cons r rs ihr =>
        rcases List.mem_cons.1 hpq with rfl | hpq'
        ·have:=heq rs (List.nodup_cons.1 hqn).1
         rw[List.filter_cons,List.filter_cons,this,hset,if_pos rfl,hil];simp
        ·have ih2:=ihr (List.nodup_cons.1 hqn).2 hpq'
         have hne:r.1≠p.1:=by
          intro e;exact(List.nodup_cons.1 hqn).1 (List.mem_map.2 ⟨p,hpq',e.symm⟩)
         rw[List.filter_cons,List.filter_cons,hset,if_neg hne];split<;>(try simp only[List.length_cons])<;>omega
      exact h1 rem hn hp
     omega
theorem Yv (rem:List (Nat×Option Tmp))(R:World->Prop)(V:Nat->Value->World->Prop)(Stab:World->World->Prop){listed0:Array Bool}(listed1:Array Bool)(hok:YE ops listed0 listed1 rem=true)
  (stab:∀ j v w w',V j v w->Stab w w'->V j v w')
  {a0:Act}
  (step:∀ p∈rem,∀ u w,R w->(∀ j∈Z9 ops rem p.1,V j (u j) w)->∀ K:Act->World->Prop,(∀ v w',V p.1 v w'->R w'->Stab w w'->K ((Zc a0 rem u).put p.2 v) w')->wpOp P ops Q p.1 K (Zc a0 rem u) w)
  (n:Nat) (done:∀ u w,R w->(∀ p∈rem,V p.1 (u p.1) w)->wpAny P .any ops Q n listed1 (Zc a0 rem u) w) {w0:World} (hR:R w0) :
  wpAny P .any ops Q (rem.length+n) listed0 a0 w0 :=
 Wr (σ:=Unit) rem (fun _=>[]) (fun _=>R) (fun j v _=>V j v) (fun _ _ w _ w'=>Stab w w') listed1 hok (by simp[V4]) (fun _ j v _ w _ w' _=>stab j v w w') (fun p hp u _ w hR hd K hK=>step p hp u w hR hd K fun v w'=>hK v () w') n (fun u _ w hR h=>done u w hR fun p hp=>h p hp rfl) (s0:=()) hR
end
section
variable {P:Program} {ops:Array Oper} {Q:Exit->Act->World->Prop}
theorem Zj (rem:List (Nat×Option Tmp))(f:Nat->Value){listed0:Array Bool}(listed1:Array Bool)(hok:YE ops listed0 listed1 rem=true){a0:Act}{w:World}{n:Nat}
  (step:∀ p∈rem,∀ u:Nat->Value,(∀ j∈Z9 ops rem p.1,u j=f j)->∀ K:Act->World->Prop,K ((Zc a0 rem u).put p.2 (f p.1)) w->wpOp P ops Q p.1 K (Zc a0 rem u) w)
  (done:wpAny P .any ops Q n listed1 (Zc a0 rem f) w):wpAny P .any ops Q (rem.length+n) listed0 a0 w:=by
 refine Yv rem (fun w'=>w'=w) (fun i v _=>v=f i) (fun _ _=>True) listed1 hok (fun _ _ _ _ h _=>h) ?_ n ?_ rfl
 ·rintro p hp u w' rfl hD K hK
  exact step p hp u hD K (hK _ _ rfl rfl trivial)
 ·rintro u w' rfl hV
  have:∀ qs:List (Nat×Option Tmp),(∀ p∈qs,u p.1=f p.1)->Zc a0 qs u=Zc a0 qs f:=by
   intro qs
   induction qs with
   | nil=>intro _;rfl
   | cons q qs ih =>
    intro h;simp only[Zc,ih (fun p hp=>h p (List.mem_cons_of_mem _ hp)),h q List.mem_cons_self]
  rw[this rem hV];exact done
end
section
variable {P:Program} {ops:Array Oper} {o:Oper} {a:Act} {w w':World} {K:Act->World->Prop} {Q:Exit->Act->World->Prop} {E:Prop}
end
end
section
def VF (f:Nat->Option Value)(g:Nat->Value->World->Prop)(i:Nat)(v:Value)(w:World) : Prop:=match f i with
 | some c=>v=c
 | none=>g i v w
theorem VF.stab {f:Nat->Option Value}{g:Nat->Value->World->Prop}{Stab:World->World->Prop}(h:∀ j v w w',f j=none->g j v w->Stab w w'->g j v w')(j:Nat)(v:Value)(w w':World)(hv:VF f g j v w)(hs:Stab w w') : VF f g j v w':=by
 unfold VF at *
 cases hf:f j with
 | some c=>rw[hf] at hv;exact hv
 | none=>rw[hf] at hv;exact h j v w w' hf hv hs
theorem VF.k {f:Nat->Option Value}{g:Nat->Value->World->Prop}{i:Nat}{v c:Value}{w:World}(h:VF f g i v w)(hf:f i=some c) : v=c:=by unfold VF at h;rw[hf] at h;exact h
theorem VF.g {f:Nat->Option Value}{g:Nat->Value->World->Prop}{i:Nat}{v:Value}{w:World}(h:VF f g i v w)(hf:f i=none) : g i v w:=by unfold VF at h;rw[hf] at h;exact h
theorem VF.mk {f:Nat->Option Value}{g:Nat->Value->World->Prop}{i:Nat}{c:Value}{w:World}(hf:f i=some c) : VF f g i c w:=by unfold VF;rw[hf]
theorem VF.mg {f:Nat->Option Value}{g:Nat->Value->World->Prop}{i:Nat}{v:Value}{w:World}(hf:f i=none)(h:g i v w) : VF f g i v w:=by unfold VF;rw[hf];exact h
def ZW (ops:Array Oper)(i:Nat) : Option (Option (Nat×Bool)×Op×TypeId×Option Tmp):=(ops[i]?).map fun o=>(o.guard,o.op,o.type,o.dst)
def Zb (ρ:Operand->Value)(op:Op)(t:TypeId) : Sem Next:=execOp ρ { dst:=none,op:=op,type:=t,pos := "",after:=#[],guard:=none }
theorem Ws (ρ:Operand->Value)(o:Oper) : execOp ρ o=Zb ρ o.op o.type:=rfl
section
variable {P:Program} {ops:Array Oper} {i:Nat} {op:Op} {t:TypeId} {d:Option Tmp} {a:Act} {w w':World} {K:Act->World->Prop} {Q:Exit->Act->World->Prop}
theorem WV (hi:ZW ops i=some (none,op,t,d))(h:∀ o:Oper,o.op=op->o.type=t->o.dst=d->o.upon P a K Q ((Zb a.eval op t).run P w)) : wpOp P ops Q i K a w:=by
 unfold ZW at hi;obtain⟨o,ho,he⟩:=Option.map_eq_some_iff.1 hi;simp only[Prod.mk.injEq] at he;obtain⟨h1,h2,h3,h4⟩:=he;unfold wpOp;simp only[ho];rw[if_pos (by simp[Region.wanted,h1])];refine .inl ?_;rw[Oper.wp,Ws,h2,h3];exact h o h2 h3 h4
theorem Zm (hi:ZW ops i=some (none,op,t,d))(v:Value)(hrun:(Zb a.eval op t).run P w=.ok (.value v) w')(hK:K (a.put d v) w') : wpOp P ops Q i K a w :=
 WV hi fun o _ _ hd=>by rw[hrun,Oper.upon_value,hd];exact hK
theorem UD (hi:ZW ops i=some (none,op,t,d))(hrun:(Zb a.eval op t).run P w=.ok .skip w')(hK:K (a.put d undef) w') : wpOp P ops Q i K a w :=
 WV hi fun o _ _ hd=>by rw[hrun,Oper.upon_skip,hd];exact hK
theorem Ze {T:TypeId}{x:Operand}(hi:ZW ops i=some (none,.load T x,t,d))(p:Value)(hx:a.eval x=p)(v:Value)(hrun:(Instr.loadAt T p).run P w=.ok v w)(hK:K (a.put d v) w) : wpOp P ops Q i K a w :=
 Zm hi v (by simp[Zb,execOp,hx,hrun]) hK
theorem Wt {T:TypeId}{x y:Operand}(hi:ZW ops i=some (none,.indexAddr T x y,t,d))(p q:Value)(hx:a.eval x=p)(hy:a.eval y=q)(v:Value)(hrun:(Instr.indexAt T p q).run P w=.ok v w)(hK:K (a.put d v) w) : wpOp P ops Q i K a w :=
 Zm hi v (by simp[Zb,execOp,hx,hy,hrun]) hK
theorem Qh {T:TypeId}{x:Operand}(hi:ZW ops i=some (none,.buildSlice T 1 #[(0,x)],t,d))(p:Value)(hx:a.eval x=p)(v:Value)(hrun:(Instr.buildSlice T 1 #[(0,p)]).run P w=.ok v w')(hK:K (a.put d v) w') : wpOp P ops Q i K a w :=
 Zm hi v (by simp[Zb,execOp,hx,hrun]) hK
theorem ZQ {T:TypeId}{x y:Operand}(hi:ZW ops i=some (none,.store T x y,t,d))(p v:Value)(hx:a.eval x=p)(hy:a.eval y=v)(hrun:(Instr.storeAt T p v).run P w=.ok () w')(hK:K (a.put d undef) w') : wpOp P ops Q i K a w :=
 UD hi (by simp[Zb,execOp,hx,hy,hrun]) hK
theorem V5 {s x:Operand}{t1 t2:TypeId}(hi:ZW ops i=some (none,.call { callee:=.builtin .append,args:=#[s,x],argTypes:=#[t1,t2] },t,d))(p q:Value)(hs:a.eval s=p)(hx:a.eval x=q)(v:Value)(hrun:(Builtin.append_ #[t1,t2] t #[p,q]).run P w=.ok v w')(hK:K (a.put d v) w') : wpOp P ops Q i K a w :=
 Zm hi v (by simp[Zb,execOp,resolve,invoke,builtin,Sem.run_bind,Sem.run_pure,Result.andThen_ok,hs,hx,hrun]) hK
theorem Zh {f:Nat}{xs:Array Operand}{ts:Array TypeId}(hi:ZW ops i=some (none,.call { callee:=.value (.func f),args:=xs,argTypes:=ts },t,d))(args:Array Value)(hf:(callFunc f args).run P w=.ok (.enter f args) w)(hargs:xs.map a.eval=args)(R:Ending->World->Prop)(hc:Calls P f args w R)(hK:∀ e w',R e w'->∃ v,e=.returned v/\K (a.put d v) w') : wpOp P ops Q i K a w :=
 WV hi fun o _ _ hd=>by
  have e1:(Zb a.eval (.call { callee:=.value (.func f),args:=xs,argTypes:=ts }) t).run P w=.ok (.enter f args) w:=by
   simp[Zb,execOp,resolve,invoke,Sem.run_bind,Sem.run_pure,Result.andThen_ok,hargs,Deferred.ofValue,Act.eval,hf]
  rw[e1,Oper.upon_enter];refine hc.mono fun e w1 he=>?_
  obtain⟨v,rfl,hk⟩:=hK e w1 he;rw[hd];exact hk
theorem Vn {g:Nat×Bool}(hi:ZW ops i=some (some g,op,t,d))(hg:yielded ops a.tmps g.1=some g.2)(h:∀ o:Oper,o.op=op->o.type=t->o.dst=d->o.upon P a K Q ((Zb a.eval op t).run P w)) : wpOp P ops Q i K a w:=by
 unfold ZW at hi;obtain⟨o,ho,he⟩:=Option.map_eq_some_iff.1 hi;simp only[Prod.mk.injEq] at he;obtain⟨h1,h2,h3,h4⟩:=he;unfold wpOp;simp only[ho];rw[if_pos (by simp[Region.wanted,h1,hg])];refine .inl ?_;rw[Oper.wp,Ws,h2,h3];exact h o h2 h3 h4
theorem WW {g:Nat×Bool}{T:TypeId}{x:Operand}(hi:ZW ops i=some (some g,.load T x,t,d))(hg:yielded ops a.tmps g.1=some g.2)(p:Value)(hx:a.eval x=p)(v:Value)(hrun:(Instr.loadAt T p).run P w=.ok v w)(hK:K (a.put d v) w) : wpOp P ops Q i K a w :=
 Vn hi hg fun o _ _ hd=>by
  have e1:(Zb a.eval (.load T x) t).run P w=.ok (.value v) w:=by simp[Zb,execOp,hx,hrun]
  rw[e1,Oper.upon_value,hd];exact hK
theorem Yh {g:Nat×Bool}{f:Nat}{xs:Array Operand}{ts:Array TypeId}(hi:ZW ops i=some (some g,.call { callee:=.value (.func f),args:=xs,argTypes:=ts },t,d))(hg:yielded ops a.tmps g.1=some g.2)(args:Array Value)(hf:(callFunc f args).run P w=.ok (.enter f args) w)(hargs:xs.map a.eval=args)(R:Ending->World->Prop)(hc:Calls P f args w R)(hK:∀ e w',R e w'->∃ v,e=.returned v/\K (a.put d v) w') : wpOp P ops Q i K a w :=
 Vn hi hg fun o _ _ hd=>by
  have e1:(Zb a.eval (.call { callee:=.value (.func f),args:=xs,argTypes:=ts }) t).run P w=.ok (.enter f args) w:=by
   simp[Zb,execOp,resolve,invoke,Sem.run_bind,Sem.run_pure,Result.andThen_ok,hargs,Deferred.ofValue,Act.eval,hf]
  rw[e1,Oper.upon_enter];refine hc.mono fun e w1 he=>?_
  obtain⟨v,rfl,hk⟩:=hK e w1 he;rw[hd];exact hk
theorem Zs {md:Region.Mode}{listed:Array Bool}{n:Nat}{v:Value}(hi:ZW ops i=some (none,op,t,d))(hs:Region.noSelect ops=true)(hf:Region.free md ops listed i=true)(hr:(Region.ready md ops listed).contains i=true)
  (hQ:∀ c a w,Q (.panic c) (a.put d v) w->Q (.panic c) a w) (hy:∀ u,(Zb a.eval op t).run P u=.ok (.value v) u) (h:wpAny P md ops Q n (listed.setIfInBounds i true) (a.put d v) w):wpAny P md ops Q (n+1) listed a w:=by
 unfold ZW at hi;obtain⟨o,ho,he⟩:=Option.map_eq_some_iff.1 hi;simp only[Prod.mk.injEq] at he;obtain⟨h1,rfl,rfl,rfl⟩:=he;exact wpAny_take ho hs hf hr hQ (.inl ⟨by simp[Region.wanted,h1],hy⟩) h
theorem Za {md:Region.Mode}{listed:Array Bool}{n:Nat}{v:Value}(hi:ZW ops i=some (none,op,t,d))(hc:(Region.noSelect ops&&(Region.free md ops listed i&&(Region.ready md ops listed).contains i))=true)(hQ:∀ c a w,Q (.panic c) (a.put d v) w->Q (.panic c) a w)(hy:∀ u,(Zb a.eval op t).run P u=.ok (.value v) u)(h:wpAny P md ops Q n (listed.setIfInBounds i true) (a.put d v) w) : wpAny P md ops Q (n+1) listed a w:=by
 simp only[Bool.and_eq_true] at hc;exact Zs hi hc.1 hc.2.1 hc.2.2 hQ hy h
theorem lay : (∀ (a:Act) (d:Option Nat) (v:Value),a.put d v=(match d with | some d=>{ a with tmps:=a.tmps.setIfInBounds d v } | none=>a))/\(∀ (l:List Value) (i:Nat) (v:Value),l.toArray.setIfInBounds i v=(l.set i v).toArray)/\(∀ (x:Value) (l:List Value) (v:Value),(x::l).set 0 v=v::l)/\(∀ (x:Value) (l:List Value) (i:Nat) (v:Value),(x::l).set (i+1) v=x::l.set i v):=⟨fun _ d _=>by cases d<;>rfl,fun _ _ _=>by simp,fun _ _ _=>rfl,fun _ _ _ _=>rfl⟩
theorem YF {md:Region.Mode}{listed:Array Bool}{n:Nat}{v:Value}{g:Nat×Bool}(hi:ZW ops i=some (some g,op,t,d))(hs:Region.noSelect ops=true)(hf:Region.free md ops listed i=true)(hr:(Region.ready md ops listed).contains i=true)
  (hQ:∀ c a w,Q (.panic c) (a.put d v) w->Q (.panic c) a w) (hg:yielded ops a.tmps g.1=some g.2) (hy:∀ u,(Zb a.eval op t).run P u=.ok (.value v) u) (h:wpAny P md ops Q n (listed.setIfInBounds i true) (a.put d v) w):wpAny P md ops Q (n+1) listed a w:=by
 unfold ZW at hi;obtain⟨o,ho,he⟩:=Option.map_eq_some_iff.1 hi;simp only[Prod.mk.injEq] at he;obtain⟨h1,rfl,rfl,rfl⟩:=he;exact wpAny_take ho hs hf hr hQ (.inl ⟨by simp[Region.wanted,h1,hg],hy⟩) h
theorem Zy {md:Region.Mode}{listed:Array Bool}{n:Nat}{v:Value}{g:Nat×Bool}(hi:ZW ops i=some (some g,op,t,d))(hc:(Region.noSelect ops&&(Region.free md ops listed i&&(Region.ready md ops listed).contains i))=true)(hQ:∀ c a w,Q (.panic c) (a.put d v) w->Q (.panic c) a w)(hg:yielded ops a.tmps g.1=some g.2)(hy:∀ u,(Zb a.eval op t).run P u=.ok (.value v) u)(h:wpAny P md ops Q n (listed.setIfInBounds i true) (a.put d v) w) : wpAny P md ops Q (n+1) listed a w:=by
 simp only[Bool.and_eq_true] at hc;exact YF hi hc.1 hc.2.1 hc.2.2 hQ hg hy h
theorem UE {md:Region.Mode}{listed:Array Bool}{n:Nat}{g:Nat×Bool}{b:Bool}(hi:ZW ops i=some (some g,op,t,d))(hs:Region.noSelect ops=true)(hf:Region.free md ops listed i=true)(hr:(Region.ready md ops listed).contains i=true)
  (hQ:∀ c a w,Q (.panic c) (a.put d undef) w->Q (.panic c) a w) (hg:yielded ops a.tmps g.1=some b) (hb:(b != g.2)=true) (h:wpAny P md ops Q n (listed.setIfInBounds i true) (a.put d undef) w):wpAny P md ops Q (n+1) listed a w:=by
 unfold ZW at hi;obtain⟨o,ho,he⟩:=Option.map_eq_some_iff.1 hi;simp only[Prod.mk.injEq] at he;obtain⟨h1,rfl,rfl,rfl⟩:=he;refine wpAny_take ho hs hf hr hQ (.inr ⟨?_,rfl⟩) h;obtain⟨g1,g2⟩:=g;simp only at hg hb
 cases b<;>cases g2<;>simp_all[Region.wanted]
theorem ZB {md:Region.Mode}{listed:Array Bool}{n:Nat}{g:Nat×Bool}{b:Bool}(hi:ZW ops i=some (some g,op,t,d))(hc:(Region.noSelect ops&&(Region.free md ops listed i&&(Region.ready md ops listed).contains i))=true)(hQ:∀ c a w,Q (.panic c) (a.put d undef) w->Q (.panic c) a w)(hg:yielded ops a.tmps g.1=some b)(hb:(b != g.2)=true)(h:wpAny P md ops Q n (listed.setIfInBounds i true) (a.put d undef) w) : wpAny P md ops Q (n+1) listed a w:=by
 simp only[Bool.and_eq_true] at hc;exact UE hi hc.1 hc.2.1 hc.2.2 hQ hg hb h
theorem Vw {md:Region.Mode}{listed:Array Bool}(i:Nat)(h1:Region.ready md ops listed=[i])(h2:Region.ready md ops (listed.setIfInBounds i true)=[])(h:wpOp P ops Q i (fun a w=>Q .normal a w) a w) : wpAny P md ops Q 1 listed a w :=
 ⟨fun h0=>absurd (h1.symm.trans h0) (by simp),fun j hj=>by
  rw[h1] at hj;obtain rfl:j=i:=by simpa using hj
  exact wpOp_mono (fun _ _ hq=>⟨h2,hq⟩) h⟩
theorem Zd {md:Region.Mode}{listed:Array Bool}{n:Nat}(i:Nat)(h1:Region.ready md ops listed=[i])(h:wpOp P ops Q i (wpAny P md ops Q n (listed.setIfInBounds i true)) a w) : wpAny P md ops Q (n+1) listed a w :=
 ⟨fun h0=>absurd (h1.symm.trans h0) (by simp),fun j hj=>by
  rw[h1] at hj;obtain rfl:j=i:=by simpa using hj
  exact h⟩
end
theorem V6 {P:Program}{t e:TypeId}{i0:TypeInfo}{size:Nat}(ht:P.underlying t=some (.slice e))(hi:P.info? e=some i0)(hsz:i0.size=size)(A:Option Addr)(n c lo:Nat)(L:Int)(hL:L=(lo:Int))(h1:lo<=n)(h2:n<=c)(u:World) :
  (Instr.sliceAt t (.slice A n c) (some (.int .i64 L)) none none).run P u=.ok (.slice (if c=lo then A else A.map (·.add (lo*size))) (n-lo) (c-lo)) u:=by
 subst hL;have he:P.elem t=e:=by simp[Program.elem,ht]
 have h0:(0:Int)<=(lo:Int)/\(lo:Int)<=(n:Int):=by omega
 have ht':P.underlying t=some (.slice (P.elem t)):=by rw[he];exact ht
 simp[run_sliceAt_slice,ht',Instr.slice,run_underlying ht,Instr.sliceBounds,Instr.sliceBound,asIntOf,h0,h1,sizeOf,typeInfo,hi,hsz]
theorem RdI.drop {w:World}{A:Option Addr}{xs:List Int}{c lo:Nat}(h:RdI w A xs)(h1:lo<=xs.length)(h2:xs.length<=c) : RdI w (if c=lo then A else A.map (·.add (lo*1))) (xs.drop lo):=by
 by_cases hc:c=lo
 ·left
  exact List.drop_of_length_le (by omega)
 ·rw[if_neg hc]
  rcases h with rfl | ⟨b,off,rfl,hb,hcc⟩
  ·left;simp
  ·refine .inr ⟨b,off+lo,by simp[Addr.add],hb,fun j x hj=>?_⟩
   rw[List.getElem?_drop] at hj;have:=hcc (lo+j) x hj
   rwa [<-Nat.add_assoc] at this
theorem Ints.drop {xs:List Int}(h:Ints xs)(n:Nat) : Ints (xs.drop n):=fun x hx=>h x (List.mem_of_mem_drop hx)
end
section
section
variable {P:Program} {ops:Array Oper} {Q:Exit->Act->World->Prop}
theorem Zi (rem:List (Nat×Option Tmp))(R:World->Prop)(V:Nat->Value->World->Prop)(Stab:World->World->Prop){listed0:Array Bool}(listed1:Array Bool)(hok:YE ops listed0 listed1 rem=true)
  (stab:∀ j v w w',V j v w->Stab w w'->V j v w')
  {a0:Act}
  (step:∀ p∈rem,∀ u w,R w->(∀ j∈Z9 ops rem p.1,V j (u j) w)->∀ K:Act->World->Prop,(∀ v w',V p.1 v w'->R w'->Stab w w'->K ((Zc a0 rem u).put p.2 v) w')->wpOp P ops Q p.1 K (Zc a0 rem u) w)
  (n:Nat) (done:∀ u w,R w->(∀ p∈rem,V p.1 (u p.1) w)->wpAny P .any ops Q n listed1 (Zc a0 rem u) w) {w0:World} (hR:R w0) :
  wpAny P .any ops Q (rem.length+n) listed0 a0 w0 :=
 Yv rem R V Stab listed1 hok stab step n done hR
end
end
section
open Go
theorem YG (a b:Nat)(ha:a<9223372036854775808)(hb:b<9223372036854775808) : bits .and .i64 (a:Int) (b:Int)=((a &&& b:Nat):Int):=by
 have h1:BitVec.ofInt 64 (a:Int)=BitVec.ofNat 64 a:=BitVec.ofInt_natCast ..;have h2:BitVec.ofInt 64 (b:Int)=BitVec.ofNat 64 b:=BitVec.ofInt_natCast ..;show IntKind.i64.wrap ((BitVec.ofInt 64 (a:Int) &&& BitVec.ofInt 64 (b:Int)).toNat:Int)=_;rw[h1,h2,BitVec.toNat_and,BitVec.toNat_ofNat,BitVec.toNat_ofNat,Nat.mod_eq_of_lt (by omega),Nat.mod_eq_of_lt (by omega)];have:=Nat.and_le_left (n:=a) (m:=b);exact IntWalk.i64_in _ (by omega)
end
section
def pk (v p:Int) : Int:=v*4294967296+(p+1)
def plc (p:Int) : Int:=if p<0\/2147483646<p then -1 else p
theorem Wg (p:Int) : -1<=plc p/\plc p<=2147483646:=by unfold plc;split<;>omega
theorem Y9 {x:Int}(h0:0<=x)(h1:x<9223372036854775808) : bits .and .i64 x 1073741823=x%1073741824:=by
 obtain⟨n,rfl⟩:=Int.eq_ofNat_of_zero_le h0;have:=YG n 1073741823 (by omega) (by omega);rw[show ((1073741823:Nat):Int)=1073741823 from rfl] at this;rw[this,show (1073741823:Nat)=2^30-1 from rfl,Nat.and_two_pow_sub_one_eq_mod];omega
theorem WX {x:Int}(h0:0<=x)(h1:x<9223372036854775808) : bits .and .i64 x 4294967295=x%4294967296:=by
 obtain⟨n,rfl⟩:=Int.eq_ofNat_of_zero_le h0;have:=YG n 4294967295 (by omega) (by omega);rw[show ((4294967295:Nat):Int)=4294967295 from rfl] at this;rw[this,show (4294967295:Nat)=2^32-1 from rfl,Nat.and_two_pow_sub_one_eq_mod];omega
theorem Xc (v p:Int)(w:World)(hv:0<=v/\v<1073741824)(hp:-1<=p/\p<=4294967294) :
  Calls Try.prog 44 #[.int .i64 (pk v p)] w fun e w'=>e=.returned (.tuple #[.int .i64 v,.int .i64 p])/\w=w':=by
 have b0:0<=pk v p/\pk v p<9223372036854775808:=by unfold pk;omega
 have e1:pk v p / 4294967296=v:=by unfold pk;omega
 have e2:bits .and .i64 v 1073741823=v:=by rw[Y9 hv.1 (by omega)];omega
 have e3:bits .and .i64 (pk v p) 4294967295=p+1:=by rw[WX b0.1 b0.2];unfold pk;omega
 have e4:IntKind.i64.wrap (p+1-1)=p:=by rw[show p+1-1=p by omega];exact IntWalk.i64_in _ (by omega)
 have e5:p+1-1=p:=by omega
 have e6:IntKind.i64.wrap p=p:=IntWalk.i64_in _ (by omega);generalize pk v p=x at *;go_enter Try.func44,Try.ntmps44;go_wp2_with (fail);go_ret2;exact⟨rfl,rfl⟩
theorem Xd (v p:Int)(w:World)(hv:0<=v/\v<=1073741824) :
  Calls Try.prog 28 #[.int .i64 v,.int .i64 p] w fun e w'=>e=.returned (.int .i64 (pk (v%1073741824) (plc p)))/\w=w':=by
 have e1:bits .and .i64 v 1073741823=v%1073741824:=Y9 hv.1 (by omega);have r:=Wg p;have m0:0<=v%1073741824/\v%1073741824<1073741824:=by omega
 generalize v%1073741824=m at *
 by_cases h1:p<0
 ·have hq:plc p=-1:=by unfold plc;rw[if_pos (.inl h1)]
  rw[hq];clear r hq;go_enter Try.func28,Try.ntmps28;go_wp2_with (fail);go_ret;refine⟨?_,rfl⟩;show Ending.returned (Value.int .i64 _)=_;refine congrArg (fun k=>Ending.returned (Value.int .i64 k)) ?_;unfold pk;omega
 ·by_cases h2:2147483646<p
  ·have hq:plc p=-1:=by unfold plc;rw[if_pos (.inr h2)]
   rw[hq];clear r hq;go_enter Try.func28,Try.ntmps28;go_wp2_with (fail);go_ret;refine⟨?_,rfl⟩;show Ending.returned (Value.int .i64 _)=_;refine congrArg (fun k=>Ending.returned (Value.int .i64 k)) ?_;unfold pk;omega
  ·have hq:plc p=p:=by unfold plc;rw[if_neg (by omega)]
   rw[hq];clear r hq;have w1:IntKind.i64.wrap (m*4294967296+p)=m*4294967296+p:=IntWalk.i64_in _ (by omega);have w2:IntKind.i64.wrap (m*4294967296+p+1)=m*4294967296+p+1:=IntWalk.i64_in _ (by omega);go_enter Try.func28,Try.ntmps28;go_wp2_with (fail);go_ret;refine⟨?_,rfl⟩;show Ending.returned (Value.int .i64 _)=_;refine congrArg (fun k=>Ending.returned (Value.int .i64 k)) ?_;unfold pk;omega
theorem Qi (v p q:Int)(w:World)(hv:0<=v/\v<1073741824)(hp:-1<=p/\p<=4294967294) :
  Calls Try.prog 72 #[.int .i64 (pk v p),.int .i64 q] w fun e w'=>e=.returned (.int .i64 (pk ((v+1)%1073741824) (plc q)))/\w=w':=by
 have UN:=Hd (Xc v p w hv hp);have PA:=Hd (Xd (v+1) q w (by omega));generalize pk v p=x at *;generalize pk ((v+1)%1073741824) (plc q)=y at *;go_enter Try.func72,Try.ntmps72;go_wp2_with (fail);refine UN.out.mono ?_;rintro e w1 ⟨rfl,rfl⟩;go_wp2_with (fail);refine PA.out.mono ?_;rintro e w2 ⟨rfl,rfl⟩;go_wp2_with (fail);go_ret;exact⟨rfl,rfl⟩
def ver (x:Int) : Int:=x / 4294967296
def pla (x:Int) : Int:=x%4294967296-1
def Zl (x:Int) : Prop:=0<=x/\x<4611686018427387904
theorem Qd {x:Int}(h:Zl x) : pk (ver x) (pla x)=x/\(0<=ver x/\ver x<1073741824)/\(-1<=pla x/\pla x<=4294967294):=by
 obtain⟨h0,h1⟩:=h;unfold pk ver pla;omega
theorem Qj {v p:Int}(hp:-1<=p/\p<=2147483646) : pla (pk v p)=p:=by unfold pla pk;omega
def upP (x q:Int) : Int:=pk ((ver x+1)%1073741824) (plc q)
theorem ZC (x q:Int) : Zl (upP x q):=by
 have:=Wg q;unfold upP pk Zl;omega
theorem Qk (x q:Int) : pla (upP x q)=plc q:=Qj (Wg q)
theorem Zn (x:Int)(w:World)(h:Zl x) :
  Calls Try.prog 44 #[.int .i64 x] w fun e w'=>e=.returned (.tuple #[.int .i64 (ver x),.int .i64 (pla x)])/\Ext w w':=by
 obtain⟨h1,h2,h3⟩:=Qd h;have:=Xc (ver x) (pla x) w h2 h3;rw[h1] at this;exact this.mono fun e w' ⟨q1,q2⟩=>⟨q1,q2 ▸ Ext.rf w⟩
theorem YH (x q:Int)(w:World)(h:Zl x) :
  Calls Try.prog 72 #[.int .i64 x,.int .i64 q] w fun e w'=>e=.returned (.int .i64 (upP x q))/\Ext w w':=by
 obtain⟨h1,h2,h3⟩:=Qd h;have:=Qi (ver x) (pla x) q w h2 h3;rw[h1] at this;exact this.mono fun e w' ⟨q1,q2⟩=>⟨q1,q2 ▸ Ext.rf w⟩
theorem OwI.full {w:World}{base g:Nat}{xs:List Int}(h:OwI w base (some ⟨g,0,none⟩) xs.length xs) : Blk w g 3 (List.toArray (ZJ xs))/\base<=g:=by
 rcases h.cases with⟨h1,_⟩ | ⟨g',cur,h1,h2,h3,h4,h5,h6,h7⟩
 ·cases h1
 ·obtain rfl:g=g':=by simpa using h1
  refine⟨?_,h2⟩;have hc:cur=List.toArray (ZJ xs):=by
   apply Array.ext';rw[Nat.mul_one,List.take_of_length_le (by rw[Array.length_toList,h6];omega)] at h7;rw[h7]
   rfl
  rw[<-hc];exact h3
theorem V7 (n:Nat)(w:World)(hn:n<=1048576) :
  Calls Try.prog 5 #[.int .i64 (n:Int)] w fun e w'=>∃ gm,e=.returned (.tuple #[.pointer (some ⟨gm,0,none⟩),.int .i64 0])/\∃ gc,MemB w' gm gc (List.replicate n 0)/\w.heap.size<=gm/\w.heap.size<=gc/\Ext w w':=by
 have e1:¬((n:Int)<0):=by omega
 have e2:¬((n:Int)>1048576):=by omega
 go_enter Try.func5,Try.ntmps5;go_wp2_with (refine Y5 _ rfl _ _ rfl w.heap.size (n:Int) (n:Int) n rfl rfl rfl rfl (by omega) (Nat.le_refl _) ?_;rintro w1 o1 g1);obtain⟨b1,z1⟩:=OwI.full (xs:=List.replicate n 0) (by rw[List.length_replicate];exact o1);have z2:w.heap.size<=w1.heap.size:=g1.size;exact bodyPost_ret (v:=.tuple #[.pointer (some ⟨w1.heap.size,0,none⟩),.int .i64 0]) (by simp[results,Try.results5,go_sem]) rfl ⟨w1.heap.size,rfl,w.heap.size,⟨⟨0,0,0,0,0,false,by rw[List.length_replicate];exact .new rfl⟩,b1.ext ((Ext.rf w1).alloc _)⟩,z2,z1,(Ext.grownNone (Ext.rf w) g1).alloc _⟩
open Go.Deep
section
variable {w w':World} {base:Nat} {us:List Value} {rows:List (List Int)}
end
theorem Zf {W W':World}(x:Ext W W'){b o:Nat}{v:Value}(hb:b<W.heap.size)(hc:W.cell? ⟨b,o,none⟩=some v) : W'.cell? ⟨b,o,none⟩=some v:=(x.cells.1 _ o hb).trans hc
section
variable {P:Program} {ops:Array Oper} {i:Nat} {op:Op} {t:TypeId} {d:Option Tmp} {a:Act} {w w':World} {K:Act->World->Prop} {Q:Exit->Act->World->Prop}
end
end
section
structure OwL where
 A:Option Addr
 c:Nat
 xs:List Int
def OwL.v (o:OwL) : Value:=.slice o.A o.xs.length o.c
structure PoolS where
 base:Nat
 n:Nat
 nv:List Value
 ows:List OwL
structure PoolR (w:World)(bs gm gc gp gn go:Nat)(P:PoolS) : Prop where
 p:Blk w gp 66 #[.pointer (some ⟨gm,0,none⟩),.int .i64 (P.base:Int),.slice (some ⟨gn,0,none⟩) P.n P.n,.slice (some ⟨go,0,none⟩) P.ows.length P.ows.length]
 nd:Blk w gn 45 (List.toArray P.nv)
 ln:P.nv.length=P.n*2
 ow:Blk w go 22 (List.toArray (P.ows.map OwL.v))
 oi:∀ (k:Nat) (o:OwL),P.ows[k]?=some o->OwI w bs o.A o.c o.xs/\bl o.A≠some gc
 dj:∀ (i j:Nat) (o q:OwL),P.ows[i]?=some o->P.ows[j]?=some q->i≠j->∀ b,bl o.A=some b->bl q.A≠some b
section
variable {w w':World} {bs gm gc gp gn go:Nat} {P:PoolS}
theorem PoolR.ext (h:PoolR w bs gm gc gp gn go P)(x:Ext w w') : PoolR w' bs gm gc gp gn go P :=
 ⟨h.p.ext x,h.nd.ext x,h.ln,h.ow.ext x,fun k o ho=>⟨(h.oi k o ho).1.ext x,(h.oi k o ho).2⟩,h.dj⟩
theorem PoolR.mod {S:Nat->Prop}(h:PoolR w bs gm gc gp gn go P)(hm:Mod S w w')(h1:¬S gp)(h2:¬S gn)(h3:¬S go)(h4:∀ (k:Nat) (o:OwL),P.ows[k]?=some o->∀ b,bl o.A=some b->¬S b) : PoolR w' bs gm gc gp gn go P :=
 ⟨h.p.mod hm h1,h.nd.mod hm h2,h.ln,h.ow.mod hm h3,fun k o ho=>⟨(h.oi k o ho).1.keep fun b hb=>hm.block b ((h.oi k o ho).1.lt b hb).2 (h4 k o ho b hb),(h.oi k o ho).2⟩,h.dj⟩
theorem PoolR.own (h:PoolR w bs gm gc gp gn go P)(hgc:gc<w.heap.size){k:Nat}{o:OwL}(hk:P.ows[k]?=some o){w1:World}(hm:Mod (fun b=>bl o.A=some b) w w1){A':Option Addr}{c':Nat}{xs':List Int}(hi:OwI w1 bs A' c' xs')(hA:bl A'=bl o.A\/bl A'=none\/∃ g,bl A'=some g/\w.heap.size<=g) :
  PoolR (w1.setCell ⟨go,k,none⟩ (.slice A' xs'.length c')) bs gm gc gp gn go { P with ows:=P.ows.set k ⟨A',c',xs'⟩ }/\Mod (fun b=>bl o.A=some b\/b=go) w (w1.setCell ⟨go,k,none⟩ (.slice A' xs'.length c')):=by
 have ho:=h.oi k o hk;have hlt:k<P.ows.length:=(List.getElem?_eq_some_iff.1 hk).1;have np:¬bl o.A=some gp:=fun e=>ho.1.ne h.p (by decide) gp e rfl
 have nn:¬bl o.A=some gn:=fun e=>ho.1.ne h.nd (by decide) gn e rfl
 have no:¬bl o.A=some go:=fun e=>ho.1.ne h.ow (by decide) go e rfl
 have p1:=h.p.mod hm np;have d1:=h.nd.mod hm nn;have w1':=h.ow.mod hm no;have e1:gp≠go:=p1.ne w1' (by decide);have e2:gn≠go:=d1.ne w1' (by decide);have hget:∀ (j:Nat) (q:OwL),(P.ows.set k ⟨A',c',xs'⟩)[j]?=some q->(j=k/\q=⟨A',c',xs'⟩)\/(j≠k/\P.ows[j]?=some q):=fun j q hq=>by
  by_cases hkj:k=j
  ·subst hkj
   rw[List.getElem?_set_self hlt] at hq;exact .inl ⟨rfl,(Option.some.inj hq).symm⟩
  ·rw[List.getElem?_set_ne hkj] at hq
   exact .inr ⟨fun e=>hkj e.symm,hq⟩
 refine⟨⟨?_,d1.far (p:=⟨go,k,none⟩) e2 _,h.ln,?_,fun j q hq=>?_,fun i j q r hq hr hij b hb hb2=>?_⟩,?_⟩
 ·simp only[List.length_set]
  exact p1.far (p:=⟨go,k,none⟩) e1 _
 ·have:=w1'.set k (.slice A' xs'.length c')
  rw[show (List.toArray (P.ows.map OwL.v)).setIfInBounds k (.slice A' xs'.length c')=List.toArray ((P.ows.set k ⟨A',c',xs'⟩).map OwL.v) by simp[List.map_set,OwL.v]] at this;exact this
 ·rcases hget j q hq with⟨rfl,rfl⟩ | ⟨hj,hq'⟩
  ·refine⟨hi.far w1' (by decide) _ _,?_⟩
   rcases hA with e | e | ⟨g,e,hg⟩
   ·simp only[e];exact ho.2
   ·simp only[e];exact fun e=>by cases e
   ·simp only[e];intro e3;injection e3 with e3;omega
  ·have hq2:=h.oi j q hq'
   exact⟨(hq2.1.mod hm fun b hb hb2=>h.dj j k q o hq' hk hj b hb hb2).far w1' (by decide) _ _,hq2.2⟩
 ·have old:∀ (j:Nat) (q:OwL),P.ows[j]?=some q->∀ b,bl q.A=some b->b<w.heap.size:=fun j q hq b hb=>((h.oi j q hq).1.lt b hb).2
  rcases hget i q hq with⟨rfl,rfl⟩ | ⟨hi',hq'⟩
  ·rcases hget j r hr with⟨rfl,rfl⟩ | ⟨hj',hr'⟩
   ·exact hij rfl
   ·simp only at hb
    rcases hA with e | e | ⟨g,e,hg⟩
    ·rw[e] at hb;exact h.dj i j o r hk hr' hij b hb hb2
    ·rw[e] at hb;cases hb
    ·rw[e] at hb;injection hb with hb;have:=old j r hr' b hb2;omega
  ·rcases hget j r hr with⟨rfl,rfl⟩ | ⟨hj',hr'⟩
   ·simp only at hb2
    rcases hA with e | e | ⟨g,e,hg⟩
    ·rw[e] at hb2;exact h.dj i j q o hq' hk hij b hb hb2
    ·rw[e] at hb2;cases hb2
    ·rw[e] at hb2;injection hb2 with hb2;have:=old i q hq' b hb;omega
   ·exact h.dj i j q r hq' hr' hij b hb hb2
 ·exact Mod.set (p:=⟨go,k,none⟩) (hm.mono fun b _ hb=>.inl hb) (.inl (.inr rfl)) _
end
structure PAct where
 wk:Nat
 give:Bool
 slot:Int
 ph:Int
 top:Int
 nx:Int
def PAct.cells (a:PAct)(gp:Nat) : Array Value:=#[.pointer (some ⟨gp,0,none⟩),.int .i64 (a.wk:Int),.bool a.give,.int .i64 a.slot,.int .i64 a.ph,.int .i64 a.top,.int .i64 a.nx]
def ZO (w:World)(ga gp:Nat)(a:PAct) : Prop:=Blk w ga 77 (a.cells gp)
theorem Y1 {l:List OwL}{k:Nat}{o:OwL}(h:l[k]?=some o) : (List.toArray (l.map OwL.v))[k]?=some (.slice o.A o.xs.length o.c):=by simp[h,OwL.v]
theorem Xe (bs gm gc gp gn go ga:Nat)(P:PoolS)(a:PAct)(o:OwL)(w:World)(H:PoolR w bs gm gc gp gn go P)(HA:ZO w ga gp a)(ho:P.ows[a.wk]?=some o)(hno:(a.give=true/\2<=o.xs.length)\/(a.give=false/\o.xs=[]))(hW:P.ows.length<=100)(hl:o.xs.length<=1000) :
  Calls Try.prog 69 #[.pointer (some ⟨ga,0,none⟩)] w fun e w'=>e=.returned (.bool false)/\Ext w w':=by
 obtain⟨wk,give,slot,ph,top,nx⟩:=a;simp only at ho hno;unfold ZO at HA;have a0:w.cell? ⟨ga,0,none⟩=some (.pointer (some ⟨gp,0,none⟩)):=HA.cell 0;have a1:w.cell? ⟨ga,1,none⟩=some (.int .i64 (wk:Int)):=HA.cell 1;have a2:w.cell? ⟨ga,2,none⟩=some (.bool give):=HA.cell 2;have p3:w.cell? ⟨gp,3,none⟩=some (.slice (some ⟨go,0,none⟩) P.ows.length P.ows.length):=H.p.cell 3;have hlt:wk<P.ows.length:=(List.getElem?_eq_some_iff.1 ho).1;have o0:w.cell? ⟨go,wk,none⟩=some (.slice o.A o.xs.length o.c):=(H.ow.cell wk).trans (Y1 ho);have i0:(0:Int)<=(wk:Int):=by omega
 have i1:(wk:Int)<(P.ows.length:Int):=by omega
 have za:=HA.lt;have zo:=H.ow.lt;obtain⟨A,c,xs⟩:=o;simp only at o0 hno hl;clear HA H ho;rcases hno with⟨rfl,h2⟩ | ⟨rfl,rfl⟩
 ·have e1:¬((xs.length:Int)<2):=by omega
  go_enter Try.func69,Try.ntmps69;go_wp2_with (go_quiet (fail));go_ret;exact⟨rfl,XI⟩
 ·go_enter Try.func69,Try.ntmps69
  go_wp2_with (go_quiet (fail));go_ret;exact⟨rfl,XI⟩
theorem OwI.init' {w:World}{base c:Nat}{A:Option Addr}{p:List Int}{x:Int}(h:OwI w base A c (p++[x])) : OwI w base A c p:=by
 rcases h.cases with⟨_,_,h3⟩ | ⟨g,cur,rfl,h2,h3,h4,h5,h6,h7⟩
 ·simp at h3
 ·rw[List.length_append,List.length_singleton] at h4 h7
  refine .mk h2 h3 (by omega) h5 h6 ?_;have:=congrArg (List.take p.length) h7;rw[List.take_take,List.map_append] at this;rw[Nat.mul_one];rw[Nat.mul_one,Nat.min_eq_left (by omega)] at this;exact this.trans (by rw[List.take_append_of_le_length (by simp),List.take_of_length_le (by simp)])
def PS (ga go:Nat)(o:OwL)(b:Nat) : Prop:=b=ga\/bl o.A=some b\/b=go
theorem Wh (bs gm gc gp gn go ga:Nat)(P:PoolS)(a:PAct)(o:OwL)(l:List Int)(x:Int)(w:World)(H:PoolR w bs gm gc gp gn go P)(hgc:gc<w.heap.size)(HA:ZO w ga gp a)(ho:P.ows[a.wk]?=some o)(hg:a.give=false)(hx:o.xs=l++[x])(hW:P.ows.length<=100)(hl:o.xs.length<=1000) :
  Calls Try.prog 69 #[.pointer (some ⟨ga,0,none⟩)] w fun e w'=>e=.returned (.bool true)/\PoolR w' bs gm gc gp gn go { P with ows:=P.ows.set a.wk ⟨o.A,o.c,l⟩ }/\ZO w' ga gp { a with slot:=x }/\Mod (PS ga go o) w w':=by
 obtain⟨wk,give,slot,ph,top,nx⟩:=a;obtain⟨A,c,xs⟩:=o;simp only at ho hx hl hg;subst hx hg;unfold ZO at HA ⊢;have a0:w.cell? ⟨ga,0,none⟩=some (.pointer (some ⟨gp,0,none⟩)):=HA.cell 0;have a1:w.cell? ⟨ga,1,none⟩=some (.int .i64 (wk:Int)):=HA.cell 1;have a2:w.cell? ⟨ga,2,none⟩=some (.bool false):=HA.cell 2;have a3:w.cell? ⟨ga,3,none⟩=some (.int .i64 slot):=HA.cell 3;have f3:=HA.free 3;have p3:w.cell? ⟨gp,3,none⟩=some (.slice (some ⟨go,0,none⟩) P.ows.length P.ows.length):=H.p.cell 3;have hlt:wk<P.ows.length:=(List.getElem?_eq_some_iff.1 ho).1;have o0:w.cell? ⟨go,wk,none⟩=some (.slice A (l++[x]).length c):=(H.ow.cell wk).trans (Y1 ho);have of:=H.ow.free wk;have i0:(0:Int)<=(wk:Int):=by omega
 have i1:(wk:Int)<(P.ows.length:Int):=by omega
 have oi:=(H.oi wk _ ho).1;simp only at oi;obtain⟨g,hA⟩:∃ g,A=some ⟨g,0,none⟩:=by
  rcases oi.cases with⟨_,_,h3⟩ | ⟨g,_,h,_⟩
  ·simp at h3
  ·exact⟨g,h⟩
 subst hA;have x0:w.cell? ⟨g,l.length,none⟩=some (.int .i64 x):=by
  obtain⟨y,q1,_,_,q4,_⟩:=oi.cell (k:=l.length) (by simp);have:(l++[x])[l.length]?=some y:=q4.out;simp at this;subst this;exact q1
 have hll:(l++[x]).length=l.length+1:=by simp
 rw[hll] at o0 hl;have z0:w.heap.size=w.heap.size:=rfl;have ngp:gp≠ga:=H.p.ne HA (by decide);have ngn:gn≠ga:=H.nd.ne HA (by decide);have ngo:go≠ga:=H.ow.ne HA (by decide);have ngo2:ga≠go:=fun h=>ngo h.symm
 have nga:g≠ga:=fun h=>oi.ne HA (by decide) g rfl h
 have nga2:ga≠g:=fun h=>nga h.symm
 have nog:go≠g:=fun h=>oi.ne H.ow (by decide) g rfl h.symm
 have hkc:l.length+1<=c:=by have:=oi.le.1;rw[hll] at this;exact this
 have FIN:Hid (∀ W:World,Ext w W->PoolR ((W.setCell ⟨ga,3,none⟩ (.int .i64 x)).setCell ⟨go,wk,none⟩ (.slice (some ⟨g,0,none⟩) l.length c)) bs gm gc gp gn go { P with ows:=P.ows.set wk ⟨some ⟨g,0,none⟩,c,l⟩ } /\
   Blk ((W.setCell ⟨ga,3,none⟩ (.int .i64 x)).setCell ⟨go,wk,none⟩ (.slice (some ⟨g,0,none⟩) l.length c)) ga 77 (PAct.cells ⟨wk,false,x,ph,top,nx⟩ gp)/\Mod (PS ga go ⟨some ⟨g,0,none⟩,c,l++[x]⟩) w ((W.setCell ⟨ga,3,none⟩ (.int .i64 x)).setCell ⟨go,wk,none⟩ (.slice (some ⟨g,0,none⟩) l.length c))):=Hd fun W X=>by
  have M1:Mod (fun b=>b=ga) W (W.setCell ⟨ga,3,none⟩ (.int .i64 x)):=Mod.set (S:=fun b=>b=ga) (p:=⟨ga,3,none⟩) (Mod.rf W) (.inl rfl) _;have HW:=H.ext X;have H1:=HW.mod M1 ngp ngn ngo (fun k q hq b hb e=>(HW.oi k q hq).1.ne (HA.ext X) (by decide) b hb e);obtain⟨q1,q2⟩:=H1.own (by have:=X.size;simp;omega) ho (Mod.rf _) (H1.oi wk _ ho).1.init' (.inl rfl);refine⟨q1,?_,?_⟩
  ·exact((HA.ext X).set 3 (.int .i64 x)).far (p:=⟨go,wk,none⟩) ngo2 _
  ·exact(Mod.of_ext X).tr ((M1.mono fun b _ hb=>.inl hb).tr' q2 fun b _ hb=>by
    rcases hb with h | h
    ·exact .inr (.inl h)
    ·exact .inr (.inr h))
 clear HA H ho oi;have e1:(0:Int)<((l.length+1:Nat):Int):=by omega
 have e2:((l.length+1:Nat):Int)>0:=by omega
 have e3:IntKind.i64.wrap (((l.length+1:Nat):Int)-1)=(l.length:Int):=by rw[show ((l.length+1:Nat):Int)-1=(l.length:Int) by omega];exact IntWalk.i64_in _ (by omega)
 obtain⟨k,hk⟩:∃ k,k=l.length:=⟨_,rfl⟩;rw[<-hk] at FIN x0 hl o0 e1 e2 e3 hkc;have e4:(k:Int)<=(c:Int):=by omega
 have e5:(0:Int)<=(k:Int):=by omega
 have e6:(k:Int)<((k+1:Nat):Int):=by omega
 replace hk:=Hd hk;go_enter Try.func69,Try.ntmps69;go_wp2_with (go_quiet (fail));go_ret;obtain⟨q1,q2,q3⟩:=FIN.out (w.drewN nq) ((Ext.rf w).drewN nq);exact⟨rfl,q1,q2,q3⟩
theorem Wi (bs gm gc gp gn go ga:Nat)(P:PoolS)(a:PAct)(o:OwL)(w:World)(H:PoolR w bs gm gc gp gn go P)(hgc:gc<w.heap.size)(hbs:bs<=w.heap.size)(HA:ZO w ga gp a)(ho:P.ows[a.wk]?=some o)(hg:a.give=true)(hx:o.xs.length<2)(hW:P.ows.length<=100) :
  Calls Try.prog 69 #[.pointer (some ⟨ga,0,none⟩)] w fun e w'=>e=.returned (.bool true)/\(∃ A' c',PoolR w' bs gm gc gp gn go { P with ows:=P.ows.set a.wk ⟨A',c',o.xs++[a.slot]⟩ }/\(bl A'=bl o.A\/∃ g,bl A'=some g/\w.heap.size<=g))/\ZO w' ga gp a/\Mod (PS ga go o) w w':=by
 obtain⟨wk,give,slot,ph,top,nx⟩:=a;obtain⟨A,c,xs⟩:=o;simp only at ho hx hg ⊢;subst hg;unfold ZO at HA ⊢;have a0:w.cell? ⟨ga,0,none⟩=some (.pointer (some ⟨gp,0,none⟩)):=HA.cell 0;have a1:w.cell? ⟨ga,1,none⟩=some (.int .i64 (wk:Int)):=HA.cell 1;have a2:w.cell? ⟨ga,2,none⟩=some (.bool true):=HA.cell 2;have a3:w.cell? ⟨ga,3,none⟩=some (.int .i64 slot):=HA.cell 3;have p3:w.cell? ⟨gp,3,none⟩=some (.slice (some ⟨go,0,none⟩) P.ows.length P.ows.length):=H.p.cell 3;have hlt:wk<P.ows.length:=(List.getElem?_eq_some_iff.1 ho).1;have o0:w.cell? ⟨go,wk,none⟩=some (.slice A xs.length c):=(H.ow.cell wk).trans (Y1 ho);have i0:(0:Int)<=(wk:Int):=by omega
 have i1:(wk:Int)<(P.ows.length:Int):=by omega
 have e1:(xs.length:Int)<2:=by omega
 have za:=HA.lt;have zo:=H.ow.lt;have ngo:go≠ga:=H.ow.ne HA (by decide);have ngo2:ga≠go:=fun h=>ngo h.symm
 have oi:=Hd (H.oi wk _ ho).1;have FIN:Hid (∀ (W w4:World) (A':Option Addr) (c':Nat),Ext w W->OwI w4 bs A' c' (xs++[slot])->W.grownBy w4 (bl A)->(bl A'=bl A\/∃ g,bl A'=some g/\W.heap.size<=g) ->
   w4.cell? ⟨go,wk,none⟩=some (.slice A xs.length c)/\w4.frozen? ⟨go,wk,none⟩=false /\
   Hid (PoolR (w4.setCell ⟨go,wk,none⟩ (.slice A' (xs.length+1) c')) bs gm gc gp gn go { P with ows:=P.ows.set wk ⟨A',c',xs++[slot]⟩ }/\(bl A'=bl A\/∃ g,bl A'=some g/\w.heap.size<=g) /\
   Blk (w4.setCell ⟨go,wk,none⟩ (.slice A' (xs.length+1) c')) ga 77 (PAct.cells ⟨wk,true,slot,ph,top,nx⟩ gp)/\Mod (PS ga go ⟨A,c,xs⟩) w (w4.setCell ⟨go,wk,none⟩ (.slice A' (xs.length+1) c')))):=Hd fun W w4 A' c' X h1 h2 h3=>by
  have HW:=H.ext X;have hm:Mod (fun b=>bl A=some b) W w4:=Mod.grown h2 fun g hg=>hg
  have no:¬bl A=some go:=fun e=>(HW.oi wk _ ho).1.ne HW.ow (by decide) go e rfl
  have na:¬bl A=some ga:=fun e=>(HW.oi wk _ ho).1.ne (HA.ext X) (by decide) ga e rfl
  have W4:=HW.ow.mod hm no;obtain⟨q1,q2⟩:=HW.own (by have:=X.size;omega) ho hm h1 (h3.imp id .inr);have hlen:(xs++[slot]).length=xs.length+1:=by simp
  rw[hlen] at q1 q2;refine⟨(W4.cell wk).trans (Y1 ho),W4.free wk,Hd ⟨q1,?_,?_,?_⟩⟩
  ·rcases h3 with h | ⟨g,h,hg⟩
   ·exact .inl h
   ·exact .inr ⟨g,h,by have:=X.size;omega⟩
  ·exact((HA.ext X).mod hm na).far (p:=⟨go,wk,none⟩) ngo2 _
  ·exact(Mod.of_ext X).tr (q2.mono fun b _ hb=>by
    rcases hb with h | h
    ·exact .inr (.inl h)
    ·exact .inr (.inr h))
 clear HA H ho;go_enter Try.func69,Try.ntmps69;go_upto_region 4 with(go_quiet (fail));have zo1:go<(w.drewN nq).heap.size:=zo;have za1:ga<(w.drewN nq).heap.size:=za;have X0:Ext w (w.drewN nq):=(Ext.rf w).drewN nq;have o1:=Zf X0 zo o0;have b3:=Zf X0 za a3;generalize hw1:w.drewN nq=w1 at *;refine wp_region_any (by kernel_rfl) ?_
 change wpAny _ _ _ _ _ _ _ (World.drew _)
 refine Za (i:=0) (op:=Op.move (Operand.tmp 3)) (t:=102) (d:=some 29) (v:=_) rfl (by decide +kernel) (fun _ _ _ h=>h) (by intro _;unfold Zb;go_simp;try with_reducible rfl) ?_
 try simp only[lay]
 refine Za (i:=1) (op:=Op.move (Operand.tmp 3)) (t:=102) (d:=some 30) (v:=_) rfl (by decide +kernel) (fun _ _ _ h=>h) (by intro _;unfold Zb;go_simp;try with_reducible rfl) ?_
 try simp only[lay]
 refine Za (i:=2) (op:=Op.nilCheck (Operand.tmp 30)) (t:=0) (d:=some 31) (v:=_) rfl (by decide +kernel) (fun _ _ _ h=>h) (by intro _;unfold Zb;go_simp;try with_reducible rfl) ?_
 try simp only[lay]
 refine Za (i:=4) (op:=Op.move (Operand.tmp 0)) (t:=39) (d:=some 33) (v:=_) rfl (by decide +kernel) (fun _ _ _ h=>h) (by intro _;unfold Zb;go_simp;try with_reducible rfl) ?_
 try simp only[lay]
 refine Za (i:=5) (op:=Op.nilCheck (Operand.tmp 33)) (t:=0) (d:=some 34) (v:=_) rfl (by decide +kernel) (fun _ _ _ h=>h) (by intro _;unfold Zb;go_simp;try with_reducible rfl) ?_
 try simp only[lay]
 refine Za (i:=6) (op:=Op.fieldAddr 77 (Operand.tmp 34) 3) (t:=0) (d:=some 35) (v:=_) rfl (by decide +kernel) (fun _ _ _ h=>h) (by intro _;unfold Zb;go_simp;try with_reducible rfl) ?_
 try simp only[lay]
 refine Zi (n:=3) [(3,some 32),(7,some 36),(8,some 37)] (Ext w1) (VF (fun | 3=>some (.slice A xs.length c) | 7=>some (.int .i64 slot) | _=>none) (fun i v W=>(i=8->∃ z,v=.slice (some ⟨z,0,none⟩) 1 1/\Blk W z 3 #[.int .i64 slot]))) Ext #[true,true,true,true,true,true,true,true,true,false,false,false] (by decide +kernel) (VF.stab ?_) ?_ ?_ (by first | exact(Ext.rf _).drew | exact Ext.rf _)
 ·intro j v W W' _ gz hx
  have g0:=gz;exact fun h=>(g0 h).imp fun z hz=>⟨hz.1,hz.2.ext hx⟩
 ·intro pS hpm uS wS hRW hD K hK
  simp only[List.mem_cons,List.not_mem_nil,or_false] at hpm;rcases hpm with rfl | rfl | rfl
  ·( have rX:=Zf hRW zo1 o1;exact Ze (T:=22) (x:=Operand.tmp 31) (t:=22) (d:=some 32) rfl (.pointer (some ⟨go,wk,none⟩)) (by kernel_rfl) (.slice A xs.length c) (by go_simp) (hK _ _ (VF.mk rfl) hRW (Ext.rf _)))
  ·( have rX:=Zf hRW za1 b3;exact Ze (T:=3) (x:=Operand.tmp 35) (t:=3) (d:=some 36) rfl (.pointer (some ⟨ga,3,none⟩)) (by kernel_rfl) (.int .i64 slot) (by go_simp) (hK _ _ (VF.mk rfl) hRW (Ext.rf _)))
  ·(have e7:uS 7=.int .i64 slot:=(hD 7 (Zg (by kernel_rfl))).k rfl;exact Zm (op:=Op.buildSlice 22 1 #[(0,Operand.tmp 36)]) (t:=22) (d:=some 37) rfl _ (by simp only[Zc,Act.put,List.setIfInBounds_toArray,List.set_cons_zero,List.set_cons_succ];unfold Zb;(try go_simp);(try simp only[e7]);(try go_simp);(try rfl)) (hK _ _ (VF.mg rfl (fun _=>⟨_,rfl,.new rfl⟩)) (hRW.alloc _) ((Ext.rf _).alloc _)))
 intro u w3 hR3 hV;have h3:=(hV (3,some 32) (by simp)).k rfl;have h7:=(hV (7,some 36) (by simp)).k rfl;obtain⟨qz,h8,qb⟩:=((hV (8,some 37) (by simp)).g rfl) rfl;simp only[Zc,h3,h7,h8];clear hV h3 h7 h8
 try simp only[lay]
 obtain⟨A4,c4,w4,hrun,o4,g4,h4⟩:=XO w3 bs 22 A xs.length c xs [slot] (some ⟨qz,0,none⟩) 1 rfl (oi.out.ext (X0.tr hR3)) (.blk qb rfl) (by simp;omega) (by have:=(X0.tr hR3).size;omega);obtain⟨c4',f4,R4⟩:=FIN.out w3 w4 A4 c4 (X0.tr hR3) o4 g4 h4;have hlen:(xs++[slot]).length=xs.length+1:=by simp
 rw[hlen] at hrun;clear qb o4 g4 h4 FIN;refine Zd 9 (by decide +kernel) (V5 rfl (.slice A xs.length c) (.slice (some ⟨qz,0,none⟩) 1 1) (by kernel_rfl) (by kernel_rfl) _ hrun ?_)
 try simp only[lay]
 refine Za (i:=10) (op:=Op.nilCheck (Operand.tmp 29)) (t:=0) (d:=some 39) (v:=_) rfl (by decide +kernel) (fun _ _ _ h=>h) (by intro _;unfold Zb;go_simp;try with_reducible rfl) ?_
 try simp only[lay]
 refine Zd 11 (by decide +kernel) (ZQ rfl (.pointer (some ⟨go,wk,none⟩)) (.slice A4 (xs.length+1) c4) (by kernel_rfl) (by kernel_rfl) (by go_simp;rfl) ?_);refine wpAny_done (by kernel_rfl) ?_ _;clear hrun;go_simp;go_wp2_with (fail);go_ret;obtain⟨q1,q2,q3,q4⟩:=R4.out;exact⟨rfl,⟨A4,⟨c4,q1⟩,q2⟩,q3,q4⟩
end
section
theorem Yp (bs gm gc gp gn go:Nat)(P:PoolS)(w:World)(H:PoolR w bs gm gc gp gn go P)(s:Int)(hs:-1<=s/\s<=100000)(hb:P.base<=1048576) :
  Calls Try.prog 29 #[.pointer (some ⟨gp,0,none⟩),.int .i64 s] w fun e w'=>e=.returned (.int .i64 ((P.base:Int)+1+s))/\Ext w w':=by
 have p1:w.cell? ⟨gp,1,none⟩=some (.int .i64 (P.base:Int)):=H.p.cell 1;have w1:IntKind.i64.wrap ((P.base:Int)+1)=(P.base:Int)+1:=IntWalk.i64_in _ (by omega);have w2:IntKind.i64.wrap ((P.base:Int)+1+s)=(P.base:Int)+1+s:=IntWalk.i64_in _ (by omega);clear H;go_enter Try.func29,Try.ntmps29;go_wp2_with (fail);go_ret;exact⟨rfl,XI⟩
structure PW (w:World)(bs gm gc gp gn go ga:Nat)(M:List Int)(P:PoolS)(a:PAct) : Prop where
 m:MemB w gm gc M
 p:PoolR w bs gm gc gp gn go P
 a:ZO w ga gp a
section
variable {w w':World} {bs gm gc gp gn go ga:Nat} {M:List Int} {P:PoolS} {a:PAct}
theorem PW.ext (h:PW w bs gm gc gp gn go ga M P a)(x:Ext w w') : PW w' bs gm gc gp gn go ga M P a:=⟨h.m.ext x,h.p.ext x,Blk.ext h.a x⟩
theorem PW.cell (h:PW w bs gm gc gp gn go ga M P a){M':List Int}(hm:MemB w' gm gc M')(hd:Mod (CS gm gc) w w') : PW w' bs gm gc gp gn go ga M' P a:=by
 obtain⟨⟨st,k,c,o,n,d,m1⟩,m2⟩:=h.m;have q:∀ {b:Nat} {t:TypeId} {cs:Array Value},Blk w b t cs->t≠62->t≠3->¬CS gm gc b:=fun hb h1 h2 h=>by
  rcases h with rfl | rfl
  ·exact hb.ne m1 h1 rfl
  ·exact hb.ne m2 h2 rfl
 refine⟨hm,h.p.mod hd (q h.p.p (by decide) (by decide)) (q h.p.nd (by decide) (by decide)) (q h.p.ow (by decide) (by decide)) (fun k o ho b hb hS=>?_),Blk.mod h.a hd (q h.a (by decide) (by decide))⟩;rcases hS with rfl | rfl
 ·exact(h.p.oi k o ho).1.ne m1 (by decide) b hb rfl
 ·exact(h.p.oi k o ho).2 hb
theorem PW.field (h:PW w bs gm gc gp gn go ga M P a)(i:Nat)(v:Value){a':PAct}(ha:(a.cells gp).setIfInBounds i v=a'.cells gp) : PW (w.setCell ⟨ga,i,none⟩ v) bs gm gc gp gn go ga M P a'/\Mod (fun b=>b=ga) w (w.setCell ⟨ga,i,none⟩ v):=by
 have M1:Mod (fun b=>b=ga) w (w.setCell ⟨ga,i,none⟩ v):=Mod.set (S:=fun b=>b=ga) (p:=⟨ga,i,none⟩) (Mod.rf w) (.inl rfl) _;obtain⟨⟨st,k,c,o,n,d,m1⟩,m2⟩:=h.m;refine⟨⟨h.m.mod M1 (m1.ne h.a (by decide)) (m2.ne h.a (by decide)),h.p.mod M1 (h.p.p.ne h.a (by decide)) (h.p.nd.ne h.a (by decide)) (h.p.ow.ne h.a (by decide)) (fun k q hq b hb e=>(h.p.oi k q hq).1.ne h.a (by decide) b hb e),?_⟩,M1⟩;have:=Blk.set h.a i v;rw[ha] at this;exact this
end
def PT (ga gm gc:Nat)(b:Nat) : Prop:=b=ga\/b=gm\/b=gc
theorem Wu (bs gm gc gp gn go ga:Nat)(M:List Int)(P:PoolS)(a:PAct)(w:World)(H:PW w bs gm gc gp gn go ga M P a)(hb:P.base<=1048576)(hg:a.give=true)(ht:Zl a.top)(s:Nat)(hs:a.slot=(s:Int))(hs2:s<=100000)(hi:P.base+1+s<M.length) :
  Calls Try.prog 49 #[.pointer (some ⟨ga,0,none⟩)] w fun e w'=>e=.returned (.tuple #[])/\PW w' bs gm gc gp gn go ga (M.set (P.base+1+s) (pla a.top)) P { a with ph:=2 }/\Mod (PT ga gm gc) w w':=by
 have a0:w.cell? ⟨ga,0,none⟩=some (.pointer (some ⟨gp,0,none⟩)):=Blk.cell H.a 0;have a2:w.cell? ⟨ga,2,none⟩=some (.bool a.give):=Blk.cell H.a 2;have a3:w.cell? ⟨ga,3,none⟩=some (.int .i64 a.slot):=Blk.cell H.a 3;have a4:w.cell? ⟨ga,4,none⟩=some (.int .i64 a.ph):=Blk.cell H.a 4;have a5:w.cell? ⟨ga,5,none⟩=some (.int .i64 a.top):=Blk.cell H.a 5;have a6:w.cell? ⟨ga,6,none⟩=some (.int .i64 a.nx):=Blk.cell H.a 6;have p0:w.cell? ⟨gp,0,none⟩=some (.pointer (some ⟨gm,0,none⟩)):=H.p.p.cell 0;have p1:w.cell? ⟨gp,1,none⟩=some (.int .i64 (P.base:Int)):=H.p.p.cell 1;have za:=Blk.lt H.a;have zp:=H.p.p.lt;have UN:=Hd (fun(W:World)=>Zn a.top W ht);rw[hg] at a2;rw[hs] at a3;go_enter Try.func49,Try.ntmps49;go_wp2_with (fail);refine(UN.out _).mono ?_;rintro e w1 ⟨rfl,x1⟩;have X1:=Hd (Ext.tr (a:=w) XI x1);have H1:=Hd (H.ext X1.out);have zp1:gp<w1.heap.size:=by have:=X1.out.size;omega
 have za1:ga<w1.heap.size:=by have:=X1.out.size;omega
 have a0:=Zf X1.out za a0;have a2:=Zf X1.out za a2;have a3:=Zf X1.out za a3;have p0:=Zf X1.out zp p0;have p1:=Zf X1.out zp p1;have a4:w1.cell? ⟨ga,4,none⟩=some (.int .i64 a.ph):=Blk.cell H1.out.a 4;have fa4:w1.frozen? ⟨ga,4,none⟩=false:=Blk.free H1.out.a 4;have fa6:w1.frozen? ⟨ga,6,none⟩=false:=Blk.free H1.out.a 6;clear x1 UN;have ST:=YD gm gc M (P.base+1+s) (pla a.top);rw[show ((P.base+1+s:Nat):Int)=(P.base:Int)+1+(s:Int) by omega] at ST;replace ST:=Hd ST;generalize hpl:pla a.top=pt at *;replace hpl:=Hd hpl;go_upto_region 2 with(fail);refine wp_region_any (by kernel_rfl) ?_
 change wpAny _ _ _ _ _ _ _ (World.drew _)
 refine Za (i:=0) (op:=Op.move (Operand.tmp 0)) (t:=39) (d:=some 16) (v:=_) rfl (by decide +kernel) (fun _ _ _ h=>h) (by intro _;unfold Zb;go_simp;try with_reducible rfl) ?_
 try simp only[lay]
 refine Za (i:=1) (op:=Op.nilCheck (Operand.tmp 16)) (t:=0) (d:=some 17) (v:=_) rfl (by decide +kernel) (fun _ _ _ h=>h) (by intro _;unfold Zb;go_simp;try with_reducible rfl) ?_
 try simp only[lay]
 refine Za (i:=2) (op:=Op.fieldAddr 77 (Operand.tmp 17) 0) (t:=0) (d:=some 18) (v:=_) rfl (by decide +kernel) (fun _ _ _ h=>h) (by intro _;unfold Zb;go_simp;try with_reducible rfl) ?_
 try simp only[lay]
 refine Za (i:=7) (op:=Op.move (Operand.tmp 0)) (t:=39) (d:=some 23) (v:=_) rfl (by decide +kernel) (fun _ _ _ h=>h) (by intro _;unfold Zb;go_simp;try with_reducible rfl) ?_
 try simp only[lay]
 refine Za (i:=8) (op:=Op.nilCheck (Operand.tmp 23)) (t:=0) (d:=some 24) (v:=_) rfl (by decide +kernel) (fun _ _ _ h=>h) (by intro _;unfold Zb;go_simp;try with_reducible rfl) ?_
 try simp only[lay]
 refine Za (i:=9) (op:=Op.fieldAddr 77 (Operand.tmp 24) 0) (t:=0) (d:=some 25) (v:=_) rfl (by decide +kernel) (fun _ _ _ h=>h) (by intro _;unfold Zb;go_simp;try with_reducible rfl) ?_
 try simp only[lay]
 refine Za (i:=11) (op:=Op.move (Operand.tmp 0)) (t:=39) (d:=some 27) (v:=_) rfl (by decide +kernel) (fun _ _ _ h=>h) (by intro _;unfold Zb;go_simp;try with_reducible rfl) ?_
 try simp only[lay]
 refine Za (i:=12) (op:=Op.nilCheck (Operand.tmp 27)) (t:=0) (d:=some 28) (v:=_) rfl (by decide +kernel) (fun _ _ _ h=>h) (by intro _;unfold Zb;go_simp;try with_reducible rfl) ?_
 try simp only[lay]
 refine Za (i:=13) (op:=Op.fieldAddr 77 (Operand.tmp 28) 3) (t:=0) (d:=some 29) (v:=_) rfl (by decide +kernel) (fun _ _ _ h=>h) (by intro _;unfold Zb;go_simp;try with_reducible rfl) ?_
 try simp only[lay]
 refine Za (i:=16) (op:=Op.move (Operand.tmp 3)) (t:=3) (d:=some 32) (v:=_) rfl (by decide +kernel) (fun _ _ _ h=>h) (by intro _;unfold Zb;go_simp;try with_reducible rfl) ?_
 try simp only[lay]
 refine Zi (n:=1) [(3,some 19),(4,some 20),(5,some 21),(6,some 22),(10,some 26),(14,some 30),(15,some 31)] (Ext w1) (VF (fun | 3=>some (.pointer (some ⟨gp,0,none⟩)) | 4=>some (.pointer (some ⟨gp,0,none⟩)) | 5=>some (.pointer (some ⟨gp,0,none⟩)) | 6=>some (.pointer (some ⟨gm,0,none⟩)) | 10=>some (.pointer (some ⟨gp,0,none⟩)) | 14=>some (.int .i64 (s:Int)) | 15=>some (.int .i64 ((P.base:Int)+1+(s:Int))) | _=>none) (fun i v W=>True)) Ext #[true,true,true,true,true,true,true,true,true,true,true,true,true,true,true,true,true,false] (by decide +kernel) (VF.stab ?_) ?_ ?_ (by first | exact(Ext.rf _).drew | exact Ext.rf _)
 ·intro j v W W' _ _ _;trivial
 ·intro pS hpm uS wS hRW hD K hK
  simp only[List.mem_cons,List.not_mem_nil,or_false] at hpm;rcases hpm with rfl | rfl | rfl | rfl | rfl | rfl | rfl
  ·( have rX:=Zf hRW za1 a0;exact Ze (T:=29) (x:=Operand.tmp 18) (t:=29) (d:=some 19) rfl (.pointer (some ⟨ga,0,none⟩)) (by kernel_rfl) (.pointer (some ⟨gp,0,none⟩)) (by go_simp) (hK _ _ (VF.mk rfl) hRW (Ext.rf _)))
  ·(have e3:uS 3=.pointer (some ⟨gp,0,none⟩):=(hD 3 (Zg (by kernel_rfl))).k rfl;exact Zm (op:=Op.nilCheck (Operand.tmp 19)) (t:=0) (d:=some 20) rfl (.pointer (some ⟨gp,0,none⟩)) (by simp only[Zc,Act.put,List.setIfInBounds_toArray,List.set_cons_zero,List.set_cons_succ];unfold Zb;(try go_simp);(try simp only[e3]);(try go_simp);(try rfl);(try (exact IntWalk.i64_in _ (by omega)))) (hK _ _ (VF.mk rfl) hRW (Ext.rf _)))
  ·(have e4:uS 4=.pointer (some ⟨gp,0,none⟩):=(hD 4 (Zg (by kernel_rfl))).k rfl;exact Zm (op:=Op.fieldAddr 66 (Operand.tmp 20) 0) (t:=0) (d:=some 21) rfl (.pointer (some ⟨gp,0,none⟩)) (by simp only[Zc,Act.put,List.setIfInBounds_toArray,List.set_cons_zero,List.set_cons_succ];unfold Zb;(try go_simp);(try simp only[e4]);(try go_simp);(try rfl);(try (exact IntWalk.i64_in _ (by omega)))) (hK _ _ (VF.mk rfl) hRW (Ext.rf _)))
  ·(have e5:uS 5=.pointer (some ⟨gp,0,none⟩):=(hD 5 (Zg (by kernel_rfl))).k rfl;have rX:=Zf hRW zp1 p0;exact Ze (T:=24) (x:=Operand.tmp 21) (t:=24) (d:=some 22) rfl (.pointer (some ⟨gp,0,none⟩)) (Eq.trans (b:=uS 5) (by kernel_rfl) e5) (.pointer (some ⟨gm,0,none⟩)) (by go_simp) (hK _ _ (VF.mk rfl) hRW (Ext.rf _)))
  ·( have rX:=Zf hRW za1 a0;exact Ze (T:=29) (x:=Operand.tmp 25) (t:=29) (d:=some 26) rfl (.pointer (some ⟨ga,0,none⟩)) (by kernel_rfl) (.pointer (some ⟨gp,0,none⟩)) (by go_simp) (hK _ _ (VF.mk rfl) hRW (Ext.rf _)))
  ·( have rX:=Zf hRW za1 a3;exact Ze (T:=3) (x:=Operand.tmp 29) (t:=3) (d:=some 30) rfl (.pointer (some ⟨ga,3,none⟩)) (by kernel_rfl) (.int .i64 (s:Int)) (by go_simp) (hK _ _ (VF.mk rfl) hRW (Ext.rf _)))
  ·(have e10:uS 10=.pointer (some ⟨gp,0,none⟩):=(hD 10 (Zg (by kernel_rfl))).k rfl;have e14:uS 14=.int .i64 (s:Int):=(hD 14 (Zg (by kernel_rfl))).k rfl;exact Zh (f:=29) (xs:=#[Operand.tmp 26,Operand.tmp 30]) (ts:=#[29,3]) (t:=3) (d:=some 31) rfl #[.pointer (some ⟨gp,0,none⟩),.int .i64 (s:Int)] (by go_simp) (Eq.trans (b:=#[uS 10,uS 14]) (by kernel_rfl) (by rw[e10,e14])) _ (Yp bs gm gc gp gn go P _ (H1.out.p.ext hRW) (s:Int) (by omega) hb) (by rintro e w9 ⟨rfl,xx⟩;exact⟨_,rfl,hK _ _ (VF.mk rfl) (hRW.tr xx) xx⟩))
 intro u w3 hR3 hV;have h3:=(hV (3,some 19) (by simp)).k rfl;have h4:=(hV (4,some 20) (by simp)).k rfl;have h5:=(hV (5,some 21) (by simp)).k rfl;have h6:=(hV (6,some 22) (by simp)).k rfl;have h10:=(hV (10,some 26) (by simp)).k rfl;have h14:=(hV (14,some 30) (by simp)).k rfl;have h15:=(hV (15,some 31) (by simp)).k rfl;simp only[Zc,h3,h4,h5,h6,h10,h14,h15];clear hV h3 h4 h5 h6 h10 h14 h15
 try simp only[lay]
 refine Zd 17 (by decide +kernel) (Zh (f:=27) (xs:=#[Operand.tmp 22,Operand.tmp 31,Operand.tmp 32]) (ts:=#[24,3,3]) (t:=25) (d:=some 33) rfl #[.pointer (some ⟨gm,0,none⟩),.int .i64 ((P.base:Int)+1+(s:Int)),.int .i64 pt] (by go_simp) (by kernel_rfl) _ (ST.out _ (H1.out.m.ext hR3) hi) ?_);rintro e w4 ⟨rfl,m4,d4⟩;have H4:=Hd ((H1.out.ext hR3).cell m4 d4);have D4:=Hd ((Mod.of_ext (X1.out.tr hR3):Mod (CS gm gc) w w3).tr d4);clear m4 d4 hR3;refine⟨_,rfl,?_⟩
 try simp only[lay]
 refine wpAny_done (by kernel_rfl) ?_ _;go_simp;clear a0 a2 a3 a4 a5 a6 p0 p1 fa4 fa6 ST;have a4:w4.cell? ⟨ga,4,none⟩=some (.int .i64 a.ph):=Blk.cell H4.out.a 4;have fa4:w4.frozen? ⟨ga,4,none⟩=false:=Blk.free H4.out.a 4;obtain⟨q1,q2⟩:=H4.out.field 4 (.int .i64 2) (a':={ a with ph:=2 }) rfl;have Q1:=Hd q1;have Q2:=Hd ((D4.out.mono fun b _ h=>(.inr h:PT ga gm gc b)).tr (q2.mono fun b _ h=>(.inl h:PT ga gm gc b)));clear q1 q2 H4 D4;go_wp2_with (fail);go_end0;exact⟨rfl,by rw[hpl.out];exact Q1.out,Q2.out⟩
theorem Wv (bs gm gc gp gn go ga:Nat)(M:List Int)(P:PoolS)(a:PAct)(w:World)(H:PW w bs gm gc gp gn go ga M P a)(hb:P.base<=1048576)(hg:a.give=false)(ht:Zl a.top)(s:Nat)(hs:pla a.top=(s:Int))(hs2:s<=100000)(y:Int)(hy:M[P.base+1+s]?=some y) :
  Calls Try.prog 49 #[.pointer (some ⟨ga,0,none⟩)] w fun e w'=>e=.returned (.tuple #[])/\PW w' bs gm gc gp gn go ga M P { a with ph:=2,nx:=y }/\Mod (PT ga gm gc) w w':=by
 have a0:w.cell? ⟨ga,0,none⟩=some (.pointer (some ⟨gp,0,none⟩)):=Blk.cell H.a 0;have a2:w.cell? ⟨ga,2,none⟩=some (.bool a.give):=Blk.cell H.a 2;have a3:w.cell? ⟨ga,3,none⟩=some (.int .i64 a.slot):=Blk.cell H.a 3;have a4:w.cell? ⟨ga,4,none⟩=some (.int .i64 a.ph):=Blk.cell H.a 4;have a5:w.cell? ⟨ga,5,none⟩=some (.int .i64 a.top):=Blk.cell H.a 5;have a6:w.cell? ⟨ga,6,none⟩=some (.int .i64 a.nx):=Blk.cell H.a 6;have p0:w.cell? ⟨gp,0,none⟩=some (.pointer (some ⟨gm,0,none⟩)):=H.p.p.cell 0;have p1:w.cell? ⟨gp,1,none⟩=some (.int .i64 (P.base:Int)):=H.p.p.cell 1;have za:=Blk.lt H.a;have zp:=H.p.p.lt;have UN:=Hd (fun(W:World)=>Zn a.top W ht);rw[hg] at a2;go_enter Try.func49,Try.ntmps49;go_wp2_with (fail);refine(UN.out _).mono ?_;rintro e w1 ⟨rfl,x1⟩;have X1:=Hd (Ext.tr (a:=w) XI x1);have H1:=Hd (H.ext X1.out);have zp1:gp<w1.heap.size:=by have:=X1.out.size;omega
 have za1:ga<w1.heap.size:=by have:=X1.out.size;omega
 have a0:=Zf X1.out za a0;have a2:=Zf X1.out za a2;have a3:=Zf X1.out za a3;have p0:=Zf X1.out zp p0;have p1:=Zf X1.out zp p1;have a4:w1.cell? ⟨ga,4,none⟩=some (.int .i64 a.ph):=Blk.cell H1.out.a 4;have fa4:w1.frozen? ⟨ga,4,none⟩=false:=Blk.free H1.out.a 4;have fa6:w1.frozen? ⟨ga,6,none⟩=false:=Blk.free H1.out.a 6;clear x1 UN;have ST:=YC gm gc M (P.base+1+s) y;rw[show ((P.base+1+s:Nat):Int)=(P.base:Int)+1+(s:Int) by omega] at ST;replace ST:=Hd ST;rw[hs];go_upto_region 3 with(fail);refine wp_region_any (by kernel_rfl) ?_
 change wpAny _ _ _ _ _ _ _ (World.drew _)
 refine Za (i:=0) (op:=Op.move (Operand.tmp 0)) (t:=39) (d:=some 35) (v:=_) rfl (by decide +kernel) (fun _ _ _ h=>h) (by intro _;unfold Zb;go_simp;try with_reducible rfl) ?_
 try simp only[lay]
 refine Za (i:=1) (op:=Op.move (Operand.tmp 0)) (t:=39) (d:=some 36) (v:=_) rfl (by decide +kernel) (fun _ _ _ h=>h) (by intro _;unfold Zb;go_simp;try with_reducible rfl) ?_
 try simp only[lay]
 refine Za (i:=2) (op:=Op.nilCheck (Operand.tmp 36)) (t:=0) (d:=some 37) (v:=_) rfl (by decide +kernel) (fun _ _ _ h=>h) (by intro _;unfold Zb;go_simp;try with_reducible rfl) ?_
 try simp only[lay]
 refine Za (i:=3) (op:=Op.fieldAddr 77 (Operand.tmp 37) 0) (t:=0) (d:=some 38) (v:=_) rfl (by decide +kernel) (fun _ _ _ h=>h) (by intro _;unfold Zb;go_simp;try with_reducible rfl) ?_
 try simp only[lay]
 refine Za (i:=8) (op:=Op.move (Operand.tmp 0)) (t:=39) (d:=some 43) (v:=_) rfl (by decide +kernel) (fun _ _ _ h=>h) (by intro _;unfold Zb;go_simp;try with_reducible rfl) ?_
 try simp only[lay]
 refine Za (i:=9) (op:=Op.nilCheck (Operand.tmp 43)) (t:=0) (d:=some 44) (v:=_) rfl (by decide +kernel) (fun _ _ _ h=>h) (by intro _;unfold Zb;go_simp;try with_reducible rfl) ?_
 try simp only[lay]
 refine Za (i:=10) (op:=Op.fieldAddr 77 (Operand.tmp 44) 0) (t:=0) (d:=some 45) (v:=_) rfl (by decide +kernel) (fun _ _ _ h=>h) (by intro _;unfold Zb;go_simp;try with_reducible rfl) ?_
 try simp only[lay]
 refine Za (i:=12) (op:=Op.move (Operand.tmp 3)) (t:=3) (d:=some 47) (v:=_) rfl (by decide +kernel) (fun _ _ _ h=>h) (by intro _;unfold Zb;go_simp;try with_reducible rfl) ?_
 try simp only[lay]
 refine Zi (n:=7) [(4,some 39),(5,some 40),(6,some 41),(7,some 42),(11,some 46),(13,some 48)] (Ext w1) (VF (fun | 4=>some (.pointer (some ⟨gp,0,none⟩)) | 5=>some (.pointer (some ⟨gp,0,none⟩)) | 6=>some (.pointer (some ⟨gp,0,none⟩)) | 7=>some (.pointer (some ⟨gm,0,none⟩)) | 11=>some (.pointer (some ⟨gp,0,none⟩)) | 13=>some (.int .i64 ((P.base:Int)+1+(s:Int))) | _=>none) (fun i v W=>True)) Ext #[true,true,true,true,true,true,true,true,true,true,true,true,true,true,false,false,false,false,false,false,false] (by decide +kernel) (VF.stab ?_) ?_ ?_ (by first | exact(Ext.rf _).drew | exact Ext.rf _)
 ·intro j v W W' _ _ _;trivial
 ·intro pS hpm uS wS hRW hD K hK
  simp only[List.mem_cons,List.not_mem_nil,or_false] at hpm;rcases hpm with rfl | rfl | rfl | rfl | rfl | rfl
  ·( have rX:=Zf hRW za1 a0;exact Ze (T:=29) (x:=Operand.tmp 38) (t:=29) (d:=some 39) rfl (.pointer (some ⟨ga,0,none⟩)) (by kernel_rfl) (.pointer (some ⟨gp,0,none⟩)) (by go_simp) (hK _ _ (VF.mk rfl) hRW (Ext.rf _)))
  ·(have e4:uS 4=.pointer (some ⟨gp,0,none⟩):=(hD 4 (Zg (by kernel_rfl))).k rfl;exact Zm (op:=Op.nilCheck (Operand.tmp 39)) (t:=0) (d:=some 40) rfl (.pointer (some ⟨gp,0,none⟩)) (by simp only[Zc,Act.put,List.setIfInBounds_toArray,List.set_cons_zero,List.set_cons_succ];unfold Zb;(try go_simp);(try simp only[e4]);(try go_simp);(try rfl);(try (exact IntWalk.i64_in _ (by omega)))) (hK _ _ (VF.mk rfl) hRW (Ext.rf _)))
  ·(have e5:uS 5=.pointer (some ⟨gp,0,none⟩):=(hD 5 (Zg (by kernel_rfl))).k rfl;exact Zm (op:=Op.fieldAddr 66 (Operand.tmp 40) 0) (t:=0) (d:=some 41) rfl (.pointer (some ⟨gp,0,none⟩)) (by simp only[Zc,Act.put,List.setIfInBounds_toArray,List.set_cons_zero,List.set_cons_succ];unfold Zb;(try go_simp);(try simp only[e5]);(try go_simp);(try rfl);(try (exact IntWalk.i64_in _ (by omega)))) (hK _ _ (VF.mk rfl) hRW (Ext.rf _)))
  ·(have e6:uS 6=.pointer (some ⟨gp,0,none⟩):=(hD 6 (Zg (by kernel_rfl))).k rfl;have rX:=Zf hRW zp1 p0;exact Ze (T:=24) (x:=Operand.tmp 41) (t:=24) (d:=some 42) rfl (.pointer (some ⟨gp,0,none⟩)) (Eq.trans (b:=uS 6) (by kernel_rfl) e6) (.pointer (some ⟨gm,0,none⟩)) (by go_simp) (hK _ _ (VF.mk rfl) hRW (Ext.rf _)))
  ·( have rX:=Zf hRW za1 a0;exact Ze (T:=29) (x:=Operand.tmp 45) (t:=29) (d:=some 46) rfl (.pointer (some ⟨ga,0,none⟩)) (by kernel_rfl) (.pointer (some ⟨gp,0,none⟩)) (by go_simp) (hK _ _ (VF.mk rfl) hRW (Ext.rf _)))
  ·(have e11:uS 11=.pointer (some ⟨gp,0,none⟩):=(hD 11 (Zg (by kernel_rfl))).k rfl;exact Zh (f:=29) (xs:=#[Operand.tmp 46,Operand.tmp 47]) (ts:=#[29,3]) (t:=3) (d:=some 48) rfl #[.pointer (some ⟨gp,0,none⟩),.int .i64 (s:Int)] (by go_simp) (Eq.trans (b:=#[uS 11,.int .i64 (s:Int)]) (by kernel_rfl) (by rw[e11])) _ (Yp bs gm gc gp gn go P _ (H1.out.p.ext hRW) (s:Int) (by omega) hb) (by rintro e w9 ⟨rfl,xx⟩;exact⟨_,rfl,hK _ _ (VF.mk rfl) (hRW.tr xx) xx⟩))
 intro u w3 hR3 hV;have h4:=(hV (4,some 39) (by simp)).k rfl;have h5:=(hV (5,some 40) (by simp)).k rfl;have h6:=(hV (6,some 41) (by simp)).k rfl;have h7:=(hV (7,some 42) (by simp)).k rfl;have h11:=(hV (11,some 46) (by simp)).k rfl;have h13:=(hV (13,some 48) (by simp)).k rfl;simp only[Zc,h4,h5,h6,h7,h11,h13];clear hV h4 h5 h6 h7 h11 h13
 try simp only[lay]
 refine Zd 14 (by decide +kernel) (Zh (f:=70) (xs:=#[Operand.tmp 42,Operand.tmp 48]) (ts:=#[24,3]) (t:=97) (d:=some 49) rfl #[.pointer (some ⟨gm,0,none⟩),.int .i64 ((P.base:Int)+1+(s:Int))] (by go_simp) (by kernel_rfl) _ (ST.out _ (H1.out.m.ext hR3) hy) ?_);rintro e w4 ⟨rfl,m4,d4⟩;have H4:=Hd ((H1.out.ext hR3).cell m4 d4);have D4:=Hd ((Mod.of_ext (X1.out.tr hR3):Mod (CS gm gc) w w3).tr d4);clear m4 d4 hR3;refine⟨_,rfl,?_⟩
 try simp only[lay]
 refine Za (i:=15) (op:=Op.move (Operand.tmp 49)) (t:=97) (d:=some 34) (v:=_) rfl (by decide +kernel) (fun _ _ _ h=>h) (by intro _;unfold Zb;go_simp;try with_reducible rfl) ?_
 try simp only[lay]
 refine Za (i:=16) (op:=Op.extract (Operand.tmp 34) 0) (t:=3) (d:=some 50) (v:=_) rfl (by decide +kernel) (fun _ _ _ h=>h) (by intro _;unfold Zb;go_simp;try with_reducible rfl) ?_
 try simp only[lay]
 refine Za (i:=17) (op:=Op.extract (Operand.tmp 34) 1) (t:=25) (d:=some 51) (v:=_) rfl (by decide +kernel) (fun _ _ _ h=>h) (by intro _;unfold Zb;go_simp;try with_reducible rfl) ?_
 try simp only[lay]
 refine Za (i:=18) (op:=Op.nilCheck (Operand.tmp 35)) (t:=0) (d:=some 52) (v:=_) rfl (by decide +kernel) (fun _ _ _ h=>h) (by intro _;unfold Zb;go_simp;try with_reducible rfl) ?_
 try simp only[lay]
 refine Za (i:=19) (op:=Op.fieldAddr 77 (Operand.tmp 52) 6) (t:=0) (d:=some 53) (v:=_) rfl (by decide +kernel) (fun _ _ _ h=>h) (by intro _;unfold Zb;go_simp;try with_reducible rfl) ?_
 try simp only[lay]
 clear a0 a2 a3 a4 a5 a6 p0 p1 fa4 fa6 ST;have a6:w4.cell? ⟨ga,6,none⟩=some (.int .i64 a.nx):=Blk.cell H4.out.a 6;have fa6:w4.frozen? ⟨ga,6,none⟩=false:=Blk.free H4.out.a 6;obtain⟨q1,q2⟩:=H4.out.field 6 (.int .i64 y) (a':={ a with nx:=y }) rfl;have Q1:=Hd q1;have Q2:=Hd ((D4.out.mono fun b _ h=>(.inr h:PT ga gm gc b)).tr (q2.mono fun b _ h=>(.inl h:PT ga gm gc b)));clear q1 q2 H4 D4;refine Zd 20 (by decide +kernel) (ZQ rfl (.pointer (some ⟨ga,6,none⟩)) (.int .i64 y) (by kernel_rfl) (by kernel_rfl) (by go_simp;rfl) ?_);refine wpAny_done (by kernel_rfl) ?_ _;go_simp;clear a6 fa6;generalize w4.setCell ⟨ga,6,none⟩ (.int .i64 y)=w5 at *;have a4:w5.cell? ⟨ga,4,none⟩=some (.int .i64 a.ph):=Blk.cell Q1.out.a 4;have fa4:w5.frozen? ⟨ga,4,none⟩=false:=Blk.free Q1.out.a 4;obtain⟨q1,q2⟩:=Q1.out.field 4 (.int .i64 2) (a':={ a with ph:=2,nx:=y }) rfl;have R1:=Hd q1;have R2:=Hd (Q2.out.tr (q2.mono fun b _ h=>(.inl h:PT ga gm gc b)));clear q1 q2 Q1 Q2;go_wp2_with (fail);go_end0;exact⟨rfl,R1.out,R2.out⟩
theorem WY (bs gm gc gp gn go ga:Nat)(M:List Int)(P:PoolS)(a:PAct)(w:World)(H:PW w bs gm gc gp gn go ga M P a)(hb:P.base<=1048576)(hg:a.give=true)(ht:Zl a.top)(x:Int)(hx:M[P.base]?=some x)(ho:x=a.top) :
  Calls Try.prog 50 #[.pointer (some ⟨ga,0,none⟩)] w fun e w'=>e=.returned (.tuple #[])/\PW w' bs gm gc gp gn go ga (M.set P.base (upP a.top a.slot)) P { a with ph:=3 }/\Mod (PT ga gm gc) w w':=by
 have a0:w.cell? ⟨ga,0,none⟩=some (.pointer (some ⟨gp,0,none⟩)):=Blk.cell H.a 0;have a2:w.cell? ⟨ga,2,none⟩=some (.bool a.give):=Blk.cell H.a 2;have a3:w.cell? ⟨ga,3,none⟩=some (.int .i64 a.slot):=Blk.cell H.a 3;have a4:w.cell? ⟨ga,4,none⟩=some (.int .i64 a.ph):=Blk.cell H.a 4;have a5:w.cell? ⟨ga,5,none⟩=some (.int .i64 a.top):=Blk.cell H.a 5;have a6:w.cell? ⟨ga,6,none⟩=some (.int .i64 a.nx):=Blk.cell H.a 6;have p0:w.cell? ⟨gp,0,none⟩=some (.pointer (some ⟨gm,0,none⟩)):=H.p.p.cell 0;have p1:w.cell? ⟨gp,1,none⟩=some (.int .i64 (P.base:Int)):=H.p.p.cell 1;have za:=Blk.lt H.a;have zp:=H.p.p.lt;rw[hg] at a2;have CA:=fun(W:World) (h:MemB W gm gc M)=>Wf gm gc M P.base x a.top (upP a.top a.slot) W h hx
 have UP:=Hd (fun(W:World)=>YH a.top a.slot W ht);have UN:=Hd (fun(W:World)=>Zn a.top W ht);have HH:=Hd H;simp only[if_pos ho,decide_eq_true ho,Zw] at CA;generalize upP a.top a.slot=up at *;replace CA:=Hd CA;clear H;go_enter Try.func50,Try.ntmps50;go_upto_region 3 with(fail);refine wp_region_any (by kernel_rfl) ?_
 change wpAny _ _ _ _ _ _ _ (World.drew _)
 refine Za (i:=0) (op:=Op.move (Operand.tmp 0)) (t:=39) (d:=some 18) (v:=_) rfl (by decide +kernel) (fun _ _ _ h=>h) (by intro _;unfold Zb;go_simp;try with_reducible rfl) ?_
 try simp only[lay]
 refine Za (i:=1) (op:=Op.nilCheck (Operand.tmp 18)) (t:=0) (d:=some 19) (v:=_) rfl (by decide +kernel) (fun _ _ _ h=>h) (by intro _;unfold Zb;go_simp;try with_reducible rfl) ?_
 try simp only[lay]
 refine Za (i:=2) (op:=Op.fieldAddr 77 (Operand.tmp 19) 0) (t:=0) (d:=some 20) (v:=_) rfl (by decide +kernel) (fun _ _ _ h=>h) (by intro _;unfold Zb;go_simp;try with_reducible rfl) ?_
 try simp only[lay]
 refine Za (i:=7) (op:=Op.move (Operand.tmp 0)) (t:=39) (d:=some 25) (v:=_) rfl (by decide +kernel) (fun _ _ _ h=>h) (by intro _;unfold Zb;go_simp;try with_reducible rfl) ?_
 try simp only[lay]
 refine Za (i:=8) (op:=Op.nilCheck (Operand.tmp 25)) (t:=0) (d:=some 26) (v:=_) rfl (by decide +kernel) (fun _ _ _ h=>h) (by intro _;unfold Zb;go_simp;try with_reducible rfl) ?_
 try simp only[lay]
 refine Za (i:=9) (op:=Op.fieldAddr 77 (Operand.tmp 26) 0) (t:=0) (d:=some 27) (v:=_) rfl (by decide +kernel) (fun _ _ _ h=>h) (by intro _;unfold Zb;go_simp;try with_reducible rfl) ?_
 try simp only[lay]
 refine Za (i:=14) (op:=Op.move (Operand.tmp 0)) (t:=39) (d:=some 32) (v:=_) rfl (by decide +kernel) (fun _ _ _ h=>h) (by intro _;unfold Zb;go_simp;try with_reducible rfl) ?_
 try simp only[lay]
 refine Za (i:=15) (op:=Op.nilCheck (Operand.tmp 32)) (t:=0) (d:=some 33) (v:=_) rfl (by decide +kernel) (fun _ _ _ h=>h) (by intro _;unfold Zb;go_simp;try with_reducible rfl) ?_
 try simp only[lay]
 refine Za (i:=16) (op:=Op.fieldAddr 77 (Operand.tmp 33) 5) (t:=0) (d:=some 34) (v:=_) rfl (by decide +kernel) (fun _ _ _ h=>h) (by intro _;unfold Zb;go_simp;try with_reducible rfl) ?_
 try simp only[lay]
 refine Za (i:=18) (op:=Op.move (Operand.tmp 0)) (t:=39) (d:=some 36) (v:=_) rfl (by decide +kernel) (fun _ _ _ h=>h) (by intro _;unfold Zb;go_simp;try with_reducible rfl) ?_
 try simp only[lay]
 refine Za (i:=19) (op:=Op.nilCheck (Operand.tmp 36)) (t:=0) (d:=some 37) (v:=_) rfl (by decide +kernel) (fun _ _ _ h=>h) (by intro _;unfold Zb;go_simp;try with_reducible rfl) ?_
 try simp only[lay]
 refine Za (i:=20) (op:=Op.fieldAddr 77 (Operand.tmp 37) 5) (t:=0) (d:=some 38) (v:=_) rfl (by decide +kernel) (fun _ _ _ h=>h) (by intro _;unfold Zb;go_simp;try with_reducible rfl) ?_
 try simp only[lay]
 refine Za (i:=22) (op:=Op.move (Operand.tmp 2)) (t:=3) (d:=some 40) (v:=_) rfl (by decide +kernel) (fun _ _ _ h=>h) (by intro _;unfold Zb;go_simp;try with_reducible rfl) ?_
 try simp only[lay]
 refine Zi (n:=6) [(3,some 21),(4,some 22),(5,some 23),(6,some 24),(10,some 28),(11,some 29),(12,some 30),(13,some 31),(17,some 35),(21,some 39),(23,some 41)] (Ext w) (VF (fun | 3=>some (.pointer (some ⟨gp,0,none⟩)) | 4=>some (.pointer (some ⟨gp,0,none⟩)) | 5=>some (.pointer (some ⟨gp,0,none⟩)) | 6=>some (.pointer (some ⟨gm,0,none⟩)) | 10=>some (.pointer (some ⟨gp,0,none⟩)) | 11=>some (.pointer (some ⟨gp,0,none⟩)) | 12=>some (.pointer (some ⟨gp,1,none⟩)) | 13=>some (.int .i64 (P.base:Int)) | 17=>some (.int .i64 a.top) | 21=>some (.int .i64 a.top) | 23=>some (.int .i64 up) | _=>none) (fun i v W=>True)) Ext #[true,true,true,true,true,true,true,true,true,true,true,true,true,true,true,true,true,true,true,true,true,true,true,true,false,false,false,false,false,false] (by decide +kernel) (VF.stab ?_) ?_ ?_ (by first | exact(Ext.rf _).drew | exact Ext.rf _)
 ·intro j v W W' _ _ _;trivial
 ·intro pS hpm uS wS hRW hD K hK
  simp only[List.mem_cons,List.not_mem_nil,or_false] at hpm;rcases hpm with rfl | rfl | rfl | rfl | rfl | rfl | rfl | rfl | rfl | rfl | rfl
  ·( have rX:=Zf hRW za a0;exact Ze (T:=29) (x:=Operand.tmp 20) (t:=29) (d:=some 21) rfl (.pointer (some ⟨ga,0,none⟩)) (by kernel_rfl) (.pointer (some ⟨gp,0,none⟩)) (by go_simp) (hK _ _ (VF.mk rfl) hRW (Ext.rf _)))
  ·(have e3:uS 3=.pointer (some ⟨gp,0,none⟩):=(hD 3 (Zg (by kernel_rfl))).k rfl;exact Zm (op:=Op.nilCheck (Operand.tmp 21)) (t:=0) (d:=some 22) rfl (.pointer (some ⟨gp,0,none⟩)) (by simp only[Zc,Act.put,List.setIfInBounds_toArray,List.set_cons_zero,List.set_cons_succ];unfold Zb;(try go_simp);(try simp only[e3]);(try go_simp);(try rfl);(try (exact IntWalk.i64_in _ (by omega)))) (hK _ _ (VF.mk rfl) hRW (Ext.rf _)))
  ·(have e4:uS 4=.pointer (some ⟨gp,0,none⟩):=(hD 4 (Zg (by kernel_rfl))).k rfl;exact Zm (op:=Op.fieldAddr 66 (Operand.tmp 22) 0) (t:=0) (d:=some 23) rfl (.pointer (some ⟨gp,0,none⟩)) (by simp only[Zc,Act.put,List.setIfInBounds_toArray,List.set_cons_zero,List.set_cons_succ];unfold Zb;(try go_simp);(try simp only[e4]);(try go_simp);(try rfl);(try (exact IntWalk.i64_in _ (by omega)))) (hK _ _ (VF.mk rfl) hRW (Ext.rf _)))
  ·(have e5:uS 5=.pointer (some ⟨gp,0,none⟩):=(hD 5 (Zg (by kernel_rfl))).k rfl;have rX:=Zf hRW zp p0;exact Ze (T:=24) (x:=Operand.tmp 23) (t:=24) (d:=some 24) rfl (.pointer (some ⟨gp,0,none⟩)) (Eq.trans (b:=uS 5) (by kernel_rfl) e5) (.pointer (some ⟨gm,0,none⟩)) (by go_simp) (hK _ _ (VF.mk rfl) hRW (Ext.rf _)))
  ·( have rX:=Zf hRW za a0;exact Ze (T:=29) (x:=Operand.tmp 27) (t:=29) (d:=some 28) rfl (.pointer (some ⟨ga,0,none⟩)) (by kernel_rfl) (.pointer (some ⟨gp,0,none⟩)) (by go_simp) (hK _ _ (VF.mk rfl) hRW (Ext.rf _)))
  ·(have e10:uS 10=.pointer (some ⟨gp,0,none⟩):=(hD 10 (Zg (by kernel_rfl))).k rfl;exact Zm (op:=Op.nilCheck (Operand.tmp 28)) (t:=0) (d:=some 29) rfl (.pointer (some ⟨gp,0,none⟩)) (by simp only[Zc,Act.put,List.setIfInBounds_toArray,List.set_cons_zero,List.set_cons_succ];unfold Zb;(try go_simp);(try simp only[e10]);(try go_simp);(try rfl);(try (exact IntWalk.i64_in _ (by omega)))) (hK _ _ (VF.mk rfl) hRW (Ext.rf _)))
  ·(have e11:uS 11=.pointer (some ⟨gp,0,none⟩):=(hD 11 (Zg (by kernel_rfl))).k rfl;exact Zm (op:=Op.fieldAddr 66 (Operand.tmp 29) 1) (t:=0) (d:=some 30) rfl (.pointer (some ⟨gp,1,none⟩)) (by simp only[Zc,Act.put,List.setIfInBounds_toArray,List.set_cons_zero,List.set_cons_succ];unfold Zb;(try go_simp);(try simp only[e11]);(try go_simp);(try rfl);(try (exact IntWalk.i64_in _ (by omega)))) (hK _ _ (VF.mk rfl) hRW (Ext.rf _)))
  ·(have e12:uS 12=.pointer (some ⟨gp,1,none⟩):=(hD 12 (Zg (by kernel_rfl))).k rfl;have rX:=Zf hRW zp p1;exact Ze (T:=3) (x:=Operand.tmp 30) (t:=3) (d:=some 31) rfl (.pointer (some ⟨gp,1,none⟩)) (Eq.trans (b:=uS 12) (by kernel_rfl) e12) (.int .i64 (P.base:Int)) (by go_simp) (hK _ _ (VF.mk rfl) hRW (Ext.rf _)))
  ·( have rX:=Zf hRW za a5;exact Ze (T:=3) (x:=Operand.tmp 34) (t:=3) (d:=some 35) rfl (.pointer (some ⟨ga,5,none⟩)) (by kernel_rfl) (.int .i64 a.top) (by go_simp) (hK _ _ (VF.mk rfl) hRW (Ext.rf _)))
  ·( have rX:=Zf hRW za a5;exact Ze (T:=3) (x:=Operand.tmp 38) (t:=3) (d:=some 39) rfl (.pointer (some ⟨ga,5,none⟩)) (by kernel_rfl) (.int .i64 a.top) (by go_simp) (hK _ _ (VF.mk rfl) hRW (Ext.rf _)))
  ·(have e21:uS 21=.int .i64 a.top:=(hD 21 (Zg (by kernel_rfl))).k rfl;exact Zh (f:=72) (xs:=#[Operand.tmp 39,Operand.tmp 40]) (ts:=#[3,3]) (t:=3) (d:=some 41) rfl #[.int .i64 a.top,.int .i64 a.slot] (by go_simp) (Eq.trans (b:=#[uS 21,.int .i64 a.slot]) (by kernel_rfl) (by rw[e21])) _ (UP.out _) (by rintro e w9 ⟨rfl,xx⟩;exact⟨_,rfl,hK _ _ (VF.mk rfl) (hRW.tr xx) xx⟩))
 intro u w3 hR3 hV;have h3:=(hV (3,some 21) (by simp)).k rfl;have h4:=(hV (4,some 22) (by simp)).k rfl;have h5:=(hV (5,some 23) (by simp)).k rfl;have h6:=(hV (6,some 24) (by simp)).k rfl;have h10:=(hV (10,some 28) (by simp)).k rfl;have h11:=(hV (11,some 29) (by simp)).k rfl;have h12:=(hV (12,some 30) (by simp)).k rfl;have h13:=(hV (13,some 31) (by simp)).k rfl;have h17:=(hV (17,some 35) (by simp)).k rfl;have h21:=(hV (21,some 39) (by simp)).k rfl;have h23:=(hV (23,some 41) (by simp)).k rfl;simp only[Zc,h3,h4,h5,h6,h10,h11,h12,h13,h17,h21,h23];clear hV h3 h4 h5 h6 h10 h11 h12 h13 h17 h21 h23
 try simp only[lay]
 refine Zd 24 (by decide +kernel) (Zh (f:=71) (xs:=#[Operand.tmp 24,Operand.tmp 31,Operand.tmp 35,Operand.tmp 41]) (ts:=#[24,3,3,3]) (t:=99) (d:=some 42) rfl #[.pointer (some ⟨gm,0,none⟩),.int .i64 (P.base:Int),.int .i64 a.top,.int .i64 up] (by go_simp) (by kernel_rfl) _ (CA.out _ (HH.out.m.ext hR3)) ?_);rintro e w4 ⟨rfl,m4,d4⟩;have H4:=Hd ((HH.out.ext hR3).cell m4 d4);have D4:=Hd ((Mod.of_ext hR3:Mod (CS gm gc) w w3).tr d4);have D4':=Hd (D4.out.mono fun b _ h=>(.inr h:PT ga gm gc b));clear m4 d4 hR3;refine⟨_,rfl,?_⟩
 try simp only[lay]
 refine Za (i:=25) (op:=Op.move (Operand.tmp 42)) (t:=99) (d:=some 17) (v:=_) rfl (by decide +kernel) (fun _ _ _ h=>h) (by intro _;unfold Zb;go_simp;try with_reducible rfl) ?_
 try simp only[lay]
 refine Za (i:=26) (op:=Op.extract (Operand.tmp 17) 0) (t:=4) (d:=some 43) (v:=_) rfl (by decide +kernel) (fun _ _ _ h=>h) (by intro _;unfold Zb;go_simp;try with_reducible rfl) ?_
 try simp only[lay]
 refine Za (i:=27) (op:=Op.extract (Operand.tmp 17) 1) (t:=25) (d:=some 44) (v:=_) rfl (by decide +kernel) (fun _ _ _ h=>h) (by intro _;unfold Zb;go_simp;try with_reducible rfl) ?_
 try simp only[lay]
 refine Za (i:=28) (op:=Op.assign (Operand.tmp 43)) (t:=4) (d:=some 3) (v:=_) rfl (by decide +kernel) (fun _ _ _ h=>h) (by intro _;unfold Zb;go_simp;try with_reducible rfl) ?_
 try simp only[lay]
 refine Za (i:=29) (op:=Op.assign (Operand.tmp 44)) (t:=25) (d:=some 4) (v:=_) rfl (by decide +kernel) (fun _ _ _ h=>h) (by intro _;unfold Zb;go_simp;try with_reducible rfl) ?_
 try simp only[lay]
 refine wpAny_done (by kernel_rfl) ?_ _;go_simp;clear a0 a2 a3 a4 a5 a6 p0 p1 CA UP;have a2:w4.cell? ⟨ga,2,none⟩=some (.bool true):=(Blk.cell H4.out.a 2).trans (by simp[PAct.cells,hg]);have a4:w4.cell? ⟨ga,4,none⟩=some (.int .i64 a.ph):=Blk.cell H4.out.a 4;have a5:w4.cell? ⟨ga,5,none⟩=some (.int .i64 a.top):=Blk.cell H4.out.a 5;have fa4:w4.frozen? ⟨ga,4,none⟩=false:=Blk.free H4.out.a 4;have z4:=Blk.lt H4.out.a;obtain⟨r1,r2⟩:=H4.out.field 4 (.int .i64 0) (a':={ a with ph:=0 }) rfl;obtain⟨s1,s2⟩:=r1.field 4 (.int .i64 3) (a':={ a with ph:=3 }) rfl;have S1:=Hd s1;have S2:=Hd ((D4'.out.tr (r2.mono fun b _ h=>(.inl h:PT ga gm gc b))).tr (s2.mono fun b _ h=>(.inl h:PT ga gm gc b)));clear r1 r2 s1 s2;go_wp2_with (fail);go_end0;exact⟨rfl,S1.out,S2.out⟩
theorem WZ (bs gm gc gp gn go ga:Nat)(M:List Int)(P:PoolS)(a:PAct)(w:World)(H:PW w bs gm gc gp gn go ga M P a)(hb:P.base<=1048576)(hg:a.give=false)(ht:Zl a.top)(x:Int)(hx:M[P.base]?=some x)(ho:x=a.top) :
  Calls Try.prog 50 #[.pointer (some ⟨ga,0,none⟩)] w fun e w'=>e=.returned (.tuple #[])/\PW w' bs gm gc gp gn go ga (M.set P.base (upP a.top a.nx)) P { a with slot:=pla a.top,ph:=3 }/\Mod (PT ga gm gc) w w':=by
 have a0:w.cell? ⟨ga,0,none⟩=some (.pointer (some ⟨gp,0,none⟩)):=Blk.cell H.a 0;have a2:w.cell? ⟨ga,2,none⟩=some (.bool a.give):=Blk.cell H.a 2;have a3:w.cell? ⟨ga,3,none⟩=some (.int .i64 a.slot):=Blk.cell H.a 3;have a4:w.cell? ⟨ga,4,none⟩=some (.int .i64 a.ph):=Blk.cell H.a 4;have a5:w.cell? ⟨ga,5,none⟩=some (.int .i64 a.top):=Blk.cell H.a 5;have a6:w.cell? ⟨ga,6,none⟩=some (.int .i64 a.nx):=Blk.cell H.a 6;have p0:w.cell? ⟨gp,0,none⟩=some (.pointer (some ⟨gm,0,none⟩)):=H.p.p.cell 0;have p1:w.cell? ⟨gp,1,none⟩=some (.int .i64 (P.base:Int)):=H.p.p.cell 1;have za:=Blk.lt H.a;have zp:=H.p.p.lt;rw[hg] at a2;have CA:=fun(W:World) (h:MemB W gm gc M)=>Wf gm gc M P.base x a.top (upP a.top a.nx) W h hx
 have UP:=Hd (fun(W:World)=>YH a.top a.nx W ht);have UN:=Hd (fun(W:World)=>Zn a.top W ht);have HH:=Hd H;simp only[if_pos ho,decide_eq_true ho,Zw] at CA;generalize upP a.top a.nx=up at *;replace CA:=Hd CA;clear H;go_enter Try.func50,Try.ntmps50;go_upto_region 3 with(fail);refine wp_region_any (by kernel_rfl) ?_
 change wpAny _ _ _ _ _ _ _ (World.drew _)
 refine Za (i:=0) (op:=Op.move (Operand.tmp 0)) (t:=39) (d:=some 18) (v:=_) rfl (by decide +kernel) (fun _ _ _ h=>h) (by intro _;unfold Zb;go_simp;try with_reducible rfl) ?_
 try simp only[lay]
 refine Za (i:=1) (op:=Op.nilCheck (Operand.tmp 18)) (t:=0) (d:=some 19) (v:=_) rfl (by decide +kernel) (fun _ _ _ h=>h) (by intro _;unfold Zb;go_simp;try with_reducible rfl) ?_
 try simp only[lay]
 refine Za (i:=2) (op:=Op.fieldAddr 77 (Operand.tmp 19) 0) (t:=0) (d:=some 20) (v:=_) rfl (by decide +kernel) (fun _ _ _ h=>h) (by intro _;unfold Zb;go_simp;try with_reducible rfl) ?_
 try simp only[lay]
 refine Za (i:=7) (op:=Op.move (Operand.tmp 0)) (t:=39) (d:=some 25) (v:=_) rfl (by decide +kernel) (fun _ _ _ h=>h) (by intro _;unfold Zb;go_simp;try with_reducible rfl) ?_
 try simp only[lay]
 refine Za (i:=8) (op:=Op.nilCheck (Operand.tmp 25)) (t:=0) (d:=some 26) (v:=_) rfl (by decide +kernel) (fun _ _ _ h=>h) (by intro _;unfold Zb;go_simp;try with_reducible rfl) ?_
 try simp only[lay]
 refine Za (i:=9) (op:=Op.fieldAddr 77 (Operand.tmp 26) 0) (t:=0) (d:=some 27) (v:=_) rfl (by decide +kernel) (fun _ _ _ h=>h) (by intro _;unfold Zb;go_simp;try with_reducible rfl) ?_
 try simp only[lay]
 refine Za (i:=14) (op:=Op.move (Operand.tmp 0)) (t:=39) (d:=some 32) (v:=_) rfl (by decide +kernel) (fun _ _ _ h=>h) (by intro _;unfold Zb;go_simp;try with_reducible rfl) ?_
 try simp only[lay]
 refine Za (i:=15) (op:=Op.nilCheck (Operand.tmp 32)) (t:=0) (d:=some 33) (v:=_) rfl (by decide +kernel) (fun _ _ _ h=>h) (by intro _;unfold Zb;go_simp;try with_reducible rfl) ?_
 try simp only[lay]
 refine Za (i:=16) (op:=Op.fieldAddr 77 (Operand.tmp 33) 5) (t:=0) (d:=some 34) (v:=_) rfl (by decide +kernel) (fun _ _ _ h=>h) (by intro _;unfold Zb;go_simp;try with_reducible rfl) ?_
 try simp only[lay]
 refine Za (i:=18) (op:=Op.move (Operand.tmp 0)) (t:=39) (d:=some 36) (v:=_) rfl (by decide +kernel) (fun _ _ _ h=>h) (by intro _;unfold Zb;go_simp;try with_reducible rfl) ?_
 try simp only[lay]
 refine Za (i:=19) (op:=Op.nilCheck (Operand.tmp 36)) (t:=0) (d:=some 37) (v:=_) rfl (by decide +kernel) (fun _ _ _ h=>h) (by intro _;unfold Zb;go_simp;try with_reducible rfl) ?_
 try simp only[lay]
 refine Za (i:=20) (op:=Op.fieldAddr 77 (Operand.tmp 37) 5) (t:=0) (d:=some 38) (v:=_) rfl (by decide +kernel) (fun _ _ _ h=>h) (by intro _;unfold Zb;go_simp;try with_reducible rfl) ?_
 try simp only[lay]
 refine Za (i:=22) (op:=Op.move (Operand.tmp 2)) (t:=3) (d:=some 40) (v:=_) rfl (by decide +kernel) (fun _ _ _ h=>h) (by intro _;unfold Zb;go_simp;try with_reducible rfl) ?_
 try simp only[lay]
 refine Zi (n:=6) [(3,some 21),(4,some 22),(5,some 23),(6,some 24),(10,some 28),(11,some 29),(12,some 30),(13,some 31),(17,some 35),(21,some 39),(23,some 41)] (Ext w) (VF (fun | 3=>some (.pointer (some ⟨gp,0,none⟩)) | 4=>some (.pointer (some ⟨gp,0,none⟩)) | 5=>some (.pointer (some ⟨gp,0,none⟩)) | 6=>some (.pointer (some ⟨gm,0,none⟩)) | 10=>some (.pointer (some ⟨gp,0,none⟩)) | 11=>some (.pointer (some ⟨gp,0,none⟩)) | 12=>some (.pointer (some ⟨gp,1,none⟩)) | 13=>some (.int .i64 (P.base:Int)) | 17=>some (.int .i64 a.top) | 21=>some (.int .i64 a.top) | 23=>some (.int .i64 up) | _=>none) (fun i v W=>True)) Ext #[true,true,true,true,true,true,true,true,true,true,true,true,true,true,true,true,true,true,true,true,true,true,true,true,false,false,false,false,false,false] (by decide +kernel) (VF.stab ?_) ?_ ?_ (by first | exact(Ext.rf _).drew | exact Ext.rf _)
 ·intro j v W W' _ _ _;trivial
 ·intro pS hpm uS wS hRW hD K hK
  simp only[List.mem_cons,List.not_mem_nil,or_false] at hpm;rcases hpm with rfl | rfl | rfl | rfl | rfl | rfl | rfl | rfl | rfl | rfl | rfl
  ·( have rX:=Zf hRW za a0;exact Ze (T:=29) (x:=Operand.tmp 20) (t:=29) (d:=some 21) rfl (.pointer (some ⟨ga,0,none⟩)) (by kernel_rfl) (.pointer (some ⟨gp,0,none⟩)) (by go_simp) (hK _ _ (VF.mk rfl) hRW (Ext.rf _)))
  ·(have e3:uS 3=.pointer (some ⟨gp,0,none⟩):=(hD 3 (Zg (by kernel_rfl))).k rfl;exact Zm (op:=Op.nilCheck (Operand.tmp 21)) (t:=0) (d:=some 22) rfl (.pointer (some ⟨gp,0,none⟩)) (by simp only[Zc,Act.put,List.setIfInBounds_toArray,List.set_cons_zero,List.set_cons_succ];unfold Zb;(try go_simp);(try simp only[e3]);(try go_simp);(try rfl);(try (exact IntWalk.i64_in _ (by omega)))) (hK _ _ (VF.mk rfl) hRW (Ext.rf _)))
  ·(have e4:uS 4=.pointer (some ⟨gp,0,none⟩):=(hD 4 (Zg (by kernel_rfl))).k rfl;exact Zm (op:=Op.fieldAddr 66 (Operand.tmp 22) 0) (t:=0) (d:=some 23) rfl (.pointer (some ⟨gp,0,none⟩)) (by simp only[Zc,Act.put,List.setIfInBounds_toArray,List.set_cons_zero,List.set_cons_succ];unfold Zb;(try go_simp);(try simp only[e4]);(try go_simp);(try rfl);(try (exact IntWalk.i64_in _ (by omega)))) (hK _ _ (VF.mk rfl) hRW (Ext.rf _)))
  ·(have e5:uS 5=.pointer (some ⟨gp,0,none⟩):=(hD 5 (Zg (by kernel_rfl))).k rfl;have rX:=Zf hRW zp p0;exact Ze (T:=24) (x:=Operand.tmp 23) (t:=24) (d:=some 24) rfl (.pointer (some ⟨gp,0,none⟩)) (Eq.trans (b:=uS 5) (by kernel_rfl) e5) (.pointer (some ⟨gm,0,none⟩)) (by go_simp) (hK _ _ (VF.mk rfl) hRW (Ext.rf _)))
  ·( have rX:=Zf hRW za a0;exact Ze (T:=29) (x:=Operand.tmp 27) (t:=29) (d:=some 28) rfl (.pointer (some ⟨ga,0,none⟩)) (by kernel_rfl) (.pointer (some ⟨gp,0,none⟩)) (by go_simp) (hK _ _ (VF.mk rfl) hRW (Ext.rf _)))
  ·(have e10:uS 10=.pointer (some ⟨gp,0,none⟩):=(hD 10 (Zg (by kernel_rfl))).k rfl;exact Zm (op:=Op.nilCheck (Operand.tmp 28)) (t:=0) (d:=some 29) rfl (.pointer (some ⟨gp,0,none⟩)) (by simp only[Zc,Act.put,List.setIfInBounds_toArray,List.set_cons_zero,List.set_cons_succ];unfold Zb;(try go_simp);(try simp only[e10]);(try go_simp);(try rfl);(try (exact IntWalk.i64_in _ (by omega)))) (hK _ _ (VF.mk rfl) hRW (Ext.rf _)))
  ·(have e11:uS 11=.pointer (some ⟨gp,0,none⟩):=(hD 11 (Zg (by kernel_rfl))).k rfl;exact Zm (op:=Op.fieldAddr 66 (Operand.tmp 29) 1) (t:=0) (d:=some 30) rfl (.pointer (some ⟨gp,1,none⟩)) (by simp only[Zc,Act.put,List.setIfInBounds_toArray,List.set_cons_zero,List.set_cons_succ];unfold Zb;(try go_simp);(try simp only[e11]);(try go_simp);(try rfl);(try (exact IntWalk.i64_in _ (by omega)))) (hK _ _ (VF.mk rfl) hRW (Ext.rf _)))
  ·(have e12:uS 12=.pointer (some ⟨gp,1,none⟩):=(hD 12 (Zg (by kernel_rfl))).k rfl;have rX:=Zf hRW zp p1;exact Ze (T:=3) (x:=Operand.tmp 30) (t:=3) (d:=some 31) rfl (.pointer (some ⟨gp,1,none⟩)) (Eq.trans (b:=uS 12) (by kernel_rfl) e12) (.int .i64 (P.base:Int)) (by go_simp) (hK _ _ (VF.mk rfl) hRW (Ext.rf _)))
  ·( have rX:=Zf hRW za a5;exact Ze (T:=3) (x:=Operand.tmp 34) (t:=3) (d:=some 35) rfl (.pointer (some ⟨ga,5,none⟩)) (by kernel_rfl) (.int .i64 a.top) (by go_simp) (hK _ _ (VF.mk rfl) hRW (Ext.rf _)))
  ·( have rX:=Zf hRW za a5;exact Ze (T:=3) (x:=Operand.tmp 38) (t:=3) (d:=some 39) rfl (.pointer (some ⟨ga,5,none⟩)) (by kernel_rfl) (.int .i64 a.top) (by go_simp) (hK _ _ (VF.mk rfl) hRW (Ext.rf _)))
  ·(have e21:uS 21=.int .i64 a.top:=(hD 21 (Zg (by kernel_rfl))).k rfl;exact Zh (f:=72) (xs:=#[Operand.tmp 39,Operand.tmp 40]) (ts:=#[3,3]) (t:=3) (d:=some 41) rfl #[.int .i64 a.top,.int .i64 a.nx] (by go_simp) (Eq.trans (b:=#[uS 21,.int .i64 a.nx]) (by kernel_rfl) (by rw[e21])) _ (UP.out _) (by rintro e w9 ⟨rfl,xx⟩;exact⟨_,rfl,hK _ _ (VF.mk rfl) (hRW.tr xx) xx⟩))
 intro u w3 hR3 hV;have h3:=(hV (3,some 21) (by simp)).k rfl;have h4:=(hV (4,some 22) (by simp)).k rfl;have h5:=(hV (5,some 23) (by simp)).k rfl;have h6:=(hV (6,some 24) (by simp)).k rfl;have h10:=(hV (10,some 28) (by simp)).k rfl;have h11:=(hV (11,some 29) (by simp)).k rfl;have h12:=(hV (12,some 30) (by simp)).k rfl;have h13:=(hV (13,some 31) (by simp)).k rfl;have h17:=(hV (17,some 35) (by simp)).k rfl;have h21:=(hV (21,some 39) (by simp)).k rfl;have h23:=(hV (23,some 41) (by simp)).k rfl;simp only[Zc,h3,h4,h5,h6,h10,h11,h12,h13,h17,h21,h23];clear hV h3 h4 h5 h6 h10 h11 h12 h13 h17 h21 h23
 try simp only[lay]
 refine Zd 24 (by decide +kernel) (Zh (f:=71) (xs:=#[Operand.tmp 24,Operand.tmp 31,Operand.tmp 35,Operand.tmp 41]) (ts:=#[24,3,3,3]) (t:=99) (d:=some 42) rfl #[.pointer (some ⟨gm,0,none⟩),.int .i64 (P.base:Int),.int .i64 a.top,.int .i64 up] (by go_simp) (by kernel_rfl) _ (CA.out _ (HH.out.m.ext hR3)) ?_);rintro e w4 ⟨rfl,m4,d4⟩;have H4:=Hd ((HH.out.ext hR3).cell m4 d4);have D4:=Hd ((Mod.of_ext hR3:Mod (CS gm gc) w w3).tr d4);have D4':=Hd (D4.out.mono fun b _ h=>(.inr h:PT ga gm gc b));clear m4 d4 hR3;refine⟨_,rfl,?_⟩
 try simp only[lay]
 refine Za (i:=25) (op:=Op.move (Operand.tmp 42)) (t:=99) (d:=some 17) (v:=_) rfl (by decide +kernel) (fun _ _ _ h=>h) (by intro _;unfold Zb;go_simp;try with_reducible rfl) ?_
 try simp only[lay]
 refine Za (i:=26) (op:=Op.extract (Operand.tmp 17) 0) (t:=4) (d:=some 43) (v:=_) rfl (by decide +kernel) (fun _ _ _ h=>h) (by intro _;unfold Zb;go_simp;try with_reducible rfl) ?_
 try simp only[lay]
 refine Za (i:=27) (op:=Op.extract (Operand.tmp 17) 1) (t:=25) (d:=some 44) (v:=_) rfl (by decide +kernel) (fun _ _ _ h=>h) (by intro _;unfold Zb;go_simp;try with_reducible rfl) ?_
 try simp only[lay]
 refine Za (i:=28) (op:=Op.assign (Operand.tmp 43)) (t:=4) (d:=some 3) (v:=_) rfl (by decide +kernel) (fun _ _ _ h=>h) (by intro _;unfold Zb;go_simp;try with_reducible rfl) ?_
 try simp only[lay]
 refine Za (i:=29) (op:=Op.assign (Operand.tmp 44)) (t:=25) (d:=some 4) (v:=_) rfl (by decide +kernel) (fun _ _ _ h=>h) (by intro _;unfold Zb;go_simp;try with_reducible rfl) ?_
 try simp only[lay]
 refine wpAny_done (by kernel_rfl) ?_ _;go_simp;clear a0 a2 a3 a4 a5 a6 p0 p1 CA UP;have a2:w4.cell? ⟨ga,2,none⟩=some (.bool false):=(Blk.cell H4.out.a 2).trans (by simp[PAct.cells,hg]);have a4:w4.cell? ⟨ga,4,none⟩=some (.int .i64 a.ph):=Blk.cell H4.out.a 4;have a5:w4.cell? ⟨ga,5,none⟩=some (.int .i64 a.top):=Blk.cell H4.out.a 5;have fa4:w4.frozen? ⟨ga,4,none⟩=false:=Blk.free H4.out.a 4;have z4:=Blk.lt H4.out.a;obtain⟨r1,r2⟩:=H4.out.field 4 (.int .i64 0) (a':={ a with ph:=0 }) rfl;obtain⟨s1,s2⟩:=r1.field 4 (.int .i64 3) (a':={ a with ph:=3 }) rfl;have S1:=Hd s1;have S2:=Hd ((D4'.out.tr (r2.mono fun b _ h=>(.inl h:PT ga gm gc b))).tr (s2.mono fun b _ h=>(.inl h:PT ga gm gc b)));clear r1 r2 s1 s2;have z5:ga<((w4.setCell ⟨ga,4,none⟩ (.int .i64 0)).setCell ⟨ga,4,none⟩ (.int .i64 3)).heap.size:=by simpa using z4
 go_wp2_with (fail);refine(UN.out _).mono ?_;rintro e w6 ⟨rfl,x6⟩;have T1:=Hd (S1.out.ext x6);have T2:=Hd (S2.out.ext x6);clear x6 UN;have a3:w6.cell? ⟨ga,3,none⟩=some (.int .i64 a.slot):=Blk.cell T1.out.a 3;have fa3:w6.frozen? ⟨ga,3,none⟩=false:=Blk.free T1.out.a 3;obtain⟨q1,q2⟩:=T1.out.field 3 (.int .i64 (pla a.top)) (a':={ a with slot:=pla a.top,ph:=3 }) rfl;have Q1:=Hd q1;have Q2:=Hd (T2.out.tr (q2.mono fun b _ h=>(.inl h:PT ga gm gc b)));clear q1 q2;go_wp2_with (fail);go_end0;exact⟨rfl,Q1.out,Q2.out⟩
end
end Go.Proofs.Ytgimmiaenkeohaa
