/- parts, packed by a program -/
import Derived.Test.YtnbcmiaaleambaaGreatDoorRows
import Derived.WalkKit
import Derived.ProofKit
import Derived.OpenShut
import Derived.BigQuiet
import Derived.Deep.QuietTactic
import Derived.Deep.Slices
import Derived.Lib.Hide
import Derived.Lib.SmallJoins
import Derived.Deep.RegionHeld3
import Derived.StillTailTactics
import Derived.Deep.RegionLaw
import Derived.WalkSpells
import Derived.Deep.DeepFit
import Derived.JoinedCond
import Derived.Maps.AppendAt
import Derived.RegionTactic
import Derived.Laws.Bits64b
import Derived.Lib.TrailingZeros
import Derived.Deep.DeepCutAuto
import Derived.Shelf.Spec.TrailingZeros
import Derived.RangeFuncNested
import Derived.RangeFuncBound
import Derived.RangeFuncCalls
import Derived.RangeFuncLeaves
import Derived.RangeFuncBox
import Derived.Shelf.Abstract
import Derived.Shelf.RegionOpen
import Derived.OwnWalkIn
import Derived.TacticsInMore
import Derived.LoopNIn
import Derived.LoopIn
set_option maxRecDepth 100000
set_option maxHeartbeats 16000000
set_option linter.all false
namespace Go.Proofs.YtnbcmiaaleambaaGreatDoor
open Go.ChangeAt Go.ChangeShapes Go.RowKit Go.WideShapes
section
abbrev Ext (w w':World) : Prop:=Below w.heap.size w w'
theorem Hd {p:Prop}(h:p) : Hid p:=Lib.hid h
theorem Wq (w:World) : ∃ v:World,v=w:=⟨_,rfl⟩
theorem Ext.rf (w:World) : Ext w w:=Below.refl _ _
theorem Ext.tr {a b c:World}(h:Ext a b)(k:Ext b c) : Ext a c:=Below.trans h (Below.mono k h.size)
theorem Ext.drewN {a b:World}(h:Ext a b)(n:Nat) : Ext a (b.drewN n):=⟨h.os,h.tape,h.output,h.size,h.block⟩
theorem Ext.drew {a b:World}(h:Ext a b) : Ext a b.drew:=Below.drew h
theorem Ext.alloc {a b:World}(h:Ext a b)(o:Obj) : Ext a (b.alloc o):=Below.alloc h h.size o
instance extRf (a:World) : Nonempty (Ext a a):=⟨Ext.rf a⟩
instance extDrew (a b:World)[h:Nonempty (Ext a b)] : Nonempty (Ext a b.drew):=⟨Ext.drew (h.elim id)⟩
instance extDrewN (a b:World)(n:Nat)[h:Nonempty (Ext a b)] : Nonempty (Ext a (b.drewN n)):=⟨Ext.drewN (h.elim id) n⟩
instance extAlloc (a b:World)(o:Obj)[h:Nonempty (Ext a b)] : Nonempty (Ext a (b.alloc o)):=⟨Ext.alloc (h.elim id) o⟩
theorem XI {a b:World}[h:Nonempty (Ext a b)] : Ext a b:=h.elim id
theorem Ext.setNew {a b:World}(h:Ext a b){p:Addr}(hp:a.heap.size<=p.block)(u:Value) : Ext a (b.setCell p u):=Below.setCell h hp u
theorem Ext.cells {W w1:World}(hb:Ext W w1) : (∀ b o,b<W.heap.size->w1.cell? ⟨b,o,none⟩=W.cell? ⟨b,o,none⟩)/\(∀ b o,b<W.heap.size->w1.frozen? ⟨b,o,none⟩=W.frozen? ⟨b,o,none⟩) :=
 ⟨fun b o h=>hb.cell (p:=⟨b,o,none⟩) h,fun b o h=>hb.frozen (p:=⟨b,o,none⟩) h⟩
def RdI (w:World)(A:Option Addr)(xs:List Int) : Prop :=
 xs=[]\/∃ b off,A=some ⟨b,off,none⟩/\b<w.heap.size/\∀ j x,xs[j]?=some x->w.cell? ⟨b,off+j,none⟩=some (.int .i64 x)
theorem RdI.at {w:World}{A:Option Addr}{xs:List Int}(h:RdI w A xs){k:Nat}(hk:k<xs.length) :
  ∃ b off x,A=some ⟨b,off,none⟩/\b<w.heap.size/\w.cell? ⟨b,off+k,none⟩=some (.int .i64 x)/\Hid (xs[k]?=some x)/\Hid (xs.drop k=x::xs.drop (k+1)):=by
 rcases h with rfl | ⟨b,off,rfl,hb,hc⟩
 ·simp at hk
 ·have e:xs[k]?=some xs[k]:=List.getElem?_eq_getElem hk
  exact⟨b,off,xs[k],rfl,hb,hc k _ e,e,List.drop_eq_getElem_cons hk⟩
theorem RdI.ext {w w':World}{A:Option Addr}{xs:List Int}(h:RdI w A xs)(hb:Ext w w') : RdI w' A xs:=by
 rcases h with rfl | ⟨b,off,rfl,hb',hc⟩
 ·exact .inl rfl
 ·exact .inr ⟨b,off,rfl,by have:=hb.size;omega,fun j x hj=>by rw[hb.cell hb'];exact hc j x hj⟩
theorem RdI.take {w:World}{A:Option Addr}{xs:List Int}(h:RdI w A xs)(n:Nat) : RdI w A (xs.take n):=by
 rcases h with rfl | ⟨b,off,rfl,hb',hc⟩
 ·exact .inl (by simp)
 ·exact .inr ⟨b,off,rfl,hb',fun j x hj=>hc j x (by rw[List.getElem?_take] at hj;split at hj<;>simp_all)⟩
def Blk (w:World)(g:Nat)(t:TypeId)(cs:Array Value) : Prop:=w.heap[g]?=some (.cells cs t (0,0))
section
variable {w w':World} {g:Nat} {t:TypeId} {cs:Array Value}
theorem Blk.lt (h:Blk w g t cs) : g<w.heap.size:=(Array.getElem?_eq_some_iff.1 h).1
theorem Blk.cell (h:Blk w g t cs)(i:Nat) : w.cell? ⟨g,i,none⟩=cs[i]?:=cell_of_row w g i cs t (0,0) h
theorem Blk.c0 {w:World}{g:Nat}{t:TypeId}{v0:Value}{r:List Value}(h:Blk w g t (List.toArray (v0::r))) : w.cell? ⟨g,0,none⟩=some v0:=h.cell 0
theorem Blk.c1 {w:World}{g:Nat}{t:TypeId}{v0 v1:Value}{r:List Value}(h:Blk w g t (List.toArray (v0::v1::r))) : w.cell? ⟨g,1,none⟩=some v1:=h.cell 1
theorem Blk.c2 {w:World}{g:Nat}{t:TypeId}{v0 v1 v2:Value}{r:List Value}(h:Blk w g t (List.toArray (v0::v1::v2::r))) : w.cell? ⟨g,2,none⟩=some v2:=h.cell 2
theorem Blk.c3 {w:World}{g:Nat}{t:TypeId}{v0 v1 v2 v3:Value}{r:List Value}(h:Blk w g t (List.toArray (v0::v1::v2::v3::r))) : w.cell? ⟨g,3,none⟩=some v3:=h.cell 3
theorem Blk.c4 {w:World}{g:Nat}{t:TypeId}{v0 v1 v2 v3 v4:Value}{r:List Value}(h:Blk w g t (List.toArray (v0::v1::v2::v3::v4::r))) : w.cell? ⟨g,4,none⟩=some v4:=h.cell 4
theorem Blk.c5 {w:World}{g:Nat}{t:TypeId}{v0 v1 v2 v3 v4 v5:Value}{r:List Value}(h:Blk w g t (List.toArray (v0::v1::v2::v3::v4::v5::r))) : w.cell? ⟨g,5,none⟩=some v5:=h.cell 5
theorem Blk.c6 {w:World}{g:Nat}{t:TypeId}{v0 v1 v2 v3 v4 v5 v6:Value}{r:List Value}(h:Blk w g t (List.toArray (v0::v1::v2::v3::v4::v5::v6::r))) : w.cell? ⟨g,6,none⟩=some v6:=h.cell 6
theorem Blk.c7 {w:World}{g:Nat}{t:TypeId}{v0 v1 v2 v3 v4 v5 v6 v7:Value}{r:List Value}(h:Blk w g t (List.toArray (v0::v1::v2::v3::v4::v5::v6::v7::r))) : w.cell? ⟨g,7,none⟩=some v7:=h.cell 7
theorem Blk.c8 {w:World}{g:Nat}{t:TypeId}{v0 v1 v2 v3 v4 v5 v6 v7 v8:Value}{r:List Value}(h:Blk w g t (List.toArray (v0::v1::v2::v3::v4::v5::v6::v7::v8::r))) : w.cell? ⟨g,8,none⟩=some v8:=h.cell 8
theorem Blk.c9 {w:World}{g:Nat}{t:TypeId}{v0 v1 v2 v3 v4 v5 v6 v7 v8 v9:Value}{r:List Value}(h:Blk w g t (List.toArray (v0::v1::v2::v3::v4::v5::v6::v7::v8::v9::r))) : w.cell? ⟨g,9,none⟩=some v9:=h.cell 9
theorem Blk.c10 {w:World}{g:Nat}{t:TypeId}{v0 v1 v2 v3 v4 v5 v6 v7 v8 v9 v10:Value}{r:List Value}(h:Blk w g t (List.toArray (v0::v1::v2::v3::v4::v5::v6::v7::v8::v9::v10::r))) : w.cell? ⟨g,10,none⟩=some v10:=h.cell 10
theorem Blk.c11 {w:World}{g:Nat}{t:TypeId}{v0 v1 v2 v3 v4 v5 v6 v7 v8 v9 v10 v11:Value}{r:List Value}(h:Blk w g t (List.toArray (v0::v1::v2::v3::v4::v5::v6::v7::v8::v9::v10::v11::r))) : w.cell? ⟨g,11,none⟩=some v11:=h.cell 11
theorem Blk.free (h:Blk w g t cs)(i:Nat) : w.frozen? ⟨g,i,none⟩=false:=by
 unfold Blk at h;simp[World.frozen?,h]
theorem Blk.new (h:g=w.heap.size) : Blk (w.alloc (.cells cs t)) g t cs:=by subst h;exact heap_alloc_new w _
theorem Blk.drew (h:Blk w g t cs) : Blk w.drew g t cs:=h
theorem Blk.drewN (h:Blk w g t cs)(n:Nat) : Blk (w.drewN n) g t cs:=h
theorem Blk.alloc (h:Blk w g t cs)(o:Obj) : Blk (w.alloc o) g t cs:=(Below.heap_alloc w o g h.lt).trans h
theorem Blk.set (h:Blk w g t cs)(i:Nat)(u:Value) : Blk (w.setCell ⟨g,i,none⟩ u) g t (cs.setIfInBounds i u):=by
 unfold Blk at h ⊢;simp[World.setCell,Array.getElem?_modify,h]
theorem Blk.far (h:Blk w g t cs){p:Addr}(hp:g≠p.block)(u:Value) : Blk (w.setCell p u) g t cs:=(Below.heap_setCell w p u g hp).trans h
theorem Blk.ext (h:Blk w g t cs)(hb:Ext w w') : Blk w' g t cs:=(hb.block g h.lt).trans h
theorem Blk.below {B:Nat}(h:Blk w g t cs)(hb:Below B w w')(hg:g<B) : Blk w' g t cs:=(hb.block g hg).trans h
theorem Blk.ne {g':Nat}{t':TypeId}{cs':Array Value}(h:Blk w g t cs)(h':Blk w g' t' cs')(hne:t≠t') : g≠g':=by
 rintro rfl;unfold Blk at h h';rw[h] at h'
 injection h' with h'
 injection h' with _ ht
 exact hne ht
theorem Blk.same {cs':Array Value}{t':TypeId}(h:Blk w g t cs)(h':Blk w g t' cs') : cs=cs':=by
 unfold Blk at h h';rw[h] at h'
 injection h' with h'
 injection h' with hc
end
theorem RdI.blk {w:World}{b:Nat}{cs:Array Value}{t:TypeId}{xs:List Int}(h:Blk w b t cs)(hx:cs.toList=xs.map (Value.int .i64)) : RdI w (some ⟨b,0,none⟩) xs:=by
 refine .inr ⟨_,_,rfl,h.lt,fun j x hj=>?_⟩;rw[h.cell];have:cs.toList[0+j]?=some (.int .i64 x):=by rw[hx];simp[hj]
 simpa using this
def Ints (xs:List Int) : Prop:=∀ x∈xs,-9223372036854775808<=x/\x<=9223372036854775807
theorem Ya : 0<=maxLen:=by simp only[maxLen];omega
theorem Ints.nil : Ints []:=fun x hx=>absurd hx List.not_mem_nil
theorem Ints.take {xs:List Int}(h:Ints xs)(n:Nat) : Ints (xs.take n):=fun x hx=>h x (List.mem_of_mem_take hx)
theorem Ints.get {xs:List Int}(h:Ints xs){k:Nat}{x:Int}(hk:xs[k]?=some x) : -9223372036854775808<=x/\x<=9223372036854775807:=h x (List.mem_of_getElem? hk)
theorem Xp {α:Type}{xs:List α}{k:Nat}(h:xs.length<=k) : Hid (xs.drop k=[]):=List.drop_of_length_le h
theorem ZbK {α:Type}{xs:List α}{k:Nat}(h:k<xs.length) : ∃ x,Hid (xs[k]?=some x)/\Hid (xs.drop k=x::xs.drop (k+1)) :=
 ⟨xs[k],List.getElem?_eq_getElem h,List.drop_eq_getElem_cons h⟩
theorem ZiV {w:World}{A:Option Addr}{xs:List Int}(m:Nat)(h:RdI w A xs)(hi:Ints xs) : ∃ ps:List Int,RdI w A ps/\Ints ps/\ps.length<=m/\ps.length<=xs.length/\Hid (ps=xs.take m)/\(if (m:Int)<(xs.length:Int) then(m:Int) else(xs.length:Int))=(ps.length:Int):=by
 refine⟨xs.take m,h.take m,hi.take m,List.length_take_le _ _,by simp only[List.length_take];omega,rfl,?_⟩;simp only[List.length_take];split<;>omega
theorem getD_some {α:Type}{xs:List α}{k:Nat}{x d:α}(h:xs[k]?=some x) : xs.getD k d=x:=by simp[List.getD,h]
theorem Z3 {k:IntKind}{a b:Int}(h:a=b) : Ending.returned (.int k a)=.returned (.int k b):=by rw[h]
theorem XX {a b:Bool}(h:a=b) : Ending.returned (.bool a)=.returned (.bool b):=by rw[h]
theorem own : ownKnob Tryz.prog.godebug=none:=by kernel_rfl
theorem ZiW : laidOutB Tryz.prog=true:=by kernel_rfl
theorem ZjI : Tryz.prog.underlying 4=some .bool:=Tryz.underlying4
theorem UW : Tryz.prog.cellsOf 3=1:=by kernel_rfl
theorem Zc9 {ts:List TypeId}(h:ts.all (fun t=>Tryz.prog.readableRec t&&decide (t<Tryz.prog.types.size))=true) : ∀ t∈ts,Tryz.prog.readableRec t=true/\t<Tryz.prog.types.size:=fun t ht=>by
 have:=List.all_eq_true.1 h t ht
 simpa using this
theorem Zht {x:Int}(h:(Lit.int .i64 x).wf=true) : -9223372036854775808<=x/\x<=9223372036854775807:=by
 simpa [Lit.wf,IntKind.min,IntKind.max,IntKind.signed,IntKind.bits] using h
section
variable {H:Type} {enc:TypeId×Value->H}
theorem JP {W W':World}(hb:Ext W W') : ∀ {ts:List TypeId} {vs:List Value} {ds:List (DataW H)} {p:List MemPlace},(∀ t∈ts,Tryz.prog.readableRec t=true/\t<Tryz.prog.types.size) ->
  DataW.TrodAll enc Tryz.prog W 0 (fun _=>true) true ts vs ds p->(∀ x∈p,x.block<W.heap.size)->DataW.TrodAll enc Tryz.prog W' 0 (fun b=>decide (b<W.heap.size)) true ts vs ds p
 | [],[],[],_,_,h,_=>by simpa [DataW.TrodAll] using h
 | t::ts,v::vs,d::ds,_,hr,h,hlt=>by
  obtain⟨p,q,h0,h1,rfl⟩:=h;exact⟨p,q,Below.trod ZiW (hr t (by simp)).1 (hr t (by simp)).2 h0 hb (fun x hx=>hlt x (by simp[hx])),JP hb (fun t ht=>hr t (by simp[ht])) h1 (fun x hx=>hlt x (by simp[hx])),rfl⟩
 | [],_::_,_,_,_,h,_=>by simp[DataW.TrodAll] at h
 | [],[],_::_,_,_,h,_=>by simp[DataW.TrodAll] at h
 | _::_,[],_,_,_,h,_=>by simp[DataW.TrodAll] at h
 | _::_,_::_,[],_,_,h,_=>by simp[DataW.TrodAll] at h
theorem Zhu {f:Func}{s:ChangeSpec}{W W':World}{args:Array Value}{ds gs:List (DataW H)}{before:List MemPlace}
  (hW:DataW.Whole enc Tryz.prog f.params.toList s.vars false W args.toList ds gs before) (hvars:s.vars=[]) (hr:f.resultTypes=#[4])
  (hs:(s.fn H (ds++gs)).results=[.lit (.bool true)]) (ha:(s.fn H (ds++gs)).args=ds) (hv:(s.fn H (ds++gs)).vars=[])
  (hp:∀ t∈f.params.toList,Tryz.prog.readableRec t=true/\t<Tryz.prog.types.size) (hb:Ext W W') :
  s.post enc Tryz.prog f false true false false W args (.bool true) W':=by
 have hW':=hW;obtain⟨p,q,hA,hV,rfl,hz,hn⟩:=hW;rw[hvars] at hV;obtain⟨rfl,rfl⟩:=trodVars_none hV;have hlt:∀ x∈p,x.block<W.heap.size:=fun x hx=>by simpa using hW'.lt x (by simp[hx])
 refine⟨ds,[],p++[],[],p,[],hW',?_,?_,?_,hb.frame _,fun h=>by cases h⟩
 ·rw[hs,hr]
  exact trodAll_cons_mk (shut_bool ZjI _) trodAll_mk0
 ·rw[ha]
  exact JP hb hp hA hlt
 ·rw[hv,hvars]
  simp[DataW.TrodVars]
end
end
section
theorem XE : (Tryz.prog.info? 3).map (fun i=>(i.zero,i.size,i.bytes))=some (some (.int .i64 0),1,8):=by kernel_rfl
def OwI (w:World)(base:Nat)(A:Option Addr)(c:Nat)(xs:List Int) : Prop:=w.ownsRow base 3 1 (.slice A xs.length c) xs.length (xs.map (Value.int .i64))
def bl (A:Option Addr) : Option Nat:=A.map (·.block)
theorem Wu (A:Option Addr)(n c:Nat) : (Value.slice A n c).ownBlock=bl A:=by cases A<;>rfl
section
variable {w w':World} {base:Nat} {A:Option Addr} {c:Nat} {xs:List Int}
theorem OwI.nil (w:World)(base:Nat) : OwI w base none 0 []:=World.ownsRow_nil _ _ _ _
theorem OwI.cases (h:OwI w base A c xs) : (A=none/\c=0/\xs=[])\/∃ g cur,A=some ⟨g,0,none⟩/\base<=g/\w.heap[g]?=some (.cells cur 3 (0,0))/\xs.length<=c/\c<=maxLen/\cur.size=c*1/\cur.toList.take (xs.length*1)=xs.map (Value.int .i64):=by
 rcases h.2 with⟨hv,h0⟩ | ⟨g,cap,cur,hv,hb,hg,hn,hm,hs,ht⟩
 ·have:xs=[]:=List.eq_nil_of_length_eq_zero h0
  subst this
  injection hv with h1 _ h3
  exact .inl ⟨h1,h3,rfl⟩
 ·injection hv with h1 _ h3
  subst h1 h3;exact .inr ⟨g,cur,rfl,hb,hg,hn,hm,hs,ht⟩
theorem OwI.mk {g:Nat}{cur:Array Value}(hb:base<=g)(hg:w.heap[g]?=some (.cells cur 3 (0,0)))(hn:xs.length<=c)(hm:c<=maxLen)(hs:cur.size=c*1)(ht:cur.toList.take (xs.length*1)=xs.map (Value.int .i64)) : OwI w base (some ⟨g,0,none⟩) c xs :=
 ⟨by simp,.inr ⟨g,c,cur,rfl,hb,hg,hn,hm,hs,ht⟩⟩
theorem OwI.le (h:OwI w base A c xs) : xs.length<=c/\c<=maxLen:=by
 rcases h.cases with⟨rfl,rfl,rfl⟩ | ⟨g,cur,rfl,hb,hg,hn,hm,_⟩
 ·exact⟨Nat.le_refl _,Ya⟩
 ·exact⟨hn,hm⟩
theorem OwI.read (h:OwI w base A c xs) : RdI w A xs:=by
 rcases h.cases with⟨rfl,rfl,rfl⟩ | ⟨g,cur,rfl,hb,hg,hn,hm,hs,ht⟩
 ·exact .inl rfl
 ·have hlt:=(Array.getElem?_eq_some_iff.1 hg).1
  refine .inr ⟨g,0,rfl,hlt,fun j x hj=>?_⟩;rw[cell_of_row w g _ cur _ (0,0) hg];have hj':(xs.map (Value.int .i64))[j]?=some (.int .i64 x):=by simp[hj]
  rw[<-ht,List.getElem?_take] at hj';split at hj'
  ·simpa using hj'
  ·cases hj'
theorem OwI.keep (h:OwI w base A c xs)(hb:∀ g,bl A=some g->w'.heap[g]?=w.heap[g]?) : OwI w' base A c xs:=by
 rcases h.cases with⟨rfl,rfl,rfl⟩ | ⟨g,cur,rfl,hb',hg,hn,hm,hs,ht⟩
 ·exact OwI.nil _ _
 ·exact .mk hb' ((hb g rfl).trans hg) hn hm hs ht
theorem OwI.lt (h:OwI w base A c xs) : ∀ k,bl A=some k->base<=k/\k<w.heap.size:=by
 intro k hk;rcases h.cases with⟨rfl,rfl,rfl⟩ | ⟨g,cur,rfl,hb',hg,_⟩
 ·simp[bl] at hk
 ·simp[bl] at hk
  subst hk;exact⟨hb',(Array.getElem?_eq_some_iff.1 hg).1⟩
theorem OwI.ext (h:OwI w base A c xs)(hb:Ext w w') : OwI w' base A c xs:=h.keep fun g hg=>hb.block g (h.lt g hg).2
theorem OwI.more {base':Nat}(h:OwI w base A c xs)(hb:base'<=base) : OwI w base' A c xs:=by
 rcases h.cases with⟨rfl,rfl,rfl⟩ | ⟨g,cur,rfl,hb',hg,hn,hm,hs,ht⟩
 ·exact OwI.nil _ _
 ·exact .mk (Nat.le_trans hb hb') hg hn hm hs ht
theorem OwI.at (h:OwI w base A c xs){k:Nat}(hk:k<xs.length) :
  ∃ g x,A=some ⟨g,0,none⟩/\base<=g/\g<w.heap.size/\w.cell? ⟨g,k,none⟩=some (.int .i64 x)/\w.frozen? ⟨g,k,none⟩=false/\Hid (xs[k]?=some x) /\
   Hid (∀ y,OwI (w.setCell ⟨g,k,none⟩ (.int .i64 y)) base A c (xs.set k y)):=by
 rcases h.cases with⟨rfl,rfl,rfl⟩ | ⟨g,cur,rfl,hb,hg,hn,hm,hs,ht⟩
 ·simp at hk
 ·have hlt:=(Array.getElem?_eq_some_iff.1 hg).1
  have hxk:xs[k]?=some xs[k]:=List.getElem?_eq_getElem hk;have hc:w.cell? ⟨g,k,none⟩=some (.int .i64 xs[k]):=by
   rw[cell_of_row w g _ cur _ (0,0) hg];have hj':(xs.map (Value.int .i64))[k]?=some (.int .i64 xs[k]):=by simp[hxk]
   rw[<-ht,List.getElem?_take] at hj';split at hj'
   ·simpa using hj'
   ·cases hj'
  refine⟨g,xs[k],rfl,hb,hlt,hc,by simp[World.frozen?,hg],hxk,fun y=>.mk (cur:=cur.setIfInBounds k (.int .i64 y)) hb ?_ (by simpa using hn) hm (by simpa using hs) ?_⟩
  ·simp[World.setCell,Array.getElem?_modify,hg]
  ·simp only[List.length_set,Array.toList_setIfInBounds,List.map_set,<-ht]
   rw[List.take_set]
theorem OwI.cell {g:Nat}(h:OwI w base (some ⟨g,0,none⟩) c xs){k:Nat}(hk:k<xs.length) :
  ∃ x,w.cell? ⟨g,k,none⟩=some (.int .i64 x)/\w.frozen? ⟨g,k,none⟩=false/\base<=g/\Hid (xs[k]?=some x)/\Hid (∀ y,OwI (w.setCell ⟨g,k,none⟩ (.int .i64 y)) base (some ⟨g,0,none⟩) c (xs.set k y)):=by
 obtain⟨g',x,hv,hb,hlt,hc,hf,hx,hs⟩:=h.at hk
 injection hv with h1
 injection h1 with h1
 subst h1;exact⟨x,hc,hf,hb,hx,hs⟩
theorem OwI.new {cs:Array Value}(hx:cs.toList=xs.map (Value.int .i64))(hb:base<=w.heap.size)(hm:xs.length<=maxLen) : OwI (w.alloc (.cells cs 3)) base (some ⟨w.heap.size,0,none⟩) xs.length xs:=by
 refine .mk (cur:=cs) hb (heap_alloc_new w _) (Nat.le_refl _) hm ?_ ?_
 ·rw[<-Array.length_toList,hx];simp
 ·rw[hx,List.take_of_length_le (by simp)]
end
theorem Ext.grow {a w w':World}{row:Option Nat}(h:Ext a w)(hg:w.grownBy w' row)(hr:∀ k,row=some k->a.heap.size<=k) : Ext a w':=Below.grown h hg h.size hr
theorem Ext.grownNone {a w w':World}(h:Ext a w)(hg:w.grownBy w' none) : Ext a w':=h.grow hg (fun k hk=>by cases hk)
structure Mod (S:Nat->Prop)(w w':World) : Prop where
 os:w'.os=w.os
 tape:w'.tape=w.tape
 output:w'.output=w.output
 size:w.heap.size<=w'.heap.size
 block:∀ k,k<w.heap.size->¬S k->w'.heap[k]?=w.heap[k]?
theorem Mod.of_ext {S:Nat->Prop}{w w':World}(h:Ext w w') : Mod S w w':=⟨h.os,h.tape,h.output,h.size,fun k hk _=>h.block k hk⟩
theorem Mod.rf {S:Nat->Prop}(w:World) : Mod S w w:=⟨rfl,rfl,rfl,Nat.le_refl _,fun _ _ _=>rfl⟩
theorem Mod.tr {S:Nat->Prop}{a b c:World}(h:Mod S a b)(k:Mod S b c) : Mod S a c :=
 ⟨k.os.trans h.os,k.tape.trans h.tape,k.output.trans h.output,Nat.le_trans h.size k.size,fun i hi hs=>(k.block i (Nat.lt_of_lt_of_le hi h.size) hs).trans (h.block i hi hs)⟩
theorem Mod.tr' {S S':Nat->Prop}{a b c:World}(h:Mod S a b)(k:Mod S' b c)(hS:∀ i,i<a.heap.size->S' i->S i) : Mod S a c :=
 ⟨k.os.trans h.os,k.tape.trans h.tape,k.output.trans h.output,Nat.le_trans h.size k.size,fun i hi hs=>(k.block i (Nat.lt_of_lt_of_le hi h.size) (fun h'=>hs (hS i hi h'))).trans (h.block i hi hs)⟩
theorem Mod.mono {S S':Nat->Prop}{a b:World}(h:Mod S a b)(hS:∀ i,i<a.heap.size->S i->S' i) : Mod S' a b :=
 ⟨h.os,h.tape,h.output,h.size,fun i hi hs=>h.block i hi (fun h'=>hs (hS i hi h'))⟩
theorem Mod.drewN {S:Nat->Prop}{a b:World}(h:Mod S a b)(n:Nat) : Mod S a (b.drewN n):=⟨h.os,h.tape,h.output,h.size,h.block⟩
theorem Mod.drew {S:Nat->Prop}{a b:World}(h:Mod S a b) : Mod S a b.drew:=⟨h.os,h.tape,h.output,h.size,h.block⟩
theorem Mod.alloc {S:Nat->Prop}{a b:World}(h:Mod S a b)(o:Obj) : Mod S a (b.alloc o):=h.tr (Mod.of_ext ((Ext.rf b).alloc o))
theorem Mod.set {S:Nat->Prop}{a b:World}(h:Mod S a b){p:Addr}(hp:S p.block\/a.heap.size<=p.block)(u:Value) : Mod S a (b.setCell p u) :=
 ⟨h.os,h.tape,h.output,by simpa [World.setCell] using h.size,fun i hi hs=>(Below.heap_setCell b p u i (by
  rintro rfl;rcases hp with hp | hp
  ·exact hs hp
  ·omega)).trans (h.block i hi hs)⟩
theorem Mod.below {S:Nat->Prop}{w w':World}(h:Mod S w w'){B:Nat}(hB:B<=w.heap.size)(hS:∀ k,k<B->¬S k) : Below B w w':=⟨h.os,h.tape,h.output,h.size,fun k hk=>h.block k (by omega) (hS k hk)⟩
theorem Ext.mod {S:Nat->Prop}{a w w':World}(h:Ext a w)(hm:Mod S w w')(hS:∀ k,k<a.heap.size->¬S k) : Ext a w':=Below.trans h (hm.below h.size hS)
theorem Mod.ext {S:Nat->Prop}{a w w':World}(h:Mod S a w)(hm:Ext w w') : Mod S a w':=h.tr (Mod.of_ext hm)
theorem Mod.grown {w w':World}{row:Option Nat}{S:Nat->Prop}(h:w.grownBy w' row)(hS:∀ g,row=some g->S g) : Mod S w w' :=
 ⟨h.os,h.tape,h.output,h.size,fun k hk hs=>h.block k hk (fun e=>hs (hS k e.symm))⟩
theorem Blk.mod {S:Nat->Prop}{w w':World}{g:Nat}{t:TypeId}{cs:Array Value}(h:Blk w g t cs)(hm:Mod S w w')(hg:¬S g) : Blk w' g t cs:=(hm.block g h.lt hg).trans h
theorem OwI.mod {S:Nat->Prop}{w w':World}{base:Nat}{A:Option Addr}{c:Nat}{xs:List Int}(h:OwI w base A c xs)(hm:Mod S w w')(hg:∀ g,bl A=some g->¬S g) : OwI w' base A c xs :=
 h.keep fun g hA=>hm.block g (h.lt g hA).2 (hg g hA)
theorem OwI.ne {w:World}{base:Nat}{A:Option Addr}{c:Nat}{xs:List Int}{g:Nat}{t:TypeId}{cs:Array Value}(h:OwI w base A c xs)(hg:Blk w g t cs)(ht:t≠3) : ∀ k,bl A=some k->¬k=g:=by
 rintro k hk rfl;rcases h.cases with⟨rfl,rfl,rfl⟩ | ⟨g',cur,rfl,hb',hh,_⟩
 ·simp[bl] at hk
 ·simp[bl] at hk
  subst hk;exact Blk.ne (show Blk w g' _ _ from hh) hg (Ne.symm ht) rfl
theorem OwI.far {w:World}{base:Nat}{A:Option Addr}{c:Nat}{xs:List Int}{g:Nat}{t:TypeId}{cs:Array Value}(h:OwI w base A c xs)(hg:Blk w g t cs)(ht:t≠3)(i:Nat)(u:Value) : OwI (w.setCell ⟨g,i,none⟩ u) base A c xs :=
 h.mod (S:=fun x=>x=g) (Mod.set (S:=fun x=>x=g) (p:=⟨g,i,none⟩) (Mod.rf w) (.inl rfl) u) (h.ne hg ht)
section
variable (w:World)
theorem Wa (base:Nat)(ty:TypeId)(A:Option Addr)(n cA:Nat)(xs ys:List Int)(B:Option Addr)(c:Nat)(hn:n=xs.length)(hown:OwI w base A cA xs)(hr:RdI w B ys)(hlen:xs.length+ys.length<=2^44)(hbase:base<=w.heap.size) :
  ∃ A' c' w',(Builtin.append_ #[22,22] ty #[.slice A n cA,.slice B ys.length c]).run Tryz.prog w=.ok (.slice A' (xs++ys).length c') w'/\OwI w' base A' c' (xs++ys)/\w.grownBy w' (bl A)/\(bl A'=bl A\/∃ g,bl A'=some g/\w.heap.size<=g):=by
 subst hn;obtain⟨i0,hi,hz0,hz1,hz2⟩:=info_parts XE;have hmax:xs.length+ys.length<=maxLen:=by simp only[maxLen];omega
 rcases B with _ | ad
 ·have hy:ys=[]:=by
   rcases hr with h | ⟨b,off,h,_⟩
   ·exact h
   ·cases h
  subst hy;refine⟨A,cA,w,?_,by simpa using hown,⟨rfl,rfl,rfl,Nat.le_refl _,fun _ _ _=>rfl⟩,.inl rfl⟩;have hle:=hown.le.1;simp[Builtin.append_,run_underlying Tryz.underlying22,sizeOf,typeInfo,hi,Builtin.lenOf,Builtin.firstCells,hle]
  cases A<;>simp[storeCells]
 ·have hnews:∀ j u,(ys.map (Value.int .i64))[j]?=some u->w.cell? (ad.add j)=some u:=by
   intro j u hu;rw[List.getElem?_map] at hu;obtain⟨x,hx,rfl⟩:=Option.map_eq_some_iff.1 hu;rcases hr with rfl | ⟨b,off,h,_,hc⟩
   ·simp at hx
   ·injection h with h
    subst h;rw[add_plain];exact hc j x hx
  obtain⟨v',w',hrun,h2,h3,_,h5⟩:=run_append_own_at (P:=Tryz.prog) w base 22 ty 3 i0 _ 1 8 Tryz.underlying22 hi hz0 hz1 hz2 rfl (by decide) _ xs.length _ hown ad ys.length c (ys.map (Value.int .i64)) (by simp) hnews (by simp[Value.oneCell']) hmax (by omega) hbase;rw[Wu] at h3 h5;have hv:∃ A' c',v'=.slice A' (xs++ys).length c':=by
   rcases h2.2 with⟨rfl,h0⟩ | ⟨g,cap,cur,rfl,_⟩
   ·exact⟨none,0,by rw[List.length_append,h0]⟩
   ·exact⟨some ⟨g,0,none⟩,cap,by simp⟩
  obtain⟨A',c',rfl⟩:=hv;rw[Wu] at h5;refine⟨A',c',w',hrun,by simpa [OwI] using h2,h3,?_⟩;rcases h5 with h5 | h5
  ·exact .inl h5
  ·exact .inr ⟨_,h5,Nat.le_refl _⟩
theorem Yx {ops:Array Oper}{rest:List Oper}{o:Oper}{a:Act}{Q:Exit->Act->World->Prop}(hgd:o.guard=none)(s x:Operand)
  (ho:o.op=.call { callee:=.builtin .append,args:=#[s,x],argTypes:=#[22,22] })
  (base:Nat) (A:Option Addr) (n cA:Nat) (xs ys:List Int) (B:Option Addr) (c:Nat) (hs:a.eval s=.slice A n cA) (hx:a.eval x=.slice B ys.length c) (hn:n=xs.length) (hown:OwI w base A cA xs) (hr:RdI w B ys) (hlen:xs.length+ys.length<=2^44) (hbase:base<=w.heap.size)
  (h:∀ A' c' w',OwI w' base A' c' (xs++ys)->w.grownBy w' (bl A)->(bl A'=bl A\/∃ g,bl A'=some g/\w.heap.size<=g)->wpList Tryz.prog ops Q rest (a.put o.dst (.slice A' (xs++ys).length c')) w'):wpList Tryz.prog ops Q (o::rest) a w :=
 wpList_plain hgd fun _ hK=>by
  obtain⟨A',c',w',hrun,h2,h3,h4⟩:=Wa w base o.type A n cA xs ys B c hn hown hr hlen hbase;unfold Oper.wp execOp;simp only[ho,resolve,invoke,builtin,Sem.run_bind,Sem.run_pure,Result.andThen_ok,List.map_toArray,List.map_cons,List.map_nil,hs,hx,hrun];exact hK _ _ (h A' c' w' h2 h3 h4)
theorem W6 {ops:Array Oper}{o:Oper}{a:Act}{K:Act->World->Prop}{Q:Exit->Act->World->Prop}{E:Prop}(hgd:o.guard=none)(s x:Operand)
  (ho:o.op=.call { callee:=.builtin .append,args:=#[s,x],argTypes:=#[22,22] })
  (base:Nat) (A:Option Addr) (n cA:Nat) (xs ys:List Int) (B:Option Addr) (c:Nat) (hs:a.eval s=.slice A n cA) (hx:a.eval x=.slice B ys.length c) (hn:n=xs.length) (hown:OwI w base A cA xs) (hr:RdI w B ys) (hlen:xs.length+ys.length<=2^44) (hbase:base<=w.heap.size)
  (h:∀ A' c' w',OwI w' base A' c' (xs++ys)->w.grownBy w' (bl A)->(bl A'=bl A\/∃ g,bl A'=some g/\w.heap.size<=g)->K (a.put o.dst (.slice A' (xs++ys).length c')) w') :
  if Region.wanted o (yielded ops a.tmps)=true then Oper.wp Tryz.prog o a w K Q else E:=by
 have hw:Region.wanted o (yielded ops a.tmps)=true:=by simp[Region.wanted,hgd]
 rw[if_pos hw];obtain⟨A',c',w',hrun,h2,h3,h4⟩:=Wa w base o.type A n cA xs ys B c hn hown hr hlen hbase;unfold Oper.wp execOp;simp only[ho,resolve,invoke,builtin,Sem.run_bind,Sem.run_pure,Result.andThen_ok,List.map_toArray,List.map_cons,List.map_nil,hs,hx,hrun];exact h A' c' w' h2 h3 h4
theorem W7 {ops:Array Oper}{rest:List Oper}{o:Oper}{a:Act}{Q:Exit->Act->World->Prop}(hgd:o.guard=none)(l c:Operand)(hop:o.op=Op.makeSlice 22 l c)
  (base:Nat) (L C:Int) (n:Nat) (hl:a.eval l=.int .i64 L) (hc:a.eval c=.int .i64 C) (hL:L=(n:Int)) (hC:C=(n:Int)) (hn:n<=2^44) (hbase:base<=w.heap.size)
  (hK:∀ w',OwI w' base (some ⟨w.heap.size,0,none⟩) n (List.replicate n 0)->w.grownBy w' none->wpList Tryz.prog ops Q rest (a.put o.dst (.slice (some ⟨w.heap.size,0,none⟩) n n)) w') :
  wpList Tryz.prog ops Q (o::rest) a w:=by
 obtain⟨i0,hi,hz0,hz1,hz2⟩:=info_parts XE;refine wpList_make_full w hgd l c _ hop base 3 i0 _ 1 Tryz.underlying22 hi hz0 hz1 .i64 .i64 L C n hl hc hL hC (by rw[hz2];omega) (by simp only[maxLen];omega) hbase (fun w' h2 h3=>hK w' ?_ h3);have e:(madeCells (Value.int .i64 0).cells (n*1)).toList=(List.replicate n (0:Int)).map (Value.int .i64):=by
  simp[madeCells,Value.cells,List.map_const',Nat.mod_one]
 rw[e] at h2
 simpa [OwI] using h2
end
theorem ZfW (u:World)(A:Option Addr)(n c:Nat) : (binOp .eql 22 (.slice A n c) (.slice none 0 0)).run Tryz.prog u=.ok (.bool A.isNone) u:=Lib.run_eql_slice_nil u _ 3 _ _ _ _ _ Tryz.underlying22
theorem OwI.empty {w:World}{base g:Nat}(h:Blk w g 3 #[])(hb:base<=g) : OwI w base (some ⟨g,0,none⟩) 0 []:=.mk hb h (Nat.le_refl _) Ya rfl rfl
theorem Blk.grown {w w':World}{g:Nat}{t:TypeId}{cs:Array Value}{row:Option Nat}(h:Blk w g t cs)(hb:w.grownBy w' row)(hg:row≠some g) : Blk w' g t cs:=(hb.block g h.lt (fun e=>hg e.symm)).trans h
section
variable (w:World)
theorem Qc (base:Nat)(ty:TypeId)(g:Nat)(ys:List Int)(B:Option Addr)(c:Nat)(hg:Blk w g 3 #[])(hb:base<=g)(hr:RdI w B ys)(hlen:ys.length<=2^44) :
  ∃ A' c' w',(Builtin.append_ #[22,22] ty #[.slice (some ⟨g,0,none⟩) 0 0,.slice B ys.length c]).run Tryz.prog w=.ok (.slice A' ys.length c') w'/\OwI w' base A' c' ys/\Ext w w':=by
 obtain⟨i0,hi,hz0,hz1,hz2⟩:=info_parts XE
 by_cases hy:ys=[]
 ·subst hy
  refine⟨some ⟨g,0,none⟩,0,w,?_,.empty hg hb,Ext.rf _⟩;rcases B with _ | ad
  ·simp[Builtin.append_,run_underlying Tryz.underlying22,sizeOf,typeInfo,hi,Builtin.lenOf,Builtin.firstCells,storeCells]
  ·simp[Builtin.append_,run_underlying Tryz.underlying22,sizeOf,typeInfo,hi,Builtin.lenOf,Builtin.firstCells,storeCells,loadCells,loadCellsFrom]
 ·have h0:0<ys.length:=List.length_pos_iff.2 hy
  obtain⟨b,off,rfl,hc⟩:∃ b off,B=some ⟨b,off,none⟩/\∀ j x,ys[j]?=some x->w.cell? ⟨b,off+j,none⟩=some (.int .i64 x):=by
   rcases hr with h | ⟨b,off,h,_,hc⟩
   ·exact absurd h hy
   ·exact⟨b,off,h,hc⟩
  have hnews:∀ j u,(ys.map (Value.int .i64))[j]?=some u->w.cell? ((⟨b,off,none⟩:Addr).add j)=some u:=by
   intro j u hu;rw[List.getElem?_map] at hu;obtain⟨x,hx,rfl⟩:=Option.map_eq_some_iff.1 hu;rw[add_plain];exact hc j x hx
  have hrun:=run_append_grow (P:=Tryz.prog) w 22 ty 3 i0 _ Tryz.underlying22 hi hz0 ⟨g,0,none⟩ 0 0 [] (by simp) (fun j u h=>by simp at h) ⟨b,off,none⟩ ys.length c (ys.map (Value.int .i64)) (by simp[hz1]) hnews (by omega) (by omega) (growslice_fits (by omega) (by rw[hz2];omega));have hge:=grownCap_ge w (0+ys.length) 0 3;have hle:=grownCap_le_maxLen w (0+ys.length) 0 3 (by simp only[maxLen];omega);simp only[Nat.zero_add,List.nil_append] at hrun hge hle;refine⟨_,_,_,hrun,.mk (cur:=_) (Nat.le_trans hb (Nat.le_of_lt hg.lt)) (heap_alloc_new w.drew _) hge hle ?_ ?_,((Ext.rf w).drew).alloc _⟩
  ·simp[Builtin.zeroCells,Value.cells];omega
  ·simp[Builtin.zeroCells,Value.cells]
theorem ZeH {ops:Array Oper}{rest:List Oper}{o:Oper}{a:Act}{Q:Exit->Act->World->Prop}(hgd:o.guard=none)(s x:Operand)
  (ho:o.op=.call { callee:=.builtin .append,args:=#[s,x],argTypes:=#[22,22] })
  (base g:Nat) (ys:List Int) (B:Option Addr) (c:Nat) (hs:a.eval s=.slice (some ⟨g,0,none⟩) 0 0) (hx:a.eval x=.slice B ys.length c) (hg:Blk w g 3 #[]) (hb:base<=g) (hr:RdI w B ys) (hlen:ys.length<=2^44)
  (h:∀ A' c' w',OwI w' base A' c' ys->Ext w w'->wpList Tryz.prog ops Q rest (a.put o.dst (.slice A' ys.length c')) w'):wpList Tryz.prog ops Q (o::rest) a w :=
 wpList_plain hgd fun _ hK=>by
  obtain⟨A',c',w',hrun,h2,h3⟩:=Qc w base o.type g ys B c hg hb hr hlen;unfold Oper.wp execOp;simp only[ho,resolve,invoke,builtin,Sem.run_bind,Sem.run_pure,Result.andThen_ok,List.map_toArray,List.map_cons,List.map_nil,hs,hx,hrun];exact hK _ _ (h A' c' w' h2 h3)
end
theorem Vz (A:Option Addr)(c:Nat)(xs:List Int)(w:World)(hx:RdI w A xs)(hl:xs.length<=2^44) :
  Calls Tryz.prog 62 #[.slice A xs.length c] w fun e w'=>∃ A' c',e=.returned (.slice A' xs.length c')/\OwI w' w.heap.size A' c' xs/\Ext w w':=by
 rcases A with _ | ⟨b,off,sp⟩
 ·have h0:xs=[]:=by
   rcases hx with h | ⟨_,_,h,_⟩
   ·exact h
   ·cases h
  subst h0;clear hl hx;have hnil:=fun u:World=>ZfW u none 0 c
  simp only[List.length_nil];go_enter Tryz.func62,Tryz.ntmps62;go_wp2;go_ret;exact⟨_,_,rfl,OwI.nil _ _,Ext.rf _⟩
 ·have hnil:=fun u:World=>ZfW u (some ⟨b,off,sp⟩) xs.length c
  go_enter Tryz.func62,Tryz.ntmps62;go_wp2_with (at_builtin;refine Yx _ rfl _ _ rfl w.heap.size (some ⟨w.heap.size,0,none⟩) 0 0 [] xs (some ⟨b,off,sp⟩) c rfl rfl rfl (by exact OwI.new (xs:=[]) rfl (Nat.le_refl _) Ya) (by exact hx.ext ((Ext.rf _).alloc _)) (by simpa using hl) (by simp) ?_;rintro A1 c1 w1 hown hg _);go_ret;exact⟨_,_,rfl,hown,((Ext.rf w).alloc _).grow hg (by intro k hk;simp[bl] at hk;omega)⟩
end
section
def RdV (w:World)(e:TypeId)(A:Option Addr)(vs:List Value) : Prop :=
 vs=[]\/∃ b off cur,A=some ⟨b,off,none⟩/\w.heap[b]?=some (.cells cur e (0,0))/\∀ j v,vs[j]?=some v->cur[off+j]?=some v
def RdC (w:World)(A:Option Addr)(vs:List Value) : Prop :=
 vs=[]\/∃ b off,A=some ⟨b,off,none⟩/\b<w.heap.size/\∀ j v,vs[j]?=some v->w.cell? ⟨b,off+j,none⟩=some v
section
variable {w w':World} {e:TypeId} {A:Option Addr} {vs:List Value}
theorem RdV.nil (w:World)(e:TypeId)(A:Option Addr) : RdV w e A []:=.inl rfl
theorem RdV.rdC (h:RdV w e A vs) : RdC w A vs:=by
 rcases h with rfl | ⟨b,off,cur,rfl,hb,hc⟩
 ·exact .inl rfl
 ·exact .inr ⟨b,off,rfl,(Array.getElem?_eq_some_iff.1 hb).1,fun j v hj=>by rw[cell_of_row w b _ cur e (0,0) hb];exact hc j v hj⟩
theorem RdC.ext (h:RdC w A vs)(hb:Ext w w') : RdC w' A vs:=by
 rcases h with rfl | ⟨b,off,rfl,hlt,hc⟩
 ·exact .inl rfl
 ·exact .inr ⟨b,off,rfl,Nat.lt_of_lt_of_le hlt hb.size,fun j v hj=>by rw[hb.cell hlt];exact hc j v hj⟩
theorem RdV.keep (h:RdV w e A vs)(hb:∀ b,bl A=some b->w'.heap[b]?=w.heap[b]?) : RdV w' e A vs:=by
 rcases h with rfl | ⟨b,off,cur,rfl,hh,hc⟩
 ·exact .inl rfl
 ·exact .inr ⟨b,off,cur,rfl,(hb b rfl).trans hh,hc⟩
theorem RdV.lt (h:RdV w e A vs)(hne:vs≠[]) : ∀ b,bl A=some b->b<w.heap.size:=by
 intro b hb;rcases h with rfl | ⟨b',off,cur,rfl,hh,hc⟩
 ·exact absurd rfl hne
 ·simp[bl] at hb
  subst hb;exact(Array.getElem?_eq_some_iff.1 hh).1
theorem RdV.ext (h:RdV w e A vs)(hx:Ext w w') : RdV w' e A vs:=by
 rcases h with rfl | ⟨b,off,cur,rfl,hh,hc⟩
 ·exact .inl rfl
 ·exact .inr ⟨b,off,cur,rfl,(hx.block b (Array.getElem?_eq_some_iff.1 hh).1).trans hh,hc⟩
theorem RdV.mod {S:Nat->Prop}(h:RdV w e A vs)(hm:Mod S w w')(hS:∀ k cur,w.heap[k]?=some (.cells cur e (0,0))->¬S k) : RdV w' e A vs:=by
 rcases h with rfl | ⟨b,off,cur,rfl,hh,hc⟩
 ·exact .inl rfl
 ·exact .inr ⟨b,off,cur,rfl,(hm.block b (Array.getElem?_eq_some_iff.1 hh).1 (hS b cur hh)).trans hh,hc⟩
theorem RdV.blk {b:Nat}{cs:Array Value}(h:Blk w b e cs) : RdV w e (some ⟨b,0,none⟩) cs.toList :=
 .inr ⟨b,0,cs,rfl,h,fun j v hj=>by simpa using hj⟩
theorem RdV.at (h:RdV w e A vs){j:Nat}(hj:j<vs.length) : ∃ b off v,A=some ⟨b,off,none⟩/\b<w.heap.size/\w.cell? ⟨b,off+j,none⟩=some v/\Hid (vs[j]?=some v):=by
 rcases h.rdC with rfl | ⟨b,off,rfl,hlt,hc⟩
 ·simp at hj
 ·exact⟨b,off,vs[j],rfl,hlt,hc j _ (List.getElem?_eq_getElem hj),List.getElem?_eq_getElem hj⟩
theorem RdV.form (h:RdV w e A vs)(hne:vs≠[]) : ∃ b off,A=some ⟨b,off,none⟩/\b<w.heap.size/\∀ j v,vs[j]?=some v->w.cell? ⟨b,off+j,none⟩=some v:=by
 rcases h.rdC with rfl | ⟨b,off,rfl,hlt,hc⟩
 ·exact absurd rfl hne
 ·exact⟨b,off,rfl,hlt,hc⟩
theorem RdV.drop (h:RdV w e A vs)(k:Nat) : RdV w e (A.map (·.add k)) (vs.drop k):=by
 rcases h with rfl | ⟨b,off,cur,rfl,hh,hc⟩
 ·exact .inl (by simp)
 ·refine .inr ⟨b,off+k,cur,by simp[add_plain],hh,fun j v hj=>?_⟩
  rw[List.getElem?_drop] at hj;rw[Nat.add_assoc];exact hc _ v hj
theorem RdV.take (h:RdV w e A vs)(k:Nat) : RdV w e A (vs.take k):=by
 rcases h with rfl | ⟨b,off,cur,rfl,hh,hc⟩
 ·exact .inl (by simp)
 ·refine .inr ⟨b,off,cur,rfl,hh,fun j v hj=>?_⟩
  rw[List.getElem?_take] at hj;split at hj
  ·exact hc j v hj
  ·cases hj
end
def OwV (w:World)(base:Nat)(e:TypeId)(size:Nat)(A:Option Addr)(n c:Nat)(vs:List Value) : Prop:=w.ownsRow base e size (.slice A n c) n vs
section
variable {w w':World} {base:Nat} {e:TypeId} {size:Nat} {A:Option Addr} {n c:Nat} {vs:List Value}
theorem OwV.nil (w:World)(base:Nat)(e:TypeId)(size:Nat) : OwV w base e size none 0 0 []:=World.ownsRow_nil _ _ _ _
theorem OwV.cases (h:OwV w base e size A n c vs) : (A=none/\c=0/\n=0/\vs=[])\/∃ g cur,A=some ⟨g,0,none⟩/\base<=g/\w.heap[g]?=some (.cells cur e (0,0))/\n<=c/\c<=maxLen/\cur.size=c*size/\cur.toList.take (n*size)=vs:=by
 rcases h.2 with⟨hv,h0⟩ | ⟨g,cap,cur,hv,hb,hg,hn,hm,hs,ht⟩
 ·injection hv with h1 _ h3
  have:=h.1;rw[h0,Nat.zero_mul] at this;exact .inl ⟨h1,h3,h0,List.eq_nil_of_length_eq_zero this⟩
 ·injection hv with h1 _ h3
  subst h1 h3;exact .inr ⟨g,cur,rfl,hb,hg,hn,hm,hs,ht⟩
theorem OwV.mk {g:Nat}{cur:Array Value}(hb:base<=g)(hg:w.heap[g]?=some (.cells cur e (0,0)))(hn:n<=c)(hm:c<=maxLen)(hs:cur.size=c*size)(ht:cur.toList.take (n*size)=vs) : OwV w base e size (some ⟨g,0,none⟩) n c vs :=
 ⟨by rw[<-ht,List.length_take,Array.length_toList,hs];exact Nat.min_eq_left (Nat.mul_le_mul_right _ hn),.inr ⟨g,c,cur,rfl,hb,hg,hn,hm,hs,ht⟩⟩
theorem OwV.le (h:OwV w base e size A n c vs) : n<=c/\c<=maxLen:=by
 rcases h.cases with⟨rfl,rfl,rfl,rfl⟩ | ⟨g,cur,rfl,hb,hg,hn,hm,_⟩
 ·exact⟨Nat.le_refl _,Ya⟩
 ·exact⟨hn,hm⟩
theorem OwV.len (h:OwV w base e size A n c vs) : vs.length=n*size:=h.1
theorem OwV.read (h:OwV w base e size A n c vs) : RdV w e A vs:=by
 rcases h.cases with⟨rfl,rfl,rfl,rfl⟩ | ⟨g,cur,rfl,hb,hg,hn,hm,hs,ht⟩
 ·exact .inl rfl
 ·refine .inr ⟨g,0,cur,rfl,hg,fun j v hj=>?_⟩
  rw[<-ht,List.getElem?_take] at hj;split at hj
  ·simpa using hj
  ·cases hj
theorem OwV.keep (h:OwV w base e size A n c vs)(hb:∀ g,bl A=some g->w'.heap[g]?=w.heap[g]?) : OwV w' base e size A n c vs:=by
 rcases h.cases with⟨rfl,rfl,rfl,rfl⟩ | ⟨g,cur,rfl,hb',hg,hn,hm,hs,ht⟩
 ·exact OwV.nil _ _ _ _
 ·exact .mk hb' ((hb g rfl).trans hg) hn hm hs ht
theorem OwV.lt (h:OwV w base e size A n c vs) : ∀ k,bl A=some k->base<=k/\k<w.heap.size:=by
 intro k hk;rcases h.cases with⟨rfl,rfl,rfl,rfl⟩ | ⟨g,cur,rfl,hb',hg,_⟩
 ·simp[bl] at hk
 ·simp[bl] at hk
  subst hk;exact⟨hb',(Array.getElem?_eq_some_iff.1 hg).1⟩
theorem OwV.ext (h:OwV w base e size A n c vs)(hb:Ext w w') : OwV w' base e size A n c vs:=h.keep fun g hg=>hb.block g (h.lt g hg).2
theorem OwV.more {base':Nat}(h:OwV w base e size A n c vs)(hb:base'<=base) : OwV w base' e size A n c vs:=by
 rcases h.cases with⟨rfl,rfl,rfl,rfl⟩ | ⟨g,cur,rfl,hb',hg,hn,hm,hs,ht⟩
 ·exact OwV.nil _ _ _ _
 ·exact .mk (Nat.le_trans hb hb') hg hn hm hs ht
theorem OwV.mod {S:Nat->Prop}(h:OwV w base e size A n c vs)(hm:Mod S w w')(hg:∀ g,bl A=some g->¬S g) : OwV w' base e size A n c vs :=
 h.keep fun g hA=>hm.block g (h.lt g hA).2 (hg g hA)
theorem OwV.ne {g:Nat}{t:TypeId}{cs:Array Value}(h:OwV w base e size A n c vs)(hg:Blk w g t cs)(ht:t≠e) : ∀ k,bl A=some k->¬k=g:=by
 rintro k hk rfl;rcases h.cases with⟨rfl,rfl,rfl,rfl⟩ | ⟨g',cur,rfl,hb',hh,_⟩
 ·simp[bl] at hk
 ·simp[bl] at hk
  subst hk;exact Blk.ne (show Blk w g' _ _ from hh) hg (Ne.symm ht) rfl
theorem OwV.set {g:Nat}(h:OwV w base e size (some ⟨g,0,none⟩) n c vs){j:Nat}(hj:j<vs.length)(u:Value) :
  w.cell? ⟨g,j,none⟩=vs[j]?/\w.frozen? ⟨g,j,none⟩=false/\base<=g/\OwV (w.setCell ⟨g,j,none⟩ u) base e size (some ⟨g,0,none⟩) n c (vs.set j u):=by
 rcases h.cases with⟨h0,_⟩ | ⟨g',cur,hA,hb,hg,hn,hm,hs,ht⟩
 ·cases h0
 ·injection hA with hA
  injection hA with hA
  subst hA;refine⟨?_,by simp[World.frozen?,hg],hb,.mk (cur:=cur.setIfInBounds j u) hb ?_ hn hm (by simpa using hs) ?_⟩
  ·rw[cell_of_row w g _ cur _ (0,0) hg,<-ht,List.getElem?_take,if_pos]
   ·simp
   ·rw[<-ht,List.length_take] at hj
    omega
  ·simp[World.setCell,Array.getElem?_modify,hg]
  ·simp only[Array.toList_setIfInBounds,<-ht]
   rw[List.take_set]
theorem OwV.full {g:Nat}{cs:Array Value}(h:Blk w g e cs)(hb:base<=g)(hs:cs.size=n*size)(hm:n<=maxLen) : OwV w base e size (some ⟨g,0,none⟩) n n cs.toList :=
 .mk hb h (Nat.le_refl _) hm hs (List.take_of_length_le (by rw[Array.length_toList,hs];exact Nat.le_refl _))
end
section
variable (w:World) {t e:TypeId} {i:TypeInfo} {z:Value} {size bytes:Nat} (ht:Tryz.prog.underlying t=some (.slice e)) (hi:Tryz.prog.info? e=some i) (hz:i.zero=some z) (hsize:i.size=size) (hby:i.bytes=bytes) (hzs:z.cells.size=size) (hsz:0<size)
include ht hi hz hsize hby hzs hsz
theorem VB (base:Nat)(ty:TypeId)(A:Option Addr)(n cA:Nat)(xs:List Value)(B:Option Addr)(m c:Nat)(ys:List Value)(hown:OwV w base e size A n cA xs)(hr:RdC w B ys)(hm:ys.length=m*size)(h1:∀ u∈ys,u.oneCell'=true)
  (h63:n+m<=maxLen) (hbytes:(n+m)*bytes<=140737488355328) (hbase:base<=w.heap.size) :
  ∃ A' c' w',(Builtin.append_ #[t,t] ty #[.slice A n cA,.slice B m c]).run Tryz.prog w=.ok (.slice A' (n+m) c') w'/\OwV w' base e size A' (n+m) c' (xs++ys)/\w.grownBy w' (bl A)/\(bl A'=bl A\/bl A'=some w.heap.size):=by
 rcases B with _ | ad
 ·have hy:ys=[]:=by
   rcases hr with h | ⟨b,off,h,_⟩
   ·exact h
   ·cases h
  subst hy;have hm0:m=0:=by
   simp only[List.length_nil] at hm;rcases Nat.eq_zero_or_pos m with h | h
   ·exact h
   ·have:=Nat.mul_pos h hsz;omega
  subst hm0;refine⟨A,cA,w,?_,by simpa using hown,⟨rfl,rfl,rfl,Nat.le_refl _,fun _ _ _=>rfl⟩,.inl rfl⟩;have hle:=hown.le.1;simp[Builtin.append_,run_underlying ht,sizeOf,typeInfo,hi,Builtin.lenOf,Builtin.firstCells,hle]
  cases A<;>simp[storeCells]
 ·have hnews:∀ j u,ys[j]?=some u->w.cell? (ad.add j)=some u:=by
   intro j u hu;rcases hr with rfl | ⟨b,off,h,_,hc⟩
   ·simp at hu
   ·injection h with h
    subst h;rw[add_plain];exact hc j u hu
  obtain⟨v',w',hrun,h2,h3,_,h5⟩:=run_append_own_at (P:=Tryz.prog) w base t ty e i z size bytes ht hi hz hsize hby hzs hsz _ n _ hown ad m c ys hm hnews h1 h63 hbytes hbase;rw[Wu] at h3 h5;have hv:∃ A' c',v'=.slice A' (n+m) c':=by
   rcases h2.2 with⟨rfl,h0⟩ | ⟨g,cap,cur,rfl,_⟩
   ·exact⟨none,0,by rw[h0]⟩
   ·exact⟨some ⟨g,0,none⟩,cap,rfl⟩
  obtain⟨A',c',rfl⟩:=hv;rw[Wu] at h5;exact⟨A',c',w',hrun,h2,h3,h5⟩
theorem Zda (base:Nat)(ty:TypeId)(g n:Nat)(cs:Array Value)(B:Option Addr)(m c:Nat)(ys:List Value)(hg:Blk w g e cs)(hb:base<=g)(hn:cs.size=n*size)(hr:RdC w B ys)(hm:ys.length=m*size)(h1:∀ u∈ys,u.oneCell'=true)
  (h63:n+m<=maxLen) (hbytes:(n+m)*bytes<=140737488355328) :
  ∃ A' c' w',(Builtin.append_ #[t,t] ty #[.slice (some ⟨g,0,none⟩) n n,.slice B m c]).run Tryz.prog w=.ok (.slice A' (n+m) c') w'/\OwV w' base e size A' (n+m) c' (cs.toList++ys)/\Ext w w':=by
 by_cases hy:ys=[]
 ·subst hy
  have hm0:m=0:=by
   simp only[List.length_nil] at hm;rcases Nat.eq_zero_or_pos m with h | h
   ·exact h
   ·have:=Nat.mul_pos h hsz;omega
  subst hm0;refine⟨some ⟨g,0,none⟩,n,w,?_,by simpa using OwV.full hg hb hn (by simpa using h63),Ext.rf _⟩;rcases B with _ | ad
  ·simp[Builtin.append_,run_underlying ht,sizeOf,typeInfo,hi,Builtin.lenOf,Builtin.firstCells,storeCells]
  ·simp[Builtin.append_,run_underlying ht,sizeOf,typeInfo,hi,Builtin.lenOf,Builtin.firstCells,storeCells,loadCells,loadCellsFrom]
 ·have hm0:0<m:=by
   rcases Nat.eq_zero_or_pos m with h | h
   ·rw[h,Nat.zero_mul] at hm
    exact absurd (List.eq_nil_of_length_eq_zero hm) hy
   ·exact h
  obtain⟨b,off,rfl,hc⟩:∃ b off,B=some ⟨b,off,none⟩/\∀ j x,ys[j]?=some x->w.cell? ⟨b,off+j,none⟩=some x:=by
   rcases hr with h | ⟨b,off,h,_,hc⟩
   ·exact absurd h hy
   ·exact⟨b,off,h,hc⟩
  have hnews:∀ j u,ys[j]?=some u->w.cell? ((⟨b,off,none⟩:Addr).add j)=some u:=by
   intro j u hu;rw[add_plain];exact hc j u hu
  have holds:∀ j u,cs.toList[j]?=some u->w.cell? ((⟨g,0,none⟩:Addr).add j)=some u:=by
   intro j u hu;rw[add_plain,hg.cell]
   simpa using hu
  subst hsize hby;have hrun:=run_append_grow (P:=Tryz.prog) w t ty e i z ht hi hz ⟨g,0,none⟩ n n cs.toList (by rw[Array.length_toList];exact hn) holds ⟨b,off,none⟩ m c ys hm hnews (by omega) (by have h:=h63;simp only[maxLen] at h;omega) (growslice_fits (by omega) hbytes);have hge:=grownCap_ge w (n+m) n e;have hle:=grownCap_le_maxLen w (n+m) n e h63;have hlen:(cs.toList++ys).length=(n+m)*i.size:=by rw[List.length_append,Array.length_toList,hn,hm,Nat.add_mul]
  refine⟨_,_,_,hrun,.mk (cur:=_) (Nat.le_trans hb (Nat.le_of_lt hg.lt)) (heap_alloc_new w.drew _) hge hle ?_ ?_,((Ext.rf w).drew).alloc _⟩
  ·simp only[Array.size_append,List.size_toArray,size_zeroCells,hzs,Array.length_toList,hn,hm,<-Nat.add_mul]
   congr 1
   omega
  ·simp only[Array.toList_append,List.append_assoc]
   rw[<-List.append_assoc,<-hlen];exact List.take_left
theorem ZU {ops:Array Oper}{rest:List Oper}{o:Oper}{a:Act}{Q:Exit->Act->World->Prop}(hgd:o.guard=none)(s x:Operand)
  (ho:o.op=.call { callee:=.builtin .append,args:=#[s,x],argTypes:=#[t,t] })
  (base:Nat) (A:Option Addr) (n cA:Nat) (xs:List Value) (B:Option Addr) (m c:Nat) (ys:List Value) (hs:a.eval s=.slice A n cA) (hx:a.eval x=.slice B m c) (hown:OwV w base e size A n cA xs) (hr:RdC w B ys) (hm:ys.length=m*size) (h1:∀ u∈ys,u.oneCell'=true)
  (h63:n+m<=maxLen) (hbytes:(n+m)*bytes<=140737488355328) (hbase:base<=w.heap.size)
  (h:∀ A' c' w',OwV w' base e size A' (n+m) c' (xs++ys)->w.grownBy w' (bl A)->(bl A'=bl A\/bl A'=some w.heap.size)->wpList Tryz.prog ops Q rest (a.put o.dst (.slice A' (n+m) c')) w'):wpList Tryz.prog ops Q (o::rest) a w :=
 wpList_plain hgd fun _ hK=>by
  obtain⟨A',c',w',hrun,h2,h3,h4⟩:=VB w ht hi hz hsize hby hzs hsz base o.type A n cA xs B m c ys hown hr hm h1 h63 hbytes hbase;unfold Oper.wp execOp;simp only[ho,resolve,invoke,builtin,Sem.run_bind,Sem.run_pure,Result.andThen_ok,List.map_toArray,List.map_cons,List.map_nil,hs,hx,hrun];exact hK _ _ (h A' c' w' h2 h3 h4)
end
end
section
def ZQ (lt:Nat->Nat->Bool) : Nat->List Nat->List Nat
 | 0,p=>p
 | f+1,p=>if p.length<2 then p else List.merge (ZQ lt f (p.take (p.length / 2))) (ZQ lt f (p.drop (p.length / 2))) (fun x y => !lt y x)
theorem Yb (lt:Nat->Nat->Bool) : ∀ (f:Nat) (p:List Nat),(ZQ lt f p).Perm p
 | 0,p=>List.Perm.refl p
 | f+1,p=>by
  unfold ZQ;split
  ·exact List.Perm.refl p
  ·refine(List.merge_perm_append _).trans ?_
   have h:=(Yb lt f (p.take (p.length / 2))).append (Yb lt f (p.drop (p.length / 2)))
   rwa [List.take_append_drop] at h
theorem Zat (lt:Nat->Nat->Bool)(f:Nat)(p:List Nat) : (ZQ lt f p).length=p.length:=(Yb lt f p).length_eq
def strictly (lt:Nat->Nat->Bool)(a b:Nat) : Prop:=lt a b=true\/(lt b a=false/\a<b)
structure Weak (lt:Nat->Nat->Bool) : Prop where
 asym:∀ a b,lt a b=true->lt b a=false
 neg:∀ a b c,lt a c=true->lt a b=true\/lt b c=true
theorem Weak.trans {lt:Nat->Nat->Bool}(h:Weak lt){a b c:Nat}(h1:strictly lt a b)(h2:strictly lt b c) : strictly lt a c:=by
 rcases h1 with h1 | ⟨h1,l1⟩<;>rcases h2 with h2 | ⟨h2,l2⟩
 ·rcases h.neg a c b h1 with h3 | h3
  ·exact .inl h3
  ·rw[h.asym b c h2] at h3;cases h3
 ·rcases h.neg a c b h1 with h3 | h3
  ·exact .inl h3
  ·rw[h2] at h3;cases h3
 ·rcases h.neg b a c h2 with h3 | h3
  ·rw[h1] at h3;cases h3
  ·exact .inl h3
 ·refine .inr ⟨?_,by omega⟩
  cases h3:lt c a with
  | false=>rfl
  | true =>
   rcases h.neg c b a h3 with h4 | h4
   ·rw[h2] at h4;cases h4
   ·rw[h1] at h4;cases h4
theorem Weak.irrefl {lt:Nat->Nat->Bool}(h:Weak lt)(a:Nat) : ¬strictly lt a a:=by
 rintro (h1 | ⟨_,h1⟩)
 ·have:=h.asym a a h1;rw[h1] at this;cases this
 ·omega
theorem Weak.asymm {lt:Nat->Nat->Bool}(h:Weak lt){a b:Nat}(h1:strictly lt a b) : ¬strictly lt b a:=fun h2=>h.irrefl a (h.trans h1 h2)
theorem V8 {lt:Nat->Nat->Bool}(h:Weak lt) : ∀ (n:Nat) (l r:List Nat),l.length+r.length<=n->l.Pairwise (strictly lt)->r.Pairwise (strictly lt)->(∀ a∈l,∀ b∈r,a<b)->(List.merge l r (fun x y => !lt y x)).Pairwise (strictly lt)
 | n,[],r,_,_,hr,_=>by rw[List.nil_merge];exact hr
 | n,a::l,[],_,hl,_,_=>by rw[List.merge_right];exact hl
 | 0,a::l,b::r,hn,_,_,_=>by simp at hn
 | n+1,a::l,b::r,hn,hl,hr,hlt=>by
  rw[List.cons_merge_cons];have hl':=List.pairwise_cons.1 hl;have hr':=List.pairwise_cons.1 hr;split
  ·rename_i hab
   have hab':lt b a=false:=by simpa using hab
   have R:strictly lt a b:=.inr ⟨hab',hlt a (by simp) b (by simp)⟩;refine List.pairwise_cons.2 ⟨fun x hx=>?_,V8 h n l (b::r) (by simp at hn ⊢;omega) hl'.2 hr (fun x hx y hy=>hlt x (by simp[hx]) y hy)⟩;rcases List.mem_merge.1 hx with hx | hx
   ·exact hl'.1 x hx
   ·rcases List.mem_cons.1 hx with rfl | hx
    ·exact R
    ·exact h.trans R (hr'.1 x hx)
  ·rename_i hab
   have hab':lt b a=true:=by simpa using hab
   have R:strictly lt b a:=.inl hab';refine List.pairwise_cons.2 ⟨fun x hx=>?_,V8 h n (a::l) r (by simp at hn ⊢;omega) hl hr'.2 (fun x hx y hy=>hlt x hx y (by simp[hy]))⟩;rcases List.mem_merge.1 hx with hx | hx
   ·rcases List.mem_cons.1 hx with rfl | hx
    ·exact R
    ·exact h.trans R (hl'.1 x hx)
   ·exact hr'.1 x hx
theorem Wp {lt:Nat->Nat->Bool}(h:Weak lt) : ∀ (f:Nat) (p:List Nat),p.length<=f+1->p.Pairwise (· < ·)->(ZQ lt f p).Pairwise (strictly lt)
 | 0,p,hf,_=>by
  match p,hf with
  | [],_=>exact List.Pairwise.nil
  | [a],_=>exact List.pairwise_singleton _ _
 | f+1,p,hf,hp=>by
  unfold ZQ;split
  ·rename_i h2
   match p,h2 with
   | [],_=>exact List.Pairwise.nil
   | [a],_=>exact List.pairwise_singleton _ _
  ·rename_i h2
   refine V8 h _ _ _ (Nat.le_refl _) (Wp h f _ (by simp;omega) (hp.sublist (List.take_sublist _ _))) (Wp h f _ (by simp;omega) (hp.sublist (List.drop_sublist _ _))) ?_;intro a ha b hb;rw[(Yb lt f _).mem_iff] at ha hb;have:=List.pairwise_append.1 (by rw[List.take_append_drop (p.length / 2) p];exact hp);exact this.2.2 a ha b hb
def YE (v w:List Int)(a b:Nat) : Bool :=
 if w.getD b 0=0 then false else if w.getD a 0=0 then true else decide (v.getD b 0*w.getD a 0<v.getD a 0*w.getD b 0)
theorem Vn {w:List Int}(hw:∀ x∈w,0<=x)(a:Nat) : 0<=w.getD a 0:=by
 rw[List.getD_eq_getElem?_getD]
 cases h:w[a]? with
 | none=>simp
 | some x=>exact hw x (List.mem_of_getElem? h)
theorem Us {v w:List Int}(hw:∀ x∈w,0<=x) : Weak (YE v w):=by
 have nn:=Vn hw
 constructor
 ·intro a b hab
  unfold YE at hab ⊢;have na:=nn a;have nb:=nn b
  by_cases b0:w.getD b 0=0
  ·rw[if_pos b0] at hab;cases hab
  ·rw[if_neg b0] at hab
   by_cases a0:w.getD a 0=0
   ·rw[if_pos a0]
   ·rw[if_neg a0] at hab
    rw[if_neg a0,if_neg b0];have:=of_decide_eq_true hab;exact decide_eq_false (by omega)
 ·intro a b c hac
  unfold YE at hac ⊢;have na:=nn a;have nb:=nn b;have nc:=nn c
  by_cases c0:w.getD c 0=0
  ·rw[if_pos c0] at hac;cases hac
  ·rw[if_neg c0] at hac
   rw[if_neg c0]
   by_cases b0:w.getD b 0=0
   ·right;rw[if_pos b0]
   ·rw[if_neg b0,if_neg b0]
    by_cases a0:w.getD a 0=0
    ·left;rw[if_pos a0]
    ·rw[if_neg a0] at hac ⊢
     have h1:=of_decide_eq_true hac;generalize v.getD a 0=va at *;generalize v.getD b 0=vb at *;generalize v.getD c 0=vc at *;generalize w.getD a 0=wa at *;generalize w.getD b 0=wb at *;generalize w.getD c 0=wc at *
     by_cases h2:vb*wa<va*wb
     ·left;exact decide_eq_true h2
     ·right
      refine decide_eq_true ?_;have h3:va*wb<=vb*wa:=by omega
      have h4:wb*(vc*wa)<wb*(va*wc):=Int.mul_lt_mul_of_pos_left h1 (by omega);have h5:wc*(va*wb)<=wc*(vb*wa):=Int.mul_le_mul_of_nonneg_left h3 nc;have e1:wb*(vc*wa)=wa*(vc*wb):=by rw[Int.mul_comm vc wa,<-Int.mul_assoc,Int.mul_comm wb wa,Int.mul_assoc,Int.mul_comm wb vc]
      have e2:wb*(va*wc)=wc*(va*wb):=by rw[Int.mul_comm va wc,<-Int.mul_assoc,Int.mul_comm wb wc,Int.mul_assoc,Int.mul_comm wb va]
      have e3:wc*(vb*wa)=wa*(vb*wc):=by rw[Int.mul_comm vb wa,<-Int.mul_assoc,Int.mul_comm wc wa,Int.mul_assoc,Int.mul_comm wc vb]
      rw[e1,e2] at h4;rw[e3] at h5;exact Int.lt_of_mul_lt_mul_left (Int.lt_of_lt_of_le h4 h5) na
def ZR (v w:List Int) : List Nat:=ZQ (YE v w) v.length (List.range v.length)
theorem Ut (v w:List Int) : (ZR v w).Perm (List.range v.length):=Yb _ _ _
theorem Xw (v w:List Int) : (ZR v w).length=v.length:=by rw[(Ut v w).length_eq,List.length_range]
theorem U8 {v w:List Int}(hw:∀ x∈w,0<=x) : (ZR v w).Pairwise (strictly (YE v w)) :=
 Wp (Us hw) _ _ (by simp) List.pairwise_lt_range
theorem Qd {v w:List Int}{a:Nat} : a∈ZR v w↔a<v.length:=by rw[(Ut v w).mem_iff,List.mem_range]
theorem VD {v w:List Int}{k a:Nat}(h:(ZR v w)[k]?=some a) : a<v.length:=Qd.1 (List.mem_of_getElem? h)
def Wr (v w:List Int)(a b:Nat) : Bool :=
 if w.getD a 0=0\/w.getD b 0=0 then decide (w.getD a 0=0)&&(decide (w.getD b 0≠0) || decide (a<b))
 else decide (v.getD b 0*w.getD a 0<v.getD a 0*w.getD b 0) || (decide (v.getD a 0*w.getD b 0=v.getD b 0*w.getD a 0)&&decide (a<b))
theorem Zdb (v w:List Int)(a b:Nat) : Wr v w a b=true↔strictly (YE v w) a b:=by
 unfold Wr strictly YE;generalize v.getD a 0=va;generalize v.getD b 0=vb;generalize w.getD a 0=wa;generalize w.getD b 0=wb
 by_cases a0:wa=0
 ·subst a0
  by_cases b0:wb=0
  ·subst b0;simp
  ·simp[b0]
 ·by_cases b0:wb=0
  ·subst b0;simp[a0]
  ·rw[if_neg (by simp[a0,b0]),if_neg b0,if_neg a0,if_neg a0,if_neg b0]
   simp only[Bool.or_eq_true,Bool.and_eq_true,decide_eq_true_eq,decide_eq_false_iff_not];generalize vb*wa=x;generalize va*wb=y;omega
def YK (v w:List Int)(a m:Nat) : Nat:=(List.range m).countP (fun b=>decide (b≠a)&&Wr v w b a)
theorem Zdc (v w:List Int)(a m:Nat) : YK v w a (m+1)=YK v w a m+if (decide (m≠a)&&Wr v w m a)=true then 1 else 0:=by
 unfold YK;rw[List.range_succ,List.countP_append];simp[List.countP_cons]
theorem Zgn (v w:List Int)(a m:Nat) : YK v w a m<=m:=by
 have:=List.countP_le_length (p:=fun b=>decide (b≠a)&&Wr v w b a) (l:=List.range m)
 rwa [List.length_range] at this
theorem Zau {R:Nat->Nat->Prop}{p:Nat->Bool} : ∀ {l:List Nat} {k a:Nat},(∀ x y,R x y->¬R y x)->(∀ x,¬R x x)->l.Pairwise R->l[k]?=some a->(∀ b,p b=true↔R b a)->l.countP p=k
 | [],k,a,_,_,_,h,_=>by simp at h
 | x::l,0,a,ha,hi,hp,h,hr=>by
  simp at h;subst h;have hp':=List.pairwise_cons.1 hp;rw[List.countP_cons,if_neg (fun h=>hi _ ((hr _).1 h)),Nat.add_zero,List.countP_eq_zero];intro b hb h;exact ha _ _ (hp'.1 b hb) ((hr b).1 h)
 | x::l,k+1,a,ha,hi,hp,h,hr=>by
  have hp':=List.pairwise_cons.1 hp;rw[List.getElem?_cons_succ] at h;rw[List.countP_cons,if_pos ((hr _).2 (hp'.1 a (List.mem_of_getElem? h))),Zau ha hi hp'.2 h hr]
theorem Jn {v w:List Int}(hw:∀ x∈w,0<=x){k a:Nat}(h:(ZR v w)[k]?=some a) : YK v w a v.length=k:=by
 have W:=Us (v:=v) hw;unfold YK;rw[<-(Ut v w).countP_eq];refine Zau (R:=strictly (YE v w)) (fun x y h1 h2=>W.asymm h1 h2) W.irrefl (U8 hw) h fun b=>?_
 rw[Bool.and_eq_true,Zdb]
 constructor
 ·exact fun h=>h.2
 ·intro h
  refine⟨decide_eq_true ?_,h⟩;rintro rfl;exact W.irrefl _ h
def Vv (f:Nat->Nat)(n:Nat) : Nat->List Int
 | 0=>List.replicate n 0
 | m+1=>(Vv f n m).set (f m) (m:Int)
theorem V9 (f:Nat->Nat)(n:Nat) : ∀ m,(Vv f n m).length=n
 | 0=>by simp[Vv]
 | m+1=>by simp[Vv,V9 f n m]
theorem ZbL {f:Nat->Nat}{n:Nat}(hf:∀ a b,a<n->b<n->f a=f b->a=b)(hn:∀ a,a<n->f a<n) : ∀ m,m<=n->∀ a,a<m->(Vv f n m)[f a]?=some (a:Int)
 | 0,_,a,h=>by omega
 | m+1,hm,a,h=>by
  unfold Vv
  by_cases ham:a=m
  ·subst ham
   rw[List.getElem?_set_self (by rw[V9];exact hn a (by omega))]
  ·rw[List.getElem?_set_ne (fun h'=>ham (hf a m (by omega) (by omega) h'.symm)),ZbL hf hn m (by omega) a (by omega)]
theorem Zdd {v w:List Int}(hw:∀ x∈w,0<=x) : Vv (fun a=>YK v w a v.length) v.length v.length=(ZR v w).map (fun n:Nat=>(n:Int)):=by
 have at':∀ a,a<v.length->∃ k,(ZR v w)[k]?=some a/\YK v w a v.length=k/\k<v.length:=fun a ha=>by
  obtain⟨k,hk,e⟩:=List.mem_iff_getElem.1 (Qd (v:=v) (w:=w) |>.2 ha);have e':(ZR v w)[k]?=some a:=by rw[List.getElem?_eq_getElem hk,e]
  exact⟨k,e',Jn hw e',by rwa [Xw] at hk⟩
 have inj:∀ a b,a<v.length->b<v.length->YK v w a v.length=YK v w b v.length->a=b:=fun a b ha hb h=>by
  obtain⟨k,h1,h2,_⟩:=at' a ha;obtain⟨j,h3,h4,_⟩:=at' b hb;have:k=j:=by omega
  subst this;rw[h1] at h3;exact Option.some.inj h3
 refine List.ext_getElem? fun k=>?_
 by_cases hk:k<v.length
 ·have hk':k<(ZR v w).length:=by rw[Xw];exact hk
  have e:(ZR v w)[k]?=some (ZR v w)[k]:=List.getElem?_eq_getElem hk';have h1:=Jn hw e;have h2:=ZbL (f:=fun a=>YK v w a v.length) inj (fun a ha=>by obtain⟨_,_,_,_⟩:=at' a ha;omega) v.length (Nat.le_refl _) _ (VD e);simp only[h1] at h2;rw[h2,List.getElem?_map,e]
  rfl
 ·rw[List.getElem?_eq_none (by rw[V9];omega),List.getElem?_eq_none (by rw[List.length_map,Xw];omega)]
def stP (room out:Int) : List Int->List Int->List Int->Option (Int×Int)
 | _,_,[]=>some (room,out)
 | w::ws,v::vs,x::p=>if x=1 then(if room-w<0 then none else stP (room-w) out ws vs p) else if x=0 then(if room<0 then none else stP room (out+v) ws vs p) else none
 | _,_,_::_=>none
def Zq (room:Int) : List Int->List Int->Int
 | w::ws,v::vs=>if room<w then v*room / w else v+Zq (room-w) ws vs
 | _,_=>0
def Zg : List Int->Int
 | []=>0
 | x::l=>x+Zg l
def XG (cap:Int)(ws vs p:List Int) : List Int×Int :=
 match stP cap 0 ws vs p with
 | none=>([],1)
 | some (room,_)=>match ws.drop p.length with
  | []=>([],0)
  | w::_=>if w<=room then([1,0],0) else([0],0)
def Ym (cap:Int)(ws vs p:List Int) : Int×Int :=
 match stP cap 0 ws vs p with
 | none=>(0,1)
 | some (room,out)=>(out+Zg (vs.drop p.length)-Zq room (ws.drop p.length) (vs.drop p.length),0)
theorem Wv {ws vs:List Int} : ∀ {p:List Int} {room out:Int},ws.length<p.length->stP room out ws vs p=none:=by
 induction ws generalizing vs with
 | nil =>
  intro p room out h
  cases p with
  | nil=>simp at h
  | cons x p=>rfl
 | cons w ws ih =>
  intro p room out h
  cases p with
  | nil=>simp at h
  | cons x p =>
   cases vs with
   | nil=>rfl
   | cons v vs =>
    have h':ws.length<p.length:=by simpa using h
    unfold stP;rw[ih h',ih h'];split<;>(try split)<;>(try split)<;>rfl
theorem VE {ws vs:List Int} : ∀ {p:List Int} {room out r o:Int},(∀ x∈ws,0<=x)->0<=room->stP room out ws vs p=some (r,o)->0<=r/\r<=room:=by
 induction ws generalizing vs with
 | nil =>
  intro p room out r o _ h0 h
  cases p with
  | nil=>simp[stP] at h;omega
  | cons x p=>simp[stP] at h
 | cons w ws ih =>
  intro p room out r o hw h0 h
  cases p with
  | nil=>simp[stP] at h;omega
  | cons x p =>
   cases vs with
   | nil=>simp[stP] at h
   | cons v vs =>
    unfold stP at h;have hw0:0<=w:=hw w (by simp);have hw':∀ x∈ws,0<=x:=fun x hx=>hw x (by simp[hx])
    split at h
    ·split at h
     ·cases h
     ·have:=ih hw' (by omega) h;omega
    ·split at h
     ·split at h
      ·cases h
      ·exact ih hw' h0 h
     ·cases h
theorem QK {ws vs:List Int} : ∀ {p:List Int} {room out r o:Int},(∀ x∈vs,0<=x/\x<=2147483647)->stP room out ws vs p=some (r,o)->out<=o/\o<=out+2147483647*p.length:=by
 induction ws generalizing vs with
 | nil =>
  intro p room out r o _ h
  cases p with
  | nil=>simp[stP] at h;simp;omega
  | cons x p=>simp[stP] at h
 | cons w ws ih =>
  intro p room out r o hv h
  cases p with
  | nil=>simp[stP] at h;simp;omega
  | cons x p =>
   cases vs with
   | nil=>simp[stP] at h
   | cons v vs =>
    unfold stP at h;have hv0:=hv v (by simp);have hv':∀ x∈vs,0<=x/\x<=2147483647:=fun x hx=>hv x (by simp[hx])
    simp only[List.length_cons,Int.natCast_add,Int.natCast_one];split at h
    ·split at h
     ·cases h
     ·have:=ih hv' h;omega
    ·split at h
     ·split at h
      ·cases h
      ·have:=ih hv' h;omega
     ·cases h
theorem ZfX {ws vs:List Int} : ∀ {p q:List Int} {room out:Int},stP room out ws vs (p++q)=(stP room out ws vs p).bind fun(r,o)=>stP r o (ws.drop p.length) (vs.drop p.length) q:=by
 induction ws generalizing vs with
 | nil =>
  intro p q room out
  cases p with
  | nil=>simp[stP]
  | cons x p=>simp[stP]
 | cons w ws ih =>
  intro p q room out
  cases p with
  | nil=>simp[stP]
  | cons x p =>
   cases vs with
   | nil=>simp[stP]
   | cons v vs =>
    simp only[List.cons_append,stP,List.length_cons,List.drop_succ_cons];rw[ih,ih];split<;>(try split)<;>(try split)<;>rfl
theorem XH : ∀ {ws vs:List Int} {room:Int},0<=room->(∀ x∈ws,0<=x)->(∀ x∈vs,0<=x)->0<=Zq room ws vs
 | [],vs,room,_,_,_=>by cases vs<;>simp[Zq]
 | w::ws,[],room,_,_,_=>by simp[Zq]
 | w::ws,v::vs,room,h0,hw,hv=>by
  unfold Zq;have hv0:=hv v (by simp);have hw0:=hw w (by simp);split
  ·exact Int.ediv_nonneg (Int.mul_nonneg hv0 h0) hw0
  ·have:=XH (ws:=ws) (vs:=vs) (room:=room-w) (by omega) (fun x hx=>hw x (by simp[hx])) (fun x hx=>hv x (by simp[hx]))
   omega
theorem Vo : ∀ {vs:List Int},(∀ x∈vs,0<=x)->0<=Zg vs
 | [],_=>by simp[Zg]
 | v::vs,hv=>by
  have:=hv v (by simp);have:=Vo (vs:=vs) fun x hx=>hv x (by simp[hx])
  simp only[Zg];omega
theorem W8 : ∀ {ws vs:List Int} {room:Int},0<=room->(∀ x∈ws,0<=x)->(∀ x∈vs,0<=x)->Zq room ws vs<=Zg vs
 | [],vs,room,_,_,hv=>by
  have:0<=Zg vs:=Vo hv
  cases vs<;>simpa [Zq] using this
 | w::ws,[],room,_,_,_=>by simp[Zq,Zg]
 | w::ws,v::vs,room,h0,hw,hv=>by
  unfold Zq Zg;have hv0:=hv v (by simp);have hw0:=hw w (by simp);have hs:0<=Zg vs:=Vo fun x hx=>hv x (by simp[hx])
  split
  ·rename_i h
   have h1:v*room<=v*w:=Int.mul_le_mul_of_nonneg_left (by omega) hv0;have h2:v*room / w<=v*w / w:=Int.ediv_le_ediv (by omega) h1;rw[Int.mul_ediv_cancel _ (by omega)] at h2;omega
  ·have:=W8 (ws:=ws) (vs:=vs) (room:=room-w) (by omega) (fun x hx=>hw x (by simp[hx])) (fun x hx=>hv x (by simp[hx]))
   omega
def Zde (w0 v0:Int) : List Int->List Int->Prop
 | w::ws,v::vs=>v*w0<=v0*w/\Zde w0 v0 ws vs
 | _,_=>True
def Falls : List Int->List Int->Prop
 | w::ws,v::vs=>Zde w v ws vs/\Falls ws vs
 | _,_=>True
theorem Ua {w0 v0:Int}(h0:0<=w0) : ∀ {ws vs:List Int} {room:Int},0<=room->0<=v0->(∀ x∈ws,0<=x)->(∀ x∈vs,0<=x)->Zde w0 v0 ws vs->w0*Zq room ws vs<=v0*room
 | [],vs,room,hr,hv0,_,_,_=>by
  have:0<=v0*room:=Int.mul_nonneg hv0 hr
  cases vs<;>simpa [Zq] using this
 | w::ws,[],room,hr,hv0,_,_,_=>by
  have:0<=v0*room:=Int.mul_nonneg hv0 hr
  simpa [Zq] using this
 | w::ws,v::vs,room,hr,hv0,hw,hv,hu=>by
  unfold Zq;have hw0:=hw w (by simp);have hvv:=hv v (by simp);obtain⟨hu1,hu2⟩:=hu;split
  ·rename_i hlt
   have hpos:0<w:=by omega
   have h1:v*room / w*w<=v*room:=Int.ediv_mul_le _ (by omega);have h2:w0*(v*room / w*w)<=w0*(v*room):=Int.mul_le_mul_of_nonneg_left h1 h0;have h3:room*(v*w0)<=room*(v0*w):=Int.mul_le_mul_of_nonneg_left hu1 hr;have e1:w0*(v*room / w*w)=w*(w0*(v*room / w)):=by rw[Int.mul_comm (v*room / w) w,<-Int.mul_assoc,Int.mul_comm w0 w,Int.mul_assoc]
   have e2:w0*(v*room)=room*(v*w0):=by rw[<-Int.mul_assoc,Int.mul_comm (w0*v) room,Int.mul_comm w0 v]
   have e3:room*(v0*w)=w*(v0*room):=by rw[<-Int.mul_assoc,Int.mul_comm (room*v0) w,Int.mul_comm room v0]
   rw[e1,e2] at h2;rw[e3] at h3;exact Int.le_of_mul_le_mul_left (Int.le_trans h2 h3) hpos
  ·have ih:=Ua h0 (ws:=ws) (vs:=vs) (room:=room-w) (by omega) hv0 (fun x hx=>hw x (by simp[hx])) (fun x hx=>hv x (by simp[hx])) hu2
   rw[Int.mul_add,Int.mul_comm w0 v];rw[Int.mul_sub] at ih;omega
theorem JQ {w0 v0:Int}(h0:0<=w0) : ∀ {ws vs:List Int} {room:Int},w0<=room->0<=v0->(∀ x∈ws,0<=x)->(∀ x∈vs,0<=x)->Zde w0 v0 ws vs->Falls ws vs->Zq room ws vs<=v0+Zq (room-w0) ws vs
 | [],vs,room,hr,hv0,_,_,_,_=>by cases vs<;>simpa [Zq] using hv0
 | w::ws,[],room,hr,hv0,_,_,_,_=>by simpa [Zq] using hv0
 | w::ws,v::vs,room,hr,hv0,hw,hv,hu,hf=>by
  have hw0:=hw w (by simp);have hvv:=hv v (by simp);obtain⟨hu1,hu2⟩:=hu;obtain⟨hf1,hf2⟩:=hf;have hw':∀ x∈ws,0<=x:=fun x hx=>hw x (by simp[hx])
  have hv':∀ x∈vs,0<=x:=fun x hx=>hv x (by simp[hx])
  simp only[Zq]
  by_cases a1:room<w
  ·rw[if_pos a1,if_pos (by omega)]
   have hpos:0<w:=by omega
   have e:v*room<=v*(room-w0)+v0*w:=by rw[Int.mul_sub];omega
   have h1:v*room / w<=(v*(room-w0)+v0*w) / w:=Int.ediv_le_ediv hpos e;rw[Int.add_mul_ediv_right _ _ (by omega)] at h1;omega
  ·rw[if_neg a1]
   by_cases a2:room-w0<w
   ·rw[if_pos a2]
    have hpos:0<w:=by omega
    have h1:=Ua hw0 (ws:=ws) (vs:=vs) (room:=room-w) (by omega) hvv hw' hv' hf1;have h2:v+Zq (room-w) ws vs-v0<=v*(room-w0) / w:=by
     rw[Int.le_ediv_iff_mul_le hpos];rw[Int.mul_comm,Int.mul_sub,Int.mul_add,Int.mul_sub];rw[Int.mul_sub] at h1;rw[Int.mul_comm w v,Int.mul_comm w v0];omega
    omega
   ·rw[if_neg a2]
    have ih:=JQ h0 (ws:=ws) (vs:=vs) (room:=room-w) (by omega) hv0 hw' hv' hu2 hf2;have e:room-w-w0=room-w0-w:=by omega
    rw[e] at ih;omega
theorem ZcH {w v:Int}{ws vs:List Int}{room:Int}(hr:0<=room)(hw:∀ x∈w::ws,0<=x)(hv:∀ x∈v::vs,0<=x)(hf:Falls (w::ws) (v::vs)) : Zq room ws vs<=Zq room (w::ws) (v::vs):=by
 have hw0:=hw w (by simp);have hv0:=hv v (by simp);have hw':∀ x∈ws,0<=x:=fun x hx=>hw x (by simp[hx])
 have hv':∀ x∈vs,0<=x:=fun x hx=>hv x (by simp[hx])
 obtain⟨hu,hf'⟩:=hf
 conv=>rhs;unfold Zq
 split
 ·rename_i h
  have hpos:0<w:=by omega
  have h1:=Ua hw0 hr hv0 hw' hv' hu;rw[Int.le_ediv_iff_mul_le hpos,Int.mul_comm];exact h1
 ·exact JQ hw0 (by omega) hv0 hw' hv' hu hf'
def Zu (l:List Nat)(v:List Int) : List Int:=l.map fun n=>v.getD n 0
theorem Zdf {v w:List Int}{a:Nat}(hv:∀ x∈v,0<=x)(hw:∀ x∈w,0<=x) : ∀ {l:List Nat},(∀ b∈l,strictly (YE v w) a b)->Zde (w.getD a 0) (v.getD a 0) (Zu l w) (Zu l v)
 | [],_=>trivial
 | b::l,h=>by
  refine⟨?_,Zdf hv hw (l:=l) fun c hc=>h c (by simp[hc])⟩;have hb:=h b (by simp);have h2:YE v w b a=false:=by
   rcases hb with hb | ⟨hb,_⟩
   ·exact(Us hw).asym _ _ hb
   ·exact hb
  unfold YE at h2;have va:=Vn hv a;have wa:=Vn hw a;have wb:=Vn hw b
  by_cases a0:w.getD a 0=0
  ·rw[a0,Int.mul_zero];exact Int.mul_nonneg va wb
  ·rw[if_neg a0] at h2
   by_cases b0:w.getD b 0=0
   ·rw[if_pos b0] at h2;cases h2
   ·rw[if_neg b0] at h2
    have:=of_decide_eq_false h2;show v.getD b 0*w.getD a 0<=v.getD a 0*w.getD b 0;omega
theorem Zdg {v w:List Int}(hv:∀ x∈v,0<=x)(hw:∀ x∈w,0<=x) : ∀ {l:List Nat},l.Pairwise (strictly (YE v w))->Falls (Zu l w) (Zu l v)
 | [],_=>trivial
 | a::l,h=>by
  have h':=List.pairwise_cons.1 h;exact⟨Zdf hv hw h'.1,Zdg hv hw h'.2⟩
theorem Falls.drop : ∀ {k:Nat} {ws vs:List Int},Falls ws vs->Falls (ws.drop k) (vs.drop k)
 | 0,ws,vs,h=>h
 | k+1,[],vs,h=>by simp[Falls]
 | k+1,w::ws,[],h=>by simp[Falls]
 | k+1,w::ws,v::vs,h=>by rw[List.drop_succ_cons,List.drop_succ_cons];exact Falls.drop h.2
def Xy (room out:Int) : List Int->List Int->Int
 | w::ws,v::vs=>if w<=room then(if Xy room (out+v) ws vs<Xy (room-w) out ws vs then Xy room (out+v) ws vs else Xy (room-w) out ws vs) else Xy room (out+v) ws vs
 | _,_=>out
theorem Zav : ∀ {ws vs:List Int} {room out:Int},0<=room->(∀ x∈ws,0<=x)->(∀ x∈vs,0<=x)->ws.length=vs.length->Falls ws vs->out+Zg vs-Zq room ws vs<=Xy room out ws vs
 | [],[],room,out,_,_,_,_,_=>by simp[Zg,Zq,Xy]
 | [],_::_,_,_,_,_,_,h,_=>by simp at h
 | _::_,[],_,_,_,_,_,h,_=>by simp at h
 | w::ws,v::vs,room,out,h0,hw,hv,hl,hf=>by
  have hfr:=ZcH h0 hw hv hf;have hw':∀ x∈ws,0<=x:=fun x hx=>hw x (by simp[hx])
  have hv':∀ x∈vs,0<=x:=fun x hx=>hv x (by simp[hx])
  have hl':ws.length=vs.length:=by simpa using hl
  have h1:=Zav (out:=out+v) h0 hw' hv' hl' hf.2;unfold Xy;simp only[Zg];split
  ·rename_i hle
   have h2:=Zav (room:=room-w) (out:=out) (by omega) hw' hv' hl' hf.2;have e:Zq room (w::ws) (v::vs)=v+Zq (room-w) ws vs:=by rw[Zq,if_neg (by omega)]
   rw[e] at hfr ⊢;split<;>omega
  ·omega
theorem Xi : ∀ {ws vs:List Int} {room out:Int},0<=out->(∀ x∈vs,0<=x)->0<=Xy room out ws vs
 | [],vs,room,out,h,_=>by cases vs<;>simpa [Xy] using h
 | w::ws,[],room,out,h,_=>by simpa [Xy] using h
 | w::ws,v::vs,room,out,h,hv=>by
  have hv0:=hv v (by simp);have hv':∀ x∈vs,0<=x:=fun x hx=>hv x (by simp[hx])
  have h1:=Xi (ws:=ws) (vs:=vs) (room:=room) (out:=out+v) (by omega) hv';have h2:=Xi (ws:=ws) (vs:=vs) (room:=room-w) (out:=out) h hv';unfold Xy;split
  ·split<;>assumption
  ·assumption
theorem VG {a b:List Int}(h:a.Perm b) : Zg a=Zg b:=by
 induction h with
 | nil=>rfl
 | cons x _ ih=>simp[Zg,ih]
 | swap x y l=>simp[Zg];omega
 | trans _ _ h1 h2=>rw[h1,h2]
theorem Zdh (a b:List Int) : Zg (a++b)=Zg a+Zg b:=by
 induction a with
 | nil=>simp[Zg]
 | cons x a ih=>simp[Zg,ih];omega
def WK (x ws:List Int) : Int:=Zg (List.zipWith (fun x w=>if x=1 then w else 0) x ws)
def Ww (x vs:List Int) : Int:=Zg (List.zipWith (fun x v=>if x=1 then 0 else v) x vs)
theorem Uu (f:Int->Int->Int) : ∀ (k:Nat) (x ws:List Int) {v u:Int},x[k]?=some v->ws[k]?=some u->Zg (List.zipWith f (x.take (k+1)) ws)=Zg (List.zipWith f (x.take k) ws)+f v u
 | 0,_::_,_::_,_,_,h1,h2=>by
  simp only[List.getElem?_cons_zero,Option.some.injEq] at h1 h2;subst h1 h2;simp[Zg]
 | k+1,_::x,_::ws,v,u,h1,h2=>by
  have h:=Uu f k x ws (v:=v) (u:=u) (by simpa using h1) (by simpa using h2);simp only[List.take_succ_cons,List.zipWith_cons_cons,Zg] at h ⊢;omega
 | _,[],_,_,_,h1,_=>by simp at h1
 | _,_::_,[],_,_,_,h2=>by simp at h2
def Vp (cap:Int)(ws vs x:List Int) : Int×Int:=if cap<WK x ws then(0,9) else(Ww x vs,0)
def W9 (cap:Int)(ws vs p:List Int) : Int:=match stP cap 0 ws vs p with
 | none=>-1
 | some (r,o)=>Xy r o (ws.drop p.length) (vs.drop p.length)
section
variable {cap:Int} {ws vs p ws' vs':List Int} {r o w v:Int}
theorem UX {l l' p:List Int}{x y:Int}(h:l.drop p.length=x::l') : l.drop (p++[y]).length=l':=by
 have h1:=congrArg List.tail h;rw[List.tail_drop] at h1
 simpa using h1
theorem VH (h:stP cap 0 ws vs p=some (r,o)) : W9 cap ws vs p=Xy r o (ws.drop p.length) (vs.drop p.length):=by unfold W9;rw[h]
theorem ZbM (h:stP cap 0 ws vs p=some (r,o))(hw:ws.drop p.length=w::ws')(hv:vs.drop p.length=v::vs')(hle:w<=r) : stP cap 0 ws vs (p++[1])=some (r-w,o):=by
 rw[ZfX,h];simp only[Option.bind_some,hw,hv,stP,if_true];rw[if_neg (by omega)]
theorem Jo (h:stP cap 0 ws vs p=some (r,o))(hw:ws.drop p.length=w::ws')(hv:vs.drop p.length=v::vs')(h0:0<=r) : stP cap 0 ws vs (p++[0])=some (r,o+v):=by
 rw[ZfX,h];simp only[Option.bind_some,hw,hv,stP,if_true];rw[if_neg (by decide),if_neg (by omega)]
theorem Zdi (h:stP cap 0 ws vs p=some (r,o))(hw:ws.drop p.length=w::ws')(hv:vs.drop p.length=v::vs')(hle:w<=r) : W9 cap ws vs (p++[1])=Xy (r-w) o ws' vs':=by
 rw[VH (ZbM h hw hv hle),UX hw,UX hv]
theorem Zaw (h:stP cap 0 ws vs p=some (r,o))(hw:ws.drop p.length=w::ws')(hv:vs.drop p.length=v::vs')(h0:0<=r) : W9 cap ws vs (p++[0])=Xy r (o+v) ws' vs':=by
 rw[VH (Jo h hw hv h0),UX hw,UX hv]
end
def YL (f:Int->Int) : Int->List Int->Int
 | b,[]=>b
 | b,x::l=>YL f (if b<0 then f x else if f x<b then f x else b) l
theorem Zdj {cap:Int}{ws vs p:List Int}{r o:Int}(h:stP cap 0 ws vs p=some (r,o))(h0:0<=r)(hl:p.length<ws.length)(hlv:ws.length=vs.length)(hv0:∀ x∈vs,0<=x)(ho:0<=o) :
  YL (fun x=>W9 cap ws vs (p++[x])) (-1) (XG cap ws vs p).1=W9 cap ws vs p:=by
 obtain⟨w,ws',hw⟩:∃ w ws',ws.drop p.length=w::ws':=⟨_,_,List.drop_eq_getElem_cons hl⟩;obtain⟨v,vs',hv⟩:∃ v vs',vs.drop p.length=v::vs':=⟨_,_,List.drop_eq_getElem_cons (by omega)⟩;have hvs:∀ x∈v::vs',0<=x:=fun x hx=>hv0 x (List.mem_of_mem_drop (hv ▸ hx))
 have e:=VH h;rw[hw,hv] at e;unfold XG;rw[h,e];simp only[hw];have h2:=Zaw h hw hv h0;unfold Xy;split
 ·rename_i hle
  have h1:=Zdi h hw hv hle;have n1:0<=Xy (r-w) o ws' vs':=Xi ho fun x hx=>hvs x (by simp[hx])
  simp only[YL,h1,h2];rw[if_pos (show (-1:Int)<0 by decide),if_neg (show ¬Xy (r-w) o ws' vs'<0 by omega)]
 ·simp only[YL,h2]
  rw[if_pos (show (-1:Int)<0 by decide)]
theorem Zdk {cap:Int}{ws vs p:List Int}(h0:0<=cap)(hw:∀ x∈ws,0<=x)(hv:∀ x∈vs,0<=x/\x<=2147483647)(hl:ws.length=vs.length)(hf:Falls ws vs)(he:(Ym cap ws vs p).2=0) :
  0<=(Ym cap ws vs p).1/\(Ym cap ws vs p).1<=W9 cap ws vs p:=by
 unfold Ym at he ⊢
 cases hs:stP cap 0 ws vs p with
 | none=>rw[hs] at he;simp at he
 | some q =>
  obtain⟨r,o⟩:=q;have h1:=(VE hw h0 hs).1;have h2:=(QK hv hs).1;have hw':∀ x∈ws.drop p.length,0<=x:=fun x hx=>hw x (List.mem_of_mem_drop hx)
  have hv':∀ x∈vs.drop p.length,0<=x:=fun x hx=>(hv x (List.mem_of_mem_drop hx)).1
  rw[VH hs];simp only;have h3:=W8 h1 hw' hv';have h4:=Zav (out:=o) h1 hw' hv' (by simp[hl]) hf.drop;exact⟨by omega,h4⟩
theorem Zgo (cap:Int)(ws vs p:List Int) : (Ym cap ws vs p).2=0\/((Ym cap ws vs p).2=1/\stP cap 0 ws vs p=none):=by
 unfold Ym
 cases hs:stP cap 0 ws vs p with
 | none=>exact .inr ⟨rfl,rfl⟩
 | some q=>exact .inl rfl
theorem Zhv {cap:Int}{ws vs p:List Int}{r o:Int}(h:stP cap 0 ws vs p=some (r,o))(hl:p.length=ws.length)(hlv:ws.length=vs.length) : Ym cap ws vs p=(o,0)/\W9 cap ws vs p=o:=by
 have d1:ws.drop p.length=[]:=List.drop_of_length_le (by omega);have d2:vs.drop p.length=[]:=List.drop_of_length_le (by omega);rw[VH h];unfold Ym;rw[h];simp[d1,d2,Zg,Zq,Xy]
end
section
def Zf (l:List Nat) : List Int:=l.map fun n:Nat=>(n:Int)
theorem Zh (l:List Nat) : (Zf l).length=l.length:=by simp[Zf]
def ZK : List (List Int)->List Int->Int
 | row::rows,c::p=>row.getD c.toNat 0+ZK rows p
 | _,_=>0
theorem Zdl {F:Nat->Int} : ∀ {rows:List (List Int)} {off:List Int} {q:List Nat},rows.length=q.length->off.length=q.length->(∀ (k c:Nat) (x:List Int) (o:Int),rows[k]?=some x->off[k]?=some o->q[k]?=some c->o+F c<=x.getD c 0)->Zg off+Zg (q.map F)<=ZK rows (Zf q)
 | [],off,q,h1,h2,_=>by
  have:q=[]:=List.eq_nil_of_length_eq_zero (by simpa using h1.symm);subst this;have:off=[]:=List.eq_nil_of_length_eq_zero (by simpa using h2);subst this;simp[Zg,ZK,Zf]
 | r::rows,[],q,h1,h2,_=>by
  exfalso
  simp at h1 h2;omega
 | r::rows,o::off,[],h1,_,_=>by simp at h1
 | r::rows,o::off,c::q,h1,h2,h=>by
  have h3:=h 0 c r o rfl rfl rfl;have ih:=Zdl (F:=F) (rows:=rows) (off:=off) (q:=q) (by simpa using h1) (by simpa using h2) fun k c x o a b d=>h (k+1) c x o a b d
  simp only[Zf,List.map_cons,Zg,ZK] at ih ⊢;rw[Int.toNat_natCast];omega
def Za (rows:List (List Int))(a b:Nat) : Int:=(rows.getD a []).getD b 0
structure RowsOk (rows:List (List Int)) : Prop where
 n1:1<=rows.length
 n2:rows.length<=24
 row:∀ row∈rows,row.length=rows.length
 num:∀ row∈rows,∀ x∈row,0<=x/\x<=2147483647
theorem RowsOk.get {rows:List (List Int)}(h:RowsOk rows){row:List Int}(hr:row∈rows){c:Nat}(hc:c<rows.length) : 0<=row.getD c 0/\row.getD c 0<=2147483647:=by
 have h1:c<row.length:=by rw[h.row row hr];exact hc
 have h2:row.getD c 0=row[c]:=by simp[List.getD,List.getElem?_eq_getElem h1]
 rw[h2];exact h.num row hr _ (List.getElem_mem _)
theorem Uv : ∀ {rows:List (List Int)} {q:List Nat},rows.length=q.length->ZK rows (Zf q)=Zg ((List.range q.length).map fun k=>Za rows k (q.getD k 0))
 | [],[],_=>rfl
 | [],_::_,h=>by simp at h
 | _::_,[],h=>by simp at h
 | r::rows,c::q,h=>by
  have ih:=Uv (rows:=rows) (q:=q) (by simpa using h);have e:(List.range (c::q).length).map (fun k=>Za (r::rows) k ((c::q).getD k 0))=Za (r::rows) 0 c::(List.range q.length).map fun k=>Za rows k (q.getD k 0):=by
   rw[List.length_cons,List.range_succ_eq_map,List.map_cons,List.map_map]
   rfl
  rw[e];simp only[Zf,List.map_cons,Zg,ZK] at ih ⊢;rw[Int.toNat_natCast,ih]
  rfl
theorem JR (a b:List Int) : Zg (a++b)=Zg a+Zg b:=by
 induction a with
 | nil=>simp[Zg]
 | cons x a ih=>simp only[List.cons_append,Zg,ih];omega
end
section
def Zn (a0:Act) : List (Nat×Option Tmp)->(Nat->Value)->Act
 | [],_=>a0
 | p::ps,u=>(Zn a0 ps u).put p.2 (u p.1)
def upd (u:Nat->Value)(i:Nat)(v:Value) : Nat->Value:=fun j=>if j=i then v else u j
def WM (ops:Array Oper)(rem:List (Nat×Option Tmp))(i:Nat) : List Nat :=
 match ops[i]? with
 | none=>[]
 | some o=>(o.after.toList.filter fun e=>Region.binds .any e&&(rem.map (·.1)).contains e.on).map (·.on)
theorem Zp {ops:Array Oper}{rem:List (Nat×Option Tmp)}{i j:Nat}(h:(WM ops rem i).contains j=true) : j∈WM ops rem i:=by simpa using h
theorem Act.put_put_ne (a:Act){x y:Option Tmp}(v u:Value)(h:∀ d,x=some d->y≠some d) : (a.put x v).put y u=(a.put y u).put x v:=Act.put_comm a v u h
theorem Act.put_twice (a:Act)(x:Option Tmp)(v u:Value) : (a.put x v).put x u=a.put x u:=by
 cases x with
 | none=>rfl
 | some d=>simp[Act.put,Array.setIfInBounds_setIfInBounds]
theorem Zax (a0:Act)(i:Nat)(d:Option Tmp)(u:Nat->Value)(v:Value) : ∀ (rem:List (Nat×Option Tmp)),(rem.map (·.1)).Nodup->(rem.filterMap (·.2)).Nodup->(i,d)∈rem ->
  (Zn a0 rem u).put d v=Zn a0 rem (upd u i v)
 | [],_,_,h=>by cases h
 | p::ps,hn,hd,h=>by
  have same:∀ (qs:List (Nat×Option Tmp)),i∉qs.map (·.1)->Zn a0 qs (upd u i v)=Zn a0 qs u:=by
   intro qs
   induction qs with
   | nil=>intro _;rfl
   | cons q qs ih =>
    intro hq;simp only[List.map_cons,List.mem_cons,not_or] at hq;simp only[Zn,ih hq.2,upd,if_neg (Ne.symm hq.1)]
  rcases List.mem_cons.1 h with rfl | h'
  ·have hni:i∉ps.map (·.1):=by simpa using (List.nodup_cons.1 hn).1
   simp only[Zn,same ps hni,upd,if_true];exact Act.put_twice _ _ _ _
  ·have hpi:p.1≠i:=by
    rintro rfl;exact(List.nodup_cons.1 hn).1 (List.mem_map.2 ⟨_,h',rfl⟩)
   have hd':(ps.filterMap (·.2)).Nodup:=by
    cases hp:p.2 with
    | none=>simpa [List.filterMap_cons,hp] using hd
    | some t=>rw[List.filterMap_cons,hp] at hd;exact(List.nodup_cons.1 hd).2
   have ih:=Zax a0 i d u v ps (List.nodup_cons.1 hn).2 hd' h';simp only[Zn,upd,if_neg hpi];rw[<-ih];refine Act.put_put_ne _ _ _ ?_;intro t ht hdt;rw[List.filterMap_cons,ht] at hd;exact(List.nodup_cons.1 hd).1 (List.mem_filterMap.2 ⟨(i,d),h',hdt⟩)
theorem Zhw (a:Act)(d:Tmp) : a.put (some d) (a.tmps.getD d undef)=a:=by
 have:a.tmps.setIfInBounds d (a.tmps.getD d undef)=a.tmps:=by
  apply Array.ext_getElem?;intro j;rw[Array.getElem?_setIfInBounds];split
  ·rename_i h
   subst h;split
   ·rename_i h;simp[Array.getD,h]
   ·rename_i h;simp[Array.getElem?_eq_none (Nat.le_of_not_lt h)]
  ·rfl
 show ({ a with tmps:=a.tmps.setIfInBounds d (a.tmps.getD d undef) }:Act)=a;rw[this]
theorem Zay (a0:Act)(u:Nat->Value)(i:Nat)(v:Value) : ∀ (qs:List (Nat×Option Tmp)),i∉qs.map (·.1)->Zn a0 qs (upd u i v)=Zn a0 qs u
 | [],_=>rfl
 | q::qs,hq=>by
  simp only[List.map_cons,List.mem_cons,not_or] at hq;simp only[Zn,Zay a0 u i v qs hq.2,upd,if_neg (Ne.symm hq.1)]
theorem JS (a0:Act) : ∀ (rem:List (Nat×Option Tmp)),(rem.map (·.1)).Nodup->∃ u,Zn a0 rem u=a0
 | [],_=>⟨fun _=>undef,rfl⟩
 | p::ps,hn=>by
  obtain⟨u,hu⟩:=JS a0 ps (List.nodup_cons.1 hn).2;have hni:p.1∉ps.map (·.1):=(List.nodup_cons.1 hn).1;refine⟨upd u p.1 (match p.2 with | some d=>a0.tmps.getD d undef | none=>undef),?_⟩;simp only[Zn,Zay a0 u _ _ ps hni,hu,upd,if_true]
  cases p.2 with
  | none=>rfl
  | some d=>exact Zhw a0 d
section
variable {P:Program} {ops:Array Oper} {Q:Exit->Act->World->Prop}
def Uw (listed:Array Bool)(rem:List (Nat×Option Tmp)) : Nat:=(rem.filter fun p => !listed.getD p.1 true).length
def Ub (ops:Array Oper)(rs:List Nat) : Nat->Nat->Nat->Bool
 | 0,_,_=>false
 | f+1,i,q=>match ops[i]? with
  | none=>false
  | some o=>o.after.toList.any (fun e=>Region.binds .any e&&(e.on==q || (rs.contains e.on&&Ub ops rs f e.on q)))
theorem Uc {listed:Array Bool}{rs:List Nat}(hcl:∀ p∈rs,listed.getD p true=true->∀ o,ops[p]?=some o->∀ e∈o.after.toList,Region.binds .any e=true->listed.getD e.on true=true) :
  ∀ (f i:Nat),(∀ o,ops[i]?=some o->∀ e∈o.after.toList,Region.binds .any e=true->listed.getD e.on true=true)->∀ q,Ub ops rs f i q=true->listed.getD q true=true:=by
 intro f
 induction f with
 | zero=>intro i _ q h;cases h
 | succ f ih =>
  intro i hi q h;unfold Ub at h
  cases ho:ops[i]? with
  | none=>rw[ho] at h;cases h
  | some o =>
   rw[ho] at h;obtain⟨e,he,h⟩:=List.any_eq_true.1 h;simp only[Bool.and_eq_true,Bool.or_eq_true,beq_iff_eq] at h;obtain⟨hb,h⟩:=h;have h1:=hi o ho e he hb;rcases h with rfl | ⟨h2,h3⟩
   ·exact h1
   ·exact ih e.on (hcl e.on (by simpa using h2) h1) q h3
theorem Qe {listed:Array Bool}{i:Nat}(h:((ops[i]?.map fun o=>o.after.all fun e => !Region.binds .any e || listed.getD e.on false).getD false)=true) :
  ∀ o,ops[i]?=some o->∀ e∈o.after.toList,Region.binds .any e=true->listed.getD e.on true=true:=by
 intro o ho e he hb;rw[ho] at h;simp only[Option.map_some,Option.getD_some,Array.all_eq_true_iff_forall_mem] at h;have:=h e (by simpa using he);rw[hb] at this;simp only[Bool.not_true,Bool.false_or] at this
 by_cases hlt:e.on<listed.size
 ·simp only[Array.getD,hlt,dif_pos] at this ⊢
  simpa using this
 ·simp[Array.getD,hlt]
def Ud (ops:Array Oper)(listed listed1:Array Bool)(rem:List (Nat×Option Tmp)) : Bool :=
 decide ((rem.map (·.1)).Nodup)&&decide ((rem.filterMap (·.2)).Nodup)&&decide (listed.size=ops.size)&&decide (listed1.size=ops.size) &&
 rem.all (fun p=>match ops[p.1]? with
  | none=>false
  | some o=>(o.dst==p.2)&&o.after.all (fun e => !Region.binds .any e || (decide (e.on<p.1)&&((rem.map (·.1)).contains e.on || listed.getD e.on true)))) &&
 (List.range ops.size).all (fun i=>if (rem.map (·.1)).contains i then !listed.getD i true&&listed1.getD i true
  else(listed1.getD i true==listed.getD i true)&&(listed.getD i true || rem.all (fun p=>Ub ops (rem.map (·.1)) (rem.length+1) i p.1) || (match ops[i]? with
   | none=>false
   | some o=>o.after.any (fun e=>Region.binds .any e&&decide (e.on<ops.size) && !listed.getD e.on true && !(rem.map (·.1)).contains e.on))))
def ZeI (ops:Array Oper)(rem:List (Nat×Option Tmp))(kill:Nat->List Nat)(i j:Nat) : Bool :=
 decide (i≠j) && !(kill j).contains i&&(kill j).all (fun k => !Ub ops (rem.map (·.1)) (rem.length+1) i k) && !Ub ops (rem.map (·.1)) (rem.length+1) j i
def ZeJ (ops:Array Oper)(rem:List (Nat×Option Tmp))(kill:Nat->List Nat) : Bool :=
 rem.all fun p=>(WM ops rem p.1).all fun j=>(kill j).all fun k=>k==p.1
theorem JT {σ:Type}(rem:List (Nat×Option Tmp))(kill:Nat->List Nat)(R:σ->World->Prop)(V:Nat->Value->σ->World->Prop)(Stab:Nat->σ->World->σ->World->Prop){listed0:Array Bool}(listed1:Array Bool)(hok:Ud ops listed0 listed1 rem=true)(hkill:ZeJ ops rem kill=true)
  (stab:∀ i j v s w s' w',ZeI ops rem kill i j=true->V j v s w->Stab i s w s' w'->V j v s' w')
  {a0:Act}
  (step:∀ p∈rem,∀ u s w,R s w->(∀ j∈WM ops rem p.1,V j (u j) s w)->∀ K:Act->World->Prop,(∀ v s' w',V p.1 v s' w'->R s' w'->Stab p.1 s w s' w'->K ((Zn a0 rem u).put p.2 v) w')->wpOp P ops Q p.1 K (Zn a0 rem u) w)
  (n:Nat) (done:∀ u s w,R s w->(∀ p∈rem,kill p.1=[]->V p.1 (u p.1) s w)->wpAny P .any ops Q n listed1 (Zn a0 rem u) w) {s0:σ} {w0:World} (hR:R s0 w0) :
  wpAny P .any ops Q (rem.length+n) listed0 a0 w0:=by
 simp only[Ud,Bool.and_eq_true,decide_eq_true_eq] at hok;obtain⟨⟨⟨⟨⟨hn,hdn⟩,hsz⟩,hsz1⟩,hall⟩,hcomp⟩:=hok;have hall:=List.all_eq_true.1 hall;have hcomp:=List.all_eq_true.1 hcomp;have hmem:∀ i∈rem.map (·.1),listed0.getD i true=false/\i<ops.size:=by
  intro i hi;obtain⟨p,hp,rfl⟩:=List.mem_map.1 hi;have h1:=hall p hp;have hlt:p.1<ops.size:=by
   rcases Nat.lt_or_ge p.1 ops.size with h | h
   ·exact h
   ·rw[Array.getElem?_eq_none h] at h1;simp at h1
  have:=hcomp p.1 (List.mem_range.2 hlt);have hc:(rem.map (·.1)).contains p.1=true:=by simpa using hi
  rw[hc] at this;simp only[if_true,Bool.and_eq_true,Bool.not_eq_true'] at this;exact⟨this.1,hlt⟩
 have hone:∀ i∈rem.map (·.1),listed1.getD i true=true:=by
  intro i hi;have:=hcomp i (List.mem_range.2 (hmem i hi).2);have hc:(rem.map (·.1)).contains i=true:=by simpa using hi
  rw[hc] at this;simp only[if_true,Bool.and_eq_true] at this;exact this.2
 have hrest:∀ i,i<ops.size->i∉rem.map (·.1)->listed1.getD i true=listed0.getD i true/\((listed0.getD i true=true\/∀ p∈rem,Ub ops (rem.map (·.1)) (rem.length+1) i p.1=true)\/∃ o,ops[i]?=some o/\∃ e∈o.after.toList,Region.binds .any e=true/\e.on<ops.size/\listed0.getD e.on true=false/\e.on∉rem.map (·.1)):=by
  intro i hi hni;have:=hcomp i (List.mem_range.2 hi);have hc:(rem.map (·.1)).contains i=false:=by
   cases h:(rem.map (·.1)).contains i with
   | false=>rfl
   | true=>exact absurd (by simpa using h) hni
  rw[hc] at this;simp only[Bool.false_eq_true,if_false,Bool.and_eq_true,beq_iff_eq,Bool.or_eq_true] at this;refine⟨this.1,?_⟩;rcases this.2 with(h | h) | h
  ·exact .inl (.inl h)
  ·exact .inl (.inr fun p hp=>List.all_eq_true.1 h p hp)
  ·right
   rw[Array.getElem?_eq_getElem hi] at h;refine⟨ops[i],Array.getElem?_eq_getElem hi,?_⟩;simp only[Array.any_toList.symm,List.any_eq_true,Bool.and_eq_true,decide_eq_true_eq,Bool.not_eq_true'] at h;obtain⟨e,he,⟨⟨h1,h2⟩,h3⟩,h4⟩:=h;exact⟨e,he,h1,h2,h3,by simpa using h4⟩
 suffices H:∀ k (listed:Array Bool) (u:Nat->Value) (s:σ) (w:World),listed.size=ops.size->R s w->(∀ i,i<ops.size->i∉rem.map (·.1)->listed.getD i true=listed0.getD i true) ->
   (∀ p∈rem,listed.getD p.1 true=true->(∀ k∈kill p.1,listed.getD k true=false)->V p.1 (u p.1) s w)->(∀ p∈rem.map (·.1),listed.getD p true=true->∀ o,ops[p]?=some o->∀ e∈o.after.toList,Region.binds .any e=true->listed.getD e.on true=true)->Uw listed rem=k->wpAny P .any ops Q (k+n) listed (Zn a0 rem u) w by
  obtain⟨u,hu⟩:=JS a0 rem hn;have hopen:Uw listed0 rem=rem.length:=by
   unfold Uw;rw[List.filter_eq_self.2];intro p hp;simp[(hmem p.1 (List.mem_map.2 ⟨p,hp,rfl⟩)).1]
  have h:=H rem.length listed0 u s0 w0 hsz hR (fun i hi hni=>rfl) (fun p hp hl _=>by
   have:=(hmem p.1 (List.mem_map.2 ⟨p,hp,rfl⟩)).1;rw[this] at hl
   cases hl) (fun p hp hl=>by
   rw[(hmem p hp).1] at hl
   cases hl) hopen
  rwa [hu] at h
 intro k
 induction k with
 | zero =>
  intro listed u s w hs hRw hout hV hcl hopen;have hall':∀ p∈rem,listed.getD p.1 true=true:=by
   intro p hp;simp only[Uw,List.length_eq_zero_iff,List.filter_eq_nil_iff,Bool.not_eq_true',Bool.not_eq_false] at hopen;exact hopen p hp
  have hl:listed=listed1:=by
   apply Array.ext
   ·rw[hs,hsz1]
   ·intro i h1 h2
    have:listed.getD i true=listed1.getD i true:=by
     by_cases hr:i∈rem.map (·.1)
     ·rw[hone i hr]
      obtain⟨p,hp,rfl⟩:=List.mem_map.1 hr;exact hall' p hp
     ·rw[hout i (by omega) hr,(hrest i (by omega) hr).1]
    simpa [Array.getD,h1,h2] using this
  rw[hl,Nat.zero_add];exact done u s w hRw (fun p hp hk=>hV p hp (hall' p hp) (fun k h=>by rw[hk] at h;cases h))
 | succ k ih =>
  intro listed u s w hs hRw hout hV hcl hopen;rw[Nat.add_right_comm];have hsome:∃ p∈rem,listed.getD p.1 true=false:=by
   have:(rem.filter fun p => !listed.getD p.1 true)≠[]:=by
    intro h;simp only[Uw,h,List.length_nil] at hopen;omega
   obtain⟨p,hp⟩:=List.exists_mem_of_ne_nil _ this;obtain⟨h1,h2⟩:=List.mem_filter.1 hp;exact⟨p,h1,by simpa using h2⟩
  have hno:∀ i,i∈Region.ready .any ops listed->i∈rem.map (·.1):=by
   intro i hi;obtain⟨hi1,hi2⟩:=List.mem_filter.1 hi;have hilt:=List.mem_range.1 hi1;simp only[Bool.and_eq_true] at hi2;have hil:listed.getD i true=false:=by simpa using hi2.1
   by_cases hr:i∈rem.map (·.1)
   ·exact hr
   ·exfalso
    obtain⟨h1,h2⟩:=hrest i hilt hr;rw[hout i hilt hr] at hil;rcases h2 with(h2 | h2) | h2
    ·rw[h2] at hil;cases hil
    rotate_left
    ·obtain⟨o,ho,e,he,hb,hsz2,hl0,hnr⟩:=h2
     have h3:=hi2.2;rw[ho] at h3;simp only[Option.map_some,Option.getD_some,Array.all_eq_true_iff_forall_mem] at h3;have:=h3 e (by simpa using he);rw[hb] at this;simp only[Bool.not_true,Bool.false_or] at this;have hlt:e.on<listed.size:=by rw[hs];exact hsz2
     have e1:listed.getD e.on false=listed.getD e.on true:=by simp only[Array.getD,hlt,dif_pos]
     rw[e1,hout e.on hsz2 hnr,hl0] at this
     cases this
    ·obtain⟨p,hp,hpl⟩:=hsome
     have:=Uc hcl _ i (Qe hi2.2) p.1 (h2 p hp);rw[hpl] at this
     cases this
  constructor
  ·intro hnil
   exfalso
   have key:∀ i,i<ops.size->i∈rem.map (·.1)->listed.getD i true=true:=by
    intro i
    induction i using Nat.strongRecOn with
    | _ i ihi =>
     intro hi hr;obtain⟨p,hp,rfl⟩:=List.mem_map.1 hr;have h1:=hall p hp
     cases hl:listed.getD p.1 true with
     | true=>rfl
     | false =>
      exfalso
      have hready:p.1∈Region.ready .any ops listed:=by
       refine List.mem_filter.2 ⟨List.mem_range.2 hi,?_⟩;rw[Array.getElem?_eq_getElem hi] at h1 ⊢;simp only[Bool.and_eq_true,beq_iff_eq] at h1;simp only[hl,Bool.not_false,Option.map_some,Option.getD_some,Bool.true_and];rw[Array.all_eq_true_iff_forall_mem] at h1 ⊢;intro e he;have:=h1.2 e he
       cases hb:Region.binds .any e with
       | false=>rfl
       | true =>
        rw[hb] at this;simp only[Bool.not_true,Bool.false_or,Bool.and_eq_true,decide_eq_true_eq,Bool.or_eq_true] at this;have hlt:e.on<listed.size:=by rw[hs];omega
        have hh:listed.getD e.on true=true:=by
         rcases this.2 with h | h
         ·exact ihi e.on this.1 (by omega) (by simpa using h)
         ·by_cases hr':e.on∈rem.map (·.1)
          ·exact ihi e.on this.1 (by omega) hr'
          ·rw[hout e.on (by omega) hr'];exact h
        simp only[Array.getD,hlt,dif_pos] at hh ⊢
        simpa using hh
      rw[hnil] at hready
      cases hready
   obtain⟨p,hp,hpl⟩:=hsome;have:=key p.1 (hmem p.1 (List.mem_map.2 ⟨p,hp,rfl⟩)).2 (List.mem_map.2 ⟨p,hp,rfl⟩);rw[this] at hpl
   cases hpl
  ·intro i hi
   have hir:=hno i hi;obtain⟨hi1,hi2⟩:=List.mem_filter.1 hi;have hilt:=List.mem_range.1 hi1;simp only[Bool.and_eq_true] at hi2;have hil:listed.getD i true=false:=by simpa using hi2.1
   obtain⟨p,hp,rfl⟩:=List.mem_map.1 hir;refine step p hp u s w hRw ?_ _ ?_
   ·intro j hj
    rw[WM,Array.getElem?_eq_getElem hilt] at hj;obtain⟨e,he,rfl⟩:=List.mem_map.1 hj;obtain⟨he1,he2⟩:=List.mem_filter.1 he;simp only[Bool.and_eq_true] at he2;have hjr:e.on∈rem.map (·.1):=by simpa using he2.2
    obtain⟨q,hq,hqe⟩:=List.mem_map.1 hjr;have hjd:e.on∈WM ops rem p.1:=by
     rw[WM,Array.getElem?_eq_getElem hilt];exact List.mem_map.2 ⟨e,he,rfl⟩
    have hkj:∀ k∈kill q.1,listed.getD k true=false:=by
     intro k hk;rw[hqe] at hk;have h9:=List.all_eq_true.1 (List.all_eq_true.1 (List.all_eq_true.1 hkill p hp) e.on hjd) k hk;obtain rfl:k=p.1:=by simpa using h9
     exact hil
    rw[<-hqe];refine hV q hq ?_ hkj;have h3:=hi2.2;rw[Array.getElem?_eq_getElem hilt] at h3;simp only[Option.map_some,Option.getD_some,Array.all_eq_true_iff_forall_mem] at h3;have:=h3 e (by simpa using he1);rw[he2.1] at this;simp only[Bool.not_true,Bool.false_or] at this;rw[hqe];have hlt:e.on<listed.size:=by rw[hs,<-hqe];exact(hmem q.1 (List.mem_map.2 ⟨q,hq,rfl⟩)).2
    simp only[Array.getD,hlt,dif_pos] at this ⊢
    simpa using this
   ·intro v s' w' hv hR' hst
    have hpp:(p.1,p.2)∈rem:=hp;rw[Zax a0 p.1 p.2 u v rem hn hdn hpp];have hset:∀ j,(listed.setIfInBounds p.1 true).getD j true=if j=p.1 then true else listed.getD j true:=by
     intro j;simp only[Array.getD_eq_getD_getElem?,Array.getElem?_setIfInBounds]
     by_cases hj:p.1=j
     ·subst hj
      simp;split<;>simp
     ·rw[if_neg hj,if_neg (Ne.symm hj)]
    refine ih _ _ _ _ (by simpa using hs) hR' ?_ ?_ ?_ ?_
    ·intro j hj hjr
     have hjp:¬j=p.1:=fun e=>hjr (by rw[e];exact List.mem_map.2 ⟨p,hp,rfl⟩)
     rw[hset,if_neg hjp];exact hout j hj hjr
    ·intro q hq hql hkq
     rw[hset] at hql
     by_cases he:q.1=p.1
     ·rw[he]
      simpa [upd] using hv
     ·rw[if_neg he] at hql
      simp only[upd,if_neg he];have hk1:∀ k∈kill q.1,k≠p.1/\listed.getD k true=false:=by
       intro k hk;have h9:=hkq k hk;rw[hset] at h9
       by_cases hkp:k=p.1
       ·rw[if_pos hkp] at h9;cases h9
       ·rw[if_neg hkp] at h9;exact⟨hkp,h9⟩
      refine stab p.1 q.1 _ _ _ _ _ ?_ (hV q hq hql fun k hk=>(hk1 k hk).2) hst;unfold ZeI;simp only[Bool.and_eq_true,decide_eq_true_eq,Bool.not_eq_true'];refine⟨⟨⟨Ne.symm he,?_⟩,List.all_eq_true.2 fun k hk=>?_⟩,?_⟩
      ·cases hc:(kill q.1).contains p.1 with
       | false=>rfl
       | true=>exact absurd rfl (hk1 p.1 (by simpa using hc)).1
      ·cases hc:Ub ops (rem.map (·.1)) (rem.length+1) p.1 k with
       | false=>rfl
       | true =>
        have h5:=Uc hcl _ p.1 (Qe hi2.2) k hc;rw[(hk1 k hk).2] at h5
        cases h5
      ·cases hc:Ub ops (rem.map (·.1)) (rem.length+1) q.1 p.1 with
       | false=>rfl
       | true =>
        have h5:=Uc hcl _ q.1 (hcl q.1 (List.mem_map.2 ⟨q,hq,rfl⟩) hql) p.1 hc;rw[hil] at h5
        cases h5
    ·intro q hq hql o ho e he hb
     rw[hset];split
     ·rfl
     ·rw[hset] at hql
      by_cases hqp:q=p.1
      ·subst hqp
       exact Qe hi2.2 o ho e he hb
      ·rw[if_neg hqp] at hql
       exact hcl q hq hql o ho e he hb
    ·have hlt:Uw (listed.setIfInBounds p.1 true) rem+1=Uw listed rem:=by
      unfold Uw;have h1:∀ (qs:List (Nat×Option Tmp)),(qs.map (·.1)).Nodup->p∈qs->(qs.filter fun q => !(listed.setIfInBounds p.1 true).getD q.1 true).length+1=(qs.filter fun q => !listed.getD q.1 true).length:=by
       intro qs hqn hpq;have heq:∀ (rs:List (Nat×Option Tmp)),p.1∉rs.map (·.1)->(rs.filter fun q => !(listed.setIfInBounds p.1 true).getD q.1 true)=(rs.filter fun q => !listed.getD q.1 true):=by
        intro rs hrs;refine List.filter_congr fun q hq=>?_
        have hne:q.1≠p.1:=fun e=>hrs (e ▸ List.mem_map.2 ⟨q,hq,rfl⟩)
        rw[hset,if_neg hne]
       induction qs with
       | nil=>cases hpq
       | cons r rs ihr =>
        rcases List.mem_cons.1 hpq with rfl | hpq'
        ·have:=heq rs (List.nodup_cons.1 hqn).1
         rw[List.filter_cons,List.filter_cons,this,hset,if_pos rfl,hil];simp
        ·have ih2:=ihr (List.nodup_cons.1 hqn).2 hpq'
         have hne:r.1≠p.1:=by
          intro e;exact(List.nodup_cons.1 hqn).1 (List.mem_map.2 ⟨p,hpq',e.symm⟩)
         rw[List.filter_cons,List.filter_cons,hset,if_neg hne];split<;>(try simp only[List.length_cons])<;>omega
      exact h1 rem hn hp
     omega
theorem Wb (rem:List (Nat×Option Tmp))(R:World->Prop)(V:Nat->Value->World->Prop)(Stab:World->World->Prop){listed0:Array Bool}(listed1:Array Bool)(hok:Ud ops listed0 listed1 rem=true)
  (stab:∀ j v w w',V j v w->Stab w w'->V j v w')
  {a0:Act}
  (step:∀ p∈rem,∀ u w,R w->(∀ j∈WM ops rem p.1,V j (u j) w)->∀ K:Act->World->Prop,(∀ v w',V p.1 v w'->R w'->Stab w w'->K ((Zn a0 rem u).put p.2 v) w')->wpOp P ops Q p.1 K (Zn a0 rem u) w)
  (n:Nat) (done:∀ u w,R w->(∀ p∈rem,V p.1 (u p.1) w)->wpAny P .any ops Q n listed1 (Zn a0 rem u) w) {w0:World} (hR:R w0) :
  wpAny P .any ops Q (rem.length+n) listed0 a0 w0 :=
 JT (σ:=Unit) rem (fun _=>[]) (fun _=>R) (fun j v _=>V j v) (fun _ _ w _ w'=>Stab w w') listed1 hok (by simp[ZeJ]) (fun _ j v _ w _ w' _=>stab j v w w') (fun p hp u _ w hR hd K hK=>step p hp u w hR hd K fun v w'=>hK v () w') n (fun u _ w hR h=>done u w hR fun p hp=>h p hp rfl) (s0:=()) hR
end
section
variable {P:Program} {ops:Array Oper} {Q:Exit->Act->World->Prop}
theorem Wx (rem:List (Nat×Option Tmp))(f:Nat->Value){listed0:Array Bool}(listed1:Array Bool)(hok:Ud ops listed0 listed1 rem=true){a0:Act}{w:World}{n:Nat}
  (step:∀ p∈rem,∀ u:Nat->Value,(∀ j∈WM ops rem p.1,u j=f j)->∀ K:Act->World->Prop,K ((Zn a0 rem u).put p.2 (f p.1)) w->wpOp P ops Q p.1 K (Zn a0 rem u) w)
  (done:wpAny P .any ops Q n listed1 (Zn a0 rem f) w):wpAny P .any ops Q (rem.length+n) listed0 a0 w:=by
 refine Wb rem (fun w'=>w'=w) (fun i v _=>v=f i) (fun _ _=>True) listed1 hok (fun _ _ _ _ h _=>h) ?_ n ?_ rfl
 ·rintro p hp u w' rfl hD K hK
  exact step p hp u hD K (hK _ _ rfl rfl trivial)
 ·rintro u w' rfl hV
  have:∀ qs:List (Nat×Option Tmp),(∀ p∈qs,u p.1=f p.1)->Zn a0 qs u=Zn a0 qs f:=by
   intro qs
   induction qs with
   | nil=>intro _;rfl
   | cons q qs ih =>
    intro h;simp only[Zn,ih (fun p hp=>h p (List.mem_cons_of_mem _ hp)),h q List.mem_cons_self]
  rw[this rem hV];exact done
end
section
variable {P:Program} {ops:Array Oper} {o:Oper} {a:Act} {w w':World} {K:Act->World->Prop} {Q:Exit->Act->World->Prop} {E:Prop}
end
end
section
def VF (f:Nat->Option Value)(g:Nat->Value->World->Prop)(i:Nat)(v:Value)(w:World) : Prop:=match f i with
 | some c=>v=c
 | none=>g i v w
theorem VF.stab {f:Nat->Option Value}{g:Nat->Value->World->Prop}{Stab:World->World->Prop}(h:∀ j v w w',f j=none->g j v w->Stab w w'->g j v w')(j:Nat)(v:Value)(w w':World)(hv:VF f g j v w)(hs:Stab w w') : VF f g j v w':=by
 unfold VF at *
 cases hf:f j with
 | some c=>rw[hf] at hv;exact hv
 | none=>rw[hf] at hv;exact h j v w w' hf hv hs
theorem VF.k {f:Nat->Option Value}{g:Nat->Value->World->Prop}{i:Nat}{v c:Value}{w:World}(h:VF f g i v w)(hf:f i=some c) : v=c:=by unfold VF at h;rw[hf] at h;exact h
theorem VF.g {f:Nat->Option Value}{g:Nat->Value->World->Prop}{i:Nat}{v:Value}{w:World}(h:VF f g i v w)(hf:f i=none) : g i v w:=by unfold VF at h;rw[hf] at h;exact h
theorem VF.mk {f:Nat->Option Value}{g:Nat->Value->World->Prop}{i:Nat}{c:Value}{w:World}(hf:f i=some c) : VF f g i c w:=by unfold VF;rw[hf]
theorem VF.mg {f:Nat->Option Value}{g:Nat->Value->World->Prop}{i:Nat}{v:Value}{w:World}(hf:f i=none)(h:g i v w) : VF f g i v w:=by unfold VF;rw[hf];exact h
def XU (ops:Array Oper)(i:Nat) : Option (Option (Nat×Bool)×Op×TypeId×Option Tmp):=(ops[i]?).map fun o=>(o.guard,o.op,o.type,o.dst)
def Ze (ρ:Operand->Value)(op:Op)(t:TypeId) : Sem Next:=execOp ρ { dst:=none,op:=op,type:=t,pos := "",after:=#[],guard:=none }
theorem Zdm (ρ:Operand->Value)(o:Oper) : execOp ρ o=Ze ρ o.op o.type:=rfl
section
variable {P:Program} {ops:Array Oper} {i:Nat} {op:Op} {t:TypeId} {d:Option Tmp} {a:Act} {w w':World} {K:Act->World->Prop} {Q:Exit->Act->World->Prop}
theorem ZeK (hi:XU ops i=some (none,op,t,d))(h:∀ o:Oper,o.op=op->o.type=t->o.dst=d->o.upon P a K Q ((Ze a.eval op t).run P w)) : wpOp P ops Q i K a w:=by
 unfold XU at hi;obtain⟨o,ho,he⟩:=Option.map_eq_some_iff.1 hi;simp only[Prod.mk.injEq] at he;obtain⟨h1,h2,h3,h4⟩:=he;unfold wpOp;simp only[ho];rw[if_pos (by simp[Region.wanted,h1])];refine .inl ?_;rw[Oper.wp,Zdm,h2,h3];exact h o h2 h3 h4
theorem Z5 (hi:XU ops i=some (none,op,t,d))(v:Value)(hrun:(Ze a.eval op t).run P w=.ok (.value v) w')(hK:K (a.put d v) w') : wpOp P ops Q i K a w :=
 ZeK hi fun o _ _ hd=>by rw[hrun,Oper.upon_value,hd];exact hK
theorem ZiX (hi:XU ops i=some (none,op,t,d))(hrun:(Ze a.eval op t).run P w=.ok .skip w')(hK:K (a.put d undef) w') : wpOp P ops Q i K a w :=
 ZeK hi fun o _ _ hd=>by rw[hrun,Oper.upon_skip,hd];exact hK
theorem Zv {T:TypeId}{x:Operand}(hi:XU ops i=some (none,.load T x,t,d))(p:Value)(hx:a.eval x=p)(v:Value)(hrun:(Instr.loadAt T p).run P w=.ok v w)(hK:K (a.put d v) w) : wpOp P ops Q i K a w :=
 Z5 hi v (by simp[Ze,execOp,hx,hrun]) hK
theorem XY {T:TypeId}{x y:Operand}(hi:XU ops i=some (none,.indexAddr T x y,t,d))(p q:Value)(hx:a.eval x=p)(hy:a.eval y=q)(v:Value)(hrun:(Instr.indexAt T p q).run P w=.ok v w)(hK:K (a.put d v) w) : wpOp P ops Q i K a w :=
 Z5 hi v (by simp[Ze,execOp,hx,hy,hrun]) hK
theorem ZjJ {T:TypeId}(hi:XU ops i=some (none,.buildSlice T 0 #[],t,d))(v:Value)(hrun:(Instr.buildSlice T 0 #[]).run P w=.ok v w')(hK:K (a.put d v) w') : wpOp P ops Q i K a w :=
 Z5 hi v (by simp[Ze,execOp,hrun]) hK
theorem Vw {T:TypeId}{x:Operand}(hi:XU ops i=some (none,.buildSlice T 1 #[(0,x)],t,d))(p:Value)(hx:a.eval x=p)(v:Value)(hrun:(Instr.buildSlice T 1 #[(0,p)]).run P w=.ok v w')(hK:K (a.put d v) w') : wpOp P ops Q i K a w :=
 Z5 hi v (by simp[Ze,execOp,hx,hrun]) hK
theorem Xq {T:TypeId}{x y:Operand}(hi:XU ops i=some (none,.store T x y,t,d))(p v:Value)(hx:a.eval x=p)(hy:a.eval y=v)(hrun:(Instr.storeAt T p v).run P w=.ok () w')(hK:K (a.put d undef) w') : wpOp P ops Q i K a w :=
 ZiX hi (by simp[Ze,execOp,hx,hy,hrun]) hK
theorem WQ {s x:Operand}{t1 t2:TypeId}(hi:XU ops i=some (none,.call { callee:=.builtin .append,args:=#[s,x],argTypes:=#[t1,t2] },t,d))(p q:Value)(hs:a.eval s=p)(hx:a.eval x=q)(v:Value)(hrun:(Builtin.append_ #[t1,t2] t #[p,q]).run P w=.ok v w')(hK:K (a.put d v) w') : wpOp P ops Q i K a w :=
 Z5 hi v (by simp[Ze,execOp,resolve,invoke,builtin,Sem.run_bind,Sem.run_pure,Result.andThen_ok,hs,hx,hrun]) hK
theorem YC {f:Nat}{xs:Array Operand}{ts:Array TypeId}(hi:XU ops i=some (none,.call { callee:=.value (.func f),args:=xs,argTypes:=ts },t,d))(args:Array Value)(hf:(callFunc f args).run P w=.ok (.enter f args) w)(hargs:xs.map a.eval=args)(R:Ending->World->Prop)(hc:Calls P f args w R)(hK:∀ e w',R e w'->∃ v,e=.returned v/\K (a.put d v) w') : wpOp P ops Q i K a w :=
 ZeK hi fun o _ _ hd=>by
  have e1:(Ze a.eval (.call { callee:=.value (.func f),args:=xs,argTypes:=ts }) t).run P w=.ok (.enter f args) w:=by
   simp[Ze,execOp,resolve,invoke,Sem.run_bind,Sem.run_pure,Result.andThen_ok,hargs,Deferred.ofValue,Act.eval,hf]
  rw[e1,Oper.upon_enter];refine hc.mono fun e w1 he=>?_
  obtain⟨v,rfl,hk⟩:=hK e w1 he;rw[hd];exact hk
theorem ZfY {g:Nat×Bool}(hi:XU ops i=some (some g,op,t,d))(hg:yielded ops a.tmps g.1=some g.2)(h:∀ o:Oper,o.op=op->o.type=t->o.dst=d->o.upon P a K Q ((Ze a.eval op t).run P w)) : wpOp P ops Q i K a w:=by
 unfold XU at hi;obtain⟨o,ho,he⟩:=Option.map_eq_some_iff.1 hi;simp only[Prod.mk.injEq] at he;obtain⟨h1,h2,h3,h4⟩:=he;unfold wpOp;simp only[ho];rw[if_pos (by simp[Region.wanted,h1,hg])];refine .inl ?_;rw[Oper.wp,Zdm,h2,h3];exact h o h2 h3 h4
theorem ZcI {g:Nat×Bool}{T:TypeId}{x:Operand}(hi:XU ops i=some (some g,.load T x,t,d))(hg:yielded ops a.tmps g.1=some g.2)(p:Value)(hx:a.eval x=p)(v:Value)(hrun:(Instr.loadAt T p).run P w=.ok v w)(hK:K (a.put d v) w) : wpOp P ops Q i K a w :=
 ZfY hi hg fun o _ _ hd=>by
  have e1:(Ze a.eval (.load T x) t).run P w=.ok (.value v) w:=by simp[Ze,execOp,hx,hrun]
  rw[e1,Oper.upon_value,hd];exact hK
theorem Zdn {g:Nat×Bool}{f:Nat}{xs:Array Operand}{ts:Array TypeId}(hi:XU ops i=some (some g,.call { callee:=.value (.func f),args:=xs,argTypes:=ts },t,d))(hg:yielded ops a.tmps g.1=some g.2)(args:Array Value)(hf:(callFunc f args).run P w=.ok (.enter f args) w)(hargs:xs.map a.eval=args)(R:Ending->World->Prop)(hc:Calls P f args w R)(hK:∀ e w',R e w'->∃ v,e=.returned v/\K (a.put d v) w') : wpOp P ops Q i K a w :=
 ZfY hi hg fun o _ _ hd=>by
  have e1:(Ze a.eval (.call { callee:=.value (.func f),args:=xs,argTypes:=ts }) t).run P w=.ok (.enter f args) w:=by
   simp[Ze,execOp,resolve,invoke,Sem.run_bind,Sem.run_pure,Result.andThen_ok,hargs,Deferred.ofValue,Act.eval,hf]
  rw[e1,Oper.upon_enter];refine hc.mono fun e w1 he=>?_
  obtain⟨v,rfl,hk⟩:=hK e w1 he;rw[hd];exact hk
theorem ZiY {md:Region.Mode}{listed:Array Bool}{n:Nat}{v:Value}(hi:XU ops i=some (none,op,t,d))(hs:Region.noSelect ops=true)(hf:Region.free md ops listed i=true)(hr:(Region.ready md ops listed).contains i=true)
  (hQ:∀ c a w,Q (.panic c) (a.put d v) w->Q (.panic c) a w) (hy:∀ u,(Ze a.eval op t).run P u=.ok (.value v) u) (h:wpAny P md ops Q n (listed.setIfInBounds i true) (a.put d v) w):wpAny P md ops Q (n+1) listed a w:=by
 unfold XU at hi;obtain⟨o,ho,he⟩:=Option.map_eq_some_iff.1 hi;simp only[Prod.mk.injEq] at he;obtain⟨h1,rfl,rfl,rfl⟩:=he;exact wpAny_take ho hs hf hr hQ (.inl ⟨by simp[Region.wanted,h1],hy⟩) h
theorem Zc {md:Region.Mode}{listed:Array Bool}{n:Nat}{v:Value}(hi:XU ops i=some (none,op,t,d))(hc:(Region.noSelect ops&&(Region.free md ops listed i&&(Region.ready md ops listed).contains i))=true)(hQ:∀ c a w,Q (.panic c) (a.put d v) w->Q (.panic c) a w)(hy:∀ u,(Ze a.eval op t).run P u=.ok (.value v) u)(h:wpAny P md ops Q n (listed.setIfInBounds i true) (a.put d v) w) : wpAny P md ops Q (n+1) listed a w:=by
 simp only[Bool.and_eq_true] at hc;exact ZiY hi hc.1 hc.2.1 hc.2.2 hQ hy h
theorem lay : (∀ (a:Act) (d:Option Nat) (v:Value),a.put d v=(match d with | some d=>{ a with tmps:=a.tmps.setIfInBounds d v } | none=>a))/\(∀ (l:List Value) (i:Nat) (v:Value),l.toArray.setIfInBounds i v=(l.set i v).toArray)/\(∀ (x:Value) (l:List Value) (v:Value),(x::l).set 0 v=v::l)/\(∀ (x:Value) (l:List Value) (i:Nat) (v:Value),(x::l).set (i+1) v=x::l.set i v):=⟨fun _ d _=>by cases d<;>rfl,fun _ _ _=>by simp,fun _ _ _=>rfl,fun _ _ _ _=>rfl⟩
theorem ZiZ {md:Region.Mode}{listed:Array Bool}{n:Nat}{v:Value}{g:Nat×Bool}(hi:XU ops i=some (some g,op,t,d))(hs:Region.noSelect ops=true)(hf:Region.free md ops listed i=true)(hr:(Region.ready md ops listed).contains i=true)
  (hQ:∀ c a w,Q (.panic c) (a.put d v) w->Q (.panic c) a w) (hg:yielded ops a.tmps g.1=some g.2) (hy:∀ u,(Ze a.eval op t).run P u=.ok (.value v) u) (h:wpAny P md ops Q n (listed.setIfInBounds i true) (a.put d v) w):wpAny P md ops Q (n+1) listed a w:=by
 unfold XU at hi;obtain⟨o,ho,he⟩:=Option.map_eq_some_iff.1 hi;simp only[Prod.mk.injEq] at he;obtain⟨h1,rfl,rfl,rfl⟩:=he;exact wpAny_take ho hs hf hr hQ (.inl ⟨by simp[Region.wanted,h1,hg],hy⟩) h
theorem YH {md:Region.Mode}{listed:Array Bool}{n:Nat}{v:Value}{g:Nat×Bool}(hi:XU ops i=some (some g,op,t,d))(hc:(Region.noSelect ops&&(Region.free md ops listed i&&(Region.ready md ops listed).contains i))=true)(hQ:∀ c a w,Q (.panic c) (a.put d v) w->Q (.panic c) a w)(hg:yielded ops a.tmps g.1=some g.2)(hy:∀ u,(Ze a.eval op t).run P u=.ok (.value v) u)(h:wpAny P md ops Q n (listed.setIfInBounds i true) (a.put d v) w) : wpAny P md ops Q (n+1) listed a w:=by
 simp only[Bool.and_eq_true] at hc;exact ZiZ hi hc.1 hc.2.1 hc.2.2 hQ hg hy h
theorem Zi0 {md:Region.Mode}{listed:Array Bool}{n:Nat}{g:Nat×Bool}{b:Bool}(hi:XU ops i=some (some g,op,t,d))(hs:Region.noSelect ops=true)(hf:Region.free md ops listed i=true)(hr:(Region.ready md ops listed).contains i=true)
  (hQ:∀ c a w,Q (.panic c) (a.put d undef) w->Q (.panic c) a w) (hg:yielded ops a.tmps g.1=some b) (hb:(b != g.2)=true) (h:wpAny P md ops Q n (listed.setIfInBounds i true) (a.put d undef) w):wpAny P md ops Q (n+1) listed a w:=by
 unfold XU at hi;obtain⟨o,ho,he⟩:=Option.map_eq_some_iff.1 hi;simp only[Prod.mk.injEq] at he;obtain⟨h1,rfl,rfl,rfl⟩:=he;refine wpAny_take ho hs hf hr hQ (.inr ⟨?_,rfl⟩) h;obtain⟨g1,g2⟩:=g;simp only at hg hb
 cases b<;>cases g2<;>simp_all[Region.wanted]
theorem ZG {md:Region.Mode}{listed:Array Bool}{n:Nat}{g:Nat×Bool}{b:Bool}(hi:XU ops i=some (some g,op,t,d))(hc:(Region.noSelect ops&&(Region.free md ops listed i&&(Region.ready md ops listed).contains i))=true)(hQ:∀ c a w,Q (.panic c) (a.put d undef) w->Q (.panic c) a w)(hg:yielded ops a.tmps g.1=some b)(hb:(b != g.2)=true)(h:wpAny P md ops Q n (listed.setIfInBounds i true) (a.put d undef) w) : wpAny P md ops Q (n+1) listed a w:=by
 simp only[Bool.and_eq_true] at hc;exact Zi0 hi hc.1 hc.2.1 hc.2.2 hQ hg hb h
theorem Zl {md:Region.Mode}{listed:Array Bool}{n:Nat}(i:Nat)(h1:Region.ready md ops listed=[i])(h:wpOp P ops Q i (wpAny P md ops Q n (listed.setIfInBounds i true)) a w) : wpAny P md ops Q (n+1) listed a w :=
 ⟨fun h0=>absurd (h1.symm.trans h0) (by simp),fun j hj=>by
  rw[h1] at hj;obtain rfl:j=i:=by simpa using hj
  exact h⟩
end
theorem RdI.drop {w:World}{A:Option Addr}{xs:List Int}{c lo:Nat}(h:RdI w A xs)(h1:lo<=xs.length)(h2:xs.length<=c) : RdI w (if c=lo then A else A.map (·.add (lo*1))) (xs.drop lo):=by
 by_cases hc:c=lo
 ·left
  exact List.drop_of_length_le (by omega)
 ·rw[if_neg hc]
  rcases h with rfl | ⟨b,off,rfl,hb,hcc⟩
  ·left;simp
  ·refine .inr ⟨b,off+lo,by simp[Addr.add],hb,fun j x hj=>?_⟩
   rw[List.getElem?_drop] at hj;have:=hcc (lo+j) x hj
   rwa [<-Nat.add_assoc] at this
theorem Ints.drop {xs:List Int}(h:Ints xs)(n:Nat) : Ints (xs.drop n):=fun x hx=>h x (List.mem_of_mem_drop hx)
end
section
section
variable {P:Program} {ops:Array Oper} {Q:Exit->Act->World->Prop}
theorem ZM (rem:List (Nat×Option Tmp))(R:World->Prop)(V:Nat->Value->World->Prop)(Stab:World->World->Prop){listed0:Array Bool}(listed1:Array Bool)(hok:Ud ops listed0 listed1 rem=true)
  (stab:∀ j v w w',V j v w->Stab w w'->V j v w')
  {a0:Act}
  (step:∀ p∈rem,∀ u w,R w->(∀ j∈WM ops rem p.1,V j (u j) w)->∀ K:Act->World->Prop,(∀ v w',V p.1 v w'->R w'->Stab w w'->K ((Zn a0 rem u).put p.2 v) w')->wpOp P ops Q p.1 K (Zn a0 rem u) w)
  (n:Nat) (done:∀ u w,R w->(∀ p∈rem,V p.1 (u p.1) w)->wpAny P .any ops Q n listed1 (Zn a0 rem u) w) {w0:World} (hR:R w0) :
  wpAny P .any ops Q (rem.length+n) listed0 a0 w0 :=
 Wb rem R V Stab listed1 hok stab step n done hR
end
end
section
open Go
def YT (a b:Nat) : Nat:=(BitVec.ofNat 64 a &&& ~~~ BitVec.ofNat 64 b).toNat
theorem Qf (a b:Nat) : YT a b<18446744073709551616:=(BitVec.ofNat 64 a &&& ~~~ BitVec.ofNat 64 b).isLt
theorem Up (a b:Nat)(ha:a<18446744073709551616)(hb:b<18446744073709551616) : bits .andNot .u64 (a:Int) (b:Int)=((YT a b:Nat):Int):=by
 have h1:BitVec.ofInt 64 (a:Int)=BitVec.ofNat 64 a:=BitVec.ofInt_natCast ..;have h2:BitVec.ofInt 64 (b:Int)=BitVec.ofNat 64 b:=BitVec.ofInt_natCast ..;show IntKind.u64.wrap ((BitVec.ofInt 64 (a:Int) &&& ~~~ BitVec.ofInt 64 (b:Int)).toNat:Int)=_;rw[h1,h2,IntKind.wrap_u64];have:=Qf a b;unfold YT at this ⊢;omega
theorem JU {a b j:Nat}(ha:a<18446744073709551616) : (YT a b).testBit j=(a.testBit j && !b.testBit j):=by
 unfold YT;rw[BitVec.testBit_toNat,BitVec.getLsbD_and,BitVec.getLsbD_not,BitVec.getLsbD_ofNat,BitVec.getLsbD_ofNat]
 by_cases hj:j<64
 ·simp[hj]
 ·have:a.testBit j=false:=Nat.testBit_lt_two_pow (Nat.lt_of_lt_of_le ha (by
   have:2^64<=2^j:=Nat.pow_le_pow_right (by omega) (by omega);omega))
  simp[hj,this]
def Zb (m:Nat) : List Nat:=(List.range 64).filter fun j=>m.testBit j
theorem Yl {m j:Nat} : j∈Zb m↔j<64/\m.testBit j=true:=by simp[Zb]
theorem ZD (m:Nat) : (Zb m).Pairwise (· < ·):=List.Pairwise.filter _ List.pairwise_lt_range
theorem Qg : Zb 0=[]:=by simp[Zb]
theorem Wy (m:Nat) : (Zb m).length<=64:=by
 have:=List.length_filter_le (fun j=>m.testBit j) (List.range 64)
 simpa [Zb] using this
theorem Zaz {m:Nat}(h0:m≠0)(h:m<18446744073709551616) : (Zb m).head?=some (Lib.ctz 64 m):=by
 have hc:Lib.ctz 64 m=Lib.ctzFrom 64 m:=by unfold Lib.ctz;rw[if_neg h0]
 obtain⟨q,h1,h2⟩:=Lib.ctzFrom_spec 64 m (by omega) (by omega);rw[hc];generalize Lib.ctzFrom 64 m=k at *;have hbit:∀ j,m.testBit j=(decide (k<=j)&&(2*q+1).testBit (j-k)):=fun j=>by rw[h1,Nat.testBit_two_pow_mul]
 have e:List.range 64=List.range k++(k::(List.range (64-k-1)).map (· + (k+1))):=by
  have:List.range 64=List.range (k+((64-k-1)+1)):=by congr 1;omega
  rw[this,List.range_add,List.range_succ_eq_map];simp only[List.map_cons,List.map_map,Nat.add_zero]
  congr 2
  apply List.map_congr_left;intro a _;simp[Function.comp_def];omega
 have e1:(List.range k).filter (fun j=>m.testBit j)=[]:=by
  rw[List.filter_eq_nil_iff];intro j hj;have:=List.mem_range.1 hj;rw[hbit,decide_eq_false (by omega)];simp
 have e2:m.testBit k=true:=by
  rw[hbit,decide_eq_true (Nat.le_refl _),Nat.sub_self,Nat.testBit_zero];simp
 unfold Zb;rw[e,List.filter_append,e1,List.filter_cons,e2]
 rfl
theorem ZeL {m x:Nat}{pre rest:List Nat}(h:m<18446744073709551616)(hx:Zb m=pre++x::rest) : Zb (YT m (2^(x+1)-1))=rest:=by
 have hs:=ZD m;rw[hx] at hs;have h1:=List.pairwise_append.1 hs;have h2:=List.pairwise_cons.1 h1.2.1;have e:Zb (YT m (2^(x+1)-1))=(Zb m).filter fun j=>decide (x<j):=by
  unfold Zb;rw[List.filter_filter];refine List.filter_congr fun j _=>?_
  rw[JU h,Nat.testBit_two_pow_sub_one]
  by_cases hj:j<x+1
  ·have:¬x<j:=by omega
   simp[hj,this]
  ·have:x<j:=by omega
   simp[hj,this]
 rw[e,hx,List.filter_append,List.filter_cons,decide_eq_false (by omega),List.filter_eq_nil_iff.2 (fun j hj=>by
  have:=h1.2.2 j hj x (by simp);simp;omega),List.filter_eq_self.2 (fun j hj=>by
  have:=h2.1 j hj
  simpa using this)]
 rfl
def YG (m i:Nat) : Nat:=YT m (2^i)
theorem ZaA {m i j:Nat}(h:m<18446744073709551616) : (YG m i).testBit j=(m.testBit j&&decide (i≠j)):=by
 unfold YG;rw[JU h,Nat.testBit_two_pow]
 by_cases hij:i=j<;>simp[hij]
theorem Wc {m i:Nat}(h:m<18446744073709551616) : Zb (YG m i)=(Zb m).filter fun j=>decide (i≠j):=by
 unfold Zb;rw[List.filter_filter];refine List.filter_congr fun j _=>?_
 rw[ZaA h,Bool.and_comm]
theorem We {n:Nat}(h:n<=64) : Zb (2^n-1)=List.range n:=by
 have e:List.range 64=List.range n++(List.range (64-n)).map (n + ·):=by
  rw[<-List.range_add]
  congr 1
  omega
 unfold Zb;rw[e,List.filter_append,List.filter_eq_self.2 (fun j hj=>by
  rw[Nat.testBit_two_pow_sub_one];simpa using hj),List.filter_eq_nil_iff.2 (fun j hj=>by
  obtain⟨a,_,rfl⟩:=List.mem_map.1 hj;rw[Nat.testBit_two_pow_sub_one];simp),List.append_nil]
def ZaB : List Nat->Int
 | []=>-1
 | x::_=>(x:Int)
theorem Zi1 (m i:Nat) : (m / 2^i)%2=if m.testBit i=true then 1 else 0:=by
 rw[Nat.testBit_eq_decide_div_mod_eq];have:m / 2^i%2<2:=Nat.mod_lt _ (by omega)
 by_cases h:m / 2^i%2=1
 ·simp[h]
 ·have h0:m / 2^i%2=0:=by omega
  simp[h0]
end
section
open Go.Deep
def ZS (m:Nat) : Value:=.agg #[.int .u64 m,.int .u64 0]
def Tab (w:World) : Prop:=TabAt 3 Lib.deBruijn64tab w
theorem Tab.ext {w w':World}(h:Tab w)(x:Ext w w') : Tab w':=fun j hj=>by
 have h1:=h j hj;have h2:(⟨3,j,none⟩:Addr).block<w.heap.size:=World.block_lt_of_cell? w _ h1;rw[x.cell h2];exact h1
theorem Zi2 (x k idx:Nat)(w:World)(hx0:((x:Int)==0)=false)
  (key:IntKind.u64.wrap (bits BinOp.and IntKind.u64 (x:Int) (IntKind.u64.wrap (-(x:Int)))*285870213051353865) / 288230376151711744=(idx:Int))
  (hi:idx<64) (hk:k<64) (hcell:w.cell? ⟨3,idx,none⟩=some (.int .u8 k)) :
  Calls Tryz.prog 155 #[.int .u64 x] w fun e w'=>e=.returned (.int .i64 k)/\Ext w w':=by
 go_enter Tryz.func155,Tryz.ntmps155;go_wp2_with (simp only[key]);go_ret;exact⟨rfl,Ext.rf _⟩
theorem ZjK (x:Nat)(hx:x<18446744073709551616)(hx0:x≠0)(w:World)(hT:Tab w) :
  Calls Tryz.prog 155 #[.int .u64 x] w fun e w'=>e=.returned (.int .i64 (Lib.ctz 64 x))/\Ext w w':=by
 obtain⟨hlow,hk⟩:=Lib.lowest_bit 64 x hx0 hx;obtain⟨hi,htab⟩:=Lib.deBruijn64_at _ hk;have hcell:=hT _ hi;rw[htab] at hcell;exact Zi2 x _ _ w (by simp;omega) (tz64_key x _ hx hx0 hlow) hi hk hcell
theorem YX (i:Int)(w:World) : Calls Tryz.prog 148 #[.int .i64 i] w fun e w'=>e=.returned (.bool (decide (0<=i)&&decide (i<128)))/\Ext w w':=by
 by_cases h0:0<=i
 ·have hb:decide (0<=i)=true:=decide_eq_true h0
  go_enter Tryz.func148,Tryz.ntmps148;go_wp2;go_ret;exact⟨by simp[hb],Ext.rf _⟩
 ·have hb:decide (0<=i)=false:=decide_eq_false h0
  go_enter Tryz.func148,Tryz.ntmps148;go_wp2;go_ret;exact⟨by simp[hb],Ext.rf _⟩
theorem Zgp (a b:Nat)(ha:a<18446744073709551616)(hb:b<18446744073709551616)(w:World) : Calls Tryz.prog 203 #[ZS a,ZS b] w fun e w'=>e=.returned (ZS (YT a b))/\Ext w w':=by
 have k:=Up a b ha hb;have k0:bits .andNot .u64 0 0=0:=by decide +kernel
 clear ha hb;unfold ZS;go_enter Tryz.func203,Tryz.ntmps203;go_wp2;refine bodyPost_ret (v:=.agg #[.int .u64 (YT a b),.int .u64 0]) (by simp[results,Tryz.results203,go_sem]) rfl ⟨rfl,?_⟩
 repeat (first | exact Ext.rf _ | apply Ext.alloc | (refine Ext.setNew ?_ (by simp<;>omega) _))
theorem Zdo (m n:Nat)(hm:m<18446744073709551616) : (bits BinOp.and IntKind.u64 ((m:Int) / 2^n) 1==1)=m.testBit n:=by
 have e:((m:Int) / 2^n)=((m / 2^n:Nat):Int):=by rw[Int.natCast_ediv,Int.natCast_pow];rfl
 have hlt:m / 2^n<18446744073709551616:=Nat.lt_of_le_of_lt (Nat.div_le_self _ _) hm;have h:=bits_and_u64_nat (m / 2^n) 1 hlt (by omega);rw[e,show ((1:Int))=((1:Nat):Int) from rfl,h,Nat.and_one_is_mod,Zi1];split<;>rename_i hb
 ·rw[hb];rfl
 ·simp at hb;rw[hb];rfl
theorem ZcJ (m:Nat)(i:Int)(hm:m<18446744073709551616)(w:World) : Calls Tryz.prog 193 #[ZS m,.int .i64 i] w fun e w'=>e=.returned (.bool (decide (0<=i/\i<64)&&m.testBit i.toNat))/\Ext w w':=by
 by_cases h0:0<=i/\i<64
 ·obtain⟨n,rfl⟩:∃ n:Nat,i=(n:Int):=⟨i.toNat,by omega⟩
  have hn:n<64:=by omega
  unfold ZS;have B1:Blk (w.alloc (.cells #[.int .u64 m,.int .u64 0] 161)) w.heap.size 161 #[.int .u64 m,.int .u64 0]:=.new rfl;go_enter Tryz.func193,Tryz.ntmps193;go_wp2_with (fail);refine(YX _ _).mono ?_;rintro e w1 ⟨rfl,x1⟩;have c0:w1.cell? ⟨w.heap.size,0,none⟩=some (.int .u64 m):=(B1.ext x1).cell 0;have X1:=Hd (Ext.tr (a:=w) XI x1);clear x1 B1;have e1:(decide (0<=(n:Int))&&decide ((n:Int)<128))=true:=by simp;omega
  rw[e1];have F:=Zdo m n hm;have q1:(n:Int) / 64=0:=by omega
  have q2:(n:Int)%64=(n:Int):=by omega
  go_wp2_with (fail);go_ret;exact⟨XX (by rw[decide_eq_true (p:=0<=(n:Int)/\(n:Int)<64) (by omega)];simp),X1.out⟩
 ·unfold ZS
  have eF:(decide (0<=i/\i<64)&&m.testBit i.toNat)=false:=by rw[decide_eq_false h0];rfl
  rw[eF];have B1:Blk (w.alloc (.cells #[.int .u64 m,.int .u64 0] 161)) w.heap.size 161 #[.int .u64 m,.int .u64 0]:=.new rfl
  by_cases h1:0<=i/\i<128
  ·obtain⟨n,rfl⟩:∃ n:Nat,i=(n:Int):=⟨i.toNat,by omega⟩
   have hn:64<=n:=by omega
   have hn2:n<128:=by omega
   go_enter Tryz.func193,Tryz.ntmps193;go_wp2_with (fail);refine(YX _ _).mono ?_;rintro e w1 ⟨rfl,x1⟩;have c1:w1.cell? ⟨w.heap.size,1,none⟩=some (.int .u64 0):=(B1.ext x1).cell 1;have X1:=Hd (Ext.tr (a:=w) XI x1);clear x1 B1;have e1:(decide (0<=(n:Int))&&decide ((n:Int)<128))=true:=by simp;omega
   rw[e1];have q1:(n:Int) / 64=1:=by omega
   have F:bits BinOp.and IntKind.u64 0 1=0:=by decide +kernel
   clear h0 h1 eF;go_wp2_with (fail);go_ret;exact⟨rfl,X1.out⟩
  ·have e1:(decide (0<=i)&&decide (i<128))=false:=by
    by_cases h2:0<=i
    ·rw[decide_eq_false (p:=i<128) (by omega)];simp
    ·rw[decide_eq_false h2];rfl
   clear h0 h1 eF;go_enter Tryz.func193,Tryz.ntmps193;go_wp2_with (fail);refine(YX _ _).mono ?_;rintro e w1 ⟨rfl,x1⟩;have X1:=Hd (Ext.tr (a:=w) XI x1);clear x1 B1;rw[e1];go_wp2_with (fail);go_ret;exact⟨rfl,X1.out⟩
theorem QL (i:Nat)(hi:i<64) : IntKind.u64.wrap ((2:Int)^i)=((2^i:Nat):Int):=by
 have h1:2^i<2^64:=Nat.pow_lt_pow_right (by omega) hi;have e2:((2:Int)^i)=((2^i:Nat):Int):=by rw[Int.natCast_pow];rfl
 rw[IntKind.wrap_u64,e2];generalize 2^i=p at *;omega
theorem ZbN (m:Nat)(hm:m<18446744073709551616)(w:World)(hT:Tab w) : Calls Tryz.prog 199 #[ZS m] w fun e w'=>e=.returned (.int .i64 (ZaB (Zb m)))/\Ext w w':=by
 unfold ZS
 by_cases h0:m=0
 ·subst h0
  rw[Qg];clear hT hm;have i0:∀ W,(Instr.index 161 (.agg #[.int .u64 0,.int .u64 0]) (.int .i64 0)).run Tryz.prog W=.ok (.int .u64 0) W:=fun _=>by kernel_rfl
  have i1:∀ W,(Instr.index 161 (.agg #[.int .u64 0,.int .u64 0]) (.int .i64 1)).run Tryz.prog W=.ok (.int .u64 0) W:=fun _=>by kernel_rfl
  go_enter Tryz.func199,Tryz.ntmps199;go_wp2_with (fail);go_loopw [6] (fun v wr=>(v=.int .i64 0\/v=.int .i64 1\/v=.int .i64 2)/\Ext w wr) (fun v _=>2-(intOf v).toNat)
  case atStart=>exact⟨.inl rfl,XI⟩
  case round =>
   obtain⟨h3,Y⟩:=hrel;rcases h3 with rfl | rfl | rfl
   ·go_wp2_with (fail)
    go_roundw
    case rel=>exact⟨.inr (.inl rfl),Y⟩
    case measure=>simp[intOf]
   ·go_wp2_with (fail)
    go_roundw
    case rel=>exact⟨.inr (.inr rfl),Y⟩
    case measure=>simp[intOf]
   ·go_wp2_with (fail)
    go_ret;exact⟨rfl,Y⟩
 ·have hh:=Zaz h0 hm
  have eh:ZaB (Zb m)=(Lib.ctz 64 m:Int):=by
   cases hl:Zb m with
   | nil=>rw[hl] at hh;cases hh
   | cons a l=>rw[hl] at hh;simp at hh;rw[<-hh];rfl
  rw[eh];have TZ:=Hd (fun(W:World) (x:Ext w W)=>ZjK m hm h0 W (hT.ext x));have hk:=(Lib.lowest_bit 64 m h0 hm).2;have hne:((m:Int) != 0)=true:=by simp;omega
  have i0:∀ W,(Instr.index 161 (.agg #[.int .u64 m,.int .u64 0]) (.int .i64 0)).run Tryz.prog W=.ok (.int .u64 m) W:=fun _=>by kernel_rfl
  have hwp:IntKind.i64.wrap (0+(Lib.ctz 64 m:Int))=(Lib.ctz 64 m:Int):=by rw[Int.zero_add];exact IntWalk.i64_in _ (by omega)
  generalize Lib.ctz 64 m=z at *;clear hh eh h0 hT;go_enter Tryz.func199,Tryz.ntmps199;go_wp2_with (fail);go_loopw [6] (fun v wr=>v=.int .i64 0/\Ext w wr) (fun _ _=>0)
  case atStart=>exact⟨rfl,XI⟩
  case round =>
   obtain⟨rfl,Y⟩:=hrel;go_wp2_with (fail);refine(TZ.out _ Y).mono ?_;rintro e w2 ⟨rfl,x2⟩;go_wp2_with (fail);go_ret;exact⟨rfl,Y.tr x2⟩
theorem Zj8 (n:Nat)(h:n<64) : IntKind.u64.wrap (IntKind.u64.wrap (2^n)-1)=((2^n-1:Nat):Int):=by
 have h1:2^n<2^64:=Nat.pow_lt_pow_right (by omega) h;have h2:0<2^n:=Nat.pow_pos (by omega);have e:((2:Int)^n)=((2^n:Nat):Int):=by rw[Int.natCast_pow];rfl
 rw[IntKind.wrap_u64,IntKind.wrap_u64,e];omega
theorem Ux (n:Nat)(hn:n<64)(w:World) : Calls Tryz.prog 116 #[.int .i64 n] w fun e w'=>e=.returned (ZS (2^n-1))/\Ext w w':=by
 unfold ZS;have FW:=Zj8 n hn;have F0:n=0->2^n-1=0:=fun h=>by subst h;rfl
 generalize 2^n-1=fm at *;replace F0:=Hd F0;have B2:Blk ((w.alloc (.cells #[.int .u64 0,.int .u64 0] 161)).alloc (.cells #[.int .u64 0,.int .u64 0] 161)) (w.heap.size+1) 161 #[.int .u64 0,.int .u64 0]:=.new (by simp);have B1:Blk ((w.alloc (.cells #[.int .u64 0,.int .u64 0] 161)).alloc (.cells #[.int .u64 0,.int .u64 0] 161)) w.heap.size 161 #[.int .u64 0,.int .u64 0]:=.alloc (.new rfl) _;have X0:Ext w ((w.alloc (.cells #[.int .u64 0,.int .u64 0] 161)).alloc (.cells #[.int .u64 0,.int .u64 0] 161)):=((Ext.rf w).alloc _).alloc _;go_enter Tryz.func116,Tryz.ntmps116;go_wp2_with (fail);go_loopw [6] (fun v wr=>∃ k:Nat,v=.int .i64 k/\k<=2/\Hid (Ext w wr)/\Hid (Blk wr w.heap.size 161 #[.int .u64 0,.int .u64 0])/\Hid (Blk wr (w.heap.size+1) 161 #[.int .u64 (if k=0 then 0 else(fm:Int)),.int .u64 0])) (fun v _=>2-(intOf v).toNat)
 case atStart=>exact⟨0,rfl,by omega,X0,B1,B2⟩
 case round =>
  obtain⟨k,rfl,hk,Y,C1,C2⟩:=hrel;have h3:k=0\/k=1\/k=2:=by omega
  rcases h3 with rfl | rfl | rfl
  ·have c0:wr.cell? ⟨w.heap.size+1,0,none⟩=some (.int .u64 0):=C2.out.cell 0
   have f0:=C2.out.free 0
   by_cases hn0:n=0
   ·obtain rfl:fm=0:=F0.out hn0
    subst hn0;go_wp2_with (fail);go_roundw
    case rel=>exact⟨1,rfl,by omega,Y,C1,C2⟩
    case measure=>simp[intOf]
   ·have hn1:0<n:=by omega
    have C3:=Hd (C2.out.set 0 (.int .u64 (fm:Int)));have C4:=Hd (C1.out.far (p:=⟨w.heap.size+1,0,none⟩) (by simp) (.int .u64 (fm:Int)));have Y4:=Hd (Y.out.setNew (p:=⟨w.heap.size+1,0,none⟩) (by simp) (.int .u64 (fm:Int)));go_wp2_with (fail);go_roundw
    case rel=>exact⟨1,rfl,by omega,Y4,C4,C3⟩
    case measure=>simp[intOf]
  ·go_wp2_with (fail)
   go_roundw
   case rel=>exact⟨2,rfl,by omega,Y,C1,C2⟩
   case measure=>simp[intOf]
  ·have c0:wr.cell? ⟨w.heap.size+1,0,none⟩=some (.int .u64 (fm:Int)):=C2.out.cell 0
   have c1:=C2.out.c1;have r0:=C1.out.c0;have r1:=C1.out.c1;have f0:=C1.out.free 0;have f1:=C1.out.free 1;go_wp2_with (fail);refine bodyPost_ret (v:=.agg #[.int .u64 (fm:Int),.int .u64 0]) (by simp[results,Tryz.results116,go_sem, *]) rfl ⟨rfl,?_⟩;exact(Y.out.setNew (p:=⟨w.heap.size,0,none⟩) (by simp) _).setNew (p:=⟨w.heap.size,1,none⟩) (by simp) _
open Go.Deep Go.Shelf
attribute [local go_sem] Oper.semAt_some
theorem Zhx (m x:Nat)(hm:m<18446744073709551616)(hx:x<63)(w:World)(hT:Tab w) :
  Calls Tryz.prog 200 #[ZS m,.int .i64 x] w fun e w'=>e=.returned (.int .i64 (ZaB (Zb (YT m (2^(x+1)-1)))))/\Ext w w':=by
 have FU:Hid (∀ W:World,Calls Tryz.prog 116 #[.int .i64 ((x:Int)+1)] W fun e w'=>e=.returned (ZS (2^(x+1)-1))/\Ext W w'):=fun W=>by
  have h:=Ux (x+1) (by omega) W;have e:((x+1:Nat):Int)=(x:Int)+1:=by omega
  rw[e] at h;exact h
 have hf:2^(x+1)-1<18446744073709551616:=by
  have:2^(x+1)<2^64:=Nat.pow_lt_pow_right (by omega) (by omega);omega
 have MI:=Hd (fun(W:World)=>Zgp m (2^(x+1)-1) hm hf W);have FI:=Hd (fun(W:World) (y:Ext w W)=>ZbN (YT m (2^(x+1)-1)) (Qf _ _) W (hT.ext y));clear hT hf hm;generalize ZaB (Zb (YT m (2^(x+1)-1)))=r at *;generalize YT m (2^(x+1)-1)=z at *;generalize 2^(x+1)-1=f at *;unfold ZS at *;have hq1:(if (x:Int) < -1 then(-1:Int) else(x:Int))=(x:Int):=if_neg (by omega);have hq2:IntKind.i64.wrap ((x:Int)+1)=(x:Int)+1:=IntWalk.i64_in _ (by omega);have B1:Blk (w.alloc (.cells #[.int .u64 m,.int .u64 0] 161)) w.heap.size 161 #[.int .u64 m,.int .u64 0]:=.new rfl;have X0:Ext w (w.alloc (.cells #[.int .u64 m,.int .u64 0] 161)):=(Ext.rf w).alloc _;go_enter Tryz.func200,Tryz.ntmps200;go_upto_region 3 with(fail);generalize w.alloc (.cells #[.int .u64 m,.int .u64 0] 161)=w1 at *;refine wp_region_any (by kernel_rfl) ?_
 change wpAny _ _ _ _ _ _ _ (World.drew _)
 refine Zc (i:=1) (op:=Op.move (Operand.tmp 1)) (t:=3) (d:=some 8) (v:=_) rfl (by decide +kernel) (fun _ _ _ h=>h) (by intro _;unfold Ze;go_simp;try with_reducible rfl) ?_
 try simp only[lay]
 refine Zc (i:=2) (op:=Op.call { callee:=Callee.builtin Builtin.max,args:=#[Operand.tmp 8,Operand.const (Value.int IntKind.i64 (-1))],argTypes:=#[3,3] }) (t:=3) (d:=some 9) (v:=_) rfl (by decide +kernel) (fun _ _ _ h=>h) (by intro _;unfold Ze;go_simp;try with_reducible rfl) ?_
 try simp only[lay]
 refine Zc (i:=3) (op:=Op.binOp BinOp.add 3 (Operand.tmp 9) (Operand.const (Value.int IntKind.i64 1)) 3) (t:=3) (d:=some 10) (v:=_) rfl (by decide +kernel) (fun _ _ _ h=>h) (by intro _;unfold Ze;go_simp;try with_reducible rfl) ?_
 try simp only[lay]
 refine ZM (n:=3) [(0,some 7),(4,some 11)] (Ext w1)
  (VF (fun | 0=>some (.agg #[.int .u64 m,.int .u64 0]) | 4=>some (.agg #[.int .u64 f,.int .u64 0]) | _=>none) (fun _ _ _=>True))
  Ext #[true,true,true,true,true,false,false,false] (by kernel_rfl) (VF.stab ?_) ?_ ?_ ((Ext.rf _).drew)
 ·intro j v W W' _ h _
  exact h
 ·intro pq hpm u W hRW hD K hK
  have c0:W.cell? ⟨w.heap.size,0,none⟩=some (.int .u64 m):=(B1.ext hRW).cell 0;have c1:W.cell? ⟨w.heap.size,1,none⟩=some (.int .u64 0):=(B1.ext hRW).cell 1;simp only[List.mem_cons,List.not_mem_nil,or_false] at hpm;rcases hpm with rfl | rfl
  ·exact Zv (T:=161) rfl (.pointer (some ⟨w.heap.size,0,none⟩)) (by kernel_rfl) (.agg #[.int .u64 m,.int .u64 0]) (by go_simp) (hK _ _ (VF.mk rfl) hRW (Ext.rf _))
  ·refine YC rfl #[.int .i64 ((x:Int)+1)] (by go_simp) (by kernel_rfl) _ (FU.out W) ?_
   rintro e w3 ⟨rfl,x3⟩;exact⟨_,rfl,hK _ _ (VF.mk rfl) (hRW.tr x3) x3⟩
 ·intro u W hRW hV
  have h0:=(hV (0,some 7) (by simp)).k rfl;have h4:=(hV (4,some 11) (by simp)).k rfl;simp only[Zn,h0,h4];have XW:=X0.tr hRW
  try simp only[lay]
  refine Zl 5 (by decide +kernel) (YC (f:=203) (xs:=#[Operand.tmp 7,Operand.tmp 11]) (ts:=#[161,161]) (t:=161) (d:=some 12) rfl #[.agg #[.int .u64 m,.int .u64 0],.agg #[.int .u64 f,.int .u64 0]] (by go_simp) (by kernel_rfl) _ (MI.out W) ?_);rintro e w3 ⟨rfl,x3⟩;refine⟨_,rfl,?_⟩
  try simp only[lay]
  refine Zl 6 (by decide +kernel) (YC (f:=199) (xs:=#[Operand.tmp 12]) (ts:=#[161]) (t:=3) (d:=some 13) rfl #[.agg #[.int .u64 z,.int .u64 0]] (by go_simp) (by kernel_rfl) _ (FI.out w3 (XW.tr x3)) ?_);rintro e w4 ⟨rfl,x4⟩;refine⟨_,rfl,?_⟩
  try simp only[lay]
  refine Zc (i:=7) (op:=Op.assign (Operand.tmp 13)) (t:=3) (d:=some 4) (v:=_) rfl (by decide +kernel) (fun _ _ _ h=>h) (by intro _;unfold Ze;go_simp;try with_reducible rfl) ?_
  try simp only[lay]
  refine wpAny_done (by kernel_rfl) ?_ _;have X4:=Hd ((XW.tr x3).tr x4);clear XW x3 x4 hRW hV h0 h4;go_simp;go_wp2_with (fail);go_ret;exact⟨rfl,X4.out⟩
theorem Ue (m:Nat)(w:World) : Calls Tryz.prog 196 #[ZS m] w fun e w'=>e=.returned (.func (.func 198) #[] #[.pointer (some ⟨w.heap.size,0,none⟩)])/\w'=w.alloc (.cells #[.int .u64 m,.int .u64 0] 161):=by
 unfold ZS;go_enter Tryz.func196,Tryz.ntmps196;go_wp2_with (fail);go_ret;exact⟨rfl,rfl⟩
abbrev In (m:Nat) : Type:={ x:Nat // x∈Zb m }
theorem In.lt {m:Nat}(x:In m) : x.1<64:=(Yl.1 x.2).1
def SetKp (n₀ Bn:Nat)(W W':World) : Prop:=Below n₀ W W'/\W'.heap[Bn]?=W.heap[Bn]?
theorem SetKp.tr {n₀ Bn:Nat}{A B C:World}(h:SetKp n₀ Bn A B)(k:SetKp n₀ Bn B C) : SetKp n₀ Bn A C:=⟨h.1.trans k.1,k.2.trans h.2⟩
theorem QM {W W':World}(x:Ext W W') : W.grownBy W' none:=⟨x.os,x.tape,x.output,x.size,fun k hk _=>x.block k hk⟩
theorem ZaC (x:Nat)(l:List Nat) : ZaB (x::l)=(x:Int):=rfl
theorem Zi3 (n:Nat)(m:Nat)(hm:m<18446744073709551616)(l Bn n₀:Nat)(J Jx:List (In m)->World->Prop)(W:World)(hJ:AbidesFrom W.heap.size J)
  (hY:∀ pre x W1,J pre W1->pre.length<(Zb m).length->YieldAt Fence.wide (n-1) Tryz.prog l #[.int .i64 ((x:In m).1:Nat)] W1 fun e W' =>
   (e=.returned (.bool true)/\J (pre++[x]) W'/\SetKp n₀ Bn W1 W')\/(e=.returned (.bool false)/\Jx (pre++[x]) W'))
  (hB:Blk W Bn 161 #[.int .u64 m,.int .u64 0]) (hT:Tab W) (hT0:∀ j,j<Lib.deBruijn64tab.length->3<n₀) (hn₀:n₀<=W.heap.size) (h0:J [] W) (h63:∀ x∈Zb m,x<63) :
  CallsIn Fence.wide n Tryz.prog 198 #[.func (.yield l) #[] #[],.pointer (some ⟨Bn,0,none⟩)] W fun e W'=>(∃ v,e=.returned v) /\
   ((∃ ys,ys=(Zb m).attach/\J ys W')\/(∃ pre,pre <+: (Zb m).attach/\Jx pre W')):=by
 have key:∀ (W1:World),Below n₀ W W1->Tab W1:=fun W1 hb j hj=>by
  rw[hb.cell (p:=⟨3,j,none⟩) (hT0 j hj)];exact hT j hj
 refine callsIn_of_wp Tryz.func198 rfl trivial ?_ rfl;simp only[Tryz.ntmps198,List.size_toArray,List.length_cons,List.length_nil,Nat.reduceAdd,Nat.reduceSub,Array.replicate_succ,Array.replicate_zero,List.push_toArray,List.append_toArray,List.nil_append,List.cons_append];have c0:=hB.c0;have c1:=hB.c1;have FI:=Hd (ZbN m hm W hT);unfold ZS at FI
 gi_wp2
 refine⟨trivial,fun h=>(by cases h),?_⟩;refine(callsIn_wide.2 FI.out).mono ?_;rintro e w1 ⟨rfl,x1⟩;have h1:J [] w1:=hJ [] W w1 none h0 (QM x1) (fun r h=>by cases h);have b1:=hB.ext x1;have k1:Below n₀ W w1:=x1.mono hn₀
 gi_wp2
 gi_loopw [3] (fun p wr=>∃ (pre rest:List (In m)),p=.int .i64 (ZaB (rest.map (·.1)))/\Hid ((Zb m).attach=pre++rest)/\Hid (J pre wr)/\Hid (Blk wr Bn 161 #[.int .u64 m,.int .u64 0])/\Hid (Below n₀ W wr)/\Hid (W.heap.size<=wr.heap.size)) (fun p _=>((65-intOf p)%66).toNat)
 case atStart=>exact⟨[],(Zb m).attach,by rw[List.attach_map_subtype_val],rfl,h1,b1,k1,x1.size⟩
 case round =>
  obtain⟨pre,rest,rfl,hx,hJ1,hB1,hk,hz⟩:=hrel;have hval:Zb m=(pre++rest).map (·.1):=by rw[<-hx.out,List.attach_map_subtype_val]
  cases rest with
  | nil =>
   gi_wp2
   go_end0;exact⟨⟨_,rfl⟩,.inl ⟨pre,by rw[hx.out,List.append_nil],hJ1.out⟩⟩
  | cons x rest =>
   have hlen:pre.length<(Zb m).length:=by rw[hval];simp
   obtain⟨fn,tmps,assign,body,hy,hR⟩:=hY pre x wr hJ1.out hlen;have hx64:=h63 x.1 x.2;have hnx:Zb m=pre.map (·.1)++x.1::rest.map (·.1):=hval.trans (by simp);have NX:=fun(V:World) (hT':Tab V)=>Zhx m x.1 hm hx64 V hT'
   rw[ZeL hm hnx] at NX;have hpre:pre++[x] <+: (Zb m).attach:=⟨rest,by rw[hx.out];simp⟩;have hx2:Hid ((Zb m).attach=(pre++[x])++rest):=Hd (by rw[hx.out];simp);have hsort:=ZD m;rw[hnx] at hsort;have hlt:∀ y∈rest.map (·.1),x.1<y:=(List.pairwise_cons.1 (List.pairwise_append.1 hsort).2.1).1;obtain⟨nx,hnxt⟩:∃ nx,Hid (ZaB (rest.map (·.1))=nx):=⟨_,rfl⟩;have hms:nx=-1\/((x.1:Int)<nx/\nx<=63):=by
    rw[<-hnxt.out]
    cases rest with
    | nil=>left;rfl
    | cons y l=>right;have h1:=hlt y.1 (by simp);have h2:=y.lt;simp only[List.map_cons,ZaC];omega
   rw[hnxt.out] at NX;replace NX:=Hd NX;unfold ZS at NX;simp only[List.map_cons,ZaC];replace hpre:=Hd hpre;clear hval hnx hsort hlt hlen;have B1':=hB1.out
   gi_wp2
   refine⟨fun h=>(by cases h),?_⟩;refine hR.mono ?_;rintro e W3 (⟨rfl,hJ3,hk3⟩ | ⟨rfl,hJx3⟩)
   ·have b3:Blk W3 Bn 161 #[.int .u64 m,.int .u64 0]:=hk3.2.trans B1'
    have kb3:=hk.out.trans hk3.1;have c0':=b3.c0;have c1':=b3.c1;have NX3:=Hd (NX.out W3 (key W3 kb3))
    gi_wp2
    refine⟨trivial,fun h=>(by cases h),?_⟩;refine(callsIn_wide.2 NX3.out).mono ?_;rintro e w4 ⟨rfl,x4⟩;have z3:=hk3.1.size;have hJ4:=hJ (pre++[x]) W3 w4 none hJ3 (QM x4) (fun r h=>by cases h)
    gi_wp2
    go_roundw
    case rel=>exact⟨pre++[x],rest,by rw[hnxt.out],hx2,hJ4,b3.ext x4,kb3.trans (x4.mono (by have:=hz.out;omega)),by have:=hz.out;have:=x4.size;exact(by omega:W.heap.size<=w4.heap.size)⟩
    case measure =>
     simp only[intOf];have q1:=hms;have q2:=hx64;omega
   ·gi_wp2
    refine bodyPost_ret (results_none rfl _ _ _) rfl ?_;exact⟨⟨_,rfl⟩,.inr ⟨pre++[x],hpre.out,hJx3⟩⟩
theorem QN {w:World}(h:Tab w) : 3<w.heap.size:=World.block_lt_of_cell? w _ (h 0 (by decide))
theorem Wf (n:Nat)(m:Nat)(hm:m<18446744073709551616)(h63:∀ x∈Zb m,x<63)(Bn n₀:Nat)(w:World)(hB:Blk w Bn 161 #[.int .u64 m,.int .u64 0])(hT:Tab w)(hn₀:n₀<=w.heap.size)(hg:3<n₀) :
  SeqStopsK Fence.wide n Tryz.prog 198 #[.pointer (some ⟨Bn,0,none⟩)] (fun x:In m=>#[Value.int .i64 ((x.1:Nat):Int)]) (SetKp n₀ Bn) (fun ys=>ys=(Zb m).attach) (fun pre=>pre <+: (Zb m).attach) (Zb m).length w:=fun l J Jx W hW hJ _ hY h0 =>
 Zi3 n m hm l Bn n₀ J Jx W hJ hY (hB.ext hW) (hT.ext hW) (fun _ _=>hg) (Nat.le_trans hn₀ hW.size) h0 h63
theorem Uf {n₀ Bn:Nat}{w:World}{cs:Array Value}(hn:n₀<=w.heap.size)(hB:Blk w Bn 161 cs)(W:World)(l:Nat)(o o':Obj)(hl:w.heap.size<=l)(h:W.heap[l]?=some o)(h1:o.isCells=false)(h2:o.isWalk=false) : SetKp n₀ Bn W (W.putObj l o') :=
 ⟨belowK_b hn W l o o' hl h h1 h2,World.putObj_heap_other (by have:=hB.lt;omega)⟩
end
section
open Go.Deep Go.Shelf
attribute [local go_sem] Oper.semAt_some
def inL {m:Nat}(pre:List (In m)) : List Nat:=pre.map (·.1)
theorem Va {m:Nat}(pre:List (In m))(x:In m) : inL (pre++[x])=inL pre++[x.1]:=by simp[inL]
theorem Xx (m:Nat) : inL (Zb m).attach=Zb m:=List.attach_map_subtype_val _
theorem Blk.not_row {W:World}{g n₀ k size:Nat}{t e:TypeId}{cs:Array Value}{v:Value}{xs:List Value}(h:Blk W g t cs)(hne:t≠e)(hrow:W.ownsRow n₀ e size v k xs) : v.ownBlock≠some g:=by
 rcases hrow.2 with⟨rfl,_⟩ | ⟨g',cap,cur,rfl,_,hg,_⟩
 ·simp[Value.ownBlock]
 ·intro e'
  obtain rfl:g'=g:=by simpa [Value.ownBlock] using e'
  unfold Blk at h;rw[h] at hg
  injection hg with hg
  injection hg with _ ht
  exact hne ht
theorem Zi4 (m:Nat)(hm:m<18446744073709551616)(h63:∀ x∈Zb m,x<63)(w:World)(hT:Tab w) :
  CallsIn Fence.wide 3 Tryz.prog 190 #[ZS m] w fun e W'=>∃ v,e=.returned v/\W'.ownsRow w.heap.size 3 1 v (Zb m).length ((Zf (Zb m)).map (Value.int .i64))/\Ext w W':=by
 obtain⟨i0,hi,hz0,hz1,hz2⟩:=info_parts XE;have hg:=QN hT;have hml:=Wy m;unfold ZS;refine callsIn_of_wp_marks Tryz.func190 rfl trivial ?_ rfl;simp only[Tryz.ntmps190,List.size_toArray,List.length_cons,List.length_nil,Nat.reduceAdd,Nat.reduceSub,Array.replicate_succ,Array.replicate_zero,List.push_toArray,List.append_toArray,List.nil_append,List.cons_append]
 gi_wp2
 refine⟨trivial,?_⟩;refine(callsIn_wide.2 (Ue m _)).mono ?_;rintro e w' ⟨rfl,rfl⟩
 gi_wp2
 have bS:=Boxed.new w 161 (.int .u64 m);have bO0:=Boxed.new (w.alloc (.cells #[.int .u64 m,.int .u64 0] 161)) 22 (.slice none 0 0);rw[World.size_alloc] at bO0;have bB:Blk (((w.alloc (.cells #[.int .u64 m,.int .u64 0] 161)).alloc (.cells #[.slice none 0 0] 22)).alloc (.cells #[.int .u64 m,.int .u64 0] 161)) (w.heap.size+1+1) 161 #[.int .u64 m,.int .u64 0]:=.new (by simp);have hB0:Ext w (((w.alloc (.cells #[.int .u64 m,.int .u64 0] 161)).alloc (.cells #[.slice none 0 0] 22)).alloc (.cells #[.int .u64 m,.int .u64 0] 161)):=(((Ext.rf w).alloc _).alloc _).alloc _;clear bS;refine wpIn_rangeFunc_ownG rfl (by omega) (gf:=198) (lb:=#[.pointer (some ⟨w.heap.size+1+1,0,none⟩)]) rfl trivial (enters_of Tryz.func198 (by kernel_rfl) rfl)
  (Wf 2 m hm h63 (w.heap.size+1+1) w.heap.size _ bB (hT.ext hB0) hB0.size hg) SetKp.tr (Uf (cs:=#[.int .u64 m,.int .u64 0]) hB0.size bB) (Below.refl _ _) (fun _=>rfl)
  (fun pre W=>(∃ v,Boxed W (w.heap.size+1) 22 v/\W.ownsRow w.heap.size 3 1 v (inL pre).length ((Zf (inL pre)).map (Value.int .i64))/\True)/\(Below w.heap.size w W/\Blk W (w.heap.size+1+1) 161 #[.int .u64 m,.int .u64 0]))
  (fun _ _ _=>False)
  ?own
  (fun _ _ _ _ _ hs _ _=>hs)
  ⟨⟨_,bO0.alloc _,World.ownsRow_nil _ _ _ _,trivial⟩,hB0,bB⟩
  (fun x=>{ tmps:=#[.agg #[.int .u64 m,.int .u64 0],.pointer (some ⟨w.heap.size,0,none⟩),.slice none 0 0,.pointer (some ⟨w.heap.size+1,0,none⟩),.int .i64 ((x.1:Nat):Int),.agg #[.int .u64 m,.int .u64 0],.func (.func 198) #[] #[.pointer (some ⟨w.heap.size+1+1,0,none⟩)],.int .i64 ((x.1:Nat):Int),undef,undef,undef,undef,undef],defers:=[] }) ?assign ?body ?done ?stop
 case own=>exact OwnFrom.and (Own.from (holdsRow_own w.heap.size (w.heap.size+1) 22 3 1 (fun pre:List (In m)=>(inL pre).length) (fun pre=>(Zf (inL pre)).map (Value.int .i64)) (fun _ _=>True)) _) (OwnFrom.and (ownFrom_below (Nat.le_refl _) (by simp;omega)) (fun s A B row hs hg hr=>(hg.block (w.heap.size+1+1) hs.lt (fun e=>by obtain⟨h1,_⟩:=hr _ e.symm;simp at h1;omega)).trans hs))
 case assign =>
  intro l x W K hK
  gi_wp2
  exact hK
 case body =>
  rintro l pre x W ⟨⟨v,hv,hrow,_⟩,hB,hBn⟩ hlt;have hc:=hv.cell;have hpl:(inL pre).length<64:=by
   have h:(inL pre).length=pre.length:=by simp[inL]
   omega
  gi_wp2_with (gi_at_builtin;refine wpListIn_append_own _ rfl _ _ 22 rfl w.heap.size 3 i0 (.int .i64 0) 1 8 Tryz.underlying22 hi hz0 hz1 hz2 rfl (by decide) _ _ _ rfl (hrow.alloc _) ⟨W.heap.size,0,none⟩ 1 1 [.int .i64 ((x.1:Nat):Int)] rfl rfl (cell_one_new _ _ _) (by simp[Value.oneCell']) (by simp only[maxLen];omega) (by omega) (by have:=hB.size;simp;omega) ?_;intro v' w1 hown' hgrow _;obtain⟨g',cap',rfl⟩:=ownsRow_succ hown';obtain⟨hv1,hv2,hr2,hk2,hb2⟩:=hv.appended (by decide) hrow hB.size (Nat.le_succ _) hown' hgrow;have hc1:=hv1.cell;have hf1:=hv1.frozen)
  have hBn2:Blk (w1.setCell ⟨w.heap.size+1,0,none⟩ (.slice (some ⟨g',0,none⟩) ((inL pre).length+1) cap')) (w.heap.size+1+1) 161 #[.int .u64 m,.int .u64 0] :=
   Blk.far ((hBn.alloc _).grown hgrow (hBn.not_row (by decide) hrow)) (by simp) _
  exact⟨hk2.from _,⟨hb2,hBn2.trans hBn.symm⟩,⟨_,hv2,by rw[Va];simpa [Zf] using hr2,trivial⟩,hB.trans hb2,hBn2⟩
 case done =>
  rintro D ys W hD rfl ⟨⟨v,hv,hrow,_⟩,hB,_⟩ hK;have hc:=hv.cell;rw[Xx] at hrow
  gi_wp2
  refine⟨by simp,.inl ⟨_,_,rfl,run_takeDeferred hK,?_⟩⟩;exact⟨_,results_tmp rfl _ _ _,v,rfl,ownsRow_putObj hrow _ hK rfl,hB.trans (belowK_b (w:=w) (Nat.le_refl _) W D _ _ (by simp at hD;omega) hK rfl rfl)⟩
 case stop =>
  rintro D c pre W _ _ h _;exact h.elim
theorem ZaD (m:Nat)(hm:m<18446744073709551616)(h63:∀ x∈Zb m,x<63)(w:World)(hT:Tab w) :
  Calls Tryz.prog 190 #[ZS m] w fun e w'=>∃ A c,e=.returned (.slice A (Zf (Zb m)).length c)/\OwI w' w.heap.size A c (Zf (Zb m))/\Ext w w':=by
 refine(callsIn_wide.1 (Zi4 m hm h63 w hT)).mono ?_;rintro e w' ⟨v,rfl,ho,hx⟩;have hv:∃ A c,v=.slice A (Zf (Zb m)).length c:=by
  rcases ho.2 with⟨rfl,h0⟩ | ⟨g,cap,cur,rfl,_⟩
  ·exact⟨none,0,by rw[Zh,h0]⟩
  ·exact⟨some ⟨g,0,none⟩,cap,by rw[Zh]⟩
 obtain⟨A,c,rfl⟩:=hv;refine⟨A,c,rfl,?_,hx⟩;have h:=ho;rw[<-Zh (Zb m)] at h;exact h
end
section
open Go.Deep
theorem ZaE (m i:Nat)(hm:m<18446744073709551616)(hi:i<64)(w:World) : Calls Tryz.prog 135 #[ZS m,.int .i64 i] w fun e w'=>e=.returned (ZS (m ||| 2^i))/\Ext w w':=by
 unfold ZS;have K:=bits_or_u64_nat m (2^i) hm (Nat.pow_lt_pow_right (by omega) hi);have sh:=QL i hi;generalize 2^i=b2 at *;generalize m ||| b2=z at *
 replace K:=Hd K;replace sh:=Hd sh;have B1':Blk ((w.alloc (.cells #[.int .u64 m,.int .u64 0] 161)).alloc (.cells #[.int .u64 0,.int .u64 0] 161)) w.heap.size 161 #[.int .u64 m,.int .u64 0]:=.alloc (.new rfl) _;have B2:Blk ((w.alloc (.cells #[.int .u64 m,.int .u64 0] 161)).alloc (.cells #[.int .u64 0,.int .u64 0] 161)) (w.heap.size+1) 161 #[.int .u64 0,.int .u64 0]:=.new (by simp);have B1:Blk (w.alloc (.cells #[.int .u64 m,.int .u64 0] 161)) w.heap.size 161 #[.int .u64 m,.int .u64 0]:=.new rfl;go_enter Tryz.func135,Tryz.ntmps135;go_wp2_with (fail);refine(YX _ _).mono ?_;rintro e w1 ⟨rfl,x1⟩;have e1:(decide (0<=(i:Int))&&decide ((i:Int)<128))=true:=by simp;omega
 rw[e1];have c0:w1.cell? ⟨w.heap.size,0,none⟩=some (.int .u64 m):=(B1'.ext x1).cell 0;have c1:w1.cell? ⟨w.heap.size,1,none⟩=some (.int .u64 0):=(B1'.ext x1).cell 1;have f0:=(B1'.ext x1).free 0;have r0:w1.cell? ⟨w.heap.size+1,0,none⟩=some (.int .u64 0):=(B2.ext x1).cell 0;have r1:w1.cell? ⟨w.heap.size+1,1,none⟩=some (.int .u64 0):=(B2.ext x1).cell 1;have g0:=(B2.ext x1).free 0;have g1:=(B2.ext x1).free 1;have X1:=Hd (Ext.tr (a:=w) XI x1);replace K:=K.out;replace sh:=sh.out;have wz:IntKind.i64.wrap 0=0:=by decide
 have q1:(i:Int) / 64=0:=by omega
 have q2:(i:Int).tmod 64=(i:Int):=by rw[Int.tmod_eq_emod_of_nonneg (by omega)];omega
 have bA:=B1'.ext x1;have bR:=B2.ext x1;clear x1 B1' B2 e1 c1 f0 r0 r1 g0 g1;have bA2:=Hd (bA.set 0 (.int .u64 z));have bR2:=Hd (bR.far (p:=⟨w.heap.size,0,none⟩) (by simp) (.int .u64 z));have X2:=Hd (X1.out.setNew (p:=⟨w.heap.size,0,none⟩) (Nat.le_refl _) (.int .u64 z));have fA:w1.frozen? ⟨w.heap.size,0,none⟩=false:=bA.free 0;go_upto_region 2 with(fail);refine wp_region_any (by kernel_rfl) ?_
 change wpAny _ _ _ _ _ _ _ (World.drew _)
 refine Zc (i:=0) (op:=Op.move (Operand.tmp 1)) (t:=3) (d:=some 7) (v:=_) rfl (by decide +kernel) (fun _ _ _ h=>h) (by intro _;unfold Ze;go_simp;try with_reducible rfl) ?_
 try simp only[lay]
 refine Zc (i:=1) (op:=Op.binOp BinOp.quo 3 (Operand.tmp 7) (Operand.const (Value.int IntKind.i64 64)) 3) (t:=3) (d:=some 8) (v:=_) rfl (by decide +kernel) (fun _ _ _ h=>h) (by intro _;unfold Ze;go_simp;try with_reducible rfl) ?_
 try simp only[lay]
 refine Zc (i:=2) (op:=Op.indexAddr 161 (Operand.tmp 2) (Operand.tmp 8)) (t:=0) (d:=some 9) (v:=_) rfl (by decide +kernel) (fun _ _ _ h=>h) (by intro _;unfold Ze;go_simp;try with_reducible rfl) ?_
 try simp only[lay]
 refine Zc (i:=4) (op:=Op.move (Operand.tmp 1)) (t:=3) (d:=some 11) (v:=_) rfl (by decide +kernel) (fun _ _ _ h=>h) (by intro _;unfold Ze;go_simp;try with_reducible rfl) ?_
 try simp only[lay]
 refine Zc (i:=5) (op:=Op.binOp BinOp.rem 3 (Operand.tmp 11) (Operand.const (Value.int IntKind.i64 64)) 3) (t:=3) (d:=some 12) (v:=_) rfl (by decide +kernel) (fun _ _ _ h=>h) (by intro _;unfold Ze;go_simp;try with_reducible rfl) ?_
 try simp only[lay]
 refine Zc (i:=6) (op:=Op.binOp BinOp.shl 141 (Operand.const (Value.int IntKind.u64 1)) (Operand.tmp 12) 3) (t:=141) (d:=some 13) (v:=_) rfl (by decide +kernel) (fun _ _ _ h=>h) (by intro _;unfold Ze;go_simp;try with_reducible rfl) ?_
 try simp only[lay]
 refine Zl 3 (by decide +kernel) (Zv (T:=141) (x:=Operand.tmp 9) (t:=141) (d:=some 10) rfl (.pointer (some ⟨w.heap.size,0,none⟩)) (by kernel_rfl) (.int .u64 m) (by go_simp) ?_)
 try simp only[lay]
 refine Zc (i:=7) (op:=Op.binOp BinOp.or 141 (Operand.tmp 10) (Operand.tmp 13) 141) (t:=141) (d:=some 14) (v:=_) rfl (by decide +kernel) (fun _ _ _ h=>h) (by intro _;unfold Ze;go_simp;try with_reducible rfl) ?_
 try simp only[lay]
 refine Zc (i:=8) (op:=Op.indexAddr 161 (Operand.tmp 2) (Operand.tmp 8)) (t:=0) (d:=some 15) (v:=_) rfl (by decide +kernel) (fun _ _ _ h=>h) (by intro _;unfold Ze;go_simp;try with_reducible rfl) ?_
 try simp only[lay]
 refine Zl 9 (by decide +kernel) (Xq rfl (.pointer (some ⟨w.heap.size,0,none⟩)) (.int .u64 z) (by kernel_rfl) (by kernel_rfl) (by go_simp;rfl) ?_);refine wpAny_done (by kernel_rfl) ?_ _;clear c0 fA bA bR X1 hm K sh;generalize w1.setCell ⟨w.heap.size,0,none⟩ (.int .u64 z)=w2 at *;clear w1;have c0:=bA2.out.c0;have c1:=bA2.out.c1;have r0:=bR2.out.c0;have r1:=bR2.out.c1;have g0:=bR2.out.free 0;have g1:=bR2.out.free 1;go_simp;go_wp2_with (fail);refine bodyPost_ret (v:=.agg #[.int .u64 z,.int .u64 0]) (by simp[results,Tryz.results135,go_sem, *]) rfl ⟨rfl,?_⟩;exact((X2.out.setNew (p:=⟨w.heap.size+1,0,none⟩) (by simp) _).setNew (p:=⟨w.heap.size+1,1,none⟩) (by simp) _).drew
theorem Zdp {m:Nat}(h:m<18446744073709551616){i:Nat}(hi:i<64) : m ||| 2^i<18446744073709551616:=by
 have h1:m<2^64:=h;have h2:2^i<2^64:=Nat.pow_lt_pow_right (by omega) hi;exact Nat.or_lt_two_pow h1 h2
theorem ZaF {m:Nat}(h0:0∉Zb m) : Zb (m ||| 2^0)=0::Zb m:=by
 have e:List.range 64=0::(List.range 63).map (· + 1):=List.range_succ_eq_map;have hb:m.testBit 0=false:=by
  cases h:m.testBit 0 with
  | false=>rfl
  | true=>exact absurd (Yl.2 ⟨by omega,h⟩) h0
 unfold Zb;rw[e,List.filter_cons_of_pos (by simp),List.filter_cons_of_neg (by simp[hb])]
 congr 1
 refine List.filter_congr fun j hj=>?_
 obtain⟨k,_,rfl⟩:=List.mem_map.1 hj;rw[Nat.testBit_or,Nat.testBit_two_pow];simp
def RdE {α:Type}(size:Nat)(R:World->List Value->α->Prop)(w:World)(A:Option Addr)(xs:List α) : Prop :=
 xs=[]\/∃ b off,A=some ⟨b,off,none⟩/\b<w.heap.size/\∀ i x,xs[i]?=some x->∃ cs:List Value,R w cs x/\cs.length=size/\∀ j v,cs[j]?=some v->w.cell? ⟨b,off+i*size+j,none⟩=some v
section
variable {α:Type} {size:Nat} {R:World->List Value->α->Prop} {w w':World} {A:Option Addr} {xs:List α}
theorem RdE.ext (h:RdE size R w A xs)(hb:Ext w w')(hR:∀ cs x,R w cs x->R w' cs x) : RdE size R w' A xs:=by
 rcases h with rfl | ⟨b,off,rfl,hlt,hc⟩
 ·exact .inl rfl
 ·refine .inr ⟨b,off,rfl,Nat.lt_of_lt_of_le hlt hb.size,fun i x hi=>?_⟩
  obtain⟨cs,h1,h2,h3⟩:=hc i x hi;exact⟨cs,hR _ _ h1,h2,fun j v hj=>by rw[hb.cell hlt];exact h3 j v hj⟩
theorem RdE.at (h:RdE size R w A xs){i:Nat}(hi:i<xs.length) : ∃ b off cs x,A=some ⟨b,off,none⟩/\b<w.heap.size/\R w cs x/\cs.length=size/\(∀ j v,cs[j]?=some v->w.cell? ⟨b,off+i*size+j,none⟩=some v)/\Hid (xs[i]?=some x):=by
 rcases h with rfl | ⟨b,off,rfl,hlt,hc⟩
 ·simp at hi
 ·obtain⟨cs,h1,h2,h3⟩:=hc i xs[i] (List.getElem?_eq_getElem hi)
  exact⟨b,off,cs,xs[i],rfl,hlt,h1,h2,h3,List.getElem?_eq_getElem hi⟩
end
section
variable {H:Type} {enc:TypeId×Value->H} {W:World}
def ZcK {α:Type}(enc:TypeId×Value->H)(W:World)(e:TypeId)(R:World->List Value->α->Prop) : Prop :=
 ∀ (fuel:Nat) (cs:List Value) (x:DataW H×List MemPlace),DataW.trod enc Tryz.prog W 0 (fun _=>true) true fuel e cs=some x->∃ a:α,R W cs a
theorem Zhy {α:Type}{n:Nat}{P:Nat->α->Prop}(h:∀ i,i<n->∃ a,P i a) : ∃ xs:List α,xs.length=n/\∀ i x,xs[i]?=some x->P i x:=by
 induction n with
 | zero=>exact⟨[],rfl,fun i x hx=>by simp at hx⟩
 | succ n ih =>
  obtain⟨xs,h1,h2⟩:=ih fun i hi=>h i (by omega)
  obtain⟨a,ha⟩:=h n (by omega);refine⟨xs++[a],by simp[h1],fun i x hx=>?_⟩
  by_cases hi:i<xs.length
  ·rw[List.getElem?_append_left hi] at hx
   exact h2 i x hx
  ·rw[List.getElem?_append_right (by omega)] at hx
   obtain⟨h0,hx⟩:=List.getElem?_eq_some_iff.1 hx;have:i=n:=by simp at h0;omega
   subst this;simp at hx;subst hx;exact ha
theorem Zhz {α:Type}{t e:TypeId}{size:Nat}{R:World->List Value->α->Prop}(ht:Tryz.prog.underlying t=some (.slice e))(hsz:Tryz.prog.cellsOf e=size)(h0:0<size)(hR:ZcK enc W e R)
  {fuel:Nat} {cs:List Value} {x:DataW H×List MemPlace} (h:DataW.trod enc Tryz.prog W 0 (fun _=>true) true fuel t cs=some x) :
  ∃ (A:Option Addr) (xs:List α) (c:Nat),cs=[.slice A xs.length c]/\RdE size R W A xs/\xs.length<=c/\c<=maxLen:=by
 rcases open_slice ht h with⟨rfl,_⟩ | ⟨a,len,cap,m,n,D,Pl,rfl,_,hl,hm,hmm,_,hi⟩
 ·exact⟨none,[],0,rfl,.inl rfl,Nat.le_refl 0,Ya⟩
 ·simp only[if_true] at hmm
  subst hmm;have each:∀ i,i<len->∃ y:α,∃ cs':List Value,R W cs' y/\cs'.length=size/\∀ j v,cs'[j]?=some v->W.cell? (a.add (i*size+j))=some v:=by
   intro i hil;obtain⟨cs',hc,ht'⟩:=hi i (by omega);obtain⟨y,hy⟩:=hR _ _ _ ht';obtain⟨_,hcl,hat⟩:=World.cells?_some hc;refine⟨y,cs',hy,by rw[hcl,hsz],fun j v hj=>?_⟩;have hjl:j<Tryz.prog.cellsOf e:=by rw[<-hcl];exact(List.getElem?_eq_some_iff.1 hj).1
   have:=hat j hjl;rw[hj,hsz,Go.Deep.add_add] at this;exact this
  obtain⟨xs,hx1,hx2⟩:=Zhy each;subst hx1;refine⟨some a,xs,_,rfl,?_,hl,hm⟩
  by_cases hx0:xs=[]
  ·exact .inl hx0
  ·obtain⟨y0,hy0⟩:∃ y,xs[0]?=some y:=by
    cases xs with
    | nil=>exact absurd rfl hx0
    | cons y ys=>exact⟨y,rfl⟩
   obtain⟨cs0,_,hl0,hc0⟩:=hx2 0 y0 hy0;have hv:cs0[0]?=some (cs0[0]'(by omega)):=List.getElem?_eq_getElem (by omega);have hcell:=hc0 0 _ hv;obtain⟨b,off,spot⟩:=a;have hspot:spot=none:=by simpa [Addr.add] using World.cell?_spot hcell
   subst hspot;refine .inr ⟨b,off,rfl,by simpa [Addr.add] using World.block_lt_of_cell? W _ hcell,fun i y hy=>?_⟩;obtain⟨cs',h1,h2,h3⟩:=hx2 i y hy;exact⟨cs',h1,h2,fun j v hj=>by rw[Nat.add_assoc,<-add_plain];exact h3 j v hj⟩
def Zkg (_:World)(cs:List Value)(x:Int) : Prop:=cs=[.int .i64 x]/\-9223372036854775808<=x/\x<=9223372036854775807
theorem UY : ZcK enc W 3 Zkg:=fun fuel cs x h=>by
 obtain⟨n,rfl,_,hw⟩:=DataW.trod_int Tryz.underlying3 h;exact⟨n,rfl,Zht hw⟩
def RInts (w:World)(cs:List Value)(l:List Int) : Prop:=∃ A c,cs=[.slice A l.length c]/\RdI w A l/\Ints l/\l.length<=c/\c<=maxLen
theorem RInts.ext {w w':World}{cs:List Value}{l:List Int}(h:RInts w cs l)(hb:Ext w w') : RInts w' cs l:=by
 obtain⟨A,c,h1,h2,h3⟩:=h;exact⟨A,c,h1,h2.ext hb,h3⟩
theorem Qh : ZcK enc W 22 RInts:=fun fuel cs x h=>by
 obtain⟨A,xs,c,rfl,h1,h2,h3⟩:=Zhz Tryz.underlying22 UW (by omega) UY h;refine⟨xs,A,c,rfl,?_,?_,h2,h3⟩
 ·rcases h1 with rfl | ⟨b,off,rfl,hb,hc⟩
  ·exact .inl rfl
  ·refine .inr ⟨b,off,rfl,hb,fun j x hj=>?_⟩
   obtain⟨cs,⟨rfl,_⟩,_,hcell⟩:=hc j x hj;have:=hcell 0 _ rfl
   simpa using this
 ·intro x hx
  rcases h1 with rfl | ⟨b,off,rfl,hb,hc⟩
  ·cases hx
  ·obtain⟨i,hi,rfl⟩:=List.mem_iff_getElem.1 hx
   obtain⟨cs,⟨_,hbd⟩,_⟩:=hc i xs[i] (List.getElem?_eq_getElem hi);exact hbd
theorem ZhA {t:TypeId}{fs:Array Field}{fuel:Nat}{cs:List Value}{x:DataW H×List MemPlace}(ht:Tryz.prog.underlying t=some (.struct fs))(h:DataW.trod enc Tryz.prog W 0 (fun _=>true) true fuel t cs=some x) :
  cs.length=Tryz.prog.cellsOf t/\∀ (i:Nat) (f:Field),fs[i]?=some f->∃ n y,DataW.trod enc Tryz.prog W 0 (fun _=>true) true n f.type ((cs.drop f.offset).take (Tryz.prog.cellsOf f.type))=some y:=by
 obtain⟨xs,n,_,_,hlen,hl,hf⟩:=DataW.trod_struct ht h;refine⟨hlen,fun i f hi=>?_⟩;have hlt:i<xs.length:=by rw[hl];exact(Array.getElem?_eq_some_iff.1 hi).1
 exact⟨n,xs[i],by rw[hf i f hi];exact List.getElem?_eq_getElem hlt⟩
theorem VI {t:TypeId}{fs:Array Field}{fuel:Nat}{cs:List Value}{x:DataW H×List MemPlace}(ht:Tryz.prog.underlying t=some (.struct fs))(h:DataW.trod enc Tryz.prog W 0 (fun _=>true) true fuel t cs=some x)
  (i:Nat) (ft:TypeId) (o s:Nat) (hf:(fs[i]?).map (fun f=>(f.type,f.offset))=some (ft,o)) (hs:Tryz.prog.cellsOf ft=s):∃ n y,DataW.trod enc Tryz.prog W 0 (fun _=>true) true n ft ((cs.drop o).take s)=some y:=by
 obtain⟨f,hf1,hf2⟩:=Option.map_eq_some_iff.1 hf;simp only[Prod.mk.injEq] at hf2;obtain⟨rfl,rfl⟩:=hf2;subst hs;exact(ZhA ht h).2 i f hf1
end
end
section
def ofT (w:World)(base:Nat)(ts:List TypeId)(k:Nat) : Prop:=base<=k/\∃ cs t,w.heap[k]?=some (.cells cs t (0,0))/\t∈ts
def ModT (base:Nat)(ts:List TypeId)(w w':World) : Prop:=Mod (ofT w base ts) w w'
section
variable {base:Nat} {ts:List TypeId} {w w' w2:World}
theorem ModT.rf (w:World) : ModT base ts w w:=Mod.rf w
theorem ModT.of_ext (h:Ext w w') : ModT base ts w w':=Mod.of_ext h
theorem ModT.tr (h:ModT base ts w w')(k:ModT base ts w' w2) : ModT base ts w w2:=by
 refine Mod.tr' h k fun i hi hs=>?_
 by_cases ho:ofT w base ts i
 ·exact ho
 ·obtain⟨hb,cs,t,hc,ht⟩:=hs
  exact⟨hb,cs,t,(h.block i hi ho).symm.trans hc,ht⟩
theorem ModT.ext (h:ModT base ts w w')(k:Ext w' w2) : ModT base ts w w2:=h.tr (.of_ext k)
theorem ModT.set (w:World){g:Nat}{t:TypeId}{cs:Array Value}(hg:Blk w g t cs)(ht:t∈ts)(hb:base<=g)(i:Nat)(u:Value) : ModT base ts w (w.setCell ⟨g,i,none⟩ u) :=
 Mod.set (p:=⟨g,i,none⟩) (Mod.rf w) (.inl ⟨hb,cs,t,hg,ht⟩) u
theorem ModT.size (h:ModT base ts w w') : w.heap.size<=w'.heap.size:=Mod.size h
theorem ModT.more {ts':List TypeId}{base':Nat}(h:ModT base ts w w')(hb:base'<=base)(ht:∀ t∈ts,t∈ts') : ModT base' ts' w w' :=
 Mod.mono h fun _ _ ⟨h1,cs,t,h2,h3⟩=>⟨Nat.le_trans hb h1,cs,t,h2,ht t h3⟩
theorem Ext.modT {w0:World}(h:Ext w0 w)(k:ModT base ts w w')(hb:w0.heap.size<=base) : Ext w0 w':=h.mod k fun _ hk hs=>by have:=hs.1;omega
theorem Blk.modT {g:Nat}{t:TypeId}{cs:Array Value}(h:Blk w g t cs)(k:ModT base ts w w')(ht:t∉ts) : Blk w' g t cs :=
 h.mod k fun hs=>by
  obtain⟨_,cs',t',h1,h2⟩:=hs;rw[h] at h1
  injection h1 with h1
  injection h1 with _ h1
  subst h1;exact ht h2
theorem RdV.modT {e:TypeId}{A:Option Addr}{vs:List Value}(h:RdV w e A vs)(k:ModT base ts w w')(ht:e∉ts) : RdV w' e A vs :=
 h.mod k fun b cur hb hs=>by
  obtain⟨_,cs',t',h1,h2⟩:=hs;rw[hb] at h1
  injection h1 with h1
  injection h1 with _ h1
  subst h1;exact ht h2
theorem OwI.modT {base':Nat}{A:Option Addr}{c:Nat}{xs:List Int}(h:OwI w base' A c xs)(k:ModT base ts w w')(ht:3∉ts) : OwI w' base' A c xs :=
 h.keep fun g hg=>by
  rcases h.cases with⟨rfl,rfl,rfl⟩ | ⟨g',cur,rfl,hb',hh,_⟩
  ·simp[bl] at hg
  ·simp[bl] at hg
   subst hg;exact k.block g' (Array.getElem?_eq_some_iff.1 hh).1 fun hs=>by
    obtain⟨_,cs',t',h1,h2⟩:=hs;rw[hh] at h1
    injection h1 with h1
    injection h1 with _ h1
    subst h1;exact ht h2
theorem OwV.modT {base':Nat}{e:TypeId}{size n c:Nat}{A:Option Addr}{vs:List Value}(h:OwV w base' e size A n c vs)(k:ModT base ts w w')(ht:e∉ts) : OwV w' base' e size A n c vs :=
 h.keep fun g hg=>by
  rcases h.cases with⟨rfl,rfl,rfl,rfl⟩ | ⟨g',cur,rfl,hb',hh,_⟩
  ·simp[bl] at hg
  ·simp[bl] at hg
   subst hg;exact k.block g' (Array.getElem?_eq_some_iff.1 hh).1 fun hs=>by
    obtain⟨_,cs',t',h1,h2⟩:=hs;rw[hh] at h1
    injection h1 with h1
    injection h1 with _ h1
    subst h1;exact ht h2
theorem RdI.modT {A:Option Addr}{xs:List Int}(h:RdI w A xs)(k:ModT base ts w w')(hb:∀ b,bl A=some b->b<base) : RdI w' A xs:=by
 rcases h with rfl | ⟨b,off,rfl,hlt,hc⟩
 ·exact .inl rfl
 ·refine .inr ⟨b,off,rfl,Nat.lt_of_lt_of_le hlt k.size,fun j x hj=>?_⟩
  have h1:=hb b rfl;rw[<-hc j x hj];exact World.cell?_of_block (k.block b hlt fun hs=>by have:=hs.1;omega)
end
end
section
open Go.Deep
structure InstP where
 kind:Int
 n:Int
 cap:Int
 weight:List Int
 value:List Int
 cost:List (List Int)
def RInst (w:World)(vs:List Value)(i:InstP) : Prop:=∃ (A:Option Addr) (a:Nat) (B:Option Addr) (b:Nat) (C:Option Addr) (c:Nat),
 vs=[.int .i64 i.kind,.int .i64 i.n,.int .i64 i.cap,.slice A i.weight.length a,.slice B i.value.length b,.slice C i.cost.length c] /\
 (RdI w A i.weight/\Ints i.weight/\i.weight.length<=a/\a<=maxLen)/\(RdI w B i.value/\Ints i.value/\i.value.length<=b/\b<=maxLen)/\(RdE 1 RInts w C i.cost/\i.cost.length<=c/\c<=maxLen)
theorem RInst.ext {w w':World}{vs:List Value}{i:InstP}(h:RInst w vs i)(x:Ext w w') : RInst w' vs i:=by
 obtain⟨A,a,B,b,C,c,rfl,⟨h1,h2⟩,⟨h3,h4⟩,⟨h5,h6⟩⟩:=h;exact⟨A,a,B,b,C,c,rfl,⟨h1.ext x,h2⟩,⟨h3.ext x,h4⟩,⟨h5.ext x fun _ _ h=>h.ext x,h6⟩⟩
def ZhB (i:InstP) : Prop:=(-9223372036854775808<=i.kind/\i.kind<=9223372036854775807)/\(-9223372036854775808<=i.n/\i.n<=9223372036854775807)/\(-9223372036854775808<=i.cap/\i.cap<=9223372036854775807)
section
variable {H:Type} {enc:TypeId×Value->H} {W:World}
theorem ZeM : Tryz.prog.cellsOf 25=6:=by kernel_rfl
theorem ZaG : Tryz.prog.cellsOf 22=1:=by kernel_rfl
theorem Zgq : Tryz.prog.cellsOf 23=1:=by kernel_rfl
theorem Zgr {base:Nat}{v:Value}{d:DataW H}{p:List MemPlace}(hd:DataW.Trod enc Tryz.prog W 0 (fun _=>true) true 25 v d p)(hv:Value.okWide Tryz.prog W .any base 25 v) :
  ∃ vs i,v=.agg (List.toArray vs)/\RInst W vs i/\ZhB i:=by
 obtain⟨cs,rfl,hsz⟩:=okWide_struct Tryz.underlying25 hv;rw[ZeM] at hsz;obtain⟨l⟩:=cs
 match l,hsz with
 | [c0,c1,c2,c3,c4,c5],_ =>
  obtain⟨fuel,h⟩:=hd;obtain⟨n0,y0,h0⟩:=VI Tryz.underlying25 h 0 3 0 1 rfl UW;obtain⟨n1,y1,h1⟩:=VI Tryz.underlying25 h 1 3 1 1 rfl UW;obtain⟨n2,y2,h2⟩:=VI Tryz.underlying25 h 2 3 2 1 rfl UW;obtain⟨n3,y3,h3⟩:=VI Tryz.underlying25 h 3 22 3 1 rfl ZaG;obtain⟨n4,y4,h4⟩:=VI Tryz.underlying25 h 4 22 4 1 rfl ZaG;obtain⟨n5,y5,h5⟩:=VI Tryz.underlying25 h 5 23 5 1 rfl Zgq;obtain⟨x0,e0,b0⟩:=UY _ _ _ h0;obtain⟨x1,e1,b1⟩:=UY _ _ _ h1;obtain⟨x2,e2,b2⟩:=UY _ _ _ h2;obtain⟨l3,A3,a3,e3,r3⟩:=Qh _ _ _ h3;obtain⟨l4,A4,a4,e4,r4⟩:=Qh _ _ _ h4;obtain⟨A5,l5,a5,e5,r5⟩:=Zhz Tryz.underlying23 ZaG (by omega) Qh h5
  injection e0 with e0
  injection e1 with e1
  injection e2 with e2
  injection e3 with e3
  injection e4 with e4
  injection e5 with e5
  subst e0 e1 e2 e3 e4 e5;exact⟨_,⟨x0,x1,x2,l3,l4,l5⟩,rfl,⟨A3,a3,A4,a4,A5,a5,rfl,r3,r4,r5⟩,b0,b1,b2⟩
end
end
end Go.Proofs.YtnbcmiaaleambaaGreatDoor
