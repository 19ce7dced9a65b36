/- packed and squeezed by programs (see wip/) -/
import Derived.Test.YtmojhhlcocjoaaaGreatDoorRows
import Derived.WalkKit
import Derived.ProofKit
import Derived.OpenShut
import Derived.BigQuiet
import Derived.Deep.QuietTactic
import Derived.Deep.Slices
import Derived.Lib.Hide
import Derived.Lib.SmallJoins
import Derived.Deep.RegionHeld3
import Derived.StillTailTactics
import Derived.Deep.RegionLaw
import Derived.WalkSpells
import Derived.Deep.DeepFit
import Derived.JoinedCond
import Derived.Maps.AppendAt
import Derived.RegionTactic
import Derived.Deep.DeepCutAuto
import Derived.Shelf.Abstract
import Derived.Lib.VarintBits
set_option maxRecDepth 100000
set_option maxHeartbeats 16000000
set_option linter.unusedVariables false
set_option linter.unusedSimpArgs false
namespace Go.Proofs.YtmojhhlcocjoaaaGreatDoor
open Go.RowKit Go.ChangeShapes Go.WideShapes Go.ChangeAt
abbrev Ext (w w':World) : Prop:=Below w.heap.size w w'
theorem Hd {p:Prop}(h:p) : Hid p:=Lib.hid h
theorem Ext.rf (w:World) : Ext w w:=Below.refl _ _
theorem Ext.tr {a b c:World}(h:Ext a b)(k:Ext b c) : Ext a c:=Below.trans h (Below.mono k h.size)
theorem Ext.drewN {a b:World}(h:Ext a b)(n:Nat) : Ext a (b.drewN n):=⟨h.os,h.tape,h.output,h.size,h.block⟩
theorem Ext.drew {a b:World}(h:Ext a b) : Ext a b.drew:=Below.drew h
theorem Ext.alloc {a b:World}(h:Ext a b)(o:Obj) : Ext a (b.alloc o):=Below.alloc h h.size o
theorem Ext.setNew {a b:World}(h:Ext a b){p:Addr}(hp:a.heap.size<=p.block)(u:Value) : Ext a (b.setCell p u):=Below.setCell h hp u
theorem Ext.cells {W w1:World}(hb:Ext W w1) : (∀ b o,b<W.heap.size->w1.cell? ⟨b,o,none⟩=W.cell? ⟨b,o,none⟩)/\(∀ b o,b<W.heap.size->w1.frozen? ⟨b,o,none⟩=W.frozen? ⟨b,o,none⟩) :=
 ⟨fun b o h=>hb.cell (p:=⟨b,o,none⟩) h,fun b o h=>hb.frozen (p:=⟨b,o,none⟩) h⟩
def RdI (w:World)(A:Option Addr)(xs:List Int) : Prop :=
 xs=[]\/∃ b off,A=some ⟨b,off,none⟩/\b<w.heap.size/\∀ j x,xs[j]?=some x->w.cell? ⟨b,off+j,none⟩=some (.int .i64 x)
theorem RdI.at {w:World}{A:Option Addr}{xs:List Int}(h:RdI w A xs){k:Nat}(hk:k<xs.length) :
  ∃ b off x,A=some ⟨b,off,none⟩/\b<w.heap.size/\w.cell? ⟨b,off+k,none⟩=some (.int .i64 x)/\Hid (xs[k]?=some x)/\Hid (xs.drop k=x::xs.drop (k+1)):=by
 rcases h with rfl | ⟨b,off,rfl,hb,hc⟩
 ·simp at hk
 ·have e:xs[k]?=some xs[k]:=List.getElem?_eq_getElem hk
  exact⟨b,off,xs[k],rfl,hb,hc k _ e,e,List.drop_eq_getElem_cons hk⟩
theorem RdI.ext {w w':World}{A:Option Addr}{xs:List Int}(h:RdI w A xs)(hb:Ext w w') : RdI w' A xs:=by
 rcases h with rfl | ⟨b,off,rfl,hb',hc⟩
 ·exact .inl rfl
 ·exact .inr ⟨b,off,rfl,by have:=hb.size;omega,fun j x hj=>by rw[hb.cell hb'];exact hc j x hj⟩
theorem RdI.take {w:World}{A:Option Addr}{xs:List Int}(h:RdI w A xs)(n:Nat) : RdI w A (xs.take n):=by
 rcases h with rfl | ⟨b,off,rfl,hb',hc⟩
 ·exact .inl (by simp)
 ·exact .inr ⟨b,off,rfl,hb',fun j x hj=>hc j x (by rw[List.getElem?_take] at hj;split at hj<;>simp_all)⟩
def Blk (w:World)(g:Nat)(t:TypeId)(cs:Array Value) : Prop:=w.heap[g]?=some (.cells cs t (0,0))
section
variable {w w':World} {g:Nat} {t:TypeId} {cs:Array Value}
theorem Blk.lt (h:Blk w g t cs) : g<w.heap.size:=(Array.getElem?_eq_some_iff.1 h).1
theorem Blk.cell (h:Blk w g t cs)(i:Nat) : w.cell? ⟨g,i,none⟩=cs[i]?:=cell_of_row w g i cs t (0,0) h
theorem Blk.c0 {w:World}{g:Nat}{t:TypeId}{v0:Value}{r:List Value}(h:Blk w g t (List.toArray (v0::r))) : w.cell? ⟨g,0,none⟩=some v0:=h.cell 0
theorem Blk.c1 {w:World}{g:Nat}{t:TypeId}{v0 v1:Value}{r:List Value}(h:Blk w g t (List.toArray (v0::v1::r))) : w.cell? ⟨g,1,none⟩=some v1:=h.cell 1
theorem Blk.c2 {w:World}{g:Nat}{t:TypeId}{v0 v1 v2:Value}{r:List Value}(h:Blk w g t (List.toArray (v0::v1::v2::r))) : w.cell? ⟨g,2,none⟩=some v2:=h.cell 2
theorem Blk.c3 {w:World}{g:Nat}{t:TypeId}{v0 v1 v2 v3:Value}{r:List Value}(h:Blk w g t (List.toArray (v0::v1::v2::v3::r))) : w.cell? ⟨g,3,none⟩=some v3:=h.cell 3
theorem Blk.c4 {w:World}{g:Nat}{t:TypeId}{v0 v1 v2 v3 v4:Value}{r:List Value}(h:Blk w g t (List.toArray (v0::v1::v2::v3::v4::r))) : w.cell? ⟨g,4,none⟩=some v4:=h.cell 4
theorem Blk.c5 {w:World}{g:Nat}{t:TypeId}{v0 v1 v2 v3 v4 v5:Value}{r:List Value}(h:Blk w g t (List.toArray (v0::v1::v2::v3::v4::v5::r))) : w.cell? ⟨g,5,none⟩=some v5:=h.cell 5
theorem Blk.c6 {w:World}{g:Nat}{t:TypeId}{v0 v1 v2 v3 v4 v5 v6:Value}{r:List Value}(h:Blk w g t (List.toArray (v0::v1::v2::v3::v4::v5::v6::r))) : w.cell? ⟨g,6,none⟩=some v6:=h.cell 6
theorem Blk.c7 {w:World}{g:Nat}{t:TypeId}{v0 v1 v2 v3 v4 v5 v6 v7:Value}{r:List Value}(h:Blk w g t (List.toArray (v0::v1::v2::v3::v4::v5::v6::v7::r))) : w.cell? ⟨g,7,none⟩=some v7:=h.cell 7
theorem Blk.c8 {w:World}{g:Nat}{t:TypeId}{v0 v1 v2 v3 v4 v5 v6 v7 v8:Value}{r:List Value}(h:Blk w g t (List.toArray (v0::v1::v2::v3::v4::v5::v6::v7::v8::r))) : w.cell? ⟨g,8,none⟩=some v8:=h.cell 8
theorem Blk.c9 {w:World}{g:Nat}{t:TypeId}{v0 v1 v2 v3 v4 v5 v6 v7 v8 v9:Value}{r:List Value}(h:Blk w g t (List.toArray (v0::v1::v2::v3::v4::v5::v6::v7::v8::v9::r))) : w.cell? ⟨g,9,none⟩=some v9:=h.cell 9
theorem Blk.c10 {w:World}{g:Nat}{t:TypeId}{v0 v1 v2 v3 v4 v5 v6 v7 v8 v9 v10:Value}{r:List Value}(h:Blk w g t (List.toArray (v0::v1::v2::v3::v4::v5::v6::v7::v8::v9::v10::r))) : w.cell? ⟨g,10,none⟩=some v10:=h.cell 10
theorem Blk.c11 {w:World}{g:Nat}{t:TypeId}{v0 v1 v2 v3 v4 v5 v6 v7 v8 v9 v10 v11:Value}{r:List Value}(h:Blk w g t (List.toArray (v0::v1::v2::v3::v4::v5::v6::v7::v8::v9::v10::v11::r))) : w.cell? ⟨g,11,none⟩=some v11:=h.cell 11
theorem Blk.free (h:Blk w g t cs)(i:Nat) : w.frozen? ⟨g,i,none⟩=false:=by
 unfold Blk at h;simp[World.frozen?,h]
theorem Blk.new (h:g=w.heap.size) : Blk (w.alloc (.cells cs t)) g t cs:=by subst h;exact heap_alloc_new w _
theorem Blk.drew (h:Blk w g t cs) : Blk w.drew g t cs:=h
theorem Blk.drewN (h:Blk w g t cs)(n:Nat) : Blk (w.drewN n) g t cs:=h
theorem Blk.alloc (h:Blk w g t cs)(o:Obj) : Blk (w.alloc o) g t cs:=(Below.heap_alloc w o g h.lt).trans h
theorem Blk.set (h:Blk w g t cs)(i:Nat)(u:Value) : Blk (w.setCell ⟨g,i,none⟩ u) g t (cs.setIfInBounds i u):=by
 unfold Blk at h ⊢;simp[World.setCell,Array.getElem?_modify,h]
theorem Blk.far (h:Blk w g t cs){p:Addr}(hp:g≠p.block)(u:Value) : Blk (w.setCell p u) g t cs:=(Below.heap_setCell w p u g hp).trans h
theorem Blk.ext (h:Blk w g t cs)(hb:Ext w w') : Blk w' g t cs:=(hb.block g h.lt).trans h
theorem Blk.below {B:Nat}(h:Blk w g t cs)(hb:Below B w w')(hg:g<B) : Blk w' g t cs:=(hb.block g hg).trans h
theorem Blk.ne {g':Nat}{t':TypeId}{cs':Array Value}(h:Blk w g t cs)(h':Blk w g' t' cs')(hne:t≠t') : g≠g':=by
 rintro rfl;unfold Blk at h h';rw[h] at h'
 injection h' with h'
 injection h' with _ ht
 exact hne ht
theorem Blk.same {cs':Array Value}{t':TypeId}(h:Blk w g t cs)(h':Blk w g t' cs') : cs=cs':=by
 unfold Blk at h h';rw[h] at h'
 injection h' with h'
 injection h' with hc
end
theorem RdI.blk {w:World}{b:Nat}{cs:Array Value}{t:TypeId}{xs:List Int}(h:Blk w b t cs)(hx:cs.toList=xs.map (Value.int .i64)) : RdI w (some ⟨b,0,none⟩) xs:=by
 refine .inr ⟨_,_,rfl,h.lt,fun j x hj=>?_⟩;rw[h.cell];have:cs.toList[0+j]?=some (.int .i64 x):=by rw[hx];simp[hj]
 simpa using this
def Ints (xs:List Int) : Prop:=∀ x∈xs,-9223372036854775808<=x/\x<=9223372036854775807
theorem YP : 0<=maxLen:=by simp only[maxLen];omega
theorem Ints.nil : Ints []:=fun x hx=>absurd hx List.not_mem_nil
theorem Ints.take {xs:List Int}(h:Ints xs)(n:Nat) : Ints (xs.take n):=fun x hx=>h x (List.mem_of_mem_take hx)
theorem Ints.get {xs:List Int}(h:Ints xs){k:Nat}{x:Int}(hk:xs[k]?=some x) : -9223372036854775808<=x/\x<=9223372036854775807:=h x (List.mem_of_getElem? hk)
theorem Uc {α:Type}{xs:List α}{k:Nat}(h:xs.length<=k) : Hid (xs.drop k=[]):=List.drop_of_length_le h
theorem getD_some {α:Type}{xs:List α}{k:Nat}{x d:α}(h:xs[k]?=some x) : xs.getD k d=x:=by simp[List.getD,h]
theorem Yg {k:IntKind}{a b:Int}(h:a=b) : Ending.returned (.int k a)=.returned (.int k b):=by rw[h]
theorem Jp {a b:Bool}(h:a=b) : Ending.returned (.bool a)=.returned (.bool b):=by rw[h]
theorem own : ownKnob Tryz.prog.godebug=none:=by kernel_rfl
theorem Zfh : laidOutB Tryz.prog=true:=by kernel_rfl
theorem ZfS : Tryz.prog.underlying 4=some .bool:=Tryz.underlying4
theorem Wo : Tryz.prog.cellsOf 3=1:=by kernel_rfl
theorem Zay {ts:List TypeId}(h:ts.all (fun t=>Tryz.prog.readableRec t&&decide (t<Tryz.prog.types.size))=true) : ∀ t∈ts,Tryz.prog.readableRec t=true/\t<Tryz.prog.types.size:=fun t ht=>by
 have:=List.all_eq_true.1 h t ht
 simpa using this
theorem ZfT {x:Int}(h:(Lit.int .i64 x).wf=true) : -9223372036854775808<=x/\x<=9223372036854775807:=by
 simpa [Lit.wf,IntKind.min,IntKind.max,IntKind.signed,IntKind.bits] using h
section
variable {H:Type} {enc:TypeId×Value->H}
theorem Qa {W W':World}(hb:Ext W W') : ∀ {ts:List TypeId} {vs:List Value} {ds:List (DataW H)} {p:List MemPlace},(∀ t∈ts,Tryz.prog.readableRec t=true/\t<Tryz.prog.types.size) ->
  DataW.TrodAll enc Tryz.prog W 0 (fun _=>true) true ts vs ds p->(∀ x∈p,x.block<W.heap.size)->DataW.TrodAll enc Tryz.prog W' 0 (fun b=>decide (b<W.heap.size)) true ts vs ds p
 | [],[],[],_,_,h,_=>by simpa [DataW.TrodAll] using h
 | t::ts,v::vs,d::ds,_,hr,h,hlt=>by
  obtain⟨p,q,h0,h1,rfl⟩:=h;exact⟨p,q,Below.trod Zfh (hr t (by simp)).1 (hr t (by simp)).2 h0 hb (fun x hx=>hlt x (by simp[hx])),Qa hb (fun t ht=>hr t (by simp[ht])) h1 (fun x hx=>hlt x (by simp[hx])),rfl⟩
 | [],_::_,_,_,_,h,_=>by simp[DataW.TrodAll] at h
 | [],[],_::_,_,_,h,_=>by simp[DataW.TrodAll] at h
 | _::_,[],_,_,_,h,_=>by simp[DataW.TrodAll] at h
 | _::_,_::_,[],_,_,h,_=>by simp[DataW.TrodAll] at h
theorem Zd9 {f:Func}{s:ChangeSpec}{W W':World}{args:Array Value}{ds gs:List (DataW H)}{before:List MemPlace}
  (hW:DataW.Whole enc Tryz.prog f.params.toList s.vars false W args.toList ds gs before) (hvars:s.vars=[]) (hr:f.resultTypes=#[4])
  (hs:(s.fn H (ds++gs)).results=[.lit (.bool true)]) (ha:(s.fn H (ds++gs)).args=ds) (hv:(s.fn H (ds++gs)).vars=[])
  (hp:∀ t∈f.params.toList,Tryz.prog.readableRec t=true/\t<Tryz.prog.types.size) (hb:Ext W W') :
  s.post enc Tryz.prog f false true false false W args (.bool true) W':=by
 have hW':=hW;obtain⟨p,q,hA,hV,rfl,hz,hn⟩:=hW;rw[hvars] at hV;obtain⟨rfl,rfl⟩:=trodVars_none hV;have hlt:∀ x∈p,x.block<W.heap.size:=fun x hx=>by simpa using hW'.lt x (by simp[hx])
 refine⟨ds,[],p++[],[],p,[],hW',?_,?_,?_,hb.frame _,fun h=>by cases h⟩
 ·rw[hs,hr]
  exact trodAll_cons_mk (shut_bool ZfS _) trodAll_mk0
 ·rw[ha]
  exact Qa hb hp hA hlt
 ·rw[hv,hvars]
  simp[DataW.TrodVars]
end
end Go.Proofs.YtmojhhlcocjoaaaGreatDoor
namespace Go.Proofs.YtmojhhlcocjoaaaGreatDoor
open Go.RowKit Go.ChangeShapes Go.WideShapes Go.ChangeAt
theorem YQ : (Tryz.prog.info? 3).map (fun i=>(i.zero,i.size,i.bytes))=some (some (.int .i64 0),1,8):=by kernel_rfl
def OwI (w:World)(base:Nat)(A:Option Addr)(c:Nat)(xs:List Int) : Prop:=w.ownsRow base 3 1 (.slice A xs.length c) xs.length (xs.map (Value.int .i64))
def bl (A:Option Addr) : Option Nat:=A.map (·.block)
theorem Xm (A:Option Addr)(n c:Nat) : (Value.slice A n c).ownBlock=bl A:=by cases A<;>rfl
section
variable {w w':World} {base:Nat} {A:Option Addr} {c:Nat} {xs:List Int}
theorem OwI.nil (w:World)(base:Nat) : OwI w base none 0 []:=World.ownsRow_nil _ _ _ _
theorem OwI.cases (h:OwI w base A c xs) : (A=none/\c=0/\xs=[])\/∃ g cur,A=some ⟨g,0,none⟩/\base<=g/\w.heap[g]?=some (.cells cur 3 (0,0))/\xs.length<=c/\c<=maxLen/\cur.size=c*1/\cur.toList.take (xs.length*1)=xs.map (Value.int .i64):=by
 rcases h.2 with⟨hv,h0⟩ | ⟨g,cap,cur,hv,hb,hg,hn,hm,hs,ht⟩
 ·have:xs=[]:=List.eq_nil_of_length_eq_zero h0
  subst this
  injection hv with h1 _ h3
  exact .inl ⟨h1,h3,rfl⟩
 ·injection hv with h1 _ h3
  subst h1 h3;exact .inr ⟨g,cur,rfl,hb,hg,hn,hm,hs,ht⟩
theorem OwI.mk {g:Nat}{cur:Array Value}(hb:base<=g)(hg:w.heap[g]?=some (.cells cur 3 (0,0)))(hn:xs.length<=c)(hm:c<=maxLen)(hs:cur.size=c*1)(ht:cur.toList.take (xs.length*1)=xs.map (Value.int .i64)) : OwI w base (some ⟨g,0,none⟩) c xs :=
 ⟨by simp,.inr ⟨g,c,cur,rfl,hb,hg,hn,hm,hs,ht⟩⟩
theorem OwI.le (h:OwI w base A c xs) : xs.length<=c/\c<=maxLen:=by
 rcases h.cases with⟨rfl,rfl,rfl⟩ | ⟨g,cur,rfl,hb,hg,hn,hm,_⟩
 ·exact⟨Nat.le_refl _,YP⟩
 ·exact⟨hn,hm⟩
theorem OwI.read (h:OwI w base A c xs) : RdI w A xs:=by
 rcases h.cases with⟨rfl,rfl,rfl⟩ | ⟨g,cur,rfl,hb,hg,hn,hm,hs,ht⟩
 ·exact .inl rfl
 ·have hlt:=(Array.getElem?_eq_some_iff.1 hg).1
  refine .inr ⟨g,0,rfl,hlt,fun j x hj=>?_⟩;rw[cell_of_row w g _ cur _ (0,0) hg];have hj':(xs.map (Value.int .i64))[j]?=some (.int .i64 x):=by simp[hj]
  rw[<-ht,List.getElem?_take] at hj';split at hj'
  ·simpa using hj'
  ·cases hj'
theorem OwI.keep (h:OwI w base A c xs)(hb:∀ g,bl A=some g->w'.heap[g]?=w.heap[g]?) : OwI w' base A c xs:=by
 rcases h.cases with⟨rfl,rfl,rfl⟩ | ⟨g,cur,rfl,hb',hg,hn,hm,hs,ht⟩
 ·exact OwI.nil _ _
 ·exact .mk hb' ((hb g rfl).trans hg) hn hm hs ht
theorem OwI.lt (h:OwI w base A c xs) : ∀ k,bl A=some k->base<=k/\k<w.heap.size:=by
 intro k hk;rcases h.cases with⟨rfl,rfl,rfl⟩ | ⟨g,cur,rfl,hb',hg,_⟩
 ·simp[bl] at hk
 ·simp[bl] at hk
  subst hk;exact⟨hb',(Array.getElem?_eq_some_iff.1 hg).1⟩
theorem OwI.ext (h:OwI w base A c xs)(hb:Ext w w') : OwI w' base A c xs:=h.keep fun g hg=>hb.block g (h.lt g hg).2
theorem OwI.more {base':Nat}(h:OwI w base A c xs)(hb:base'<=base) : OwI w base' A c xs:=by
 rcases h.cases with⟨rfl,rfl,rfl⟩ | ⟨g,cur,rfl,hb',hg,hn,hm,hs,ht⟩
 ·exact OwI.nil _ _
 ·exact .mk (Nat.le_trans hb hb') hg hn hm hs ht
theorem OwI.at (h:OwI w base A c xs){k:Nat}(hk:k<xs.length) :
  ∃ g x,A=some ⟨g,0,none⟩/\base<=g/\g<w.heap.size/\w.cell? ⟨g,k,none⟩=some (.int .i64 x)/\w.frozen? ⟨g,k,none⟩=false/\Hid (xs[k]?=some x) /\
   Hid (∀ y,OwI (w.setCell ⟨g,k,none⟩ (.int .i64 y)) base A c (xs.set k y)):=by
 rcases h.cases with⟨rfl,rfl,rfl⟩ | ⟨g,cur,rfl,hb,hg,hn,hm,hs,ht⟩
 ·simp at hk
 ·have hlt:=(Array.getElem?_eq_some_iff.1 hg).1
  have hxk:xs[k]?=some xs[k]:=List.getElem?_eq_getElem hk;have hc:w.cell? ⟨g,k,none⟩=some (.int .i64 xs[k]):=by
   rw[cell_of_row w g _ cur _ (0,0) hg];have hj':(xs.map (Value.int .i64))[k]?=some (.int .i64 xs[k]):=by simp[hxk]
   rw[<-ht,List.getElem?_take] at hj';split at hj'
   ·simpa using hj'
   ·cases hj'
  refine⟨g,xs[k],rfl,hb,hlt,hc,by simp[World.frozen?,hg],hxk,fun y=>.mk (cur:=cur.setIfInBounds k (.int .i64 y)) hb ?_ (by simpa using hn) hm (by simpa using hs) ?_⟩
  ·simp[World.setCell,Array.getElem?_modify,hg]
  ·simp only[List.length_set,Array.toList_setIfInBounds,List.map_set,<-ht]
   rw[List.take_set]
theorem OwI.cell {g:Nat}(h:OwI w base (some ⟨g,0,none⟩) c xs){k:Nat}(hk:k<xs.length) :
  ∃ x,w.cell? ⟨g,k,none⟩=some (.int .i64 x)/\w.frozen? ⟨g,k,none⟩=false/\base<=g/\Hid (xs[k]?=some x)/\Hid (∀ y,OwI (w.setCell ⟨g,k,none⟩ (.int .i64 y)) base (some ⟨g,0,none⟩) c (xs.set k y)):=by
 obtain⟨g',x,hv,hb,hlt,hc,hf,hx,hs⟩:=h.at hk
 injection hv with h1
 injection h1 with h1
 subst h1;exact⟨x,hc,hf,hb,hx,hs⟩
theorem OwI.new {cs:Array Value}(hx:cs.toList=xs.map (Value.int .i64))(hb:base<=w.heap.size)(hm:xs.length<=maxLen) : OwI (w.alloc (.cells cs 3)) base (some ⟨w.heap.size,0,none⟩) xs.length xs:=by
 refine .mk (cur:=cs) hb (heap_alloc_new w _) (Nat.le_refl _) hm ?_ ?_
 ·rw[<-Array.length_toList,hx];simp
 ·rw[hx,List.take_of_length_le (by simp)]
end
theorem Ext.grow {a w w':World}{row:Option Nat}(h:Ext a w)(hg:w.grownBy w' row)(hr:∀ k,row=some k->a.heap.size<=k) : Ext a w':=Below.grown h hg h.size hr
theorem Ext.grownNone {a w w':World}(h:Ext a w)(hg:w.grownBy w' none) : Ext a w':=h.grow hg (fun k hk=>by cases hk)
structure Mod (S:Nat->Prop)(w w':World) : Prop where
 os:w'.os=w.os
 tape:w'.tape=w.tape
 output:w'.output=w.output
 size:w.heap.size<=w'.heap.size
 block:∀ k,k<w.heap.size->¬S k->w'.heap[k]?=w.heap[k]?
theorem Mod.of_ext {S:Nat->Prop}{w w':World}(h:Ext w w') : Mod S w w':=⟨h.os,h.tape,h.output,h.size,fun k hk _=>h.block k hk⟩
theorem Mod.rf {S:Nat->Prop}(w:World) : Mod S w w:=⟨rfl,rfl,rfl,Nat.le_refl _,fun _ _ _=>rfl⟩
theorem Mod.tr {S:Nat->Prop}{a b c:World}(h:Mod S a b)(k:Mod S b c) : Mod S a c :=
 ⟨k.os.trans h.os,k.tape.trans h.tape,k.output.trans h.output,Nat.le_trans h.size k.size,fun i hi hs=>(k.block i (Nat.lt_of_lt_of_le hi h.size) hs).trans (h.block i hi hs)⟩
theorem Mod.tr' {S S':Nat->Prop}{a b c:World}(h:Mod S a b)(k:Mod S' b c)(hS:∀ i,i<a.heap.size->S' i->S i) : Mod S a c :=
 ⟨k.os.trans h.os,k.tape.trans h.tape,k.output.trans h.output,Nat.le_trans h.size k.size,fun i hi hs=>(k.block i (Nat.lt_of_lt_of_le hi h.size) (fun h'=>hs (hS i hi h'))).trans (h.block i hi hs)⟩
theorem Mod.mono {S S':Nat->Prop}{a b:World}(h:Mod S a b)(hS:∀ i,i<a.heap.size->S i->S' i) : Mod S' a b :=
 ⟨h.os,h.tape,h.output,h.size,fun i hi hs=>h.block i hi (fun h'=>hs (hS i hi h'))⟩
theorem Mod.drewN {S:Nat->Prop}{a b:World}(h:Mod S a b)(n:Nat) : Mod S a (b.drewN n):=⟨h.os,h.tape,h.output,h.size,h.block⟩
theorem Mod.drew {S:Nat->Prop}{a b:World}(h:Mod S a b) : Mod S a b.drew:=⟨h.os,h.tape,h.output,h.size,h.block⟩
theorem Mod.alloc {S:Nat->Prop}{a b:World}(h:Mod S a b)(o:Obj) : Mod S a (b.alloc o):=h.tr (Mod.of_ext ((Ext.rf b).alloc o))
theorem Mod.set {S:Nat->Prop}{a b:World}(h:Mod S a b){p:Addr}(hp:S p.block\/a.heap.size<=p.block)(u:Value) : Mod S a (b.setCell p u) :=
 ⟨h.os,h.tape,h.output,by simpa [World.setCell] using h.size,fun i hi hs=>(Below.heap_setCell b p u i (by
  rintro rfl;rcases hp with hp | hp
  ·exact hs hp
  ·omega)).trans (h.block i hi hs)⟩
theorem Mod.below {S:Nat->Prop}{w w':World}(h:Mod S w w'){B:Nat}(hB:B<=w.heap.size)(hS:∀ k,k<B->¬S k) : Below B w w':=⟨h.os,h.tape,h.output,h.size,fun k hk=>h.block k (by omega) (hS k hk)⟩
theorem Ext.mod {S:Nat->Prop}{a w w':World}(h:Ext a w)(hm:Mod S w w')(hS:∀ k,k<a.heap.size->¬S k) : Ext a w':=Below.trans h (hm.below h.size hS)
theorem Mod.ext {S:Nat->Prop}{a w w':World}(h:Mod S a w)(hm:Ext w w') : Mod S a w':=h.tr (Mod.of_ext hm)
theorem Mod.grown {w w':World}{row:Option Nat}{S:Nat->Prop}(h:w.grownBy w' row)(hS:∀ g,row=some g->S g) : Mod S w w' :=
 ⟨h.os,h.tape,h.output,h.size,fun k hk hs=>h.block k hk (fun e=>hs (hS k e.symm))⟩
theorem Blk.mod {S:Nat->Prop}{w w':World}{g:Nat}{t:TypeId}{cs:Array Value}(h:Blk w g t cs)(hm:Mod S w w')(hg:¬S g) : Blk w' g t cs:=(hm.block g h.lt hg).trans h
theorem OwI.mod {S:Nat->Prop}{w w':World}{base:Nat}{A:Option Addr}{c:Nat}{xs:List Int}(h:OwI w base A c xs)(hm:Mod S w w')(hg:∀ g,bl A=some g->¬S g) : OwI w' base A c xs :=
 h.keep fun g hA=>hm.block g (h.lt g hA).2 (hg g hA)
theorem OwI.ne {w:World}{base:Nat}{A:Option Addr}{c:Nat}{xs:List Int}{g:Nat}{t:TypeId}{cs:Array Value}(h:OwI w base A c xs)(hg:Blk w g t cs)(ht:t≠3) : ∀ k,bl A=some k->¬k=g:=by
 rintro k hk rfl;rcases h.cases with⟨rfl,rfl,rfl⟩ | ⟨g',cur,rfl,hb',hh,_⟩
 ·simp[bl] at hk
 ·simp[bl] at hk
  subst hk;exact Blk.ne (show Blk w g' _ _ from hh) hg (Ne.symm ht) rfl
theorem OwI.far {w:World}{base:Nat}{A:Option Addr}{c:Nat}{xs:List Int}{g:Nat}{t:TypeId}{cs:Array Value}(h:OwI w base A c xs)(hg:Blk w g t cs)(ht:t≠3)(i:Nat)(u:Value) : OwI (w.setCell ⟨g,i,none⟩ u) base A c xs :=
 h.mod (S:=fun x=>x=g) (Mod.set (S:=fun x=>x=g) (p:=⟨g,i,none⟩) (Mod.rf w) (.inl rfl) u) (h.ne hg ht)
section
variable (w:World)
theorem Vr (base:Nat)(ty:TypeId)(A:Option Addr)(n cA:Nat)(xs ys:List Int)(B:Option Addr)(c:Nat)(hn:n=xs.length)(hown:OwI w base A cA xs)(hr:RdI w B ys)(hlen:xs.length+ys.length<=2^44)(hbase:base<=w.heap.size) :
  ∃ A' c' w',(Builtin.append_ #[22,22] ty #[.slice A n cA,.slice B ys.length c]).run Tryz.prog w=.ok (.slice A' (xs++ys).length c') w'/\OwI w' base A' c' (xs++ys)/\w.grownBy w' (bl A)/\(bl A'=bl A\/∃ g,bl A'=some g/\w.heap.size<=g):=by
 subst hn;obtain⟨i0,hi,hz0,hz1,hz2⟩:=info_parts YQ;have hmax:xs.length+ys.length<=maxLen:=by simp only[maxLen];omega
 rcases B with _ | ad
 ·have hy:ys=[]:=by
   rcases hr with h | ⟨b,off,h,_⟩
   ·exact h
   ·cases h
  subst hy;refine⟨A,cA,w,?_,by simpa using hown,⟨rfl,rfl,rfl,Nat.le_refl _,fun _ _ _=>rfl⟩,.inl rfl⟩;have hle:=hown.le.1;simp[Builtin.append_,run_underlying Tryz.underlying22,sizeOf,typeInfo,hi,Builtin.lenOf,Builtin.firstCells,hle]
  cases A<;>simp[storeCells]
 ·have hnews:∀ j u,(ys.map (Value.int .i64))[j]?=some u->w.cell? (ad.add j)=some u:=by
   intro j u hu;rw[List.getElem?_map] at hu;obtain⟨x,hx,rfl⟩:=Option.map_eq_some_iff.1 hu;rcases hr with rfl | ⟨b,off,h,_,hc⟩
   ·simp at hx
   ·injection h with h
    subst h;rw[add_plain];exact hc j x hx
  obtain⟨v',w',hrun,h2,h3,_,h5⟩:=run_append_own_at (P:=Tryz.prog) w base 22 ty 3 i0 _ 1 8 Tryz.underlying22 hi hz0 hz1 hz2 rfl (by decide) _ xs.length _ hown ad ys.length c (ys.map (Value.int .i64)) (by simp) hnews (by simp[Value.oneCell']) hmax (by omega) hbase;rw[Xm] at h3 h5;have hv:∃ A' c',v'=.slice A' (xs++ys).length c':=by
   rcases h2.2 with⟨rfl,h0⟩ | ⟨g,cap,cur,rfl,_⟩
   ·exact⟨none,0,by rw[List.length_append,h0]⟩
   ·exact⟨some ⟨g,0,none⟩,cap,by simp⟩
  obtain⟨A',c',rfl⟩:=hv;rw[Xm] at h5;refine⟨A',c',w',hrun,by simpa [OwI] using h2,h3,?_⟩;rcases h5 with h5 | h5
  ·exact .inl h5
  ·exact .inr ⟨_,h5,Nat.le_refl _⟩
theorem Z7 {ops:Array Oper}{rest:List Oper}{o:Oper}{a:Act}{Q:Exit->Act->World->Prop}(hgd:o.guard=none)(s x:Operand)
  (ho:o.op=.call { callee:=.builtin .append,args:=#[s,x],argTypes:=#[22,22] })
  (base:Nat) (A:Option Addr) (n cA:Nat) (xs ys:List Int) (B:Option Addr) (c:Nat) (hs:a.eval s=.slice A n cA) (hx:a.eval x=.slice B ys.length c) (hn:n=xs.length) (hown:OwI w base A cA xs) (hr:RdI w B ys) (hlen:xs.length+ys.length<=2^44) (hbase:base<=w.heap.size)
  (h:∀ A' c' w',OwI w' base A' c' (xs++ys)->w.grownBy w' (bl A)->(bl A'=bl A\/∃ g,bl A'=some g/\w.heap.size<=g)->wpList Tryz.prog ops Q rest (a.put o.dst (.slice A' (xs++ys).length c')) w'):wpList Tryz.prog ops Q (o::rest) a w :=
 wpList_plain hgd fun _ hK=>by
  obtain⟨A',c',w',hrun,h2,h3,h4⟩:=Vr w base o.type A n cA xs ys B c hn hown hr hlen hbase;unfold Oper.wp execOp;simp only[ho,resolve,invoke,builtin,Sem.run_bind,Sem.run_pure,Result.andThen_ok,List.map_toArray,List.map_cons,List.map_nil,hs,hx,hrun];exact hK _ _ (h A' c' w' h2 h3 h4)
theorem Ww {ops:Array Oper}{o:Oper}{a:Act}{K:Act->World->Prop}{Q:Exit->Act->World->Prop}{E:Prop}(hgd:o.guard=none)(s x:Operand)
  (ho:o.op=.call { callee:=.builtin .append,args:=#[s,x],argTypes:=#[22,22] })
  (base:Nat) (A:Option Addr) (n cA:Nat) (xs ys:List Int) (B:Option Addr) (c:Nat) (hs:a.eval s=.slice A n cA) (hx:a.eval x=.slice B ys.length c) (hn:n=xs.length) (hown:OwI w base A cA xs) (hr:RdI w B ys) (hlen:xs.length+ys.length<=2^44) (hbase:base<=w.heap.size)
  (h:∀ A' c' w',OwI w' base A' c' (xs++ys)->w.grownBy w' (bl A)->(bl A'=bl A\/∃ g,bl A'=some g/\w.heap.size<=g)->K (a.put o.dst (.slice A' (xs++ys).length c')) w') :
  if Region.wanted o (yielded ops a.tmps)=true then Oper.wp Tryz.prog o a w K Q else E:=by
 have hw:Region.wanted o (yielded ops a.tmps)=true:=by simp[Region.wanted,hgd]
 rw[if_pos hw];obtain⟨A',c',w',hrun,h2,h3,h4⟩:=Vr w base o.type A n cA xs ys B c hn hown hr hlen hbase;unfold Oper.wp execOp;simp only[ho,resolve,invoke,builtin,Sem.run_bind,Sem.run_pure,Result.andThen_ok,List.map_toArray,List.map_cons,List.map_nil,hs,hx,hrun];exact h A' c' w' h2 h3 h4
theorem Xd {ops:Array Oper}{rest:List Oper}{o:Oper}{a:Act}{Q:Exit->Act->World->Prop}(hgd:o.guard=none)(l c:Operand)(hop:o.op=Op.makeSlice 22 l c)
  (base:Nat) (L C:Int) (n:Nat) (hl:a.eval l=.int .i64 L) (hc:a.eval c=.int .i64 C) (hL:L=(n:Int)) (hC:C=(n:Int)) (hn:n<=2^44) (hbase:base<=w.heap.size)
  (hK:∀ w',OwI w' base (some ⟨w.heap.size,0,none⟩) n (List.replicate n 0)->w.grownBy w' none->wpList Tryz.prog ops Q rest (a.put o.dst (.slice (some ⟨w.heap.size,0,none⟩) n n)) w') :
  wpList Tryz.prog ops Q (o::rest) a w:=by
 obtain⟨i0,hi,hz0,hz1,hz2⟩:=info_parts YQ;refine wpList_make_full w hgd l c _ hop base 3 i0 _ 1 Tryz.underlying22 hi hz0 hz1 .i64 .i64 L C n hl hc hL hC (by rw[hz2];omega) (by simp only[maxLen];omega) hbase (fun w' h2 h3=>hK w' ?_ h3);have e:(madeCells (Value.int .i64 0).cells (n*1)).toList=(List.replicate n (0:Int)).map (Value.int .i64):=by
  simp[madeCells,Value.cells,List.map_const',Nat.mod_one]
 rw[e] at h2
 simpa [OwI] using h2
end
theorem Zcy (u:World)(A:Option Addr)(n c:Nat) : (binOp .eql 22 (.slice A n c) (.slice none 0 0)).run Tryz.prog u=.ok (.bool A.isNone) u:=Lib.run_eql_slice_nil u _ 3 _ _ _ _ _ Tryz.underlying22
theorem Blk.grown {w w':World}{g:Nat}{t:TypeId}{cs:Array Value}{row:Option Nat}(h:Blk w g t cs)(hb:w.grownBy w' row)(hg:row≠some g) : Blk w' g t cs:=(hb.block g h.lt (fun e=>hg e.symm)).trans h
section
variable (w:World)
end
theorem Yw (A:Option Addr)(c:Nat)(xs:List Int)(w:World)(hx:RdI w A xs)(hl:xs.length<=2^44) :
  Calls Tryz.prog 35 #[.slice A xs.length c] w fun e w'=>∃ A' c',e=.returned (.slice A' xs.length c')/\OwI w' w.heap.size A' c' xs/\Ext w w':=by
 rcases A with _ | ⟨b,off,sp⟩
 ·have h0:xs=[]:=by
   rcases hx with h | ⟨_,_,h,_⟩
   ·exact h
   ·cases h
  subst h0;clear hl hx;have hnil:=fun u:World=>Zcy u none 0 c
  simp only[List.length_nil];go_enter Tryz.func35,Tryz.ntmps35;go_wp2;go_ret;exact⟨_,_,rfl,OwI.nil _ _,Ext.rf _⟩
 ·have hnil:=fun u:World=>Zcy u (some ⟨b,off,sp⟩) xs.length c
  go_enter Tryz.func35,Tryz.ntmps35;go_wp2_with (at_builtin;refine Z7 _ rfl _ _ rfl w.heap.size (some ⟨w.heap.size,0,none⟩) 0 0 [] xs (some ⟨b,off,sp⟩) c rfl rfl rfl (by exact OwI.new (xs:=[]) rfl (Nat.le_refl _) YP) (by exact hx.ext ((Ext.rf _).alloc _)) (by simpa using hl) (by simp) ?_;rintro A1 c1 w1 hown hg _);go_ret;exact⟨_,_,rfl,hown,((Ext.rf w).alloc _).grow hg (by intro k hk;simp[bl] at hk;omega)⟩
end Go.Proofs.YtmojhhlcocjoaaaGreatDoor
namespace Go.Proofs.YtmojhhlcocjoaaaGreatDoor
open Go.RowKit Go.ChangeShapes Go.WideShapes Go.ChangeAt Go.Deep
def RdE {α:Type}(size:Nat)(R:World->List Value->α->Prop)(w:World)(A:Option Addr)(xs:List α) : Prop :=
 xs=[]\/∃ b off,A=some ⟨b,off,none⟩/\b<w.heap.size/\∀ i x,xs[i]?=some x->∃ cs:List Value,R w cs x/\cs.length=size/\∀ j v,cs[j]?=some v->w.cell? ⟨b,off+i*size+j,none⟩=some v
section
variable {α:Type} {size:Nat} {R:World->List Value->α->Prop} {w w':World} {A:Option Addr} {xs:List α}
theorem RdE.ext (h:RdE size R w A xs)(hb:Ext w w')(hR:∀ cs x,R w cs x->R w' cs x) : RdE size R w' A xs:=by
 rcases h with rfl | ⟨b,off,rfl,hlt,hc⟩
 ·exact .inl rfl
 ·refine .inr ⟨b,off,rfl,Nat.lt_of_lt_of_le hlt hb.size,fun i x hi=>?_⟩
  obtain⟨cs,h1,h2,h3⟩:=hc i x hi;exact⟨cs,hR _ _ h1,h2,fun j v hj=>by rw[hb.cell hlt];exact h3 j v hj⟩
theorem RdE.at (h:RdE size R w A xs){i:Nat}(hi:i<xs.length) : ∃ b off cs x,A=some ⟨b,off,none⟩/\b<w.heap.size/\R w cs x/\cs.length=size/\(∀ j v,cs[j]?=some v->w.cell? ⟨b,off+i*size+j,none⟩=some v)/\Hid (xs[i]?=some x):=by
 rcases h with rfl | ⟨b,off,rfl,hlt,hc⟩
 ·simp at hi
 ·obtain⟨cs,h1,h2,h3⟩:=hc i xs[i] (List.getElem?_eq_getElem hi)
  exact⟨b,off,cs,xs[i],rfl,hlt,h1,h2,h3,List.getElem?_eq_getElem hi⟩
end
section
variable {H:Type} {enc:TypeId×Value->H} {W:World}
def Zab {α:Type}(enc:TypeId×Value->H)(W:World)(e:TypeId)(R:World->List Value->α->Prop) : Prop :=
 ∀ (fuel:Nat) (cs:List Value) (x:DataW H×List MemPlace),DataW.trod enc Tryz.prog W 0 (fun _=>true) true fuel e cs=some x->∃ a:α,R W cs a
theorem Zea {α:Type}{n:Nat}{P:Nat->α->Prop}(h:∀ i,i<n->∃ a,P i a) : ∃ xs:List α,xs.length=n/\∀ i x,xs[i]?=some x->P i x:=by
 induction n with
 | zero=>exact⟨[],rfl,fun i x hx=>by simp at hx⟩
 | succ n ih =>
  obtain⟨xs,h1,h2⟩:=ih fun i hi=>h i (by omega)
  obtain⟨a,ha⟩:=h n (by omega);refine⟨xs++[a],by simp[h1],fun i x hx=>?_⟩
  by_cases hi:i<xs.length
  ·rw[List.getElem?_append_left hi] at hx
   exact h2 i x hx
  ·rw[List.getElem?_append_right (by omega)] at hx
   obtain⟨h0,hx⟩:=List.getElem?_eq_some_iff.1 hx;have:i=n:=by simp at h0;omega
   subst this;simp at hx;subst hx;exact ha
theorem Zeb {α:Type}{t e:TypeId}{size:Nat}{R:World->List Value->α->Prop}(ht:Tryz.prog.underlying t=some (.slice e))(hsz:Tryz.prog.cellsOf e=size)(h0:0<size)(hR:Zab enc W e R)
  {fuel:Nat} {cs:List Value} {x:DataW H×List MemPlace} (h:DataW.trod enc Tryz.prog W 0 (fun _=>true) true fuel t cs=some x) :
  ∃ (A:Option Addr) (xs:List α) (c:Nat),cs=[.slice A xs.length c]/\RdE size R W A xs/\xs.length<=c/\c<=maxLen:=by
 rcases open_slice ht h with⟨rfl,_⟩ | ⟨a,len,cap,m,n,D,Pl,rfl,_,hl,hm,hmm,_,hi⟩
 ·exact⟨none,[],0,rfl,.inl rfl,Nat.le_refl 0,YP⟩
 ·simp only[if_true] at hmm
  subst hmm;have each:∀ i,i<len->∃ y:α,∃ cs':List Value,R W cs' y/\cs'.length=size/\∀ j v,cs'[j]?=some v->W.cell? (a.add (i*size+j))=some v:=by
   intro i hil;obtain⟨cs',hc,ht'⟩:=hi i (by omega);obtain⟨y,hy⟩:=hR _ _ _ ht';obtain⟨_,hcl,hat⟩:=World.cells?_some hc;refine⟨y,cs',hy,by rw[hcl,hsz],fun j v hj=>?_⟩;have hjl:j<Tryz.prog.cellsOf e:=by rw[<-hcl];exact(List.getElem?_eq_some_iff.1 hj).1
   have:=hat j hjl;rw[hj,hsz,Go.Deep.add_add] at this;exact this
  obtain⟨xs,hx1,hx2⟩:=Zea each;subst hx1;refine⟨some a,xs,_,rfl,?_,hl,hm⟩
  by_cases hx0:xs=[]
  ·exact .inl hx0
  ·obtain⟨y0,hy0⟩:∃ y,xs[0]?=some y:=by
    cases xs with
    | nil=>exact absurd rfl hx0
    | cons y ys=>exact⟨y,rfl⟩
   obtain⟨cs0,_,hl0,hc0⟩:=hx2 0 y0 hy0;have hv:cs0[0]?=some (cs0[0]'(by omega)):=List.getElem?_eq_getElem (by omega);have hcell:=hc0 0 _ hv;obtain⟨b,off,spot⟩:=a;have hspot:spot=none:=by simpa [Addr.add] using World.cell?_spot hcell
   subst hspot;refine .inr ⟨b,off,rfl,by simpa [Addr.add] using World.block_lt_of_cell? W _ hcell,fun i y hy=>?_⟩;obtain⟨cs',h1,h2,h3⟩:=hx2 i y hy;exact⟨cs',h1,h2,fun j v hj=>by rw[Nat.add_assoc,<-add_plain];exact h3 j v hj⟩
def Zgh (_:World)(cs:List Value)(x:Int) : Prop:=cs=[.int .i64 x]/\-9223372036854775808<=x/\x<=9223372036854775807
theorem Vs : Zab enc W 3 Zgh:=fun fuel cs x h=>by
 obtain⟨n,rfl,_,hw⟩:=DataW.trod_int Tryz.underlying3 h;exact⟨n,rfl,ZfT hw⟩
def RInts (w:World)(cs:List Value)(l:List Int) : Prop:=∃ A c,cs=[.slice A l.length c]/\RdI w A l/\Ints l/\l.length<=c/\c<=maxLen
theorem RInts.ext {w w':World}{cs:List Value}{l:List Int}(h:RInts w cs l)(hb:Ext w w') : RInts w' cs l:=by
 obtain⟨A,c,h1,h2,h3⟩:=h;exact⟨A,c,h1,h2.ext hb,h3⟩
theorem VN : Zab enc W 22 RInts:=fun fuel cs x h=>by
 obtain⟨A,xs,c,rfl,h1,h2,h3⟩:=Zeb Tryz.underlying22 Wo (by omega) Vs h;refine⟨xs,A,c,rfl,?_,?_,h2,h3⟩
 ·rcases h1 with rfl | ⟨b,off,rfl,hb,hc⟩
  ·exact .inl rfl
  ·refine .inr ⟨b,off,rfl,hb,fun j x hj=>?_⟩
   obtain⟨cs,⟨rfl,_⟩,_,hcell⟩:=hc j x hj;have:=hcell 0 _ rfl
   simpa using this
 ·intro x hx
  rcases h1 with rfl | ⟨b,off,rfl,hb,hc⟩
  ·cases hx
  ·obtain⟨i,hi,rfl⟩:=List.mem_iff_getElem.1 hx
   obtain⟨cs,⟨_,hbd⟩,_⟩:=hc i xs[i] (List.getElem?_eq_getElem hi);exact hbd
theorem Zec {t:TypeId}{fs:Array Field}{fuel:Nat}{cs:List Value}{x:DataW H×List MemPlace}(ht:Tryz.prog.underlying t=some (.struct fs))(h:DataW.trod enc Tryz.prog W 0 (fun _=>true) true fuel t cs=some x) :
  cs.length=Tryz.prog.cellsOf t/\∀ (i:Nat) (f:Field),fs[i]?=some f->∃ n y,DataW.trod enc Tryz.prog W 0 (fun _=>true) true n f.type ((cs.drop f.offset).take (Tryz.prog.cellsOf f.type))=some y:=by
 obtain⟨xs,n,_,_,hlen,hl,hf⟩:=DataW.trod_struct ht h;refine⟨hlen,fun i f hi=>?_⟩;have hlt:i<xs.length:=by rw[hl];exact(Array.getElem?_eq_some_iff.1 hi).1
 exact⟨n,xs[i],by rw[hf i f hi];exact List.getElem?_eq_getElem hlt⟩
theorem Ud {t:TypeId}{fs:Array Field}{fuel:Nat}{cs:List Value}{x:DataW H×List MemPlace}(ht:Tryz.prog.underlying t=some (.struct fs))(h:DataW.trod enc Tryz.prog W 0 (fun _=>true) true fuel t cs=some x)
  (i:Nat) (ft:TypeId) (o s:Nat) (hf:(fs[i]?).map (fun f=>(f.type,f.offset))=some (ft,o)) (hs:Tryz.prog.cellsOf ft=s):∃ n y,DataW.trod enc Tryz.prog W 0 (fun _=>true) true n ft ((cs.drop o).take s)=some y:=by
 obtain⟨f,hf1,hf2⟩:=Option.map_eq_some_iff.1 hf;simp only[Prod.mk.injEq] at hf2;obtain⟨rfl,rfl⟩:=hf2;subst hs;exact(Zec ht h).2 i f hf1
end
end Go.Proofs.YtmojhhlcocjoaaaGreatDoor
namespace Go.Proofs.YtmojhhlcocjoaaaGreatDoor
open Go.RowKit Go.ChangeShapes Go.WideShapes Go.ChangeAt
def RdV (w:World)(e:TypeId)(A:Option Addr)(vs:List Value) : Prop :=
 vs=[]\/∃ b off cur,A=some ⟨b,off,none⟩/\w.heap[b]?=some (.cells cur e (0,0))/\∀ j v,vs[j]?=some v->cur[off+j]?=some v
def RdC (w:World)(A:Option Addr)(vs:List Value) : Prop :=
 vs=[]\/∃ b off,A=some ⟨b,off,none⟩/\b<w.heap.size/\∀ j v,vs[j]?=some v->w.cell? ⟨b,off+j,none⟩=some v
section
variable {w w':World} {e:TypeId} {A:Option Addr} {vs:List Value}
theorem RdV.nil (w:World)(e:TypeId)(A:Option Addr) : RdV w e A []:=.inl rfl
theorem RdV.rdC (h:RdV w e A vs) : RdC w A vs:=by
 rcases h with rfl | ⟨b,off,cur,rfl,hb,hc⟩
 ·exact .inl rfl
 ·exact .inr ⟨b,off,rfl,(Array.getElem?_eq_some_iff.1 hb).1,fun j v hj=>by rw[cell_of_row w b _ cur e (0,0) hb];exact hc j v hj⟩
theorem RdC.ext (h:RdC w A vs)(hb:Ext w w') : RdC w' A vs:=by
 rcases h with rfl | ⟨b,off,rfl,hlt,hc⟩
 ·exact .inl rfl
 ·exact .inr ⟨b,off,rfl,Nat.lt_of_lt_of_le hlt hb.size,fun j v hj=>by rw[hb.cell hlt];exact hc j v hj⟩
theorem RdV.keep (h:RdV w e A vs)(hb:∀ b,bl A=some b->w'.heap[b]?=w.heap[b]?) : RdV w' e A vs:=by
 rcases h with rfl | ⟨b,off,cur,rfl,hh,hc⟩
 ·exact .inl rfl
 ·exact .inr ⟨b,off,cur,rfl,(hb b rfl).trans hh,hc⟩
theorem RdV.lt (h:RdV w e A vs)(hne:vs≠[]) : ∀ b,bl A=some b->b<w.heap.size:=by
 intro b hb;rcases h with rfl | ⟨b',off,cur,rfl,hh,hc⟩
 ·exact absurd rfl hne
 ·simp[bl] at hb
  subst hb;exact(Array.getElem?_eq_some_iff.1 hh).1
theorem RdV.ext (h:RdV w e A vs)(hx:Ext w w') : RdV w' e A vs:=by
 rcases h with rfl | ⟨b,off,cur,rfl,hh,hc⟩
 ·exact .inl rfl
 ·exact .inr ⟨b,off,cur,rfl,(hx.block b (Array.getElem?_eq_some_iff.1 hh).1).trans hh,hc⟩
theorem RdV.mod {S:Nat->Prop}(h:RdV w e A vs)(hm:Mod S w w')(hS:∀ k cur,w.heap[k]?=some (.cells cur e (0,0))->¬S k) : RdV w' e A vs:=by
 rcases h with rfl | ⟨b,off,cur,rfl,hh,hc⟩
 ·exact .inl rfl
 ·exact .inr ⟨b,off,cur,rfl,(hm.block b (Array.getElem?_eq_some_iff.1 hh).1 (hS b cur hh)).trans hh,hc⟩
theorem RdV.blk {b:Nat}{cs:Array Value}(h:Blk w b e cs) : RdV w e (some ⟨b,0,none⟩) cs.toList :=
 .inr ⟨b,0,cs,rfl,h,fun j v hj=>by simpa using hj⟩
theorem RdV.at (h:RdV w e A vs){j:Nat}(hj:j<vs.length) : ∃ b off v,A=some ⟨b,off,none⟩/\b<w.heap.size/\w.cell? ⟨b,off+j,none⟩=some v/\Hid (vs[j]?=some v):=by
 rcases h.rdC with rfl | ⟨b,off,rfl,hlt,hc⟩
 ·simp at hj
 ·exact⟨b,off,vs[j],rfl,hlt,hc j _ (List.getElem?_eq_getElem hj),List.getElem?_eq_getElem hj⟩
theorem RdV.form (h:RdV w e A vs)(hne:vs≠[]) : ∃ b off,A=some ⟨b,off,none⟩/\b<w.heap.size/\∀ j v,vs[j]?=some v->w.cell? ⟨b,off+j,none⟩=some v:=by
 rcases h.rdC with rfl | ⟨b,off,rfl,hlt,hc⟩
 ·exact absurd rfl hne
 ·exact⟨b,off,rfl,hlt,hc⟩
theorem RdV.drop (h:RdV w e A vs)(k:Nat) : RdV w e (A.map (·.add k)) (vs.drop k):=by
 rcases h with rfl | ⟨b,off,cur,rfl,hh,hc⟩
 ·exact .inl (by simp)
 ·refine .inr ⟨b,off+k,cur,by simp[add_plain],hh,fun j v hj=>?_⟩
  rw[List.getElem?_drop] at hj;rw[Nat.add_assoc];exact hc _ v hj
theorem RdV.take (h:RdV w e A vs)(k:Nat) : RdV w e A (vs.take k):=by
 rcases h with rfl | ⟨b,off,cur,rfl,hh,hc⟩
 ·exact .inl (by simp)
 ·refine .inr ⟨b,off,cur,rfl,hh,fun j v hj=>?_⟩
  rw[List.getElem?_take] at hj;split at hj
  ·exact hc j v hj
  ·cases hj
end
def OwV (w:World)(base:Nat)(e:TypeId)(size:Nat)(A:Option Addr)(n c:Nat)(vs:List Value) : Prop:=w.ownsRow base e size (.slice A n c) n vs
section
variable {w w':World} {base:Nat} {e:TypeId} {size:Nat} {A:Option Addr} {n c:Nat} {vs:List Value}
theorem OwV.nil (w:World)(base:Nat)(e:TypeId)(size:Nat) : OwV w base e size none 0 0 []:=World.ownsRow_nil _ _ _ _
theorem OwV.cases (h:OwV w base e size A n c vs) : (A=none/\c=0/\n=0/\vs=[])\/∃ g cur,A=some ⟨g,0,none⟩/\base<=g/\w.heap[g]?=some (.cells cur e (0,0))/\n<=c/\c<=maxLen/\cur.size=c*size/\cur.toList.take (n*size)=vs:=by
 rcases h.2 with⟨hv,h0⟩ | ⟨g,cap,cur,hv,hb,hg,hn,hm,hs,ht⟩
 ·injection hv with h1 _ h3
  have:=h.1;rw[h0,Nat.zero_mul] at this;exact .inl ⟨h1,h3,h0,List.eq_nil_of_length_eq_zero this⟩
 ·injection hv with h1 _ h3
  subst h1 h3;exact .inr ⟨g,cur,rfl,hb,hg,hn,hm,hs,ht⟩
theorem OwV.mk {g:Nat}{cur:Array Value}(hb:base<=g)(hg:w.heap[g]?=some (.cells cur e (0,0)))(hn:n<=c)(hm:c<=maxLen)(hs:cur.size=c*size)(ht:cur.toList.take (n*size)=vs) : OwV w base e size (some ⟨g,0,none⟩) n c vs :=
 ⟨by rw[<-ht,List.length_take,Array.length_toList,hs];exact Nat.min_eq_left (Nat.mul_le_mul_right _ hn),.inr ⟨g,c,cur,rfl,hb,hg,hn,hm,hs,ht⟩⟩
theorem OwV.le (h:OwV w base e size A n c vs) : n<=c/\c<=maxLen:=by
 rcases h.cases with⟨rfl,rfl,rfl,rfl⟩ | ⟨g,cur,rfl,hb,hg,hn,hm,_⟩
 ·exact⟨Nat.le_refl _,YP⟩
 ·exact⟨hn,hm⟩
theorem OwV.len (h:OwV w base e size A n c vs) : vs.length=n*size:=h.1
theorem OwV.read (h:OwV w base e size A n c vs) : RdV w e A vs:=by
 rcases h.cases with⟨rfl,rfl,rfl,rfl⟩ | ⟨g,cur,rfl,hb,hg,hn,hm,hs,ht⟩
 ·exact .inl rfl
 ·refine .inr ⟨g,0,cur,rfl,hg,fun j v hj=>?_⟩
  rw[<-ht,List.getElem?_take] at hj;split at hj
  ·simpa using hj
  ·cases hj
theorem OwV.keep (h:OwV w base e size A n c vs)(hb:∀ g,bl A=some g->w'.heap[g]?=w.heap[g]?) : OwV w' base e size A n c vs:=by
 rcases h.cases with⟨rfl,rfl,rfl,rfl⟩ | ⟨g,cur,rfl,hb',hg,hn,hm,hs,ht⟩
 ·exact OwV.nil _ _ _ _
 ·exact .mk hb' ((hb g rfl).trans hg) hn hm hs ht
theorem OwV.lt (h:OwV w base e size A n c vs) : ∀ k,bl A=some k->base<=k/\k<w.heap.size:=by
 intro k hk;rcases h.cases with⟨rfl,rfl,rfl,rfl⟩ | ⟨g,cur,rfl,hb',hg,_⟩
 ·simp[bl] at hk
 ·simp[bl] at hk
  subst hk;exact⟨hb',(Array.getElem?_eq_some_iff.1 hg).1⟩
theorem OwV.ext (h:OwV w base e size A n c vs)(hb:Ext w w') : OwV w' base e size A n c vs:=h.keep fun g hg=>hb.block g (h.lt g hg).2
theorem OwV.more {base':Nat}(h:OwV w base e size A n c vs)(hb:base'<=base) : OwV w base' e size A n c vs:=by
 rcases h.cases with⟨rfl,rfl,rfl,rfl⟩ | ⟨g,cur,rfl,hb',hg,hn,hm,hs,ht⟩
 ·exact OwV.nil _ _ _ _
 ·exact .mk (Nat.le_trans hb hb') hg hn hm hs ht
theorem OwV.mod {S:Nat->Prop}(h:OwV w base e size A n c vs)(hm:Mod S w w')(hg:∀ g,bl A=some g->¬S g) : OwV w' base e size A n c vs :=
 h.keep fun g hA=>hm.block g (h.lt g hA).2 (hg g hA)
theorem OwV.ne {g:Nat}{t:TypeId}{cs:Array Value}(h:OwV w base e size A n c vs)(hg:Blk w g t cs)(ht:t≠e) : ∀ k,bl A=some k->¬k=g:=by
 rintro k hk rfl;rcases h.cases with⟨rfl,rfl,rfl,rfl⟩ | ⟨g',cur,rfl,hb',hh,_⟩
 ·simp[bl] at hk
 ·simp[bl] at hk
  subst hk;exact Blk.ne (show Blk w g' _ _ from hh) hg (Ne.symm ht) rfl
theorem OwV.set {g:Nat}(h:OwV w base e size (some ⟨g,0,none⟩) n c vs){j:Nat}(hj:j<vs.length)(u:Value) :
  w.cell? ⟨g,j,none⟩=vs[j]?/\w.frozen? ⟨g,j,none⟩=false/\base<=g/\OwV (w.setCell ⟨g,j,none⟩ u) base e size (some ⟨g,0,none⟩) n c (vs.set j u):=by
 rcases h.cases with⟨h0,_⟩ | ⟨g',cur,hA,hb,hg,hn,hm,hs,ht⟩
 ·cases h0
 ·injection hA with hA
  injection hA with hA
  subst hA;refine⟨?_,by simp[World.frozen?,hg],hb,.mk (cur:=cur.setIfInBounds j u) hb ?_ hn hm (by simpa using hs) ?_⟩
  ·rw[cell_of_row w g _ cur _ (0,0) hg,<-ht,List.getElem?_take,if_pos]
   ·simp
   ·rw[<-ht,List.length_take] at hj
    omega
  ·simp[World.setCell,Array.getElem?_modify,hg]
  ·simp only[Array.toList_setIfInBounds,<-ht]
   rw[List.take_set]
theorem OwV.full {g:Nat}{cs:Array Value}(h:Blk w g e cs)(hb:base<=g)(hs:cs.size=n*size)(hm:n<=maxLen) : OwV w base e size (some ⟨g,0,none⟩) n n cs.toList :=
 .mk hb h (Nat.le_refl _) hm hs (List.take_of_length_le (by rw[Array.length_toList,hs];exact Nat.le_refl _))
end
section
variable (w:World) {t e:TypeId} {i:TypeInfo} {z:Value} {size bytes:Nat} (ht:Tryz.prog.underlying t=some (.slice e)) (hi:Tryz.prog.info? e=some i) (hz:i.zero=some z) (hsize:i.size=size) (hby:i.bytes=bytes) (hzs:z.cells.size=size) (hsz:0<size)
include ht hi hz hsize hby hzs hsz
theorem UJ (base:Nat)(ty:TypeId)(A:Option Addr)(n cA:Nat)(xs:List Value)(B:Option Addr)(m c:Nat)(ys:List Value)(hown:OwV w base e size A n cA xs)(hr:RdC w B ys)(hm:ys.length=m*size)(h1:∀ u∈ys,u.oneCell'=true)
  (h63:n+m<=maxLen) (hbytes:(n+m)*bytes<=140737488355328) (hbase:base<=w.heap.size) :
  ∃ A' c' w',(Builtin.append_ #[t,t] ty #[.slice A n cA,.slice B m c]).run Tryz.prog w=.ok (.slice A' (n+m) c') w'/\OwV w' base e size A' (n+m) c' (xs++ys)/\w.grownBy w' (bl A)/\(bl A'=bl A\/bl A'=some w.heap.size):=by
 rcases B with _ | ad
 ·have hy:ys=[]:=by
   rcases hr with h | ⟨b,off,h,_⟩
   ·exact h
   ·cases h
  subst hy;have hm0:m=0:=by
   simp only[List.length_nil] at hm;rcases Nat.eq_zero_or_pos m with h | h
   ·exact h
   ·have:=Nat.mul_pos h hsz;omega
  subst hm0;refine⟨A,cA,w,?_,by simpa using hown,⟨rfl,rfl,rfl,Nat.le_refl _,fun _ _ _=>rfl⟩,.inl rfl⟩;have hle:=hown.le.1;simp[Builtin.append_,run_underlying ht,sizeOf,typeInfo,hi,Builtin.lenOf,Builtin.firstCells,hle]
  cases A<;>simp[storeCells]
 ·have hnews:∀ j u,ys[j]?=some u->w.cell? (ad.add j)=some u:=by
   intro j u hu;rcases hr with rfl | ⟨b,off,h,_,hc⟩
   ·simp at hu
   ·injection h with h
    subst h;rw[add_plain];exact hc j u hu
  obtain⟨v',w',hrun,h2,h3,_,h5⟩:=run_append_own_at (P:=Tryz.prog) w base t ty e i z size bytes ht hi hz hsize hby hzs hsz _ n _ hown ad m c ys hm hnews h1 h63 hbytes hbase;rw[Xm] at h3 h5;have hv:∃ A' c',v'=.slice A' (n+m) c':=by
   rcases h2.2 with⟨rfl,h0⟩ | ⟨g,cap,cur,rfl,_⟩
   ·exact⟨none,0,by rw[h0]⟩
   ·exact⟨some ⟨g,0,none⟩,cap,rfl⟩
  obtain⟨A',c',rfl⟩:=hv;rw[Xm] at h5;exact⟨A',c',w',hrun,h2,h3,h5⟩
theorem Zaz (base:Nat)(ty:TypeId)(g n:Nat)(cs:Array Value)(B:Option Addr)(m c:Nat)(ys:List Value)(hg:Blk w g e cs)(hb:base<=g)(hn:cs.size=n*size)(hr:RdC w B ys)(hm:ys.length=m*size)(h1:∀ u∈ys,u.oneCell'=true)
  (h63:n+m<=maxLen) (hbytes:(n+m)*bytes<=140737488355328) :
  ∃ A' c' w',(Builtin.append_ #[t,t] ty #[.slice (some ⟨g,0,none⟩) n n,.slice B m c]).run Tryz.prog w=.ok (.slice A' (n+m) c') w'/\OwV w' base e size A' (n+m) c' (cs.toList++ys)/\Ext w w':=by
 by_cases hy:ys=[]
 ·subst hy
  have hm0:m=0:=by
   simp only[List.length_nil] at hm;rcases Nat.eq_zero_or_pos m with h | h
   ·exact h
   ·have:=Nat.mul_pos h hsz;omega
  subst hm0;refine⟨some ⟨g,0,none⟩,n,w,?_,by simpa using OwV.full hg hb hn (by simpa using h63),Ext.rf _⟩;rcases B with _ | ad
  ·simp[Builtin.append_,run_underlying ht,sizeOf,typeInfo,hi,Builtin.lenOf,Builtin.firstCells,storeCells]
  ·simp[Builtin.append_,run_underlying ht,sizeOf,typeInfo,hi,Builtin.lenOf,Builtin.firstCells,storeCells,loadCells,loadCellsFrom]
 ·have hm0:0<m:=by
   rcases Nat.eq_zero_or_pos m with h | h
   ·rw[h,Nat.zero_mul] at hm
    exact absurd (List.eq_nil_of_length_eq_zero hm) hy
   ·exact h
  obtain⟨b,off,rfl,hc⟩:∃ b off,B=some ⟨b,off,none⟩/\∀ j x,ys[j]?=some x->w.cell? ⟨b,off+j,none⟩=some x:=by
   rcases hr with h | ⟨b,off,h,_,hc⟩
   ·exact absurd h hy
   ·exact⟨b,off,h,hc⟩
  have hnews:∀ j u,ys[j]?=some u->w.cell? ((⟨b,off,none⟩:Addr).add j)=some u:=by
   intro j u hu;rw[add_plain];exact hc j u hu
  have holds:∀ j u,cs.toList[j]?=some u->w.cell? ((⟨g,0,none⟩:Addr).add j)=some u:=by
   intro j u hu;rw[add_plain,hg.cell]
   simpa using hu
  subst hsize hby;have hrun:=run_append_grow (P:=Tryz.prog) w t ty e i z ht hi hz ⟨g,0,none⟩ n n cs.toList (by rw[Array.length_toList];exact hn) holds ⟨b,off,none⟩ m c ys hm hnews (by omega) (by have h:=h63;simp only[maxLen] at h;omega) (growslice_fits (by omega) hbytes);have hge:=grownCap_ge w (n+m) n e;have hle:=grownCap_le_maxLen w (n+m) n e h63;have hlen:(cs.toList++ys).length=(n+m)*i.size:=by rw[List.length_append,Array.length_toList,hn,hm,Nat.add_mul]
  refine⟨_,_,_,hrun,.mk (cur:=_) (Nat.le_trans hb (Nat.le_of_lt hg.lt)) (heap_alloc_new w.drew _) hge hle ?_ ?_,((Ext.rf w).drew).alloc _⟩
  ·simp only[Array.size_append,List.size_toArray,size_zeroCells,hzs,Array.length_toList,hn,hm,<-Nat.add_mul]
   congr 1
   omega
  ·simp only[Array.toList_append,List.append_assoc]
   rw[<-List.append_assoc,<-hlen];exact List.take_left
theorem Vt {ops:Array Oper}{rest:List Oper}{o:Oper}{a:Act}{Q:Exit->Act->World->Prop}(hgd:o.guard=none)(s x:Operand)
  (ho:o.op=.call { callee:=.builtin .append,args:=#[s,x],argTypes:=#[t,t] })
  (base:Nat) (A:Option Addr) (n cA:Nat) (xs:List Value) (B:Option Addr) (m c:Nat) (ys:List Value) (hs:a.eval s=.slice A n cA) (hx:a.eval x=.slice B m c) (hown:OwV w base e size A n cA xs) (hr:RdC w B ys) (hm:ys.length=m*size) (h1:∀ u∈ys,u.oneCell'=true)
  (h63:n+m<=maxLen) (hbytes:(n+m)*bytes<=140737488355328) (hbase:base<=w.heap.size)
  (h:∀ A' c' w',OwV w' base e size A' (n+m) c' (xs++ys)->w.grownBy w' (bl A)->(bl A'=bl A\/bl A'=some w.heap.size)->wpList Tryz.prog ops Q rest (a.put o.dst (.slice A' (n+m) c')) w'):wpList Tryz.prog ops Q (o::rest) a w :=
 wpList_plain hgd fun _ hK=>by
  obtain⟨A',c',w',hrun,h2,h3,h4⟩:=UJ w ht hi hz hsize hby hzs hsz base o.type A n cA xs B m c ys hown hr hm h1 h63 hbytes hbase;unfold Oper.wp execOp;simp only[ho,resolve,invoke,builtin,Sem.run_bind,Sem.run_pure,Result.andThen_ok,List.map_toArray,List.map_cons,List.map_nil,hs,hx,hrun];exact hK _ _ (h A' c' w' h2 h3 h4)
theorem ZbD {ops:Array Oper}{o:Oper}{a:Act}{K:Act->World->Prop}{Q:Exit->Act->World->Prop}{E:Prop}(hgd:o.guard=none)(s x:Operand)
  (ho:o.op=.call { callee:=.builtin .append,args:=#[s,x],argTypes:=#[t,t] })
  (base:Nat) (A:Option Addr) (n cA:Nat) (xs:List Value) (B:Option Addr) (m c:Nat) (ys:List Value) (hs:a.eval s=.slice A n cA) (hx:a.eval x=.slice B m c) (hown:OwV w base e size A n cA xs) (hr:RdC w B ys) (hm:ys.length=m*size) (h1:∀ u∈ys,u.oneCell'=true)
  (h63:n+m<=maxLen) (hbytes:(n+m)*bytes<=140737488355328) (hbase:base<=w.heap.size)
  (h:∀ A' c' w',OwV w' base e size A' (n+m) c' (xs++ys)->w.grownBy w' (bl A)->(bl A'=bl A\/bl A'=some w.heap.size)->K (a.put o.dst (.slice A' (n+m) c')) w'):if Region.wanted o (yielded ops a.tmps)=true then Oper.wp Tryz.prog o a w K Q else E:=by
 have hw:Region.wanted o (yielded ops a.tmps)=true:=by simp[Region.wanted,hgd]
 rw[if_pos hw];obtain⟨A',c',w',hrun,h2,h3,h4⟩:=UJ w ht hi hz hsize hby hzs hsz base o.type A n cA xs B m c ys hown hr hm h1 h63 hbytes hbase;unfold Oper.wp execOp;simp only[ho,resolve,invoke,builtin,Sem.run_bind,Sem.run_pure,Result.andThen_ok,List.map_toArray,List.map_cons,List.map_nil,hs,hx,hrun];exact h A' c' w' h2 h3 h4
end
end Go.Proofs.YtmojhhlcocjoaaaGreatDoor
namespace Go.Proofs.YtmojhhlcocjoaaaGreatDoor
open Go.RowKit Go.ChangeShapes Go.WideShapes Go.ChangeAt
def ofT (w:World)(base:Nat)(ts:List TypeId)(k:Nat) : Prop:=base<=k/\∃ cs t,w.heap[k]?=some (.cells cs t (0,0))/\t∈ts
def ModT (base:Nat)(ts:List TypeId)(w w':World) : Prop:=Mod (ofT w base ts) w w'
section
variable {base:Nat} {ts:List TypeId} {w w' w2:World}
theorem ModT.rf (w:World) : ModT base ts w w:=Mod.rf w
theorem ModT.of_ext (h:Ext w w') : ModT base ts w w':=Mod.of_ext h
theorem ModT.tr (h:ModT base ts w w')(k:ModT base ts w' w2) : ModT base ts w w2:=by
 refine Mod.tr' h k fun i hi hs=>?_
 by_cases ho:ofT w base ts i
 ·exact ho
 ·obtain⟨hb,cs,t,hc,ht⟩:=hs
  exact⟨hb,cs,t,(h.block i hi ho).symm.trans hc,ht⟩
theorem ModT.ext (h:ModT base ts w w')(k:Ext w' w2) : ModT base ts w w2:=h.tr (.of_ext k)
theorem ModT.set (w:World){g:Nat}{t:TypeId}{cs:Array Value}(hg:Blk w g t cs)(ht:t∈ts)(hb:base<=g)(i:Nat)(u:Value) : ModT base ts w (w.setCell ⟨g,i,none⟩ u) :=
 Mod.set (p:=⟨g,i,none⟩) (Mod.rf w) (.inl ⟨hb,cs,t,hg,ht⟩) u
theorem ModT.size (h:ModT base ts w w') : w.heap.size<=w'.heap.size:=Mod.size h
theorem ModT.more {ts':List TypeId}{base':Nat}(h:ModT base ts w w')(hb:base'<=base)(ht:∀ t∈ts,t∈ts') : ModT base' ts' w w' :=
 Mod.mono h fun _ _ ⟨h1,cs,t,h2,h3⟩=>⟨Nat.le_trans hb h1,cs,t,h2,ht t h3⟩
theorem Ext.modT {w0:World}(h:Ext w0 w)(k:ModT base ts w w')(hb:w0.heap.size<=base) : Ext w0 w':=h.mod k fun _ hk hs=>by have:=hs.1;omega
theorem Blk.modT {g:Nat}{t:TypeId}{cs:Array Value}(h:Blk w g t cs)(k:ModT base ts w w')(ht:t∉ts) : Blk w' g t cs :=
 h.mod k fun hs=>by
  obtain⟨_,cs',t',h1,h2⟩:=hs;rw[h] at h1
  injection h1 with h1
  injection h1 with _ h1
  subst h1;exact ht h2
theorem RdV.modT {e:TypeId}{A:Option Addr}{vs:List Value}(h:RdV w e A vs)(k:ModT base ts w w')(ht:e∉ts) : RdV w' e A vs :=
 h.mod k fun b cur hb hs=>by
  obtain⟨_,cs',t',h1,h2⟩:=hs;rw[hb] at h1
  injection h1 with h1
  injection h1 with _ h1
  subst h1;exact ht h2
theorem OwI.modT {base':Nat}{A:Option Addr}{c:Nat}{xs:List Int}(h:OwI w base' A c xs)(k:ModT base ts w w')(ht:3∉ts) : OwI w' base' A c xs :=
 h.keep fun g hg=>by
  rcases h.cases with⟨rfl,rfl,rfl⟩ | ⟨g',cur,rfl,hb',hh,_⟩
  ·simp[bl] at hg
  ·simp[bl] at hg
   subst hg;exact k.block g' (Array.getElem?_eq_some_iff.1 hh).1 fun hs=>by
    obtain⟨_,cs',t',h1,h2⟩:=hs;rw[hh] at h1
    injection h1 with h1
    injection h1 with _ h1
    subst h1;exact ht h2
theorem OwV.modT {base':Nat}{e:TypeId}{size n c:Nat}{A:Option Addr}{vs:List Value}(h:OwV w base' e size A n c vs)(k:ModT base ts w w')(ht:e∉ts) : OwV w' base' e size A n c vs :=
 h.keep fun g hg=>by
  rcases h.cases with⟨rfl,rfl,rfl,rfl⟩ | ⟨g',cur,rfl,hb',hh,_⟩
  ·simp[bl] at hg
  ·simp[bl] at hg
   subst hg;exact k.block g' (Array.getElem?_eq_some_iff.1 hh).1 fun hs=>by
    obtain⟨_,cs',t',h1,h2⟩:=hs;rw[hh] at h1
    injection h1 with h1
    injection h1 with _ h1
    subst h1;exact ht h2
theorem RdI.modT {A:Option Addr}{xs:List Int}(h:RdI w A xs)(k:ModT base ts w w')(hb:∀ b,bl A=some b->b<base) : RdI w' A xs:=by
 rcases h with rfl | ⟨b,off,rfl,hlt,hc⟩
 ·exact .inl rfl
 ·refine .inr ⟨b,off,rfl,Nat.lt_of_lt_of_le hlt k.size,fun j x hj=>?_⟩
  have h1:=hb b rfl;rw[<-hc j x hj];exact World.cell?_of_block (k.block b hlt fun hs=>by have:=hs.1;omega)
end
end Go.Proofs.YtmojhhlcocjoaaaGreatDoor
namespace Go.Proofs.YtmojhhlcocjoaaaGreatDoor
open Go.RowKit
def Zk (a0:Act) : List (Nat×Option Tmp)->(Nat->Value)->Act
 | [],_=>a0
 | p::ps,u=>(Zk a0 ps u).put p.2 (u p.1)
def upd (u:Nat->Value)(i:Nat)(v:Value) : Nat->Value:=fun j=>if j=i then v else u j
def Xx (ops:Array Oper)(rem:List (Nat×Option Tmp))(i:Nat) : List Nat :=
 match ops[i]? with
 | none=>[]
 | some o=>(o.after.toList.filter fun e=>Region.binds .any e&&(rem.map (·.1)).contains e.on).map (·.on)
theorem Zn {ops:Array Oper}{rem:List (Nat×Option Tmp)}{i j:Nat}(h:(Xx ops rem i).contains j=true) : j∈Xx ops rem i:=by simpa using h
theorem Act.put_put_ne (a:Act){x y:Option Tmp}(v u:Value)(h:∀ d,x=some d->y≠some d) : (a.put x v).put y u=(a.put y u).put x v:=Act.put_comm a v u h
theorem Act.put_twice (a:Act)(x:Option Tmp)(v u:Value) : (a.put x v).put x u=a.put x u:=by
 cases x with
 | none=>rfl
 | some d=>simp[Act.put,Array.setIfInBounds_setIfInBounds]
theorem Qw (a0:Act)(i:Nat)(d:Option Tmp)(u:Nat->Value)(v:Value) : ∀ (rem:List (Nat×Option Tmp)),(rem.map (·.1)).Nodup->(rem.filterMap (·.2)).Nodup->(i,d)∈rem ->
  (Zk a0 rem u).put d v=Zk a0 rem (upd u i v)
 | [],_,_,h=>by cases h
 | p::ps,hn,hd,h=>by
  have same:∀ (qs:List (Nat×Option Tmp)),i∉qs.map (·.1)->Zk a0 qs (upd u i v)=Zk a0 qs u:=by
   intro qs
   induction qs with
   | nil=>intro _;rfl
   | cons q qs ih =>
    intro hq;simp only[List.map_cons,List.mem_cons,not_or] at hq;simp only[Zk,ih hq.2,upd,if_neg (Ne.symm hq.1)]
  rcases List.mem_cons.1 h with rfl | h'
  ·have hni:i∉ps.map (·.1):=by simpa using (List.nodup_cons.1 hn).1
   simp only[Zk,same ps hni,upd,if_true];exact Act.put_twice _ _ _ _
  ·have hpi:p.1≠i:=by
    rintro rfl;exact(List.nodup_cons.1 hn).1 (List.mem_map.2 ⟨_,h',rfl⟩)
   have hd':(ps.filterMap (·.2)).Nodup:=by
    cases hp:p.2 with
    | none=>simpa [List.filterMap_cons,hp] using hd
    | some t=>rw[List.filterMap_cons,hp] at hd;exact(List.nodup_cons.1 hd).2
   have ih:=Qw a0 i d u v ps (List.nodup_cons.1 hn).2 hd' h';simp only[Zk,upd,if_neg hpi];rw[<-ih];refine Act.put_put_ne _ _ _ ?_;intro t ht hdt;rw[List.filterMap_cons,ht] at hd;exact(List.nodup_cons.1 hd).1 (List.mem_filterMap.2 ⟨(i,d),h',hdt⟩)
theorem Zed (a:Act)(d:Tmp) : a.put (some d) (a.tmps.getD d undef)=a:=by
 have:a.tmps.setIfInBounds d (a.tmps.getD d undef)=a.tmps:=by
  apply Array.ext_getElem?;intro j;rw[Array.getElem?_setIfInBounds];split
  ·rename_i h
   subst h;split
   ·rename_i h;simp[Array.getD,h]
   ·rename_i h;simp[Array.getElem?_eq_none (Nat.le_of_not_lt h)]
  ·rfl
 show ({ a with tmps:=a.tmps.setIfInBounds d (a.tmps.getD d undef) }:Act)=a;rw[this]
theorem Qx (a0:Act)(u:Nat->Value)(i:Nat)(v:Value) : ∀ (qs:List (Nat×Option Tmp)),i∉qs.map (·.1)->Zk a0 qs (upd u i v)=Zk a0 qs u
 | [],_=>rfl
 | q::qs,hq=>by
  simp only[List.map_cons,List.mem_cons,not_or] at hq;simp only[Zk,Qx a0 u i v qs hq.2,upd,if_neg (Ne.symm hq.1)]
theorem Qb (a0:Act) : ∀ (rem:List (Nat×Option Tmp)),(rem.map (·.1)).Nodup->∃ u,Zk a0 rem u=a0
 | [],_=>⟨fun _=>undef,rfl⟩
 | p::ps,hn=>by
  obtain⟨u,hu⟩:=Qb a0 ps (List.nodup_cons.1 hn).2;have hni:p.1∉ps.map (·.1):=(List.nodup_cons.1 hn).1;refine⟨upd u p.1 (match p.2 with | some d=>a0.tmps.getD d undef | none=>undef),?_⟩;simp only[Zk,Qx a0 u _ _ ps hni,hu,upd,if_true]
  cases p.2 with
  | none=>rfl
  | some d=>exact Zed a0 d
section
variable {P:Program} {ops:Array Oper} {Q:Exit->Act->World->Prop}
def WY (listed:Array Bool)(rem:List (Nat×Option Tmp)) : Nat:=(rem.filter fun p => !listed.getD p.1 true).length
def Wx (ops:Array Oper)(rs:List Nat) : Nat->Nat->Nat->Bool
 | 0,_,_=>false
 | f+1,i,q=>match ops[i]? with
  | none=>false
  | some o=>o.after.toList.any (fun e=>Region.binds .any e&&(e.on==q || (rs.contains e.on&&Wx ops rs f e.on q)))
theorem Wy {listed:Array Bool}{rs:List Nat}(hcl:∀ p∈rs,listed.getD p true=true->∀ o,ops[p]?=some o->∀ e∈o.after.toList,Region.binds .any e=true->listed.getD e.on true=true) :
  ∀ (f i:Nat),(∀ o,ops[i]?=some o->∀ e∈o.after.toList,Region.binds .any e=true->listed.getD e.on true=true)->∀ q,Wx ops rs f i q=true->listed.getD q true=true:=by
 intro f
 induction f with
 | zero=>intro i _ q h;cases h
 | succ f ih =>
  intro i hi q h;unfold Wx at h
  cases ho:ops[i]? with
  | none=>rw[ho] at h;cases h
  | some o =>
   rw[ho] at h;obtain⟨e,he,h⟩:=List.any_eq_true.1 h;simp only[Bool.and_eq_true,Bool.or_eq_true,beq_iff_eq] at h;obtain⟨hb,h⟩:=h;have h1:=hi o ho e he hb;rcases h with rfl | ⟨h2,h3⟩
   ·exact h1
   ·exact ih e.on (hcl e.on (by simpa using h2) h1) q h3
theorem VO {listed:Array Bool}{i:Nat}(h:((ops[i]?.map fun o=>o.after.all fun e => !Region.binds .any e || listed.getD e.on false).getD false)=true) :
  ∀ o,ops[i]?=some o->∀ e∈o.after.toList,Region.binds .any e=true->listed.getD e.on true=true:=by
 intro o ho e he hb;rw[ho] at h;simp only[Option.map_some,Option.getD_some,Array.all_eq_true_iff_forall_mem] at h;have:=h e (by simpa using he);rw[hb] at this;simp only[Bool.not_true,Bool.false_or] at this
 by_cases hlt:e.on<listed.size
 ·simp only[Array.getD,hlt,dif_pos] at this ⊢
  simpa using this
 ·simp[Array.getD,hlt]
def Wz (ops:Array Oper)(listed listed1:Array Bool)(rem:List (Nat×Option Tmp)) : Bool :=
 decide ((rem.map (·.1)).Nodup)&&decide ((rem.filterMap (·.2)).Nodup)&&decide (listed.size=ops.size)&&decide (listed1.size=ops.size) &&
 rem.all (fun p=>match ops[p.1]? with
  | none=>false
  | some o=>(o.dst==p.2)&&o.after.all (fun e => !Region.binds .any e || (decide (e.on<p.1)&&((rem.map (·.1)).contains e.on || listed.getD e.on true)))) &&
 (List.range ops.size).all (fun i=>if (rem.map (·.1)).contains i then !listed.getD i true&&listed1.getD i true
  else(listed1.getD i true==listed.getD i true)&&(listed.getD i true || rem.all (fun p=>Wx ops (rem.map (·.1)) (rem.length+1) i p.1) || (match ops[i]? with
   | none=>false
   | some o=>o.after.any (fun e=>Region.binds .any e&&decide (e.on<ops.size) && !listed.getD e.on true && !(rem.map (·.1)).contains e.on))))
def Zee (ops:Array Oper)(rem:List (Nat×Option Tmp))(kill:Nat->List Nat)(i j:Nat) : Bool :=
 decide (i≠j) && !(kill j).contains i&&(kill j).all (fun k => !Wx ops (rem.map (·.1)) (rem.length+1) i k) && !Wx ops (rem.map (·.1)) (rem.length+1) j i
def ZbE (ops:Array Oper)(rem:List (Nat×Option Tmp))(kill:Nat->List Nat) : Bool :=
 rem.all fun p=>(Xx ops rem p.1).all fun j=>(kill j).all fun k=>k==p.1
theorem Qc {σ:Type}(rem:List (Nat×Option Tmp))(kill:Nat->List Nat)(R:σ->World->Prop)(V:Nat->Value->σ->World->Prop)(Stab:Nat->σ->World->σ->World->Prop){listed0:Array Bool}(listed1:Array Bool)(hok:Wz ops listed0 listed1 rem=true)(hkill:ZbE ops rem kill=true)
  (stab:∀ i j v s w s' w',Zee ops rem kill i j=true->V j v s w->Stab i s w s' w'->V j v s' w')
  {a0:Act}
  (step:∀ p∈rem,∀ u s w,R s w->(∀ j∈Xx ops rem p.1,V j (u j) s w)->∀ K:Act->World->Prop,(∀ v s' w',V p.1 v s' w'->R s' w'->Stab p.1 s w s' w'->K ((Zk a0 rem u).put p.2 v) w')->wpOp P ops Q p.1 K (Zk a0 rem u) w)
  (n:Nat) (done:∀ u s w,R s w->(∀ p∈rem,kill p.1=[]->V p.1 (u p.1) s w)->wpAny P .any ops Q n listed1 (Zk a0 rem u) w) {s0:σ} {w0:World} (hR:R s0 w0) :
  wpAny P .any ops Q (rem.length+n) listed0 a0 w0:=by
 simp only[Wz,Bool.and_eq_true,decide_eq_true_eq] at hok;obtain⟨⟨⟨⟨⟨hn,hdn⟩,hsz⟩,hsz1⟩,hall⟩,hcomp⟩:=hok;have hall:=List.all_eq_true.1 hall;have hcomp:=List.all_eq_true.1 hcomp;have hmem:∀ i∈rem.map (·.1),listed0.getD i true=false/\i<ops.size:=by
  intro i hi;obtain⟨p,hp,rfl⟩:=List.mem_map.1 hi;have h1:=hall p hp;have hlt:p.1<ops.size:=by
   rcases Nat.lt_or_ge p.1 ops.size with h | h
   ·exact h
   ·rw[Array.getElem?_eq_none h] at h1;simp at h1
  have:=hcomp p.1 (List.mem_range.2 hlt);have hc:(rem.map (·.1)).contains p.1=true:=by simpa using hi
  rw[hc] at this;simp only[if_true,Bool.and_eq_true,Bool.not_eq_true'] at this;exact⟨this.1,hlt⟩
 have hone:∀ i∈rem.map (·.1),listed1.getD i true=true:=by
  intro i hi;have:=hcomp i (List.mem_range.2 (hmem i hi).2);have hc:(rem.map (·.1)).contains i=true:=by simpa using hi
  rw[hc] at this;simp only[if_true,Bool.and_eq_true] at this;exact this.2
 have hrest:∀ i,i<ops.size->i∉rem.map (·.1)->listed1.getD i true=listed0.getD i true/\((listed0.getD i true=true\/∀ p∈rem,Wx ops (rem.map (·.1)) (rem.length+1) i p.1=true)\/∃ o,ops[i]?=some o/\∃ e∈o.after.toList,Region.binds .any e=true/\e.on<ops.size/\listed0.getD e.on true=false/\e.on∉rem.map (·.1)):=by
  intro i hi hni;have:=hcomp i (List.mem_range.2 hi);have hc:(rem.map (·.1)).contains i=false:=by
   cases h:(rem.map (·.1)).contains i with
   | false=>rfl
   | true=>exact absurd (by simpa using h) hni
  rw[hc] at this;simp only[Bool.false_eq_true,if_false,Bool.and_eq_true,beq_iff_eq,Bool.or_eq_true] at this;refine⟨this.1,?_⟩;rcases this.2 with(h | h) | h
  ·exact .inl (.inl h)
  ·exact .inl (.inr fun p hp=>List.all_eq_true.1 h p hp)
  ·right
   rw[Array.getElem?_eq_getElem hi] at h;refine⟨ops[i],Array.getElem?_eq_getElem hi,?_⟩;simp only[Array.any_toList.symm,List.any_eq_true,Bool.and_eq_true,decide_eq_true_eq,Bool.not_eq_true'] at h;obtain⟨e,he,⟨⟨h1,h2⟩,h3⟩,h4⟩:=h;exact⟨e,he,h1,h2,h3,by simpa using h4⟩
 suffices H:∀ k (listed:Array Bool) (u:Nat->Value) (s:σ) (w:World),listed.size=ops.size->R s w->(∀ i,i<ops.size->i∉rem.map (·.1)->listed.getD i true=listed0.getD i true) ->
   (∀ p∈rem,listed.getD p.1 true=true->(∀ k∈kill p.1,listed.getD k true=false)->V p.1 (u p.1) s w)->(∀ p∈rem.map (·.1),listed.getD p true=true->∀ o,ops[p]?=some o->∀ e∈o.after.toList,Region.binds .any e=true->listed.getD e.on true=true)->WY listed rem=k->wpAny P .any ops Q (k+n) listed (Zk a0 rem u) w by
  obtain⟨u,hu⟩:=Qb a0 rem hn;have hopen:WY listed0 rem=rem.length:=by
   unfold WY;rw[List.filter_eq_self.2];intro p hp;simp[(hmem p.1 (List.mem_map.2 ⟨p,hp,rfl⟩)).1]
  have h:=H rem.length listed0 u s0 w0 hsz hR (fun i hi hni=>rfl) (fun p hp hl _=>by
   have:=(hmem p.1 (List.mem_map.2 ⟨p,hp,rfl⟩)).1;rw[this] at hl
   cases hl) (fun p hp hl=>by
   rw[(hmem p hp).1] at hl
   cases hl) hopen
  rwa [hu] at h
 intro k
 induction k with
 | zero =>
  intro listed u s w hs hRw hout hV hcl hopen;have hall':∀ p∈rem,listed.getD p.1 true=true:=by
   intro p hp;simp only[WY,List.length_eq_zero_iff,List.filter_eq_nil_iff,Bool.not_eq_true',Bool.not_eq_false] at hopen;exact hopen p hp
  have hl:listed=listed1:=by
   apply Array.ext
   ·rw[hs,hsz1]
   ·intro i h1 h2
    have:listed.getD i true=listed1.getD i true:=by
     by_cases hr:i∈rem.map (·.1)
     ·rw[hone i hr]
      obtain⟨p,hp,rfl⟩:=List.mem_map.1 hr;exact hall' p hp
     ·rw[hout i (by omega) hr,(hrest i (by omega) hr).1]
    simpa [Array.getD,h1,h2] using this
  rw[hl,Nat.zero_add];exact done u s w hRw (fun p hp hk=>hV p hp (hall' p hp) (fun k h=>by rw[hk] at h;cases h))
 | succ k ih =>
  intro listed u s w hs hRw hout hV hcl hopen;rw[Nat.add_right_comm];have hsome:∃ p∈rem,listed.getD p.1 true=false:=by
   have:(rem.filter fun p => !listed.getD p.1 true)≠[]:=by
    intro h;simp only[WY,h,List.length_nil] at hopen;omega
   obtain⟨p,hp⟩:=List.exists_mem_of_ne_nil _ this;obtain⟨h1,h2⟩:=List.mem_filter.1 hp;exact⟨p,h1,by simpa using h2⟩
  have hno:∀ i,i∈Region.ready .any ops listed->i∈rem.map (·.1):=by
   intro i hi;obtain⟨hi1,hi2⟩:=List.mem_filter.1 hi;have hilt:=List.mem_range.1 hi1;simp only[Bool.and_eq_true] at hi2;have hil:listed.getD i true=false:=by simpa using hi2.1
   by_cases hr:i∈rem.map (·.1)
   ·exact hr
   ·exfalso
    obtain⟨h1,h2⟩:=hrest i hilt hr;rw[hout i hilt hr] at hil;rcases h2 with(h2 | h2) | h2
    ·rw[h2] at hil;cases hil
    rotate_left
    ·obtain⟨o,ho,e,he,hb,hsz2,hl0,hnr⟩:=h2
     have h3:=hi2.2;rw[ho] at h3;simp only[Option.map_some,Option.getD_some,Array.all_eq_true_iff_forall_mem] at h3;have:=h3 e (by simpa using he);rw[hb] at this;simp only[Bool.not_true,Bool.false_or] at this;have hlt:e.on<listed.size:=by rw[hs];exact hsz2
     have e1:listed.getD e.on false=listed.getD e.on true:=by simp only[Array.getD,hlt,dif_pos]
     rw[e1,hout e.on hsz2 hnr,hl0] at this
     cases this
    ·obtain⟨p,hp,hpl⟩:=hsome
     have:=Wy hcl _ i (VO hi2.2) p.1 (h2 p hp);rw[hpl] at this
     cases this
  constructor
  ·intro hnil
   exfalso
   have key:∀ i,i<ops.size->i∈rem.map (·.1)->listed.getD i true=true:=by
    intro i
    induction i using Nat.strongRecOn with
    | _ i ihi =>
     intro hi hr;obtain⟨p,hp,rfl⟩:=List.mem_map.1 hr;have h1:=hall p hp
     cases hl:listed.getD p.1 true with
     | true=>rfl
     | false =>
      exfalso
      have hready:p.1∈Region.ready .any ops listed:=by
       refine List.mem_filter.2 ⟨List.mem_range.2 hi,?_⟩;rw[Array.getElem?_eq_getElem hi] at h1 ⊢;simp only[Bool.and_eq_true,beq_iff_eq] at h1;simp only[hl,Bool.not_false,Option.map_some,Option.getD_some,Bool.true_and];rw[Array.all_eq_true_iff_forall_mem] at h1 ⊢;intro e he;have:=h1.2 e he
       cases hb:Region.binds .any e with
       | false=>rfl
       | true =>
        rw[hb] at this;simp only[Bool.not_true,Bool.false_or,Bool.and_eq_true,decide_eq_true_eq,Bool.or_eq_true] at this;have hlt:e.on<listed.size:=by rw[hs];omega
        have hh:listed.getD e.on true=true:=by
         rcases this.2 with h | h
         ·exact ihi e.on this.1 (by omega) (by simpa using h)
         ·by_cases hr':e.on∈rem.map (·.1)
          ·exact ihi e.on this.1 (by omega) hr'
          ·rw[hout e.on (by omega) hr'];exact h
        simp only[Array.getD,hlt,dif_pos] at hh ⊢
        simpa using hh
      rw[hnil] at hready
      cases hready
   obtain⟨p,hp,hpl⟩:=hsome;have:=key p.1 (hmem p.1 (List.mem_map.2 ⟨p,hp,rfl⟩)).2 (List.mem_map.2 ⟨p,hp,rfl⟩);rw[this] at hpl
   cases hpl
  ·intro i hi
   have hir:=hno i hi;obtain⟨hi1,hi2⟩:=List.mem_filter.1 hi;have hilt:=List.mem_range.1 hi1;simp only[Bool.and_eq_true] at hi2;have hil:listed.getD i true=false:=by simpa using hi2.1
   obtain⟨p,hp,rfl⟩:=List.mem_map.1 hir;refine step p hp u s w hRw ?_ _ ?_
   ·intro j hj
    rw[Xx,Array.getElem?_eq_getElem hilt] at hj;obtain⟨e,he,rfl⟩:=List.mem_map.1 hj;obtain⟨he1,he2⟩:=List.mem_filter.1 he;simp only[Bool.and_eq_true] at he2;have hjr:e.on∈rem.map (·.1):=by simpa using he2.2
    obtain⟨q,hq,hqe⟩:=List.mem_map.1 hjr;have hjd:e.on∈Xx ops rem p.1:=by
     rw[Xx,Array.getElem?_eq_getElem hilt];exact List.mem_map.2 ⟨e,he,rfl⟩
    have hkj:∀ k∈kill q.1,listed.getD k true=false:=by
     intro k hk;rw[hqe] at hk;have h9:=List.all_eq_true.1 (List.all_eq_true.1 (List.all_eq_true.1 hkill p hp) e.on hjd) k hk;obtain rfl:k=p.1:=by simpa using h9
     exact hil
    rw[<-hqe];refine hV q hq ?_ hkj;have h3:=hi2.2;rw[Array.getElem?_eq_getElem hilt] at h3;simp only[Option.map_some,Option.getD_some,Array.all_eq_true_iff_forall_mem] at h3;have:=h3 e (by simpa using he1);rw[he2.1] at this;simp only[Bool.not_true,Bool.false_or] at this;rw[hqe];have hlt:e.on<listed.size:=by rw[hs,<-hqe];exact(hmem q.1 (List.mem_map.2 ⟨q,hq,rfl⟩)).2
    simp only[Array.getD,hlt,dif_pos] at this ⊢
    simpa using this
   ·intro v s' w' hv hR' hst
    have hpp:(p.1,p.2)∈rem:=hp;rw[Qw a0 p.1 p.2 u v rem hn hdn hpp];have hset:∀ j,(listed.setIfInBounds p.1 true).getD j true=if j=p.1 then true else listed.getD j true:=by
     intro j;simp only[Array.getD_eq_getD_getElem?,Array.getElem?_setIfInBounds]
     by_cases hj:p.1=j
     ·subst hj
      simp;split<;>simp
     ·rw[if_neg hj,if_neg (Ne.symm hj)]
    refine ih _ _ _ _ (by simpa using hs) hR' ?_ ?_ ?_ ?_
    ·intro j hj hjr
     have hjp:¬j=p.1:=fun e=>hjr (by rw[e];exact List.mem_map.2 ⟨p,hp,rfl⟩)
     rw[hset,if_neg hjp];exact hout j hj hjr
    ·intro q hq hql hkq
     rw[hset] at hql
     by_cases he:q.1=p.1
     ·rw[he]
      simpa [upd] using hv
     ·rw[if_neg he] at hql
      simp only[upd,if_neg he];have hk1:∀ k∈kill q.1,k≠p.1/\listed.getD k true=false:=by
       intro k hk;have h9:=hkq k hk;rw[hset] at h9
       by_cases hkp:k=p.1
       ·rw[if_pos hkp] at h9;cases h9
       ·rw[if_neg hkp] at h9;exact⟨hkp,h9⟩
      refine stab p.1 q.1 _ _ _ _ _ ?_ (hV q hq hql fun k hk=>(hk1 k hk).2) hst;unfold Zee;simp only[Bool.and_eq_true,decide_eq_true_eq,Bool.not_eq_true'];refine⟨⟨⟨Ne.symm he,?_⟩,List.all_eq_true.2 fun k hk=>?_⟩,?_⟩
      ·cases hc:(kill q.1).contains p.1 with
       | false=>rfl
       | true=>exact absurd rfl (hk1 p.1 (by simpa using hc)).1
      ·cases hc:Wx ops (rem.map (·.1)) (rem.length+1) p.1 k with
       | false=>rfl
       | true =>
        have h5:=Wy hcl _ p.1 (VO hi2.2) k hc;rw[(hk1 k hk).2] at h5
        cases h5
      ·cases hc:Wx ops (rem.map (·.1)) (rem.length+1) q.1 p.1 with
       | false=>rfl
       | true =>
        have h5:=Wy hcl _ q.1 (hcl q.1 (List.mem_map.2 ⟨q,hq,rfl⟩) hql) p.1 hc;rw[hil] at h5
        cases h5
    ·intro q hq hql o ho e he hb
     rw[hset];split
     ·rfl
     ·rw[hset] at hql
      by_cases hqp:q=p.1
      ·subst hqp
       exact VO hi2.2 o ho e he hb
      ·rw[if_neg hqp] at hql
       exact hcl q hq hql o ho e he hb
    ·have hlt:WY (listed.setIfInBounds p.1 true) rem+1=WY listed rem:=by
      unfold WY;have h1:∀ (qs:List (Nat×Option Tmp)),(qs.map (·.1)).Nodup->p∈qs->(qs.filter fun q => !(listed.setIfInBounds p.1 true).getD q.1 true).length+1=(qs.filter fun q => !listed.getD q.1 true).length:=by
       intro qs hqn hpq;have heq:∀ (rs:List (Nat×Option Tmp)),p.1∉rs.map (·.1)->(rs.filter fun q => !(listed.setIfInBounds p.1 true).getD q.1 true)=(rs.filter fun q => !listed.getD q.1 true):=by
        intro rs hrs;refine List.filter_congr fun q hq=>?_
        have hne:q.1≠p.1:=fun e=>hrs (e ▸ List.mem_map.2 ⟨q,hq,rfl⟩)
        rw[hset,if_neg hne]
       induction qs with
       | nil=>cases hpq
       | cons r rs ihr =>
        rcases List.mem_cons.1 hpq with rfl | hpq'
        ·have:=heq rs (List.nodup_cons.1 hqn).1
         rw[List.filter_cons,List.filter_cons,this,hset,if_pos rfl,hil];simp
        ·have ih2:=ihr (List.nodup_cons.1 hqn).2 hpq'
         have hne:r.1≠p.1:=by
          intro e;exact(List.nodup_cons.1 hqn).1 (List.mem_map.2 ⟨p,hpq',e.symm⟩)
         rw[List.filter_cons,List.filter_cons,hset,if_neg hne];split<;>(try simp only[List.length_cons])<;>omega
      exact h1 rem hn hp
     omega
theorem WC (rem:List (Nat×Option Tmp))(R:World->Prop)(V:Nat->Value->World->Prop)(Stab:World->World->Prop){listed0:Array Bool}(listed1:Array Bool)(hok:Wz ops listed0 listed1 rem=true)
  (stab:∀ j v w w',V j v w->Stab w w'->V j v w')
  {a0:Act}
  (step:∀ p∈rem,∀ u w,R w->(∀ j∈Xx ops rem p.1,V j (u j) w)->∀ K:Act->World->Prop,(∀ v w',V p.1 v w'->R w'->Stab w w'->K ((Zk a0 rem u).put p.2 v) w')->wpOp P ops Q p.1 K (Zk a0 rem u) w)
  (n:Nat) (done:∀ u w,R w->(∀ p∈rem,V p.1 (u p.1) w)->wpAny P .any ops Q n listed1 (Zk a0 rem u) w) {w0:World} (hR:R w0) :
  wpAny P .any ops Q (rem.length+n) listed0 a0 w0 :=
 Qc (σ:=Unit) rem (fun _=>[]) (fun _=>R) (fun j v _=>V j v) (fun _ _ w _ w'=>Stab w w') listed1 hok (by simp[ZbE]) (fun _ j v _ w _ w' _=>stab j v w w') (fun p hp u _ w hR hd K hK=>step p hp u w hR hd K fun v w'=>hK v () w') n (fun u _ w hR h=>done u w hR fun p hp=>h p hp rfl) (s0:=()) hR
end
section
variable {P:Program} {ops:Array Oper} {Q:Exit->Act->World->Prop}
theorem YJ (rem:List (Nat×Option Tmp))(f:Nat->Value){listed0:Array Bool}(listed1:Array Bool)(hok:Wz ops listed0 listed1 rem=true){a0:Act}{w:World}{n:Nat}
  (step:∀ p∈rem,∀ u:Nat->Value,(∀ j∈Xx ops rem p.1,u j=f j)->∀ K:Act->World->Prop,K ((Zk a0 rem u).put p.2 (f p.1)) w->wpOp P ops Q p.1 K (Zk a0 rem u) w)
  (done:wpAny P .any ops Q n listed1 (Zk a0 rem f) w):wpAny P .any ops Q (rem.length+n) listed0 a0 w:=by
 refine WC rem (fun w'=>w'=w) (fun i v _=>v=f i) (fun _ _=>True) listed1 hok (fun _ _ _ _ h _=>h) ?_ n ?_ rfl
 ·rintro p hp u w' rfl hD K hK
  exact step p hp u hD K (hK _ _ rfl rfl trivial)
 ·rintro u w' rfl hV
  have:∀ qs:List (Nat×Option Tmp),(∀ p∈qs,u p.1=f p.1)->Zk a0 qs u=Zk a0 qs f:=by
   intro qs
   induction qs with
   | nil=>intro _;rfl
   | cons q qs ih =>
    intro h;simp only[Zk,ih (fun p hp=>h p (List.mem_cons_of_mem _ hp)),h q List.mem_cons_self]
  rw[this rem hV];exact done
end
section
variable {P:Program} {ops:Array Oper} {o:Oper} {a:Act} {w w':World} {K:Act->World->Prop} {Q:Exit->Act->World->Prop} {E:Prop}
end
end Go.Proofs.YtmojhhlcocjoaaaGreatDoor
namespace Go.Proofs.YtmojhhlcocjoaaaGreatDoor
open Go.RowKit
def VF (f:Nat->Option Value)(g:Nat->Value->World->Prop)(i:Nat)(v:Value)(w:World) : Prop:=match f i with
 | some c=>v=c
 | none=>g i v w
theorem VF.stab {f:Nat->Option Value}{g:Nat->Value->World->Prop}{Stab:World->World->Prop}(h:∀ j v w w',f j=none->g j v w->Stab w w'->g j v w')(j:Nat)(v:Value)(w w':World)(hv:VF f g j v w)(hs:Stab w w') : VF f g j v w':=by
 unfold VF at *
 cases hf:f j with
 | some c=>rw[hf] at hv;exact hv
 | none=>rw[hf] at hv;exact h j v w w' hf hv hs
theorem VF.k {f:Nat->Option Value}{g:Nat->Value->World->Prop}{i:Nat}{v c:Value}{w:World}(h:VF f g i v w)(hf:f i=some c) : v=c:=by unfold VF at h;rw[hf] at h;exact h
theorem VF.g {f:Nat->Option Value}{g:Nat->Value->World->Prop}{i:Nat}{v:Value}{w:World}(h:VF f g i v w)(hf:f i=none) : g i v w:=by unfold VF at h;rw[hf] at h;exact h
theorem VF.mk {f:Nat->Option Value}{g:Nat->Value->World->Prop}{i:Nat}{c:Value}{w:World}(hf:f i=some c) : VF f g i c w:=by unfold VF;rw[hf]
theorem VF.mg {f:Nat->Option Value}{g:Nat->Value->World->Prop}{i:Nat}{v:Value}{w:World}(hf:f i=none)(h:g i v w) : VF f g i v w:=by unfold VF;rw[hf];exact h
def WX (ops:Array Oper)(i:Nat) : Option (Option (Nat×Bool)×Op×TypeId×Option Tmp):=(ops[i]?).map fun o=>(o.guard,o.op,o.type,o.dst)
def Zd (ρ:Operand->Value)(op:Op)(t:TypeId) : Sem Next:=execOp ρ { dst:=none,op:=op,type:=t,pos := "",after:=#[],guard:=none }
theorem Zef (ρ:Operand->Value)(o:Oper) : execOp ρ o=Zd ρ o.op o.type:=rfl
section
variable {P:Program} {ops:Array Oper} {i:Nat} {op:Op} {t:TypeId} {d:Option Tmp} {a:Act} {w w':World} {K:Act->World->Prop} {Q:Exit->Act->World->Prop}
theorem ZbF (hi:WX ops i=some (none,op,t,d))(h:∀ o:Oper,o.op=op->o.type=t->o.dst=d->o.upon P a K Q ((Zd a.eval op t).run P w)) : wpOp P ops Q i K a w:=by
 unfold WX at hi;obtain⟨o,ho,he⟩:=Option.map_eq_some_iff.1 hi;simp only[Prod.mk.injEq] at he;obtain⟨h1,h2,h3,h4⟩:=he;unfold wpOp;simp only[ho];rw[if_pos (by simp[Region.wanted,h1])];refine .inl ?_;rw[Oper.wp,Zef,h2,h3];exact h o h2 h3 h4
theorem ZM (hi:WX ops i=some (none,op,t,d))(v:Value)(hrun:(Zd a.eval op t).run P w=.ok (.value v) w')(hK:K (a.put d v) w') : wpOp P ops Q i K a w :=
 ZbF hi fun o _ _ hd=>by rw[hrun,Oper.upon_value,hd];exact hK
theorem Zfi (hi:WX ops i=some (none,op,t,d))(hrun:(Zd a.eval op t).run P w=.ok .skip w')(hK:K (a.put d undef) w') : wpOp P ops Q i K a w :=
 ZbF hi fun o _ _ hd=>by rw[hrun,Oper.upon_skip,hd];exact hK
theorem Zp {T:TypeId}{x:Operand}(hi:WX ops i=some (none,.load T x,t,d))(p:Value)(hx:a.eval x=p)(v:Value)(hrun:(Instr.loadAt T p).run P w=.ok v w)(hK:K (a.put d v) w) : wpOp P ops Q i K a w :=
 ZM hi v (by simp[Zd,execOp,hx,hrun]) hK
theorem Z2 {T:TypeId}{x y:Operand}(hi:WX ops i=some (none,.indexAddr T x y,t,d))(p q:Value)(hx:a.eval x=p)(hy:a.eval y=q)(v:Value)(hrun:(Instr.indexAt T p q).run P w=.ok v w)(hK:K (a.put d v) w) : wpOp P ops Q i K a w :=
 ZM hi v (by simp[Zd,execOp,hx,hy,hrun]) hK
theorem ZbG {T:TypeId}{x:Operand}(hi:WX ops i=some (none,.buildSlice T 1 #[(0,x)],t,d))(p:Value)(hx:a.eval x=p)(v:Value)(hrun:(Instr.buildSlice T 1 #[(0,p)]).run P w=.ok v w')(hK:K (a.put d v) w') : wpOp P ops Q i K a w :=
 ZM hi v (by simp[Zd,execOp,hx,hrun]) hK
theorem Yl {T:TypeId}{x y:Operand}(hi:WX ops i=some (none,.store T x y,t,d))(p v:Value)(hx:a.eval x=p)(hy:a.eval y=v)(hrun:(Instr.storeAt T p v).run P w=.ok () w')(hK:K (a.put d undef) w') : wpOp P ops Q i K a w :=
 Zfi hi (by simp[Zd,execOp,hx,hy,hrun]) hK
theorem Zac {s x:Operand}{t1 t2:TypeId}(hi:WX ops i=some (none,.call { callee:=.builtin .append,args:=#[s,x],argTypes:=#[t1,t2] },t,d))(p q:Value)(hs:a.eval s=p)(hx:a.eval x=q)(v:Value)(hrun:(Builtin.append_ #[t1,t2] t #[p,q]).run P w=.ok v w')(hK:K (a.put d v) w') : wpOp P ops Q i K a w :=
 ZM hi v (by simp[Zd,execOp,resolve,invoke,builtin,Sem.run_bind,Sem.run_pure,Result.andThen_ok,hs,hx,hrun]) hK
theorem Ym {f:Nat}{xs:Array Operand}{ts:Array TypeId}(hi:WX ops i=some (none,.call { callee:=.value (.func f),args:=xs,argTypes:=ts },t,d))(args:Array Value)(hf:(callFunc f args).run P w=.ok (.enter f args) w)(hargs:xs.map a.eval=args)(R:Ending->World->Prop)(hc:Calls P f args w R)(hK:∀ e w',R e w'->∃ v,e=.returned v/\K (a.put d v) w') : wpOp P ops Q i K a w :=
 ZbF hi fun o _ _ hd=>by
  have e1:(Zd a.eval (.call { callee:=.value (.func f),args:=xs,argTypes:=ts }) t).run P w=.ok (.enter f args) w:=by
   simp[Zd,execOp,resolve,invoke,Sem.run_bind,Sem.run_pure,Result.andThen_ok,hargs,Deferred.ofValue,Act.eval,hf]
  rw[e1,Oper.upon_enter];refine hc.mono fun e w1 he=>?_
  obtain⟨v,rfl,hk⟩:=hK e w1 he;rw[hd];exact hk
theorem Za {md:Region.Mode}{listed:Array Bool}{n:Nat}{v:Value}(hi:WX ops i=some (none,op,t,d))(hs:Region.noSelect ops=true)(hf:Region.free md ops listed i=true)(hr:(Region.ready md ops listed).contains i=true)
  (hQ:∀ c a w,Q (.panic c) (a.put d v) w->Q (.panic c) a w) (hy:∀ u,(Zd a.eval op t).run P u=.ok (.value v) u) (h:wpAny P md ops Q n (listed.setIfInBounds i true) (a.put d v) w):wpAny P md ops Q (n+1) listed a w:=by
 unfold WX at hi;obtain⟨o,ho,he⟩:=Option.map_eq_some_iff.1 hi;simp only[Prod.mk.injEq] at he;obtain⟨h1,rfl,rfl,rfl⟩:=he;exact wpAny_take ho hs hf hr hQ (.inl ⟨by simp[Region.wanted,h1],hy⟩) h
theorem lay : (∀ (a:Act) (d:Option Nat) (v:Value),a.put d v=(match d with | some d=>{ a with tmps:=a.tmps.setIfInBounds d v } | none=>a))/\(∀ (l:List Value) (i:Nat) (v:Value),l.toArray.setIfInBounds i v=(l.set i v).toArray)/\(∀ (x:Value) (l:List Value) (v:Value),(x::l).set 0 v=v::l)/\(∀ (x:Value) (l:List Value) (i:Nat) (v:Value),(x::l).set (i+1) v=x::l.set i v):=⟨fun _ d _=>by cases d<;>rfl,fun _ _ _=>by simp,fun _ _ _=>rfl,fun _ _ _ _=>rfl⟩
theorem XC {md:Region.Mode}{listed:Array Bool}{n:Nat}{g:Nat×Bool}{b:Bool}(hi:WX ops i=some (some g,op,t,d))(hs:Region.noSelect ops=true)(hf:Region.free md ops listed i=true)(hr:(Region.ready md ops listed).contains i=true)
  (hQ:∀ c a w,Q (.panic c) (a.put d undef) w->Q (.panic c) a w) (hg:yielded ops a.tmps g.1=some b) (hb:(b != g.2)=true) (h:wpAny P md ops Q n (listed.setIfInBounds i true) (a.put d undef) w):wpAny P md ops Q (n+1) listed a w:=by
 unfold WX at hi;obtain⟨o,ho,he⟩:=Option.map_eq_some_iff.1 hi;simp only[Prod.mk.injEq] at he;obtain⟨h1,rfl,rfl,rfl⟩:=he;refine wpAny_take ho hs hf hr hQ (.inr ⟨?_,rfl⟩) h;obtain⟨g1,g2⟩:=g;simp only at hg hb
 cases b<;>cases g2<;>simp_all[Region.wanted]
theorem Zi {md:Region.Mode}{listed:Array Bool}{n:Nat}(i:Nat)(h1:Region.ready md ops listed=[i])(h:wpOp P ops Q i (wpAny P md ops Q n (listed.setIfInBounds i true)) a w) : wpAny P md ops Q (n+1) listed a w :=
 ⟨fun h0=>absurd (h1.symm.trans h0) (by simp),fun j hj=>by
  rw[h1] at hj;obtain rfl:j=i:=by simpa using hj
  exact h⟩
end
theorem RdI.drop {w:World}{A:Option Addr}{xs:List Int}{c lo:Nat}(h:RdI w A xs)(h1:lo<=xs.length)(h2:xs.length<=c) : RdI w (if c=lo then A else A.map (·.add (lo*1))) (xs.drop lo):=by
 by_cases hc:c=lo
 ·left
  exact List.drop_of_length_le (by omega)
 ·rw[if_neg hc]
  rcases h with rfl | ⟨b,off,rfl,hb,hcc⟩
  ·left;simp
  ·refine .inr ⟨b,off+lo,by simp[Addr.add],hb,fun j x hj=>?_⟩
   rw[List.getElem?_drop] at hj;have:=hcc (lo+j) x hj
   rwa [<-Nat.add_assoc] at this
theorem Ints.drop {xs:List Int}(h:Ints xs)(n:Nat) : Ints (xs.drop n):=fun x hx=>h x (List.mem_of_mem_drop hx)
end Go.Proofs.YtmojhhlcocjoaaaGreatDoor
namespace Go.Proofs.YtmojhhlcocjoaaaGreatDoor
open Go.RowKit Go.ChangeShapes Go.WideShapes Go.ChangeAt Go.Deep
structure InstP where
 kind:Int
 n:Int
 cap:Int
 weight:List Int
 value:List Int
 cost:List (List Int)
def RInst (w:World)(vs:List Value)(i:InstP) : Prop:=∃ (A:Option Addr) (a:Nat) (B:Option Addr) (b:Nat) (C:Option Addr) (c:Nat),
 vs=[.int .i64 i.kind,.int .i64 i.n,.int .i64 i.cap,.slice A i.weight.length a,.slice B i.value.length b,.slice C i.cost.length c] /\
 (RdI w A i.weight/\Ints i.weight/\i.weight.length<=a/\a<=maxLen)/\(RdI w B i.value/\Ints i.value/\i.value.length<=b/\b<=maxLen)/\(RdE 1 RInts w C i.cost/\i.cost.length<=c/\c<=maxLen)
theorem RInst.ext {w w':World}{vs:List Value}{i:InstP}(h:RInst w vs i)(x:Ext w w') : RInst w' vs i:=by
 obtain⟨A,a,B,b,C,c,rfl,⟨h1,h2⟩,⟨h3,h4⟩,⟨h5,h6⟩⟩:=h;exact⟨A,a,B,b,C,c,rfl,⟨h1.ext x,h2⟩,⟨h3.ext x,h4⟩,⟨h5.ext x fun _ _ h=>h.ext x,h6⟩⟩
def Zeg (i:InstP) : Prop:=(-9223372036854775808<=i.kind/\i.kind<=9223372036854775807)/\(-9223372036854775808<=i.n/\i.n<=9223372036854775807)/\(-9223372036854775808<=i.cap/\i.cap<=9223372036854775807)
section
variable {H:Type} {enc:TypeId×Value->H} {W:World}
theorem ZbH : Tryz.prog.cellsOf 25=6:=by kernel_rfl
theorem Zeh : Tryz.prog.cellsOf 22=1:=by kernel_rfl
theorem ZcZ : Tryz.prog.cellsOf 23=1:=by kernel_rfl
end
end Go.Proofs.YtmojhhlcocjoaaaGreatDoor
namespace Go.Proofs.YtmojhhlcocjoaaaGreatDoor
open Go.RowKit
section
variable {P:Program} {ops:Array Oper} {Q:Exit->Act->World->Prop}
theorem Z3 (rem:List (Nat×Option Tmp))(R:World->Prop)(V:Nat->Value->World->Prop)(Stab:World->World->Prop){listed0:Array Bool}(listed1:Array Bool)(hok:Wz ops listed0 listed1 rem=true)
  (stab:∀ j v w w',V j v w->Stab w w'->V j v w')
  {a0:Act}
  (step:∀ p∈rem,∀ u w,R w->(∀ j∈Xx ops rem p.1,V j (u j) w)->∀ K:Act->World->Prop,(∀ v w',V p.1 v w'->R w'->Stab w w'->K ((Zk a0 rem u).put p.2 v) w')->wpOp P ops Q p.1 K (Zk a0 rem u) w)
  (n:Nat) (done:∀ u w,R w->(∀ p∈rem,V p.1 (u p.1) w)->wpAny P .any ops Q n listed1 (Zk a0 rem u) w) {w0:World} (hR:R w0) :
  wpAny P .any ops Q (rem.length+n) listed0 a0 w0 :=
 WC rem R V Stab listed1 hok stab step n done hR
end
end Go.Proofs.YtmojhhlcocjoaaaGreatDoor
namespace Go.Proofs.YtmojhhlcocjoaaaGreatDoor
open Go.RowKit Go.ChangeShapes Go.WideShapes Go.ChangeAt Go.Deep
def RowsO (w:World)(base:Nat)(us:List Value)(rows:List (List Int)) : Prop :=
 us.length=rows.length/\∀ (i:Nat) (r:List Int),rows[i]?=some r->∃ (A:Option Addr) (c:Nat),us[i]?=some (.slice A r.length c)/\OwI w base A c r
section
variable {w w':World} {base:Nat} {us:List Value} {rows:List (List Int)}
theorem RowsO.nil (w:World)(base:Nat) : RowsO w base [] []:=⟨rfl,fun i r h=>by simp at h⟩
theorem RowsO.ext (h:RowsO w base us rows)(hx:Ext w w') : RowsO w' base us rows :=
 ⟨h.1,fun i r hr=>by obtain⟨A,c,h1,h3⟩:=h.2 i r hr;exact⟨A,c,h1,h3.ext hx⟩⟩
theorem RowsO.more {base':Nat}(h:RowsO w base us rows)(hb:base'<=base) : RowsO w base' us rows :=
 ⟨h.1,fun i r hr=>by obtain⟨A,c,h1,h3⟩:=h.2 i r hr;exact⟨A,c,h1,h3.more hb⟩⟩
theorem RowsO.modT {base':Nat}{ts:List TypeId}(h:RowsO w base us rows)(k:ModT base' ts w w')(ht:3∉ts) : RowsO w' base us rows :=
 ⟨h.1,fun i r hr=>by obtain⟨A,c,h1,h3⟩:=h.2 i r hr;exact⟨A,c,h1,h3.modT k ht⟩⟩
theorem RowsO.snoc (h:RowsO w base us rows){r:List Int}{A:Option Addr}{c:Nat}(ho:OwI w base A c r) : RowsO w base (us++[.slice A r.length c]) (rows++[r]):=by
 obtain⟨h1,h2⟩:=h;refine⟨by simp[h1],fun i q hq=>?_⟩
 by_cases hi:i<rows.length
 ·rw[List.getElem?_append_left hi] at hq
  obtain⟨A',c',q1,q3⟩:=h2 i q hq;exact⟨A',c',by rw[List.getElem?_append_left (by omega)];exact q1,q3⟩
 ·rw[List.getElem?_append_right (by omega)] at hq
  obtain⟨h0,hq⟩:=List.getElem?_eq_some_iff.1 hq;have:i=rows.length:=by simp at h0;omega
  subst this;simp at hq;subst hq;exact⟨A,c,by rw[List.getElem?_append_right (by omega),h1];simp,ho⟩
end
def RowsD (us:List Value) : Prop:=∀ (i j:Nat) (vi vj:Value),i<j->us[i]?=some vi->us[j]?=some vj->∀ b,vi.ownBlock=some b->vj.ownBlock≠some b
theorem RowsD.nil : RowsD []:=fun i j vi vj _ h=>by simp at h
theorem RowsD.snoc {w W:World}{base:Nat}{us:List Value}{rows:List (List Int)}{A:Option Addr}{c:Nat}{r:List Int}(h:RowsD us)(hR:RowsO w base us rows)(ho:OwI W w.heap.size A c r) : RowsD (us++[.slice A r.length c]):=by
 intro i j vi vj hij hi hj b hb e
 by_cases hjl:j<us.length
 ·rw[List.getElem?_append_left hjl] at hj
  rw[List.getElem?_append_left (by omega)] at hi;exact h i j vi vj hij hi hj b hb e
 ·rw[List.getElem?_append_right (by omega)] at hj
  obtain⟨h0,hj⟩:=List.getElem?_eq_some_iff.1 hj;have hj':j=us.length:=by simp at h0;omega
  subst hj';simp at hj;subst hj;rw[List.getElem?_append_left hij] at hi;obtain⟨r',hr'⟩:∃ r',rows[i]?=some r':=⟨rows[i]'(by rw[<-hR.1];exact hij),List.getElem?_eq_getElem _⟩;obtain⟨A',c',q1,q2⟩:=hR.2 i r' hr';rw[hi] at q1;obtain rfl:=Option.some.inj q1;rw[Xm] at hb e;have h1:=(q2.lt b hb).2;have h2:=(ho.lt b e).1;omega
theorem OwV.grownT {w w':World}{base size n c:Nat}{E:TypeId}{A:Option Addr}{xs:List Value}(h:OwV w base E size A n c xs)(hg:w.grownBy w' (bl A)) : ModT base [E] w w':=by
 refine Mod.grown hg fun g hA=>?_
 rcases h.cases with⟨rfl,_⟩ | ⟨g',cur,rfl,hb,hh,_⟩
 ·simp[bl] at hA
 ·simp[bl] at hA
  subst hA;exact⟨hb,cur,_,hh,by simp⟩
theorem Zh {W W':World}(x:Ext W W'){b o:Nat}{v:Value}(hb:b<W.heap.size)(hc:W.cell? ⟨b,o,none⟩=some v) : W'.cell? ⟨b,o,none⟩=some v:=(x.cells.1 _ o hb).trans hc
def InstO (w:World)(base:Nat)(vs:List Value)(i:InstP) : Prop:=∃ (A:Option Addr) (a:Nat) (B:Option Addr) (b:Nat) (C:Option Addr) (c:Nat) (us:List Value),
 vs=[.int .i64 i.kind,.int .i64 i.n,.int .i64 i.cap,.slice A i.weight.length a,.slice B i.value.length b,.slice C i.cost.length c] /\
 OwI w base A a i.weight/\OwI w base B b i.value/\OwV w base 22 1 C i.cost.length c us/\RowsO w base us i.cost
section
variable {P:Program} {ops:Array Oper} {i:Nat} {op:Op} {t:TypeId} {d:Option Tmp} {a:Act} {w w':World} {K:Act->World->Prop} {Q:Exit->Act->World->Prop}
end
theorem ZfU {w:World}{g base:Nat}{t:TypeId}{a0 a1 a2 a3 a4 a5:Value}(h:Blk w g t #[a0,a1,a2,a3,a4,a5])(hb:base<=g)(u0 u1 u2 u3 u4 u5:Value) :
  Blk ((((((w.setCell ⟨g,0,none⟩ u0).setCell ⟨g,1,none⟩ u1).setCell ⟨g,2,none⟩ u2).setCell ⟨g,3,none⟩ u3).setCell ⟨g,4,none⟩ u4).setCell ⟨g,5,none⟩ u5) g t #[u0,u1,u2,u3,u4,u5] /\
  ModT base [t] w ((((((w.setCell ⟨g,0,none⟩ u0).setCell ⟨g,1,none⟩ u1).setCell ⟨g,2,none⟩ u2).setCell ⟨g,3,none⟩ u3).setCell ⟨g,4,none⟩ u4).setCell ⟨g,5,none⟩ u5):=by
 have h0:=h.set 0 u0;have h1:=h0.set 1 u1;have h2:=h1.set 2 u2;have h3:=h2.set 3 u3;have h4:=h3.set 4 u4;have h5:=h4.set 5 u5;exact⟨h5,(((((ModT.set w h (by simp) hb 0 u0).tr (ModT.set _ h0 (by simp) hb 1 u1)).tr (ModT.set _ h1 (by simp) hb 2 u2)).tr (ModT.set _ h2 (by simp) hb 3 u3)).tr (ModT.set _ h3 (by simp) hb 4 u4)).tr (ModT.set _ h4 (by simp) hb 5 u5)⟩
theorem Qy : (Tryz.prog.info? 22).map (fun i=>(i.zero,i.size,i.bytes))=some (some (.slice none 0 0),1,24):=by kernel_rfl
end Go.Proofs.YtmojhhlcocjoaaaGreatDoor
namespace Go.Proofs.YtmojhhlcocjoaaaGreatDoor
open Go.RowKit Go.ChangeShapes Go.WideShapes Go.ChangeAt Go.Deep
def XL (n:Int) : Int:=if n<0 then 1 else if 2147483647<n then 5 else 0
theorem Xn (n:Int)(w:World) : Calls Tryz.prog 122 #[.int .i64 n] w fun e w'=>e=.returned (.int .i64 (XL n))/\Ext w w':=by
 unfold XL
 by_cases h1:n<0
 ·rw[if_pos h1]
  go_enter Tryz.func122,Tryz.ntmps122;go_wp2_with (fail);exact bodyPost_ret (v:=.int .i64 1) (by simp[results,Tryz.results122,go_sem]) rfl ⟨rfl,by(repeat (first | assumption | exact Ext.rf _ | apply Ext.drew | apply Ext.drewN | apply Ext.alloc))⟩
 ·rw[if_neg h1]
  by_cases h2:2147483647<n
  ·rw[if_pos h2]
   go_enter Tryz.func122,Tryz.ntmps122;go_wp2_with (fail);exact bodyPost_ret (v:=.int .i64 5) (by simp[results,Tryz.results122,go_sem]) rfl ⟨rfl,by(repeat (first | assumption | exact Ext.rf _ | apply Ext.drew | apply Ext.drewN | apply Ext.alloc))⟩
  ·rw[if_neg h2]
   go_enter Tryz.func122,Tryz.ntmps122;go_wp2_with (fail);exact bodyPost_ret (v:=.int .i64 0) (by simp[results,Tryz.results122,go_sem]) rfl ⟨rfl,by(repeat (first | assumption | exact Ext.rf _ | apply Ext.drew | apply Ext.drewN | apply Ext.alloc))⟩
def YR (k n:Int) : Int:=if k=1 then(if n<1 then 1 else if 64<n then 5 else 0) else if k=2 then(if n<1 then 1 else if 24<n then 5 else 0) else if k=3 then(if n<1 then 1 else if 24<n then 5 else 0) else 14
theorem ZaA (k n cap:Int)(a b c:Value)(w:World) : Calls Tryz.prog 69 #[.agg #[.int .i64 k,.int .i64 n,.int .i64 cap,a,b,c]] w fun e w'=>e=.returned (.int .i64 (YR k n))/\Ext w w':=by
 unfold YR
 by_cases k1:k=1
 ·subst k1
  rw[if_pos rfl]
  by_cases h1:n<1
  ·rw[if_pos h1]
   go_enter Tryz.func69,Tryz.ntmps69;go_wp2_with (fail);exact bodyPost_ret (v:=.int .i64 1) (by simp[results,Tryz.results69,go_sem]) rfl ⟨rfl,by(repeat (first | assumption | exact Ext.rf _ | apply Ext.drew | apply Ext.drewN | apply Ext.alloc))⟩
  ·rw[if_neg h1]
   by_cases h2:64<n
   ·rw[if_pos h2]
    go_enter Tryz.func69,Tryz.ntmps69;go_wp2_with (fail);exact bodyPost_ret (v:=.int .i64 5) (by simp[results,Tryz.results69,go_sem]) rfl ⟨rfl,by(repeat (first | assumption | exact Ext.rf _ | apply Ext.drew | apply Ext.drewN | apply Ext.alloc))⟩
   ·rw[if_neg h2]
    go_enter Tryz.func69,Tryz.ntmps69;go_wp2_with (fail);exact bodyPost_ret (v:=.int .i64 0) (by simp[results,Tryz.results69,go_sem]) rfl ⟨rfl,by(repeat (first | assumption | exact Ext.rf _ | apply Ext.drew | apply Ext.drewN | apply Ext.alloc))⟩
 ·rw[if_neg k1]
  by_cases k2:k=2
  ·subst k2
   rw[if_pos rfl]
   by_cases h1:n<1
   ·rw[if_pos h1]
    go_enter Tryz.func69,Tryz.ntmps69;go_wp2_with (fail);exact bodyPost_ret (v:=.int .i64 1) (by simp[results,Tryz.results69,go_sem]) rfl ⟨rfl,by(repeat (first | assumption | exact Ext.rf _ | apply Ext.drew | apply Ext.drewN | apply Ext.alloc))⟩
   ·rw[if_neg h1]
    by_cases h2:24<n
    ·rw[if_pos h2]
     go_enter Tryz.func69,Tryz.ntmps69;go_wp2_with (fail);exact bodyPost_ret (v:=.int .i64 5) (by simp[results,Tryz.results69,go_sem]) rfl ⟨rfl,by(repeat (first | assumption | exact Ext.rf _ | apply Ext.drew | apply Ext.drewN | apply Ext.alloc))⟩
    ·rw[if_neg h2]
     go_enter Tryz.func69,Tryz.ntmps69;go_wp2_with (fail);exact bodyPost_ret (v:=.int .i64 0) (by simp[results,Tryz.results69,go_sem]) rfl ⟨rfl,by(repeat (first | assumption | exact Ext.rf _ | apply Ext.drew | apply Ext.drewN | apply Ext.alloc))⟩
  ·rw[if_neg k2]
   by_cases k3:k=3
   ·subst k3
    rw[if_pos rfl]
    by_cases h1:n<1
    ·rw[if_pos h1]
     go_enter Tryz.func69,Tryz.ntmps69;go_wp2_with (fail);exact bodyPost_ret (v:=.int .i64 1) (by simp[results,Tryz.results69,go_sem]) rfl ⟨rfl,by(repeat (first | assumption | exact Ext.rf _ | apply Ext.drew | apply Ext.drewN | apply Ext.alloc))⟩
    ·rw[if_neg h1]
     by_cases h2:24<n
     ·rw[if_pos h2]
      go_enter Tryz.func69,Tryz.ntmps69;go_wp2_with (fail);exact bodyPost_ret (v:=.int .i64 5) (by simp[results,Tryz.results69,go_sem]) rfl ⟨rfl,by(repeat (first | assumption | exact Ext.rf _ | apply Ext.drew | apply Ext.drewN | apply Ext.alloc))⟩
     ·rw[if_neg h2]
      go_enter Tryz.func69,Tryz.ntmps69;go_wp2_with (fail);exact bodyPost_ret (v:=.int .i64 0) (by simp[results,Tryz.results69,go_sem]) rfl ⟨rfl,by(repeat (first | assumption | exact Ext.rf _ | apply Ext.drew | apply Ext.drewN | apply Ext.alloc))⟩
   ·rw[if_neg k3]
    go_enter Tryz.func69,Tryz.ntmps69;go_wp2_with (fail);exact bodyPost_ret (v:=.int .i64 14) (by simp[results,Tryz.results69,go_sem]) rfl ⟨rfl,by(repeat (first | assumption | exact Ext.rf _ | apply Ext.drew | apply Ext.drewN | apply Ext.alloc))⟩
def Yo : List Int->Int
 | []=>0
 | x::l=>if XL x=0 then Yo l else XL x
theorem Ue (a b:List Int) : Yo (a++b)=if Yo a=0 then Yo b else Yo a:=by
 induction a with
 | nil=>rfl
 | cons x l ih =>
  simp only[List.cons_append,Yo];split
  ·exact ih
  ·rename_i h
   first | rfl | rw[if_neg h]
def XN : List Int->List Int->List Int
 | x::xs,y::ys=>x::y::XN xs ys
 | _,_=>[]
theorem UK : ∀ (a b c d:List Int),a.length=b.length->XN (a++c) (b++d)=XN a b++XN c d
 | [],[],_,_,_=>by simp[XN]
 | x::a,y::b,c,d,h=>by
  have:=UK a b c d (by simpa using h);simp[XN,this]
 | [],_::_,_,_,h=>by simp at h
 | _::_,[],_,_,h=>by simp at h
def ZO (cap:Int)(xs ys:List Int)(k:Nat) : Int:=Yo (cap::XN (xs.take k) (ys.take k))
theorem ZaB (cap:Int)(xs ys:List Int) : ZO cap xs ys 0=XL cap:=by
 simp only[ZO,List.take_zero,XN,Yo];split
 ·rename_i h;exact h.symm
 ·rfl
theorem ZaC {cap:Int}{xs ys:List Int}{k:Nat}{x y:Int}(hx:xs[k]?=some x)(hy:ys[k]?=some y)(h0:ZO cap xs ys k=0) :
  ZO cap xs ys (k+1)=if XL x=0 then XL y else XL x:=by
 obtain⟨lx,hx⟩:=List.getElem?_eq_some_iff.1 hx;obtain⟨ly,hy⟩:=List.getElem?_eq_some_iff.1 hy;unfold ZO at *;rw[List.take_succ_eq_append_getElem lx,List.take_succ_eq_append_getElem ly,UK _ _ _ _ (by simp;omega),<-List.cons_append,Ue,if_pos h0,hx,hy];simp only[XN,Yo];split
 ·split
  ·rename_i h;exact h.symm
  ·rfl
 ·rfl
theorem ZaD {cap:Int}{xs ys:List Int}{k:Nat}(hl:xs.length=ys.length)(h:ZO cap xs ys k≠0) : ZO cap xs ys xs.length=ZO cap xs ys k:=by
 have e:XN xs ys=XN (xs.take k) (ys.take k)++XN (xs.drop k) (ys.drop k):=by
  rw[<-UK _ _ _ _ (by simp[hl]),List.take_append_drop,List.take_append_drop]
 unfold ZO at *;rw[List.take_length,hl,List.take_length,e,<-List.cons_append,Ue,if_neg h]
theorem Jq (A B:Option Addr)(a b:Nat)(k cap:Int)(xs ys:List Int)(C:Value)(w:World)(hA:RdI w A xs)(hB:RdI w B ys)(la:xs.length<=a)(ma:a<=maxLen)(lb:ys.length<=b)(mb:b<=maxLen)(hxy:xs.length=ys.length) :
  Calls Tryz.prog 71 #[.agg #[.int .i64 k,.int .i64 xs.length,.int .i64 cap,.slice A xs.length a,.slice B ys.length b,C]] w fun e w'=>e=.returned (.int .i64 (ZO cap xs ys xs.length))/\Ext w w':=by
 unfold maxLen at ma mb;replace hxy:=Hd hxy;have B1:Hid (Blk (w.alloc (.cells #[.int .i64 k,.int .i64 xs.length,.int .i64 cap,.slice A xs.length a,.slice B ys.length b,C] 25)) w.heap.size 25 #[.int .i64 k,.int .i64 xs.length,.int .i64 cap,.slice A xs.length a,.slice B ys.length b,C]):=.new rfl;have X:Hid (Ext w (w.alloc (.cells #[.int .i64 k,.int .i64 xs.length,.int .i64 cap,.slice A xs.length a,.slice B ys.length b,C] 25))):=(Ext.rf _).alloc _;have hC:=Hd (Xn cap);go_enter Tryz.func71,Tryz.ntmps71;go_wp2_with (fail);refine(Xn cap _).mono ?_;rintro e w2 ⟨rfl,x2⟩;go_wp2_with (fail);go_loopw [3,4] (fun e i wr=>∃ j:Nat,i=.int .i64 j/\e=.int .i64 (ZO cap xs ys j)/\j<=xs.length/\Ext w wr/\Hid (Blk wr w.heap.size 25 #[.int .i64 k,.int .i64 xs.length,.int .i64 cap,.slice A xs.length a,.slice B ys.length b,C])) (fun _ i _=>xs.length-(intOf i).toNat)
 case atStart=>exact⟨0,rfl,by rw[ZaB],by omega,Ext.tr (a:=w) (by(repeat (first | assumption | exact Ext.rf _ | apply Ext.drew | apply Ext.drewN | apply Ext.alloc))) x2,B1.out.ext x2⟩
 case round =>
  obtain⟨wo,rfl⟩:∃ wo:World,wo=wr:=⟨_,rfl⟩;obtain⟨j,rfl,rfl,hj,Y,B2⟩:=hrel;have c1:=B2.out.c1;have c3:=B2.out.c3;have c4:=B2.out.c4;have cA:=hA.ext Y;have cB:=hB.ext Y
  by_cases he:ZO cap xs ys j=0
  ·have he':(ZO cap xs ys j==0)=true:=by rw[beq_iff_eq];exact he
   have HE:=Hd he;clear he
   by_cases hlt:j<xs.length
   ·obtain⟨bb,off,x,rfl,_,hc1,hx1,_⟩:=cA.at hlt
    obtain⟨bb',off',y,rfl,_,hc2,hy1,_⟩:=cB.at (k:=j) (by have:=hxy.out;omega);have hlt2:j<ys.length:=by have:=hxy.out;omega
    have S:=Hd (ZaC hx1.out hy1.out HE.out);go_wp2_with (fail);refine(Xn x _).mono ?_;rintro e w3 ⟨rfl,x3⟩;have Y3:=Ext.tr Y x3;have B3:=B2.out.ext x3;have c4':=B3.c4;have hc2':=(x3.cells.1 _ (off'+j) (by assumption)).trans hc2
    by_cases hn:XL x=0
    ·have hn':(XL x==0)=true:=by rw[beq_iff_eq];exact hn
     have HN:=Hd hn;clear hn;go_wp2_with (fail);refine(Xn y _).mono ?_;rintro e w4 ⟨rfl,x4⟩;have Y4:=Ext.tr Y3 x4;have B4:=Hd (B3.ext x4);have HR:Hid (ZO cap xs ys (j+1)=XL y):=by
      have h1:=S.out;rw[if_pos HN.out] at h1;exact h1
     clear c1 c3 c4 c4' hc1 hc2 hc2' he' hn';go_wp2;go_roundw
     case rel=>exact⟨j+1,by go_num,by rw[HR.out],by omega,Y4,B4⟩
     case measure=>simp[intOf];omega
    ·have hn':(XL x==0)=false:=by rw[beq_eq_false_iff_ne];exact hn
     have HR:Hid (ZO cap xs ys (j+1)=XL x):=by
      have h1:=S.out;rw[if_neg hn] at h1;exact h1
     clear hn;have B4:=Hd B3;clear c1 c3 c4 c4' hc1 hc2 hc2' he' B3;go_wp2;go_roundw
     case rel=>exact⟨j+1,by go_num,by rw[HR.out],by omega,Y3,B4⟩
     case measure=>simp[intOf];omega
   ·obtain rfl:j=xs.length:=by omega
    clear cA cB c3 c4;go_wp2;go_ret;exact⟨rfl,Y⟩
  ·have he':(ZO cap xs ys j==0)=false:=by rw[beq_eq_false_iff_ne];exact he
   have HE:Hid (ZO cap xs ys xs.length=ZO cap xs ys j):=ZaD hxy.out he;clear he cA cB c3 c4
   by_cases hlt:j<xs.length
   ·go_wp2
    go_ret;exact⟨Yg HE.out.symm,Y⟩
   ·go_wp2
    go_ret;exact⟨Yg HE.out.symm,Y⟩
def WE (k:Int)(r c:Nat) : List Int->Int
 | []=>0
 | n::l=>if XL n=0 then(if k=3/\r=c/\n≠0 then 8 else WE k r (c+1) l) else XL n
def YD (k:Int)(r:Nat) : List (List Int)->Int
 | []=>0
 | row::l=>if WE k r 0 row=0 then YD k (r+1) l else WE k r 0 row
theorem RdE.ints {w:World}{A:Option Addr}{l:List (List Int)}(h:RdE 1 RInts w A l){r:Nat}(hr:r<l.length) :
  ∃ b off B row c,A=some ⟨b,off,none⟩/\b<w.heap.size/\w.cell? ⟨b,off+r,none⟩=some (.slice B row.length c)/\Hid (l[r]?=some row)/\Hid (l.drop r=row::l.drop (r+1))/\RdI w B row/\Ints row/\row.length<=c/\c<=9223372036854775807:=by
 obtain⟨b,off,cs,row,rfl,hb,⟨B,c,rfl,h1,h2,h3,h4⟩,_,hc,he⟩:=h.at hr;have hc0:=hc 0 _ rfl;unfold maxLen at h4;have he':=he.out;refine⟨b,off,B,row,c,rfl,hb,by simpa using hc0,he,?_,h1,h2,h3,h4⟩;obtain⟨hl,hv⟩:=List.getElem?_eq_some_iff.1 he';exact(by rw[List.drop_eq_getElem_cons hl,hv]:l.drop r=row::l.drop (r+1))
theorem ZaE (k n cap:Int)(A B:Value)(C:Option Addr)(c:Nat)(l:List (List Int))(w:World)(hC:RdE 1 RInts w C l)(lc:l.length<=c)(mc:c<=maxLen) :
  Calls Tryz.prog 72 #[.agg #[.int .i64 k,.int .i64 n,.int .i64 cap,A,B,.slice C l.length c]] w fun e w'=>e=.returned (.int .i64 (YD k 0 l))/\Ext w w':=by
 unfold maxLen at mc;have B1:Hid (Blk (w.alloc (.cells #[.int .i64 k,.int .i64 n,.int .i64 cap,A,B,.slice C l.length c] 25)) w.heap.size 25 #[.int .i64 k,.int .i64 n,.int .i64 cap,A,B,.slice C l.length c]):=.new rfl;go_enter Tryz.func72,Tryz.ntmps72;go_wp2_with (fail);go_loopw [11] (fun i wr=>∃ r:Nat,i=.int .i64 r/\r<=l.length/\Hid (YD k 0 l=YD k r (l.drop r))/\Ext w wr/\Hid (Blk wr w.heap.size 25 #[.int .i64 k,.int .i64 n,.int .i64 cap,A,B,.slice C l.length c])) (fun i _=>l.length-(intOf i).toNat)
 case atStart=>exact⟨0,rfl,by omega,by exact rfl,by(repeat (first | assumption | exact Ext.rf _ | apply Ext.drew | apply Ext.drewN | apply Ext.alloc)),B1⟩
 case round =>
  obtain⟨wo,rfl⟩:∃ wo:World,wo=wr:=⟨_,rfl⟩;obtain⟨r,rfl,hr,HT,Y,B2⟩:=hrel
  by_cases hlt:r<l.length
  ·obtain⟨b,off,D,row,d,rfl,_,hc1,_,HD,rr,ir,ld,md⟩:=(hC.ext Y fun _ _ h=>h.ext Y).ints hlt
   go_wp2_with (fail);go_loopw [18] (fun i wr=>∃ j:Nat,i=.int .i64 j/\j<=row.length/\Hid (WE k r 0 row=WE k r j (row.drop j))/\Ext w wr/\Ext wo wr/\Hid (Blk wr w.heap.size 25 #[.int .i64 k,.int .i64 n,.int .i64 cap,A,B,.slice (some ⟨b,off,none⟩) l.length c])) (fun i _=>row.length-(intOf i).toNat)
   case atStart=>exact⟨0,rfl,by omega,by exact rfl,Y,Ext.rf _,B2⟩
   case round =>
    obtain⟨j,rfl,hj,HJ,Y2,X2,B3⟩:=hrel
    by_cases hlj:j<row.length
    ·obtain⟨bb,off',x,rfl,_,hc2,_,hd2⟩:=(rr.ext X2).at hlj
     go_wp2_with (fail);refine(Xn x _).mono ?_;rintro e w3 ⟨rfl,x3⟩;have Y3:=Ext.tr Y2 x3;have X3:=Ext.tr X2 x3;have B4:=Hd (B3.out.ext x3);have k0:=B4.out.c0
     by_cases hn:XL x=0
     ·have hn':(XL x != 0)=false:=by simpa using hn
      have HN:=Hd hn;clear hn hc1 hc2
      by_cases k3:k=3
      ·subst k3
       by_cases hrj:r=j
       ·subst hrj
        by_cases hx:x=0
        ·have hx':(x != 0)=false:=by simpa using hx
         have HR:Hid (WE 3 r 0 row=WE 3 r (r+1) (row.drop (r+1))):=by
          have h1:=HJ.out;rw[hd2.out,WE,if_pos HN.out,if_neg (by simp[hx])] at h1;exact h1
         clear hx;go_wp2;go_roundw
         case rel=>exact⟨r+1,by go_num,by omega,HR,Y3,X3,B4⟩
         case measure=>simp[intOf];omega
        ·have hx':(x != 0)=true:=by simpa using hx
         have HR:Hid (YD 3 0 l=8):=by
          have h1:=HJ.out;rw[hd2.out,WE,if_pos HN.out,if_pos ⟨rfl,rfl,hx⟩] at h1;have h2:=HT.out;rw[HD.out,YD,h1] at h2;exact h2
         clear hx;go_wp2;go_ret;exact⟨Yg HR.out.symm,Y3⟩
       ·have hrj':((r:Int)==(j:Int))=false:=by rw[beq_eq_false_iff_ne];omega
        have HR:Hid (WE 3 r 0 row=WE 3 r (j+1) (row.drop (j+1))):=by
         have h1:=HJ.out;rw[hd2.out,WE,if_pos HN.out,if_neg (by simp[hrj])] at h1;exact h1
        go_wp2;go_roundw
        case rel=>exact⟨j+1,by go_num,by omega,HR,Y3,X3,B4⟩
        case measure=>simp[intOf];omega
      ·have k3':(k==3)=false:=by rw[beq_eq_false_iff_ne];exact k3
       have HR:Hid (WE k r 0 row=WE k r (j+1) (row.drop (j+1))):=by
        have h1:=HJ.out;rw[hd2.out,WE,if_pos HN.out,if_neg (by simp[k3])] at h1;exact h1
       clear k3;go_wp2;go_roundw
       case rel=>exact⟨j+1,by go_num,by omega,HR,Y3,X3,B4⟩
       case measure=>simp[intOf];omega
     ·have hn':(XL x != 0)=true:=by simpa using hn
      have HR:Hid (YD k 0 l=XL x):=by
       have h1:=HJ.out;rw[hd2.out,WE,if_neg hn] at h1;have h2:=HT.out;rw[HD.out,YD,h1,if_neg hn] at h2;exact h2
      clear hn hc1 hc2;go_wp2;go_ret;exact⟨Yg HR.out.symm,Y3⟩
    ·have hd2:=Uc (xs:=row) (k:=j) (by omega)
     have HR:Hid (YD k 0 l=YD k (r+1) (l.drop (r+1))):=by
      have h1:=HJ.out;rw[hd2.out,WE] at h1;have h2:=HT.out;rw[HD.out,YD,if_pos h1] at h2;exact h2
     clear hc1;go_wp2;go_roundw
     case rel=>exact⟨r+1,by go_num,by omega,HR,Y2,B3⟩
     case measure=>simp[intOf];omega
  ·have hd:=Uc (xs:=l) (k:=r) (by omega)
   have HR:Hid (YD k 0 l=0):=by
    have h1:=HT.out;rw[hd.out,YD] at h1;exact h1
   clear hd;go_wp2;go_ret;exact⟨Yg HR.out.symm,Y⟩
def XD {α:Type}(p:α->Bool)(k:Nat) : List α->Int
 | []=>-1
 | x::l=>if p x then(k:Int) else XD p (k+1) l
theorem Qz {α:Type}(p:α->Bool) : ∀ (k:Nat) (l:List α),decide (0<=XD p k l)=l.any p
 | k,[]=>by simp[XD]
 | k,x::l=>by
  unfold XD
  cases h:p x with
  | true=>simp[h]
  | false=>simpa [h] using Qz p (k+1) l
def Zei {α:Type}(g:Nat)(lb:Array Value)(enc:α->Value)(p:α->Bool)(xs:List α)(w:World) : Prop :=
 ∀ (W:World) (x:α),x∈xs->Ext w W->Calls Tryz.prog g (#[enc x]++lb) W fun e w'=>e=.returned (.bool (p x))/\Ext W w'
theorem Zej (g:Nat)(lb:Array Value)(p:Nat->Bool)(eg:∀ args w,(callFunc g args).run Tryz.prog w=.ok (.enter g args) w)(C:Option Addr)(c:Nat)(l:List (List Int))(w:World)(hC:RdE 1 RInts w C l)(lx:l.length<=maxLen)
  (hp:∀ (W:World) (B:Option Addr) (r:List Int) (d:Nat),r∈l->Ext w W->Calls Tryz.prog g (#[.slice B r.length d]++lb) W fun e w'=>e=.returned (.bool (p r.length))/\Ext W w') :
  Calls Tryz.prog 163 #[.slice C l.length c,.func (.func g) #[] lb] w fun e w'=>e=.returned (.int .i64 (XD (fun r:List Int=>p r.length) 0 l))/\Ext w w':=by
 unfold maxLen at lx;go_enter Tryz.func163,Tryz.ntmps163;go_wp2_with (fail);go_loopw [8] (fun i wr=>∃ j:Nat,i=.int .i64 j/\j<=l.length/\Hid (XD (fun r:List Int=>p r.length) 0 l=XD (fun r:List Int=>p r.length) j (l.drop j))/\Ext w wr) (fun i _=>l.length-(intOf i).toNat)
 case atStart=>exact⟨0,rfl,by omega,by exact rfl,Ext.rf _⟩
 case round =>
  obtain⟨j,rfl,hj,HJ,Y⟩:=hrel
  by_cases hlt:j<l.length
  ·obtain⟨b,off,D,row,d,rfl,_,hc1,hx,hd,rr,ir,ld,md⟩:=(hC.ext Y fun _ _ h=>h.ext Y).ints hlt
   have hcall:=hp wr D row d (List.mem_of_getElem? hx.out) Y;clear hp
   cases hq:p row.length with
   | true =>
    rw[hq] at hcall;have HR:Hid (XD (fun r:List Int=>p r.length) 0 l=j):=by
     have h1:=HJ.out;rw[hd.out,XD,if_pos hq] at h1;exact h1
    clear hq;go_wp2_with (go_at_fn g;refine hcall.mono ?_;rintro e w' ⟨rfl,x'⟩);go_ret;exact⟨Yg HR.out.symm,Ext.tr Y x'⟩
   | false =>
    rw[hq] at hcall;have HR:Hid (XD (fun r:List Int=>p r.length) 0 l=XD (fun r:List Int=>p r.length) (j+1) (l.drop (j+1))):=by
     have h1:=HJ.out;rw[hd.out,XD,if_neg (by simp[hq])] at h1;exact h1
    clear hq;go_wp2_with (go_at_fn g;refine hcall.mono ?_;rintro e w' ⟨rfl,x'⟩);go_roundw
    case rel=>exact⟨j+1,by go_num,by omega,HR,Ext.tr Y x'⟩
    case measure=>simp[intOf];omega
  ·have hd:=Uc (xs:=l) (k:=j) (by omega)
   have HR:Hid (XD (fun r:List Int=>p r.length) 0 l=-1):=by
    have h1:=HJ.out;rw[hd.out,XD] at h1;exact h1
   clear hd hp;go_wp2;go_ret;exact⟨Yg HR.out.symm,Y⟩
theorem ZaF (g:Nat)(lb:Array Value)(p:Nat->Bool)(eg:∀ args w,(callFunc g args).run Tryz.prog w=.ok (.enter g args) w)(C:Option Addr)(c:Nat)(l:List (List Int))(w:World)(hC:RdE 1 RInts w C l)(lx:l.length<=maxLen)
  (hp:∀ (W:World) (B:Option Addr) (r:List Int) (d:Nat),r∈l->Ext w W->Calls Tryz.prog g (#[.slice B r.length d]++lb) W fun e w'=>e=.returned (.bool (p r.length))/\Ext W w') :
  Calls Tryz.prog 120 #[.slice C l.length c,.func (.func g) #[] lb] w fun e w'=>e=.returned (.bool (l.any fun r=>p r.length))/\Ext w w':=by
 have H:=Hd (Qz (fun r:List Int=>p r.length) 0 l);go_enter Tryz.func120,Tryz.ntmps120;go_wp2_with (fail);refine(Zej g lb p eg C c l _ hC lx hp).mono ?_;rintro e w' ⟨rfl,x'⟩;clear hp;go_wp2;go_ret;exact⟨Jp H.out,x'⟩
theorem ZaG (B:Option Addr)(m d:Nat)(g:Nat)(n:Int)(cs:Array Value)(w:World)(hg:Blk w g 25 cs)(hn:cs[1]?=some (.int .i64 n)) :
  Calls Tryz.prog 121 (#[.slice B m d]++#[.pointer (some ⟨g,0,none⟩)]) w fun e w'=>e=.returned (.bool ((m:Int) != n))/\Ext w w':=by
 have c1:w.cell? ⟨g,1,none⟩=some (.int .i64 n):=(hg.cell 1).trans hn;replace hg:=Hd hg;replace hn:=Hd hn;go_enter Tryz.func121,Tryz.ntmps121;go_wp2;go_ret;exact⟨rfl,Ext.rf _⟩
theorem Qd : ∀ args w,(callFunc 121 args).run Tryz.prog w=.ok (.enter 121 args) w:=enters_of Tryz.func121 (by kernel_rfl) rfl
def XO (i:InstP) : Bool :=
 if i.kind=1 then((i.weight.length:Int)==i.n)&&((i.value.length:Int)==i.n)&&((i.cost.length:Int)==0)
 else(((i.cost.length:Int)==i.n)&&(i.cap==0)&&decide (i.weight.length+i.value.length=0)) && !(i.cost.any fun r=>(r.length:Int) != i.n)
def Zf (i:InstP) : Int :=
 if YR i.kind i.n=0 then(if XO i=true then(if i.kind=1 then ZO i.cap i.weight i.value i.weight.length else YD i.kind 0 i.cost) else 8) else YR i.kind i.n
theorem QA (n cap:Int)(A B C:Option Addr)(a b c:Nat)(xs ys:List Int)(l:List (List Int))(w:World) :
  Calls Tryz.prog 70 #[.agg #[.int .i64 1,.int .i64 n,.int .i64 cap,.slice A xs.length a,.slice B ys.length b,.slice C l.length c]] w fun e w'=>e=.returned (.bool (((xs.length:Int)==n)&&((ys.length:Int)==n)&&((l.length:Int)==0)))/\Ext w w':=by
 cases h1:((xs.length:Int)==n)
 ·go_enter Tryz.func70,Tryz.ntmps70
  go_wp2;go_ret;exact⟨rfl,by(repeat (first | assumption | exact Ext.rf _ | apply Ext.drew | apply Ext.drewN | apply Ext.alloc))⟩
 ·cases h2:((ys.length:Int)==n)
  ·go_enter Tryz.func70,Tryz.ntmps70
   go_wp2;go_ret;exact⟨rfl,by(repeat (first | assumption | exact Ext.rf _ | apply Ext.drew | apply Ext.drewN | apply Ext.alloc))⟩
  ·cases h3:((l.length:Int)==0)
   ·go_enter Tryz.func70,Tryz.ntmps70
    go_wp2;go_ret;exact⟨rfl,by(repeat (first | assumption | exact Ext.rf _ | apply Ext.drew | apply Ext.drewN | apply Ext.alloc))⟩
   ·go_enter Tryz.func70,Tryz.ntmps70
    go_wp2;go_ret;exact⟨rfl,by(repeat (first | assumption | exact Ext.rf _ | apply Ext.drew | apply Ext.drewN | apply Ext.alloc))⟩
theorem ZbI (k n cap:Int)(A B C:Option Addr)(a b c:Nat)(xs ys:List Int)(l:List (List Int))(w:World)(hk:k≠1)(hC:RdE 1 RInts w C l)(lc:l.length<=c)(mc:c<=maxLen)(lx:xs.length<=1000000000)(ly:ys.length<=1000000000) :
  Calls Tryz.prog 70 #[.agg #[.int .i64 k,.int .i64 n,.int .i64 cap,.slice A xs.length a,.slice B ys.length b,.slice C l.length c]] w fun e w'=>e=.returned (.bool ((((l.length:Int)==n)&&(cap==0)&&decide (xs.length+ys.length=0)) && !(l.any fun r=>(r.length:Int) != n)))/\Ext w w':=by
 have B1:Hid (Blk (w.alloc (.cells #[.int .i64 k,.int .i64 n,.int .i64 cap,.slice A xs.length a,.slice B ys.length b,.slice C l.length c] 25)) w.heap.size 25 #[.int .i64 k,.int .i64 n,.int .i64 cap,.slice A xs.length a,.slice B ys.length b,.slice C l.length c]):=.new rfl;have hk':(k==1)=false:=by simpa using hk
 have lm:l.length<=maxLen:=by omega
 replace hC:=Hd hC;replace mc:=Hd mc;replace lm:=Hd lm;clear hk
 cases h1:((l.length:Int)==n)
 ·have h1':((l.length:Int) != n)=true:=by simp only[bne,h1];rfl
  go_enter Tryz.func70,Tryz.ntmps70;go_wp2;go_ret;exact⟨rfl,by(repeat (first | assumption | exact Ext.rf _ | apply Ext.drew | apply Ext.drewN | apply Ext.alloc))⟩
 ·have h1':((l.length:Int) != n)=false:=by simp only[bne,h1];rfl
  cases h2:(cap==0)
  ·have h2':(cap != 0)=true:=by simp only[bne,h2];rfl
   go_enter Tryz.func70,Tryz.ntmps70;go_wp2;go_ret;exact⟨rfl,by(repeat (first | assumption | exact Ext.rf _ | apply Ext.drew | apply Ext.drewN | apply Ext.alloc))⟩
  ·have h2':(cap != 0)=false:=by simp only[bne,h2];rfl
   by_cases hs:xs.length+ys.length=0
   ·have hs1:decide (xs.length+ys.length=0)=true:=by simpa using hs
    rw[hs1];have l0:xs.length=0:=by omega
    have l1:ys.length=0:=by omega
    rw[l0,l1] at B1 ⊢;clear hs hs1 l0 l1 lx ly;go_enter Tryz.func70,Tryz.ntmps70;go_wp2_with (fail);refine(ZaF _ _ (fun m=>(m:Int) != n) Qd C c l _ (hC.out.ext ((Ext.rf _).alloc _) fun _ _ h=>h.ext ((Ext.rf _).alloc _)) lm.out ?_).mono ?_
    ·intro W D r d _ hx
     exact ZaG D r.length d w.heap.size n _ W (B1.out.ext hx) rfl
    rintro e w' ⟨rfl,x'⟩;go_wp2;go_ret;exact⟨by simp,Ext.tr (a:=w) (by(repeat (first | assumption | exact Ext.rf _ | apply Ext.drew | apply Ext.drewN | apply Ext.alloc))) x'⟩
   ·have hs1:decide (xs.length+ys.length=0)=false:=by simpa using hs
    rw[hs1];have hs2:(0:Int)<(xs.length:Int)+(ys.length:Int):=by omega
    clear hs hs1;go_enter Tryz.func70,Tryz.ntmps70;go_wp2;go_ret;exact⟨rfl,by(repeat (first | assumption | exact Ext.rf _ | apply Ext.drew | apply Ext.drewN | apply Ext.alloc))⟩
theorem VP {k n:Int}(h:YR k n=0) : k=1\/k=2\/k=3:=by
 unfold YR at h;split at h
 ·exact .inl ‹_›
 ·split at h
  ·exact .inr (.inl ‹_›)
  ·split at h
   ·exact .inr (.inr ‹_›)
   ·cases h
theorem ZC (i:InstP)(vs:List Value)(w:World)(H:RInst w vs i)(lw:i.weight.length<=1000000000)(lv:i.value.length<=1000000000) :
  Calls Tryz.prog 34 #[.agg (List.toArray vs)] w fun e w'=>e=.returned (.int .i64 (Zf i))/\Ext w w':=by
 obtain⟨k,n,cap,xs,ys,l⟩:=i;obtain⟨A,a,B,b,C,c,rfl,⟨rA,iA,lA,mA⟩,⟨rB,iB,lB,mB⟩,⟨rC,lC,mC⟩⟩:=H;simp only at *;have B1:Hid (Blk (w.alloc (.cells #[.int .i64 k,.int .i64 n,.int .i64 cap,.slice A xs.length a,.slice B ys.length b,.slice C l.length c] 25)) w.heap.size 25 #[.int .i64 k,.int .i64 n,.int .i64 cap,.slice A xs.length a,.slice B ys.length b,.slice C l.length c]):=.new rfl;replace rA:=Hd rA;replace rB:=Hd rB;replace rC:=Hd rC;replace iA:=Hd iA;replace iB:=Hd iB;replace mA:=Hd mA;replace mB:=Hd mB;replace mC:=Hd mC;have X1:Ext w (w.alloc (.cells #[.int .i64 k,.int .i64 n,.int .i64 cap,.slice A xs.length a,.slice B ys.length b,.slice C l.length c] 25)):=(Ext.rf _).alloc _;replace X1:=Hd X1;go_enter Tryz.func34,Tryz.ntmps34;go_wp2_with (fail);refine(ZaA k n cap _ _ _ _).mono ?_;rintro e w2 ⟨rfl,x2⟩;have X2:=Hd (Ext.tr X1.out x2);have B2:=Hd (B1.out.ext x2);have d0:=B2.out.c0;have d1:=B2.out.c1;have d2:=B2.out.c2;have d3:=B2.out.c3;have d4:=B2.out.c4;have d5:=B2.out.c5
 by_cases hs:YR k n=0
 ·have hs':(YR k n != 0)=false:=by simpa using hs
  have qHS:Zf ⟨k,n,cap,xs,ys,l⟩=(if XO ⟨k,n,cap,xs,ys,l⟩=true then(if k=1 then ZO cap xs ys xs.length else YD k 0 l) else 8):=by
   unfold Zf;simp only[if_pos hs]
  have HS:=Hd qHS;clear qHS;have kk:=VP hs;replace hs:=Hd hs;clear x2
  by_cases k1:k=1
  ·subst k1
   have qHS2:Zf ⟨1,n,cap,xs,ys,l⟩=(if (((xs.length:Int)==n)&&((ys.length:Int)==n)&&((l.length:Int)==0))=true then ZO cap xs ys xs.length else 8):=by
    have h1:=HS.out;unfold XO at h1
    simpa only [if_true] using h1
   have HS2:=Hd qHS2;clear qHS2;clear HS;go_wp2_with (fail);refine(QA n cap A B C a b c xs ys l _).mono ?_;rintro e w3 ⟨rfl,x3⟩;have X3:=Hd (Ext.tr X2.out x3);have B3:=Hd (B2.out.ext x3);have e0:=B3.out.c0;have e1:=B3.out.c1;have e2:=B3.out.c2;have e3:=B3.out.c3;have e4:=B3.out.c4;have e5:=B3.out.c5;clear d0 d1 d2 d3 d4 d5 x3 kk
   cases hh:(((xs.length:Int)==n)&&((ys.length:Int)==n)&&((l.length:Int)==0)) with
   | false =>
    have qHC:Zf ⟨1,n,cap,xs,ys,l⟩=8:=by
     have h1:=HS2.out;rw[hh,if_neg (by decide)] at h1;exact h1
    have HC:=Hd qHC;clear qHC;clear hh;go_wp2;go_ret;exact⟨Yg HC.out.symm,X3.out⟩
   | true =>
    have qHC:Zf ⟨1,n,cap,xs,ys,l⟩=ZO cap xs ys xs.length:=by
     have h1:=HS2.out;rw[hh,if_pos rfl] at h1;exact h1
    have HC:=Hd qHC;clear qHC;simp only[Bool.and_eq_true,beq_iff_eq] at hh;obtain⟨⟨rfl,hy⟩,hz⟩:=hh;clear HS2;have hyx:Hid (xs.length=ys.length):=by(have:xs.length=ys.length:=by omega);exact this
    clear hy hz;go_wp2_with (fail);refine(Jq A B a b 1 cap xs ys _ _ (rA.out.ext X3.out) (rB.out.ext X3.out) lA mA.out lB mB.out hyx.out).mono ?_;rintro e w4 ⟨rfl,x4⟩;go_wp2;go_ret;exact⟨Yg HC.out.symm,Ext.tr X3.out x4⟩
  ·have k1':(k==1)=false:=by simpa using k1
   have qHS2:Zf ⟨k,n,cap,xs,ys,l⟩=(if ((((l.length:Int)==n)&&(cap==0)&&decide (xs.length+ys.length=0)) && !(l.any fun r=>(r.length:Int) != n))=true then YD k 0 l else 8):=by
    have h1:=HS.out;unfold XO at h1
    simpa only [if_neg k1] using h1
   have HS2:=Hd qHS2;clear qHS2;clear HS;go_wp2_with (fail);refine(ZbI k n cap A B C a b c xs ys l _ k1 (rC.out.ext X2.out fun _ _ h=>h.ext X2.out) lC mC.out lw lv).mono ?_;rintro e w3 ⟨rfl,x3⟩;have X3:=Hd (Ext.tr X2.out x3);have B3:=Hd (B2.out.ext x3);have e0:=B3.out.c0;have e1:=B3.out.c1;have e2:=B3.out.c2;have e3:=B3.out.c3;have e4:=B3.out.c4;have e5:=B3.out.c5;clear d0 d1 d2 d3 d4 d5 x3 kk k1;generalize ((((l.length:Int)==n)&&(cap==0)&&decide (xs.length+ys.length=0)) && !(l.any fun r=>(r.length:Int) != n))=hh at HS2 ⊢
   cases hh with
   | false =>
    have HC:Hid (Zf ⟨k,n,cap,xs,ys,l⟩=8):=HS2.out;clear HS2;go_wp2;go_ret;exact⟨Yg HC.out.symm,X3.out⟩
   | true =>
    have HC:Hid (Zf ⟨k,n,cap,xs,ys,l⟩=YD k 0 l):=HS2.out;clear HS2;go_wp2_with (fail);refine(ZaE k n cap _ _ C c l _ (rC.out.ext X3.out fun _ _ h=>h.ext X3.out) lC mC.out).mono ?_;rintro e w4 ⟨rfl,x4⟩;go_wp2;go_ret;exact⟨Yg HC.out.symm,Ext.tr X3.out x4⟩
 ·have hs':(YR k n != 0)=true:=by simpa using hs
  have qHC:Zf ⟨k,n,cap,xs,ys,l⟩=YR k n:=by
   unfold Zf;simp only[if_neg hs]
  have HC:=Hd qHC;clear qHC;clear hs;go_wp2;go_ret;exact⟨Yg HC.out.symm,X2.out⟩
theorem Zek (g:Nat)(lb:Array Value)(p:Int->Bool)(eg:∀ args w,(callFunc g args).run Tryz.prog w=.ok (.enter g args) w)(A:Option Addr)(c:Nat)(xs:List Int)(w:World)(hA:RdI w A xs)(lx:xs.length<=maxLen)(hp:Zei g lb (Value.int .i64) p xs w) :
  Calls Tryz.prog 164 #[.slice A xs.length c,.func (.func g) #[] lb] w fun e w'=>e=.returned (.int .i64 (XD p 0 xs))/\Ext w w':=by
 unfold maxLen at lx;go_enter Tryz.func164,Tryz.ntmps164;go_wp2_with (fail);go_loopw [8] (fun i wr=>∃ j:Nat,i=.int .i64 j/\j<=xs.length/\Hid (XD p 0 xs=XD p j (xs.drop j))/\Ext w wr) (fun i _=>xs.length-(intOf i).toNat)
 case atStart=>exact⟨0,rfl,by omega,by exact rfl,Ext.rf _⟩
 case round =>
  obtain⟨j,rfl,hj,HJ,Y⟩:=hrel
  by_cases hlt:j<xs.length
  ·obtain⟨b,off,x,rfl,_,hc,hx,hd⟩:=(hA.ext Y).at hlt
   have hcall:=hp wr x (List.mem_of_getElem? hx.out) Y;clear hp
   cases hq:p x with
   | true =>
    rw[hq] at hcall;have HR:Hid (XD p 0 xs=j):=by
     have h1:=HJ.out;rw[hd.out,XD,if_pos hq] at h1;exact h1
    clear hq;go_wp2_with (go_at_fn g;refine hcall.mono ?_;rintro e w' ⟨rfl,x'⟩);go_ret;exact⟨Yg HR.out.symm,Ext.tr Y x'⟩
   | false =>
    rw[hq] at hcall;have HR:Hid (XD p 0 xs=XD p (j+1) (xs.drop (j+1))):=by
     have h1:=HJ.out;rw[hd.out,XD,if_neg (by simp[hq])] at h1;exact h1
    clear hq;go_wp2_with (go_at_fn g;refine hcall.mono ?_;rintro e w' ⟨rfl,x'⟩);go_roundw
    case rel=>exact⟨j+1,by go_num,by omega,HR,Ext.tr Y x'⟩
    case measure=>simp[intOf];omega
  ·have hd:=Uc (xs:=xs) (k:=j) (by omega)
   have HR:Hid (XD p 0 xs=-1):=by
    have h1:=HJ.out;rw[hd.out,XD] at h1;exact h1
   clear hd hp;go_wp2;go_ret;exact⟨Yg HR.out.symm,Y⟩
theorem Zel (g:Nat)(lb:Array Value)(p:Int->Bool)(eg:∀ args w,(callFunc g args).run Tryz.prog w=.ok (.enter g args) w)(A:Option Addr)(c:Nat)(xs:List Int)(w:World)(hA:RdI w A xs)(lx:xs.length<=maxLen)(hp:Zei g lb (Value.int .i64) p xs w) :
  Calls Tryz.prog 123 #[.slice A xs.length c,.func (.func g) #[] lb] w fun e w'=>e=.returned (.bool (xs.any p))/\Ext w w':=by
 have H:=Hd (Qz p 0 xs);go_enter Tryz.func123,Tryz.ntmps123;go_wp2_with (fail);refine(Zek g lb p eg A c xs _ hA lx hp).mono ?_;rintro e w' ⟨rfl,x'⟩;clear hp;go_wp2;go_ret;exact⟨Jp H.out,x'⟩
theorem Zc0 (n:Int)(w:World) : Calls Tryz.prog 124 #[.int .i64 n] w fun e w'=>e=.returned (.bool (decide (n<0)))/\Ext w w':=by
 go_enter Tryz.func124,Tryz.ntmps124;go_wp2;go_ret;exact⟨rfl,Ext.rf _⟩
theorem Zad : ∀ args w,(callFunc 124 args).run Tryz.prog w=.ok (.enter 124 args) w:=enters_of Tryz.func124 (by kernel_rfl) rfl
theorem ZaH (A:Option Addr)(c:Nat)(xs:List Int)(w:World)(hA:RdI w A xs)(lx:xs.length<=maxLen) :
  Calls Tryz.prog 123 #[.slice A xs.length c,.func (.func 124) #[] #[]] w fun e w'=>e=.returned (.bool (xs.any fun n=>decide (n<0)))/\Ext w w' :=
 Zel _ #[] (fun n=>decide (n<0)) Zad A c xs w hA lx fun W x _ _=>Zc0 x W
theorem UL (x:Int)(h₀:0<=x)(h₁:x<18446744073709551616) : bits .and .u64 x 4294967295=x%4294967296:=bits_mask .u64 64 (by decide) wraps_u64 32 (by decide) x h₀ h₁
theorem QB {a b:Int}(ha:0<=a)(ha':a<=2147483647)(hb:0<=b)(hb':b<=2147483647) : 0<=a*b/\a*b<=4611686014132420609:=by
 refine⟨Int.mul_nonneg ha hb,?_⟩;have h1:a*b<=2147483647*b:=Int.mul_le_mul_of_nonneg_right ha' hb;omega
theorem Jr (a b:Int)(w:World)(ha:0<=a)(ha':a<=2147483647)(hb:0<=b)(hb':b<=2147483647) :
  Calls Tryz.prog 145 #[.int .u64 a,.int .u64 b] w fun e w'=>e=.returned (.tuple #[.int .u64 0,.int .u64 (a*b)])/\Ext w w':=by
 have ea:Hid (bits BinOp.and IntKind.u64 a 4294967295=a):=by
  have h:=UL a ha (by omega);rw[Int.emod_eq_of_lt ha (by omega)] at h;exact h
 have eb:Hid (bits BinOp.and IntKind.u64 b 4294967295=b):=by
  have h:=UL b hb (by omega);rw[Int.emod_eq_of_lt hb (by omega)] at h;exact h
 have da:Hid (a / 4294967296=0):=Hd (by omega);have db:Hid (b / 4294967296=0):=Hd (by omega);have hm:=QB ha ha' hb hb';have wm:Hid (IntKind.u64.wrap (a*b)=a*b):=wraps_u64 _ hm.1 (by omega);have dm:Hid (∃ q:Int,0<=q/\q<4294967296/\a*b / 4294967296=q):=by
  have h:∃ q:Int,0<=q/\q<4294967296/\a*b / 4294967296=q:=⟨_,by omega,by omega,rfl⟩;exact h
 have w0:Hid (IntKind.u64.wrap 0=0):=Hd (by decide);clear hm;go_enter Tryz.func145,Tryz.ntmps145;go_wp2;refine bodyPost_ret (v:=.tuple #[.int .u64 0,.int .u64 (a*b)]) ?_ rfl ⟨rfl,Ext.rf _⟩;obtain⟨q,hq0,hq1,hq⟩:=dm.out;have w1:=ea.out;have w2:=eb.out;have w3:=da.out;have w4:=db.out;have w5:=wm.out;have w6:=w0.out;have wq:=wraps_u64 q hq0 (by omega);have dq:q / 4294967296=0:=by omega
 have aq:bits BinOp.and IntKind.u64 q 4294967295=q:=by
  have h:=UL q hq0 (by omega);rw[Int.emod_eq_of_lt hq0 hq1] at h;exact h
 simp only[w1,w2,w3,w4,w5,w6,hq,Int.zero_mul,Int.mul_zero,Int.add_zero,Int.zero_add,wq,dq,aq];simp[results,Tryz.results145,go_sem]
theorem QC (a:Int)(w:World)(ha:0<=a)(ha':a<=2147483647) :
  Calls Tryz.prog 180 #[.int .i64 a] w fun e w'=>e=.returned (.int .u64 a)/\Ext w w':=by
 have wm:IntKind.u64.wrap a=a:=wraps_u64 _ ha (by omega);go_enter Tryz.func180,Tryz.ntmps180;go_wp2;go_ret;exact⟨rfl,Ext.rf _⟩
def Xe (a b:Int) : Int:=if a=0\/b=0 then 0 else 1
theorem Qe (a b:Int)(w:World)(ha:0<=a)(ha':a<=2147483647)(hb:0<=b)(hb':b<=2147483647) :
  Calls Tryz.prog 165 #[.int .i64 a,.int .i64 b] w fun e w'=>e=.returned (.tuple #[.int .i64 (Xe a b),.agg #[.int .u64 0,.int .u64 (a*b)]])/\Ext w w':=by
 have na:decide (a<0)=false:=by simpa using ha
 have nb:decide (b<0)=false:=by simpa using hb
 have B0:Hid (Blk (w.alloc (.cells #[.int .u64 0,.int .u64 0] 218)) w.heap.size 218 #[.int .u64 0,.int .u64 0]):=.new rfl;go_enter Tryz.func165,Tryz.ntmps165;go_wp2_with (fail);refine(QC a _ ha ha').mono ?_;rintro e w1 ⟨rfl,x1⟩;go_wp2_with (fail);refine(QC b _ hb hb').mono ?_;rintro e w2 ⟨rfl,x2⟩;go_wp2_with (fail);refine(Jr a b _ ha ha' hb hb').mono ?_;rintro e w3 ⟨rfl,x3⟩;have X3:Ext w w3:=Ext.tr (Ext.tr (Ext.tr ((Ext.rf w).alloc _) x1) x2) x3;have B3:=Hd (((B0.out.ext x1).ext x2).ext x3);have X4:=Hd ((X3.setNew (p:=⟨w.heap.size,0,none⟩) (Nat.le_refl _) (.int .u64 0)).setNew (p:=⟨w.heap.size,1,none⟩) (Nat.le_refl _) (.int .u64 (a*b)));have c0:=B3.out.c0;have c1:=B3.out.c1;have f0:=B3.out.free 0;have f1:=B3.out.free 1;clear X3
 by_cases a0:a=0
 ·subst a0
  have e1:Hid (Xe 0 b=0):=rfl;have e2:Hid ((0:Int)*b=0):=Int.zero_mul b;have X5:Hid (Ext w ((w3.setCell ⟨w.heap.size,0,none⟩ (.int .u64 0)).setCell ⟨w.heap.size,1,none⟩ (.int .u64 0))):=by
   have h:=X4.out;rw[e2.out] at h;exact h
  clear X4;go_wp2;exact bodyPost_ret (v:=.tuple #[.int .i64 0,.agg #[.int .u64 0,.int .u64 0]]) (by simp[results,Tryz.results165,go_sem, *]) rfl ⟨by rw[e1.out,e2.out],X5.out⟩
 ·have a0':(a==0)=false:=by simpa using a0
  by_cases b0:b=0
  ·subst b0
   have e1:Hid (Xe a 0=0):=Hd (by simp[Xe]);have e2:Hid (a*(0:Int)=0):=Int.mul_zero a;have X5:Hid (Ext w ((w3.setCell ⟨w.heap.size,0,none⟩ (.int .u64 0)).setCell ⟨w.heap.size,1,none⟩ (.int .u64 0))):=by
    have h:=X4.out;rw[e2.out] at h;exact h
   clear X4 a0;go_wp2;exact bodyPost_ret (v:=.tuple #[.int .i64 0,.agg #[.int .u64 0,.int .u64 0]]) (by simp[results,Tryz.results165,go_sem, *]) rfl ⟨by rw[e1.out,e2.out],X5.out⟩
  ·have b0':(b==0)=false:=by simpa using b0
   have e1:Hid (Xe a b=1):=Hd (by simp[Xe,a0,b0]);clear a0 b0;go_wp2;exact bodyPost_ret (v:=.tuple #[.int .i64 1,.agg #[.int .u64 0,.int .u64 (a*b)]]) (by simp[results,Tryz.results165,go_sem, *]) rfl ⟨by rw[e1.out],X4.out⟩
def Zae (x y:Int) : Int:=if x=y then 0 else if x<y then -1 else 1
theorem Zc1 (x y:Int)(w:World) : Calls Tryz.prog 166 #[.agg #[.int .u64 0,.int .u64 x],.agg #[.int .u64 0,.int .u64 y]] w fun e w'=>e=.returned (.int .i64 (Zae x y))/\Ext w w':=by
 unfold Zae
 by_cases h:x=y
 ·subst h
  rw[if_pos rfl];go_enter Tryz.func166,Tryz.ntmps166;go_wp2;go_ret;exact⟨rfl,by(repeat (first | assumption | exact Ext.rf _ | apply Ext.drew | apply Ext.drewN | apply Ext.alloc))⟩
 ·rw[if_neg h]
  by_cases h1:x<y
  ·rw[if_pos h1]
   have h':(x==y)=false:=by simpa using h
   clear h;go_enter Tryz.func166,Tryz.ntmps166;go_wp2;go_ret;exact⟨rfl,by(repeat (first | assumption | exact Ext.rf _ | apply Ext.drew | apply Ext.drewN | apply Ext.alloc))⟩
  ·rw[if_neg h1]
   have h':(x==y)=false:=by simpa using h
   clear h;go_enter Tryz.func166,Tryz.ntmps166;go_wp2;go_ret;exact⟨rfl,by(repeat (first | assumption | exact Ext.rf _ | apply Ext.drew | apply Ext.drewN | apply Ext.alloc))⟩
theorem WF (a b:Int) : Xe a b=0\/Xe a b=1:=by unfold Xe;split<;>simp
def VQ (a b c d:Int) : Int:=if Xe a b<Xe c d then -1 else if Xe c d<Xe a b then 1 else Xe a b*Zae (a*b) (c*d)
theorem Zc2 (a b c d:Int)(w:World)(ha:0<=a/\a<=2147483647)(hb:0<=b/\b<=2147483647)(hc:0<=c/\c<=2147483647)(hd:0<=d/\d<=2147483647) :
  Calls Tryz.prog 128 #[.int .i64 a,.int .i64 b,.int .i64 c,.int .i64 d] w fun e w'=>e=.returned (.int .i64 (VQ a b c d))/\Ext w w':=by
 have s1:=WF a b;have s2:=WF c d;have HC:Hid (VQ a b c d=if Xe a b<Xe c d then -1 else if Xe c d<Xe a b then 1 else Xe a b*Zae (a*b) (c*d)):=rfl;have HO:-1<=Zae (a*b) (c*d)/\Zae (a*b) (c*d)<=1:=by unfold Zae;split<;>(try split)<;>omega
 have P1:=Qe a b;have P2:=Qe c d;have M1:=QB ha.1 ha.2 hb.1 hb.2;have M2:=QB hc.1 hc.2 hd.1 hd.2;generalize VQ a b c d=res at *;generalize Xe a b=s at *;generalize Xe c d=t at *;generalize a*b=p at *;generalize c*d=q at *;replace P1:=Hd P1;replace P2:=Hd P2;have O1:=Hd (Zc1 p q);generalize Zae p q=r at *;go_enter Tryz.func128,Tryz.ntmps128;go_wp2_with (fail);refine(P1.out _ ha.1 ha.2 hb.1 hb.2).mono ?_;rintro e w1 ⟨rfl,x1⟩;go_wp2_with (fail);refine(P2.out _ hc.1 hc.2 hd.1 hd.2).mono ?_;rintro e w2 ⟨rfl,x2⟩;have B1:Blk (w1.alloc (.cells #[.int .u64 0,.int .u64 p] 218)) w1.heap.size 218 #[.int .u64 0,.int .u64 p]:=.new rfl;have B2:=Hd (B1.ext x2);have c0:=B2.out.c0;have c1:=B2.out.c1;have lt1:w1.heap.size<w2.heap.size:=B2.out.lt;have X2:Ext w w2:=Ext.tr (Ext.tr x1 ((Ext.rf _).alloc _)) x2;clear B1;rcases s1 with rfl | rfl
 ·rcases s2 with rfl | rfl
  ·go_wp2_with (fail)
   refine(O1.out _).mono ?_;rintro e w3 ⟨rfl,x3⟩;go_wp2;go_ret;exact⟨Yg (by rw[HC.out];simp),Ext.tr (a:=w) (by(repeat (first | assumption | exact Ext.rf _ | apply Ext.drew | apply Ext.drewN | apply Ext.alloc))) x3⟩
  ·go_wp2_with (fail)
   go_ret;exact⟨Yg (by rw[HC.out];simp),by(repeat (first | assumption | exact Ext.rf _ | apply Ext.drew | apply Ext.drewN | apply Ext.alloc))⟩
 ·rcases s2 with rfl | rfl
  ·go_wp2_with (fail)
   go_ret;exact⟨Yg (by rw[HC.out];simp),by(repeat (first | assumption | exact Ext.rf _ | apply Ext.drew | apply Ext.drewN | apply Ext.alloc))⟩
  ·go_wp2_with (fail)
   refine(O1.out _).mono ?_;rintro e w3 ⟨rfl,x3⟩;go_wp2;go_ret;exact⟨Yg (by rw[HC.out];simp),Ext.tr (a:=w) (by(repeat (first | assumption | exact Ext.rf _ | apply Ext.drew | apply Ext.drewN | apply Ext.alloc))) x3⟩
theorem ZbJ {a b c d:Int}(ha:0<=a)(hb:0<=b)(hc:0<=c)(hd:0<=d) : 0<VQ a b c d↔c*d<a*b:=by
 have hp:=Int.mul_nonneg ha hb;have hq:=Int.mul_nonneg hc hd;have z1:Xe a b=0↔a*b=0:=by unfold Xe;rw[Int.mul_eq_zero];split<;>simp_all
 have z2:Xe c d=0↔c*d=0:=by unfold Xe;rw[Int.mul_eq_zero];split<;>simp_all
 have s1:=WF a b;have s2:=WF c d;unfold VQ;generalize Xe a b=s at *;generalize Xe c d=t at *;generalize a*b=p at *;generalize c*d=q at *;rcases s1 with rfl | rfl<;>rcases s2 with rfl | rfl<;>simp at * <;> (try unfold Zae)<;>(try (split<;>(try split)))<;>omega
def ZE (lt:Nat->Nat->Bool) : Nat->List Nat->List Nat
 | 0,p=>p
 | f+1,p=>if p.length<2 then p else List.merge (ZE lt f (p.take (p.length / 2))) (ZE lt f (p.drop (p.length / 2))) (fun x y => !lt y x)
theorem ZP (lt:Nat->Nat->Bool) : ∀ (f:Nat) (p:List Nat),(ZE lt f p).Perm p
 | 0,p=>List.Perm.refl p
 | f+1,p=>by
  unfold ZE;split
  ·exact List.Perm.refl p
  ·refine(List.merge_perm_append _).trans ?_
   have h:=(ZP lt f (p.take (p.length / 2))).append (ZP lt f (p.drop (p.length / 2)))
   rwa [List.take_append_drop] at h
theorem QD (lt:Nat->Nat->Bool)(f:Nat)(p:List Nat) : (ZE lt f p).length=p.length:=(ZP lt f p).length_eq
def strictly (lt:Nat->Nat->Bool)(a b:Nat) : Prop:=lt a b=true\/(lt b a=false/\a<b)
structure Weak (lt:Nat->Nat->Bool) : Prop where
 asym:∀ a b,lt a b=true->lt b a=false
 neg:∀ a b c,lt a c=true->lt a b=true\/lt b c=true
theorem Weak.trans {lt:Nat->Nat->Bool}(h:Weak lt){a b c:Nat}(h1:strictly lt a b)(h2:strictly lt b c) : strictly lt a c:=by
 rcases h1 with h1 | ⟨h1,l1⟩<;>rcases h2 with h2 | ⟨h2,l2⟩
 ·rcases h.neg a c b h1 with h3 | h3
  ·exact .inl h3
  ·rw[h.asym b c h2] at h3;cases h3
 ·rcases h.neg a c b h1 with h3 | h3
  ·exact .inl h3
  ·rw[h2] at h3;cases h3
 ·rcases h.neg b a c h2 with h3 | h3
  ·rw[h1] at h3;cases h3
  ·exact .inl h3
 ·refine .inr ⟨?_,by omega⟩
  cases h3:lt c a with
  | false=>rfl
  | true =>
   rcases h.neg c b a h3 with h4 | h4
   ·rw[h2] at h4;cases h4
   ·rw[h1] at h4;cases h4
theorem Weak.irrefl {lt:Nat->Nat->Bool}(h:Weak lt)(a:Nat) : ¬strictly lt a a:=by
 rintro (h1 | ⟨_,h1⟩)
 ·have:=h.asym a a h1;rw[h1] at this;cases this
 ·omega
theorem Weak.asymm {lt:Nat->Nat->Bool}(h:Weak lt){a b:Nat}(h1:strictly lt a b) : ¬strictly lt b a:=fun h2=>h.irrefl a (h.trans h1 h2)
theorem WG {lt:Nat->Nat->Bool}(h:Weak lt) : ∀ (n:Nat) (l r:List Nat),l.length+r.length<=n->l.Pairwise (strictly lt)->r.Pairwise (strictly lt)->(∀ a∈l,∀ b∈r,a<b)->(List.merge l r (fun x y => !lt y x)).Pairwise (strictly lt)
 | n,[],r,_,_,hr,_=>by rw[List.nil_merge];exact hr
 | n,a::l,[],_,hl,_,_=>by rw[List.merge_right];exact hl
 | 0,a::l,b::r,hn,_,_,_=>by simp at hn
 | n+1,a::l,b::r,hn,hl,hr,hlt=>by
  rw[List.cons_merge_cons];have hl':=List.pairwise_cons.1 hl;have hr':=List.pairwise_cons.1 hr;split
  ·rename_i hab
   have hab':lt b a=false:=by simpa using hab
   have R:strictly lt a b:=.inr ⟨hab',hlt a (by simp) b (by simp)⟩;refine List.pairwise_cons.2 ⟨fun x hx=>?_,WG h n l (b::r) (by simp at hn ⊢;omega) hl'.2 hr (fun x hx y hy=>hlt x (by simp[hx]) y hy)⟩;rcases List.mem_merge.1 hx with hx | hx
   ·exact hl'.1 x hx
   ·rcases List.mem_cons.1 hx with rfl | hx
    ·exact R
    ·exact h.trans R (hr'.1 x hx)
  ·rename_i hab
   have hab':lt b a=true:=by simpa using hab
   have R:strictly lt b a:=.inl hab';refine List.pairwise_cons.2 ⟨fun x hx=>?_,WG h n (a::l) r (by simp at hn ⊢;omega) hl hr'.2 (fun x hx y hy=>hlt x hx y (by simp[hy]))⟩;rcases List.mem_merge.1 hx with hx | hx
   ·rcases List.mem_cons.1 hx with rfl | hx
    ·exact R
    ·exact h.trans R (hl'.1 x hx)
   ·exact hr'.1 x hx
theorem Xk {lt:Nat->Nat->Bool}(h:Weak lt) : ∀ (f:Nat) (p:List Nat),p.length<=f+1->p.Pairwise (· < ·)->(ZE lt f p).Pairwise (strictly lt)
 | 0,p,hf,_=>by
  match p,hf with
  | [],_=>exact List.Pairwise.nil
  | [a],_=>exact List.pairwise_singleton _ _
 | f+1,p,hf,hp=>by
  unfold ZE;split
  ·rename_i h2
   match p,h2 with
   | [],_=>exact List.Pairwise.nil
   | [a],_=>exact List.pairwise_singleton _ _
  ·rename_i h2
   refine WG h _ _ _ (Nat.le_refl _) (Xk h f _ (by simp;omega) (hp.sublist (List.take_sublist _ _))) (Xk h f _ (by simp;omega) (hp.sublist (List.drop_sublist _ _))) ?_;intro a ha b hb;rw[(ZP lt f _).mem_iff] at ha hb;have:=List.pairwise_append.1 (by rw[List.take_append_drop (p.length / 2) p];exact hp);exact this.2.2 a ha b hb
def Yk (v w:List Int)(a b:Nat) : Bool :=
 if w.getD b 0=0 then false else if w.getD a 0=0 then true else decide (v.getD b 0*w.getD a 0<v.getD a 0*w.getD b 0)
theorem Wf {w:List Int}(hw:∀ x∈w,0<=x)(a:Nat) : 0<=w.getD a 0:=by
 rw[List.getD_eq_getElem?_getD]
 cases h:w[a]? with
 | none=>simp
 | some x=>exact hw x (List.mem_of_getElem? h)
theorem Qf {v w:List Int}(hw:∀ x∈w,0<=x) : Weak (Yk v w):=by
 have nn:=Wf hw
 constructor
 ·intro a b hab
  unfold Yk at hab ⊢;have na:=nn a;have nb:=nn b
  by_cases b0:w.getD b 0=0
  ·rw[if_pos b0] at hab;cases hab
  ·rw[if_neg b0] at hab
   by_cases a0:w.getD a 0=0
   ·rw[if_pos a0]
   ·rw[if_neg a0] at hab
    rw[if_neg a0,if_neg b0];have:=of_decide_eq_true hab;exact decide_eq_false (by omega)
 ·intro a b c hac
  unfold Yk at hac ⊢;have na:=nn a;have nb:=nn b;have nc:=nn c
  by_cases c0:w.getD c 0=0
  ·rw[if_pos c0] at hac;cases hac
  ·rw[if_neg c0] at hac
   rw[if_neg c0]
   by_cases b0:w.getD b 0=0
   ·right;rw[if_pos b0]
   ·rw[if_neg b0,if_neg b0]
    by_cases a0:w.getD a 0=0
    ·left;rw[if_pos a0]
    ·rw[if_neg a0] at hac ⊢
     have h1:=of_decide_eq_true hac;generalize v.getD a 0=va at *;generalize v.getD b 0=vb at *;generalize v.getD c 0=vc at *;generalize w.getD a 0=wa at *;generalize w.getD b 0=wb at *;generalize w.getD c 0=wc at *
     by_cases h2:vb*wa<va*wb
     ·left;exact decide_eq_true h2
     ·right
      refine decide_eq_true ?_;have h3:va*wb<=vb*wa:=by omega
      have h4:wb*(vc*wa)<wb*(va*wc):=Int.mul_lt_mul_of_pos_left h1 (by omega);have h5:wc*(va*wb)<=wc*(vb*wa):=Int.mul_le_mul_of_nonneg_left h3 nc;have e1:wb*(vc*wa)=wa*(vc*wb):=by rw[Int.mul_comm vc wa,<-Int.mul_assoc,Int.mul_comm wb wa,Int.mul_assoc,Int.mul_comm wb vc]
      have e2:wb*(va*wc)=wc*(va*wb):=by rw[Int.mul_comm va wc,<-Int.mul_assoc,Int.mul_comm wb wc,Int.mul_assoc,Int.mul_comm wb va]
      have e3:wc*(vb*wa)=wa*(vb*wc):=by rw[Int.mul_comm vb wa,<-Int.mul_assoc,Int.mul_comm wc wa,Int.mul_assoc,Int.mul_comm wc vb]
      rw[e1,e2] at h4;rw[e3] at h5;exact Int.lt_of_mul_lt_mul_left (Int.lt_of_lt_of_le h4 h5) na
def ZU (v w:List Int) : List Nat:=ZE (Yk v w) v.length (List.range v.length)
theorem Wg (v w:List Int) : (ZU v w).Perm (List.range v.length):=ZP _ _ _
theorem QE (v w:List Int) : (ZU v w).length=v.length:=by rw[(Wg v w).length_eq,List.length_range]
theorem Jj {v w:List Int}(hw:∀ x∈w,0<=x) : (ZU v w).Pairwise (strictly (Yk v w)) :=
 Xk (Qf hw) _ _ (by simp) List.pairwise_lt_range
theorem ZbK {v w:List Int}{a:Nat} : a∈ZU v w↔a<v.length:=by rw[(Wg v w).mem_iff,List.mem_range]
theorem Zc3 {v w:List Int}{k a:Nat}(h:(ZU v w)[k]?=some a) : a<v.length:=ZbK.1 (List.mem_of_getElem? h)
def stP (room out:Int) : List Int->List Int->List Int->Option (Int×Int)
 | _,_,[]=>some (room,out)
 | w::ws,v::vs,x::p=>if x=1 then(if room-w<0 then none else stP (room-w) out ws vs p) else if x=0 then(if room<0 then none else stP room (out+v) ws vs p) else none
 | _,_,_::_=>none
def Zr (room:Int) : List Int->List Int->Int
 | w::ws,v::vs=>if room<w then v*room / w else v+Zr (room-w) ws vs
 | _,_=>0
def Zj : List Int->Int
 | []=>0
 | x::l=>x+Zj l
def WT (cap:Int)(ws vs p:List Int) : List Int×Int :=
 match stP cap 0 ws vs p with
 | none=>([],1)
 | some (room,_)=>match ws.drop p.length with
  | []=>([],0)
  | w::_=>if w<=room then([1,0],0) else([0],0)
def YH (cap:Int)(ws vs p:List Int) : Int×Int :=
 match stP cap 0 ws vs p with
 | none=>(0,1)
 | some (room,out)=>(out+Zj (vs.drop p.length)-Zr room (ws.drop p.length) (vs.drop p.length),0)
theorem Uf {ws vs:List Int} : ∀ {p:List Int} {room out:Int},ws.length<p.length->stP room out ws vs p=none:=by
 induction ws generalizing vs with
 | nil =>
  intro p room out h
  cases p with
  | nil=>simp at h
  | cons x p=>rfl
 | cons w ws ih =>
  intro p room out h
  cases p with
  | nil=>simp at h
  | cons x p =>
   cases vs with
   | nil=>rfl
   | cons v vs =>
    have h':ws.length<p.length:=by simpa using h
    unfold stP;rw[ih h',ih h'];split<;>(try split)<;>(try split)<;>rfl
theorem Ug {ws vs:List Int} : ∀ {p:List Int} {room out r o:Int},(∀ x∈ws,0<=x)->0<=room->stP room out ws vs p=some (r,o)->0<=r/\r<=room:=by
 induction ws generalizing vs with
 | nil =>
  intro p room out r o _ h0 h
  cases p with
  | nil=>simp[stP] at h;omega
  | cons x p=>simp[stP] at h
 | cons w ws ih =>
  intro p room out r o hw h0 h
  cases p with
  | nil=>simp[stP] at h;omega
  | cons x p =>
   cases vs with
   | nil=>simp[stP] at h
   | cons v vs =>
    unfold stP at h;have hw0:0<=w:=hw w (by simp);have hw':∀ x∈ws,0<=x:=fun x hx=>hw x (by simp[hx])
    split at h
    ·split at h
     ·cases h
     ·have:=ih hw' (by omega) h;omega
    ·split at h
     ·split at h
      ·cases h
      ·exact ih hw' h0 h
     ·cases h
theorem Zaf {ws vs:List Int} : ∀ {p:List Int} {room out r o:Int},(∀ x∈vs,0<=x/\x<=2147483647)->stP room out ws vs p=some (r,o)->out<=o/\o<=out+2147483647*p.length:=by
 induction ws generalizing vs with
 | nil =>
  intro p room out r o _ h
  cases p with
  | nil=>simp[stP] at h;simp;omega
  | cons x p=>simp[stP] at h
 | cons w ws ih =>
  intro p room out r o hv h
  cases p with
  | nil=>simp[stP] at h;simp;omega
  | cons x p =>
   cases vs with
   | nil=>simp[stP] at h
   | cons v vs =>
    unfold stP at h;have hv0:=hv v (by simp);have hv':∀ x∈vs,0<=x/\x<=2147483647:=fun x hx=>hv x (by simp[hx])
    simp only[List.length_cons,Int.natCast_add,Int.natCast_one];split at h
    ·split at h
     ·cases h
     ·have:=ih hv' h;omega
    ·split at h
     ·split at h
      ·cases h
      ·have:=ih hv' h;omega
     ·cases h
theorem Zcz {ws vs:List Int} : ∀ {p q:List Int} {room out:Int},stP room out ws vs (p++q)=(stP room out ws vs p).bind fun(r,o)=>stP r o (ws.drop p.length) (vs.drop p.length) q:=by
 induction ws generalizing vs with
 | nil =>
  intro p q room out
  cases p with
  | nil=>simp[stP]
  | cons x p=>simp[stP]
 | cons w ws ih =>
  intro p q room out
  cases p with
  | nil=>simp[stP]
  | cons x p =>
   cases vs with
   | nil=>simp[stP]
   | cons v vs =>
    simp only[List.cons_append,stP,List.length_cons,List.drop_succ_cons];rw[ih,ih];split<;>(try split)<;>(try split)<;>rfl
theorem WZ : ∀ {ws vs:List Int} {room:Int},0<=room->(∀ x∈ws,0<=x)->(∀ x∈vs,0<=x)->0<=Zr room ws vs
 | [],vs,room,_,_,_=>by cases vs<;>simp[Zr]
 | w::ws,[],room,_,_,_=>by simp[Zr]
 | w::ws,v::vs,room,h0,hw,hv=>by
  unfold Zr;have hv0:=hv v (by simp);have hw0:=hw w (by simp);split
  ·exact Int.ediv_nonneg (Int.mul_nonneg hv0 h0) hw0
  ·have:=WZ (ws:=ws) (vs:=vs) (room:=room-w) (by omega) (fun x hx=>hw x (by simp[hx])) (fun x hx=>hv x (by simp[hx]))
   omega
theorem YK : ∀ {vs:List Int},(∀ x∈vs,0<=x)->0<=Zj vs
 | [],_=>by simp[Zj]
 | v::vs,hv=>by
  have:=hv v (by simp);have:=YK (vs:=vs) fun x hx=>hv x (by simp[hx])
  simp only[Zj];omega
theorem VR : ∀ {ws vs:List Int} {room:Int},0<=room->(∀ x∈ws,0<=x)->(∀ x∈vs,0<=x)->Zr room ws vs<=Zj vs
 | [],vs,room,_,_,hv=>by
  have:0<=Zj vs:=YK hv
  cases vs<;>simpa [Zr] using this
 | w::ws,[],room,_,_,_=>by simp[Zr,Zj]
 | w::ws,v::vs,room,h0,hw,hv=>by
  unfold Zr Zj;have hv0:=hv v (by simp);have hw0:=hw w (by simp);have hs:0<=Zj vs:=YK fun x hx=>hv x (by simp[hx])
  split
  ·rename_i h
   have h1:v*room<=v*w:=Int.mul_le_mul_of_nonneg_left (by omega) hv0;have h2:v*room / w<=v*w / w:=Int.ediv_le_ediv (by omega) h1;rw[Int.mul_ediv_cancel _ (by omega)] at h2;omega
  ·have:=VR (ws:=ws) (vs:=vs) (room:=room-w) (by omega) (fun x hx=>hw x (by simp[hx])) (fun x hx=>hv x (by simp[hx]))
   omega
def ZaI (w0 v0:Int) : List Int->List Int->Prop
 | w::ws,v::vs=>v*w0<=v0*w/\ZaI w0 v0 ws vs
 | _,_=>True
def Falls : List Int->List Int->Prop
 | w::ws,v::vs=>ZaI w v ws vs/\Falls ws vs
 | _,_=>True
theorem WH {w0 v0:Int}(h0:0<=w0) : ∀ {ws vs:List Int} {room:Int},0<=room->0<=v0->(∀ x∈ws,0<=x)->(∀ x∈vs,0<=x)->ZaI w0 v0 ws vs->w0*Zr room ws vs<=v0*room
 | [],vs,room,hr,hv0,_,_,_=>by
  have:0<=v0*room:=Int.mul_nonneg hv0 hr
  cases vs<;>simpa [Zr] using this
 | w::ws,[],room,hr,hv0,_,_,_=>by
  have:0<=v0*room:=Int.mul_nonneg hv0 hr
  simpa [Zr] using this
 | w::ws,v::vs,room,hr,hv0,hw,hv,hu=>by
  unfold Zr;have hw0:=hw w (by simp);have hvv:=hv v (by simp);obtain⟨hu1,hu2⟩:=hu;split
  ·rename_i hlt
   have hpos:0<w:=by omega
   have h1:v*room / w*w<=v*room:=Int.ediv_mul_le _ (by omega);have h2:w0*(v*room / w*w)<=w0*(v*room):=Int.mul_le_mul_of_nonneg_left h1 h0;have h3:room*(v*w0)<=room*(v0*w):=Int.mul_le_mul_of_nonneg_left hu1 hr;have e1:w0*(v*room / w*w)=w*(w0*(v*room / w)):=by rw[Int.mul_comm (v*room / w) w,<-Int.mul_assoc,Int.mul_comm w0 w,Int.mul_assoc]
   have e2:w0*(v*room)=room*(v*w0):=by rw[<-Int.mul_assoc,Int.mul_comm (w0*v) room,Int.mul_comm w0 v]
   have e3:room*(v0*w)=w*(v0*room):=by rw[<-Int.mul_assoc,Int.mul_comm (room*v0) w,Int.mul_comm room v0]
   rw[e1,e2] at h2;rw[e3] at h3;exact Int.le_of_mul_le_mul_left (Int.le_trans h2 h3) hpos
  ·have ih:=WH h0 (ws:=ws) (vs:=vs) (room:=room-w) (by omega) hv0 (fun x hx=>hw x (by simp[hx])) (fun x hx=>hv x (by simp[hx])) hu2
   rw[Int.mul_add,Int.mul_comm w0 v];rw[Int.mul_sub] at ih;omega
theorem Qg {w0 v0:Int}(h0:0<=w0) : ∀ {ws vs:List Int} {room:Int},w0<=room->0<=v0->(∀ x∈ws,0<=x)->(∀ x∈vs,0<=x)->ZaI w0 v0 ws vs->Falls ws vs->Zr room ws vs<=v0+Zr (room-w0) ws vs
 | [],vs,room,hr,hv0,_,_,_,_=>by cases vs<;>simpa [Zr] using hv0
 | w::ws,[],room,hr,hv0,_,_,_,_=>by simpa [Zr] using hv0
 | w::ws,v::vs,room,hr,hv0,hw,hv,hu,hf=>by
  have hw0:=hw w (by simp);have hvv:=hv v (by simp);obtain⟨hu1,hu2⟩:=hu;obtain⟨hf1,hf2⟩:=hf;have hw':∀ x∈ws,0<=x:=fun x hx=>hw x (by simp[hx])
  have hv':∀ x∈vs,0<=x:=fun x hx=>hv x (by simp[hx])
  simp only[Zr]
  by_cases a1:room<w
  ·rw[if_pos a1,if_pos (by omega)]
   have hpos:0<w:=by omega
   have e:v*room<=v*(room-w0)+v0*w:=by rw[Int.mul_sub];omega
   have h1:v*room / w<=(v*(room-w0)+v0*w) / w:=Int.ediv_le_ediv hpos e;rw[Int.add_mul_ediv_right _ _ (by omega)] at h1;omega
  ·rw[if_neg a1]
   by_cases a2:room-w0<w
   ·rw[if_pos a2]
    have hpos:0<w:=by omega
    have h1:=WH hw0 (ws:=ws) (vs:=vs) (room:=room-w) (by omega) hvv hw' hv' hf1;have h2:v+Zr (room-w) ws vs-v0<=v*(room-w0) / w:=by
     rw[Int.le_ediv_iff_mul_le hpos];rw[Int.mul_comm,Int.mul_sub,Int.mul_add,Int.mul_sub];rw[Int.mul_sub] at h1;rw[Int.mul_comm w v,Int.mul_comm w v0];omega
    omega
   ·rw[if_neg a2]
    have ih:=Qg h0 (ws:=ws) (vs:=vs) (room:=room-w) (by omega) hv0 hw' hv' hu2 hf2;have e:room-w-w0=room-w0-w:=by omega
    rw[e] at ih;omega
theorem Zag {w v:Int}{ws vs:List Int}{room:Int}(hr:0<=room)(hw:∀ x∈w::ws,0<=x)(hv:∀ x∈v::vs,0<=x)(hf:Falls (w::ws) (v::vs)) : Zr room ws vs<=Zr room (w::ws) (v::vs):=by
 have hw0:=hw w (by simp);have hv0:=hv v (by simp);have hw':∀ x∈ws,0<=x:=fun x hx=>hw x (by simp[hx])
 have hv':∀ x∈vs,0<=x:=fun x hx=>hv x (by simp[hx])
 obtain⟨hu,hf'⟩:=hf
 conv=>rhs;unfold Zr
 split
 ·rename_i h
  have hpos:0<w:=by omega
  have h1:=WH hw0 hr hv0 hw' hv' hu;rw[Int.le_ediv_iff_mul_le hpos,Int.mul_comm];exact h1
 ·exact Qg hw0 (by omega) hv0 hw' hv' hu hf'
def Zl (l:List Nat)(v:List Int) : List Int:=l.map fun n=>v.getD n 0
theorem ZaJ {v w:List Int}{a:Nat}(hv:∀ x∈v,0<=x)(hw:∀ x∈w,0<=x) : ∀ {l:List Nat},(∀ b∈l,strictly (Yk v w) a b)->ZaI (w.getD a 0) (v.getD a 0) (Zl l w) (Zl l v)
 | [],_=>trivial
 | b::l,h=>by
  refine⟨?_,ZaJ hv hw (l:=l) fun c hc=>h c (by simp[hc])⟩;have hb:=h b (by simp);have h2:Yk v w b a=false:=by
   rcases hb with hb | ⟨hb,_⟩
   ·exact(Qf hw).asym _ _ hb
   ·exact hb
  unfold Yk at h2;have va:=Wf hv a;have wa:=Wf hw a;have wb:=Wf hw b
  by_cases a0:w.getD a 0=0
  ·rw[a0,Int.mul_zero];exact Int.mul_nonneg va wb
  ·rw[if_neg a0] at h2
   by_cases b0:w.getD b 0=0
   ·rw[if_pos b0] at h2;cases h2
   ·rw[if_neg b0] at h2
    have:=of_decide_eq_false h2;show v.getD b 0*w.getD a 0<=v.getD a 0*w.getD b 0;omega
theorem ZaK {v w:List Int}(hv:∀ x∈v,0<=x)(hw:∀ x∈w,0<=x) : ∀ {l:List Nat},l.Pairwise (strictly (Yk v w))->Falls (Zl l w) (Zl l v)
 | [],_=>trivial
 | a::l,h=>by
  have h':=List.pairwise_cons.1 h;exact⟨ZaJ hv hw h'.1,ZaK hv hw h'.2⟩
theorem Falls.drop : ∀ {k:Nat} {ws vs:List Int},Falls ws vs->Falls (ws.drop k) (vs.drop k)
 | 0,ws,vs,h=>h
 | k+1,[],vs,h=>by simp[Falls]
 | k+1,w::ws,[],h=>by simp[Falls]
 | k+1,w::ws,v::vs,h=>by rw[List.drop_succ_cons,List.drop_succ_cons];exact Falls.drop h.2
def Z0 (room out:Int) : List Int->List Int->Int
 | w::ws,v::vs=>if w<=room then(if Z0 room (out+v) ws vs<Z0 (room-w) out ws vs then Z0 room (out+v) ws vs else Z0 (room-w) out ws vs) else Z0 room (out+v) ws vs
 | _,_=>out
theorem QF : ∀ {ws vs:List Int} {room out:Int},0<=room->(∀ x∈ws,0<=x)->(∀ x∈vs,0<=x)->ws.length=vs.length->Falls ws vs->out+Zj vs-Zr room ws vs<=Z0 room out ws vs
 | [],[],room,out,_,_,_,_,_=>by simp[Zj,Zr,Z0]
 | [],_::_,_,_,_,_,_,h,_=>by simp at h
 | _::_,[],_,_,_,_,_,h,_=>by simp at h
 | w::ws,v::vs,room,out,h0,hw,hv,hl,hf=>by
  have hfr:=Zag h0 hw hv hf;have hw':∀ x∈ws,0<=x:=fun x hx=>hw x (by simp[hx])
  have hv':∀ x∈vs,0<=x:=fun x hx=>hv x (by simp[hx])
  have hl':ws.length=vs.length:=by simpa using hl
  have h1:=QF (out:=out+v) h0 hw' hv' hl' hf.2;unfold Z0;simp only[Zj];split
  ·rename_i hle
   have h2:=QF (room:=room-w) (out:=out) (by omega) hw' hv' hl' hf.2;have e:Zr room (w::ws) (v::vs)=v+Zr (room-w) ws vs:=by rw[Zr,if_neg (by omega)]
   rw[e] at hfr ⊢;split<;>omega
  ·omega
theorem Yx : ∀ {ws vs:List Int} {room out:Int},0<=out->(∀ x∈vs,0<=x)->0<=Z0 room out ws vs
 | [],vs,room,out,h,_=>by cases vs<;>simpa [Z0] using h
 | w::ws,[],room,out,h,_=>by simpa [Z0] using h
 | w::ws,v::vs,room,out,h,hv=>by
  have hv0:=hv v (by simp);have hv':∀ x∈vs,0<=x:=fun x hx=>hv x (by simp[hx])
  have h1:=Yx (ws:=ws) (vs:=vs) (room:=room) (out:=out+v) (by omega) hv';have h2:=Yx (ws:=ws) (vs:=vs) (room:=room-w) (out:=out) h hv';unfold Z0;split
  ·split<;>assumption
  ·assumption
theorem YL {a b:List Int}(h:a.Perm b) : Zj a=Zj b:=by
 induction h with
 | nil=>rfl
 | cons x _ ih=>simp[Zj,ih]
 | swap x y l=>simp[Zj];omega
 | trans _ _ h1 h2=>rw[h1,h2]
theorem Zem (a b:List Int) : Zj (a++b)=Zj a+Zj b:=by
 induction a with
 | nil=>simp[Zj]
 | cons x a ih=>simp[Zj,ih];omega
def UM (l:List Nat)(p:List Int) : Nat->List Int
 | 0=>List.replicate l.length 0
 | k+1=>(UM l p k).set (l.getD k 0) (p.getD k 0)
theorem Uh (l:List Nat)(p:List Int) : ∀ k,(UM l p k).length=l.length
 | 0=>by simp[UM]
 | k+1=>by simp[UM,Uh l p k]
theorem ZcA {l:List Nat}{p:List Int}(hn:l.Nodup)(hl:∀ a∈l,a<l.length) : ∀ k,k<=l.length->∀ j,j<k->(UM l p k)[l.getD j 0]?=some (p.getD j 0)
 | 0,_,j,h=>by omega
 | k+1,hk,j,h=>by
  unfold UM;have ek:l.getD k 0=l[k]:=by simp[List.getD,List.getElem?_eq_getElem (show k<l.length by omega)]
  have ej:l.getD j 0=l[j]:=by simp[List.getD,List.getElem?_eq_getElem (show j<l.length by omega)]
  by_cases hj:j=k
  ·subst hj
   rw[List.getElem?_set_self (by rw[Uh,ek];exact hl _ (List.getElem_mem _))]
  ·have hne:l.getD k 0≠l.getD j 0:=fun h'=>hj (((List.getElem?_inj (i:=j) (j:=k) (by omega) hn).1 (by
    rw[List.getElem?_eq_getElem (show k<l.length by omega),List.getElem?_eq_getElem (show j<l.length by omega),<-ek,<-ej,h'])))
   rw[List.getElem?_set_ne hne,ZcA hn hl k (by omega) j (by omega)]
def Zw (x ws:List Int) : Int:=Zj (List.zipWith (fun x w=>if x=1 then w else 0) x ws)
def ZI (x vs:List Int) : Int:=Zj (List.zipWith (fun x v=>if x=1 then 0 else v) x vs)
theorem W4 (f:Int->Int->Int) : ∀ (k:Nat) (x ws:List Int) {v u:Int},x[k]?=some v->ws[k]?=some u->Zj (List.zipWith f (x.take (k+1)) ws)=Zj (List.zipWith f (x.take k) ws)+f v u
 | 0,_::_,_::_,_,_,h1,h2=>by
  simp only[List.getElem?_cons_zero,Option.some.injEq] at h1 h2;subst h1 h2;simp[Zj]
 | k+1,_::x,_::ws,v,u,h1,h2=>by
  have h:=W4 f k x ws (v:=v) (u:=u) (by simpa using h1) (by simpa using h2);simp only[List.take_succ_cons,List.zipWith_cons_cons,Zj] at h ⊢;omega
 | _,[],_,_,_,h1,_=>by simp at h1
 | _,_::_,[],_,_,_,h2=>by simp at h2
def Xp (cap:Int)(ws vs x:List Int) : Int×Int:=if cap<Zw x ws then(0,9) else(ZI x vs,0)
theorem YS (f:Int->Int->Int)(x w:List Int)(h:x.length=w.length) : List.zipWith f x w=(List.range x.length).map fun j=>f (x.getD j 0) (w.getD j 0):=by
 apply List.ext_getElem
 ·simp[h]
 ·intro k h1 h2
  have k1:k<x.length:=by simp at h2;omega
  have k2:k<w.length:=by omega
  simp[List.getD,List.getElem?_eq_getElem k1,List.getElem?_eq_getElem k2]
theorem Ui (f:Int->Int->Int){l:List Nat}{n:Nat}(hp:l.Perm (List.range n)){p w:List Int}(lp:p.length=n)(lw:w.length=n) :
  Zj (List.zipWith f (UM l p n) w)=Zj (List.zipWith f p (Zl l w)):=by
 have hl:l.length=n:=by rw[hp.length_eq,List.length_range]
 have hnd:l.Nodup:=hp.nodup_iff.2 List.nodup_range;have hlt:∀ a∈l,a<l.length:=fun a ha=>by rw[hl];exact List.mem_range.1 (hp.mem_iff.1 ha)
 have la:(UM l p n).length=n:=by rw[Uh,hl]
 rw[YS f _ w (by rw[la,lw]),la,<-YL (hp.map _),YS f p (Zl l w) (by simp[Zl,lp,hl]),lp]
 congr 1
 apply List.ext_getElem
 ·simp[hl]
 ·intro k h1 h2
  have hk:k<l.length:=by simpa using h1
  have hk':k<n:=by omega
  simp only[List.getElem_map,List.getElem_range];have e1:(UM l p n).getD (l[k]) 0=p.getD k 0:=by
   have h:=ZcA (p:=p) hnd hlt n (by omega) k hk';have ek:l.getD k 0=l[k]:=by simp[List.getD,List.getElem?_eq_getElem hk]
   rw[ek] at h;simp[List.getD,h]
  have e2:(Zl l w).getD k 0=w.getD (l[k]) 0:=by
   unfold Zl;simp[List.getD,List.getElem?_map,List.getElem?_eq_getElem hk]
  rw[e1,e2]
theorem ZcB {l:List Nat}{p:List Int}(h:∀ x∈p,x=0\/x=1) : ∀ k,∀ x∈UM l p k,x=0\/x=1
 | 0,x,hx=>.inl (List.eq_of_mem_replicate hx)
 | k+1,x,hx=>by
  rcases List.mem_or_eq_of_mem_set hx with h1 | h1
  ·exact ZcB h k x h1
  ·subst h1
   cases hv:p[k]? with
   | none=>simp[List.getD,hv]
   | some y=>simpa [List.getD,hv] using h y (List.mem_of_getElem? hv)
def Xy (cap:Int)(ws vs p:List Int) : Int:=match stP cap 0 ws vs p with
 | none=>-1
 | some (r,o)=>Z0 r o (ws.drop p.length) (vs.drop p.length)
section
variable {cap:Int} {ws vs p ws' vs':List Int} {r o w v:Int}
theorem Vu {l l' p:List Int}{x y:Int}(h:l.drop p.length=x::l') : l.drop (p++[y]).length=l':=by
 have h1:=congrArg List.tail h;rw[List.tail_drop] at h1
 simpa using h1
theorem Wp (h:stP cap 0 ws vs p=some (r,o)) : Xy cap ws vs p=Z0 r o (ws.drop p.length) (vs.drop p.length):=by unfold Xy;rw[h]
theorem Js (h:stP cap 0 ws vs p=some (r,o))(hw:ws.drop p.length=w::ws')(hv:vs.drop p.length=v::vs')(hle:w<=r) : stP cap 0 ws vs (p++[1])=some (r-w,o):=by
 rw[Zcz,h];simp only[Option.bind_some,hw,hv,stP,if_true];rw[if_neg (by omega)]
theorem UN (h:stP cap 0 ws vs p=some (r,o))(hw:ws.drop p.length=w::ws')(hv:vs.drop p.length=v::vs')(h0:0<=r) : stP cap 0 ws vs (p++[0])=some (r,o+v):=by
 rw[Zcz,h];simp only[Option.bind_some,hw,hv,stP,if_true];rw[if_neg (by decide),if_neg (by omega)]
theorem ZaL (h:stP cap 0 ws vs p=some (r,o))(hw:ws.drop p.length=w::ws')(hv:vs.drop p.length=v::vs')(hle:w<=r) : Xy cap ws vs (p++[1])=Z0 (r-w) o ws' vs':=by
 rw[Wp (Js h hw hv hle),Vu hw,Vu hv]
theorem QG (h:stP cap 0 ws vs p=some (r,o))(hw:ws.drop p.length=w::ws')(hv:vs.drop p.length=v::vs')(h0:0<=r) : Xy cap ws vs (p++[0])=Z0 r (o+v) ws' vs':=by
 rw[Wp (UN h hw hv h0),Vu hw,Vu hv]
end
def ZK (f:Int->Int) : Int->List Int->Int
 | b,[]=>b
 | b,x::l=>ZK f (if b<0 then f x else if f x<b then f x else b) l
theorem ZaM {cap:Int}{ws vs p:List Int}{r o:Int}(h:stP cap 0 ws vs p=some (r,o))(h0:0<=r)(hl:p.length<ws.length)(hlv:ws.length=vs.length)(hv0:∀ x∈vs,0<=x)(ho:0<=o) :
  ZK (fun x=>Xy cap ws vs (p++[x])) (-1) (WT cap ws vs p).1=Xy cap ws vs p:=by
 obtain⟨w,ws',hw⟩:∃ w ws',ws.drop p.length=w::ws':=⟨_,_,List.drop_eq_getElem_cons hl⟩;obtain⟨v,vs',hv⟩:∃ v vs',vs.drop p.length=v::vs':=⟨_,_,List.drop_eq_getElem_cons (by omega)⟩;have hvs:∀ x∈v::vs',0<=x:=fun x hx=>hv0 x (List.mem_of_mem_drop (hv ▸ hx))
 have e:=Wp h;rw[hw,hv] at e;unfold WT;rw[h,e];simp only[hw];have h2:=QG h hw hv h0;unfold Z0;split
 ·rename_i hle
  have h1:=ZaL h hw hv hle;have n1:0<=Z0 (r-w) o ws' vs':=Yx ho fun x hx=>hvs x (by simp[hx])
  simp only[ZK,h1,h2];rw[if_pos (show (-1:Int)<0 by decide),if_neg (show ¬Z0 (r-w) o ws' vs'<0 by omega)]
 ·simp only[ZK,h2]
  rw[if_pos (show (-1:Int)<0 by decide)]
theorem ZaN {cap:Int}{ws vs p:List Int}(h0:0<=cap)(hw:∀ x∈ws,0<=x)(hv:∀ x∈vs,0<=x/\x<=2147483647)(hl:ws.length=vs.length)(hf:Falls ws vs)(he:(YH cap ws vs p).2=0) :
  0<=(YH cap ws vs p).1/\(YH cap ws vs p).1<=Xy cap ws vs p:=by
 unfold YH at he ⊢
 cases hs:stP cap 0 ws vs p with
 | none=>rw[hs] at he;simp at he
 | some q =>
  obtain⟨r,o⟩:=q;have h1:=(Ug hw h0 hs).1;have h2:=(Zaf hv hs).1;have hw':∀ x∈ws.drop p.length,0<=x:=fun x hx=>hw x (List.mem_of_mem_drop hx)
  have hv':∀ x∈vs.drop p.length,0<=x:=fun x hx=>(hv x (List.mem_of_mem_drop hx)).1
  rw[Wp hs];simp only;have h3:=VR h1 hw' hv';have h4:=QF (out:=o) h1 hw' hv' (by simp[hl]) hf.drop;exact⟨by omega,h4⟩
theorem Zc4 (cap:Int)(ws vs p:List Int) : (YH cap ws vs p).2=0\/((YH cap ws vs p).2=1/\stP cap 0 ws vs p=none):=by
 unfold YH
 cases hs:stP cap 0 ws vs p with
 | none=>exact .inr ⟨rfl,rfl⟩
 | some q=>exact .inl rfl
theorem Zen {cap:Int}{ws vs p:List Int}{r o:Int}(h:stP cap 0 ws vs p=some (r,o))(hl:p.length=ws.length)(hlv:ws.length=vs.length) : YH cap ws vs p=(o,0)/\Xy cap ws vs p=o:=by
 have d1:ws.drop p.length=[]:=List.drop_of_length_le (by omega);have d2:vs.drop p.length=[]:=List.drop_of_length_le (by omega);rw[Wp h];unfold YH;rw[h];simp[d1,d2,Zj,Zr,Z0]
end Go.Proofs.YtmojhhlcocjoaaaGreatDoor
namespace Go.Proofs.YtmojhhlcocjoaaaGreatDoor
open Go.RowKit Go.ChangeShapes Go.WideShapes Go.ChangeAt Go.Deep
def Small31 (xs:List Int) : Prop:=∀ x∈xs,0<=x/\x<=2147483647
theorem Small31.get {xs:List Int}(h:Small31 xs){k:Nat}{x:Int}(hk:xs[k]?=some x) : 0<=x/\x<=2147483647:=h x (List.mem_of_getElem? hk)
theorem Zc5 {n:Int}(h:XL n=0) : 0<=n/\n<=2147483647:=by
 unfold XL at h;split at h
 ·cases h
 ·split at h
  ·cases h
  ·omega
theorem VJ : ∀ {l:List Int},Yo l=0->∀ x∈l,0<=x/\x<=2147483647
 | [],_,x,hx=>by cases hx
 | y::l,h,x,hx=>by
  unfold Yo at h;split at h
  ·rename_i h0
   rcases List.mem_cons.1 hx with rfl | hx
   ·exact Zc5 h0
   ·exact VJ h x hx
  ·exact absurd h ‹_›
theorem Jt : ∀ {xs ys:List Int},xs.length=ys.length->(∀ x∈xs,x∈XN xs ys)/\(∀ y∈ys,y∈XN xs ys)
 | [],[],_=>by simp
 | x::xs,y::ys,h=>by
  obtain⟨h1,h2⟩:=Jt (xs:=xs) (ys:=ys) (by simpa using h);simp only[XN];refine⟨fun z hz=>?_,fun z hz=>?_⟩
  ·rcases List.mem_cons.1 hz with rfl | hz
   ·simp
   ·simp[h1 z hz]
  ·rcases List.mem_cons.1 hz with rfl | hz
   ·simp
   ·simp[h2 z hz]
 | [],_::_,h=>by simp at h
 | _::_,[],h=>by simp at h
structure KnapOk (i:InstP) : Prop where
 n1:1<=i.n
 n2:i.n<=64
 w:(i.weight.length:Int)=i.n
 v:(i.value.length:Int)=i.n
 cap:0<=i.cap/\i.cap<=2147483647
 sw:Small31 i.weight
 sv:Small31 i.value
 cost:i.cost=[]
theorem ZD {i:InstP}(h:Zf i=0)(hk:i.kind=1) : KnapOk i:=by
 unfold Zf at h
 by_cases hs:YR i.kind i.n=0
 ·rw[if_pos hs] at h
  by_cases hsh:XO i=true
  ·rw[if_pos hsh,if_pos hk] at h
   unfold XO at hsh;rw[if_pos hk] at hsh;simp only[Bool.and_eq_true,beq_iff_eq] at hsh;obtain⟨⟨h1,h2⟩,h3⟩:=hsh;unfold YR at hs;rw[if_pos hk] at hs;have hn:1<=i.n/\i.n<=64:=by
    split at hs
    ·cases hs
    ·split at hs
     ·cases hs
     ·omega
   have hl:i.weight.length=i.value.length:=by omega
   unfold ZO at h;rw[List.take_length,hl,List.take_length] at h;have hb:=VJ h;obtain⟨m1,m2⟩:=Jt hl;exact⟨hn.1,hn.2,h1,h2,hb _ (by simp),fun x hx=>hb x (by simp[m1 x hx]),fun x hx=>hb x (by simp[m2 x hx]),List.eq_nil_of_length_eq_zero (by omega)⟩
  ·rw[if_neg hsh] at h
   cases h
 ·rw[if_neg hs] at h
  exact absurd h hs
def BoxI (w:World)(g:Nat)(xs:List Int) : Prop:=∃ A c,Blk w g 22 #[.slice A xs.length c]/\RdI w A xs/\xs.length<=9223372036854775807
theorem BoxI.ext {w w':World}{g:Nat}{xs:List Int}(h:BoxI w g xs)(x:Ext w w') : BoxI w' g xs:=by
 obtain⟨A,c,h1,h2,h3⟩:=h;exact⟨A,c,h1.ext x,h2.ext x,h3⟩
theorem Zc6 (vs ws:List Int)(gv gw a b:Nat)(w:World)(hv:BoxI w gv vs)(hw:BoxI w gw ws)(sv:Small31 vs)(sw:Small31 ws)(ha:a<vs.length)(hb:b<vs.length)(ha':a<ws.length)(hb':b<ws.length) :
  Calls Tryz.prog 127 (#[.int .i64 a,.int .i64 b]++#[.pointer (some ⟨gw,0,none⟩),.pointer (some ⟨gv,0,none⟩)]) w fun e w'=>e=.returned (.bool (Yk vs ws a b))/\Ext w w':=by
 obtain⟨A,c,B1,rv,lv⟩:=hv;obtain⟨B,d,B2,rw',lw⟩:=hw;obtain⟨g1,o1,va,rfl,z1,c1,e1,_⟩:=rv.at ha;obtain⟨g1',o1',vb,h1',z1',c2,e2,_⟩:=rv.at hb;obtain⟨rfl,rfl⟩:g1=g1'/\o1=o1':=by injection h1' with h;injection h with h3 h4;exact⟨h3,h4⟩
 obtain⟨g2,o2,wa,rfl,z2,c3,e3,_⟩:=rw'.at ha';obtain⟨g2',o2',wb,h2',z2',c4,e4,_⟩:=rw'.at hb';obtain⟨rfl,rfl⟩:g2=g2'/\o2=o2':=by injection h2' with h;injection h with h3 h4;exact⟨h3,h4⟩
 have bva:=sv.get e1.out;have bvb:=sv.get e2.out;have bwa:=sw.get e3.out;have bwb:=sw.get e4.out;have HA:Hid (Yk vs ws a b=if wb=0 then false else if wa=0 then true else decide (vb*wa<va*wb)):=Hd (by
  unfold Yk;rw[getD_some e1.out,getD_some e2.out,getD_some e3.out,getD_some e4.out])
 have d1:=B1.c0;have d2:=B2.c0;have y1:=B1.lt;have y2:=B2.lt;clear h1' h2' rv rw' B1 B2 sv sw
 by_cases hwb:wb=0
 ·subst hwb
  have HR:Hid (Yk vs ws a b=false):=by
   have h:=HA.out;rw[if_pos rfl] at h;exact h
  go_enter Tryz.func127,Tryz.ntmps127;go_wp2;go_ret;exact⟨Jp HR.out.symm,Ext.rf _⟩
 ·have hwb':(wb==0)=false:=by simpa using hwb
  by_cases hwa:wa=0
  ·subst hwa
   have HR:Hid (Yk vs ws a b=true):=by
    have h:=HA.out;rw[if_neg hwb,if_pos rfl] at h;exact h
   clear hwb;go_enter Tryz.func127,Tryz.ntmps127;go_wp2;go_ret;exact⟨Jp HR.out.symm,Ext.rf _⟩
  ·have hwa':(wa==0)=false:=by simpa using hwa
   have HR:Hid (Yk vs ws a b=decide (0<VQ va wb vb wa)):=by
    have h:=HA.out;rw[if_neg hwb,if_neg hwa] at h;have h2:decide (vb*wa<va*wb)=decide (0<VQ va wb vb wa):=by
     rw[decide_eq_decide];exact(ZbJ bva.1 bwb.1 bvb.1 bwa.1).symm
    rw[h2] at h;exact h
   clear hwb hwa;go_enter Tryz.func127,Tryz.ntmps127;go_wp2_with (fail);go_region_held3 (fun w'=>w'.cell? ⟨gv,0,none⟩=some (.slice (some ⟨g1,o1,none⟩) vs.length c)/\w'.cell? ⟨gw,0,none⟩=some (.slice (some ⟨g2,o2,none⟩) ws.length d)/\w'.cell? ⟨g1,o1+a,none⟩=some (.int .i64 va)/\w'.cell? ⟨g1,o1+b,none⟩=some (.int .i64 vb)/\w'.cell? ⟨g2,o2+a,none⟩=some (.int .i64 wa)/\w'.cell? ⟨g2,o2+b,none⟩=some (.int .i64 wb)) (go_keep)
    (first
     | (go_at_call 128;refine(Zc2 va wb vb wa _ bva bwb bvb bwa).mono ?_;rintro e w2 ⟨rfl,x2⟩;have X2:=Ext.tr (a:=w) (by(repeat (first | assumption | exact Ext.rf _ | apply Ext.drew | apply Ext.drewN | apply Ext.alloc))) x2;have k1:=Zh X2 y1 d1;have k2:=Zh X2 y2 d2;have k3:=Zh X2 z1 c1;have k4:=Zh X2 z1 c2;have k5:=Zh X2 z2 c3;have k6:=Zh X2 z2 c4))
   all_goals go_wp2
   all_goals go_ret
   all_goals exact⟨Jp HR.out.symm,by(repeat (first | assumption | exact Ext.rf _ | apply Ext.drew | apply Ext.drewN | apply Ext.alloc))⟩
theorem Zah : ∀ args w,(callFunc 127 args).run Tryz.prog w=.ok (.enter 127 args) w:=enters_of Tryz.func127 (by kernel_rfl) rfl
def nl (l:List Nat) : List Int:=l.map fun n:Nat=>(n:Int)
theorem ZL (l:List Nat) : (nl l).length=l.length:=by simp[nl]
theorem ZfV {l:List Nat}{k n:Nat}(h:l[k]?=some n) : (nl l)[k]?=some (n:Int):=by simp[nl,h]
theorem Zai (a b:List Nat) : nl (a++b)=nl a++nl b:=by simp[nl]
def YT (n k:Nat) : List Int:=(List.range n).map fun i=>if i<k then(i:Int) else 0
theorem ZbL (n k:Nat) : (YT n k).length=n:=by simp[YT]
theorem ZaO (n:Nat) : YT n 0=List.replicate n 0:=by
 simp[YT,List.map_const']
theorem ZaP (n k:Nat) : YT n (k+1)=(YT n k).set k k:=by
 refine List.ext_getElem (by simp[YT]) fun i h1 h2=>?_
 rw[List.getElem_set];simp only[YT,List.getElem_map,List.getElem_range]
 by_cases h:k=i
 ·subst h;simp
 ·rw[if_neg h]
  by_cases h3:i<k
  ·rw[if_pos h3,if_pos (by omega)]
  ·rw[if_neg h3,if_neg (by omega)]
theorem ZaQ (n:Nat) : YT n n=nl (List.range n):=by
 refine List.ext_getElem (by simp[YT,nl]) fun i h1 h2=>?_
 simp only[YT,nl,List.getElem_map,List.getElem_range];rw[if_pos (by simpa [YT] using h1)]
def Zeo (l:List Int)(base:Nat)(w:World)(e:Ending)(w':World) : Prop:=∃ A c,e=.returned (.slice A l.length c)/\OwI w' base A c l/\Ext w w'
theorem Zc7 (n:Nat)(w:World)(hn:n<=1000000000) : Calls Tryz.prog 126 #[.int .i64 n] w (Zeo (nl (List.range n)) w.heap.size w):=by
 go_enter Tryz.func126,Tryz.ntmps126;go_wp2_with (at_make;refine Xd _ rfl _ _ rfl w.heap.size _ _ n rfl rfl rfl rfl (by omega) (Nat.le_refl _) ?_;rintro w1 hown hg);have X1:=Hd ((Ext.rf w).grownNone hg);replace hown:=Hd hown;clear hg;go_loopw [9] (fun i wr=>∃ k:Nat,i=.int .i64 k/\k<=n/\Hid (OwI wr w.heap.size (some ⟨w.heap.size,0,none⟩) n (YT n k))/\Ext w wr) (fun i _=>n-(intOf i).toNat)
 case atStart=>exact⟨0,rfl,by omega,by rw[ZaO];exact hown,X1.out⟩
 case round =>
  obtain⟨k,rfl,hk,HO,Y⟩:=hrel
  by_cases hlt:k<n
  ·obtain⟨x,hc,hf,hb,hx,hs⟩:=HO.out.cell (k:=k) (by rw[ZbL];exact hlt)
   have HS:Hid (OwI (wr.setCell ⟨w.heap.size,k,none⟩ (.int .i64 k)) w.heap.size (some ⟨w.heap.size,0,none⟩) n (YT n (k+1))):=by
    have h:=hs.out k;rw[<-ZaP] at h;exact h
   have Y2:=Hd (Y.setNew (p:=⟨w.heap.size,k,none⟩) (Nat.le_refl _) (.int .i64 k));clear hx hs;go_wp2;go_roundw
   case rel=>exact⟨k+1,by go_num,by omega,HS,Y2.out⟩
   case measure=>simp[intOf];omega
  ·obtain rfl:k=n:=by omega
   go_wp2;go_ret;refine⟨some ⟨w.heap.size,0,none⟩,k,?_,?_,Y⟩
   ·rw[ZL,List.length_range]
    rfl
   ·rw[<-ZaQ]
    exact HO.out
end Go.Proofs.YtmojhhlcocjoaaaGreatDoor
